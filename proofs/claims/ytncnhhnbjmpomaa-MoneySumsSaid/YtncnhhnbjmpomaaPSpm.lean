/- money.Split: the sort's permutation; parts raised by one; a store into a row of one's own. -/
import Derived.Test.YtncnhhnbjmpomaaPSpl
import Derived.Sort.LotA
namespace Go.Proofs.Ytncnhhnbjmpomaa
open Go.RowKit Go.Proofs.Ytncnhhnbjmpomaa.Q Go.Sort
set_option linter.unusedVariables false
set_option linter.unusedSimpArgs false
theorem lt98 (x y : S98) : ltOf cf98 x y = decide (y.f1 < x.f1) := by
  unfold ltOf cf98 cmpI
  by_cases h : y.f1 < x.f1
  · simp [h]
  · rw [if_neg h]; simp [h]; split <;> omega
theorem swo98 : SWO (ltOf cf98) := ⟨fun x => by simp [lt98], fun x y z h1 h2 => by simp [lt98] at *; omega, fun x y z h1 h2 => by simp [lt98] at *; omega⟩
theorem srt_perm (d : Array S98) : (srt d).toList.Perm d.toList ∧ (srt d).size = d.size := by
  have h := (insertionSort_holds (lt := ltOf cf98) swo98 d 0 d.size (Nat.zero_le _) (Nat.le_refl _)).1
  refine ⟨?_, h.1⟩
  have h2 := h.2.2
  have e2 : ∀ z : Array S98, z.size = d.size → z.extract 0 d.size = z := fun z hz => by rw [← hz]; simp
  rw [e2 d rfl, e2 _ h.1] at h2
  exact h2
theorem rests_idx (t all : Int) : ∀ (l : List Int) (i : Nat), ∀ r ∈ restsF t all i l, (i : Int) ≤ r.f0 ∧ r.f0 < ((i + l.length : Nat) : Int)
  | [], i, r, h => by simp [restsF] at h
  | w :: l, i, r, h => by
    simp only [restsF, List.mem_cons] at h
    rcases h with rfl | h
    · simp; omega
    · have := rests_idx t all l (i + 1) r h
      simp at this ⊢; omega
theorem sum_set : ∀ (l : List Int) (i : Nat) (v : Int), i < l.length → (l.set i v).sum = l.sum - l.getD i 0 + v
  | [], i, v, h => by simp at h
  | x :: l, 0, v, h => by simp; omega
  | x :: l, i + 1, v, h => by
    have := sum_set l i v (by simpa using h)
    simp only [List.set_cons_succ, List.sum_cons, List.getD_cons_succ, this]; omega
theorem bump_facts : ∀ (l : List S98) (qs : List Int), (∀ x ∈ qs, 0 ≤ x) → (∀ r ∈ l, 0 ≤ r.f0 ∧ r.f0.toNat < qs.length) → (∀ x ∈ bump qs l, 0 ≤ x) ∧ (bump qs l).sum = qs.sum + l.length
  | [], qs, h0, _ => ⟨h0, by simp [bump]⟩
  | r :: l, qs, h0, hv => by
    have hr := hv r (by simp)
    have hg : 0 ≤ qs.getD r.f0.toNat 0 := by
      rw [List.getD_eq_getElem?_getD, List.getElem?_eq_getElem hr.2]; exact h0 _ (List.getElem_mem hr.2)
    have h1 : ∀ x ∈ qs.set r.f0.toNat (qs.getD r.f0.toNat 0 + 1), 0 ≤ x := by
      intro x hx
      rcases List.mem_or_eq_of_mem_set hx with h | rfl
      · exact h0 x h
      · omega
    have h2 := bump_facts l _ h1 (fun q hq => by rw [List.length_set]; exact hv q (by simp [hq]))
    simp only [bump]
    refine ⟨h2.1, ?_⟩
    rw [h2.2, sum_set _ _ _ hr.2]
    simp; omega
def li (x : Int) : List Value := [.int .i64 x]
theorem flat_li : ∀ xs : List Int, xs.flatMap li = xs.map (Value.int .i64)
  | [] => rfl
  | x :: xs => by simp [li, flat_li xs]
theorem own_set {w : World} {base g n c : Nat} {xs : List Int} (h : Kq.Own li 1 2 w base (.slice (some ⟨g, 0, none⟩) n c) xs) (i : Nat) (hi : i < xs.length) (v : Int) :
    Kq.Own li 1 2 (w.setCell ⟨g, i, none⟩ (.int .i64 v)) base (.slice (some ⟨g, 0, none⟩) n c) (xs.set i v) := by
  rcases h.2 with ⟨h2, _⟩ | ⟨g', cap', cur, e, hg, hh, hn, hm, hcs, hcur⟩
  · cases h2
  · injection e with e1 e2 e3
    injection e1 with e1
    injection e1 with e1 _ _
    subst e1 e2 e3
    refine ⟨by rw [flat_li]; simp, .inr ⟨g, c, cur.setIfInBounds i (.int .i64 v), by simp, hg, ?_, by simpa using hn, hm, by simpa using hcs, ?_⟩⟩
    · simp only [World.setCell, Array.getElem?_modify, if_true, hh]
      rfl
    · rw [flat_li] at hcur ⊢
      rw [List.map_set, ← hcur]
      simp [List.take_set]
theorem own_cell {w : World} {base g n c : Nat} {xs : List Int} (h : Kq.Own li 1 2 w base (.slice (some ⟨g, 0, none⟩) n c) xs) (i : Nat) (hi : i < xs.length) :
    w.cell? ⟨g, i, none⟩ = some (.int .i64 xs[i]) ∧ w.frozen? ⟨g, i, none⟩ = false := by
  rcases h.2 with ⟨h2, _⟩ | ⟨g', cap', cur, e, hg, hh, hn, hm, hcs, hcur⟩
  · cases h2
  · injection e with e1 e2 e3
    injection e1 with e1
    injection e1 with e1 _ _
    subst e1 e2 e3
    constructor
    · have hu : (li xs[i])[0]? = some (.int .i64 xs[i]) := rfl
      have := Kp.flat_get (l := li) (sz := 1) (fun _ => rfl) hu xs i (List.getElem?_eq_getElem hi)
      rw [← hcur, List.getElem?_take] at this
      simp only [Nat.mul_one, Nat.add_zero] at this
      rw [if_pos hi] at this
      simp only [World.cell?, hh, Option.isSome_none, Bool.false_eq_true, if_false]
      rw [← Array.getElem?_toList]; exact this
    · simp [World.frozen?, hh]
theorem own_cell98 {w : World} {base g n c : Nat} {xs : List S98} (h : Kq.Own e98 2 98 w base (.slice (some ⟨g, 0, none⟩) n c) xs) (i : Nat) (hi : i < xs.length) :
    w.cell? ⟨g, i * 2, none⟩ = some (.int .i64 xs[i].f0) ∧ w.cell? ⟨g, i * 2 + 1, none⟩ = some (.int .u64 xs[i].f1) := by
  rcases h.2 with ⟨h2, _⟩ | ⟨g', cap', cur, e, hg, hh, hn, hm, hcs, hcur⟩
  · cases h2
  · injection e with e1 e2 e3
    injection e1 with e1
    injection e1 with e1 _ _
    subst e1 e2 e3
    have key : ∀ j (hj : j < 2) (u : Value), (e98 xs[i])[j]? = some u → w.cell? ⟨g, i * 2 + j, none⟩ = some u := by
      intro j hj u hu
      have := Kp.flat_get (l := e98) (sz := 2) (fun _ => rfl) hu xs i (List.getElem?_eq_getElem hi)
      rw [← hcur, List.getElem?_take, if_pos (by omega)] at this
      simp only [World.cell?, hh, Option.isSome_none, Bool.false_eq_true, if_false]
      rw [← Array.getElem?_toList]; exact this
    exact ⟨key 0 (by omega) _ rfl, key 1 (by omega) _ rfl⟩
end Go.Proofs.Ytncnhhnbjmpomaa
