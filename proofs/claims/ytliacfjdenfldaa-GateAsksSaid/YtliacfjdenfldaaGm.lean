import Derived.Test.YtliacfjdenfldaaGk
import Derived.Deep.RegionLaw
import Derived.Lib.SliceRun
import Derived.Lib.SlicesDelete
/- slices.Delete of one reply of a row of the call's own. -/
namespace Go.Proofs.Ytliacfjdenfldaa
open Go.RowKit Go.Proofs.Kq
open Go.Proofs.YtliacfjdenfldaaW.PrintWords (pw_cell_below step_append_cells print_append_cells Kd Kd.C Kd.C_below)
open Go.Proofs.YtliacfjdenfldaaW.PrintLast
open Go.Lib (lay lay_get? lay_size)
set_option linter.unusedSimpArgs false
set_option linter.unusedVariables false

theorem Blk.sets {T b : Nat} : ∀ (vs : List Value) (o : Nat) (w : World) (cs : Array Value), Blk w b cs T → Blk (w.setCells b o vs) b (lay cs o vs) T
  | [], _, _, _, h => h
  | v :: r, o, w, cs, h => Blk.sets r (o + 1) _ _ (h.st o v)
theorem Fr.sets {S : Nat → Prop} {b : Nat} {w0 : World} (hb : b < w0.heap.size → S b) : ∀ (vs : List Value) (o : Nat) (w : World), Fr S w0 w → Fr S w0 (w.setCells b o vs)
  | [], _, _, h => h
  | v :: r, o, w, h => Fr.sets hb r (o + 1) _ (h.setCell (p := ⟨b, o, none⟩) hb v)
theorem flat_take {α : Type} {l : α → List Value} {sz : Nat} (hl : ∀ x, (l x).length = sz) : ∀ (xs : List α) (i : Nat), (xs.take i).flatMap l = (xs.flatMap l).take (i * sz)
  | [], i => by simp
  | x :: xs, 0 => by simp
  | x :: xs, i + 1 => by
    simp only [List.take_succ_cons, List.flatMap_cons, flat_take hl xs i]
    have h1 : (l x).take ((i + 1) * sz) = l x := List.take_of_length_le (by rw [hl, Nat.succ_mul]; omega)
    have h2 : (i + 1) * sz - sz = i * sz := by rw [Nat.succ_mul]; omega
    rw [List.take_append, hl, h1, h2]
theorem flat_drop {α : Type} {l : α → List Value} {sz : Nat} (hl : ∀ x, (l x).length = sz) : ∀ (xs : List α) (i : Nat), (xs.drop i).flatMap l = (xs.flatMap l).drop (i * sz)
  | [], i => by simp
  | x :: xs, 0 => by simp
  | x :: xs, i + 1 => by
    simp only [List.drop_succ_cons, List.flatMap_cons, flat_drop hl xs i]
    have h1 : (l x).drop ((i + 1) * sz) = [] := List.drop_of_length_le (by rw [hl, Nat.succ_mul]; omega)
    have h2 : (i + 1) * sz - sz = i * sz := by rw [Nat.succ_mul]; omega
    rw [List.drop_append, hl, h1, h2, List.nil_append]

theorem run_clear102 (w : World) (ty : TypeId) (b o c : Nat) (hc : ∀ j, j < 3 → (w.cell? ⟨b, o + j, none⟩).isSome = true) (hf : ∀ j, j < 3 → w.frozen? ⟨b, o + j, none⟩ = false) :
    (Builtin.clear_ #[88] ty #[.slice (some ⟨b, o, none⟩) 1 c]).run Try.prog w = .ok (.tuple #[]) (w.setCells b o [.string ⟨#[]⟩, .string ⟨#[]⟩, .int .i64 0]) := by
  obtain ⟨i0, hi, hz0, hz1, hz2⟩ := info_parts info102
  have hst := run_storeCells_cells (P := Try.prog) b o [.string ⟨#[]⟩, .string ⟨#[]⟩, .int .i64 0] 0 w (by simpa using hc) (by simpa using hf) (by intro v hv; simp at hv; rcases hv with rfl | rfl | rfl <;> rfl)
  simp only [Nat.add_zero] at hst
  have hzc : (Builtin.zeroCells (Value.cells (.agg #[(.string ⟨#[]⟩), (.string ⟨#[]⟩), (.int .i64 0)])) 1).toList = [.string ⟨#[]⟩, .string ⟨#[]⟩, .int .i64 0] := by kernel_rfl
  simp [Builtin.clear_, run_underlying Try.underlying88, zeroValue, typeInfo, hi, hz0, hzc, hst]

theorem lay_size' {α : Type} : ∀ (xs : List α) (d : Array α) (k : Nat), (lay d k xs).size = d.size := Lib.lay_size
/-- what the row holds -/
theorem del_row {xs : List A102} {cur : Array Value} {cap i : Nat} (hsz : cur.size = cap * 3) (hcap : xs.length ≤ cap) (hcur : cur.toList.take (xs.length * 3) = xs.flatMap A102.l) (hi : i < xs.length) (z : List Value) (hz : z.length = 3) :
    (lay (lay cur (i * 3) ((xs.drop (i + 1)).flatMap A102.l)) ((xs.length - 1) * 3) z).toList.take ((xs.length - 1) * 3) = (xs.take i ++ xs.drop (i + 1)).flatMap A102.l := by
  have hl : ∀ x, (A102.l x).length = 3 := fun _ => rfl
  have e1 := flat_take hl xs i
  have e2 := flat_drop hl xs (i + 1)
  have hfl := flat_len hl xs
  rw [List.flatMap_append, e1, e2]
  rw [← hcur]
  apply List.ext_getElem?
  intro t
  have l2 : (List.drop ((i + 1) * 3) (cur.toList.take (xs.length * 3))).length = (xs.length - 1 - i) * 3 := by simp; omega
  have l1 : (List.take (i * 3) (cur.toList.take (xs.length * 3))).length = i * 3 := by simp; omega
  rw [List.getElem?_take]
  by_cases ht : t < (xs.length - 1) * 3
  · rw [if_pos ht, Array.getElem?_toList, lay_get? _ _ _ _ (by rw [lay_size']; omega), if_neg (by omega), lay_get? _ _ _ _ (by omega)]
    by_cases h1 : t < i * 3
    · rw [if_neg (by omega), List.getElem?_append_left (by omega), List.getElem?_take, if_pos h1, List.getElem?_take, if_pos (by omega), Array.getElem?_toList]
    · rw [if_pos (by omega), List.getElem?_append_right (by omega), l1]
  · rw [if_neg ht, List.getElem?_eq_none (by rw [List.length_append]; omega)]


set_option maxRecDepth 100000 in
set_option maxHeartbeats 4000000 in
theorem delete94 (b cap i : Nat) (xs : List A102) (cur : Array Value) (w : World) (hB : Blk w b cur 102) (hcap : xs.length ≤ cap) (hm : cap ≤ 9223372036854775807) (hsz : cur.size = cap * 3) (hcur : cur.toList.take (xs.length * 3) = xs.flatMap A102.l) (hi : i < xs.length) :
    Calls Try.prog 94 #[.slice (some ⟨b, 0, none⟩) xs.length cap, .int .i64 i, .int .i64 ((i : Int) + 1)] w fun e w' => e = .returned (.slice (some ⟨b, 0, none⟩) (xs.length - 1) cap) ∧ w' = (w.drew.setCells b (i * 3) ((xs.drop (i + 1)).flatMap A102.l)).setCells b ((xs.length - 1) * 3) [.string ⟨#[]⟩, .string ⟨#[]⟩, .int .i64 0] := by
  obtain ⟨i0, hi0, hz0, hz1, hz2⟩ := info_parts info102
  obtain ⟨news, hnews⟩ : ∃ news, news = (xs.drop (i + 1)).flatMap A102.l := ⟨_, rfl⟩
  have hlen : news.length = (xs.length - (i + 1)) * 3 := by rw [hnews, flat_len (l := A102.l) (sz := 3) (fun _ => rfl)]; simp
  have hcell : ∀ o, o < cap * 3 → ∃ u, w.drew.cell? ⟨b, o, none⟩ = some u := fun o ho => ⟨cur[o]'(by omega), by rw [Blk.c (hB.dr) o]; exact Array.getElem?_eq_getElem (by omega)⟩
  obtain ⟨A, hA, hsrc⟩ : ∃ A : Addr, (if cap = i + 1 then some (⟨b, 0, none⟩ : Addr) else some ⟨b, (i + 1) * 3, none⟩) = some A ∧ Hid (∀ t u, news[t]? = some u → w.drew.cell? (A.add t) = some u) := by
    by_cases h : cap = i + 1
    · refine ⟨⟨b, 0, none⟩, by simp [h], fun t u hu => ?_⟩
      have h0 : news.length = 0 := by rw [hlen]; omega
      rw [List.length_eq_zero_iff.1 h0] at hu
      simp at hu
    · refine ⟨⟨b, (i + 1) * 3, none⟩, by simp [h], fun t u hu => ?_⟩
      rw [Kp.add_plain', Blk.c (hB.dr)]
      rw [hnews, flat_drop (l := A102.l) (sz := 3) (fun _ => rfl), ← hcur, List.getElem?_drop, List.getElem?_take] at hu
      split at hu
      · rw [← Array.getElem?_toList]; exact hu
      · cases hu
  have s1 : Hid (news.length = (xs.length - (i + 1)) * 3) := hlen
  have s2 : Hid (∀ u ∈ news, u.oneCell' = true) := by show ∀ _, _; rw [hnews]; exact flat_one d102_one _
  have s3 : Hid (∀ t, t < news.length → (w.drew.cell? ⟨b, 0 + i * 3 + t, none⟩).isSome = true ∧ w.drew.frozen? ⟨b, 0 + i * 3 + t, none⟩ = false) := by
    intro t ht
    rw [hlen] at ht
    obtain ⟨u, hu⟩ := hcell (0 + i * 3 + t) (by omega)
    exact ⟨by rw [hu]; rfl, Blk.f (hB.dr) _⟩
  obtain ⟨W1, hW1⟩ : ∃ W1, W1 = w.drew.setCells b (0 + i * 3) news := ⟨_, rfl⟩
  have hB1 : Blk W1 b (lay cur (0 + i * 3) news) 102 := by rw [hW1]; exact Blk.sets _ _ _ _ hB.dr
  have hcl : ∀ ty, (Builtin.clear_ #[88] ty #[.slice (some ⟨b, (xs.length - 1) * 3, none⟩) 1 (cap - (xs.length - 1))]).run Try.prog W1 = .ok (.tuple #[]) (W1.setCells b ((xs.length - 1) * 3) [.string ⟨#[]⟩, .string ⟨#[]⟩, .int .i64 0]) :=
    fun ty => run_clear102 W1 ty b _ _ (fun t ht => by rw [hB1.c, Array.getElem?_eq_getElem (by rw [lay_size']; omega)]; rfl) (fun t ht => hB1.f _)
  have hW : Hid (W1 = w.drew.setCells b (0 + i * 3) news) := hW1
  have HN := hidI hnews
  have hic : i ≤ cap := by omega
  have hjc : i + 1 ≤ cap := by omega
  have e1 : xs.length - 1 = i + (xs.length - (i + 1)) := by omega
  have e2 : cap ≠ xs.length - 1 := by omega
  have e3 : xs.length - (xs.length - 1) = 1 := by omega
  have E1 := hidI e1
  have hb1 : 0 ≤ (i : Int) + 1 := by omega
  have hb2 : (i : Int) + 1 ≤ xs.length := by omega
  clear hW1 hB1 hcell hlen hnews hB hsz hcur e1
  go_enter Try.func94, Try.ntmps94
  go_wp2_with fail
  go_region_law (refine step_append_room rfl (.tmp 22) (.tmp 25) 88 rfl 102 i0 3 Try.underlying88 hi0 hz1 b 0 i cap (by simp [Act.eval, Act.put]) A (xs.length - (i + 1)) (cap - (i + 1)) news (by simp [Act.eval, Act.put, hA]) s1.out hsrc.out s2.out (by omega) s3.out ?_; rw [← hW.out])
  rw [← E1.out]
  go_wp2
  go_ret
  exact ⟨rfl, by rw [hW.out, HN.out, Nat.zero_add]⟩

theorem del_own {w : World} {base b n cap i : Nat} {xs : List A102} (h : Own A102.l 3 102 w base (.slice (some ⟨b, 0, none⟩) n cap) xs) (hn : n = xs.length) (hi : i < xs.length) :
    ∃ cur, Blk w b cur 102 ∧ xs.length ≤ cap ∧ cap ≤ 9223372036854775807 ∧ cur.size = cap * 3 ∧ cur.toList.take (xs.length * 3) = xs.flatMap A102.l ∧
      Own A102.l 3 102 ((w.drew.setCells b (i * 3) ((xs.drop (i + 1)).flatMap A102.l)).setCells b ((xs.length - 1) * 3) [.string ⟨#[]⟩, .string ⟨#[]⟩, .int .i64 0]) base (.slice (some ⟨b, 0, none⟩) (xs.length - 1) cap) (xs.take i ++ xs.drop (i + 1)) := by
  rcases h.2 with ⟨h1, _⟩ | ⟨g, cap', cur, h1, hg, hh, hnc, hm, hcs, hcur⟩
  · cases h1
  · injection h1 with h1 h2 h3
    injection h1 with h1
    injection h1 with h1
    subst h1 h3
    refine ⟨cur, hh, hnc, hm, hcs, hcur, ?_⟩
    have hlen : (xs.take i ++ xs.drop (i + 1)).length = xs.length - 1 := by simp; omega
    unfold Own
    rw [hlen]
    refine ⟨by rw [flat_len (l := A102.l) (sz := 3) (fun _ => rfl), hlen], .inr ⟨b, cap, _, rfl, hg, Blk.sets _ _ _ _ (Blk.sets _ _ _ _ (Blk.dr hh)), by omega, hm, by rw [lay_size', lay_size', hcs], ?_⟩⟩
    exact del_row hcs hnc hcur hi _ rfl


def z102 : A102 := ⟨⟨#[]⟩, ⟨#[]⟩, 0⟩
def lX (n : Int) (late : List A102) : A102 := if 0 ≤ n ∧ n < late.length then late.getD n.toNat z102 else z102
def lIs (n : Int) (late : List A102) : Bool := decide (0 ≤ n) && decide (n < late.length)
def lLate (n : Int) (late : List A102) : List A102 := if 0 ≤ n ∧ n < late.length then late.take n.toNat ++ late.drop (n.toNat + 1) else late
def LateP (base g : Nat) (vr vl : Value) (n : Int) (recs : List A98) (late : List A102) (w : World) (e : Ending) (w' : World) : Prop :=
  e = .returned (.tuple #[.agg #[.string (lX n late).f0, .string (lX n late).f1, .int .i64 (lX n late).f2], .bool (lIs n late)]) ∧
    ∃ vl', Gt w' base g vr vl' recs (lLate n late) ∧ Fr (fun k => k = g) w w' ∧ (∀ k, vl'.ownBlock = some k → vl.ownBlock = some k ∨ w.heap.size ≤ k)
theorem res67 {wf : World} {rb : Nat} {x y z : Value} {v : Value} {t : Array Value} (h : Blk wf rb #[x, y, z] 102) (hx : x.oneCell' = true) (hy : y.oneCell' = true) (hz : z.oneCell' = true) (h4 : t[4]? = some (.pointer (some ⟨rb, 0, none⟩))) (h5 : t[5]? = some v) : (results Try.f67 t).run Try.prog wf = .ok (.tuple #[.agg #[x, y, z], v]) wf := by
  have c := h.c; have l := h.lt
  simp [results, Try.results67, go_sem, c, l, h4, h5]

set_option maxRecDepth 100000 in
set_option maxHeartbeats 4000000 in
theorem late_no (base g : Nat) (vr vl : Value) (n : Int) (recs : List A98) (late : List A102) (w : World) (hG : Gt w base g vr vl recs late) (hn : ¬ (0 ≤ n ∧ n < late.length)) :
    Calls Try.prog 67 #[.pointer (some ⟨g, 0, none⟩), .int .i64 n] w (LateP base g vr vl n recs late w) := by
  have hend : Hid (∀ w', Below w.heap.size w w' → LateP base g vr vl n recs late w (.returned (.tuple #[.agg #[.string ⟨#[]⟩, .string ⟨#[]⟩, .int .i64 0], .bool false])) w') := by
    intro w' hb
    have e2 : lIs n late = false := by
      simp only [lIs, Bool.and_eq_false_iff, decide_eq_false_iff_not]
      by_cases h : 0 ≤ n
      · exact Or.inr (fun h2 => hn ⟨h, h2⟩)
      · exact Or.inl h
    refine ⟨by rw [e2]; simp only [lX, if_neg hn]; rfl, vl, by simp only [lLate, if_neg hn]; exact hG.below hb, Fr.of_below hb, fun k hk => Or.inl hk⟩
  obtain ⟨A, c, rfl, _, hC⟩ := own102 hG.lat
  have c0 := hG.blk.c; have l0 := hG.blk.lt
  clear hG hC
  by_cases h0 : n < 0
  · have t1 : decide (n < 0) = true := by simpa using h0
    clear hn
    go_enter Try.func67, Try.ntmps67
    go_wp2
    refine bodyPost_ret (v := .tuple #[.agg #[.string ⟨#[]⟩, .string ⟨#[]⟩, .int .i64 0], .bool false]) (res67 (Blk.new' rfl) rfl rfl rfl rfl rfl) rfl ?_
    exact hend.out _ (by repeat (first | exact Below.refl _ _ | apply below_new))
  · have t1 : decide (n < 0) = false := by simpa using h0
    have t2 : decide (n ≥ late.length) = true := by simp; omega
    clear hn h0
    go_enter Try.func67, Try.ntmps67
    go_wp2
    refine bodyPost_ret (v := .tuple #[.agg #[.string ⟨#[]⟩, .string ⟨#[]⟩, .int .i64 0], .bool false]) (res67 (Blk.new' rfl) rfl rfl rfl rfl rfl) rfl ?_
    exact hend.out _ (by repeat (first | exact Below.refl _ _ | apply below_new))

theorem own_nil {w : World} {base : Nat} {A : Option Addr} {c : Nat} {xs : List A102} (h : Own A102.l 3 102 w base (.slice A xs.length c) xs) : A = none → xs.length = 0 ∧ c = 0 := by
  intro e
  subst e
  rcases h.cases_ with ⟨h1, rfl⟩ | ⟨b, c', h1, _⟩
  · injection h1 with _ _ h2; exact ⟨rfl, h2⟩
  · injection h1 with h2; cases h2
set_option maxRecDepth 100000 in
set_option maxHeartbeats 4000000 in
theorem late_yes (base g : Nat) (vr vl : Value) (k : Nat) (recs : List A98) (late : List A102) (w : World) (hG : Gt w base g vr vl recs late) (hb : base ≤ w.heap.size) (hk : k < late.length) (hl : late.length ≤ 100000) :
    Calls Try.prog 67 #[.pointer (some ⟨g, 0, none⟩), .int .i64 k] w (LateP base g vr vl k recs late w) := by
  obtain ⟨x, hxe⟩ : ∃ x, x = late[k] := ⟨_, rfl⟩
  have hend : Hid (∀ vl' w', Gt w' base g vr vl' recs (late.take k ++ late.drop (k + 1)) → Fr (fun k => k = g) w w' → (∀ k, vl'.ownBlock = some k → vl.ownBlock = some k ∨ w.heap.size ≤ k) → LateP base g vr vl k recs late w (.returned (.tuple #[.agg #[.string x.f0, .string x.f1, .int .i64 x.f2], .bool true])) w') := by
    intro vl' w' h1 h2 h3
    have hn : (0 : Int) ≤ k ∧ (k : Int) < late.length := by omega
    have e1 : lX k late = x := by simp only [lX, if_pos hn, hxe]; simp [List.getElem?_eq_getElem hk]
    have e2 : lIs k late = true := by simp [lIs]; omega
    have e3 : lLate k late = late.take k ++ late.drop (k + 1) := by simp only [lLate, if_pos hn]; simp
    exact ⟨by rw [e1, e2], vl', by rw [e3]; exact h1, h2, h3⟩
  obtain ⟨b0, c, rfl⟩ : ∃ b0 c, vl = .slice (some ⟨b0, 0, none⟩) late.length c := by
    rcases hG.lat.cases_ with ⟨_, h⟩ | ⟨b, c, h, _⟩
    · subst h; simp at hk
    · exact ⟨b, c, h⟩
  have q0 : w.cell? ⟨b0, k * 3, none⟩ = some (.string late[k].f0) := own102_at hG.lat k hk 0 _ rfl
  have q1 := own102_at hG.lat k hk 1 _ rfl
  have q2 := own102_at hG.lat k hk 2 _ rfl
  rw [← hxe] at q0 q1 q2
  have lb0 : b0 < w.heap.size := hG.lat.lt rfl
  have hC : Kd.C d102 w (some ⟨b0, 0, none⟩) late.length late := by
    obtain ⟨A, c', hv, _, h⟩ := own102 hG.lat
    obtain rfl : (some ⟨b0, 0, none⟩ : Option Addr) = A := by injection hv
    exact h
  have HN := hidI (own_nil hG.lat)
  have c0 := hG.blk.c; have l0 := hG.blk.lt; have f0 := hG.blk.f
  have HG := hidI hG
  have t1 : decide ((k : Int) < 0) = false := by simp
  have t2 : decide ((k : Int) ≥ late.length) = false := by simp; omega
  have HC := hidI hC
  have HK := hidI hk
  clear hG hC hxe
  go_enter Try.func67, Try.ntmps67
  go_wp2_with fail
  clear q0 q1 q2
  refine (clone102 late _ c _ HN.out (Kd.C_below HC.out (below_new (below_new (Below.refl _ _) _) _)) (by omega)).mono ?_
  rintro e w3 ⟨v3, rfl, hO3, hb3⟩
  obtain ⟨b3, c3, rfl⟩ : ∃ b3 c3, v3 = .slice (some ⟨b3, 0, none⟩) late.length c3 := by
    rcases hO3.cases_ with ⟨_, h⟩ | ⟨b, c, h, _⟩
    · have := HK.out; subst h; simp at this
    · exact ⟨b, c, h⟩
  have hge3 : w.heap.size + 2 ≤ b3 := by have := hO3.ge rfl; simpa using this
  have hF3 : Fr (fun k => k = g) w w3 := ((((Fr.refl _ w).alloc _).alloc _).below hb3)
  have BX := Blk.be (w := w3) (b := w.heap.size + 1) (by repeat (first | (apply Blk.new'; (simp; done)) | apply Blk.al)) hb3
  have BR := Blk.be (w := w3) (b := w.heap.size) (by repeat (first | (apply Blk.new'; (simp; done)) | apply Blk.al)) hb3
  have hG3 := ((HG.out.alloc (.cells #[.string ⟨#[]⟩, .string ⟨#[]⟩, .int .i64 0] 102)).alloc (.cells #[.string x.f0, .string x.f1, .int .i64 x.f2] 102)).below hb3
  obtain ⟨cur, hBb, h1, h2, h3, h4, hO4⟩ := del_own hO3 rfl hk
  simp only []
  clear c0 f0
  go_wp2_with fail
  refine (delete94 b3 c3 k late cur _ hBb h1 h2 h3 h4 hk).mono ?_
  rintro e w4 ⟨rfl, hw4⟩
  rw [← hw4] at hO4
  have hF4 : Fr (fun j => j = b3) w3 w4 := by rw [hw4]; exact Fr.sets (S := fun j => j = b3) (fun _ => rfl) _ _ _ (Fr.sets (S := fun j => j = b3) (fun _ => rfl) _ _ _ (Fr.refl _ _).drew)
  clear hw4 hBb h3 h4
  have BX4 : Blk w4 _ _ _ := hF4.blk BX (by omega)
  have BR4 : Blk w4 _ _ _ := hF4.blk BR (by omega)
  have BG4 : Blk w4 _ _ _ := hF4.blk hG3.blk (by omega)
  have hR4 := hG3.rec_.fr hF4 (fun j hj e => by have := HG.out.rec_.lt hj; omega)
  have hF5 : Fr (fun k => k = g) w (w4.setCell ⟨g, 1, none⟩ (.slice (some ⟨b3, 0, none⟩) (late.length - 1) c3)) := (hF3.trans hF4 (fun b hb e => by omega)).setCell (fun _ => rfl) _
  have ne1 : (Value.slice (some ⟨b3, 0, none⟩) (late.length - 1) c3).ownBlock ≠ some g := by
    intro e
    have : b3 = g := by simpa [Value.ownBlock] using e
    omega
  have ne2 : (Value.slice (some ⟨b3, 0, none⟩) (late.length - 1) c3).ownBlock ≠ some w.heap.size := by
    intro e
    have : b3 = w.heap.size := by simpa [Value.ownBlock] using e
    omega
  have ne3 : vr.ownBlock ≠ some g := own_nb HG.out.rec_ HG.out.blk (by decide)
  have ne4 : vr.ownBlock ≠ some w.heap.size := fun e => by have := HG.out.rec_.lt e; omega
  have hO5 := (hO4.lower (base' := base) (by simp; omega)).far (p := ⟨g, 1, none⟩) ne1 (.slice (some ⟨b3, 0, none⟩) (late.length - 1) c3)
  have hR5 := hR4.far (p := ⟨g, 1, none⟩) ne3 (.slice (some ⟨b3, 0, none⟩) (late.length - 1) c3)
  have BG5 : Blk (w4.setCell ⟨g, 1, none⟩ (.slice (some ⟨b3, 0, none⟩) (late.length - 1) c3)) g #[vr, .slice (some ⟨b3, 0, none⟩) (late.length - 1) c3] 90 := (BG4.st 1 _).of rfl
  have BX5 : Blk (w4.setCell ⟨g, 1, none⟩ (.slice (some ⟨b3, 0, none⟩) (late.length - 1) c3)) _ _ _ := BX4.so (by simp; omega)
  have BR5 : Blk (w4.setCell ⟨g, 1, none⟩ (.slice (some ⟨b3, 0, none⟩) (late.length - 1) c3)) _ _ _ := BR4.so (by simp; omega)
  have cG := BG4.c; have lG := BG4.lt; have fG := BG4.f
  have cX := BX5.c; have lX := BX5.lt
  have cR := BR5.c; have lR := BR5.lt; have fR := BR5.f
  have Fin : Hid (∀ W, W = w4.setCell ⟨g, 1, none⟩ (.slice (some ⟨b3, 0, none⟩) (late.length - 1) c3) → True) := fun _ _ => trivial
  clear hF4 BX BR hb3 hO3 hF3 hG3 hO4 hR4 BX4 BR4
  simp only []
  go_wp2
  generalize w4.setCell ⟨g, 1, none⟩ (.slice (some ⟨b3, 0, none⟩) (late.length - 1) c3) = w5 at *
  refine bodyPost_ret (v := .tuple #[.agg #[.string x.f0, .string x.f1, .int .i64 x.f2], .bool true]) (res67 (((BR5.st 0 (.string x.f0)).st 1 (.string x.f1)).st 2 (.int .i64 x.f2)) rfl rfl rfl rfl rfl) rfl ?_
  refine hend.out (.slice (some ⟨b3, 0, none⟩) (late.length - 1) c3) _ ⟨((BG5.so (by simp; omega)).so (by simp; omega)).so (by simp; omega), ?_, ?_⟩ (((hF5.setCell (by simp) _).setCell (by simp) _).setCell (by simp) _) (fun j hj => Or.inr ?_)
  · exact ((hR5.far (p := ⟨_, 0, none⟩) ne4 _).far (p := ⟨_, 1, none⟩) ne4 _).far (p := ⟨_, 2, none⟩) ne4 _
  · exact ((hO5.far (p := ⟨_, 0, none⟩) ne2 _).far (p := ⟨_, 1, none⟩) ne2 _).far (p := ⟨_, 2, none⟩) ne2 _
  · have : b3 = j := by simpa [Value.ownBlock] using hj
    omega

theorem late_any (base g : Nat) (vr vl : Value) (n : Int) (recs : List A98) (late : List A102) (w : World) (hG : Gt w base g vr vl recs late) (hb : base ≤ w.heap.size) (hl : late.length ≤ 100000) :
    Calls Try.prog 67 #[.pointer (some ⟨g, 0, none⟩), .int .i64 n] w (LateP base g vr vl n recs late w) := by
  by_cases h : 0 ≤ n ∧ n < late.length
  · obtain ⟨k, rfl⟩ : ∃ k : Nat, n = k := ⟨n.toNat, by omega⟩
    exact late_yes base g vr vl k recs late w hG hb (by omega) hl
  · exact late_no base g vr vl n recs late w hG h

end Go.Proofs.Ytliacfjdenfldaa
