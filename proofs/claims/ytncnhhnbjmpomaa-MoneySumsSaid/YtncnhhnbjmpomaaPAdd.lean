/- money.Add: what its printed function tells. -/
import Derived.Test.YtncnhhnbjmpomaaQ13
namespace Go.Proofs.Ytncnhhnbjmpomaa.Q
open Go.RowKit Go.Proofs.YtncnhhnbjmpomaaW.PrintWords Go.Proofs.YtncnhhnbjmpomaaW.PrintLast Go.Proofs.YtncnhhnbjmpomaaW.PrintMore
set_option linter.unusedVariables false
set_option linter.unusedSimpArgs false
def inR (x : Int) : Prop := -9223372036854775808 ≤ x ∧ x ≤ 9223372036854775807
def addF : Int → List Int → Int × Int
  | s, [] => (s, 0)
  | s, n :: l => if -9223372036854775808 ≤ s + n ∧ s + n ≤ 9223372036854775807 then addF (s + n) l else (0, 2)
theorem w64i {x : Int} (h0 : -9223372036854775808 ≤ x) (h1 : x ≤ 9223372036854775807) : wrap64 x = x := by
  unfold wrap64; omega
theorem rd_at (l : List Int) (i : Nat) (h : i < l.length) : rd l (i : Int) = l[i] := by
  unfold rd; rw [Int.toNat_natCast, List.getD_eq_getElem?_getD, List.getElem?_eq_getElem h]; rfl
theorem add_from (l : List Int) (hl : ∀ x ∈ l, inR x) (hlen : l.length ≤ 1000000000000) : ∀ (d i : Nat) (s : Int), l.length - i = d → i ≤ l.length → inR s →
    ∃ m, ∀ k, money_Add.l0 (k + m) s l l.length i = some (addF s (l.drop i)) := by
  intro d
  induction d with
  | zero =>
    intro i s hd hi hs
    have e : i = l.length := by omega
    subst e
    refine ⟨1, fun k => ?_⟩
    simp only [money_Add.l0]
    rw [if_neg (by omega), List.drop_length]; rfl
  | succ d ih =>
    intro i s hd hi hs
    have hlt : i < l.length := by omega
    have hx := hl l[i] (List.getElem_mem hlt)
    have hdr : l.drop i = l[i] :: l.drop (i + 1) := (List.getElem_cons_drop (h := hlt)).symm
    have hw : wrap64 ((i : Int) + 1) = ((i + 1 : Nat) : Int) := by rw [w64i (by omega) (by omega)]; rfl
    unfold inR at hx hs
    rw [hdr]
    simp only [addF]
    by_cases hr : -9223372036854775808 ≤ s + l[i] ∧ s + l[i] ≤ 9223372036854775807
    · obtain ⟨m, hm⟩ := ih (i + 1) (s + l[i]) (by omega) (by omega) hr
      refine ⟨m + 1, fun k => ?_⟩
      rw [← Nat.add_assoc]
      simp only [money_Add.l0]
      rw [if_pos (by omega), if_pos (by omega), if_pos (by omega), rd_at l i hlt, w64i hr.1 hr.2, hw, hm, if_pos hr]
      by_cases h0 : l[i] = 0
      · rw [if_pos h0]; split <;> rfl
      · have : (decide (s + l[i] > s) != decide (l[i] > 0)) = false := by
          by_cases hp : l[i] > 0
          · have h1 : s + l[i] > s := by omega
            simp [hp, h1]
          · have h1 : ¬ (s + l[i] > s) := by omega
            simp [hp, h1]
        rw [this, if_neg (by decide)]
    · refine ⟨1, fun k => ?_⟩
      simp only [money_Add.l0]
      rw [if_pos (by omega), if_pos (by omega), if_pos (by omega), rd_at l i hlt, if_neg hr]
      have hne : ¬ (l[i] = 0) := by intro h; apply hr; omega
      have : (decide (wrap64 (s + l[i]) > s) != decide (l[i] > 0)) = true := by
        by_cases hp : l[i] > 0
        · have h1 : ¬ (wrap64 (s + l[i]) > s) := by unfold wrap64; omega
          simp [hp, h1]
        · have h1 : wrap64 (s + l[i]) > s := by unfold wrap64; omega
          simp [hp, h1]
      rw [this, if_pos rfl, if_neg hne]
theorem add_ok (l : List Int) (hl : ∀ x ∈ l, inR x) (hlen : l.length ≤ 1000000000000) : ∃ m, ∀ k, money_Add.f (k + m) l = some (addF 0 l) := by
  obtain ⟨m, hm⟩ := add_from l hl hlen l.length 0 0 (by omega) (Nat.zero_le _) ⟨by decide, by decide⟩
  exact ⟨m, fun k => by unfold money_Add.f; exact hm k⟩
theorem sum_nn : ∀ l : List Int, (∀ x ∈ l, 0 ≤ x) → 0 ≤ l.sum
  | [], _ => by simp
  | x :: l, h => by
    have := sum_nn l (fun y hy => h y (by simp [hy]))
    have := h x (by simp)
    simp; omega
theorem addF_nn : ∀ (l : List Int) (s : Int), 0 ≤ s → (∀ x ∈ l, 0 ≤ x) → s ≤ 9223372036854775807 → addF s l = if s + l.sum ≤ 9223372036854775807 then (s + l.sum, 0) else (0, 2)
  | [], s, h0, _, hs => by simp [addF, hs]
  | x :: l, s, h0, h, hs => by
    have h1 := h x (by simp)
    have h2 := sum_nn l (fun y hy => h y (by simp [hy]))
    have e : (x :: l).sum = x + l.sum := List.sum_cons
    generalize (x :: l).sum = z at *
    subst e
    simp only [addF]
    by_cases hr : s + x ≤ 9223372036854775807
    · have ih := addF_nn l (s + x) (by omega) (fun y hy => h y (by simp [hy])) hr
      rw [if_pos ⟨by omega, hr⟩, ih, Int.add_assoc]
    · rw [if_neg (by omega), if_neg (by omega)]
end Go.Proofs.Ytncnhhnbjmpomaa.Q
