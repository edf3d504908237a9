/- money.Split: the plain function (fewer than 20 weights), and its bounds. -/
import Derived.Test.YtncnhhnbjmpomaaPAdd
import Derived.Test.YtncnhhnbjmpomaaXRow
namespace Go.Proofs.Ytncnhhnbjmpomaa
open Go.RowKit Go.Proofs.Ytncnhhnbjmpomaa.Q
set_option linter.unusedVariables false
set_option linter.unusedSimpArgs false
def restsF (t all : Int) : Nat → List Int → List S98
  | _, [] => []
  | i, w :: l => ⟨i, t * w % all⟩ :: restsF t all (i + 1) l
theorem restsF_len (t all : Int) : ∀ (l : List Int) (i : Nat), (restsF t all i l).length = l.length
  | [], _ => rfl
  | w :: l, i => by simp [restsF, restsF_len t all l]
theorem restsF_snoc (t all : Int) : ∀ (l : List Int) (i : Nat) (w : Int), restsF t all i (l ++ [w]) = restsF t all i l ++ [⟨((i + l.length : Nat) : Int), t * w % all⟩]
  | [], i, w => by simp [restsF]
  | x :: l, i, w => by simp only [List.cons_append, restsF, restsF_snoc t all l (i + 1) w, List.length_cons]; congr 4; omega
def quosF (t all : Int) (l : List Int) : List Int := l.map fun w => t * w / all
theorem quosF_len (t all : Int) (l : List Int) : (quosF t all l).length = l.length := by simp [quosF]
theorem quosF_snoc (t all : Int) (l : List Int) (w : Int) : quosF t all (l ++ [w]) = quosF t all l ++ [t * w / all] := by simp [quosF]
def bump : List Int → List S98 → List Int
  | qs, [] => qs
  | qs, r :: l => bump (qs.set r.f0.toNat (qs.getD r.f0.toNat 0 + 1)) l
theorem bump_snoc : ∀ (l : List S98) (qs : List Int) (r : S98), bump qs (l ++ [r]) = (bump qs l).set r.f0.toNat ((bump qs l).getD r.f0.toNat 0 + 1)
  | [], _, _ => rfl
  | x :: l, qs, r => by simp only [List.cons_append, bump]; exact bump_snoc l _ r
theorem bump_len : ∀ (l : List S98) (qs : List Int), (bump qs l).length = qs.length
  | [], _ => rfl
  | x :: l, qs => by simp only [bump]; rw [bump_len l]; simp
def leftF (t all : Int) (l : List Int) : Int := t - (quosF t all l).sum
def partsF (t : Int) (ws : List Int) : List Int := bump (quosF t ws.sum ws) ((srt (restsF t ws.sum 0 ws).toArray).toList.take (leftF t ws.sum ws).toNat)
def splitF (t : Int) (ws : List Int) : List Int × Int :=
  if t < 0 then ([], 1) else if ws.any (fun n => decide (n < 0)) = true then ([], 1)
  else if ¬ (ws.sum ≤ 9223372036854775807) then ([], 2) else if ws.sum = 0 then ([], 1) else (partsF t ws, 0)
/-! bounds -/
theorem mem_le_sum : ∀ (l : List Int), (∀ x ∈ l, 0 ≤ x) → ∀ x ∈ l, x ≤ l.sum
  | [], _, x, hx => by cases hx
  | y :: l, h, x, hx => by
    have h1 := sum_nn l (fun z hz => h z (by simp [hz]))
    have h2 := h y (by simp)
    rcases List.mem_cons.1 hx with rfl | hx
    · simp; omega
    · have := mem_le_sum l (fun z hz => h z (by simp [hz])) x hx
      simp; omega
theorem quo_bd {t w all : Int} (ht : 0 ≤ t) (hw : 0 ≤ w) (hwa : w ≤ all) (ha : 0 < all) : 0 ≤ t * w / all ∧ t * w / all ≤ t := by
  constructor
  · exact Int.ediv_nonneg (Int.mul_nonneg ht hw) (by omega)
  · have h1 : t * w ≤ t * all := Int.mul_le_mul_of_nonneg_left hwa ht
    have := Int.ediv_le_ediv ha h1
    rwa [Int.mul_ediv_cancel _ (by omega)] at this
theorem quos_sum (t all : Int) (ha : 0 < all) : ∀ (l : List Int), all * (quosF t all l).sum + (restsF t all 0 l |>.map fun r => r.f1).sum = t * l.sum := by
  have key : ∀ (l : List Int) (i : Nat), all * (quosF t all l).sum + ((restsF t all i l).map fun r => r.f1).sum = t * l.sum := by
    intro l
    induction l with
    | nil => intro i; simp [quosF, restsF]
    | cons w l ih =>
      intro i
      have h1 := ih (i + 1)
      have h2 := Int.mul_ediv_add_emod (t * w) all
      have e1 : (quosF t all (w :: l)).sum = t * w / all + (quosF t all l).sum := by simp [quosF]
      have e2 : ((restsF t all i (w :: l)).map fun r => r.f1).sum = t * w % all + ((restsF t all (i + 1) l).map fun r => r.f1).sum := by simp [restsF]
      have e3 : (w :: l).sum = w + l.sum := List.sum_cons
      rw [e1, e2, e3, Int.mul_add, Int.mul_add]
      omega
  exact fun l => key l 0
theorem rems_bd (t all : Int) (ha : 0 < all) : ∀ (l : List Int) (i : Nat), 0 ≤ ((restsF t all i l).map fun r => r.f1).sum ∧ (((restsF t all i l).map fun r => r.f1).sum ≤ l.length * (all - 1))
  | [], i => by simp [restsF]
  | w :: l, i => by
    have h := rems_bd t all ha l (i + 1)
    have h1 := Int.emod_nonneg (t * w) (b := all) (by omega)
    have h2 := Int.emod_lt_of_pos (t * w) ha
    have e2 : ((restsF t all i (w :: l)).map fun r => r.f1).sum = t * w % all + ((restsF t all (i + 1) l).map fun r => r.f1).sum := by simp [restsF]
    have e3 : (((w :: l).length : Nat) : Int) * (all - 1) = (l.length : Int) * (all - 1) + (all - 1) := by
      rw [List.length_cons, Int.natCast_add, Int.add_mul]; simp
    rw [e2, e3]
    omega
theorem left_bd (t : Int) (ws : List Int) (ht : 0 ≤ t) (hw : ∀ x ∈ ws, 0 ≤ x) (ha : 0 < ws.sum) : 0 ≤ leftF t ws.sum ws ∧ (leftF t ws.sum ws).toNat ≤ ws.length := by
  have h1 := quos_sum t ws.sum ha ws
  have h2 := rems_bd t ws.sum ha ws 0
  unfold leftF
  generalize ((restsF t ws.sum 0 ws).map fun r => r.f1).sum = R at *
  generalize (quosF t ws.sum ws).sum = S at *
  generalize ws.sum = a at *
  have e : a * (t - S) = R := by rw [Int.mul_sub, Int.mul_comm a t]; omega
  have p1 : 0 ≤ t - S := by
    apply Classical.byContradiction
    intro h
    have : a * (t - S) ≤ a * (-1) := Int.mul_le_mul_of_nonneg_left (by omega) (by omega)
    omega
  refine ⟨p1, ?_⟩
  apply Classical.byContradiction
  intro h
  have h3 : ((ws.length : Int) + 1) ≤ t - S := by omega
  have h4 : a * ((ws.length : Int) + 1) ≤ a * (t - S) := Int.mul_le_mul_of_nonneg_left h3 (by omega)
  have h5 : a * ((ws.length : Int) + 1) = (ws.length : Int) * (a - 1) + ws.length + a := by rw [Int.mul_add, Int.mul_sub, Int.mul_comm a]; omega
  omega
end Go.Proofs.Ytncnhhnbjmpomaa
