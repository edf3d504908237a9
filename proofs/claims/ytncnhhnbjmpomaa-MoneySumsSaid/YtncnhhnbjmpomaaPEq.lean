/- slices.Equal at whole numbers; the chapter's example of layer 1. -/
import Derived.Test.YtncnhhnbjmpomaaQ22
import Derived.Test.YtncnhhnbjmpomaaPAdd
namespace Go.Proofs.Ytncnhhnbjmpomaa.Q
open Go.RowKit Go.Proofs.YtncnhhnbjmpomaaW.PrintWords Go.Proofs.YtncnhhnbjmpomaaW.PrintLast Go.Proofs.YtncnhhnbjmpomaaW.PrintMore
set_option linter.unusedVariables false
set_option linter.unusedSimpArgs false
theorem eq_from (a b : List Int) (hl : a.length = b.length) (hb : a.length ≤ 1000000000000) : ∀ (d i : Nat), a.length - i = d → i ≤ a.length →
    ∃ m, ∀ k, slices_Equal_int64_int64.l0 (k + m) a b a.length i = some (decide (a.drop i = b.drop i)) := by
  intro d
  induction d with
  | zero =>
    intro i hd hi
    refine ⟨1, fun k => ?_⟩
    simp only [slices_Equal_int64_int64.l0]
    rw [if_neg (by omega)]
    have h1 : a.drop i = [] := List.drop_eq_nil_of_le (by omega)
    have h2 : b.drop i = [] := List.drop_eq_nil_of_le (by omega)
    rw [h1, h2]; simp
  | succ d ih =>
    intro i hd hi
    have hlt : i < a.length := by omega
    have hlb : i < b.length := by omega
    have ea : a.drop i = a[i] :: a.drop (i + 1) := (List.getElem_cons_drop (h := hlt)).symm
    have eb : b.drop i = b[i] :: b.drop (i + 1) := (List.getElem_cons_drop (h := hlb)).symm
    have hw : wrap64 ((i : Int) + 1) = ((i + 1 : Nat) : Int) := by rw [w64i (by omega) (by omega)]; rfl
    obtain ⟨m, hm⟩ := ih (i + 1) (by omega) (by omega)
    refine ⟨m + 1, fun k => ?_⟩
    rw [← Nat.add_assoc]
    simp only [slices_Equal_int64_int64.l0]
    rw [if_pos (by omega), if_pos (by omega), if_pos (by omega), if_pos (by omega), rd_at a i hlt, rd_at b i hlb, hw, hm, ea, eb]
    by_cases h : a[i] = b[i]
    · rw [if_pos h]; exact congrArg some (decide_eq_decide.2 ⟨fun e => by rw [h, e], fun e => (List.cons.inj e).2⟩)
    · rw [if_neg h]; exact congrArg some (decide_eq_false (fun e => h (List.cons.inj e).1)).symm
theorem eq_ok (a b : List Int) (hb : a.length ≤ 1000000000000) : ∃ m, ∀ k, slices_Equal_int64_int64.f (k + m) a b = some (decide (a = b)) := by
  by_cases hl : a.length = b.length
  · obtain ⟨m, hm⟩ := eq_from a b hl hb a.length 0 (by omega) (by omega)
    refine ⟨m, fun k => ?_⟩
    unfold slices_Equal_int64_int64.f
    rw [if_pos (by omega)]
    have := hm k
    simpa using this
  · refine ⟨0, fun k => ?_⟩
    unfold slices_Equal_int64_int64.f
    rw [if_neg (by omega)]
    have : ¬ (a = b) := fun h => hl (by rw [h])
    simp [this]
end Go.Proofs.Ytncnhhnbjmpomaa.Q
