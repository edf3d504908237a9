/- basis.Ratio. -/
import Derived.Test.YtfigcncaadknlaaDoorFg
namespace Go.Proofs.YtfigcncaadknlaaDoor
open Go.RowKit
set_option linter.unusedVariables false
set_option linter.unusedSimpArgs false
def nanZ (x y : Nat) (w : World) : Nat := (Question.nanBits .f64 x y).cut (w.tape w.drawn (.nanBits .f64 x y))
theorem nanZ_nan (x y : Nat) (w : World) : Fl.inf < Fl.rg (nanZ x y w) ∧ nanZ x y w < 2 ^ 64 := by
  have hz : nanZ x y w = w.tape w.drawn (.nanBits .f64 x y) % 2 * 9223372036854775808 + 9218868437227405312 + 1 + w.tape w.drawn (.nanBits .f64 x y) / 2 % 4503599627370495 := rfl
  rw [hz, inf_val]
  unfold Fl.rg
  have h1 : w.tape w.drawn (.nanBits .f64 x y) % 2 < 2 := Nat.mod_lt _ (by decide)
  have h2 : w.tape w.drawn (.nanBits .f64 x y) / 2 % 4503599627370495 < 4503599627370495 := Nat.mod_lt _ (by decide)
  generalize w.tape w.drawn (.nanBits .f64 x y) % 2 = s at *
  generalize w.tape w.drawn (.nanBits .f64 x y) / 2 % 4503599627370495 = f at *
  have : s = 0 ∨ s = 1 := by omega
  rcases this with rfl | rfl <;> omega
theorem quo_none (x y : Nat) (h : Ieee.double.div x y = none) (w : World) : (binOp .quo 24 (.float .f64 x) (.float .f64 y)).run Tryd.prog w = .ok (.float .f64 (nanZ x y w)) w.drew := by
  have h' : FloatKind.f64.format.div x y = none := h
  simp [binOp, Op.floatArith, h', Question.forced]
  rfl
theorem quo_some (x y r : Nat) (h : Ieee.double.div x y = some r) (w : World) : (binOp .quo 24 (.float .f64 x) (.float .f64 y)).run Tryd.prog w = .ok (.float .f64 r) w :=
  run_float_arith w .quo 24 .f64 x y r h
def RtP (p q : Int) (w : World) (e : Ending) (w' : World) : Prop := ∃ z, e = .returned (.float .f64 z) ∧ z < 2 ^ 64 ∧ Below w.heap.size w w' ∧
  (∀ r, Ieee.double.div (floatOfInt .f64 p) (floatOfInt .f64 q) = some r → z = r) ∧ (Ieee.double.div (floatOfInt .f64 p) (floatOfInt .f64 q) = none → Fl.inf < Fl.rg z)
theorem ratio_any (p q : Int) (w : World) : Calls Tryd.prog 14 #[.int .i64 p, .int .i64 q] w (RtP p q w) := by
  rcases hd : Ieee.double.div (floatOfInt .f64 p) (floatOfInt .f64 q) with _ | r
  · have hq := fun w => quo_none _ _ hd w
    have hfin : Hid (RtP p q w (.returned (.float .f64 (nanZ (floatOfInt .f64 p) (floatOfInt .f64 q) w))) w.drew) := hidI ⟨_, rfl, (nanZ_nan _ _ _).2, Below.drew (Below.refl _ _), (fun r h => by rw [hd] at h; cases h), fun _ => (nanZ_nan _ _ _).1⟩
    clear hd
    go_enter Tryd.func14, Tryd.ntmps14
    go_wp2_with fail
    go_ret
    exact hfin.out
  · have hq := fun w => quo_some _ _ r hd w
    have hlt := Ieee.double.div_lt hd
    have hfin : Hid (RtP p q w (.returned (.float .f64 r)) w) := hidI ⟨_, rfl, hlt, Below.refl _ _, (fun r' h => by rw [hd] at h; injection h), fun h => by rw [hd] at h; cases h⟩
    clear hd hlt
    go_enter Tryd.func14, Tryd.ntmps14
    go_wp2_with fail
    go_ret
    exact hfin.out
end Go.Proofs.YtfigcncaadknlaaDoor
