/- basis.Compare and the reference's key. -/
import Derived.Test.YtfigcncaadknlaaDoorFb
namespace Go.Proofs.YtfigcncaadknlaaDoor
open Go.RowKit
set_option linter.unusedVariables false
set_option linter.unusedSimpArgs false
def zf (b : Nat) : Int := if Fl.sg b && decide (Fl.rg b = 0) then 1 else 0
def cmpF (a b : Nat) : Int := if cc a b = 0 then zf b - zf a else cc a b
def CmpP (r : Int) (w : World) (e : Ending) (w' : World) : Prop := e = .returned (.int .i64 r) ∧ Below w.heap.size w w'
theorem flag_t (w : World) : Calls Tryd.prog 26 #[.bool true] w fun e w' => e = .returned (.int .i64 1) ∧ w' = w := flag_any true w
theorem flag_f (w : World) : Calls Tryd.prog 26 #[.bool false] w fun e w' => e = .returned (.int .i64 0) ∧ w' = w := flag_any false w
theorem or_call (b : Nat) (x y r : Int) (w : World) (c0 : w.cell? ⟨b, 0, none⟩ = some (.int .i64 x)) (c1 : w.cell? ⟨b, 1, none⟩ = some (.int .i64 y)) (hr : r = if x = 0 then y else x) :
    Calls Tryd.prog 24 #[.slice (some ⟨b, 0, none⟩) 2 2] w fun e w' => e = .returned (.int .i64 r) ∧ w' = w := hr ▸ or_any b x y w c0 c1
set_option maxHeartbeats 2000000 in
theorem compare_lit (a b : Nat) (sa ea sb eb : Bool) (z c r : Int) (hz : z = (if sb && eb then (1 : Int) else 0) - (if sa && ea then (1 : Int) else 0)) (hr : Hid (r = if c = 0 then z else c)) (w : World)
    (hc : ∀ w, Calls Tryd.prog 25 #[.float .f64 a, .float .f64 b] w fun e w' => e = .returned (.int .i64 c) ∧ w' = w)
    (hsa : ∀ w, Calls Tryd.prog 27 #[.float .f64 a] w fun e w' => e = .returned (.bool sa) ∧ w' = w)
    (hsb : ∀ w, Calls Tryd.prog 27 #[.float .f64 b] w fun e w' => e = .returned (.bool sb) ∧ w' = w)
    (hea : (FloatKind.f64.format.order a 0 == some .eq) = ea) (heb : (FloatKind.f64.format.order b 0 == some .eq) = eb) :
    Calls Tryd.prog 15 #[.float .f64 a, .float .f64 b] w (CmpP r w) := by
  have hX : Hid (∀ w : World, ∀ e w', (e = Ending.returned (Value.int .i64 r) ∧ Below w.heap.size w w') → CmpP r w e w') := hidI fun _ _ _ h => h
  cases sa
  all_goals cases sb
  all_goals cases ea
  all_goals cases eb
  all_goals
    simp at hz
    subst hz
    go_enter Tryd.func15, Tryd.ntmps15
    go_wp2_with fail
    with_reducible refine (hc _).mono ?_
    rintro e w1 ⟨rfl, rfl⟩
    simp only []
    go_wp2_with fail
    with_reducible refine (hsb _).mono ?_
    rintro e w1 ⟨rfl, rfl⟩
    simp only []
    go_wp2_with fail
    first | with_reducible refine (flag_f _).mono ?_ | with_reducible refine (flag_t _).mono ?_
    rintro e w1 ⟨rfl, rfl⟩
    simp only []
    go_wp2_with fail
    with_reducible refine (hsa _).mono ?_
    rintro e w1 ⟨rfl, rfl⟩
    simp only []
    go_wp2_with fail
    first | with_reducible refine (flag_f _).mono ?_ | with_reducible refine (flag_t _).mono ?_
    rintro e w1 ⟨rfl, rfl⟩
    simp only []
    go_wp2_with fail
    with_reducible refine (or_call _ c _ r _ (((Blk.new' rfl).c 0).trans rfl) (((Blk.new' rfl).c 1).trans rfl) hr.out).mono ?_
    rintro e w1 ⟨rfl, rfl⟩
    simp only []
    go_wp2_with fail
    go_ret
    exact hX.out _ _ _ ⟨rfl, below_new (Below.refl _ _) _⟩
theorem compare_any (a b : Nat) (ha : a < 2 ^ 64) (hb : b < 2 ^ 64) (w : World) : Calls Tryd.prog 15 #[.float .f64 a, .float .f64 b] w (CmpP (cmpF a b) w) :=
  compare_lit a b (Fl.sg a) (decide (Fl.rg a = 0)) (Fl.sg b) (decide (Fl.rg b = 0)) (zf b - zf a) (cc a b) (cmpF a b) rfl (hidI rfl) w (cmp_any a b) (signbit_any a ha) (signbit_any b hb)
    (by rw [ord_eq, ord_zero a ha]) (by rw [ord_eq, ord_zero b hb])
end Go.Proofs.YtfigcncaadknlaaDoor
