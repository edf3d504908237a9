/- BasisOrder's walk. -/
import Derived.Test.YtfigcncaadknlaaDoorFi
namespace Go.Proofs.YtfigcncaadknlaaDoor
open Go.RowKit
set_option linter.unusedVariables false
set_option linter.unusedSimpArgs false
theorem cmp_call (a b : Nat) (ha : a < 2 ^ 64) (hb : b < 2 ^ 64) (r : Int) (hr : rcmp a b = r) (w : World) : Calls Tryd.prog 15 #[.float .f64 a, .float .f64 b] w (CmpP r w) := by
  rw [← hr, ← cmpF_eq a b ha hb]; exact compare_any a b ha hb w
theorem rcmp_call (a b : Nat) (ha : a < 2 ^ 64) (hb : b < 2 ^ 64) (r : Int) (hr : rcmp a b = r) (w : World) : Calls Tryd.prog 16 #[.int .u64 (a : Int), .int .u64 (b : Int)] w fun e w' => e = .returned (.int .i64 r) ∧ w' = w := by
  rw [← hr]; exact rcmp_any a b ha hb w
set_option maxHeartbeats 4000000 in
theorem order_lit (a b c : Nat) (ha : a < 2 ^ 64) (hb : b < 2 ^ 64) (hc : c < 2 ^ 64) (x y z : Int) (hx : rcmp a b = x) (hy : rcmp b c = y) (hz : rcmp a c = z)
    (hx3 : x = -1 ∨ x = 0 ∨ x = 1) (hy3 : y = -1 ∨ y = 0 ∨ y = 1) (hz3 : z = -1 ∨ z = 0 ∨ z = 1) (ht : ¬ 0 < x → ¬ 0 < y → z ≤ 0) (w : World) :
    Calls Tryd.prog 5 #[.int .u64 (a : Int), .int .u64 (b : Int), .int .u64 (c : Int)] w (LvP w) := by
  have hl := lives_any w
  have fa := fun w => from_run a w
  have fb := fun w => from_run b w
  have fc := fun w => from_run c w
  have c1 := fun w => cmp_call a b ha hb x hx w
  have c2 := fun w => cmp_call b c hb hc y hy w
  have c3 := fun w => cmp_call a c ha hc z hz w
  have c4 := fun w => cmp_call b a hb ha (-x) (by rw [rcmp_neg, hx]) w
  have c5 := fun w => cmp_call a a ha ha 0 (rcmp_self a) w
  have r1 := fun w => rcmp_call a b ha hb x hx w
  clear hx hy hz
  rcases hx3 with rfl | rfl | rfl
  all_goals rcases hy3 with rfl | rfl | rfl
  all_goals rcases hz3 with rfl | rfl | rfl
  all_goals try (exfalso; simp at ht; done)
  all_goals
    clear ht
    try simp only [Int.neg_neg, Int.neg_zero] at c4
    go_enter Tryd.func5, Tryd.ntmps5
    go_wp2_with fail
    with_reducible refine hl.mono ?_
    rintro e w1 ⟨rfl, hb1⟩
    simp only []
    go_wp2_with fail
    with_reducible refine (c1 _).mono ?_
    rintro e w2 ⟨rfl, hb2⟩
    simp only []
    go_wp2_with fail
    with_reducible refine (c2 _).mono ?_
    rintro e w3 ⟨rfl, hb3⟩
    simp only []
    go_wp2_with fail
    with_reducible refine (c3 _).mono ?_
    rintro e w4 ⟨rfl, hb4⟩
    simp only []
    go_wp2_with fail
    with_reducible refine (r1 _).mono ?_
    rintro e w5 ⟨rfl, rfl⟩
    simp only []
    go_wp2_with fail
    with_reducible refine (c4 _).mono ?_
    rintro e w6 ⟨rfl, hb6⟩
    simp only []
    go_wp2_with fail
    with_reducible refine (c5 _).mono ?_
    rintro e w7 ⟨rfl, hb7⟩
    have hfin : Hid (LvP w (.returned (.bool true)) w7) := hidI ⟨rfl, below_step (below_step (below_step (below_step (below_step hb1 hb2) hb3) hb4) hb6) hb7⟩
    clear hb1 hb2 hb3 hb4 hb6 hb7
    simp only []
    go_wp2_with fail
    go_ret
    exact hfin.out
theorem order_any (a b c : Nat) (ha : a < 2 ^ 64) (hb : b < 2 ^ 64) (hc : c < 2 ^ 64) (w : World) : Calls Tryd.prog 5 #[.int .u64 (a : Int), .int .u64 (b : Int), .int .u64 (c : Int)] w (LvP w) :=
  order_lit a b c ha hb hc _ _ _ rfl rfl rfl (rcmp_range a b) (rcmp_range b c) (rcmp_range a c) (rcmp_trans a b c) w
end Go.Proofs.YtfigcncaadknlaaDoor
