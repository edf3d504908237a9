/- The reference's Points. -/
import Derived.Test.YtfigcncaadknlaaDoorFm
namespace Go.Proofs.YtfigcncaadknlaaDoor
open Go.RowKit
set_option linter.unusedVariables false
set_option linter.unusedSimpArgs false
theorem scale_lo (x U a : Nat) (hU : 0 < U) (h1 : 2 * U < x) (h2 : a = 20000 * U) : a ≤ x * 10000 := by omega
theorem scale_hi (x U a : Nat) (h1 : x ≤ 2 * U) (h2 : a = 20000 * U) : x * 10000 ≤ a := by omega
theorem div_hi (x U n : Nat) (h : x ≤ n * U) : x / U ≤ n := by rw [Nat.mul_comm] at h; exact Nat.div_le_of_le_mul h
theorem over_two (b : Nat) (h : b < Fl.inf) (h2 : Fl.rv (Fl.fw 2) < Fl.rv b) : Fl.pr b = Fl.inf ∨ 10000 < Fl.rte (Fl.pr b) := by
  have hU := Nat.two_pow_pos 1074
  have f2 := (Fl.fw_rv 2 (by decide)).1
  have f20 := Fl.fw_rv 20000 (by decide)
  have h3 : Fl.fw 20000 ≤ Fl.pr b := by
    refine Fl.pr_lo b _ (Nat.le_of_lt f20.2) ?_
    rw [f2] at h2
    exact scale_lo _ _ _ hU h2 f20.1
  have h4 := Fl.rv_le.2 h3
  rw [f20.1] at h4
  right
  unfold Fl.rte
  have h5 := (Nat.le_div_iff_mul_le hU).2 h4
  exact Nat.lt_of_lt_of_le (by decide) (Nat.le_trans h5 (Nat.le_add_right _ _))
theorem upto_two (b : Nat) (h2 : ¬ Fl.rv (Fl.fw 2) < Fl.rv b) : Fl.pr b < Fl.inf ∧ Fl.rv (Fl.pr b) / 2 ^ 1074 < 2 ^ 53 := by
  have hU := Nat.two_pow_pos 1074
  have f2 := (Fl.fw_rv 2 (by decide)).1
  have f20 := Fl.fw_rv 20000 (by decide)
  have h3 : Fl.pr b ≤ Fl.fw 20000 := by
    refine Fl.pr_hi b _ ?_
    rw [f2] at h2
    exact scale_hi _ _ _ (Nat.le_of_not_lt h2) f20.1
  have h4 := Fl.rv_le.2 h3
  rw [f20.1] at h4
  refine ⟨Nat.lt_of_le_of_lt h3 f20.2, ?_⟩
  have h5 : Fl.rv (Fl.pr b) / 2 ^ 1074 ≤ 20000 := by
    exact div_hi _ _ _ h4
  exact Nat.lt_of_le_of_lt h5 (by decide)
theorem rpoints_any (b : Nat) (h : b < 2 ^ 64) (w : World) : Calls Tryd.prog 9 #[.float .f64 b, .int .u64 (b : Int)] w fun e w' => e = .returned (.tuple #[.int .i64 (ptF b).1, .int .i64 (ptF b).2]) ∧ w' = w := by
  have hK := fun w => kind_any b h w
  have hN := fun w => neg_any b h w
  by_cases g1 : Fl.inf < Fl.rg b
  · have hr : Hid (ptF b = (0, 1)) := hidI (by unfold ptF; rw [if_pos g1])
    rw [show kd b = 0 by unfold kd; rw [if_pos g1]] at hK
    clear g1
    go_enter Tryd.func9, Tryd.ntmps9
    go_wp2_with fail
    with_reducible refine (hK _).mono ?_
    rintro e w1 ⟨rfl, rfl⟩
    simp only []
    go_wp2_with fail
    go_ret2
    exact ⟨by rw [hr.out]; rfl, rfl⟩
  by_cases g2 : Fl.rg b = 0
  · have hr : Hid (ptF b = (0, 0)) := hidI (by unfold ptF; rw [if_neg g1, if_pos g2])
    rw [show kd b = 2 by unfold kd; have := inf_val; rw [if_neg g1, if_neg (by omega), if_pos g2]] at hK
    clear g1 g2
    go_enter Tryd.func9, Tryd.ntmps9
    go_wp2_with fail
    with_reducible refine (hK _).mono ?_
    rintro e w1 ⟨rfl, rfl⟩
    simp only []
    go_wp2_with fail
    go_ret2
    exact ⟨by rw [hr.out]; rfl, rfl⟩
  by_cases g4 : Fl.sg b = true
  · have hr : Hid (ptF b = (0, 1)) := hidI (by unfold ptF; rw [if_neg g1, if_neg g2, if_pos g4])
    rw [g4] at hN
    by_cases g3 : Fl.rg b = Fl.inf
    · rw [show kd b = 1 by unfold kd; rw [if_neg g1, if_pos g3]] at hK
      clear g1 g2 g3 g4
      go_enter Tryd.func9, Tryd.ntmps9
      go_wp2_with fail
      with_reducible refine (hK _).mono ?_
      rintro e w1 ⟨rfl, rfl⟩
      simp only []
      go_wp2_with fail
      with_reducible refine (hN _).mono ?_
      rintro e w1 ⟨rfl, rfl⟩
      simp only []
      go_wp2_with fail
      go_ret2
      exact ⟨by rw [hr.out]; rfl, rfl⟩
    · rw [show kd b = 3 by unfold kd; rw [if_neg g1, if_neg g3, if_neg g2]] at hK
      clear g1 g2 g3 g4
      go_enter Tryd.func9, Tryd.ntmps9
      go_wp2_with fail
      with_reducible refine (hK _).mono ?_
      rintro e w1 ⟨rfl, rfl⟩
      simp only []
      go_wp2_with fail
      with_reducible refine (hN _).mono ?_
      rintro e w1 ⟨rfl, rfl⟩
      simp only []
      go_wp2_with fail
      go_ret2
      exact ⟨by rw [hr.out]; rfl, rfl⟩
  rw [Bool.not_eq_true] at g4
  rw [g4] at hN
  have hb := pos_word h g4
  by_cases g3 : Fl.rg b = Fl.inf
  · have hr : Hid (ptF b = (0, 2)) := hidI (by unfold ptF; rw [if_neg g1, if_neg g2, if_neg (by simp [g4]), if_pos g3])
    rw [show kd b = 1 by unfold kd; rw [if_neg g1, if_pos g3]] at hK
    clear g1 g2 g3 g4 hb
    go_enter Tryd.func9, Tryd.ntmps9
    go_wp2_with fail
    with_reducible refine (hK _).mono ?_
    rintro e w1 ⟨rfl, rfl⟩
    simp only []
    go_wp2_with fail
    with_reducible refine (hN _).mono ?_
    rintro e w1 ⟨rfl, rfl⟩
    simp only []
    go_wp2_with fail
    go_ret2
    exact ⟨by rw [hr.out]; rfl, rfl⟩
  rw [show kd b = 3 by unfold kd; rw [if_neg g1, if_neg g3, if_neg g2]] at hK
  have hm := fun w => mul_run b (by omega) g4 w
  have ho := (ord_word b 4611686018427387904 (by omega) (by decide)).1
  have hP : Hid (ptF b = if Fl.pr b = Fl.inf then (0, 2) else if 10000 < Fl.rte (Fl.pr b) then (0, 2) else ((Fl.rte (Fl.pr b) : Int), 0)) := hidI (by unfold ptF; rw [if_neg g1, if_neg g2, if_neg (by simp [g4]), if_neg g3, hb])
  have hbi : b < Fl.inf := by omega
  rw [hb] at hm
  rw [show (4611686018427387904 : Nat) = Fl.fw 2 from Fl.fw_2.symm] at ho
  clear g1 g2 g3 g4 hb h
  by_cases g5 : Fl.rv (Fl.fw 2) < Fl.rv b
  · have hr : Hid (ptF b = (0, 2)) := hidI (by
      rw [hP.out]
      rcases over_two b hbi g5 with h1 | h1
      · rw [if_pos h1]
      · rw [if_pos h1]; split <;> rfl)
    rw [decide_eq_true g5, Fl.fw_2] at ho
    clear g5 hP hm hbi
    go_enter Tryd.func9, Tryd.ntmps9
    go_wp2_with fail
    with_reducible refine (hK _).mono ?_
    rintro e w1 ⟨rfl, rfl⟩
    simp only []
    go_wp2_with fail
    with_reducible refine (hN _).mono ?_
    rintro e w1 ⟨rfl, rfl⟩
    simp only []
    go_wp2_with fail
    go_ret2
    exact ⟨by rw [hr.out]; rfl, rfl⟩
  obtain ⟨hy, ht⟩ := upto_two b g5
  have hR := fun w => rounded_any (Fl.pr b) hy ht w
  rw [decide_eq_false g5, Fl.fw_2] at ho
  rw [if_neg (Nat.ne_of_lt hy)] at hP
  clear ht g5 hbi hy
  generalize Fl.pr b = y at *
  generalize Fl.rte y = n at *
  by_cases g6 : 10000 < n
  · have hr : Hid (ptF b = (0, 2)) := hidI (by rw [hP.out, if_pos g6])
    have hg : decide ((10000 : Int) < (n : Int)) = true := decide_eq_true (by omega)
    clear hP
    go_enter Tryd.func9, Tryd.ntmps9
    go_wp2_with fail
    with_reducible refine (hK _).mono ?_
    rintro e w1 ⟨rfl, rfl⟩
    simp only []
    go_wp2_with fail
    with_reducible refine (hN _).mono ?_
    rintro e w1 ⟨rfl, rfl⟩
    simp only []
    go_wp2_with fail
    with_reducible refine (hR _).mono ?_
    rintro e w1 ⟨rfl, rfl⟩
    simp only []
    go_wp2_with fail
    go_ret2
    exact ⟨by rw [hr.out]; rfl, rfl⟩
  · have hr : Hid (ptF b = ((n : Int), 0)) := hidI (by rw [hP.out, if_neg g6])
    have hg : decide ((10000 : Int) < (n : Int)) = false := decide_eq_false (by omega)
    clear hP
    go_enter Tryd.func9, Tryd.ntmps9
    go_wp2_with fail
    with_reducible refine (hK _).mono ?_
    rintro e w1 ⟨rfl, rfl⟩
    simp only []
    go_wp2_with fail
    with_reducible refine (hN _).mono ?_
    rintro e w1 ⟨rfl, rfl⟩
    simp only []
    go_wp2_with fail
    with_reducible refine (hR _).mono ?_
    rintro e w1 ⟨rfl, rfl⟩
    simp only []
    go_wp2_with fail
    go_ret2
    exact ⟨by rw [hr.out]; rfl, rfl⟩
end Go.Proofs.YtfigcncaadknlaaDoor
