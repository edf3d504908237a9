/- The reference: sign, kind, key. -/
import Derived.Test.YtfigcncaadknlaaDoorFc
namespace Go.Proofs.YtfigcncaadknlaaDoor
open Go.RowKit
set_option linter.unusedVariables false
set_option linter.unusedSimpArgs false
theorem sg_div (b : Nat) (h : b < 2 ^ 64) : ((b : Int) / 9223372036854775808 == 1) = Fl.sg b := by
  unfold Fl.sg
  have h1 : b / 9223372036854775808 < 2 := by omega
  rw [Nat.mod_eq_of_lt h1]
  have : ((b : Int) / 9223372036854775808) = ((b / 9223372036854775808 : Nat) : Int) := by omega
  rw [this]
  obtain h | h : b / 9223372036854775808 = 0 ∨ b / 9223372036854775808 = 1 := by omega
  · rw [h]; rfl
  · rw [h]; rfl
theorem neg_any (b : Nat) (h : b < 2 ^ 64) (w : World) : Calls Tryd.prog 18 #[.int .u64 (b : Int)] w fun e w' => e = .returned (.bool (Fl.sg b)) ∧ w' = w := by
  have hs := hidI (sg_div b h)
  go_enter Tryd.func18, Tryd.ntmps18
  go_wp2_with fail
  go_ret
  exact ⟨ret_bool hs.out, rfl⟩
theorem kd_arm (b : Nat) (h : b < 2 ^ 64) (x y : Int) (hx : x = ((Fl.rg b / 4503599627370496 : Nat) : Int)) (hy : y = ((b % 4503599627370496 : Nat) : Int)) :
    (x = 2047 → y ≠ 0 → kd b = 0) ∧ (x = 2047 → y = 0 → kd b = 1) ∧ (x = 0 → y = 0 → kd b = 2) ∧ (x ≠ 2047 → x = 0 → y ≠ 0 → kd b = 3) ∧ (x ≠ 2047 → x ≠ 0 → kd b = 3) := by
  have hi := inf_val
  have hr : Fl.rg b % 4503599627370496 = b % 4503599627370496 := by unfold Fl.rg; omega
  have hl : Fl.rg b < 9223372036854775808 := Nat.mod_lt _ (by decide)
  unfold kd
  rw [hi]
  refine ⟨fun h1 h2 => ?_, fun h1 h2 => ?_, fun h1 h2 => ?_, fun h0 h1 h2 => ?_, fun h1 h2 => ?_⟩
  · rw [if_pos (by omega)]
  · rw [if_neg (by omega), if_pos (by omega)]
  · rw [if_neg (by omega), if_neg (by omega), if_pos (by omega)]
  · rw [if_neg (by omega), if_neg (by omega), if_neg (by omega)]
  · rw [if_neg (by omega), if_neg (by omega), if_neg (by omega)]
theorem kind_any (b : Nat) (h : b < 2 ^ 64) (w : World) : Calls Tryd.prog 11 #[.int .u64 (b : Int)] w fun e w' => e = .returned (.int .i64 (kd b)) ∧ w' = w := by
  have hA := hidI (kd_arm b h (bits .and .u64 ((b : Int) / 4503599627370496) 2047) (bits .and .u64 (b : Int) 4503599627370495)
    (by rw [show (b : Int) / 4503599627370496 = ((b / 4503599627370496 : Nat) : Int) by omega, and_11 _ (by omega)]; unfold Fl.rg; omega) (and_52 b h))
  go_enter Tryd.func11, Tryd.ntmps11
  go_wp2_with fail
  all_goals go_ret
  all_goals refine ⟨ret_int ?_, rfl⟩
  all_goals obtain ⟨k0, k1, k2, k3, k4⟩ := hA.out
  all_goals simp_all
/-- The reference's key: least for what is no number, then by sign and rung. -/
def key (b : Nat) : Int := if Fl.inf < Fl.rg b then -9223372036854775808 else if Fl.sg b then -(Fl.rg b : Int) - 1 else (Fl.rg b : Int)
theorem key_val (b : Nat) (h : b < 2 ^ 64) : bits .and .u64 (b : Int) 9223372036854775807 = (Fl.rg b : Int) := and_63 b h
theorem key_any (b : Nat) (h : b < 2 ^ 64) (w : World) : Calls Tryd.prog 28 #[.int .u64 (b : Int)] w fun e w' => e = .returned (.int .i64 (key b)) ∧ w' = w := by
  have hk := fun w => kind_any b h w
  have hs := fun w => neg_any b h w
  have hv := hidI (key_val b h)
  have hl : Fl.rg b < 9223372036854775808 := Nat.mod_lt _ (by decide)
  by_cases g : Fl.inf < Fl.rg b
  · have hr : Hid (key b = -9223372036854775808) := hidI (by unfold key; rw [if_pos g])
    rw [show kd b = 0 by unfold kd; rw [if_pos g]] at hk
    clear hs hv hl g
    go_enter Tryd.func28, Tryd.ntmps28
    go_wp2_with fail
    with_reducible refine (hk _).mono ?_
    rintro e w1 ⟨rfl, rfl⟩
    simp only []
    go_wp2_with fail
    go_ret
    exact ⟨ret_int hr.out.symm, rfl⟩
  · obtain ⟨k, hk0⟩ : ∃ k : Int, k = kd b := ⟨_, rfl⟩
    rw [← hk0] at hk
    have hk1 : (k == 0) = false := by
      rw [hk0]; unfold kd; rw [if_neg g]
      split
      · decide
      · split <;> decide
    clear hk0
    by_cases hg : Fl.sg b = true
    · rw [hg] at hs
      have hr : Hid (key b = wrap64 (wrap64 (-(wrap64 (bits .and .u64 (b : Int) 9223372036854775807))) - 1)) := hidI (by rw [hv.out]; unfold key; rw [if_neg g, if_pos hg]; simp only [wrap64]; omega)
      clear hv hl g hg
      go_enter Tryd.func28, Tryd.ntmps28
      go_wp2_with fail
      with_reducible refine (hk _).mono ?_
      rintro e w1 ⟨rfl, rfl⟩
      simp only []
      go_wp2_with fail
      with_reducible refine (hs _).mono ?_
      rintro e w1 ⟨rfl, rfl⟩
      simp only []
      go_wp2_with fail
      go_ret
      exact ⟨ret_int hr.out.symm, rfl⟩
    · rw [Bool.not_eq_true] at hg
      rw [hg] at hs
      have hr : Hid (key b = wrap64 (bits .and .u64 (b : Int) 9223372036854775807)) := hidI (by rw [hv.out]; unfold key; rw [if_neg g, if_neg (by simp [hg])]; simp only [wrap64]; omega)
      clear hv hl g hg
      go_enter Tryd.func28, Tryd.ntmps28
      go_wp2_with fail
      with_reducible refine (hk _).mono ?_
      rintro e w1 ⟨rfl, rfl⟩
      simp only []
      go_wp2_with fail
      with_reducible refine (hs _).mono ?_
      rintro e w1 ⟨rfl, rfl⟩
      simp only []
      go_wp2_with fail
      go_ret
      exact ⟨ret_int hr.out.symm, rfl⟩
def rcmp (a b : Nat) : Int := if key a < key b then -1 else if key b < key a then 1 else 0
theorem rcmp_any (a b : Nat) (ha : a < 2 ^ 64) (hb : b < 2 ^ 64) (w : World) : Calls Tryd.prog 16 #[.int .u64 (a : Int), .int .u64 (b : Int)] w fun e w' => e = .returned (.int .i64 (rcmp a b)) ∧ w' = w := by
  have hka := fun w => key_any a ha w
  have hkb := fun w => key_any b hb w
  have hk : Hid (∀ x y, key a = x → key b = y → rcmp a b = if x < y then -1 else if y < x then 1 else 0) := hidI (by rintro _ _ rfl rfl; rfl)
  obtain ⟨x, hx⟩ : ∃ x : Int, x = key a := ⟨_, rfl⟩
  obtain ⟨y, hy⟩ : ∃ x : Int, x = key b := ⟨_, rfl⟩
  have hr := hidI (hk.out x y hx.symm hy.symm)
  rw [← hx] at hka
  rw [← hy] at hkb
  clear hx hy hk
  go_enter Tryd.func16, Tryd.ntmps16
  go_wp2_with fail
  with_reducible refine (hka _).mono ?_
  rintro e w1 ⟨rfl, rfl⟩
  simp only []
  go_wp2_with fail
  with_reducible refine (hkb _).mono ?_
  rintro e w1 ⟨rfl, rfl⟩
  simp only []
  go_wp2_with fail
  all_goals go_ret
  all_goals refine ⟨ret_int ?_, rfl⟩
  all_goals rw [hr.out]
  all_goals simp_all
  all_goals omega
end Go.Proofs.YtfigcncaadknlaaDoor
