/- The small functions over doubles: bits, NaN, infinite, the kind, the sign. -/
import Derived.Test.YtfigcncaadknlaaDoorK
import Derived.Test.YtfigcncaadknlaaDoorFl
namespace Go.Proofs.YtfigcncaadknlaaDoor
open Go.RowKit
set_option linter.unusedVariables false
set_option linter.unusedSimpArgs false
theorem bits_run (b : Nat) (w : World) : (callFunc 32 #[.float .f64 b]).run Tryd.prog w = .ok (.value (.int .u64 (b : Int))) w :=
  run_callFunc_extern Tryd.func32 (by kernel_rfl) (by kernel_rfl) (by kernel_rfl) (e := Extern.MathFloatBits.float64bits) (by kernel_rfl) _ w
theorem from_run (b : Nat) (w : World) : (callFunc 7 #[.int .u64 (b : Int)]).run Tryd.prog w = .ok (.value (.float .f64 b)) w :=
  run_callFunc_extern Tryd.func7 (by kernel_rfl) (by kernel_rfl) (by kernel_rfl) (e := Extern.MathFloatBits.float64frombits) (by kernel_rfl) _ w
/-- The order of two doubles. -/
def ord (a b : Nat) : Option Ordering := if Fl.inf < Fl.rg a ∨ Fl.inf < Fl.rg b then none else some (compare (Fl.sv a) (Fl.sv b))
theorem ord_eq (a b : Nat) : FloatKind.f64.format.order a b = ord a b := by
  unfold ord
  split
  · rename_i h; exact Fl.order_nan h
  · rename_i h; exact Fl.order_eq (by omega) (by omega)
def nanB (b : Nat) : Bool := decide (Fl.inf < Fl.rg b)
theorem ord_self (b : Nat) : ((ord b b) != some .eq) = nanB b := by
  unfold ord nanB
  by_cases h : Fl.inf < Fl.rg b
  · simp [h]
  · simp [h]
theorem isNaN_any (b : Nat) (w : World) : Calls Tryd.prog 31 #[.float .f64 b] w fun e w' => e = .returned (.bool (nanB b)) ∧ w' = w := by
  have hfin : Hid (Ending.returned (.bool (FloatKind.f64.format.order b b != some .eq)) = .returned (.bool (nanB b))) := hidI (by rw [ord_eq, ord_self])
  go_enter Tryd.func31, Tryd.ntmps31
  go_wp2_with fail
  go_ret
  exact ⟨hfin.out, rfl⟩
theorem IsNaN_any (b : Nat) (w : World) : Calls Tryd.prog 20 #[.float .f64 b] w fun e w' => e = .returned (.bool (nanB b)) ∧ w' = w := by
  have hfin : Hid (Ending.returned (.bool (FloatKind.f64.format.order b b != some .eq)) = .returned (.bool (nanB b))) := hidI (by rw [ord_eq, ord_self])
  go_enter Tryd.func20, Tryd.ntmps20
  go_wp2_with fail
  go_ret
  exact ⟨hfin.out, rfl⟩
theorem and_low (a n : Nat) (ha : a < 2 ^ 64) (hn : n ≤ 64) : bits .and .u64 (a : Int) ((2 ^ n - 1 : Nat) : Int) = ((a % 2 ^ n : Nat) : Int) := by
  have h2 : 2 ^ n ≤ 2 ^ 64 := Nat.pow_le_pow_right (by decide) hn
  have h3 : a % 2 ^ n ≤ a := Nat.mod_le _ _
  have e : (BitVec.ofInt 64 (a : Int) &&& BitVec.ofInt 64 ((2 ^ n - 1 : Nat) : Int)).toNat = a % 2 ^ n := by
    rw [BitVec.toNat_and, BitVec.ofInt_natCast, BitVec.ofInt_natCast, BitVec.toNat_ofNat, BitVec.toNat_ofNat, Nat.mod_eq_of_lt ha, Nat.mod_eq_of_lt (a := 2 ^ n - 1) (by omega), Nat.and_two_pow_sub_one_eq_mod]
  show IntKind.u64.wrap ((BitVec.ofInt 64 (a : Int) &&& BitVec.ofInt 64 ((2 ^ n - 1 : Nat) : Int)).toNat : Int) = _
  rw [e]
  simp only [IntKind.wrap_u64]
  omega
theorem and_52 (a : Nat) (ha : a < 2 ^ 64) : bits .and .u64 (a : Int) 4503599627370495 = ((a % 4503599627370496 : Nat) : Int) := and_low a 52 ha (by decide)
theorem and_11 (a : Nat) (ha : a < 2 ^ 64) : bits .and .u64 (a : Int) 2047 = ((a % 2048 : Nat) : Int) := and_low a 11 ha (by decide)
theorem and_63 (a : Nat) (ha : a < 2 ^ 64) : bits .and .u64 (a : Int) 9223372036854775807 = ((Fl.rg a : Nat) : Int) := and_low a 63 ha (by decide)
theorem andNot_63 (a : Nat) (ha : a < 2 ^ 64) : bits .andNot .u64 (a : Int) 9223372036854775808 = ((Fl.rg a : Nat) : Int) := and_63 a ha
theorem abs_any (b : Nat) (h : b < 2 ^ 64) (w : World) : Calls Tryd.prog 29 #[.float .f64 b] w fun e w' => e = .returned (.float .f64 (Fl.rg b)) ∧ w' = w := by
  have h1 := bits_run b w
  have h2 : (callFunc 7 #[.int .u64 (bits BinOp.andNot IntKind.u64 (b : Int) 9223372036854775808)]).run Tryd.prog w = .ok (.value (.float .f64 (Fl.rg b))) w := by
    rw [andNot_63 b h]; exact from_run _ _
  go_enter Tryd.func29, Tryd.ntmps29
  go_wp2_with fail
  go_ret
  exact ⟨rfl, rfl⟩
theorem inf_val : Fl.inf = 9218868437227405312 := by decide
/-- The rung of the greatest finite double is one below that of the infinity. -/
theorem ord_max' (b M : Nat) (h1 : Fl.rg M = M) (h2 : Fl.sg M = false) (hi : Fl.inf = M + 1) : (ord (Fl.rg b) M == some .gt) = decide (Fl.rg b = Fl.inf) := by
  have hm : Fl.rg (Fl.rg b) = Fl.rg b := Nat.mod_mod _ _
  have hs : Fl.sg (Fl.rg b) = false := by
    have : Fl.rg b < 9223372036854775808 := Nat.mod_lt _ (by decide)
    unfold Fl.sg; rw [Nat.div_eq_of_lt this]; rfl
  unfold ord
  rw [hm, h1]
  by_cases h : Fl.inf < Fl.rg b
  · have : ¬ Fl.rg b = Fl.inf := by omega
    simp [h, this]
  · have h3 : ¬ (Fl.inf < M) := by omega
    simp only [h, h3, or_self, if_false, Fl.sv, hs, h2, hm, h1]
    by_cases e : Fl.rg b = Fl.inf
    · have : Fl.rv M < Fl.rv (Fl.rg b) := Fl.rv_mono (by omega)
      simp only [e, decide_true]
      rw [e] at this
      have hc : compare (Fl.rv Fl.inf : Int) (Fl.rv M : Int) = .gt := by rw [Int.compare_eq_gt]; exact_mod_cast this
      simpa using hc
    · have : ¬ Fl.rv M < Fl.rv (Fl.rg b) := by
        have := (Fl.rv_le (r := Fl.rg b) (s := M)).2 (by omega)
        omega
      simp only [e, decide_false]
      have hc : ¬ compare (Fl.rv (Fl.rg b) : Int) (Fl.rv M : Int) = .gt := by rw [Int.compare_eq_gt]; exact_mod_cast this
      simpa using hc
theorem ord_max (b : Nat) : (ord (Fl.rg b) 9218868437227405311 == some .gt) = decide (Fl.rg b = Fl.inf) := ord_max' b _ (by decide) (by decide) (by decide)
theorem IsInf_any (b : Nat) (h : b < 2 ^ 64) (w : World) : Calls Tryd.prog 21 #[.float .f64 b, .int .i64 0] w fun e w' => e = .returned (.bool (decide (Fl.rg b = Fl.inf))) ∧ w' = w := by
  have hc := abs_any b h w
  have hfin : Hid (Ending.returned (.bool (FloatKind.f64.format.order (Fl.rg b) 9218868437227405311 == some .gt)) = .returned (.bool (decide (Fl.rg b = Fl.inf)))) := hidI (by rw [ord_eq, ord_max])
  go_enter Tryd.func21, Tryd.ntmps21
  go_wp2_with fail
  with_reducible refine hc.mono ?_
  rintro e w1 ⟨rfl, rfl⟩
  clear hc
  simp only []
  go_wp2_with fail
  go_ret
  exact ⟨hfin.out, rfl⟩
theorem ord_zero (b : Nat) (h : b < 2 ^ 64) : (ord b 0 == some .eq) = decide (Fl.rg b = 0) := by
  have h1 : Fl.rg 0 = 0 := by decide
  have hi := inf_val
  have h0 : ¬ (Fl.inf < 0) := by omega
  unfold ord
  rw [h1]
  by_cases g : Fl.inf < Fl.rg b
  · have : ¬ Fl.rg b = 0 := by omega
    simp [g, this]
  · simp only [g, h0, or_self, if_false]
    have e0 : Fl.sv 0 = 0 := by unfold Fl.sv; rw [h1, Fl.rv_zero]; simp
    rw [e0]
    by_cases e : Fl.rg b = 0
    · have : Fl.sv b = 0 := by unfold Fl.sv; rw [e, Fl.rv_zero]; simp
      simp [this, e]
    · have : 0 < Fl.rv (Fl.rg b) := by have := Fl.rv_mono (r := 0) (s := Fl.rg b) (by omega); rw [Fl.rv_zero] at this; exact this
      have hne : ¬ Fl.sv b = 0 := by unfold Fl.sv; split <;> omega
      simp only [e, decide_false]
      have hc : ¬ compare (Fl.sv b) 0 = .eq := by rw [Int.compare_eq_eq]; exact hne
      simpa using hc
/-- NaN 0, infinite 1, zero 2, else 3. -/
def kd (b : Nat) : Int := if Fl.inf < Fl.rg b then 0 else if Fl.rg b = Fl.inf then 1 else if Fl.rg b = 0 then 2 else 3
theorem Of_any (b : Nat) (h : b < 2 ^ 64) (w : World) : Calls Tryd.prog 10 #[.float .f64 b] w fun e w' => e = .returned (.int .i64 (kd b)) ∧ w' = w := by
  have hc := fun w => IsNaN_any b w
  have hd := fun w => IsInf_any b h w
  have hz : Hid ((FloatKind.f64.format.order b 0 == some .eq) = decide (Fl.rg b = 0)) := hidI (by rw [ord_eq, ord_zero b h])
  by_cases h1 : Fl.inf < Fl.rg b
  · have hk : Hid (kd b = 0) := hidI (by simp [kd, h1])
    have hn : nanB b = true := by simp [nanB, h1]
    simp only [hn] at hc
    clear h1 hn
    go_enter Tryd.func10, Tryd.ntmps10
    go_wp2_with fail
    with_reducible refine (hc _).mono ?_
    rintro e w1 ⟨rfl, rfl⟩
    simp only []
    go_wp2_with fail
    go_ret
    exact ⟨ret_int hk.out.symm, rfl⟩
  · have hn : nanB b = false := by simp [nanB, h1]
    by_cases h2 : Fl.rg b = Fl.inf
    · have hk : Hid (kd b = 1) := hidI (by simp [kd, h2])
      have hi : decide (Fl.rg b = Fl.inf) = true := by simp [h2]
      simp only [hn] at hc
      simp only [hi] at hd
      clear h1 h2 hn hi
      go_enter Tryd.func10, Tryd.ntmps10
      go_wp2_with fail
      with_reducible refine (hc _).mono ?_
      rintro e w1 ⟨rfl, rfl⟩
      simp only []
      go_wp2_with fail
      with_reducible refine (hd _).mono ?_
      rintro e w1 ⟨rfl, rfl⟩
      simp only []
      go_wp2_with fail
      go_ret
      exact ⟨ret_int hk.out.symm, rfl⟩
    · have hi : decide (Fl.rg b = Fl.inf) = false := by simp [h2]
      by_cases h3 : Fl.rg b = 0
      · have hk : Hid (kd b = 2) := hidI (by have := inf_val; simp [kd, h1, h2, h3]; omega)
        have ho : (FloatKind.f64.format.order b 0 == some .eq) = true := by rw [hz.out]; simp [h3]
        simp only [hn] at hc
        simp only [hi] at hd
        clear h1 h2 h3 hn hi
        go_enter Tryd.func10, Tryd.ntmps10
        go_wp2_with fail
        with_reducible refine (hc _).mono ?_
        rintro e w1 ⟨rfl, rfl⟩
        simp only []
        go_wp2_with fail
        with_reducible refine (hd _).mono ?_
        rintro e w1 ⟨rfl, rfl⟩
        simp only []
        go_wp2_with fail
        go_ret
        exact ⟨ret_int hk.out.symm, rfl⟩
      · have hk : Hid (kd b = 3) := hidI (by simp [kd, h1, h2, h3])
        have ho : (FloatKind.f64.format.order b 0 == some .eq) = false := by rw [hz.out]; simp [h3]
        simp only [hn] at hc
        simp only [hi] at hd
        clear h1 h2 h3 hn hi
        go_enter Tryd.func10, Tryd.ntmps10
        go_wp2_with fail
        with_reducible refine (hc _).mono ?_
        rintro e w1 ⟨rfl, rfl⟩
        simp only []
        go_wp2_with fail
        with_reducible refine (hd _).mono ?_
        rintro e w1 ⟨rfl, rfl⟩
        simp only []
        go_wp2_with fail
        go_ret
        exact ⟨ret_int hk.out.symm, rfl⟩
end Go.Proofs.YtfigcncaadknlaaDoor
