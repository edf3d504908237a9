/- basis.Points. -/
import Derived.Test.YtfigcncaadknlaaDoorFe
namespace Go.Proofs.YtfigcncaadknlaaDoor
open Go.RowKit
set_option linter.unusedVariables false
set_option linter.unusedSimpArgs false
theorem pos_word {b : Nat} (h : b < 2 ^ 64) (hs : Fl.sg b = false) : Fl.rg b = b := by
  unfold Fl.sg at hs
  unfold Fl.rg
  have h1 : b / 9223372036854775808 < 2 := by omega
  have h2 : b / 9223372036854775808 = 0 := by
    rw [Nat.mod_eq_of_lt h1] at hs
    simp at hs
    omega
  omega
/-- x greater than zero. -/
theorem ord_pos (b : Nat) (h1 : ¬ Fl.inf < Fl.rg b) (h2 : ¬ Fl.rg b = 0) : (FloatKind.f64.format.order b 0 == some .gt) = !Fl.sg b ∧ (FloatKind.f64.format.order b 0 == some .lt) = Fl.sg b := by
  have hn : nanB b = false := by simp [nanB, h1]
  have hz : nanB 0 = false := by decide
  rw [ord_gt b 0 hn hz, ord_lt b 0 hn hz]
  have e0 : Fl.sv 0 = 0 := by unfold Fl.sv; rw [show Fl.rg 0 = 0 by decide, Fl.rv_zero]; simp
  rw [e0]
  have hp : 0 < Fl.rv (Fl.rg b) := rv_pos.2 (by omega)
  unfold Fl.sv
  cases Fl.sg b
  · simp only [Bool.false_eq_true, if_false, Bool.not_false]
    exact ⟨decide_eq_true (by omega), decide_eq_false (by omega)⟩
  · simp only [if_true, Bool.not_true]
    exact ⟨decide_eq_false (by omega), decide_eq_true (by omega)⟩
theorem mul_run (b : Nat) (h : Fl.rg b < Fl.inf) (hs : Fl.sg b = false) (w : World) : (binOp .mul 24 (.float .f64 b) (.float .f64 4666723172467343360)).run Tryd.prog w = .ok (.float .f64 (Fl.pr (Fl.rg b))) w :=
  run_float_arith w .mul 24 .f64 b Fl.W10 _ (by have := Fl.mul_eq b h; rw [hs, Fl.word_pos] at this; exact this)
theorem toIntegral_of (x : Nat) (d : Ieee.Datum) (hd : FloatKind.f64.decode x = d) (hn : ∀ s t, d ≠ .nan s t) : Extern.MathFloor.toIntegral "math.RoundToEven" .even #[.float .f64 x] = pure (.float .f64 (FloatKind.f64.encode (d.integral .even))) := by
  show (match FloatKind.f64.decode x with
    | .nan s t =>
      if FloatKind.f64.format.quiet t = t then pure (Value.float .f64 x) else do
      let kept ← choose (.extern "math.Floor,Ceil,Trunc,RoundToEven.signallingNaN kept" 2)
      pure (Value.float .f64 (if kept == 1 then x else FloatKind.f64.encode (.nan s (FloatKind.f64.format.quiet t))))
    | d => pure (Value.float .f64 (FloatKind.f64.encode (d.integral .even)))) = _
  rw [hd]
  cases d with
  | nan s t => exact absurd rfl (hn s t)
  | number s m e => rfl
  | infinity s => rfl
theorem rte_run (r : Nat) (h : r < Fl.inf) (w : World) : (callFunc 17 #[.float .f64 r]).run Tryd.prog w = .ok (.value (.float .f64 (Fl.fw (Fl.rte r)))) w := by
  have h1 := run_callFunc_extern Tryd.func17 (by kernel_rfl) (by kernel_rfl) (by kernel_rfl) (e := Extern.MathFloor.toIntegral "math.RoundToEven" .even) (by kernel_rfl) #[.float .f64 r] w
  rw [h1]
  have hi := Fl.integral_eq r h
  rw [Fl.parts r h] at hi
  have h2 := toIntegral_of r _ (Fl.parts r h) (fun s t e => by cases e)
  rw [h2]
  exact congrArg (fun x => Result.ok (Next.value (Value.float .f64 x)) w) hi
theorem rte_inf (w : World) : (callFunc 17 #[.float .f64 Fl.inf]).run Tryd.prog w = .ok (.value (.float .f64 Fl.inf)) w := by
  have h1 := run_callFunc_extern Tryd.func17 (by kernel_rfl) (by kernel_rfl) (by kernel_rfl) (e := Extern.MathFloor.toIntegral "math.RoundToEven" .even) (by kernel_rfl) #[.float .f64 Fl.inf] w
  rw [h1]
  have h2 := toIntegral_of Fl.inf (.infinity false) (by decide) (fun s t e => by cases e)
  rw [h2]
  exact congrArg (fun x => Result.ok (Next.value (Value.float .f64 x)) w) (show FloatKind.f64.encode (Ieee.Datum.integral .even (.infinity false)) = Fl.inf by decide)
theorem fw_inf (n : Nat) : Fl.fw n ≤ Fl.inf := by
  unfold Fl.fw; split
  · exact Nat.zero_le _
  · exact Fl.nr_inf _ _
theorem mulU (a n U : Nat) (h : a ≤ n) : a * U ≤ n * U := Nat.mul_le_mul_right U h
theorem mulV (a n U : Nat) (h : a ≤ n) : a * U * 2 ^ 0 ≤ n * U := by rw [Nat.pow_zero, Nat.mul_one]; exact Nat.mul_le_mul_right U h
theorem fw_gt (n : Nat) : Fl.fw 10000 < Fl.fw n ↔ 10000 < n := by
  by_cases h : n < 2 ^ 53
  · exact Fl.fw_lt 10000 n (by decide) h
  · have h1 : Fl.fw 10000 < Fl.fw 10001 := (Fl.fw_lt _ _ (by decide) (by decide)).2 (by decide)
    have h2 : Fl.fw 10001 ≤ Fl.fw n := by
      have h3 := Fl.fw_rv 10001 (by decide)
      show _ ≤ (if n = 0 then 0 else Fl.nr n 0)
      rw [if_neg (by omega)]
      refine Fl.nr_lo n 0 (by omega) _ (by omega) ?_
      rw [h3.1, show (-((0 : Int) + 1074)).toNat = 0 from rfl, show ((0 : Int) + 1074).toNat = 1074 from rfl]
      clear h3
      generalize (2 ^ 1074 : Nat) = U
      exact mulV _ _ _ (by omega)
    constructor
    · intro _; omega
    · intro _; omega
theorem sv_pos {r : Nat} (h : r ≤ Fl.inf) : Fl.sv r = (Fl.rv r : Int) := by
  unfold Fl.sv; rw [Fl.sg_pos h, Fl.rg_pos h]; simp
theorem nan_pos {r : Nat} (h : r ≤ Fl.inf) : nanB r = false := by
  unfold nanB; rw [Fl.rg_pos h]; simp; omega
theorem ord_W10 (r : Nat) (h : r ≤ Fl.inf) : (FloatKind.f64.format.order r 4666723172467343360 == some .gt) = decide (Fl.fw 10000 < r) := by
  have hw : (4666723172467343360 : Nat) = Fl.fw 10000 := Fl.fw_10000.symm
  rw [hw, ord_gt _ _ (nan_pos h) (nan_pos (fw_inf _)), sv_pos h, sv_pos (fw_inf _)]
  exact decide_eq_decide.2 (by have := rv_lt (r := Fl.fw 10000) (s := r); omega)
theorem int_run (n : Nat) (h : n < 2 ^ 53) (w : World) : (convert 24 2 (.float .f64 (Fl.fw n))).run Tryd.prog w = .ok (.int .i64 (n : Int)) w := by
  refine run_convert_float_int w 24 2 .f64 .i64 _ _ (by rw [Tryd.underlying24]; rfl) Tryd.underlying2 ?_
  have h1 := Fl.fw_rv n h
  have h2 := Fl.toInt_eq _ h1.2
  rw [h1.1] at h2
  have h3 : ∀ U, 0 < U → n * U / U = n := fun U hU => Nat.mul_div_cancel _ hU
  rw [h3 _ (Nat.two_pow_pos 1074)] at h2
  unfold floatToIntVal
  rw [show (FloatKind.f64.decode (Fl.fw n)).toInt .zero = some (n : Int) from h2]
  simp only []
  rw [if_pos]
  show (-9223372036854775808 : Int) ≤ n ∧ (n : Int) ≤ 9223372036854775807
  omega
/-- Points and the error's number: 0 none, 1 not whole, 2 over. -/
def ptF (b : Nat) : Int × Int :=
  if Fl.inf < Fl.rg b then (0, 1) else if Fl.rg b = 0 then (0, 0) else if Fl.sg b then (0, 1) else if Fl.rg b = Fl.inf then (0, 2)
  else if Fl.pr (Fl.rg b) = Fl.inf then (0, 2) else if 10000 < Fl.rte (Fl.pr (Fl.rg b)) then (0, 2) else ((Fl.rte (Fl.pr (Fl.rg b)) : Int), 0)
theorem points_any (b : Nat) (h : b < 2 ^ 64) (w : World) : Calls Tryd.prog 8 #[.float .f64 b] w fun e w' => e = .returned (.tuple #[.int .i64 (ptF b).1, .int .i64 (ptF b).2]) ∧ w' = w := by
  have hO := fun w => Of_any b h w
  by_cases g1 : Fl.inf < Fl.rg b
  · have hr : Hid (ptF b = (0, 1)) := hidI (by unfold ptF; rw [if_pos g1])
    rw [show kd b = 0 by unfold kd; rw [if_pos g1]] at hO
    clear g1
    go_enter Tryd.func8, Tryd.ntmps8
    go_wp2_with fail
    with_reducible refine (hO _).mono ?_
    rintro e w1 ⟨rfl, rfl⟩
    simp only []
    go_wp2_with fail
    go_ret2
    exact ⟨by rw [hr.out]; rfl, rfl⟩
  by_cases g2 : Fl.rg b = 0
  · have hr : Hid (ptF b = (0, 0)) := hidI (by unfold ptF; rw [if_neg g1, if_pos g2])
    rw [show kd b = 2 by unfold kd; have := inf_val; rw [if_neg g1, if_neg (by omega), if_pos g2]] at hO
    clear g1 g2
    go_enter Tryd.func8, Tryd.ntmps8
    go_wp2_with fail
    with_reducible refine (hO _).mono ?_
    rintro e w1 ⟨rfl, rfl⟩
    simp only []
    go_wp2_with fail
    go_ret2
    exact ⟨by rw [hr.out]; rfl, rfl⟩
  obtain ⟨hgt, hlt⟩ := ord_pos b g1 g2
  by_cases g3 : Fl.rg b = Fl.inf
  · rw [show kd b = 1 by unfold kd; rw [if_neg g1, if_pos g3]] at hO
    by_cases g4 : Fl.sg b = true
    · have hr : Hid (ptF b = (0, 1)) := hidI (by unfold ptF; rw [if_neg g1, if_neg g2, if_pos g4])
      rw [g4] at hgt hlt
      have hgt : (FloatKind.f64.format.order b 0 == some .gt) = false := hgt
      clear g1 g2 g3 g4
      go_enter Tryd.func8, Tryd.ntmps8
      go_wp2_with fail
      with_reducible refine (hO _).mono ?_
      rintro e w1 ⟨rfl, rfl⟩
      simp only []
      go_wp2_with fail
      go_ret2
      exact ⟨by rw [hr.out]; rfl, rfl⟩
    · rw [Bool.not_eq_true] at g4
      have hr : Hid (ptF b = (0, 2)) := hidI (by unfold ptF; rw [if_neg g1, if_neg g2, if_neg (by simp [g4]), if_pos g3])
      rw [g4] at hgt hlt
      have hgt : (FloatKind.f64.format.order b 0 == some .gt) = true := hgt
      clear g1 g2 g3 g4
      go_enter Tryd.func8, Tryd.ntmps8
      go_wp2_with fail
      with_reducible refine (hO _).mono ?_
      rintro e w1 ⟨rfl, rfl⟩
      simp only []
      go_wp2_with fail
      go_ret2
      exact ⟨by rw [hr.out]; rfl, rfl⟩
  rw [show kd b = 3 by unfold kd; rw [if_neg g1, if_neg g3, if_neg g2]] at hO
  by_cases g4 : Fl.sg b = true
  · have hr : Hid (ptF b = (0, 1)) := hidI (by unfold ptF; rw [if_neg g1, if_neg g2, if_pos g4])
    rw [g4] at hgt hlt
    clear g1 g2 g3 g4 hgt
    go_enter Tryd.func8, Tryd.ntmps8
    go_wp2_with fail
    with_reducible refine (hO _).mono ?_
    rintro e w1 ⟨rfl, rfl⟩
    simp only []
    go_wp2_with fail
    go_ret2
    exact ⟨by rw [hr.out]; rfl, rfl⟩
  rw [Bool.not_eq_true] at g4
  rw [g4] at hlt
  have hm := fun w => mul_run b (by omega) g4 w
  have hpi := Fl.pr_inf (Fl.rg b)
  have hP : Hid (ptF b = if Fl.pr (Fl.rg b) = Fl.inf then (0, 2) else if 10000 < Fl.rte (Fl.pr (Fl.rg b)) then (0, 2) else ((Fl.rte (Fl.pr (Fl.rg b)) : Int), 0)) := hidI (by unfold ptF; rw [if_neg g1, if_neg g2, if_neg (by simp [g4]), if_neg g3])
  clear hgt g1 g2 g3 g4
  generalize Fl.pr (Fl.rg b) = y at *
  by_cases g5 : y = Fl.inf
  · have hr : Hid (ptF b = (0, 2)) := hidI (by rw [hP.out, if_pos g5])
    have hi := fun w => rte_inf w
    rw [← g5] at hi
    have ho := ord_W10 y hpi
    rw [decide_eq_true (by rw [g5]; decide)] at ho
    clear g5 hP hpi
    go_enter Tryd.func8, Tryd.ntmps8
    go_wp2_with fail
    with_reducible refine (hO _).mono ?_
    rintro e w1 ⟨rfl, rfl⟩
    simp only []
    go_wp2_with fail
    go_ret2
    exact ⟨by rw [hr.out]; rfl, rfl⟩
  have hi := fun w => rte_run y (by omega) w
  have ho := ord_W10 (Fl.fw (Fl.rte y)) (fw_inf _)
  have hn := hidI (fw_gt (Fl.rte y))
  have hc := fun h w => int_run (Fl.rte y) h w
  generalize Fl.rte y = n at *
  generalize Fl.fw n = z at *
  by_cases g6 : 10000 < n
  · have hr : Hid (ptF b = (0, 2)) := hidI (by rw [hP.out, if_neg g5, if_pos g6])
    rw [decide_eq_true (hn.out.2 g6)] at ho
    clear g5 g6 hP hpi hn hc
    go_enter Tryd.func8, Tryd.ntmps8
    go_wp2_with fail
    with_reducible refine (hO _).mono ?_
    rintro e w1 ⟨rfl, rfl⟩
    simp only []
    go_wp2_with fail
    go_ret2
    exact ⟨by rw [hr.out]; rfl, rfl⟩
  · have hr : Hid (ptF b = ((n : Int), 0)) := hidI (by rw [hP.out, if_neg g5, if_neg g6])
    rw [decide_eq_false (fun h => g6 (hn.out.1 h))] at ho
    have hc := hc (by omega)
    clear g5 g6 hP hpi hn
    go_enter Tryd.func8, Tryd.ntmps8
    go_wp2_with fail
    with_reducible refine (hO _).mono ?_
    rintro e w1 ⟨rfl, rfl⟩
    simp only []
    go_wp2_with fail
    go_ret2
    exact ⟨by rw [hr.out]; rfl, rfl⟩
end Go.Proofs.YtfigcncaadknlaaDoor
