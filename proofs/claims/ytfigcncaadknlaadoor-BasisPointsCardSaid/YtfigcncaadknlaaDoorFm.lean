/- The reference's rounding. -/
import Derived.Test.YtfigcncaadknlaaDoorFi
namespace Go.Proofs.YtfigcncaadknlaaDoor
open Go.RowKit
set_option linter.unusedVariables false
set_option linter.unusedSimpArgs false
theorem ord_word (z W : Nat) (h : z < Fl.inf) (hwi : W ≤ Fl.inf) : (FloatKind.f64.format.order z W == some .gt) = decide (Fl.rv W < Fl.rv z) ∧ (FloatKind.f64.format.order z W == some .eq) = decide (Fl.rv z = Fl.rv W) := by
  have hz : z ≤ Fl.inf := by omega
  refine ⟨?_, ?_⟩
  · rw [ord_gt _ _ (nan_pos hz) (nan_pos hwi), sv_pos hz, sv_pos hwi]
    exact decide_eq_decide.2 (by omega)
  · rw [ord_eq]
    unfold ord
    rw [if_neg (by rw [Fl.rg_pos hz, Fl.rg_pos hwi]; omega), sv_pos hz, sv_pos hwi]
    by_cases g : Fl.rv z = Fl.rv W
    · rw [g]; simp
    · have : ¬ compare (Fl.rv z : Int) (Fl.rv W : Int) = .eq := by rw [Int.compare_eq_eq]; omega
      rw [decide_eq_false g]
      simpa using this
theorem ord_half (z : Nat) (h : z < Fl.inf) : (FloatKind.f64.format.order z 4602678819172646912 == some .gt) = decide (Fl.rv Fl.Wh < Fl.rv z) ∧ (FloatKind.f64.format.order z 4602678819172646912 == some .eq) = decide (Fl.rv z = Fl.rv Fl.Wh) :=
  ord_word z Fl.Wh h (by decide)
theorem round_plain (y : Nat) (h : y < Fl.inf) (ht : Fl.rv y / 2 ^ 1074 < 2 ^ 53) : ∃ (t z : Nat) (g e : Bool), t < 2 ^ 53 ∧ (FloatKind.f64.decode y).toInt .zero = some (t : Int) ∧ Ieee.double.sub y (Fl.fw t) = some z ∧
    (FloatKind.f64.format.order z 4602678819172646912 == some .gt) = g ∧ (FloatKind.f64.format.order z 4602678819172646912 == some .eq) = e ∧ Fl.rte y = t + (g || (e && t % 2 == 1)).toNat := by
  obtain ⟨z, hz, hzi, hzv⟩ := Fl.sub_eq y h ht
  obtain ⟨o1, o2⟩ := ord_half z hzi
  have hU : (2 : Nat) ^ 1074 = 2 * Fl.rv Fl.Wh := by
    have h1 := Fl.pow_sum 1 1073 1074 rfl
    rw [← Fl.rv_half, Nat.pow_one] at h1
    exact h1.symm
  refine ⟨_, z, _, _, ht, Fl.toInt_eq y h, hz, o1, o2, ?_⟩
  unfold Fl.rte
  rw [← hzv]
  generalize Fl.rv y / 2 ^ 1074 = t at *
  rw [hU]
  generalize Fl.rv z = r at *
  generalize Fl.rv Fl.Wh = H at *
  clear hzv hU hz o1 o2 ht
  have e1 : decide (2 * H < 2 * r) = decide (H < r) := decide_eq_decide.2 (by omega)
  have e2 : (2 * H == 2 * r) = decide (r = H) := by
    by_cases g : r = H
    · subst g; simp
    · rw [decide_eq_false g]; simp; omega
  rw [e1, e2]
theorem rounded_any (y : Nat) (h : y < Fl.inf) (ht : Fl.rv y / 2 ^ 1074 < 2 ^ 53) (w : World) : Calls Tryd.prog 19 #[.float .f64 y] w fun e w' => e = .returned (.int .i64 (Fl.rte y)) ∧ w' = w := by
  obtain ⟨t, z, g, e, t53, h1, h2, h3, h4, h5⟩ := round_plain y h ht
  have hc : ∀ w, (convert 24 2 (.float .f64 y)).run Tryd.prog w = .ok (.int .i64 (t : Int)) w := fun w => by
    refine run_convert_float_int w 24 2 .f64 .i64 _ _ (by rw [Tryd.underlying24]; rfl) Tryd.underlying2 ?_
    unfold floatToIntVal
    rw [h1]
    simp only []
    rw [if_pos]
    show (-9223372036854775808 : Int) ≤ t ∧ (t : Int) ≤ 9223372036854775807
    omega
  have hs : ∀ w, (binOp .sub 24 (.float .f64 y) (.float .f64 (floatOfInt .f64 (t : Int)))).run Tryd.prog w = .ok (.float .f64 z) w := fun w =>
    run_float_arith w .sub 24 .f64 y _ z (by
      have e : floatOfInt .f64 (t : Int) = Fl.fw t := Fl.fw_word t
      rw [e]; exact h2)
  generalize Fl.rte y = r at *
  clear h ht h1 h2
  have hp : t % 2 = 0 ∨ t % 2 = 1 := by omega
  cases g
  · cases e
    · have hr : Hid (r = t) := hidI (by simpa using h5)
      clear h5 hp
      go_enter Tryd.func19, Tryd.ntmps19
      go_wp2_with fail
      go_ret
      exact ⟨ret_int (by rw [hr.out]), rfl⟩
    · rcases hp with hp | hp
      · have hr : Hid (r = t) := hidI (by rw [h5, hp]; rfl)
        have hm : ((t : Int) % 2 == 1) = false := by simp; omega
        clear h5 hp
        go_enter Tryd.func19, Tryd.ntmps19
        go_wp2_with fail
        go_ret
        exact ⟨ret_int (by rw [hr.out]), rfl⟩
      · have hr : Hid (r = t + 1) := hidI (by rw [h5, hp]; rfl)
        have hm : ((t : Int) % 2 == 1) = true := by simp; omega
        clear h5 hp
        go_enter Tryd.func19, Tryd.ntmps19
        go_wp2_with fail
        go_ret
        exact ⟨ret_int (by rw [hr.out]; first | omega | (simp only [wrap64]; omega)), rfl⟩
  · have hr : Hid (r = t + 1) := hidI (by rw [h5]; rfl)
    clear h5 hp
    go_enter Tryd.func19, Tryd.ntmps19
    go_wp2_with fail
    go_ret
    exact ⟨ret_int (by rw [hr.out]; first | omega | (simp only [wrap64]; omega)), rfl⟩
end Go.Proofs.YtfigcncaadknlaaDoor
