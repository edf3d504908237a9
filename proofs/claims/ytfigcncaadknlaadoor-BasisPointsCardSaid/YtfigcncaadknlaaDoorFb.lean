/- Comparing two doubles: cmp.Compare, cmp.Or, basis.Compare; the reference by a key. -/
import Derived.Test.YtfigcncaadknlaaDoorFa
namespace Go.Proofs.YtfigcncaadknlaaDoor
open Go.RowKit
set_option linter.unusedVariables false
set_option linter.unusedSimpArgs false
theorem flag_any (x : Bool) (w : World) : Calls Tryd.prog 26 #[.bool x] w fun e w' => e = .returned (.int .i64 (if x then 1 else 0)) ∧ w' = w := by
  cases x
  · go_enter Tryd.func26, Tryd.ntmps26
    go_wp2_with fail
    go_ret
    exact ⟨rfl, rfl⟩
  · go_enter Tryd.func26, Tryd.ntmps26
    go_wp2_with fail
    go_ret
    exact ⟨rfl, rfl⟩
theorem sign_lt (b : Nat) (h : b < 2 ^ 64) : decide (wrap64 (b : Int) < 0) = Fl.sg b := by
  simp only [wrap64, Fl.sg]
  by_cases g : b < 9223372036854775808
  · have h1 : b / 9223372036854775808 = 0 := Nat.div_eq_of_lt g
    rw [h1]
    have : ¬ ((((b : Int) + 9223372036854775808) % 18446744073709551616 - 9223372036854775808) < 0) := by omega
    simp [this]
  · have h1 : b / 9223372036854775808 = 1 := by omega
    rw [h1]
    have : ((((b : Int) + 9223372036854775808) % 18446744073709551616 - 9223372036854775808) < 0) := by omega
    simp [this]
theorem signbit_any (b : Nat) (h : b < 2 ^ 64) (w : World) : Calls Tryd.prog 27 #[.float .f64 b] w fun e w' => e = .returned (.bool (Fl.sg b)) ∧ w' = w := by
  have h1 := bits_run b w
  have hs := hidI (sign_lt b h)
  go_enter Tryd.func27, Tryd.ntmps27
  go_wp2_with fail
  go_ret
  exact ⟨ret_bool hs.out, rfl⟩
theorem or_any (b : Nat) (x y : Int) (w : World) (c0 : w.cell? ⟨b, 0, none⟩ = some (.int .i64 x)) (c1 : w.cell? ⟨b, 1, none⟩ = some (.int .i64 y)) :
    Calls Tryd.prog 24 #[.slice (some ⟨b, 0, none⟩) 2 2] w fun e w' => e = .returned (.int .i64 (if x = 0 then y else x)) ∧ w' = w := by
  have hX : Hid (∀ e, Ending.returned (.int .i64 (if x = 0 then y else x)) = e → e = Ending.returned (.int .i64 (if x = 0 then y else x))) := hidI fun e h => h.symm
  go_enter Tryd.func24, Tryd.ntmps24
  go_wp2_with fail
  go_loopw [8] (fun i wr => ∃ k : Nat, k ≤ 2 ∧ i = .int .i64 k ∧ Hid (wr = w ∧ (1 ≤ k → x = 0) ∧ (2 ≤ k → y = 0))) (fun i _ => 2 - (intOf i).toNat)
  case atStart => exact ⟨0, by omega, rfl, hidI ⟨rfl, fun h => by omega, fun h => by omega⟩⟩
  case round =>
    obtain ⟨k, hk, rfl, hI⟩ := hrel
    obtain ⟨hw, h1, h2⟩ := hI.out
    subst hw
    have h12 : k = 0 ∨ k = 1 ∨ k = 2 := by omega
    clear hI
    rcases h12 with rfl | rfl | rfl
    · by_cases hx : x = 0
      · subst hx
        clear h1 h2 hk
        go_wp2_with fail
        go_roundw
        · exact ⟨1, by omega, by simp, hidI (by simp)⟩
        · simp [intOf]
      · have hx' : (x != 0) = true := by simp [hx]
        clear h1 h2 hk
        go_wp2_with fail
        go_ret
        exact ⟨by simp [hx], rfl⟩
    · obtain rfl := h1 (by omega)
      by_cases hx : y = 0
      · subst hx
        clear h1 h2 hk
        go_wp2_with fail
        go_roundw
        · exact ⟨2, by omega, by simp, hidI (by simp)⟩
        · simp [intOf]
      · have hx' : (y != 0) = true := by simp [hx]
        clear h1 h2 hk
        go_wp2_with fail
        go_ret
        exact ⟨by simp, rfl⟩
    · obtain rfl := h1 (by omega)
      obtain rfl := h2 (by omega)
      clear h1 h2 hk
      go_wp2_with fail
      go_ret
      exact ⟨rfl, rfl⟩
/-- cmp.Compare of two doubles. -/
def cc (a b : Nat) : Int := if nanB a then (if nanB b then 0 else -1) else if nanB b then 1 else if Fl.sv a < Fl.sv b then -1 else if Fl.sv b < Fl.sv a then 1 else 0
theorem ord_lt (a b : Nat) (ha : nanB a = false) (hb : nanB b = false) : (FloatKind.f64.format.order a b == some .lt) = decide (Fl.sv a < Fl.sv b) := by
  rw [ord_eq]
  unfold ord
  unfold nanB at ha hb
  rw [if_neg (by simp_all)]
  by_cases h : Fl.sv a < Fl.sv b
  · have : compare (Fl.sv a) (Fl.sv b) = .lt := Int.compare_eq_lt.2 h
    simp [this, h]
  · have : ¬ compare (Fl.sv a) (Fl.sv b) = .lt := fun e => h (Int.compare_eq_lt.1 e)
    simpa [h] using this
theorem ord_gt (a b : Nat) (ha : nanB a = false) (hb : nanB b = false) : (FloatKind.f64.format.order a b == some .gt) = decide (Fl.sv b < Fl.sv a) := by
  rw [ord_eq]
  unfold ord
  unfold nanB at ha hb
  rw [if_neg (by simp_all)]
  by_cases h : Fl.sv b < Fl.sv a
  · have : compare (Fl.sv a) (Fl.sv b) = .gt := Int.compare_eq_gt.2 h
    simp [this, h]
  · have : ¬ compare (Fl.sv a) (Fl.sv b) = .gt := fun e => h (Int.compare_eq_gt.1 e)
    simpa [h] using this
theorem cmp_any (a b : Nat) (w : World) : Calls Tryd.prog 25 #[.float .f64 a, .float .f64 b] w fun e w' => e = .returned (.int .i64 (cc a b)) ∧ w' = w := by
  have hca := fun w => isNaN_any a w
  have hcb := fun w => isNaN_any b w
  have h3 := ord_lt a b
  have h4 := ord_gt a b
  have hk : ∀ r, cc a b = r → Hid (r = cc a b) := fun r h => hidI h.symm
  unfold cc at hk
  by_cases ga : nanB a = true
  · by_cases gb : nanB b = true
    · have hk := hk 0 (by simp [ga, gb])
      simp only [ga] at hca; simp only [gb] at hcb
      clear h3 h4 ga gb
      go_enter Tryd.func25, Tryd.ntmps25
      go_wp2_with fail
      with_reducible refine (hca _).mono ?_
      rintro e w1 ⟨rfl, rfl⟩
      simp only []
      go_wp2_with fail
      with_reducible refine (hcb _).mono ?_
      rintro e w1 ⟨rfl, rfl⟩
      simp only []
      go_wp2_with fail
      go_ret
      exact ⟨ret_int hk.out, rfl⟩
    · rw [Bool.not_eq_true] at gb
      have hk := hk (-1) (by simp [ga, gb])
      simp only [ga] at hca; simp only [gb] at hcb
      clear h3 h4 ga gb
      go_enter Tryd.func25, Tryd.ntmps25
      go_wp2_with fail
      with_reducible refine (hca _).mono ?_
      rintro e w1 ⟨rfl, rfl⟩
      simp only []
      go_wp2_with fail
      with_reducible refine (hcb _).mono ?_
      rintro e w1 ⟨rfl, rfl⟩
      simp only []
      go_wp2_with fail
      go_ret
      exact ⟨ret_int hk.out, rfl⟩
  · rw [Bool.not_eq_true] at ga
    by_cases gb : nanB b = true
    · have hk := hk 1 (by simp [ga, gb])
      simp only [ga] at hca; simp only [gb] at hcb
      clear h3 h4 ga gb
      go_enter Tryd.func25, Tryd.ntmps25
      go_wp2_with fail
      with_reducible refine (hca _).mono ?_
      rintro e w1 ⟨rfl, rfl⟩
      simp only []
      go_wp2_with fail
      with_reducible refine (hcb _).mono ?_
      rintro e w1 ⟨rfl, rfl⟩
      simp only []
      go_wp2_with fail
      go_ret
      exact ⟨ret_int hk.out, rfl⟩
    · rw [Bool.not_eq_true] at gb
      have h3 := h3 ga gb
      have h4 := h4 ga gb
      by_cases hl : Fl.sv a < Fl.sv b
      · have hk := hk (-1) (by simp [ga, gb, hl])
        rw [decide_eq_true hl] at h3
        simp only [ga] at hca; simp only [gb] at hcb
        clear h4 ga gb hl
        go_enter Tryd.func25, Tryd.ntmps25
        go_wp2_with fail
        with_reducible refine (hca _).mono ?_
        rintro e w1 ⟨rfl, rfl⟩
        simp only []
        go_wp2_with fail
        with_reducible refine (hcb _).mono ?_
        rintro e w1 ⟨rfl, rfl⟩
        simp only []
        go_wp2_with fail
        go_ret
        exact ⟨ret_int hk.out, rfl⟩
      · rw [decide_eq_false hl] at h3
        by_cases hg : Fl.sv b < Fl.sv a
        · have hk := hk 1 (by simp [ga, gb, hl, hg])
          rw [decide_eq_true hg] at h4
          simp only [ga] at hca; simp only [gb] at hcb
          clear ga gb hl hg
          go_enter Tryd.func25, Tryd.ntmps25
          go_wp2_with fail
          with_reducible refine (hca _).mono ?_
          rintro e w1 ⟨rfl, rfl⟩
          simp only []
          go_wp2_with fail
          with_reducible refine (hcb _).mono ?_
          rintro e w1 ⟨rfl, rfl⟩
          simp only []
          go_wp2_with fail
          go_ret
          exact ⟨ret_int hk.out, rfl⟩
        · have hk := hk 0 (by simp [ga, gb, hl, hg])
          rw [decide_eq_false hg] at h4
          simp only [ga] at hca; simp only [gb] at hcb
          clear ga gb hl hg
          go_enter Tryd.func25, Tryd.ntmps25
          go_wp2_with fail
          with_reducible refine (hca _).mono ?_
          rintro e w1 ⟨rfl, rfl⟩
          simp only []
          go_wp2_with fail
          with_reducible refine (hcb _).mono ?_
          rintro e w1 ⟨rfl, rfl⟩
          simp only []
          go_wp2_with fail
          go_ret
          exact ⟨ret_int hk.out, rfl⟩
end Go.Proofs.YtfigcncaadknlaaDoor
