/- The reference's Text. -/
import Derived.Test.YtfigcncaadknlaaDoorFn
namespace Go.Proofs.YtfigcncaadknlaaDoor
open Go.RowKit
set_option linter.unusedVariables false
set_option linter.unusedSimpArgs false
theorem dig_ext : ∀ k < 10, (⟨#[48, 49, 50, 51, 52, 53, 54, 55, 56, 57]⟩ : ByteArray).extract k (k + 1) = ⟨#[UInt8.ofNat (48 + k)]⟩ := by decide +kernel
theorem two_any (n : Nat) (h : n < 100) (w : World) : Calls Tryd.prog 23 #[.int .i64 (n : Int)] w fun e w' => e = .returned (.string ⟨#[UInt8.ofNat (48 + n / 10), UInt8.ofNat (48 + n % 10)]⟩) ∧ Below w.heap.size w w' := by
  have h1 : ¬ ((10 : Int) < (n : Int) / 10 + 1) := by omega
  have h2 : ¬ ((10 : Int) < (n : Int) % 10 + 1) := by omega
  have h3 : ¬ ((n : Int) / 10 + 1 < (n : Int) / 10) := by omega
  have h4 : ¬ ((n : Int) % 10 + 1 < (n : Int) % 10) := by omega
  have h5 : wrap64 ((n : Int) / 10 + 1) = (n : Int) / 10 + 1 := by simp only [wrap64]; omega
  have h6 : wrap64 ((n : Int) % 10 + 1) = (n : Int) % 10 + 1 := by simp only [wrap64]; omega
  go_enter Tryd.func23, Tryd.ntmps23
  go_wp2_with fail
  go_region
  go_wp2_with fail
  go_ret
  refine ⟨?_, Below.drew (Below.refl _ _)⟩
  show Ending.returned (.string (ByteArray.extract _ _ _ ++ ByteArray.extract _ _ _)) = _
  rw [dig_ext _ (by omega), dig_ext _ (by omega)]
  rfl
theorem two_zero (m : Nat) (h : m < 100) : (((UInt8.ofNat (48 + m / 10)).toNat : Int) == 48) = decide (m < 10) := by
  have : ∀ m < 100, (((UInt8.ofNat (48 + m / 10)).toNat : Int) == 48) = decide (m < 10) := by decide +kernel
  exact this m h
theorem rtext_num (b n : Nat) (h : b < 2 ^ 64) (hn : n < 10000) (hp : ptF b = ((n : Int), 0)) (hnan : ¬ Fl.inf < Fl.rg b) (w : World) :
    Calls Tryd.prog 13 #[.float .f64 b, .int .u64 (b : Int)] w (TxP ⟨(numT n).toArray⟩ w) := by
  have hP := fun w => rpoints_any b h w
  simp only [hp] at hP
  have hO := fun w => kind_any b h w
  obtain ⟨k, hk0⟩ : ∃ k : Int, k = kd b := ⟨_, rfl⟩
  rw [← hk0] at hO
  have hk1 : (k == 0) = false := by
    rw [hk0]; unfold kd; rw [if_neg hnan]
    split
    · decide
    · split <;> decide
  clear hk0 hnan hp
  have f1 := fun w => two_any (n % 100) (by omega) w
  have f2 := fun w => two_any (n / 100) (by omega) w
  have hz := two_zero (n / 100) (by omega)
  have hnum : Hid (numT n = Lib.decDigits (n / 100) ++ [46] ++ twoL (n % 100) ++ [37]) := hidI rfl
  have hpad : Hid (padF (n / 100) = twoL (n / 100)) := hidI (pad_two (by omega))
  unfold padF at hpad
  rw [show ((n % 100 : Nat) : Int) = (n : Int) % 100 by omega] at f1
  rw [show ((n / 100 : Nat) : Int) = (n : Int) / 100 by omega] at f2
  have hne : ((n : Int) == 10000) = false := by simp; omega
  have hA : ∀ m, twoL m = [UInt8.ofNat (48 + m / 10), UInt8.ofNat (48 + m % 10)] := fun m => rfl
  rw [hA] at hnum hpad
  obtain ⟨x, hx⟩ : ∃ x, x = UInt8.ofNat (48 + n / 100 / 10) := ⟨_, rfl⟩
  obtain ⟨y, hy⟩ : ∃ x, x = UInt8.ofNat (48 + n / 100 % 10) := ⟨_, rfl⟩
  obtain ⟨x2, hx2⟩ : ∃ x, x = UInt8.ofNat (48 + n % 100 / 10) := ⟨_, rfl⟩
  obtain ⟨y2, hy2⟩ : ∃ x, x = UInt8.ofNat (48 + n % 100 % 10) := ⟨_, rfl⟩
  simp only [← hx, ← hy] at f2 hz hpad
  simp only [← hx2, ← hy2] at f1 hnum
  clear hA hx hy hx2 hy2
  by_cases g : n / 100 < 10
  · rw [decide_eq_true g] at hz
    rw [if_pos g] at hpad
    have hd : Hid (Lib.decDigits (n / 100) = [y]) := hidI (by have := hpad.out; injection this)
    have hz' : ((((⟨#[x, y]⟩ : ByteArray)[0]'(show 0 < 2 by decide)).toNat : Int) == 48) = true := hz
    clear g hpad hz
    go_enter Tryd.func13, Tryd.ntmps13
    go_wp2_with fail
    with_reducible refine (hP _).mono ?_
    rintro e w1 ⟨rfl, rfl⟩
    simp only []
    go_wp2_with fail
    with_reducible refine (hO _).mono ?_
    rintro e w1 ⟨rfl, rfl⟩
    simp only []
    go_wp2_with fail
    with_reducible refine (f2 _).mono ?_
    rintro e w2 ⟨rfl, hb⟩
    simp only []
    go_wp2_with fail
    with_reducible refine (f1 _).mono ?_
    rintro e w3 ⟨rfl, hb2⟩
    simp only []
    go_wp2_with fail
    go_ret
    refine ⟨?_, below_step hb hb2⟩
    rw [hnum.out, hd.out]
    show Ending.returned (.string _) = _
    congr 2
  · rw [decide_eq_false g] at hz
    rw [if_neg g] at hpad
    have hd : Hid (Lib.decDigits (n / 100) = [x, y]) := hpad
    have hz' : ((((⟨#[x, y]⟩ : ByteArray)[0]'(show 0 < 2 by decide)).toNat : Int) == 48) = false := hz
    clear g hpad hz
    go_enter Tryd.func13, Tryd.ntmps13
    go_wp2_with fail
    with_reducible refine (hP _).mono ?_
    rintro e w1 ⟨rfl, rfl⟩
    simp only []
    go_wp2_with fail
    with_reducible refine (hO _).mono ?_
    rintro e w1 ⟨rfl, rfl⟩
    simp only []
    go_wp2_with fail
    with_reducible refine (f2 _).mono ?_
    rintro e w2 ⟨rfl, hb⟩
    simp only []
    go_wp2_with fail
    with_reducible refine (f1 _).mono ?_
    rintro e w3 ⟨rfl, hb2⟩
    simp only []
    go_wp2_with fail
    go_ret
    refine ⟨?_, below_step hb hb2⟩
    rw [hnum.out, hd.out]
    show Ending.returned (.string _) = _
    congr 2
theorem num_top : numT 10000 = [49, 48, 48, 46, 48, 48, 37] := by
  unfold numT
  rw [show 10000 / 100 = 100 from rfl, Lib.decDigits, dif_neg (by decide), show 100 / 10 = 10 from rfl, dec_two (by decide) (by decide)]
  rfl
theorem rtext_any (b : Nat) (h : b < 2 ^ 64) (w : World) : Calls Tryd.prog 13 #[.float .f64 b, .int .u64 (b : Int)] w (TxP (textF b) w) := by
  have hP := fun w => rpoints_any b h w
  have hO := fun w => kind_any b h w
  by_cases g1 : Fl.inf < Fl.rg b
  · have hr : Hid (textF b = ⟨#[45]⟩) := hidI (by unfold textF; rw [if_pos g1])
    rw [show kd b = 0 by unfold kd; rw [if_pos g1]] at hO
    clear g1
    obtain ⟨p, hp⟩ : ∃ p, p = ptF b := ⟨_, rfl⟩
    rw [← hp] at hP
    clear hp
    obtain ⟨p1, p2⟩ := p
    go_enter Tryd.func13, Tryd.ntmps13
    go_wp2_with fail
    with_reducible refine (hP _).mono ?_
    rintro e w1 ⟨rfl, rfl⟩
    simp only []
    go_wp2_with fail
    with_reducible refine (hO _).mono ?_
    rintro e w1 ⟨rfl, rfl⟩
    simp only []
    go_wp2_with fail
    go_ret
    exact ⟨by rw [hr.out]; rfl, Below.refl _ _⟩
  have hcase : ptF b = (0, 1) ∨ ptF b = (0, 2) ∨ ptF b = (10000, 0) ∨ ∃ n : Nat, n < 10000 ∧ ptF b = ((n : Int), 0) := by
    unfold ptF
    repeat' split
    · exact .inl rfl
    · exact .inr (.inr (.inr ⟨0, by omega, rfl⟩))
    · exact .inl rfl
    · exact .inr (.inl rfl)
    · exact .inr (.inl rfl)
    · exact .inr (.inl rfl)
    · rename_i hh
      by_cases g : Fl.rte (Fl.pr (Fl.rg b)) = 10000
      · rw [g]; exact .inr (.inr (.inl rfl))
      · exact .inr (.inr (.inr ⟨_, Nat.lt_of_le_of_ne (Nat.le_of_not_lt hh) g, rfl⟩))
  obtain ⟨k, hk0⟩ : ∃ k : Int, k = kd b := ⟨_, rfl⟩
  rw [← hk0] at hO
  have hk1 : (k == 0) = false := by
    rw [hk0]; unfold kd; rw [if_neg g1]
    split
    · decide
    · split <;> decide
  rcases hcase with hc | hc | hc | ⟨n, hn, hc⟩
  · have hr : Hid (textF b = ⟨#[60]⟩) := hidI (by unfold textF; rw [if_neg g1, hc]; rfl)
    rw [hc] at hP
    clear g1 hk0 hc
    go_enter Tryd.func13, Tryd.ntmps13
    go_wp2_with fail
    with_reducible refine (hP _).mono ?_
    rintro e w1 ⟨rfl, rfl⟩
    simp only []
    go_wp2_with fail
    with_reducible refine (hO _).mono ?_
    rintro e w1 ⟨rfl, rfl⟩
    simp only []
    go_wp2_with fail
    go_ret
    exact ⟨by rw [hr.out]; rfl, Below.refl _ _⟩
  · have hr : Hid (textF b = ⟨#[62]⟩) := hidI (by unfold textF; rw [if_neg g1, hc]; rfl)
    rw [hc] at hP
    clear g1 hk0 hc
    go_enter Tryd.func13, Tryd.ntmps13
    go_wp2_with fail
    with_reducible refine (hP _).mono ?_
    rintro e w1 ⟨rfl, rfl⟩
    simp only []
    go_wp2_with fail
    with_reducible refine (hO _).mono ?_
    rintro e w1 ⟨rfl, rfl⟩
    simp only []
    go_wp2_with fail
    go_ret
    exact ⟨by rw [hr.out]; rfl, Below.refl _ _⟩
  · have hr : Hid (textF b = ⟨#[49, 48, 48, 46, 48, 48, 37]⟩) := hidI (by unfold textF; rw [if_neg g1, hc]; show (⟨(numT 10000).toArray⟩ : ByteArray) = _; rw [num_top])
    rw [hc] at hP
    clear g1 hk0 hc
    go_enter Tryd.func13, Tryd.ntmps13
    go_wp2_with fail
    with_reducible refine (hP _).mono ?_
    rintro e w1 ⟨rfl, rfl⟩
    simp only []
    go_wp2_with fail
    with_reducible refine (hO _).mono ?_
    rintro e w1 ⟨rfl, rfl⟩
    simp only []
    go_wp2_with fail
    go_ret
    exact ⟨by rw [hr.out]; rfl, Below.refl _ _⟩
  · have hr : textF b = ⟨(numT n).toArray⟩ := by unfold textF; rw [if_neg g1, hc]; rfl
    rw [hr]
    exact rtext_num b n h hn hc g1 w
end Go.Proofs.YtfigcncaadknlaaDoor
