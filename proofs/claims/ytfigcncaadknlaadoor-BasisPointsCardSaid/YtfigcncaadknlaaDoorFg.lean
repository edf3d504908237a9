/- basis.Text. -/
import Derived.Test.YtfigcncaadknlaaDoorFf
import Derived.Test.YtfigcncaadknlaaDoorShelf
namespace Go.Proofs.YtfigcncaadknlaaDoor
open Go.RowKit
set_option linter.unusedVariables false
set_option linter.unusedSimpArgs false
/-- Two figures. -/
def twoL (m : Nat) : List UInt8 := [UInt8.ofNat (48 + m / 10), UInt8.ofNat (48 + m % 10)]
def padF (m : Nat) : List UInt8 := if m < 10 then 48 :: Lib.decDigits m else Lib.decDigits m
theorem dec_one {m : Nat} (h : m < 10) : Lib.decDigits m = [UInt8.ofNat (48 + m)] := by rw [Lib.decDigits, dif_pos h]
theorem dec_two {m : Nat} (h1 : ¬ m < 10) (h2 : m < 100) : Lib.decDigits m = [UInt8.ofNat (48 + m / 10), UInt8.ofNat (48 + m % 10)] := by
  rw [Lib.decDigits, dif_neg h1, dec_one (by omega)]; rfl
theorem pad_two {m : Nat} (h : m < 100) : padF m = twoL m := by
  unfold padF twoL
  split
  · rename_i g
    rw [dec_one g, Nat.div_eq_of_lt g, Nat.mod_eq_of_lt g]; rfl
  · rename_i g
    exact dec_two g h
/-- What Text tells of a number from 0 to 10000. -/
def numT (n : Nat) : List UInt8 := Lib.decDigits (n / 100) ++ [46] ++ twoL (n % 100) ++ [37]
def textF (b : Nat) : ByteArray := ⟨(if Fl.inf < Fl.rg b then [45] else if (ptF b).2 = 2 then [62] else if (ptF b).2 ≠ 0 then [60] else numT (ptF b).1.toNat : List UInt8).toArray⟩
def TxP (r : ByteArray) (w : World) (e : Ending) (w' : World) : Prop := e = .returned (.string r) ∧ Below w.heap.size w w'
theorem fmt_any (n : Nat) (hn : n ≤ 100) (w : World) (htab : n = 100 → Lib.TabIs Tryd.prog w "internal/strconv.uint64pow10" .u64 Lib.pow10Tab) :
    Calls Tryd.prog 22 #[.int .i64 n, .int .i64 10] w (TxP ⟨(Lib.decDigits n).toArray⟩ w) := by
  by_cases h : n < 100
  · exact (Tryd.strconv_FormatInt_10_small n h w).mono fun e w' ⟨he, hw⟩ => ⟨he, hw ▸ Below.refl _ _⟩
  · refine (Tryd.strconv_FormatInt_10 n (by omega) (by omega) w (htab (by omega))).mono ?_
    rintro e w' ⟨he, k, os, rfl⟩
    refine ⟨?_, ⟨rfl, rfl, rfl, by simp [Sort.grow], fun b hb => by simp [Sort.grow, Array.getElem?_append_left hb]⟩⟩
    rw [he]
    unfold Lib.itoa
    rw [if_neg (by omega), Int.toNat_natCast]
theorem text_num (b n : Nat) (h : b < 2 ^ 64) (hn : n ≤ 10000) (hp : ptF b = ((n : Int), 0)) (hnan : ¬ Fl.inf < Fl.rg b) (w : World) (htab : n = 10000 → Lib.TabIs Tryd.prog w "internal/strconv.uint64pow10" .u64 Lib.pow10Tab) :
    Calls Tryd.prog 12 #[.float .f64 b] w (TxP ⟨(numT n).toArray⟩ w) := by
  have hP := fun w => points_any b h w
  simp only [hp] at hP
  have hO := fun w => Of_any b h w
  obtain ⟨k, hk0⟩ : ∃ k : Int, k = kd b := ⟨_, rfl⟩
  rw [← hk0] at hO
  have hk1 : (k == 0) = false := by
    rw [hk0]; unfold kd; rw [if_neg hnan]
    split
    · decide
    · split <;> decide
  clear hk0 hnan hp
  have f1 := fun w => Tryd.strconv_FormatInt_10_small (n % 100) (by omega) w
  have f2 := fmt_any (n / 100) (by omega) w (fun h => htab (by omega))
  rw [show ((n % 100 : Nat) : Int) = (n : Int) % 100 by omega] at f1
  rw [show ((n / 100 : Nat) : Int) = (n : Int) / 100 by omega] at f2
  have hfin : Hid (⟨(numT n).toArray⟩ = (⟨(Lib.decDigits (n / 100)).toArray⟩ : ByteArray) ++ ⟨#[46]⟩ ++ ⟨(padF (n % 100)).toArray⟩ ++ ⟨#[37]⟩) := hidI (by
    rw [pad_two (by omega)]; unfold numT; apply ByteArray.ext; simp)
  have hpz : Hid (padF (n % 100) = if n % 100 < 10 then 48 :: Lib.decDigits (n % 100) else Lib.decDigits (n % 100)) := hidI rfl
  have hz2 : (⟨(Lib.decDigits (n / 100)).toArray⟩ : ByteArray).size ≤ 3 := by
    show (Lib.decDigits (n / 100)).toArray.size ≤ 3
    by_cases g2 : n / 100 < 10
    · rw [dec_one g2]; simp
    · by_cases g3 : n / 100 < 100
      · rw [dec_two g2 g3]; simp
      · rw [show n / 100 = 100 by omega]; decide +kernel
  obtain ⟨T, hT⟩ : ∃ T : ByteArray, T = ⟨(Lib.decDigits (n / 100)).toArray⟩ := ⟨_, rfl⟩
  rw [← hT] at f2 hfin hz2
  obtain ⟨S, hS⟩ : ∃ S : ByteArray, S = ⟨(Lib.decDigits (n % 100)).toArray⟩ := ⟨_, rfl⟩
  rw [← hS] at f1
  by_cases g : n % 100 < 10
  · have hsz : S.size = 1 := by rw [hS]; show (Lib.decDigits (n % 100)).toArray.size = 1; rw [dec_one g]; rfl
    have hS2 := hidI hS
    have hlt : decide ((S.size : Int) < 2) = true := by rw [hsz]; rfl
    clear hS hT
    go_enter Tryd.func12, Tryd.ntmps12
    go_wp2_with fail
    with_reducible refine (hP _).mono ?_
    rintro e w1 ⟨rfl, rfl⟩
    simp only []
    go_wp2_with fail
    with_reducible refine (hO _).mono ?_
    rintro e w1 ⟨rfl, rfl⟩
    simp only []
    go_wp2_with fail
    with_reducible refine (f1 _).mono ?_
    rintro e w1 ⟨rfl, rfl⟩
    simp only []
    go_wp2_with fail
    with_reducible refine f2.mono ?_
    rintro e w2 ⟨rfl, hb⟩
    simp only []
    go_wp2_with fail
    go_ret
    refine ⟨?_, hb⟩
    rw [hfin.out, hpz.out, if_pos g, hS2.out]
    show Ending.returned (.string _) = _
    congr 2
  · have hsz : S.size = 2 := by rw [hS]; show (Lib.decDigits (n % 100)).toArray.size = 2; rw [dec_two g (by omega)]; rfl
    have hS2 := hidI hS
    have hlt : decide ((S.size : Int) < 2) = false := by rw [hsz]; rfl
    clear hS hT
    go_enter Tryd.func12, Tryd.ntmps12
    go_wp2_with fail
    with_reducible refine (hP _).mono ?_
    rintro e w1 ⟨rfl, rfl⟩
    simp only []
    go_wp2_with fail
    with_reducible refine (hO _).mono ?_
    rintro e w1 ⟨rfl, rfl⟩
    simp only []
    go_wp2_with fail
    with_reducible refine (f1 _).mono ?_
    rintro e w1 ⟨rfl, rfl⟩
    simp only []
    go_wp2_with fail
    with_reducible refine f2.mono ?_
    rintro e w2 ⟨rfl, hb⟩
    simp only []
    go_wp2_with fail
    go_ret
    refine ⟨?_, hb⟩
    rw [hfin.out, hpz.out, if_neg g, hS2.out]
    rfl
theorem text_any (b : Nat) (h : b < 2 ^ 64) (w : World) (htab : ptF b = (10000, 0) → Lib.TabIs Tryd.prog w "internal/strconv.uint64pow10" .u64 Lib.pow10Tab) :
    Calls Tryd.prog 12 #[.float .f64 b] w (TxP (textF b) w) := by
  have hP := fun w => points_any b h w
  have hO := fun w => Of_any b h w
  by_cases g1 : Fl.inf < Fl.rg b
  · have hr : Hid (textF b = ⟨#[45]⟩) := hidI (by unfold textF; rw [if_pos g1])
    rw [show kd b = 0 by unfold kd; rw [if_pos g1]] at hO
    clear g1 htab
    obtain ⟨p, hp⟩ : ∃ p, p = ptF b := ⟨_, rfl⟩
    rw [← hp] at hP
    clear hp
    obtain ⟨p1, p2⟩ := p
    go_enter Tryd.func12, Tryd.ntmps12
    go_wp2_with fail
    with_reducible refine (hP _).mono ?_
    rintro e w1 ⟨rfl, rfl⟩
    simp only []
    go_wp2_with fail
    with_reducible refine (hO _).mono ?_
    rintro e w1 ⟨rfl, rfl⟩
    simp only []
    go_wp2_with fail
    go_ret
    exact ⟨by rw [hr.out]; rfl, Below.refl _ _⟩
  have hcase : ptF b = (0, 1) ∨ ptF b = (0, 2) ∨ ∃ n : Nat, n ≤ 10000 ∧ ptF b = ((n : Int), 0) := by
    unfold ptF
    repeat' split
    · exact .inl rfl
    · exact .inr (.inr ⟨0, by omega, rfl⟩)
    · exact .inl rfl
    · exact .inr (.inl rfl)
    · exact .inr (.inl rfl)
    · exact .inr (.inl rfl)
    · rename_i hh; exact .inr (.inr ⟨_, Nat.le_of_not_lt hh, rfl⟩)
  obtain ⟨k, hk0⟩ : ∃ k : Int, k = kd b := ⟨_, rfl⟩
  rw [← hk0] at hO
  have hk1 : (k == 0) = false := by
    rw [hk0]; unfold kd; rw [if_neg g1]
    split
    · decide
    · split <;> decide
  rcases hcase with hc | hc | ⟨n, hn, hc⟩
  · have hr : Hid (textF b = ⟨#[60]⟩) := hidI (by unfold textF; rw [if_neg g1, hc]; rfl)
    rw [hc] at hP
    clear g1 htab hk0 hc
    go_enter Tryd.func12, Tryd.ntmps12
    go_wp2_with fail
    with_reducible refine (hP _).mono ?_
    rintro e w1 ⟨rfl, rfl⟩
    simp only []
    go_wp2_with fail
    with_reducible refine (hO _).mono ?_
    rintro e w1 ⟨rfl, rfl⟩
    simp only []
    go_wp2_with fail
    go_ret
    exact ⟨by rw [hr.out]; rfl, Below.refl _ _⟩
  · have hr : Hid (textF b = ⟨#[62]⟩) := hidI (by unfold textF; rw [if_neg g1, hc]; rfl)
    rw [hc] at hP
    clear g1 htab hk0 hc
    go_enter Tryd.func12, Tryd.ntmps12
    go_wp2_with fail
    with_reducible refine (hP _).mono ?_
    rintro e w1 ⟨rfl, rfl⟩
    simp only []
    go_wp2_with fail
    with_reducible refine (hO _).mono ?_
    rintro e w1 ⟨rfl, rfl⟩
    simp only []
    go_wp2_with fail
    go_ret
    exact ⟨by rw [hr.out]; rfl, Below.refl _ _⟩
  · have hr : textF b = ⟨(numT n).toArray⟩ := by unfold textF; rw [if_neg g1, hc]; rfl
    rw [hr]
    exact text_num b n h hn hc g1 w (fun e => htab (by rw [hc, e]; rfl))
end Go.Proofs.YtfigcncaadknlaaDoor
