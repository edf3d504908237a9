/- What the statement leans on, part 5: functions of the program and of the reference as Lean functions, their contracts, and plain laws. -/
import Derived.Test.YtncnhhnbjmpomaaMPS4
namespace Go.Proofs.Ytncnhhnbjmpomaa.Q
open Go.RowKit Go.Proofs.YtncnhhnbjmpomaaW.PrintWords Go.Proofs.YtncnhhnbjmpomaaW.PrintLast Go.Proofs.YtncnhhnbjmpomaaW.PrintMore
attribute [local go_sem] max2_int min2_int max_two min_two max_three min_three max_four min_four   -- for this text's walks alone
set_option linter.unusedVariables false
set_option linter.unusedSimpArgs false
def soukref01_Add.j0 : Nat → Int → Int → Bool → Option (Int × Bool)
 | 0, _, _, _ => none
 | k + 1, x0, x1, x13 => if x13 = true then (some (0, false)) else (if x1 < 0 then (if x0 < (wrap64 ((-9223372036854775808) - x1)) then (some (0, false)) else (some (wrap64 (x0 + x1), true))) else (some (wrap64 (x0 + x1), true)))
def soukref01_Add.f (k : Nat) (a0 : Int) (a1 : Int) : Option (Int × Bool) := if a1 > 0 then (soukref01_Add.j0 k a0 a1 (decide (a0 > (wrap64 (9223372036854775807 - a1))))) else (soukref01_Add.j0 k a0 a1 false)
set_option maxHeartbeats 8000000 in
set_option maxRecDepth 100000 in
theorem soukref01_Add.calls (k : Nat) (a0 : Int) (a1 : Int) (r1 : Int) (r2 : Bool) (w : World) (h : soukref01_Add.f k a0 a1 = some (r1, r2)) :
  Calls Try.prog 37 #[.int .i64 a0, .int .i64 a1] w fun e w' => e = .returned (.tuple #[.int .i64 r1, .bool r2]) ∧ Drawn0 w w' := by
 have H : (if a1 > 0 then (soukref01_Add.j0 k a0 a1 (decide (a0 > (wrap64 (9223372036854775807 - a1))))) else (soukref01_Add.j0 k a0 a1 false)) = some (r1, r2) := h
 clear h
 have HC3 := Aside0.mk H
 clear H
 go_enter Try.func37, Try.ntmps37
 go_upto_region 1 with (fail)
 go_cut [13] (fun v13 wc => ∃ (kq : Nat) (x13_2 : Bool), v13 = .bool x13_2 ∧ Aside0 (soukref01_Add.j0 kq a0 a1 x13_2 = some (r1, r2)) ∧ Aside0 (kq ≤ k) ∧ Drawn0 w wc)
 case first =>
  have H := HC3.out
  clear HC3
  by_cases c4 : a1 > 0
  ·rw [if_pos c4] at H
   have c4b0 : decide (0 < a1) = true := decide_eq_true c4
   clear c4
   (first | rw [c4b0] | (simp only [i64_w, i32_w]; rw [c4b0]) | skip)
   have H' := Aside0.mk H
   clear H
   go_wp2
   go_meet
   case rel => exact ⟨_, (decide (a0 > (wrap64 (9223372036854775807 - a1)))), (by first | rfl | (simp; done) | (simp [*]; done)), H', ⟨by first | omega | exact Nat.le_refl _⟩, by repeat (first | exact Drawn0.refl _ | apply Drawn0.step)⟩
  ·rw [if_neg c4] at H
   have c4b0 : decide (0 < a1) = false := decide_eq_false c4
   clear c4
   (first | rw [c4b0] | (simp only [i64_w, i32_w]; rw [c4b0]) | skip)
   have H' := Aside0.mk H
   clear H
   go_wp2
   go_meet
   case rel => exact ⟨_, (false), (by first | rfl | (simp; done) | (simp [*]; done)), H', ⟨by first | omega | exact Nat.le_refl _⟩, by repeat (first | exact Drawn0.refl _ | apply Drawn0.step)⟩
 case rest =>
  clear HC3
  try clear p2
  try clear c3
  try clear c4
  try clear c4b0
  obtain ⟨kq, x13_2, rfl, HA, HJ2, ⟨mc2, rfl⟩⟩ := hcut
  cases kq with
  | zero => exact absurd HA.out (by simp [soukref01_Add.j0])
  | succ kj2 =>
   have H := HA.out
   clear HA
   simp only [soukref01_Add.j0] at H
   by_cases c5 : x13_2 = true
   ·subst c5
    have H1 : (some (0, false)) = some (r1, r2) := by rw [if_pos rfl] at H; exact H
    clear H
    have H := H1
    clear H1
    simp only [Option.some.injEq, Prod.mk.injEq] at H
    obtain ⟨rfl, rfl⟩ := H
    go_wp2
    go_ret2
    exact ⟨by first | rfl | (simp; done) | (simp [*]; done), by repeat (first | exact Drawn0.refl _ | apply Drawn0.step)⟩
   ·replace c5 := Bool.eq_false_iff.mpr c5
    subst c5
    have H1 : (if a1 < 0 then (if a0 < (wrap64 ((-9223372036854775808) - a1)) then (some (0, false)) else (some (wrap64 (a0 + a1), true))) else (some (wrap64 (a0 + a1), true))) = some (r1, r2) := by rw [if_neg (show ¬ (false = true) by decide)] at H; exact H
    clear H
    have H := H1
    clear H1
    by_cases c6 : a1 < 0
    ·rw [if_pos c6] at H
     have c6b0 : decide (a1 < 0) = true := decide_eq_true c6
     clear c6
     by_cases c7 : a0 < (wrap64 ((-9223372036854775808) - a1))
     ·rw [if_pos c7] at H
      have c7b0 : decide (a0 < (wrap64 ((-9223372036854775808) - a1))) = true := decide_eq_true c7
      clear c7
      simp only [Option.some.injEq, Prod.mk.injEq] at H
      obtain ⟨rfl, rfl⟩ := H
      go_wp2
      go_ret2
      exact ⟨by first | rfl | (simp; done) | (simp [*]; done), by repeat (first | exact Drawn0.refl _ | apply Drawn0.step)⟩
     ·rw [if_neg c7] at H
      have c7b0 : decide (a0 < (wrap64 ((-9223372036854775808) - a1))) = false := decide_eq_false c7
      clear c7
      simp only [Option.some.injEq, Prod.mk.injEq] at H
      obtain ⟨rfl, rfl⟩ := H
      go_wp2
      go_ret2
      exact ⟨by first | rfl | (simp; done) | (simp [*]; done), by repeat (first | exact Drawn0.refl _ | apply Drawn0.step)⟩
    ·rw [if_neg c6] at H
     have c6b0 : decide (a1 < 0) = false := decide_eq_false c6
     clear c6
     simp only [Option.some.injEq, Prod.mk.injEq] at H
     obtain ⟨rfl, rfl⟩ := H
     go_wp2
     go_ret2
     exact ⟨by first | rfl | (simp; done) | (simp [*]; done), by repeat (first | exact Drawn0.refl _ | apply Drawn0.step)⟩
end Go.Proofs.Ytncnhhnbjmpomaa.Q
namespace Go.Proofs.Ytncnhhnbjmpomaa.Q
open Go.RowKit Go.Proofs.YtncnhhnbjmpomaaW.PrintWords Go.Proofs.YtncnhhnbjmpomaaW.PrintLast Go.Proofs.YtncnhhnbjmpomaaW.PrintMore
attribute [local go_sem] max2_int min2_int max_two min_two max_three min_three max_four min_four   -- for this text's walks alone
set_option linter.unusedVariables false
set_option linter.unusedSimpArgs false
def soukref01_Sum.l0 : Nat → List Int → Int → Int → Option (Int × Bool)
 | 0, _, _, _ => none
 | k + 1, x0, x4, x5 => if x5 < (x0.length : Int) then (if 0 ≤ x5 then ((soukref01_Add.f k x4 (rd x0 x5)).bind fun bt129 => (if bt129.2 = true then (soukref01_Sum.l0 k x0 bt129.1 (wrap64 (x5 + 1))) else (some (0, false)))) else (none)) else (some (x4, true))
def soukref01_Sum.f (k : Nat) (l0 : List Int) : Option (Int × Bool) := soukref01_Sum.l0 k l0 0 0
set_option maxHeartbeats 8000000 in
set_option maxRecDepth 100000 in
theorem soukref01_Sum.calls (k : Nat) (A0 : Option Addr) (c0 : Nat) (l0 : List Int) (r1 : Int) (r2 : Bool) (w : World) (hr0 : Kd.C (Kd.int .i64) w A0 l0.length l0) (hc0 : l0.length ≤ c0) (h : soukref01_Sum.f k l0 = some (r1, r2)) :
  Calls Try.prog 14 #[.slice A0 l0.length c0] w fun e w' => e = .returned (.tuple #[.int .i64 r1, .bool r2]) ∧ Drawn0 w w' := by
 have HR0 := Aside0.mk hr0
 have HC0 := Aside0.mk hc0
 clear hr0 hc0
 have H : (soukref01_Sum.l0 k l0 0 0) = some (r1, r2) := h
 clear h
 have H' := Aside0.mk H
 clear H
 go_enter Try.func14, Try.ntmps14
 go_wp2
 go_loopg [4, 5] k (fun kq v4 v5 w' => ∃ (x4_1 : Int) (x5_1 : Int), v4 = .int .i64 x4_1 ∧ v5 = .int .i64 x5_1 ∧ Aside0 (soukref01_Sum.l0 kq l0 x4_1 x5_1 = some (r1, r2)) ∧ Aside0 (kq ≤ k) ∧ Drawn0 w w')
 case atStart => exact ⟨(0), (0), (by first | rfl | (simp; done) | (simp [*]; done)), (by first | rfl | (simp; done) | (simp [*]; done)), H', ⟨Nat.le_refl _⟩, by repeat (first | exact Drawn0.refl _ | apply Drawn0.step)⟩
 case round =>
  clear H'
  try clear c1
  obtain ⟨x4_1, x5_1, rfl, rfl, HA, HK1, ⟨m1, rfl⟩⟩ := hrel
  cases gk with
  | zero => exact absurd HA.out (by simp [soukref01_Sum.l0])
  | succ k1 =>
   have H := HA.out
   clear HA
   simp only [soukref01_Sum.l0] at H
   by_cases c2 : x5_1 < (l0.length : Int)
   ·rw [if_pos c2] at H
    have c2b0 : decide (x5_1 < (l0.length : Int)) = true := decide_eq_true c2
    clear c2
    by_cases c3 : 0 ≤ x5_1
    ·rw [if_pos c3] at H
     have c3b0 : decide (0 ≤ x5_1) = true := decide_eq_true c3
     clear c3
     replace H := Option.bind_eq_some_iff.mp H
     obtain ⟨⟨t129, t130⟩, A40, H⟩ := H
     replace H : (if t130 = true then (soukref01_Sum.l0 k1 l0 t129 (wrap64 (x5_1 + 1))) else (some (0, false))) = some (r1, r2) := H
     have A4 := Aside0.mk A40
     clear A40
     by_cases c5 : t130 = true
     ·subst c5
      have H1 : (soukref01_Sum.l0 k1 l0 t129 (wrap64 (x5_1 + 1))) = some (r1, r2) := by rw [if_pos rfl] at H; exact H
      clear H
      have H := H1
      clear H1
      have H' := Aside0.mk H
      clear H
      have p128 : 0 ≤ (x5_1 : Int) := of_decide_eq_true (by first | (with_reducible assumption) | assumption)
      have q128 : x5_1 < (l0.length : Int) := of_decide_eq_true (by first | (with_reducible assumption) | assumption)
      obtain ⟨ad128, e128, hx128_0⟩ := Kd.at_int HR0.out x5_1 p128 q128
      cases e128
      replace p128 := eq_true p128
      replace q128 := eq_true q128
      go_wp2_with (first | ((with_reducible refine gate_callee (f := 37) rfl ?_); refine goesL_ (some 20) rfl rfl Try.func37 (by kernel_rfl) rfl #[.int .i64 x4_1, .int .i64 (rd l0 x5_1)] rfl (by (try simp only [List.map_toArray, List.map_cons, List.map_nil]); first | done | rfl | (simp only [List.length_drop, List.length_take]; rfl)) ?_; (with_reducible refine (soukref01_Add.calls k1 x4_1 (rd l0 x5_1) t129 true _ A4.out).mono ?_); rintro e w' ⟨rfl, ⟨nd, rfl⟩⟩; refine ⟨_, rfl, ?_⟩))
      go_roundg k1
      case measure => have := HK1.out; omega
      case rel => exact ⟨(t129), (wrap64 (x5_1 + 1)), (by first | rfl | (simp; done) | (simp [*]; done)), (by first | rfl | (simp; done) | (simp [*]; done)), H', ⟨by have := HK1.out; omega⟩, by repeat (first | exact Drawn0.refl _ | apply Drawn0.step)⟩
     ·replace c5 := Bool.eq_false_iff.mpr c5
      subst c5
      have H1 : (some (0, false)) = some (r1, r2) := by rw [if_neg (show ¬ (false = true) by decide)] at H; exact H
      clear H
      have H := H1
      clear H1
      simp only [Option.some.injEq, Prod.mk.injEq] at H
      obtain ⟨rfl, rfl⟩ := H
      have p128 : 0 ≤ (x5_1 : Int) := of_decide_eq_true (by first | (with_reducible assumption) | assumption)
      have q128 : x5_1 < (l0.length : Int) := of_decide_eq_true (by first | (with_reducible assumption) | assumption)
      obtain ⟨ad128, e128, hx128_0⟩ := Kd.at_int HR0.out x5_1 p128 q128
      cases e128
      replace p128 := eq_true p128
      replace q128 := eq_true q128
      go_wp2_with (first | ((with_reducible refine gate_callee (f := 37) rfl ?_); refine goesL_ (some 20) rfl rfl Try.func37 (by kernel_rfl) rfl #[.int .i64 x4_1, .int .i64 (rd l0 x5_1)] rfl (by (try simp only [List.map_toArray, List.map_cons, List.map_nil]); first | done | rfl | (simp only [List.length_drop, List.length_take]; rfl)) ?_; (with_reducible refine (soukref01_Add.calls k1 x4_1 (rd l0 x5_1) t129 false _ A4.out).mono ?_); rintro e w' ⟨rfl, ⟨nd, rfl⟩⟩; refine ⟨_, rfl, ?_⟩))
      go_ret2
      exact ⟨by first | rfl | (simp; done) | (simp [*]; done), by repeat (first | exact Drawn0.refl _ | apply Drawn0.step)⟩
    ·rw [if_neg c3] at H
     exact absurd H (by simp)
   ·rw [if_neg c2] at H
    have c2b0 : decide (x5_1 < (l0.length : Int)) = false := decide_eq_false c2
    clear c2
    simp only [Option.some.injEq, Prod.mk.injEq] at H
    obtain ⟨rfl, rfl⟩ := H
    go_wp2
    go_ret2
    exact ⟨by first | rfl | (simp; done) | (simp [*]; done), by repeat (first | exact Drawn0.refl _ | apply Drawn0.step)⟩
end Go.Proofs.Ytncnhhnbjmpomaa.Q
namespace Go.Proofs.Ytncnhhnbjmpomaa.Q
open Go.RowKit Go.Proofs.YtncnhhnbjmpomaaW.PrintWords Go.Proofs.YtncnhhnbjmpomaaW.PrintLast Go.Proofs.YtncnhhnbjmpomaaW.PrintMore Go.Proofs.Ytncnhhnbjmpomaa
set_option linter.unusedVariables false
set_option linter.unusedSimpArgs false
theorem radd_ok (a b : Int) (ha : inR a) (hb : inR b) (k : Nat) : soukref01_Add.f (k + 1) a b = some (if -9223372036854775808 ≤ a + b ∧ a + b ≤ 9223372036854775807 then (a + b, true) else (0, false)) := by
  unfold inR at ha hb
  unfold soukref01_Add.f
  by_cases hp : b > 0
  · rw [if_pos hp, w64i (x := 9223372036854775807 - b) (by omega) (by omega)]
    simp only [soukref01_Add.j0]
    by_cases ho : a > 9223372036854775807 - b
    · rw [if_pos (by simpa using ho), if_neg (by omega)]
    · rw [if_neg (by simpa using ho), if_neg (by omega), w64i (by omega) (by omega), if_pos ⟨by omega, by omega⟩]
  · rw [if_neg hp]
    simp only [soukref01_Add.j0]
    rw [if_neg (by decide)]
    by_cases hn : b < 0
    · rw [if_pos hn, w64i (x := -9223372036854775808 - b) (by omega) (by omega)]
      by_cases ho : a < -9223372036854775808 - b
      · rw [if_pos ho, if_neg (by omega)]
      · rw [if_neg ho, w64i (by omega) (by omega), if_pos ⟨by omega, by omega⟩]
    · have h0 : b = 0 := by omega
      subst h0
      rw [if_neg (by decide), w64i (by omega) (by omega), if_pos ⟨by omega, by omega⟩]
def sumR (a : Int × Int) : Int × Bool := if a.2 = 0 then (a.1, true) else (0, false)
theorem rsum_from (l : List Int) (hl : ∀ x ∈ l, inR x) (hlen : l.length ≤ 1000000000000) : ∀ (d i : Nat) (s : Int), l.length - i = d → i ≤ l.length → inR s →
    ∃ m, ∀ k, soukref01_Sum.l0 (k + m) l s i = some (sumR (addF s (l.drop i))) := by
  intro d
  induction d with
  | zero =>
    intro i s hd hi hs
    have e : i = l.length := by omega
    subst e
    refine ⟨1, fun k => ?_⟩
    simp only [soukref01_Sum.l0]
    rw [if_neg (by omega), List.drop_length]; rfl
  | succ d ih =>
    intro i s hd hi hs
    have hlt : i < l.length := by omega
    have c1 : (i : Int) < (l.length : Int) := by omega
    have c2 : (0 : Int) ≤ (i : Int) := Int.natCast_nonneg i
    have c3 : (0 : Int) < (l.length : Int) := by omega
    have hx := hl l[i] (List.getElem_mem hlt)
    have hdr : l.drop i = l[i] :: l.drop (i + 1) := (List.getElem_cons_drop (h := hlt)).symm
    have HW : Hid (wrap64 ((i : Int) + 1) = ((i + 1 : Nat) : Int)) := by show _ = _; rw [w64i (by omega) (by omega)]; rfl
    rw [hdr]
    simp only [addF]
    by_cases hr : -9223372036854775808 ≤ s + l[i] ∧ s + l[i] ≤ 9223372036854775807
    · obtain ⟨m, hm⟩ := ih (i + 1) (s + l[i]) (by omega) (by omega) hr
      refine ⟨m + 2, fun k => ?_⟩
      obtain ⟨K, hK⟩ : ∃ K, K = k + m + 1 := ⟨_, rfl⟩
      have e : k + (m + 2) = K + 1 := by omega
      rw [e]
      simp only [soukref01_Sum.l0]
      have hadd := radd_ok s l[i] hs hx (k + m)
      rw [if_pos hr, ← hK] at hadd
      rw [if_pos c1, if_pos c2, rd_at l i hlt, hadd]
      have h2 : (if -9223372036854775808 ≤ s + l[i] ∧ s + l[i] ≤ 9223372036854775807 then addF (s + l[i]) (List.drop (i + 1) l) else (0, 2)) = addF (s + l[i]) (List.drop (i + 1) l) := if_pos hr
      rw [h2]
      simp only [Option.bind_some]
      rw [if_pos trivial, HW.out]
      have := hm (k + 1)
      rw [show k + 1 + m = K by omega] at this
      exact this
    · refine ⟨2, fun k => ?_⟩
      obtain ⟨K, hK⟩ : ∃ K, K = k + 1 := ⟨_, rfl⟩
      have e : k + 2 = K + 1 := by omega
      rw [e]
      simp only [soukref01_Sum.l0]
      have hadd := radd_ok s l[i] hs hx k
      rw [if_neg hr, ← hK] at hadd
      rw [if_pos c1, if_pos c2, rd_at l i hlt, hadd]
      have h2 : (if -9223372036854775808 ≤ s + l[i] ∧ s + l[i] ≤ 9223372036854775807 then addF (s + l[i]) (List.drop (i + 1) l) else (0, 2)) = (0, 2) := if_neg hr
      rw [h2]
      simp only [Option.bind_some]
      rw [if_neg (by decide)]
      unfold sumR
      rw [if_neg (by decide)]
theorem rsum_ok (l : List Int) (hl : ∀ x ∈ l, inR x) (hlen : l.length ≤ 1000000000000) : ∃ m, ∀ k, soukref01_Sum.f (k + m) l = some (sumR (addF 0 l)) := by
  obtain ⟨m, hm⟩ := rsum_from l hl hlen l.length 0 0 (by omega) (Nat.zero_le _) ⟨by decide, by decide⟩
  exact ⟨m, fun k => by unfold soukref01_Sum.f; exact hm k⟩
end Go.Proofs.Ytncnhhnbjmpomaa.Q
namespace Go.Proofs.Ytncnhhnbjmpomaa
open Go.RowKit Go.Proofs.Ytncnhhnbjmpomaa.Q Go.Proofs.Kq
open Go.Proofs.YtncnhhnbjmpomaaW.PrintWords (pw_cell_below step_append_cells print_append_cells Kd Kd.C Kd.C_below Drawn0 encs encs_length encs_append)
set_option linter.unusedVariables false
set_option linter.unusedSimpArgs false
def BitsP (w : World) (n : Nat) (L : Nat) (e : Ending) (w' : World) : Prop := ∃ A c xs, e = .returned (.slice A xs.length c) ∧ xs.length ≤ c ∧ Kd.C Kd.bool w' A xs.length xs ∧ val xs = n ∧ xs.length ≤ L ∧ Below w.heap.size w w'
theorem bits_c (a : Int) (ha : inR a) (w : World) : Calls Try.prog 44 #[.int .i64 a] w (BitsP w a.natAbs 64) := by
  obtain ⟨m, hm⟩ := bits_ok a ha
  refine (soukref01_bits.calls m a _ w (hm m (Nat.le_refl _))).mono ?_
  rintro e w' ⟨v, rfl, hR, hB⟩
  obtain ⟨A, c, rfl, hc, hC⟩ := Kd.R_reads hR
  exact ⟨A, c, _, rfl, hc, hC, bitsN_val _, bitsN_len64 a ha, hB⟩
theorem times_c (A0 : Option Addr) (c0 : Nat) (l0 : List Bool) (A1 : Option Addr) (c1 : Nat) (l1 : List Bool) (w : World) (hr0 : Kd.C Kd.bool w A0 l0.length l0) (hc0 : l0.length ≤ c0) (hr1 : Kd.C Kd.bool w A1 l1.length l1) (hc1 : l1.length ≤ c1)
    (h0 : l0.length ≤ 64) (h1 : l1.length ≤ 64) : Calls Try.prog 43 #[.slice A0 l0.length c0, .slice A1 l1.length c1] w (BitsP w (val l0 * val l1) 20000) := by
  obtain ⟨r, ⟨m, hm⟩, hv, hl⟩ := times_ok l0 l1 (by omega) (by omega)
  refine (soukref01_Times.calls m A0 c0 l0 A1 c1 l1 _ w hr0 hc0 hr1 hc1 (hm m (Nat.le_refl _))).mono ?_
  rintro e w' ⟨v, rfl, hR, hB⟩
  obtain ⟨A, c, rfl, hc, hC⟩ := Kd.R_reads hR
  exact ⟨A, c, _, rfl, hc, hC, by rw [trimF_val, hv], Nat.le_trans (trimF_len r) hl, hB⟩
def DivP (w : World) (p a : Nat) (e : Ending) (w' : World) : Prop := ∃ (v0 v1 : Value) (q r : List Bool), e = .returned (.tuple #[v0, v1]) ∧ Kd.R Kd.bool 4 w' w.heap.size (fun k => some k ≠ v1.ownBlock) v0 q ∧ Kd.R Kd.bool 4 w' w.heap.size (fun k => some k ≠ v0.ownBlock) v1 r ∧ val q = p / a ∧ val r = p % a ∧ q.length ≤ 100000 ∧ r.length ≤ 100000 ∧ r = trimF r ∧ Below w.heap.size w w'
theorem trim_len64 (l : List Bool) (n : Nat) (h : val l < 2 ^ n) (ht : l = trimF l) : l.length ≤ n := by
  by_cases he : trimF l = []
  · rw [ht, he]; simp
  · have := trimF_pow l he
    rw [← ht] at this
    apply Classical.byContradiction
    intro hn
    have : 2 ^ n ≤ 2 ^ (l.length - 1) := Nat.pow_le_pow_right (by decide) (by omega)
    omega
theorem div_c (A0 : Option Addr) (c0 : Nat) (l0 : List Bool) (A1 : Option Addr) (c1 : Nat) (l1 : List Bool) (w : World) (hr0 : Kd.C Kd.bool w A0 l0.length l0) (hc0 : l0.length ≤ c0) (hr1 : Kd.C Kd.bool w A1 l1.length l1) (hc1 : l1.length ≤ c1)
    (h0 : l0.length ≤ 20000) (h1 : l1.length ≤ 64) (hp : 0 < val l1) : Calls Try.prog 42 #[.slice A0 l0.length c0, .slice A1 l1.length c1] w (DivP w (val l0) (val l1)) := by
  obtain ⟨q, r, ⟨m, hm⟩, hq, hr, ht⟩ := div_ok l0 l1 (by omega) (by omega) hp
  refine (soukref01_Div.calls m A0 c0 l0 A1 c1 l1 _ _ w hr0 hc0 hr1 hc1 (hm m (Nat.le_refl _))).mono ?_
  rintro e w' ⟨v0, v1, rfl, hR0, hR1, hB⟩
  refine ⟨v0, v1, _, _, rfl, hR0, hR1, by rw [trimF_val, hq], hr, ?_, ?_, ht, hB⟩
  · refine Nat.le_trans (trim_len64 (trimF q) l0.length ?_ (trimF_idem q).symm) (by omega)
    rw [trimF_val, hq]
    exact Nat.lt_of_le_of_lt (Nat.div_le_self _ _) (val_lt l0)
  · refine Nat.le_trans (trim_len64 r 64 ?_ ht) (by decide)
    rw [hr]
    exact Nat.lt_trans (Nat.mod_lt _ hp) (Nat.lt_of_lt_of_le (val_lt l1) (Nat.pow_le_pow_right (by decide) h1))
theorem value_c (v : Value) (xs : List Bool) (P : Nat → Prop) (w0 w : World) (hB : Below w0.heap.size w0 w) (hR : Kd.R Kd.bool 4 w w0.heap.size P v xs) (hl : xs.length ≤ 100000) (h : val xs ≤ 9223372036854775807) :
    Calls Try.prog 49 #[v, .bool false] w fun e w' => e = .returned (.tuple #[.int .i64 (val xs : Nat), .bool true]) ∧ Below w0.heap.size w0 w' ∧ Go.Proofs.YtncnhhnbjmpomaaW.PrintWords.Kept w w' P := by
  obtain ⟨m, hm⟩ := value_ok xs false hl
  refine soukref01_value.calls m P v xs false _ _ w0 w hB hR ?_
  refine Eq.trans (hm m (Nat.le_refl _)) ?_
  unfold valF
  rw [if_neg (by decide), if_pos (by omega)]
theorem less_c (A0 : Option Addr) (c0 : Nat) (l0 : List Bool) (A1 : Option Addr) (c1 : Nat) (l1 : List Bool) (w : World) (hr0 : Kd.C Kd.bool w A0 l0.length l0) (hc0 : l0.length ≤ c0) (hr1 : Kd.C Kd.bool w A1 l1.length l1) (hc1 : l1.length ≤ c1)
    (h0 : l0.length ≤ 100000) (h1 : l1.length ≤ 100000) : Calls Try.prog 47 #[.slice A0 l0.length c0, .slice A1 l1.length c1] w fun e w' => e = .returned (.bool (decide (val l0 < val l1))) ∧ Below w.heap.size w w' := by
  obtain ⟨m, hm⟩ := less_ok l0 l1 h0 h1
  exact soukref01_less.calls m A0 c0 l0 A1 c1 l1 _ w hr0 hc0 hr1 hc1 (hm m (Nat.le_refl _))
theorem sum_c (A0 : Option Addr) (c0 : Nat) (l0 : List Int) (w : World) (hr0 : Kd.C (Kd.int .i64) w A0 l0.length l0) (hc0 : l0.length ≤ c0) (hl : ∀ x ∈ l0, inR x) (hlen : l0.length ≤ 1000000) :
    Calls Try.prog 14 #[.slice A0 l0.length c0] w fun e w' => e = .returned (.tuple #[.int .i64 (sumR (addF 0 l0)).1, .bool (sumR (addF 0 l0)).2]) ∧ Drawn0 w w' := by
  obtain ⟨m, hm⟩ := rsum_ok l0 hl (by omega)
  exact soukref01_Sum.calls (0 + m) A0 c0 l0 _ _ w hr0 hc0 (hm 0)
end Go.Proofs.Ytncnhhnbjmpomaa
namespace Go.Proofs.Ytncnhhnbjmpomaa
open Go.RowKit Go.Proofs.Ytncnhhnbjmpomaa.Q Go.Sort
set_option linter.unusedVariables false
set_option linter.unusedSimpArgs false
def BI (t : Int) (ws : List Int) (j i : Nat) (bz : Int) : Prop :=
  (bz = -1 ∧ ∀ m, m < i → alive t ws j m → rvF t ws m = 0) ∨
  ∃ b : Nat, bz = b ∧ b < i ∧ alive t ws j b ∧ (∀ m, m < i → alive t ws j m → rvF t ws m ≤ rvF t ws b) ∧ (∀ m, m < b → alive t ws j m → rvF t ws m < rvF t ws b ∨ rvF t ws b = 0)
theorem rv_nn (t : Int) (ws : List Int) (ha : 0 < ws.sum) (i : Nat) : 0 ≤ rvF t ws i := Int.emod_nonneg _ (by omega)
theorem BI.start (t : Int) (ws : List Int) (j : Nat) : BI t ws j 0 (-1) := .inl ⟨rfl, fun m h => by omega⟩
theorem BI.skip {t : Int} {ws : List Int} {j i : Nat} {bz : Int} (ha : 0 < ws.sum) (h : BI t ws j i bz) (hi : alive t ws j i → rvF t ws i = 0) : BI t ws j (i + 1) bz := by
  rcases h with ⟨h1, h2⟩ | ⟨b, h1, h2, h3, h4, h5⟩
  · refine .inl ⟨h1, fun m hm hl => ?_⟩
    by_cases e : m = i
    · subst e; exact hi hl
    · exact h2 m (by omega) hl
  · refine .inr ⟨b, h1, by omega, h3, fun m hm hl => ?_, h5⟩
    by_cases e : m = i
    · subst e; rw [hi hl]; exact rv_nn t ws ha b
    · exact h4 m (by omega) hl
theorem BI.keep {t : Int} {ws : List Int} {j i b : Nat} (h : BI t ws j i b) (hi : ¬ rvF t ws b < rvF t ws i) : BI t ws j (i + 1) b := by
  rcases h with ⟨h1, h2⟩ | ⟨b', h1, h2, h3, h4, h5⟩
  · omega
  · obtain rfl : b = b' := by omega
    refine .inr ⟨b, h1, by omega, h3, fun m hm hl => ?_, h5⟩
    by_cases e : m = i
    · subst e; omega
    · exact h4 m (by omega) hl
theorem BI.first {t : Int} {ws : List Int} {j i : Nat} {bz : Int} (ha : 0 < ws.sum) (h : BI t ws j i bz) (hb : bz < 0) (hi : alive t ws j i) : BI t ws j (i + 1) i := by
  rcases h with ⟨h1, h2⟩ | ⟨b', h1, h2, h3, h4, h5⟩
  · have hn := rv_nn t ws ha i
    refine .inr ⟨i, rfl, by omega, hi, fun m hm hl => ?_, fun m hm hl => ?_⟩
    · by_cases e : m = i
      · subst e; omega
      · rw [h2 m (by omega) hl]; exact hn
    · rw [h2 m hm hl]; omega
  · omega
theorem BI.take {t : Int} {ws : List Int} {j i b : Nat} (h : BI t ws j i b) (hi : alive t ws j i) (hl : rvF t ws b < rvF t ws i) : BI t ws j (i + 1) i := by
  rcases h with ⟨h1, h2⟩ | ⟨b', h1, h2, h3, h4, h5⟩
  · omega
  · obtain rfl : b = b' := by omega
    refine .inr ⟨i, rfl, by omega, hi, fun m hm hm2 => ?_, fun m hm hm2 => ?_⟩
    · by_cases e : m = i
      · subst e; omega
      · have := h4 m (by omega) hm2; omega
    · have := h4 m hm hm2; omega
theorem BI.alive_ {t : Int} {ws : List Int} {j i b : Nat} (h : BI t ws j i b) : b < i ∧ alive t ws j b := by
  rcases h with ⟨h1, h2⟩ | ⟨b', h1, h2, h3, h4, h5⟩
  · omega
  · obtain rfl : b = b' := by omega
    exact ⟨h2, h3⟩
theorem BI.end_ {t : Int} {ws : List Int} {j : Nat} {bz : Int} (ht : 0 ≤ t) (hw : ∀ x ∈ ws, 0 ≤ x) (ha : 0 < ws.sum) (hj : (j : Int) < leftF t ws.sum ws) (hjl : j < ws.length) (h : BI t ws j ws.length bz) :
    ∃ b : Nat, bz = b ∧ b < ws.length ∧ (ordF t ws)[j]'(by rw [ord_len]; exact hjl) = ⟨(b : Int), rvF t ws b⟩ := by
  have hjl2 : j < (ordF t ws).length := by rw [ord_len]; exact hjl
  obtain ⟨p, hp, hp2, hp3⟩ := alive_some t ws ht hw ha j hj hjl2
  rcases h with ⟨h1, h2⟩ | ⟨b, h1, h2, h3, h4, h5⟩
  · have := h2 p hp hp2; omega
  · exact ⟨b, h1, h2, pick_unique t ws ht hw ha j hj hjl2 b h2 h3 (fun m hm hl => h4 m hm hl) h5⟩
theorem alive_succ (t : Int) (ws : List Int) (j b i : Nat) (hjl : j < (ordF t ws).length) (he : (ordF t ws)[j] = ⟨(b : Int), rvF t ws b⟩) : alive t ws (j + 1) i ↔ alive t ws j i ∧ i ≠ b := by
  unfold alive
  rw [List.take_succ_eq_append_getElem hjl, he]
  constructor
  · intro h
    exact ⟨fun r hr => h r (by simp [hr]), fun e => h ⟨(b : Int), rvF t ws b⟩ (by simp) (by simp [e])⟩
  · rintro ⟨h1, h2⟩ r hr
    rcases List.mem_append.1 hr with hr | hr
    · exact h1 r hr
    · simp at hr
      subst hr
      simp; omega
end Go.Proofs.Ytncnhhnbjmpomaa
namespace Go.Proofs.Ytncnhhnbjmpomaa
open Go.RowKit Go.Proofs.Ytncnhhnbjmpomaa.Q Go.Proofs.Kq
open Go.Proofs.YtncnhhnbjmpomaaW.PrintWords (pw_cell_below step_append_cells print_append_cells Kd Kd.C Kd.C_below Drawn0 encs encs_length encs_append)
open Go.Proofs.YtncnhhnbjmpomaaW.PrintLast
set_option linter.unusedVariables false
set_option linter.unusedSimpArgs false
theorem info87 : (Try.prog.info? 87).map (fun i => (i.zero, i.size, i.bytes)) = some (some (.slice none 0 0), 1, 24) := by kernel_rfl
def lv (v : Value) : List Value := [v]
def Rows (w : World) (base : Nat) (rs : List Value) (f : Nat → Option Nat) : Prop := ∀ i (h : i < rs.length), match f i with
  | none => rs[i] = .slice none 0 0
  | some n => ∃ xs, Kd.R Kd.bool 4 w base (fun _ => True) rs[i] xs ∧ val xs = n ∧ xs.length ≤ 100000
theorem Rows.below {w w1 : World} {base : Nat} {rs : List Value} {f : Nat → Option Nat} (h : Rows w base rs f) (hb : Below w.heap.size w w1) : Rows w1 base rs f := by
  intro i hi
  have := h i hi
  split at this
  · exact this
  · obtain ⟨xs, h1, h2⟩ := this
    exact ⟨xs, Kd.R_below h1 hb, h2⟩
theorem Rows.set {w : World} {base : Nat} {rs : List Value} {f : Nat → Option Nat} (h : Rows w base rs f) {g t : Nat} {cells : Array Value} (hb : w.heap[g]? = some (.cells cells t (0, 0))) (ht : 4 ≠ t) (j : Nat) (u : Value) : Rows (w.setCell ⟨g, j, Option.none⟩ u) base rs f := by
  intro i hi
  have := h i hi
  split at this
  · exact this
  · obtain ⟨xs, h1, h2⟩ := this
    exact ⟨xs, Kd.R_set h1 hb (by intro q hq; rcases List.mem_cons.1 hq with rfl | hq <;> first | exact ht | cases hq) j u, h2⟩
theorem Rows.snoc {w : World} {base : Nat} {rs : List Value} {f : Nat → Option Nat} (h : Rows w base rs f) {v : Value} {xs : List Bool} (hv : Kd.R Kd.bool 4 w base (fun _ => True) v xs) (hf : f rs.length = some (val xs)) (hl : xs.length ≤ 100000) : Rows w base (rs ++ [v]) f := by
  intro i hi
  by_cases h1 : i < rs.length
  · have := h i h1
    rw [List.getElem_append_left h1]; exact this
  · obtain rfl : i = rs.length := by simp at hi; omega
    simp only [hf, List.getElem_concat_length]
    exact ⟨xs, hv, rfl, hl⟩
theorem bt_grown {w w1 : World} {base : Nat} {v : Value} {xs : List Bool} (h : Kd.R Kd.bool 4 w base (fun _ => True) v xs) {α : Type} {l : α → List Value} {sz e base' : Nat} {u : Value} {ys : List α} (hO : Own l sz e w base' u ys) (he : 4 ≠ e)
    (hg : ∀ k, k < w.heap.size → some k ≠ u.ownBlock → w1.heap[k]? = w.heap[k]?) : Kd.R Kd.bool 4 w1 base (fun _ => True) v xs := by
  have ho := Kd.own_of_R h
  refine Kd.R_of_own (Go.Proofs.YtncnhhnbjmpomaaW.PrintWords.own_move ho fun k hk => hg k (Go.Proofs.YtncnhhnbjmpomaaW.PrintWords.own_lt ho k hk) fun hu => ?_) (fun _ _ => trivial)
  obtain ⟨c1, h1⟩ := Go.Proofs.YtncnhhnbjmpomaaW.PrintWords.own_typed ho k hk
  obtain ⟨c2, h2⟩ := hO.at_ hu.symm
  rw [h1] at h2
  injection h2 with h2
  injection h2 with _ h2
  exact he h2
theorem Rows.grown {w w1 : World} {base : Nat} {rs : List Value} {f : Nat → Option Nat} (h : Rows w base rs f) {α : Type} {l : α → List Value} {sz e base' : Nat} {u : Value} {ys : List α} (hO : Own l sz e w base' u ys) (he : 4 ≠ e)
    (hg : ∀ k, k < w.heap.size → some k ≠ u.ownBlock → w1.heap[k]? = w.heap[k]?) : Rows w1 base rs f := by
  intro i hi
  have := h i hi
  split at this
  · exact this
  · obtain ⟨xs, h1, h2⟩ := this
    exact ⟨xs, bt_grown h1 hO he hg, h2⟩
theorem natq (t x a : Int) (h1 : 0 ≤ t) (h2 : 0 ≤ x) (h3 : 0 ≤ a) : ((t.natAbs * x.natAbs / a.natAbs : Nat) : Int) = t * x / a := by
  obtain ⟨t, rfl⟩ := Int.eq_ofNat_of_zero_le h1
  obtain ⟨x, rfl⟩ := Int.eq_ofNat_of_zero_le h2
  obtain ⟨a, rfl⟩ := Int.eq_ofNat_of_zero_le h3
  simp
theorem natr (t x a : Int) (h1 : 0 ≤ t) (h2 : 0 ≤ x) (h3 : 0 ≤ a) : t.natAbs * x.natAbs % a.natAbs = (t * x % a).toNat := by
  obtain ⟨t, rfl⟩ := Int.eq_ofNat_of_zero_le h1
  obtain ⟨x, rfl⟩ := Int.eq_ofNat_of_zero_le h2
  obtain ⟨a, rfl⟩ := Int.eq_ofNat_of_zero_le h3
  simp only [Int.natAbs_natCast]
  rw [← Int.natCast_mul, ← Int.natCast_emod, Int.toNat_natCast]
theorem flat_lv : ∀ rs : List Value, rs.flatMap lv = rs
  | [] => rfl
  | r :: rs => by simp [lv, flat_lv rs]
def RS (t : Int) (ws : List Int) (w w' : World) (v9 v10 : Value) (k : Nat) : Prop :=
  Own li 1 2 w' w.heap.size v9 (quosF t ws.sum (ws.take k)) ∧ (∃ rs : List Value, rs.length = k ∧ Own lv 1 87 w' w.heap.size v10 rs ∧ Rows w' w.heap.size rs (fun i => some (rvF t ws i).toNat)) ∧ Below w.heap.size w w'
theorem ownv_cell {w : World} {base g n c : Nat} {xs : List Value} (h : Own lv 1 87 w base (.slice (some ⟨g, 0, Option.none⟩) n c) xs) (i : Nat) (hi : i < xs.length) :
    w.cell? ⟨g, i, Option.none⟩ = some xs[i] ∧ w.frozen? ⟨g, i, Option.none⟩ = false := by
  rcases h.2 with ⟨h2, _⟩ | ⟨g', cap', cur, e, hg, hh, hn, hm, hcs, hcur⟩
  · cases h2
  · injection e with e1 e2 e3
    injection e1 with e1
    injection e1 with e1 _ _
    subst e1
    rw [flat_lv] at hcur
    have hc : cur[i]? = some xs[i] := by
      rw [← Array.getElem?_toList]
      have h1 : (cur.toList.take (xs.length * 1))[i]? = some xs[i] := by rw [hcur]; exact List.getElem?_eq_getElem hi
      rwa [List.getElem?_take_of_lt (by omega)] at h1
    exact ⟨by simp [World.cell?, hh, hc], by simp [World.frozen?, hh]⟩
open Classical in
noncomputable def PKf (t : Int) (ws : List Int) (j i : Nat) : Option Nat := if alive t ws j i then some (rvF t ws i).toNat else none
def PK (t : Int) (ws : List Int) (w w' : World) (g9 c9 g10 c10 : Nat) (j : Nat) (qs : List Int) : Prop :=
  Own li 1 2 w' w.heap.size (.slice (some ⟨g9, 0, Option.none⟩) ws.length c9) (bump qs ((ordF t ws).take j)) ∧ (∃ rs : List Value, rs.length = ws.length ∧ Own lv 1 87 w' w.heap.size (.slice (some ⟨g10, 0, Option.none⟩) ws.length c10) rs ∧ Rows w' w.heap.size rs (PKf t ws j)) ∧ Below w.heap.size w w'
theorem rows_next {t : Int} {ws : List Int} {w : World} {base j b : Nat} {rs : List Value} (hjl : j < (ordF t ws).length) (he : (ordF t ws)[j] = ⟨(b : Int), rvF t ws b⟩) (h : Rows w base rs (PKf t ws j)) : Rows w base (rs.set b (.slice Option.none 0 0)) (PKf t ws (j + 1)) := by
  intro i hi
  have hi2 : i < rs.length := by simpa using hi
  have h2 := h i hi2
  have ha := alive_succ t ws j b i hjl he
  by_cases e : i = b
  · subst e
    have hn : ¬ alive t ws (j + 1) i := fun hh => (ha.1 hh).2 rfl
    unfold PKf
    rw [if_neg hn]
    simp
  · have hs : (rs.set b (.slice Option.none 0 0))[i] = rs[i] := List.getElem_set_ne (fun h => e h.symm) _
    rw [hs]
    unfold PKf at h2 ⊢
    by_cases hal : alive t ws j i
    · rw [if_pos hal] at h2
      rw [if_pos (ha.2 ⟨hal, e⟩)]
      exact h2
    · rw [if_neg hal] at h2
      rw [if_neg (fun hh => hal (ha.1 hh).1)]
      exact h2
theorem ownv_set {w : World} {base g n c : Nat} {xs : List Value} (h : Own lv 1 87 w base (.slice (some ⟨g, 0, Option.none⟩) n c) xs) (i : Nat) (hi : i < xs.length) (v : Value) (hv : v.oneCell' = true) :
    Own lv 1 87 (w.setCell ⟨g, i, Option.none⟩ v) base (.slice (some ⟨g, 0, Option.none⟩) n c) (xs.set i v) := by
  rcases h.2 with ⟨h2, _⟩ | ⟨g', cap', cur, e, hg, hh, hn, hm, hcs, hcur⟩
  · cases h2
  · injection e with e1 e2 e3
    injection e1 with e1
    injection e1 with e1 _ _
    subst e1 e2 e3
    refine ⟨by rw [flat_lv]; simp, .inr ⟨g, c, cur.setIfInBounds i v, by simp, hg, ?_, by simpa using hn, hm, by simpa using hcs, ?_⟩⟩
    · simp only [World.setCell, Array.getElem?_modify, if_true, hh]
      rfl
    · rw [flat_lv, Nat.mul_one] at hcur
      rw [flat_lv, List.length_set, Nat.mul_one, Array.toList_setIfInBounds, List.take_set, hcur]
theorem PK.below {t : Int} {ws : List Int} {w w1 w2 : World} {g9 c9 g10 c10 j : Nat} {qs : List Int} (h : PK t ws w w1 g9 c9 g10 c10 j qs) (hb : Below w1.heap.size w1 w2) : PK t ws w w2 g9 c9 g10 c10 j qs := by
  obtain ⟨a, ⟨rs, b, c, d⟩, e⟩ := h
  exact ⟨a.below hb, ⟨rs, b, c.below hb, d.below hb⟩, below_step e hb⟩
theorem drew_b (w : World) : Below w.heap.size w w.drew := ⟨rfl, rfl, rfl, Nat.le_refl _, fun _ _ => rfl⟩
set_option maxRecDepth 100000 in
set_option maxHeartbeats 8000000 in
theorem rsplit_any (t : Int) (A0 : Option Addr) (c0 : Nat) (ws : List Int) (w : World) (hr0 : Kd.C (Kd.int .i64) w A0 ws.length ws) (hc0 : ws.length ≤ c0) (h20 : ws.length ≤ 1000) (hw : ∀ x ∈ ws, inR x) (ht : inR t) :
    Calls Try.prog 21 #[.int .i64 t, .slice A0 ws.length c0] w (SplitP t ws w) := by
  have HR := hidI hr0
  have HW := hidI hw
  have HT := hidI ht
  have H1 := hidI (sum_c A0 c0 ws)
  have hF : ∀ (c : Int) (w' : World), splitF t ws = ([], c) → Below w.heap.size w w' → SplitP t ws w (.returned (.tuple #[.slice none 0 0, .int .i64 c])) w' := fun c w' h hb => ⟨.slice none 0 0, by rw [h], by rw [h]; exact ⟨rfl, .inl ⟨rfl, rfl⟩⟩, hb⟩
  have HF := hidI hF
  clear hr0 hw ht hF
  go_enter Try.func21, Try.ntmps21
  go_wp2
  go_loopw [6] (fun i wr => ∃ k : Nat, k ≤ ws.length ∧ i = .int .i64 k ∧ w = wr ∧ Hid (∀ j (h : j < ws.length), j < k → 0 ≤ ws[j])) (fun i _ => ws.length - (intOf i).toNat)
  case atStart => exact ⟨0, Nat.zero_le _, rfl, rfl, fun _ _ h => absurd h (by omega)⟩
  case round =>
    obtain ⟨k, hk, rfl, rfl, HI⟩ := hrel
    by_cases hlt : k < ws.length
    · obtain ⟨b, off, hA, hc⟩ := C_ints HR.out (by omega)
      subst hA
      obtain ⟨x, hx⟩ : ∃ x, x = ws[k] := ⟨_, rfl⟩
      have q0 := hc k hlt
      rw [← hx] at q0
      have HX := hidI hx
      clear hc hx
      by_cases h0 : x < 0
      · have hfin := HF.out 1 w (by
          unfold splitF
          by_cases ht0 : t < 0
          · rw [if_pos ht0]
          · rw [if_neg ht0, if_pos]
            exact List.any_eq_true.2 ⟨ws[k], List.getElem_mem hlt, by rw [← HX.out]; simpa using h0⟩) (Below.refl _ _)
        have HFI := hidI hfin
        clear hfin
        go_wp2
        go_ret2
        exact HFI.out
      · go_wp2
        go_roundw
        case rel =>
          refine ⟨k + 1, by omega, by go_num, by first | rfl | trivial, ?_⟩
          show ∀ j (h : j < ws.length), j < k + 1 → 0 ≤ ws[j]
          intro j hj hj2
          by_cases e : j = k
          · subst e; rw [← HX.out]; omega
          · exact HI.out j hj (by omega)
        case measure => simp [intOf]; omega
    · obtain rfl : k = ws.length := by omega
      have hnn : ∀ x ∈ ws, 0 ≤ x := by
        intro x hx
        obtain ⟨j, hj, rfl⟩ := List.getElem_of_mem hx
        exact HI.out j hj hj
      clear HI hk hlt
      have hany : ws.any (fun n => decide (n < 0)) = false := by
        rw [List.any_eq_false]
        intro x hx
        have := hnn x hx
        simp; omega
      have ha := addF_nn ws 0 (Int.le_refl _) hnn (by decide)
      rw [Int.zero_add] at ha
      have hst : Hid (splitF t ws = if t < 0 then ([], 1) else if ¬ (ws.sum ≤ 9223372036854775807) then ([], 2) else if ws.sum = 0 then ([], 1) else (partsF t ws, 0)) := by
        show _ = _
        unfold splitF
        rw [hany]; simp
      have hs0 := sum_nn ws hnn
      have HNN := hidI hnn
      clear hnn hany
      have hs : Hid (∀ w, Kd.C (Kd.int .i64) w A0 ws.length ws → Calls Try.prog 14 #[.slice A0 ws.length c0] w fun e w' => e = .returned (.tuple #[.int .i64 (sumR (addF 0 ws)).1, .bool (sumR (addF 0 ws)).2]) ∧ Drawn0 w w') := fun w h => H1.out w h hc0 HW.out (by omega)
      clear H1
      by_cases hov : ws.sum ≤ 9223372036854775807
      · rw [if_pos hov] at ha
        have e : sumR (addF 0 ws) = (ws.sum, true) := by rw [ha]; rfl
        rw [e] at hs
        clear ha e
        obtain ⟨all, hall⟩ : ∃ all, all = ws.sum := ⟨_, rfl⟩
        rw [← hall] at hs hov hs0 hst
        have HALL := hidI hall
        clear hall
        by_cases ht0 : t < 0
        · have hfin := hidI (fun n => HF.out 1 (w.drewN n) (by rw [hst.out, if_pos ht0]) (below_drN _ n))
          clear hst HF
          go_wp2_with fail
          refine (hs.out _ HR.out).mono ?_
          rintro e w' ⟨rfl, ⟨n, rfl⟩⟩
          simp only []
          go_wp2
          go_ret2
          exact hfin.out n
        by_cases ha0 : all = 0
        · have hfin := hidI (fun n => HF.out 1 (w.drewN n) (by rw [hst.out, if_neg ht0, if_neg (by omega), if_pos ha0]) (below_drN _ n))
          clear hst HF HALL
          subst ha0
          go_wp2_with fail
          refine (hs.out _ HR.out).mono ?_
          rintro e w' ⟨rfl, ⟨n, rfl⟩⟩
          simp only []
          go_wp2
          go_ret2
          exact hfin.out n
        · have ha1 : 0 < all := by omega
          have HAR : Hid (inR all) := ⟨by omega, hov⟩
          have HAP := hidI ha1
          have htn : 0 ≤ t := by omega
          have hmem := mem_le_sum ws HNN.out
          have HM := hidI hmem
          rw [if_neg ht0, if_neg (by omega), if_neg ha0] at hst
          clear hmem HF
          have hne2 : (all == 0) = false := beq_eq_false_iff_ne.2 ha0
          have htd : decide (t < 0) = false := by simpa using ht0
          go_wp2_with fail
          refine (hs.out _ HR.out).mono ?_
          rintro e w' ⟨rfl, ⟨n, rfl⟩⟩
          simp only []
          clear hs
          go_wp2
          go_loopw [9, 10, 11, 12] (fun v9 v10 l i w2 => ∃ k : Nat, k ≤ ws.length ∧ i = .int .i64 k ∧ l = .int .i64 (leftF t all (ws.take k)) ∧ Hid (RS t ws w w2 v9 v10 k)) (fun _ _ _ i _ => ws.length - (intOf i).toNat)
          case atStart => exact ⟨0, Nat.zero_le _, rfl, by simp [leftF, quosF], ⟨Own.nil _ _ _ _ _, ⟨[], rfl, Own.nil _ _ _ _ _, fun i h => by cases h⟩, below_drN w _⟩⟩
          case round =>
            obtain ⟨k, hk, rfl, rfl, HI⟩ := hrel
            by_cases hlt : k < ws.length
            · obtain ⟨b, off, hA, hc⟩ := C_ints HR.out (by omega)
              subst hA
              have q0 : wr.cell? ⟨b, off + k, none⟩ = some (.int .i64 ws[k]) := pw_cell_below HI.out.2.2 (hc k hlt)
              have hx0 : 0 ≤ ws[k] := HNN.out _ (List.getElem_mem hlt)
              have hxa : ws[k] ≤ all := by have := HM.out _ (List.getElem_mem hlt); have := HALL.out; omega
              have hxr := HW.out _ (List.getElem_mem hlt)
              have hrv : rvF t ws k = t * ws[k] % all := by
                unfold rvF
                rw [List.getD_eq_getElem?_getD, List.getElem?_eq_getElem hlt, ← HALL.out]; rfl
              obtain ⟨x, hx⟩ : ∃ x, x = ws[k] := ⟨_, rfl⟩
              rw [← hx] at q0 hx0 hxa hxr hrv
              have HX := hidI hx
              have HXR := hidI hxr
              have hlk := left_take t ws k htn HNN.out (by rw [← HALL.out]; exact HAP.out)
              rw [← HALL.out] at hlk
              have hqb := quo_bd htn hx0 hxa HAP.out
              have hst1 : Hid (quosF t all (ws.take (k + 1)) = quosF t all (ws.take k) ++ [t * x / all]) := by
                show _ = _
                rw [List.take_succ_eq_append_getElem hlt, ← HX.out, quosF_snoc]
              have hst3 : Hid (leftF t all (ws.take (k + 1)) = leftF t all (ws.take k) - t * x / all) := by
                show _ = _
                unfold leftF
                rw [hst1.out]; simp; omega
              have hlk1 := left_take t ws (k + 1) htn HNN.out (by rw [← HALL.out]; exact HAP.out)
              rw [← HALL.out, hst3.out] at hlk1
              have HRV := hidI hrv
              have hx0' := hx0
              clear hx hc hxr hrv
              go_wp2_with fail
              refine start_ (n := 16) (S := fun w' => w'.cell? ⟨b, off + k, none⟩ = some (.int .i64 x)) (ds := []) #[false, false, false, false, false, false, false, false, false, false, false, false, false, false, false, false] (by kernel_rfl) rfl rfl (q0) (fun hHeld => ?_)
              refine pure_ (i := 0) (N := some 52) (v := ?_) (a' := ?_) #[true, false, false, false, false, false, false, false, false, false, false, false, false, false, false, false] rfl rfl (by kernel_rfl) (fun _ _ _ h => h) (Or.inl ⟨by rfl, ?_⟩) ?_ ?_
              rotate_left
              · intro w'
                go_simp
                with_reducible rfl
              rotate_left
              · simp only [Act.put, List.setIfInBounds_toArray, List.set_cons_zero, List.set_cons_succ, i64_w, i32_w]
                rfl
              refine pure_ (i := 2) (N := some 54) (v := ?_) (a' := ?_) #[true, false, true, false, false, false, false, false, false, false, false, false, false, false, false, false] rfl rfl (by kernel_rfl) (fun _ _ _ h => h) (Or.inl ⟨by rfl, ?_⟩) ?_ ?_
              rotate_left
              · intro w'
                go_simp
                with_reducible rfl
              rotate_left
              · simp only [Act.put, List.setIfInBounds_toArray, List.set_cons_zero, List.set_cons_succ, i64_w, i32_w]
                rfl
              refine pure_ (i := 3) (N := some 55) (v := ?_) (a' := ?_) #[true, false, true, true, false, false, false, false, false, false, false, false, false, false, false, false] rfl rfl (by kernel_rfl) (fun _ _ _ h => h) (Or.inl ⟨by rfl, ?_⟩) ?_ ?_
              rotate_left
              · intro w'
                go_simp
                with_reducible rfl
              rotate_left
              · simp only [Act.put, List.setIfInBounds_toArray, List.set_cons_zero, List.set_cons_succ, i64_w, i32_w]
                rfl
              refine pure_ (i := 4) (N := some 56) (v := ?_) (a' := ?_) #[true, false, true, true, true, false, false, false, false, false, false, false, false, false, false, false] rfl rfl (by kernel_rfl) (fun _ _ _ h => h) (Or.inl ⟨by rfl, ?_⟩) ?_ ?_
              rotate_left
              · intro w'
                go_simp
                with_reducible rfl
              rotate_left
              · simp only [Act.put, List.setIfInBounds_toArray, List.set_cons_zero, List.set_cons_succ, i64_w, i32_w]
                rfl
              refine pure_ (i := 8) (N := some 60) (v := ?_) (a' := ?_) #[true, false, true, true, true, false, false, false, true, false, false, false, false, false, false, false] rfl rfl (by kernel_rfl) (fun _ _ _ h => h) (Or.inl ⟨by rfl, ?_⟩) ?_ ?_
              rotate_left
              · intro w'
                go_simp
                with_reducible rfl
              rotate_left
              · simp only [Act.put, List.setIfInBounds_toArray, List.set_cons_zero, List.set_cons_succ, i64_w, i32_w]
                rfl
              refine take_ (i := 5) (N := some 57) (v := ?_) (a' := ?_) #[true, false, true, true, true, true, false, false, true, false, false, false, false, false, false, false] rfl rfl (by kernel_rfl) (fun _ _ _ h => h) (Or.inl ⟨by rfl, ?_⟩) hHeld ?_ ?_
              rotate_left
              · intro w' s0
                go_simp
                with_reducible rfl
              rotate_left
              · simp only [Act.put, List.setIfInBounds_toArray, List.set_cons_zero, List.set_cons_succ, i64_w, i32_w]
                rfl
              refine one_ (i := 1) (N := some 53) #[true, true, true, true, true, true, false, false, true, false, false, false, false, false, false, false] rfl rfl (by kernel_rfl) (by decide) (fun K hK => ?_)
              refine goes_ Try.func44 (by kernel_rfl) rfl #[.int .i64 t] (by rfl) rfl rfl (by simp only [List.map_toArray, List.map_cons, List.map_nil]; rfl) ?_
              with_reducible refine (bits_c t HT.out _).mono ?_
              rintro e w1 ⟨A1, c1, xs1, rfl, hc1, hC1, hv1, hl1, hb1⟩
              refine ⟨_, rfl, ?_⟩
              refine hK.out _ _ (pw_cell_below hb1 q0) (fun hHeld => ?_)
              clear hK K
              refine norm_ (a' := ?_) ?_ ?_
              rotate_left
              · show Act.put _ (some 53) _ = _
                simp only [Act.put, List.setIfInBounds_toArray, List.set_cons_zero, List.set_cons_succ, i64_w, i32_w]
                rfl
              refine one_ (i := 6) (N := some 58) #[true, true, true, true, true, true, true, false, true, false, false, false, false, false, false, false] rfl rfl (by kernel_rfl) (by decide) (fun K hK => ?_)
              refine goes_ Try.func44 (by kernel_rfl) rfl #[.int .i64 x] (by rfl) rfl rfl (by simp only [List.map_toArray, List.map_cons, List.map_nil]; rfl) ?_
              with_reducible refine (bits_c x HXR.out _).mono ?_
              rintro e w2 ⟨A2, c2, xs2, rfl, hc2, hC2, hv2, hl2, hb2⟩
              refine ⟨_, rfl, ?_⟩
              have hC1 := Kd.C_below hC1 hb2
              refine hK.out _ _ (pw_cell_below (below_step hb1 hb2) q0) (fun hHeld => ?_)
              clear hK K
              refine norm_ (a' := ?_) ?_ ?_
              rotate_left
              · show Act.put _ (some 58) _ = _
                simp only [Act.put, List.setIfInBounds_toArray, List.set_cons_zero, List.set_cons_succ, i64_w, i32_w]
                rfl
              refine one_ (i := 7) (N := some 59) #[true, true, true, true, true, true, true, true, true, false, false, false, false, false, false, false] rfl rfl (by kernel_rfl) (by decide) (fun K hK => ?_)
              refine goes_ Try.func43 (by kernel_rfl) rfl #[.slice A1 xs1.length c1, .slice A2 xs2.length c2] (by rfl) rfl rfl (by simp only [List.map_toArray, List.map_cons, List.map_nil]; rfl) ?_
              with_reducible refine (times_c _ _ _ _ _ _ _ hC1 hc1 hC2 hc2 hl1 hl2).mono ?_
              rintro e w3 ⟨A3, c3, xs3, rfl, hc3, hC3, hv3, hl3, hb3⟩
              refine ⟨_, rfl, ?_⟩
              refine hK.out _ _ (pw_cell_below (below_step (below_step hb1 hb2) hb3) q0) (fun hHeld => ?_)
              clear hK K
              refine norm_ (a' := ?_) ?_ ?_
              rotate_left
              · show Act.put _ (some 59) _ = _
                simp only [Act.put, List.setIfInBounds_toArray, List.set_cons_zero, List.set_cons_succ, i64_w, i32_w]
                rfl
              refine one_ (i := 9) (N := some 61) #[true, true, true, true, true, true, true, true, true, true, false, false, false, false, false, false] rfl rfl (by kernel_rfl) (by decide) (fun K hK => ?_)
              refine goes_ Try.func44 (by kernel_rfl) rfl #[.int .i64 all] (by rfl) rfl rfl (by simp only [List.map_toArray, List.map_cons, List.map_nil]; rfl) ?_
              with_reducible refine (bits_c all HAR.out _).mono ?_
              rintro e w4 ⟨A4, c4, xs4, rfl, hc4, hC4, hv4, hl4, hb4⟩
              refine ⟨_, rfl, ?_⟩
              have hC3 := Kd.C_below hC3 hb4
              refine hK.out _ _ (pw_cell_below (below_step (below_step (below_step hb1 hb2) hb3) hb4) q0) (fun hHeld => ?_)
              clear hK K
              refine norm_ (a' := ?_) ?_ ?_
              rotate_left
              · show Act.put _ (some 61) _ = _
                simp only [Act.put, List.setIfInBounds_toArray, List.set_cons_zero, List.set_cons_succ, i64_w, i32_w]
                rfl
              refine one_ (i := 10) (N := some 62) #[true, true, true, true, true, true, true, true, true, true, true, false, false, false, false, false] rfl rfl (by kernel_rfl) (by decide) (fun K hK => ?_)
              refine goes_ Try.func42 (by kernel_rfl) rfl #[.slice A3 xs3.length c3, .slice A4 xs4.length c4] (by rfl) rfl rfl (by simp only [List.map_toArray, List.map_cons, List.map_nil]; rfl) ?_
              with_reducible refine (div_c _ _ _ _ _ _ _ hC3 hc3 hC4 hc4 hl3 hl4 (by rw [hv4]; have := HAP.out; omega)).mono ?_
              rintro e w5 ⟨v5, v6, q5, r5, rfl, hR5, hR6, hv5, hv6, hl5, hl6, ht6, hb5⟩
              refine ⟨_, rfl, ?_⟩
              refine hK.out _ _ (pw_cell_below (below_step (below_step (below_step (below_step hb1 hb2) hb3) hb4) hb5) q0) (fun hHeld => ?_)
              clear hK K
              refine norm_ (a' := ?_) ?_ ?_
              rotate_left
              · show Act.put _ (some 62) _ = _
                simp only [Act.put, List.setIfInBounds_toArray, List.set_cons_zero, List.set_cons_succ, i64_w, i32_w]
                rfl
              refine pure_ (i := 11) (N := some 51) (v := ?_) (a' := ?_) #[true, true, true, true, true, true, true, true, true, true, true, true, false, false, false, false] rfl rfl (by kernel_rfl) (fun _ _ _ h => h) (Or.inl ⟨by rfl, ?_⟩) ?_ ?_
              rotate_left
              · intro w'
                go_simp
                with_reducible rfl
              rotate_left
              · simp only [Act.put, List.setIfInBounds_toArray, List.set_cons_zero, List.set_cons_succ, i64_w, i32_w]
                rfl
              refine pure_ (i := 12) (N := some 63) (v := ?_) (a' := ?_) #[true, true, true, true, true, true, true, true, true, true, true, true, true, false, false, false] rfl rfl (by kernel_rfl) (fun _ _ _ h => h) (Or.inl ⟨by rfl, ?_⟩) ?_ ?_
              rotate_left
              · intro w'
                go_simp
                with_reducible rfl
              rotate_left
              · simp only [Act.put, List.setIfInBounds_toArray, List.set_cons_zero, List.set_cons_succ, i64_w, i32_w]
                rfl
              refine pure_ (i := 13) (N := some 64) (v := ?_) (a' := ?_) #[true, true, true, true, true, true, true, true, true, true, true, true, true, true, false, false] rfl rfl (by kernel_rfl) (fun _ _ _ h => h) (Or.inl ⟨by rfl, ?_⟩) ?_ ?_
              rotate_left
              · intro w'
                go_simp
                with_reducible rfl
              rotate_left
              · simp only [Act.put, List.setIfInBounds_toArray, List.set_cons_zero, List.set_cons_succ, i64_w, i32_w]
                rfl
              refine pure_ (i := 14) (N := some 13) (v := ?_) (a' := ?_) #[true, true, true, true, true, true, true, true, true, true, true, true, true, true, true, false] rfl rfl (by kernel_rfl) (fun _ _ _ h => h) (Or.inl ⟨by rfl, ?_⟩) ?_ ?_
              rotate_left
              · intro w'
                go_simp
                with_reducible rfl
              rotate_left
              · simp only [Act.put, List.setIfInBounds_toArray, List.set_cons_zero, List.set_cons_succ, i64_w, i32_w]
                rfl
              refine pure_ (i := 15) (N := some 14) (v := ?_) (a' := ?_) #[true, true, true, true, true, true, true, true, true, true, true, true, true, true, true, true] rfl rfl (by kernel_rfl) (fun _ _ _ h => h) (Or.inl ⟨by rfl, ?_⟩) ?_ ?_
              rotate_left
              · intro w'
                go_simp
                with_reducible rfl
              rotate_left
              · simp only [Act.put, List.setIfInBounds_toArray, List.set_cons_zero, List.set_cons_succ, i64_w, i32_w]
                rfl
              refine done_ (by kernel_rfl) ?_
              have eqv : (val q5 : Int) = t * x / all := by
                rw [hv5, hv3, hv1, hv2, hv4]; exact natq t x all htn hx0 (by omega)
              have erv : val r5 = (rvF t ws k).toNat := by
                rw [hv6, hv3, hv1, hv2, hv4, HRV.out]; exact natr t x all htn hx0 (by omega)
              have hb05 := below_step (below_step (below_step (below_step hb1 hb2) hb3) hb4) hb5
              have hb04 := below_step (below_step (below_step hb1 hb2) hb3) hb4
              obtain ⟨A6, c6, rfl⟩ := Kd.R_slice hR6
              have htr := HT.out.2
              have hq63 : val q5 ≤ 9223372036854775807 := by omega
              clear hC1 hC2 hC3 hC4 hv1 hv2 hv3 hv4 hv5 hv6 hl1 hl2 hl3 hl4 ht6 hc1 hc2 hc3 hc4 hb1 hb2 hb3 hb4 hHeld
              have HQ := hidI (And.intro hR5 (And.intro hR6 (And.intro erv (And.intro hl6 (And.intro hb05 (And.intro hb04 hb5))))))
              clear hR5 hR6 erv hl6 hb05 hb04 q0
              have HV := hidI (value_c v5 q5 _ w4 w5 hb5 HQ.out.1 hl5 hq63)
              clear hb5 hl5 hq63
              rw [eqv] at HV
              clear eqv hxa
              generalize leftF t all (ws.take k) = lf at *
              generalize t * x / all = q at *
              go_wp2_with fail
              refine HV.out.mono ?_
              rintro e w6 ⟨rfl, hb6, hk6⟩
              simp only []
              obtain ⟨hR5, hR6, erv, hl6, hb05, hb04, hb5⟩ := HQ.out
              clear HQ HV
              have hbx := below_step hb04 hb6
              have ho6 := Kd.own_of_R hR6
              have hv6 : Kd.R Kd.bool 4 w6 w.heap.size (fun _ => True) (.slice A6 r5.length c6) r5 := Kd.R_of_own (Go.Proofs.YtncnhhnbjmpomaaW.PrintWords.own_weaken (Go.Proofs.YtncnhhnbjmpomaaW.PrintWords.own_move ho6 (fun k hk => hk6.2 k (Go.Proofs.YtncnhhnbjmpomaaW.PrintWords.own_lt ho6 k hk) (fun hn => hn hk.symm))) (Nat.le_trans HI.out.2.2.size hb04.size)) (fun _ _ => trivial)
              obtain ⟨hO1, ⟨rs, hrs, hO2, hRW⟩, hB0⟩ := HI.out
              have hO1 := (hO1.drew).below hbx
              have hO2 := (hO2.drew).below hbx
              have hRW := Rows.below (Rows.below (w1 := wr.drew) hRW ⟨rfl, rfl, rfl, Nat.le_refl _, fun _ _ => rfl⟩) hbx
              have hB0 := below_step (below_drewN hB0 1) hbx
              clear HI hR5 hR6 hb05 hb04 hb5 hb6 hk6 hbx ho6
              have hl1 : (quosF t all (ws.take k)).length = k := by rw [quosF_len, List.length_take]; omega
              rw [← HALL.out] at hO1
              generalize quosF t all (ws.take k) = zq at *
              have hfs := Rows.snoc hRW hv6 (by rw [hrs, erv]) hl6
              have HO1 := hidI hO1
              have HO2 := hidI hO2
              have HFS := hidI (And.intro hRW hfs)
              have HB0 := hidI hB0
              have hzq : zq.length ≤ 1000000 := by omega
              have hzr : rs.length ≤ 1000000 := by omega
              have HL := hidI (And.intro hl1 hrs)
              have HSZ := hB0.size
              have HBV := hidI hv6
              have HER := hidI erv
              clear hO1 hO2 hB0 hRW hfs hl1 hrs hv6 erv hl6
              go_wp2_with (first
                | (at_builtin; refine print_append_cells (w0 := w) (W := w6) w.heap.size rfl (.tmp 70) (.tmp 72) 22 2 (.int .i64 0) 1 8 rfl Try.underlying22 info2 rfl (by decide) (by decide) u9 zq.length (zq.flatMap li) [.int .i64 q] (by rfl) (by rfl) rfl (by simp [Value.oneCell']) HO1.out HB0.out HB0.out.size (by omega) ?_; intro v7 w7 ho7 hb7 hg7 hat7)
                | (at_builtin; refine print_append_cells (w0 := w) (W := w7) w.heap.size rfl (.tmp 74) (.tmp 76) 102 87 (.slice none 0 0) 1 24 rfl Try.underlying102 info87 rfl (by decide) (by decide) u10 rs.length (rs.flatMap lv) [.slice A6 r5.length c6] (by rfl) (by rfl) rfl (by simp [Value.oneCell']) (HO2.out.kept (fun k2 hk2 => hg7.block k2 (HO2.out.lt hk2) (fun h => HO2.out.ne_own HO1.out (by decide) k2 hk2 h.symm))) hb7 hb7.size (by omega) ?_; intro v8 w8 ho8 hb8 hg8 hat8))
              have hO27 := HO2.out.kept (w1 := w7) (fun k2 hk2 => hg7.block k2 (HO2.out.lt hk2) (fun h => HO2.out.ne_own HO1.out (by decide) k2 hk2 h.symm))
              have hO17 := Own.snoc (l := li) (p := q) ho7
              have hO18 := hO17.kept (w1 := w8) (fun k2 hk2 => hg8.block k2 (hO17.lt hk2) (fun h => hO17.ne_own hO27 (by decide) k2 hk2 h.symm))
              have hO28 := Own.snoc (l := lv) (p := Value.slice A6 r5.length c6) ho8
              have hR7 := Rows.grown HFS.out.2 HO1.out (by decide) (fun k2 h1 h2 => hg7.block k2 h1 h2)
              have hR8 := Rows.grown hR7 hO27 (by decide) (fun k2 h1 h2 => hg8.block k2 h1 h2)
              have hfin : Hid (RS t ws w w8 v7 v8 (k + 1)) := by
                refine ⟨?_, ⟨rs ++ [.slice A6 r5.length c6], by simp [HL.out.2], hO28, hR8⟩, hb8⟩
                rw [← HALL.out, hst1.out]
                exact hO18
              clear ho7 hb7 hg7 hat7 ho8 hb8 hg8 hat8 hO27 hO17 hO18 hO28 hR7 hR8 HO1 HO2 HB0 HFS HBV
              go_roundw
              case rel => exact ⟨k + 1, by omega, by go_num, by rw [hst3.out], hfin⟩
              case measure => simp [intOf]; omega
            · obtain rfl : k = ws.length := by omega
              have hRS := HI.out
              unfold RS at hRS
              rw [List.take_length] at hRS
              rw [List.take_length]
              obtain ⟨hO1, ⟨rs, hrs, hO2, hRW⟩, hB⟩ := hRS
              rw [← HALL.out] at hO1
              have hHL := left_bd t ws htn HNN.out (by rw [← HALL.out]; exact HAP.out)
              rw [← HALL.out] at hHL
              obtain ⟨lf, hlf⟩ : ∃ lf : Nat, (lf : Int) = leftF t all ws := ⟨(leftF t all ws).toNat, by omega⟩
              have hlf2 : (leftF t all ws).toNat = lf := by omega
              have hpos : 0 < ws.length := by
                apply Nat.pos_of_ne_zero
                intro h0
                have e := HALL.out
                rw [List.length_eq_zero_iff.1 h0] at e
                simp at e; omega
              have HPF : Hid (partsF t ws = bump (quosF t all ws) ((ordF t ws).take lf)) := by
                show _ = _
                unfold partsF ordF; rw [← HALL.out, hlf2]
              have hsum : (quosF t all ws).sum + lf = t := by
                have : leftF t all ws = t - (quosF t all ws).sum := rfl
                omega
              have hq0 : ∀ x ∈ quosF t all ws, 0 ≤ x := by
                intro x hx
                obtain ⟨y, hy, rfl⟩ := List.mem_map.1 hx
                exact (quo_bd htn (HNN.out y hy) (by rw [HALL.out]; exact HM.out y hy) HAP.out).1
              have HQ0 := hidI hq0
              have hql := quosF_len t all ws
              have HLF : Hid (∀ j : Nat, j < lf → (j : Int) < leftF t ws.sum ws) := by
                show ∀ j : Nat, j < lf → (j : Int) < leftF t ws.sum ws
                intro j hj
                rw [← HALL.out, ← hlf]; omega
              have hlf3 : lf ≤ ws.length := by omega
              rw [← hlf]
              rcases hO1.cases_ with ⟨_, h0⟩ | ⟨g9, c9, rfl, hc9, hc9m, hg9b, hg9l⟩
              · rw [h0] at hql; simp at hql; omega
              rcases hO2.cases_ with ⟨_, h0⟩ | ⟨g10, c10, rfl, hc10, hc10m, hg10b, hg10l⟩
              · rw [h0] at hrs; simp at hrs; omega
              have hST : Hid (PK t ws w wr g9 c9 g10 c10 0 (quosF t all ws)) := ⟨by rw [hql] at hO1; exact hO1, ⟨rs, hrs, by rw [hrs] at hO2; exact hO2, fun i hi => by
                have := hRW i hi
                simpa [PKf, alive] using this⟩, hB⟩
              rw [hql, hrs]
              clear hO1 hO2 hRW hB HI hlf hlf2 hHL hq0 hlt hk hc9 hc10 hrs
              generalize quosF t all ws = qs at *
              have HSUM := hidI hsum
              go_wp2
              go_loopw [11] (fun l w2 => ∃ j : Nat, j ≤ lf ∧ l = .int .i64 ((lf : Int) - j) ∧ Hid (PK t ws w w2 g9 c9 g10 c10 j qs)) (fun l _ => (intOf l).toNat)
              case atStart => exact ⟨0, Nat.zero_le _, by simp, hST.out⟩
              case round =>
                obtain ⟨j, hj, rfl, HJ⟩ := hrel
                clear hST
                by_cases hlt : j < lf
                · have tl : decide (((lf : Int) - j) > 0) = true := by simp; omega
                  go_wp2
                  go_loopw [17, 18] (fun bv iv w3 => ∃ i : Nat, i ≤ ws.length ∧ iv = .int .i64 i ∧ ∃ bz : Int, bv = .int .i64 bz ∧ Hid (BI t ws j i bz ∧ PK t ws w w3 g9 c9 g10 c10 j qs)) (fun _ iv _ => ws.length - (intOf iv).toNat)
                  case atStart => exact ⟨0, Nat.zero_le _, rfl, -1, rfl, BI.start t ws j, HJ.out⟩
                  case round =>
                    obtain ⟨i, hi, rfl, bz, rfl, HB⟩ := hrel
                    by_cases hil : i < ws.length
                    · obtain ⟨hBI, hPK⟩ := HB.out
                      have hPK2 := hPK
                      obtain ⟨hO1, ⟨rs, hrs, hO2, hRW⟩, hBW⟩ := hPK
                      have hq := (ownv_cell hO2 i (by omega)).1
                      have hnil : Hid (rs[i] = .slice Option.none 0 0 → (alive t ws j i → rvF t ws i = 0) → wr.cell? ⟨g10, i, Option.none⟩ = some (.slice Option.none 0 0) ∧ BI t ws j (i + 1) bz) := by
                        intro h1 h2
                        rw [h1] at hq
                        exact ⟨hq, BI.skip (by rw [← HALL.out]; exact HAP.out) hBI h2⟩
                      have hcase : (rs[i] = .slice Option.none 0 0 ∧ (alive t ws j i → rvF t ws i = 0)) ∨ (alive t ws j i ∧ ∃ gi ci xi, rs[i] = .slice (some ⟨gi, 0, Option.none⟩) (xi : List Bool).length ci ∧ xi.length ≤ ci ∧ Kd.C Kd.bool wr (some ⟨gi, 0, Option.none⟩) xi.length xi ∧ val xi = (rvF t ws i).toNat ∧ xi.length ≤ 100000) := by
                        have h := hRW i (by omega)
                        unfold PKf at h
                        by_cases hal : alive t ws j i
                        · rw [if_pos hal] at h
                          obtain ⟨xs, h1, h2, h3⟩ := h
                          obtain ⟨A, c, e, hc, hC⟩ := Kd.R_reads h1
                          rcases (Kd.own_of_R h1).2 with ⟨e1, e2⟩ | ⟨gi, ci, cur, e1, _⟩
                          · refine .inl ⟨e1, fun _ => ?_⟩
                            rw [List.length_eq_zero_iff.1 e2] at h2
                            have := rv_nn t ws (by rw [← HALL.out]; exact HAP.out) i
                            simp [val] at h2; omega
                          · rw [e] at e1
                            injection e1 with e2 e3 e4
                            subst e2
                            exact .inr ⟨hal, gi, c, xs, e, hc, hC, h2, h3⟩
                        · rw [if_neg hal] at h
                          exact .inl ⟨h, fun h => absurd h hal⟩
                      rcases hcase with ⟨h1, h2⟩ | ⟨hal, gi, ci, xi, h1, hci, hCi, hvi, hli⟩
                      · obtain ⟨hq, hn⟩ := hnil.out h1 h2
                        have hfin : Hid (BI t ws j (i + 1) bz ∧ PK t ws w wr.drew g9 c9 g10 c10 j qs) := ⟨hn, hPK2.below (drew_b _)⟩
                        clear hBI hPK2 hO1 hO2 hRW hBW hnil h1 h2 hn HB HJ
                        go_wp2_with fail
                        refine start_ (n := 20) (S := fun w' => w'.cell? ⟨g10, i, Option.none⟩ = some (.slice Option.none 0 0)) (ds := []) #[false, false, false, false, false, false, false, false, false, false, false, false, false, false, false, false, false, false, false, false] (by kernel_rfl) rfl rfl (hq) (fun hHeld => ?_)
                        refine pure_ (i := 0) (N := some 89) (v := ?_) (a' := ?_) #[true, false, false, false, false, false, false, false, false, false, false, false, false, false, false, false, false, false, false, false] rfl rfl (by kernel_rfl) (fun _ _ _ h => h) (Or.inl ⟨by rfl, ?_⟩) ?_ ?_
                        rotate_left
                        · intro w'
                          go_simp
                          with_reducible rfl
                        rotate_left
                        · simp only [Act.put, List.setIfInBounds_toArray, List.set_cons_zero, List.set_cons_succ, i64_w, i32_w]
                          rfl
                        refine pure_ (i := 1) (N := some 90) (v := ?_) (a' := ?_) #[true, true, false, false, false, false, false, false, false, false, false, false, false, false, false, false, false, false, false, false] rfl rfl (by kernel_rfl) (fun _ _ _ h => h) (Or.inl ⟨by rfl, ?_⟩) ?_ ?_
                        rotate_left
                        · intro w'
                          go_simp
                          with_reducible rfl
                        rotate_left
                        · simp only [Act.put, List.setIfInBounds_toArray, List.set_cons_zero, List.set_cons_succ, i64_w, i32_w]
                          rfl
                        refine pure_ (i := 2) (N := some 91) (v := ?_) (a' := ?_) #[true, true, true, false, false, false, false, false, false, false, false, false, false, false, false, false, false, false, false, false] rfl rfl (by kernel_rfl) (fun _ _ _ h => h) (Or.inl ⟨by rfl, ?_⟩) ?_ ?_
                        rotate_left
                        · intro w'
                          go_simp
                          with_reducible rfl
                        rotate_left
                        · simp only [Act.put, List.setIfInBounds_toArray, List.set_cons_zero, List.set_cons_succ, i64_w, i32_w]
                          rfl
                        refine take_ (i := 3) (N := some 92) (v := ?_) (a' := ?_) #[true, true, true, true, false, false, false, false, false, false, false, false, false, false, false, false, false, false, false, false] rfl rfl (by kernel_rfl) (fun _ _ _ h => h) (Or.inl ⟨by rfl, ?_⟩) hHeld ?_ ?_
                        rotate_left
                        · intro w' s0
                          go_simp
                          with_reducible rfl
                        rotate_left
                        · simp only [Act.put, List.setIfInBounds_toArray, List.set_cons_zero, List.set_cons_succ, i64_w, i32_w]
                          rfl
                        refine pure_ (i := 4) (N := some 93) (v := ?_) (a' := ?_) #[true, true, true, true, true, false, false, false, false, false, false, false, false, false, false, false, false, false, false, false] rfl rfl (by kernel_rfl) (fun _ _ _ h => h) (Or.inl ⟨by rfl, ?_⟩) ?_ ?_
                        rotate_left
                        · intro w'
                          go_simp
                          with_reducible rfl
                        rotate_left
                        · simp only [Act.put, List.setIfInBounds_toArray, List.set_cons_zero, List.set_cons_succ, i64_w, i32_w]
                          rfl
                        refine pure_ (i := 5) (N := some 94) (v := ?_) (a' := ?_) #[true, true, true, true, true, true, false, false, false, false, false, false, false, false, false, false, false, false, false, false] rfl rfl (by kernel_rfl) (fun _ _ _ h => h) (Or.inl ⟨by rfl, ?_⟩) ?_ ?_
                        rotate_left
                        · intro w'
                          go_simp
                          with_reducible rfl
                        rotate_left
                        · simp only [Act.put, List.setIfInBounds_toArray, List.set_cons_zero, List.set_cons_succ, i64_w, i32_w]
                          rfl
                        refine pure_ (i := 6) (N := some 95) (v := undef) (a' := ?_) #[true, true, true, true, true, true, true, false, false, false, false, false, false, false, false, false, false, false, false, false] rfl rfl (by kernel_rfl) (fun _ _ _ h => h) (Or.inr ⟨by rfl, rfl⟩) ?_ ?_
                        rotate_left
                        · simp only [Act.put, List.setIfInBounds_toArray, List.set_cons_zero, List.set_cons_succ, i64_w, i32_w]
                          rfl
                        refine pure_ (i := 7) (N := some 96) (v := undef) (a' := ?_) #[true, true, true, true, true, true, true, true, false, false, false, false, false, false, false, false, false, false, false, false] rfl rfl (by kernel_rfl) (fun _ _ _ h => h) (Or.inr ⟨by rfl, rfl⟩) ?_ ?_
                        rotate_left
                        · simp only [Act.put, List.setIfInBounds_toArray, List.set_cons_zero, List.set_cons_succ, i64_w, i32_w]
                          rfl
                        refine pure_ (i := 8) (N := some 97) (v := undef) (a' := ?_) #[true, true, true, true, true, true, true, true, true, false, false, false, false, false, false, false, false, false, false, false] rfl rfl (by kernel_rfl) (fun _ _ _ h => h) (Or.inr ⟨by rfl, rfl⟩) ?_ ?_
                        rotate_left
                        · simp only [Act.put, List.setIfInBounds_toArray, List.set_cons_zero, List.set_cons_succ, i64_w, i32_w]
                          rfl
                        refine pure_ (i := 9) (N := some 98) (v := undef) (a' := ?_) #[true, true, true, true, true, true, true, true, true, true, false, false, false, false, false, false, false, false, false, false] rfl rfl (by kernel_rfl) (fun _ _ _ h => h) (Or.inr ⟨by rfl, rfl⟩) ?_ ?_
                        rotate_left
                        · simp only [Act.put, List.setIfInBounds_toArray, List.set_cons_zero, List.set_cons_succ, i64_w, i32_w]
                          rfl
                        refine pure_ (i := 10) (N := some 99) (v := undef) (a' := ?_) #[true, true, true, true, true, true, true, true, true, true, true, false, false, false, false, false, false, false, false, false] rfl rfl (by kernel_rfl) (fun _ _ _ h => h) (Or.inr ⟨by rfl, rfl⟩) ?_ ?_
                        rotate_left
                        · simp only [Act.put, List.setIfInBounds_toArray, List.set_cons_zero, List.set_cons_succ, i64_w, i32_w]
                          rfl
                        refine pure_ (i := 11) (N := some 100) (v := undef) (a' := ?_) #[true, true, true, true, true, true, true, true, true, true, true, true, false, false, false, false, false, false, false, false] rfl rfl (by kernel_rfl) (fun _ _ _ h => h) (Or.inr ⟨by rfl, rfl⟩) ?_ ?_
                        rotate_left
                        · simp only [Act.put, List.setIfInBounds_toArray, List.set_cons_zero, List.set_cons_succ, i64_w, i32_w]
                          rfl
                        refine pure_ (i := 12) (N := some 101) (v := undef) (a' := ?_) #[true, true, true, true, true, true, true, true, true, true, true, true, true, false, false, false, false, false, false, false] rfl rfl (by kernel_rfl) (fun _ _ _ h => h) (Or.inr ⟨by rfl, rfl⟩) ?_ ?_
                        rotate_left
                        · simp only [Act.put, List.setIfInBounds_toArray, List.set_cons_zero, List.set_cons_succ, i64_w, i32_w]
                          rfl
                        refine pure_ (i := 13) (N := some 102) (v := undef) (a' := ?_) #[true, true, true, true, true, true, true, true, true, true, true, true, true, true, false, false, false, false, false, false] rfl rfl (by kernel_rfl) (fun _ _ _ h => h) (Or.inr ⟨by rfl, rfl⟩) ?_ ?_
                        rotate_left
                        · simp only [Act.put, List.setIfInBounds_toArray, List.set_cons_zero, List.set_cons_succ, i64_w, i32_w]
                          rfl
                        refine pure_ (i := 14) (N := some 103) (v := undef) (a' := ?_) #[true, true, true, true, true, true, true, true, true, true, true, true, true, true, true, false, false, false, false, false] rfl rfl (by kernel_rfl) (fun _ _ _ h => h) (Or.inr ⟨by rfl, rfl⟩) ?_ ?_
                        rotate_left
                        · simp only [Act.put, List.setIfInBounds_toArray, List.set_cons_zero, List.set_cons_succ, i64_w, i32_w]
                          rfl
                        refine pure_ (i := 15) (N := some 104) (v := undef) (a' := ?_) #[true, true, true, true, true, true, true, true, true, true, true, true, true, true, true, true, false, false, false, false] rfl rfl (by kernel_rfl) (fun _ _ _ h => h) (Or.inr ⟨by rfl, rfl⟩) ?_ ?_
                        rotate_left
                        · simp only [Act.put, List.setIfInBounds_toArray, List.set_cons_zero, List.set_cons_succ, i64_w, i32_w]
                          rfl
                        refine pure_ (i := 16) (N := some 105) (v := undef) (a' := ?_) #[true, true, true, true, true, true, true, true, true, true, true, true, true, true, true, true, true, false, false, false] rfl rfl (by kernel_rfl) (fun _ _ _ h => h) (Or.inr ⟨by rfl, rfl⟩) ?_ ?_
                        rotate_left
                        · simp only [Act.put, List.setIfInBounds_toArray, List.set_cons_zero, List.set_cons_succ, i64_w, i32_w]
                          rfl
                        refine pure_ (i := 17) (N := some 106) (v := undef) (a' := ?_) #[true, true, true, true, true, true, true, true, true, true, true, true, true, true, true, true, true, true, false, false] rfl rfl (by kernel_rfl) (fun _ _ _ h => h) (Or.inr ⟨by rfl, rfl⟩) ?_ ?_
                        rotate_left
                        · simp only [Act.put, List.setIfInBounds_toArray, List.set_cons_zero, List.set_cons_succ, i64_w, i32_w]
                          rfl
                        refine pure_ (i := 18) (N := some 107) (v := undef) (a' := ?_) #[true, true, true, true, true, true, true, true, true, true, true, true, true, true, true, true, true, true, true, false] rfl rfl (by kernel_rfl) (fun _ _ _ h => h) (Or.inr ⟨by rfl, rfl⟩) ?_ ?_
                        rotate_left
                        · simp only [Act.put, List.setIfInBounds_toArray, List.set_cons_zero, List.set_cons_succ, i64_w, i32_w]
                          rfl
                        refine pure_ (i := 19) (N := some 108) (v := ?_) (a' := ?_) #[true, true, true, true, true, true, true, true, true, true, true, true, true, true, true, true, true, true, true, true] rfl rfl (by kernel_rfl) (fun _ _ _ h => h) (Or.inl ⟨by rfl, ?_⟩) ?_ ?_
                        rotate_left
                        · intro w'
                          go_simp
                          with_reducible rfl
                        rotate_left
                        · simp only [Act.put, List.setIfInBounds_toArray, List.set_cons_zero, List.set_cons_succ, i64_w, i32_w]
                          rfl
                        refine done_ (by kernel_rfl) ?_
                        go_wp2
                        go_roundw
                        case rel => exact ⟨i + 1, by omega, by go_num, bz, rfl, hfin.out⟩
                        case measure => simp [intOf]; omega
                      · rw [h1] at hq
                        clear hnil
                        by_cases hbz : bz < 0
                        · have hfin : Hid (BI t ws j (i + 1) i ∧ PK t ws w wr.drew g9 c9 g10 c10 j qs) := ⟨BI.first (by rw [← HALL.out]; exact HAP.out) hBI hbz hal, hPK2.below (drew_b _)⟩
                          have tb : decide (bz < 0) = true := by simpa using hbz
                          clear hBI hPK2 hO1 hO2 hRW hBW h1 HB HJ hCi
                          go_wp2_with fail
                          refine start_ (n := 20) (S := fun w' => w'.cell? ⟨g10, i, Option.none⟩ = some (.slice (some ⟨gi, 0, Option.none⟩) xi.length ci)) (ds := []) #[false, false, false, false, false, false, false, false, false, false, false, false, false, false, false, false, false, false, false, false] (by kernel_rfl) rfl rfl (hq) (fun hHeld => ?_)
                          refine pure_ (i := 0) (N := some 89) (v := ?_) (a' := ?_) #[true, false, false, false, false, false, false, false, false, false, false, false, false, false, false, false, false, false, false, false] rfl rfl (by kernel_rfl) (fun _ _ _ h => h) (Or.inl ⟨by rfl, ?_⟩) ?_ ?_
                          rotate_left
                          · intro w'
                            go_simp
                            with_reducible rfl
                          rotate_left
                          · simp only [Act.put, List.setIfInBounds_toArray, List.set_cons_zero, List.set_cons_succ, i64_w, i32_w]
                            rfl
                          refine pure_ (i := 1) (N := some 90) (v := ?_) (a' := ?_) #[true, true, false, false, false, false, false, false, false, false, false, false, false, false, false, false, false, false, false, false] rfl rfl (by kernel_rfl) (fun _ _ _ h => h) (Or.inl ⟨by rfl, ?_⟩) ?_ ?_
                          rotate_left
                          · intro w'
                            go_simp
                            with_reducible rfl
                          rotate_left
                          · simp only [Act.put, List.setIfInBounds_toArray, List.set_cons_zero, List.set_cons_succ, i64_w, i32_w]
                            rfl
                          refine pure_ (i := 2) (N := some 91) (v := ?_) (a' := ?_) #[true, true, true, false, false, false, false, false, false, false, false, false, false, false, false, false, false, false, false, false] rfl rfl (by kernel_rfl) (fun _ _ _ h => h) (Or.inl ⟨by rfl, ?_⟩) ?_ ?_
                          rotate_left
                          · intro w'
                            go_simp
                            with_reducible rfl
                          rotate_left
                          · simp only [Act.put, List.setIfInBounds_toArray, List.set_cons_zero, List.set_cons_succ, i64_w, i32_w]
                            rfl
                          refine take_ (i := 3) (N := some 92) (v := ?_) (a' := ?_) #[true, true, true, true, false, false, false, false, false, false, false, false, false, false, false, false, false, false, false, false] rfl rfl (by kernel_rfl) (fun _ _ _ h => h) (Or.inl ⟨by rfl, ?_⟩) hHeld ?_ ?_
                          rotate_left
                          · intro w' s0
                            go_simp
                            with_reducible rfl
                          rotate_left
                          · simp only [Act.put, List.setIfInBounds_toArray, List.set_cons_zero, List.set_cons_succ, i64_w, i32_w]
                            rfl
                          refine pure_ (i := 4) (N := some 93) (v := ?_) (a' := ?_) #[true, true, true, true, true, false, false, false, false, false, false, false, false, false, false, false, false, false, false, false] rfl rfl (by kernel_rfl) (fun _ _ _ h => h) (Or.inl ⟨by rfl, ?_⟩) ?_ ?_
                          rotate_left
                          · intro w'
                            go_simp
                            with_reducible rfl
                          rotate_left
                          · simp only [Act.put, List.setIfInBounds_toArray, List.set_cons_zero, List.set_cons_succ, i64_w, i32_w]
                            rfl
                          refine pure_ (i := 5) (N := some 94) (v := ?_) (a' := ?_) #[true, true, true, true, true, true, false, false, false, false, false, false, false, false, false, false, false, false, false, false] rfl rfl (by kernel_rfl) (fun _ _ _ h => h) (Or.inl ⟨by rfl, ?_⟩) ?_ ?_
                          rotate_left
                          · intro w'
                            go_simp
                            with_reducible rfl
                          rotate_left
                          · simp only [Act.put, List.setIfInBounds_toArray, List.set_cons_zero, List.set_cons_succ, i64_w, i32_w]
                            rfl
                          refine pure_ (i := 6) (N := some 95) (v := ?_) (a' := ?_) #[true, true, true, true, true, true, true, false, false, false, false, false, false, false, false, false, false, false, false, false] rfl rfl (by kernel_rfl) (fun _ _ _ h => h) (Or.inl ⟨by rfl, ?_⟩) ?_ ?_
                          rotate_left
                          · intro w'
                            go_simp
                            with_reducible rfl
                          rotate_left
                          · simp only [Act.put, List.setIfInBounds_toArray, List.set_cons_zero, List.set_cons_succ, i64_w, i32_w]
                            rfl
                          refine pure_ (i := 7) (N := some 96) (v := ?_) (a' := ?_) #[true, true, true, true, true, true, true, true, false, false, false, false, false, false, false, false, false, false, false, false] rfl rfl (by kernel_rfl) (fun _ _ _ h => h) (Or.inl ⟨by rfl, ?_⟩) ?_ ?_
                          rotate_left
                          · intro w'
                            go_simp
                            with_reducible rfl
                          rotate_left
                          · simp only [Act.put, List.setIfInBounds_toArray, List.set_cons_zero, List.set_cons_succ, i64_w, i32_w]
                            rfl
                          refine pure_ (i := 8) (N := some 97) (v := ?_) (a' := ?_) #[true, true, true, true, true, true, true, true, true, false, false, false, false, false, false, false, false, false, false, false] rfl rfl (by kernel_rfl) (fun _ _ _ h => h) (Or.inl ⟨by rfl, ?_⟩) ?_ ?_
                          rotate_left
                          · intro w'
                            go_simp
                            with_reducible rfl
                          rotate_left
                          · simp only [Act.put, List.setIfInBounds_toArray, List.set_cons_zero, List.set_cons_succ, i64_w, i32_w]
                            rfl
                          refine pure_ (i := 9) (N := some 98) (v := undef) (a' := ?_) #[true, true, true, true, true, true, true, true, true, true, false, false, false, false, false, false, false, false, false, false] rfl rfl (by kernel_rfl) (fun _ _ _ h => h) (Or.inr ⟨by rfl, rfl⟩) ?_ ?_
                          rotate_left
                          · simp only [Act.put, List.setIfInBounds_toArray, List.set_cons_zero, List.set_cons_succ, i64_w, i32_w]
                            rfl
                          refine pure_ (i := 10) (N := some 99) (v := undef) (a' := ?_) #[true, true, true, true, true, true, true, true, true, true, true, false, false, false, false, false, false, false, false, false] rfl rfl (by kernel_rfl) (fun _ _ _ h => h) (Or.inr ⟨by rfl, rfl⟩) ?_ ?_
                          rotate_left
                          · simp only [Act.put, List.setIfInBounds_toArray, List.set_cons_zero, List.set_cons_succ, i64_w, i32_w]
                            rfl
                          refine pure_ (i := 11) (N := some 100) (v := undef) (a' := ?_) #[true, true, true, true, true, true, true, true, true, true, true, true, false, false, false, false, false, false, false, false] rfl rfl (by kernel_rfl) (fun _ _ _ h => h) (Or.inr ⟨by rfl, rfl⟩) ?_ ?_
                          rotate_left
                          · simp only [Act.put, List.setIfInBounds_toArray, List.set_cons_zero, List.set_cons_succ, i64_w, i32_w]
                            rfl
                          refine pure_ (i := 12) (N := some 101) (v := undef) (a' := ?_) #[true, true, true, true, true, true, true, true, true, true, true, true, true, false, false, false, false, false, false, false] rfl rfl (by kernel_rfl) (fun _ _ _ h => h) (Or.inr ⟨by rfl, rfl⟩) ?_ ?_
                          rotate_left
                          · simp only [Act.put, List.setIfInBounds_toArray, List.set_cons_zero, List.set_cons_succ, i64_w, i32_w]
                            rfl
                          refine pure_ (i := 13) (N := some 102) (v := undef) (a' := ?_) #[true, true, true, true, true, true, true, true, true, true, true, true, true, true, false, false, false, false, false, false] rfl rfl (by kernel_rfl) (fun _ _ _ h => h) (Or.inr ⟨by rfl, rfl⟩) ?_ ?_
                          rotate_left
                          · simp only [Act.put, List.setIfInBounds_toArray, List.set_cons_zero, List.set_cons_succ, i64_w, i32_w]
                            rfl
                          refine pure_ (i := 14) (N := some 103) (v := undef) (a' := ?_) #[true, true, true, true, true, true, true, true, true, true, true, true, true, true, true, false, false, false, false, false] rfl rfl (by kernel_rfl) (fun _ _ _ h => h) (Or.inr ⟨by rfl, rfl⟩) ?_ ?_
                          rotate_left
                          · simp only [Act.put, List.setIfInBounds_toArray, List.set_cons_zero, List.set_cons_succ, i64_w, i32_w]
                            rfl
                          refine pure_ (i := 15) (N := some 104) (v := undef) (a' := ?_) #[true, true, true, true, true, true, true, true, true, true, true, true, true, true, true, true, false, false, false, false] rfl rfl (by kernel_rfl) (fun _ _ _ h => h) (Or.inr ⟨by rfl, rfl⟩) ?_ ?_
                          rotate_left
                          · simp only [Act.put, List.setIfInBounds_toArray, List.set_cons_zero, List.set_cons_succ, i64_w, i32_w]
                            rfl
                          refine pure_ (i := 16) (N := some 105) (v := undef) (a' := ?_) #[true, true, true, true, true, true, true, true, true, true, true, true, true, true, true, true, true, false, false, false] rfl rfl (by kernel_rfl) (fun _ _ _ h => h) (Or.inr ⟨by rfl, rfl⟩) ?_ ?_
                          rotate_left
                          · simp only [Act.put, List.setIfInBounds_toArray, List.set_cons_zero, List.set_cons_succ, i64_w, i32_w]
                            rfl
                          refine pure_ (i := 17) (N := some 106) (v := undef) (a' := ?_) #[true, true, true, true, true, true, true, true, true, true, true, true, true, true, true, true, true, true, false, false] rfl rfl (by kernel_rfl) (fun _ _ _ h => h) (Or.inr ⟨by rfl, rfl⟩) ?_ ?_
                          rotate_left
                          · simp only [Act.put, List.setIfInBounds_toArray, List.set_cons_zero, List.set_cons_succ, i64_w, i32_w]
                            rfl
                          refine pure_ (i := 18) (N := some 107) (v := ?_) (a' := ?_) #[true, true, true, true, true, true, true, true, true, true, true, true, true, true, true, true, true, true, true, false] rfl rfl (by kernel_rfl) (fun _ _ _ h => h) (Or.inl ⟨by rfl, ?_⟩) ?_ ?_
                          rotate_left
                          · intro w'
                            go_simp
                            with_reducible rfl
                          rotate_left
                          · simp only [Act.put, List.setIfInBounds_toArray, List.set_cons_zero, List.set_cons_succ, i64_w, i32_w]
                            rfl
                          refine pure_ (i := 19) (N := some 108) (v := ?_) (a' := ?_) #[true, true, true, true, true, true, true, true, true, true, true, true, true, true, true, true, true, true, true, true] rfl rfl (by kernel_rfl) (fun _ _ _ h => h) (Or.inl ⟨by rfl, ?_⟩) ?_ ?_
                          rotate_left
                          · intro w'
                            go_simp
                            with_reducible rfl
                          rotate_left
                          · simp only [Act.put, List.setIfInBounds_toArray, List.set_cons_zero, List.set_cons_succ, i64_w, i32_w]
                            rfl
                          refine done_ (by kernel_rfl) ?_
                          go_wp2
                          go_roundw
                          case rel => exact ⟨i + 1, by omega, by go_num, i, rfl, hfin.out⟩
                          case measure => simp [intOf]; omega
                        · obtain ⟨b, hb0⟩ : ∃ b : Nat, bz = b := ⟨bz.toNat, by omega⟩
                          subst hb0
                          obtain ⟨hbi, hba⟩ := hBI.alive_
                          have h := hRW b (by omega)
                          unfold PKf at h
                          rw [if_pos hba] at h
                          obtain ⟨xb, hb1, hvb, hlb⟩ := h
                          obtain ⟨Ab, cb, eb, hcb, hCb⟩ := Kd.R_reads hb1
                          have hbl : b < ws.length := by omega
                          have hq2 := (ownv_cell hO2 b (by omega)).1
                          rw [eb] at hq2
                          have tb : decide ((b : Int) < 0) = false := by simp
                          have hless : (decide (val xb < val xi)) = decide (rvF t ws b < rvF t ws i) := by
                            have := rv_nn t ws (by rw [← HALL.out]; exact HAP.out) i
                            have := rv_nn t ws (by rw [← HALL.out]; exact HAP.out) b
                            rw [hvb, hvi]
                            apply decide_eq_decide.2; omega
                          have HLS := hidI hless
                          have hfin : Hid (∀ w7, Below wr.drew.heap.size wr.drew w7 → ((rvF t ws b < rvF t ws i → BI t ws j (i + 1) i) ∧ (¬ rvF t ws b < rvF t ws i → BI t ws j (i + 1) b)) ∧ PK t ws w w7 g9 c9 g10 c10 j qs) := fun w7 hb7 => ⟨⟨fun hl => hBI.take hal hl, fun hl => hBI.keep hl⟩, (hPK2.below (drew_b _)).below hb7⟩
                          have HCb := hidI (Kd.C_below hCb (drew_b wr))
                          have HCb2 := hidI hcb
                          have HCi := hidI (Kd.C_below hCi (drew_b wr))
                          have HCi2 := hidI hci
                          have HLb := hidI hlb
                          have HLi := hidI hli
                          clear hBI hPK2 hO1 hO2 hRW hBW h1 HB HJ hCi hCb hb1 eb hvb hlb hcb hli hvi hci hless hbz
                          go_wp2_with fail
                          refine start_ (n := 20) (S := fun w' => w'.cell? ⟨g10, i, Option.none⟩ = some (.slice (some ⟨gi, 0, Option.none⟩) xi.length ci) ∧ w'.cell? ⟨g10, b, Option.none⟩ = some (.slice Ab xb.length cb)) (ds := []) #[false, false, false, false, false, false, false, false, false, false, false, false, false, false, false, false, false, false, false, false] (by kernel_rfl) rfl rfl ⟨hq, hq2⟩ (fun hHeld => ?_)
                          refine pure_ (i := 0) (N := some 89) (v := ?_) (a' := ?_) #[true, false, false, false, false, false, false, false, false, false, false, false, false, false, false, false, false, false, false, false] rfl rfl (by kernel_rfl) (fun _ _ _ h => h) (Or.inl ⟨by rfl, ?_⟩) ?_ ?_
                          rotate_left
                          · intro w'
                            go_simp
                            with_reducible rfl
                          rotate_left
                          · simp only [Act.put, List.setIfInBounds_toArray, List.set_cons_zero, List.set_cons_succ, i64_w, i32_w]
                            rfl
                          refine pure_ (i := 1) (N := some 90) (v := ?_) (a' := ?_) #[true, true, false, false, false, false, false, false, false, false, false, false, false, false, false, false, false, false, false, false] rfl rfl (by kernel_rfl) (fun _ _ _ h => h) (Or.inl ⟨by rfl, ?_⟩) ?_ ?_
                          rotate_left
                          · intro w'
                            go_simp
                            with_reducible rfl
                          rotate_left
                          · simp only [Act.put, List.setIfInBounds_toArray, List.set_cons_zero, List.set_cons_succ, i64_w, i32_w]
                            rfl
                          refine pure_ (i := 2) (N := some 91) (v := ?_) (a' := ?_) #[true, true, true, false, false, false, false, false, false, false, false, false, false, false, false, false, false, false, false, false] rfl rfl (by kernel_rfl) (fun _ _ _ h => h) (Or.inl ⟨by rfl, ?_⟩) ?_ ?_
                          rotate_left
                          · intro w'
                            go_simp
                            with_reducible rfl
                          rotate_left
                          · simp only [Act.put, List.setIfInBounds_toArray, List.set_cons_zero, List.set_cons_succ, i64_w, i32_w]
                            rfl
                          refine take_ (i := 3) (N := some 92) (v := ?_) (a' := ?_) #[true, true, true, true, false, false, false, false, false, false, false, false, false, false, false, false, false, false, false, false] rfl rfl (by kernel_rfl) (fun _ _ _ h => h) (Or.inl ⟨by rfl, ?_⟩) hHeld ?_ ?_
                          rotate_left
                          · rintro w' ⟨s0, s1⟩
                            go_simp
                            with_reducible rfl
                          rotate_left
                          · simp only [Act.put, List.setIfInBounds_toArray, List.set_cons_zero, List.set_cons_succ, i64_w, i32_w]
                            rfl
                          refine pure_ (i := 4) (N := some 93) (v := ?_) (a' := ?_) #[true, true, true, true, true, false, false, false, false, false, false, false, false, false, false, false, false, false, false, false] rfl rfl (by kernel_rfl) (fun _ _ _ h => h) (Or.inl ⟨by rfl, ?_⟩) ?_ ?_
                          rotate_left
                          · intro w'
                            go_simp
                            with_reducible rfl
                          rotate_left
                          · simp only [Act.put, List.setIfInBounds_toArray, List.set_cons_zero, List.set_cons_succ, i64_w, i32_w]
                            rfl
                          refine pure_ (i := 5) (N := some 94) (v := ?_) (a' := ?_) #[true, true, true, true, true, true, false, false, false, false, false, false, false, false, false, false, false, false, false, false] rfl rfl (by kernel_rfl) (fun _ _ _ h => h) (Or.inl ⟨by rfl, ?_⟩) ?_ ?_
                          rotate_left
                          · intro w'
                            go_simp
                            with_reducible rfl
                          rotate_left
                          · simp only [Act.put, List.setIfInBounds_toArray, List.set_cons_zero, List.set_cons_succ, i64_w, i32_w]
                            rfl
                          refine pure_ (i := 6) (N := some 95) (v := ?_) (a' := ?_) #[true, true, true, true, true, true, true, false, false, false, false, false, false, false, false, false, false, false, false, false] rfl rfl (by kernel_rfl) (fun _ _ _ h => h) (Or.inl ⟨by rfl, ?_⟩) ?_ ?_
                          rotate_left
                          · intro w'
                            go_simp
                            with_reducible rfl
                          rotate_left
                          · simp only [Act.put, List.setIfInBounds_toArray, List.set_cons_zero, List.set_cons_succ, i64_w, i32_w]
                            rfl
                          refine pure_ (i := 7) (N := some 96) (v := ?_) (a' := ?_) #[true, true, true, true, true, true, true, true, false, false, false, false, false, false, false, false, false, false, false, false] rfl rfl (by kernel_rfl) (fun _ _ _ h => h) (Or.inl ⟨by rfl, ?_⟩) ?_ ?_
                          rotate_left
                          · intro w'
                            go_simp
                            with_reducible rfl
                          rotate_left
                          · simp only [Act.put, List.setIfInBounds_toArray, List.set_cons_zero, List.set_cons_succ, i64_w, i32_w]
                            rfl
                          refine pure_ (i := 8) (N := some 97) (v := ?_) (a' := ?_) #[true, true, true, true, true, true, true, true, true, false, false, false, false, false, false, false, false, false, false, false] rfl rfl (by kernel_rfl) (fun _ _ _ h => h) (Or.inl ⟨by rfl, ?_⟩) ?_ ?_
                          rotate_left
                          · intro w'
                            go_simp
                            with_reducible rfl
                          rotate_left
                          · simp only [Act.put, List.setIfInBounds_toArray, List.set_cons_zero, List.set_cons_succ, i64_w, i32_w]
                            rfl
                          refine pure_ (i := 9) (N := some 98) (v := ?_) (a' := ?_) #[true, true, true, true, true, true, true, true, true, true, false, false, false, false, false, false, false, false, false, false] rfl rfl (by kernel_rfl) (fun _ _ _ h => h) (Or.inl ⟨by rfl, ?_⟩) ?_ ?_
                          rotate_left
                          · intro w'
                            go_simp
                            with_reducible rfl
                          rotate_left
                          · simp only [Act.put, List.setIfInBounds_toArray, List.set_cons_zero, List.set_cons_succ, i64_w, i32_w]
                            rfl
                          refine pure_ (i := 10) (N := some 99) (v := ?_) (a' := ?_) #[true, true, true, true, true, true, true, true, true, true, true, false, false, false, false, false, false, false, false, false] rfl rfl (by kernel_rfl) (fun _ _ _ h => h) (Or.inl ⟨by rfl, ?_⟩) ?_ ?_
                          rotate_left
                          · intro w'
                            go_simp
                            with_reducible rfl
                          rotate_left
                          · simp only [Act.put, List.setIfInBounds_toArray, List.set_cons_zero, List.set_cons_succ, i64_w, i32_w]
                            rfl
                          refine pure_ (i := 11) (N := some 100) (v := ?_) (a' := ?_) #[true, true, true, true, true, true, true, true, true, true, true, true, false, false, false, false, false, false, false, false] rfl rfl (by kernel_rfl) (fun _ _ _ h => h) (Or.inl ⟨by rfl, ?_⟩) ?_ ?_
                          rotate_left
                          · intro w'
                            go_simp
                            with_reducible rfl
                          rotate_left
                          · simp only [Act.put, List.setIfInBounds_toArray, List.set_cons_zero, List.set_cons_succ, i64_w, i32_w]
                            rfl
                          refine pure_ (i := 13) (N := some 102) (v := ?_) (a' := ?_) #[true, true, true, true, true, true, true, true, true, true, true, true, false, true, false, false, false, false, false, false] rfl rfl (by kernel_rfl) (fun _ _ _ h => h) (Or.inl ⟨by rfl, ?_⟩) ?_ ?_
                          rotate_left
                          · intro w'
                            go_simp
                            with_reducible rfl
                          rotate_left
                          · simp only [Act.put, List.setIfInBounds_toArray, List.set_cons_zero, List.set_cons_succ, i64_w, i32_w]
                            rfl
                          refine pure_ (i := 14) (N := some 103) (v := ?_) (a' := ?_) #[true, true, true, true, true, true, true, true, true, true, true, true, false, true, true, false, false, false, false, false] rfl rfl (by kernel_rfl) (fun _ _ _ h => h) (Or.inl ⟨by rfl, ?_⟩) ?_ ?_
                          rotate_left
                          · intro w'
                            go_simp
                            with_reducible rfl
                          rotate_left
                          · simp only [Act.put, List.setIfInBounds_toArray, List.set_cons_zero, List.set_cons_succ, i64_w, i32_w]
                            rfl
                          refine pure_ (i := 15) (N := some 104) (v := ?_) (a' := ?_) #[true, true, true, true, true, true, true, true, true, true, true, true, false, true, true, true, false, false, false, false] rfl rfl (by kernel_rfl) (fun _ _ _ h => h) (Or.inl ⟨by rfl, ?_⟩) ?_ ?_
                          rotate_left
                          · intro w'
                            go_simp
                            with_reducible rfl
                          rotate_left
                          · simp only [Act.put, List.setIfInBounds_toArray, List.set_cons_zero, List.set_cons_succ, i64_w, i32_w]
                            rfl
                          refine take_ (i := 12) (N := some 101) (v := ?_) (a' := ?_) #[true, true, true, true, true, true, true, true, true, true, true, true, true, true, true, true, false, false, false, false] rfl rfl (by kernel_rfl) (fun _ _ _ h => h) (Or.inl ⟨by rfl, ?_⟩) hHeld ?_ ?_
                          rotate_left
                          · rintro w' ⟨s0, s1⟩
                            go_simp
                            with_reducible rfl
                          rotate_left
                          · simp only [Act.put, List.setIfInBounds_toArray, List.set_cons_zero, List.set_cons_succ, i64_w, i32_w]
                            rfl
                          refine take_ (i := 16) (N := some 105) (v := ?_) (a' := ?_) #[true, true, true, true, true, true, true, true, true, true, true, true, true, true, true, true, true, false, false, false] rfl rfl (by kernel_rfl) (fun _ _ _ h => h) (Or.inl ⟨by rfl, ?_⟩) hHeld ?_ ?_
                          rotate_left
                          · rintro w' ⟨s0, s1⟩
                            go_simp
                            with_reducible rfl
                          rotate_left
                          · simp only [Act.put, List.setIfInBounds_toArray, List.set_cons_zero, List.set_cons_succ, i64_w, i32_w]
                            rfl
                          refine one_ (i := 17) (N := some 106) #[true, true, true, true, true, true, true, true, true, true, true, true, true, true, true, true, true, true, false, false] rfl rfl (by kernel_rfl) (by decide) (fun K hK => ?_)
                          refine goes_ Try.func47 (by kernel_rfl) rfl #[.slice Ab xb.length cb, .slice (some ⟨gi, 0, Option.none⟩) xi.length ci] (by rfl) rfl rfl (by simp only [List.map_toArray, List.map_cons, List.map_nil]; rfl) ?_
                          with_reducible refine (less_c _ _ _ _ _ _ _ HCb.out HCb2.out HCi.out HCi2.out HLb.out HLi.out).mono ?_
                          rintro e w7 ⟨rfl, hb7⟩
                          refine ⟨_, rfl, ?_⟩
                          refine hK.out _ _ ⟨pw_cell_below hb7 hq, pw_cell_below hb7 hq2⟩ (fun hHeld => ?_)
                          clear hK K
                          refine norm_ (a' := ?_) ?_ ?_
                          rotate_left
                          · show Act.put _ (some 106) _ = _
                            simp only [Act.put, List.setIfInBounds_toArray, List.set_cons_zero, List.set_cons_succ, i64_w, i32_w]
                            rfl
                          refine pure_ (i := 18) (N := some 107) (v := ?_) (a' := ?_) #[true, true, true, true, true, true, true, true, true, true, true, true, true, true, true, true, true, true, true, false] rfl rfl (by kernel_rfl) (fun _ _ _ h => h) (Or.inl ⟨by rfl, ?_⟩) ?_ ?_
                          rotate_left
                          · intro w'
                            go_simp
                            with_reducible rfl
                          rotate_left
                          · simp only [Act.put, List.setIfInBounds_toArray, List.set_cons_zero, List.set_cons_succ, i64_w, i32_w]
                            rfl
                          refine pure_ (i := 19) (N := some 108) (v := ?_) (a' := ?_) #[true, true, true, true, true, true, true, true, true, true, true, true, true, true, true, true, true, true, true, true] rfl rfl (by kernel_rfl) (fun _ _ _ h => h) (Or.inl ⟨by rfl, ?_⟩) ?_ ?_
                          rotate_left
                          · intro w'
                            go_simp
                            with_reducible rfl
                          rotate_left
                          · simp only [Act.put, List.setIfInBounds_toArray, List.set_cons_zero, List.set_cons_succ, i64_w, i32_w]
                            rfl
                          refine done_ (by kernel_rfl) ?_
                          have hf7 := hfin.out w7 hb7
                          rw [HLS.out]
                          by_cases hl : rvF t ws b < rvF t ws i
                          · have hfin2 : Hid (BI t ws j (i + 1) i ∧ PK t ws w w7 g9 c9 g10 c10 j qs) := ⟨hf7.1.1 hl, hf7.2⟩
                            rw [decide_eq_true hl]
                            clear hf7 hfin HLS hl hb7
                            go_wp2
                            go_roundw
                            case rel => exact ⟨i + 1, by omega, by go_num, i, rfl, hfin2.out⟩
                            case measure => simp [intOf]; omega
                          · have hfin2 : Hid (BI t ws j (i + 1) b ∧ PK t ws w w7 g9 c9 g10 c10 j qs) := ⟨hf7.1.2 (by omega), hf7.2⟩
                            rw [decide_eq_false hl]
                            clear hf7 hfin HLS hl hb7
                            go_wp2
                            go_roundw
                            case rel => exact ⟨i + 1, by omega, by go_num, b, rfl, hfin2.out⟩
                            case measure => simp [intOf]; omega
                    · obtain rfl : i = ws.length := by omega
                      obtain ⟨hBI, hPK⟩ := HB.out
                      have hjl : j < ws.length := by omega
                      obtain ⟨b, rfl, hbn, hord⟩ := hBI.end_ htn HNN.out (by rw [← HALL.out]; exact HAP.out) (HLF.out j hlt) hjl
                      obtain ⟨hO1, ⟨rs, hrs, hO2, hRW⟩, hBW⟩ := hPK
                      have hjl2 : j < (ordF t ws).length := by rw [ord_len]; exact hjl
                      have hvalid : ∀ q ∈ (ordF t ws).take j, 0 ≤ q.f0 ∧ q.f0.toNat < qs.length := by
                        intro q hq
                        obtain ⟨m, hm, rfl⟩ := ord_mem t ws q (List.mem_of_mem_take hq)
                        rw [hql]; simp; omega
                      have hbf := bump_facts ((ordF t ws).take j) qs HQ0.out hvalid
                      have hbs := mem_le_sum _ hbf.1
                      have hbl : (bump qs ((ordF t ws).take j)).length = ws.length := by rw [bump_len, hql]
                      obtain ⟨c3, f3⟩ := own_cell hO1 b (by omega)
                      obtain ⟨x, hx⟩ : ∃ x, x = (bump qs ((ordF t ws).take j))[b] := ⟨_, rfl⟩
                      rw [← hx] at c3
                      have hxb : 0 ≤ x ∧ x < t := by
                        have h1 := hbf.1 x (by rw [hx]; exact List.getElem_mem _)
                        have h2 := hbs x (by rw [hx]; exact List.getElem_mem _)
                        rw [hbf.2, List.length_take, Nat.min_eq_left (by omega)] at h2
                        omega
                      have hst3 : bump qs ((ordF t ws).take (j + 1)) = (bump qs ((ordF t ws).take j)).set b (x + 1) := by
                        rw [List.take_succ_eq_append_getElem hjl2, hord, bump_snoc, List.getD_eq_getElem?_getD]
                        simp only [Int.toNat_natCast]
                        rw [List.getElem?_eq_getElem (by omega), ← hx]; rfl
                      have tb : decide ((b : Int) < 0) = false := by simp
                      have htr := HT.out.2
                      have hg10lt : g10 < wr.heap.size := hO2.lt rfl
                      have hg9lt : g9 < wr.heap.size := hO1.lt rfl
                      have hO1s := own_set hO1 b (by omega) (x + 1)
                      have hO2s := hO2.far (p := ⟨g9, b, Option.none⟩) (fun e => hO1.ne_own hO2 (by decide) g9 rfl e) (.int .i64 (x + 1))
                      have hne := hO2s.ne_own hO1s (by decide) g10 rfl
                      have hO1t := hO1s.far (p := ⟨g10, b, Option.none⟩) (fun e => hne e) (.slice Option.none 0 0)
                      have hO2t := ownv_set hO2s b (by omega) (.slice Option.none 0 0) rfl
                      have hw1 : w.heap.size ≤ g9 := hg9b
                      have hw2 : w.heap.size ≤ g10 := hg10b
                      have hB1 := hBW.setCell (p := ⟨g9, b, Option.none⟩) hw1 (.int .i64 (x + 1))
                      have hB2 := hB1.setCell (p := ⟨g10, b, Option.none⟩) hw2 (.slice Option.none 0 0)
                      have hR1 : ∃ cs, wr.heap[g9]? = some (.cells cs 2 (0, 0)) := hO1.at_ rfl
                      obtain ⟨cs9, hcs9⟩ := hR1
                      obtain ⟨cs10, hcs10⟩ := hO2s.at_ (k := g10) rfl
                      have hRW2 := (hRW.set hcs9 (by decide) b (.int .i64 (x + 1))).set hcs10 (by decide) b (.slice Option.none 0 0)
                      have hfin : Hid (PK t ws w ((wr.setCell ⟨g9, b, Option.none⟩ (.int .i64 (x + 1))).setCell ⟨g10, b, Option.none⟩ (.slice Option.none 0 0)) g9 c9 g10 c10 (j + 1) qs) := by
                        refine ⟨by rw [hst3]; exact hO1t, ⟨rs.set b (.slice Option.none 0 0), by simp [hrs], hO2t, ?_⟩, hB2⟩
                        exact rows_next hjl2 hord hRW2
                      have f4 : wr.frozen? ⟨g10, b, Option.none⟩ = false := (ownv_cell hO2 b (by omega)).2
                      obtain ⟨v4, c4⟩ : ∃ v4, wr.cell? ⟨g10, b, Option.none⟩ = some v4 := ⟨_, (ownv_cell hO2 b (by omega)).1⟩
                      have n1 : ¬ (g9 = g10) := fun e => hO1.ne_own hO2 (by decide) g9 rfl (by rw [e]; rfl)
                      have n2 : ¬ (g10 = g9) := fun e => n1 e.symm
                      clear hBI hO1 hO2 hRW hBW hvalid hbf hbs hbl hst3 hO1s hO2s hne hO1t hO2t hB1 hB2 hcs9 hcs10 hRW2 HB HJ hx
                      go_wp2
                      go_roundw
                      case rel => exact ⟨j + 1, by omega, by go_num, hfin⟩
                      case measure => simp [intOf]; omega
                · obtain rfl : j = lf := by omega
                  have tl : decide (((j : Int) - j) > 0) = false := by simp
                  obtain ⟨hO1, _, hB⟩ := HJ.out
                  have hF : Hid (SplitP t ws w (.returned (.tuple #[.slice (some ⟨g9, 0, Option.none⟩) ws.length c9, .int .i64 0])) wr) := by
                    refine ⟨_, by rw [hst.out], ?_, hB⟩
                    rw [hst.out]
                    simp only []
                    rw [HPF.out]
                    have h := hO1
                    unfold Own at h
                    rw [flat_li, bump_len, hql] at h
                    rw [bump_len, hql]
                    exact h
                  clear hO1 hB HJ
                  go_wp2
                  go_ret2
                  exact hF.out
      · rw [if_neg hov] at ha
        have e : sumR (addF 0 ws) = (0, false) := by rw [ha]; rfl
        rw [e] at hs
        clear ha e
        by_cases ht0 : t < 0
        · have hfin := hidI (fun n => HF.out 1 (w.drewN n) (by rw [hst.out, if_pos ht0]) (below_drN _ n))
          clear hst HF
          go_wp2_with fail
          refine (hs.out _ HR.out).mono ?_
          rintro e w' ⟨rfl, ⟨n, rfl⟩⟩
          simp only []
          go_wp2
          go_ret2
          exact hfin.out n
        · have hfin := hidI (fun n => HF.out 2 (w.drewN n) (by rw [hst.out, if_neg ht0, if_pos hov]) (below_drN _ n))
          clear hst HF
          go_wp2_with fail
          refine (hs.out _ HR.out).mono ?_
          rintro e w' ⟨rfl, ⟨n, rfl⟩⟩
          simp only []
          go_wp2
          go_ret2
          exact hfin.out n
end Go.Proofs.Ytncnhhnbjmpomaa
namespace Go.Proofs.Ytncnhhnbjmpomaa.Q
open Go.RowKit Go.Proofs.YtncnhhnbjmpomaaW.PrintWords Go.Proofs.YtncnhhnbjmpomaaW.PrintLast Go.Proofs.Ytncnhhnbjmpomaa
set_option linter.unusedVariables false
set_option linter.unusedSimpArgs false
def soukref01_Split.f (a0 : Int) (l1 : List Int) : Option (List Int × Int) := if l1.length ≤ 1000 ∧ l1.all inRb = true ∧ inRb a0 = true then some (splitF a0 l1) else none
theorem soukref01_Split.calls (a0 : Int) (A1 : Option Addr) (c1 : Nat) (l1 : List Int) (r1 : List Int) (r2 : Int) (w : World) (hr1 : Kd.C (Kd.int .i64) w A1 l1.length l1) (hc1 : l1.length ≤ c1) (h : soukref01_Split.f a0 l1 = some (r1, r2)) :
    Calls Try.prog 21 #[.int .i64 a0, .slice A1 l1.length c1] w fun e w' => ∃ v0_ : Value, e = .returned (.tuple #[v0_, .int .i64 r2]) ∧ Kd.R (Kd.int .i64) 2 w' w.heap.size (fun _ => True) v0_ r1 ∧ Below w.heap.size w w' := by
  unfold soukref01_Split.f at h
  split at h
  · rename_i hb
    obtain ⟨h1, h2, h3⟩ := hb
    simp only [Option.some.injEq] at h
    refine (rsplit_any a0 A1 c1 l1 w hr1 hc1 h1 (fun x hx => (inRb_iff x).1 (List.all_eq_true.1 h2 x hx)) ((inRb_iff a0).1 h3)).mono ?_
    rintro e w' ⟨v, he, ho, hb⟩
    rw [h] at he ho
    exact ⟨v, he, Kd.R_of_own ho (fun _ _ => trivial), hb⟩
  · cases h
end Go.Proofs.Ytncnhhnbjmpomaa.Q
namespace Go.Proofs.Ytncnhhnbjmpomaa.Q
open Go.RowKit Go.Proofs.YtncnhhnbjmpomaaW.PrintWords Go.Proofs.YtncnhhnbjmpomaaW.PrintLast Go.Proofs.YtncnhhnbjmpomaaW.PrintMore
attribute [local go_sem] max2_int min2_int max_two min_two max_three min_three max_four min_four   -- for this text's walks alone
set_option linter.unusedVariables false
set_option linter.unusedSimpArgs false
mutual
def soukref11_Parts.j0 : Nat → Int → List (S106) → Bool → Int → Int → Int → Int → Option ((List (S69)) × Int)
 | 0, _, _, _, _, _, _, _ => none
 | k + 1, x0, x2, x63, x524000, x524001, x524002, x524003 => if x63 = true then (some (([] : List (S69)), 1)) else (soukref11_Parts.l0 k x0 x2 ([] : List Int) 0 x524000 x524001 x524002 x524003)
def soukref11_Parts.l0 : Nat → Int → List (S106) → List Int → Int → Int → Int → Int → Int → Option ((List (S69)) × Int)
 | 0, _, _, _, _, _, _, _, _ => none
 | k + 1, x0, x2, x8, x9, x524000, x524001, x524002, x524003 => if x9 < (x2.length : Int) then (if 0 ≤ x9 then (if ((rd_T106 x2 x9).f0).toList = ([] : List UInt8) then (soukref11_Parts.j2 k x0 x2 x8 x9 true x524000 x524001 x524002 x524003) else (if (((rd_T106 x2 x9).f0).size : Int) > 20 then (soukref11_Parts.j2 k x0 x2 x8 x9 true x524000 x524001 x524002 x524003) else (if ((rd_T106 x2 x9).f1) < 1 then (soukref11_Parts.j2 k x0 x2 x8 x9 true x524000 x524001 x524002 x524003) else (soukref11_Parts.j2 k x0 x2 x8 x9 (decide (((rd_T106 x2 x9).f1) > 1125899906842624)) x524000 x524001 x524002 x524003)))) else (none)) else ((soukref01_Split.f (wrap64 ((wrap64 (x0 - x524000)) - x524001)) x8).bind fun bt534 => (soukref11_Parts.l2 k x2 bt534.1 ([] : List (S69)) 0 x524000 x524001 x524002 x524003))
def soukref11_Parts.j2 : Nat → Int → List (S106) → List Int → Int → Bool → Int → Int → Int → Int → Option ((List (S69)) × Int)
 | 0, _, _, _, _, _, _, _, _, _ => none
 | k + 1, x0, x2, x8, x9, x100, x524000, x524001, x524002, x524003 => if x100 = true then (some (([] : List (S69)), 1)) else (soukref11_Parts.l1 k x0 x2 x8 x9 0 x524000 x524001 x524002 x524003)
def soukref11_Parts.l1 : Nat → Int → List (S106) → List Int → Int → Int → Int → Int → Int → Int → Option ((List (S69)) × Int)
 | 0, _, _, _, _, _, _, _, _, _ => none
 | k + 1, x0, x2, x8, x9, x10, x524000, x524001, x524002, x524003 => if x10 < x9 then (if 0 ≤ x10 then (if x10 < (x2.length : Int) then (if 0 ≤ x9 then (if x9 < (x2.length : Int) then (if ((rd_T106 x2 x10).f0).toList = ((rd_T106 x2 x9).f0).toList then (some (([] : List (S69)), 9)) else (soukref11_Parts.l1 k x0 x2 x8 x9 (wrap64 (x10 + 1)) x524000 x524001 x524002 x524003)) else (none)) else (none)) else (none)) else (none)) else (if 0 ≤ x9 then (if x9 < (x2.length : Int) then (if x8.length < 17592186044416 then (soukref11_Parts.l0 k x0 x2 (x8 ++ [(rd_T106 x2 x9).f1]) (wrap64 (x9 + 1)) x524000 x524001 x524002 x524003) else (none)) else (none)) else (none))
def soukref11_Parts.l2 : Nat → List (S106) → List Int → List (S69) → Int → Int → Int → Int → Int → Option ((List (S69)) × Int)
 | 0, _, _, _, _, _, _, _, _ => none
 | k + 1, x2, x11, x13, x14, x524000, x524001, x524002, x524003 => if x14 < (x2.length : Int) then (if 0 ≤ x14 then (if x14 < (x11.length : Int) then ((soukref01_MulDiv.f k (rd x11 x14) x524002 10000 0).bind fun bt539 => (if x13.length < 4398046511104 then (soukref11_Parts.l2 k x2 x11 (x13 ++ [(⟨(rd_T106 x2 x14).f0, rd x11 x14, bt539.1⟩ : S69)]) (wrap64 (x14 + 1)) x524000 x524001 x524002 x524003) else (none))) else (none)) else (none)) else (some (x13, 0))
end
def soukref11_Parts.f (k : Nat) (a0 : Int) (a1_0 : Int) (a1_1 : Int) (a1_2 : Int) (a1_3 : Int) (l2 : List (S106)) : Option ((List (S69)) × Int) := if (l2.length : Int) = 0 then (soukref11_Parts.j0 k a0 l2 true a1_0 a1_1 a1_2 a1_3) else (if (l2.length : Int) > 8 then (soukref11_Parts.j0 k a0 l2 true a1_0 a1_1 a1_2 a1_3) else (if a1_0 < 0 then (soukref11_Parts.j0 k a0 l2 true a1_0 a1_1 a1_2 a1_3) else (if a1_1 < 0 then (soukref11_Parts.j0 k a0 l2 true a1_0 a1_1 a1_2 a1_3) else (if a1_2 < 0 then (soukref11_Parts.j0 k a0 l2 true a1_0 a1_1 a1_2 a1_3) else (if a1_2 > 10000 then (soukref11_Parts.j0 k a0 l2 true a1_0 a1_1 a1_2 a1_3) else (if a0 > 1125899906842624 then (soukref11_Parts.j0 k a0 l2 true a1_0 a1_1 a1_2 a1_3) else (if a1_0 > a0 then (soukref11_Parts.j0 k a0 l2 true a1_0 a1_1 a1_2 a1_3) else (soukref11_Parts.j0 k a0 l2 (decide (a1_1 > (wrap64 (a0 - a1_0)))) a1_0 a1_1 a1_2 a1_3))))))))
def soukref11_Parts.T12 : Bool × List (List Nat × List Nat) := (true, [([], []), ([], []), ([0, 1], [0, 1]), ([2], [2]), ([3], [3]), ([], []), ([], []), ([5, 6], [5, 6]), ([7], [7]), ([8], [8]), ([4, 9], [4, 9])])
def soukref11_Parts.B12 : List Nat := [0, 0, 3, 7, 15, 0, 0, 96, 224, 480, 1023]
theorem soukref11_Parts.tab12 : rtab .any (opsOf Try.f33 12) = soukref11_Parts.T12 := by kernel_rfl
theorem soukref11_Parts.bits12 : waitsOk soukref11_Parts.T12.2 soukref11_Parts.B12 = true := by kernel_rfl
def soukref11_Parts.T20 : Bool × List (List Nat × List Nat) := (true, [([], []), ([], []), ([0, 1], [0, 1]), ([2], [2]), ([], []), ([4], [4]), ([3, 5], [3, 5]), ([6], [6]), ([7], [7]), ([7], [7]), ([8, 6, 0, 1, 2, 3, 4, 5, 6, 7, 8], [8]), ([9, 10, 0, 1, 2, 3, 4, 5, 6, 7, 8, 9, 10], [9])])
def soukref11_Parts.B20 : List Nat := [0, 0, 3, 7, 0, 16, 63, 127, 255, 255, 511, 2047]
theorem soukref11_Parts.tab20 : rtab .any (opsOf Try.f33 20) = soukref11_Parts.T20 := by kernel_rfl
theorem soukref11_Parts.bits20 : waitsOk soukref11_Parts.T20.2 soukref11_Parts.B20 = true := by kernel_rfl
def soukref11_Parts.T21 : Bool × List (List Nat × List Nat) := (true, [([], []), ([], []), ([], []), ([1, 2], [1, 2]), ([3], [3]), ([4], [4]), ([], []), ([], []), ([6, 7], [6, 7]), ([8], [8]), ([], []), ([5, 9, 10], [5, 9, 10]), ([11], [11]), ([0, 12], [0, 12]), ([13, 13, 0, 1, 2, 3, 4, 5, 6, 7, 8, 9, 10, 11, 12, 13], [0, 13])])
def soukref11_Parts.B21 : List Nat := [0, 0, 0, 6, 14, 30, 0, 0, 192, 448, 0, 2046, 4094, 8191, 16383]
theorem soukref11_Parts.tab21 : rtab .any (opsOf Try.f33 21) = soukref11_Parts.T21 := by kernel_rfl
theorem soukref11_Parts.bits21 : waitsOk soukref11_Parts.T21.2 soukref11_Parts.B21 = true := by kernel_rfl
set_option maxHeartbeats 8000000 in
set_option maxRecDepth 100000 in
theorem soukref11_Parts.calls (k : Nat) (a0 : Int) (a1_0 : Int) (a1_1 : Int) (a1_2 : Int) (a1_3 : Int) (A2 : Option Addr) (c2 : Nat) (l2 : List (S106)) (r1 : List (S69)) (r2 : Int) (w : World) (hr2 : Kd.C k106 w A2 l2.length l2) (hc2 : l2.length ≤ c2) (h : soukref11_Parts.f k a0 a1_0 a1_1 a1_2 a1_3 l2 = some (r1, r2)) :
  Calls Try.prog 33 #[.int .i64 a0, .agg #[.int .i64 a1_0, .int .i64 a1_1, .int .i64 a1_2, .int .i64 a1_3], .slice A2 l2.length c2] w fun e w' => ∃ v0_ : Value, e = .returned (.tuple #[v0_, .int .i64 r2]) ∧ Kd.R k69 69 w' w.heap.size (fun _ => True) v0_ r1 ∧ Below w.heap.size w w' := by
 have hu66 := Try.underlying66
 have hu69 := Try.underlying69
 have HR2 := Aside0.mk hr2
 have HC2 := Aside0.mk hc2
 clear hr2 hc2
 have HB := Aside0.mk (Below.refl w.heap.size w)
 have H : (if (l2.length : Int) = 0 then (soukref11_Parts.j0 k a0 l2 true a1_0 a1_1 a1_2 a1_3) else (if (l2.length : Int) > 8 then (soukref11_Parts.j0 k a0 l2 true a1_0 a1_1 a1_2 a1_3) else (if a1_0 < 0 then (soukref11_Parts.j0 k a0 l2 true a1_0 a1_1 a1_2 a1_3) else (if a1_1 < 0 then (soukref11_Parts.j0 k a0 l2 true a1_0 a1_1 a1_2 a1_3) else (if a1_2 < 0 then (soukref11_Parts.j0 k a0 l2 true a1_0 a1_1 a1_2 a1_3) else (if a1_2 > 10000 then (soukref11_Parts.j0 k a0 l2 true a1_0 a1_1 a1_2 a1_3) else (if a0 > 1125899906842624 then (soukref11_Parts.j0 k a0 l2 true a1_0 a1_1 a1_2 a1_3) else (if a1_0 > a0 then (soukref11_Parts.j0 k a0 l2 true a1_0 a1_1 a1_2 a1_3) else (soukref11_Parts.j0 k a0 l2 (decide (a1_1 > (wrap64 (a0 - a1_0)))) a1_0 a1_1 a1_2 a1_3))))))))) = some (r1, r2) := h
 clear h
 have HC4 := Aside0.mk H
 clear H
 go_enter Try.func33, Try.ntmps33
 go_upto_region 1 with (first | ((with_reducible refine gate_dst (N := 4) rfl ?_); (try (refine gate_guard (by rfl) ?_; dsimp only)); refine box_event ?hg (N := 4) ?hd (cs := #[.int .i64 a1_0, .int .i64 a1_1, .int .i64 a1_2, .int .i64 a1_3]) (t := 66) ?hr ?_; (case hd => rfl); (case hg => rfl); (case hr => first | (go_simp; done) | (go_simp; rfl)); intro gb523 hg w5 hbox hb; have n0_ := Aside0.mk (below_step (by repeat (first | (with_reducible first | exact HB.out | apply below_alloc | apply pw_below_drewN | apply below_drew1) | exact HB.out)) hb); have n1_ := Aside0.mk (hbox); have n2_ := Aside0.mk ((by rw [hg]; exact (below_size (by repeat (first | (with_reducible first | exact HB.out | apply below_alloc | apply pw_below_drewN | apply below_drew1) | exact HB.out))) : w.heap.size ≤ gb523)); have n3_ := Aside0.mk ((by rw [hg]; exact (below_size (by repeat (first | (with_reducible first | exact HB.out | apply below_alloc | apply pw_below_drewN | apply below_drew1) | exact HB.out))) : w.heap.size ≤ gb523)); clear HB; have HB := n0_; have BK523 := n1_; have GW523 := n2_; have GE523 := n3_; clear n0_ n1_ n2_ n3_; clear hb hbox hg))
 (try simp only [Act.put, List.setIfInBounds_toArray, List.set_cons_zero, List.set_cons_succ])
 go_cut [63] (fun v63 wc => ∃ (kq : Nat) (x63_3 : Bool), v63 = .bool x63_3 ∧ Aside0 (soukref11_Parts.j0 kq a0 l2 x63_3 a1_0 a1_1 a1_2 a1_3 = some (r1, r2)) ∧ Aside0 (kq ≤ k) ∧ Aside0 (wc.heap[gb523]? = some (.cells #[.int .i64 a1_0, .int .i64 a1_1, .int .i64 a1_2, .int .i64 a1_3] 66 (0, 0))) ∧ Aside0 (Below w.heap.size w wc))
 case first =>
  have H := HC4.out
  clear HC4
  by_cases c6 : (l2.length : Int) = 0
  ·rw [if_pos c6] at H
   have c6b0 : ((l2.length : Int) == 0) = true := beq_iff_eq.mpr c6
   have c6b1 : ((l2.length : Int) != 0) = false := bne_eq_false_iff_eq.mpr c6
   clear c6
   (first | rw [c6b0] | (simp only [i64_w, i32_w]; rw [c6b0]) | skip)
   have H' := Aside0.mk H
   clear H
   go_wp2
   go_meet
   case rel => exact ⟨_, (true), (by first | rfl | (simp; done) | (simp [*]; done)), H', ⟨by first | omega | exact Nat.le_refl _⟩, ⟨by (with_reducible repeat (first | refine blk_drewN ?_ _ | refine blk_drew ?_ | refine blk_alloc ?_ _)); exact BK523.out⟩, ⟨by repeat (first | (with_reducible first | exact HB.out | apply below_alloc | apply pw_below_drewN | apply below_drew1 | refine below_set ?_ GE523.out) | exact HB.out)⟩⟩
  ·rw [if_neg c6] at H
   have c6b0 : ((l2.length : Int) == 0) = false := beq_eq_false_iff_ne.mpr c6
   have c6b1 : ((l2.length : Int) != 0) = true := bne_iff_ne.mpr c6
   have c6b2 : ¬ (l2 = []) := fun h_ => c6 (by rw [h_]; rfl)
   (first | rw [c6b0] | (simp only [i64_w, i32_w]; rw [c6b0]) | skip)
   by_cases c7 : (l2.length : Int) > 8
   ·rw [if_pos c7] at H
    have c7b0 : decide (8 < (l2.length : Int)) = true := decide_eq_true c7
    have c7b1 : decide (8 < l2.length) = true := decide_eq_true (by omega)
    clear c7
    have H' := Aside0.mk H
    clear H
    go_wp2
    go_meet
    case rel => exact ⟨_, (true), (by first | rfl | (simp; done) | (simp [*]; done)), H', ⟨by first | omega | exact Nat.le_refl _⟩, ⟨by (with_reducible repeat (first | refine blk_drewN ?_ _ | refine blk_drew ?_ | refine blk_alloc ?_ _)); exact BK523.out⟩, ⟨by repeat (first | (with_reducible first | exact HB.out | apply below_alloc | apply pw_below_drewN | apply below_drew1 | refine below_set ?_ GE523.out) | exact HB.out)⟩⟩
   ·rw [if_neg c7] at H
    have c7b0 : decide (8 < (l2.length : Int)) = false := decide_eq_false c7
    have c7b1 : decide (8 < l2.length) = false := decide_eq_false (by omega)
    clear c7
    by_cases c8 : a1_0 < 0
    ·rw [if_pos c8] at H
     have c8b0 : decide (a1_0 < 0) = true := decide_eq_true c8
     clear c8
     have H' := Aside0.mk H
     clear H
     have hcz9_0 : w5.cell? ⟨gb523, 0, none⟩ = some (.int .i64 a1_0) := (blk_cell BK523.out 0).trans rfl
     have hcz9_1 : w5.cell? ⟨gb523, 1, none⟩ = some (.int .i64 a1_1) := (blk_cell BK523.out 1).trans rfl
     have hcz9_2 : w5.cell? ⟨gb523, 2, none⟩ = some (.int .i64 a1_2) := (blk_cell BK523.out 2).trans rfl
     have hcz9_3 : w5.cell? ⟨gb523, 3, none⟩ = some (.int .i64 a1_3) := (blk_cell BK523.out 3).trans rfl
     have hfz9_0 := blk_frozen BK523.out 0
     have hfz9_1 := blk_frozen BK523.out 1
     have hfz9_2 := blk_frozen BK523.out 2
     have hfz9_3 := blk_frozen BK523.out 3
     go_wp2
     go_meet
     case rel => exact ⟨_, (true), (by first | rfl | (simp; done) | (simp [*]; done)), H', ⟨by first | omega | exact Nat.le_refl _⟩, ⟨by (with_reducible repeat (first | refine blk_drewN ?_ _ | refine blk_drew ?_ | refine blk_alloc ?_ _)); exact BK523.out⟩, ⟨by repeat (first | (with_reducible first | exact HB.out | apply below_alloc | apply pw_below_drewN | apply below_drew1 | refine below_set ?_ GE523.out) | exact HB.out)⟩⟩
    ·rw [if_neg c8] at H
     have c8b0 : decide (a1_0 < 0) = false := decide_eq_false c8
     clear c8
     by_cases c10 : a1_1 < 0
     ·rw [if_pos c10] at H
      have c10b0 : decide (a1_1 < 0) = true := decide_eq_true c10
      clear c10
      have H' := Aside0.mk H
      clear H
      have hcz11_0 : w5.cell? ⟨gb523, 0, none⟩ = some (.int .i64 a1_0) := (blk_cell BK523.out 0).trans rfl
      have hcz11_1 : w5.cell? ⟨gb523, 1, none⟩ = some (.int .i64 a1_1) := (blk_cell BK523.out 1).trans rfl
      have hcz11_2 : w5.cell? ⟨gb523, 2, none⟩ = some (.int .i64 a1_2) := (blk_cell BK523.out 2).trans rfl
      have hcz11_3 : w5.cell? ⟨gb523, 3, none⟩ = some (.int .i64 a1_3) := (blk_cell BK523.out 3).trans rfl
      have hfz11_0 := blk_frozen BK523.out 0
      have hfz11_1 := blk_frozen BK523.out 1
      have hfz11_2 := blk_frozen BK523.out 2
      have hfz11_3 := blk_frozen BK523.out 3
      go_wp2
      go_meet
      case rel => exact ⟨_, (true), (by first | rfl | (simp; done) | (simp [*]; done)), H', ⟨by first | omega | exact Nat.le_refl _⟩, ⟨by (with_reducible repeat (first | refine blk_drewN ?_ _ | refine blk_drew ?_ | refine blk_alloc ?_ _)); exact BK523.out⟩, ⟨by repeat (first | (with_reducible first | exact HB.out | apply below_alloc | apply pw_below_drewN | apply below_drew1 | refine below_set ?_ GE523.out) | exact HB.out)⟩⟩
     ·rw [if_neg c10] at H
      have c10b0 : decide (a1_1 < 0) = false := decide_eq_false c10
      clear c10
      by_cases c12 : a1_2 < 0
      ·rw [if_pos c12] at H
       have c12b0 : decide (a1_2 < 0) = true := decide_eq_true c12
       clear c12
       have H' := Aside0.mk H
       clear H
       have hcz13_0 : w5.cell? ⟨gb523, 0, none⟩ = some (.int .i64 a1_0) := (blk_cell BK523.out 0).trans rfl
       have hcz13_1 : w5.cell? ⟨gb523, 1, none⟩ = some (.int .i64 a1_1) := (blk_cell BK523.out 1).trans rfl
       have hcz13_2 : w5.cell? ⟨gb523, 2, none⟩ = some (.int .i64 a1_2) := (blk_cell BK523.out 2).trans rfl
       have hcz13_3 : w5.cell? ⟨gb523, 3, none⟩ = some (.int .i64 a1_3) := (blk_cell BK523.out 3).trans rfl
       have hfz13_0 := blk_frozen BK523.out 0
       have hfz13_1 := blk_frozen BK523.out 1
       have hfz13_2 := blk_frozen BK523.out 2
       have hfz13_3 := blk_frozen BK523.out 3
       go_wp2
       go_meet
       case rel => exact ⟨_, (true), (by first | rfl | (simp; done) | (simp [*]; done)), H', ⟨by first | omega | exact Nat.le_refl _⟩, ⟨by (with_reducible repeat (first | refine blk_drewN ?_ _ | refine blk_drew ?_ | refine blk_alloc ?_ _)); exact BK523.out⟩, ⟨by repeat (first | (with_reducible first | exact HB.out | apply below_alloc | apply pw_below_drewN | apply below_drew1 | refine below_set ?_ GE523.out) | exact HB.out)⟩⟩
      ·rw [if_neg c12] at H
       have c12b0 : decide (a1_2 < 0) = false := decide_eq_false c12
       clear c12
       by_cases c14 : a1_2 > 10000
       ·rw [if_pos c14] at H
        have c14b0 : decide (10000 < a1_2) = true := decide_eq_true c14
        clear c14
        have H' := Aside0.mk H
        clear H
        have hcz15_0 : w5.cell? ⟨gb523, 0, none⟩ = some (.int .i64 a1_0) := (blk_cell BK523.out 0).trans rfl
        have hcz15_1 : w5.cell? ⟨gb523, 1, none⟩ = some (.int .i64 a1_1) := (blk_cell BK523.out 1).trans rfl
        have hcz15_2 : w5.cell? ⟨gb523, 2, none⟩ = some (.int .i64 a1_2) := (blk_cell BK523.out 2).trans rfl
        have hcz15_3 : w5.cell? ⟨gb523, 3, none⟩ = some (.int .i64 a1_3) := (blk_cell BK523.out 3).trans rfl
        have hfz15_0 := blk_frozen BK523.out 0
        have hfz15_1 := blk_frozen BK523.out 1
        have hfz15_2 := blk_frozen BK523.out 2
        have hfz15_3 := blk_frozen BK523.out 3
        go_wp2
        go_meet
        case rel => exact ⟨_, (true), (by first | rfl | (simp; done) | (simp [*]; done)), H', ⟨by first | omega | exact Nat.le_refl _⟩, ⟨by (with_reducible repeat (first | refine blk_drewN ?_ _ | refine blk_drew ?_ | refine blk_alloc ?_ _)); exact BK523.out⟩, ⟨by repeat (first | (with_reducible first | exact HB.out | apply below_alloc | apply pw_below_drewN | apply below_drew1 | refine below_set ?_ GE523.out) | exact HB.out)⟩⟩
       ·rw [if_neg c14] at H
        have c14b0 : decide (10000 < a1_2) = false := decide_eq_false c14
        clear c14
        by_cases c16 : a0 > 1125899906842624
        ·rw [if_pos c16] at H
         have c16b0 : decide (1125899906842624 < a0) = true := decide_eq_true c16
         clear c16
         have H' := Aside0.mk H
         clear H
         have hcz17_0 : w5.cell? ⟨gb523, 0, none⟩ = some (.int .i64 a1_0) := (blk_cell BK523.out 0).trans rfl
         have hcz17_1 : w5.cell? ⟨gb523, 1, none⟩ = some (.int .i64 a1_1) := (blk_cell BK523.out 1).trans rfl
         have hcz17_2 : w5.cell? ⟨gb523, 2, none⟩ = some (.int .i64 a1_2) := (blk_cell BK523.out 2).trans rfl
         have hcz17_3 : w5.cell? ⟨gb523, 3, none⟩ = some (.int .i64 a1_3) := (blk_cell BK523.out 3).trans rfl
         have hfz17_0 := blk_frozen BK523.out 0
         have hfz17_1 := blk_frozen BK523.out 1
         have hfz17_2 := blk_frozen BK523.out 2
         have hfz17_3 := blk_frozen BK523.out 3
         go_wp2
         go_meet
         case rel => exact ⟨_, (true), (by first | rfl | (simp; done) | (simp [*]; done)), H', ⟨by first | omega | exact Nat.le_refl _⟩, ⟨by (with_reducible repeat (first | refine blk_drewN ?_ _ | refine blk_drew ?_ | refine blk_alloc ?_ _)); exact BK523.out⟩, ⟨by repeat (first | (with_reducible first | exact HB.out | apply below_alloc | apply pw_below_drewN | apply below_drew1 | refine below_set ?_ GE523.out) | exact HB.out)⟩⟩
        ·rw [if_neg c16] at H
         have c16b0 : decide (1125899906842624 < a0) = false := decide_eq_false c16
         clear c16
         by_cases c18 : a1_0 > a0
         ·rw [if_pos c18] at H
          have c18b0 : decide (a0 < a1_0) = true := decide_eq_true c18
          clear c18
          have H' := Aside0.mk H
          clear H
          have hcz19_0 : w5.cell? ⟨gb523, 0, none⟩ = some (.int .i64 a1_0) := (blk_cell BK523.out 0).trans rfl
          have hcz19_1 : w5.cell? ⟨gb523, 1, none⟩ = some (.int .i64 a1_1) := (blk_cell BK523.out 1).trans rfl
          have hcz19_2 : w5.cell? ⟨gb523, 2, none⟩ = some (.int .i64 a1_2) := (blk_cell BK523.out 2).trans rfl
          have hcz19_3 : w5.cell? ⟨gb523, 3, none⟩ = some (.int .i64 a1_3) := (blk_cell BK523.out 3).trans rfl
          have hfz19_0 := blk_frozen BK523.out 0
          have hfz19_1 := blk_frozen BK523.out 1
          have hfz19_2 := blk_frozen BK523.out 2
          have hfz19_3 := blk_frozen BK523.out 3
          go_wp2
          go_meet
          case rel => exact ⟨_, (true), (by first | rfl | (simp; done) | (simp [*]; done)), H', ⟨by first | omega | exact Nat.le_refl _⟩, ⟨by (with_reducible repeat (first | refine blk_drewN ?_ _ | refine blk_drew ?_ | refine blk_alloc ?_ _)); exact BK523.out⟩, ⟨by repeat (first | (with_reducible first | exact HB.out | apply below_alloc | apply pw_below_drewN | apply below_drew1 | refine below_set ?_ GE523.out) | exact HB.out)⟩⟩
         ·rw [if_neg c18] at H
          have c18b0 : decide (a0 < a1_0) = false := decide_eq_false c18
          clear c18
          have H' := Aside0.mk H
          clear H
          have hcz20_0 : w5.cell? ⟨gb523, 0, none⟩ = some (.int .i64 a1_0) := (blk_cell BK523.out 0).trans rfl
          have hcz20_1 : w5.cell? ⟨gb523, 1, none⟩ = some (.int .i64 a1_1) := (blk_cell BK523.out 1).trans rfl
          have hcz20_2 : w5.cell? ⟨gb523, 2, none⟩ = some (.int .i64 a1_2) := (blk_cell BK523.out 2).trans rfl
          have hcz20_3 : w5.cell? ⟨gb523, 3, none⟩ = some (.int .i64 a1_3) := (blk_cell BK523.out 3).trans rfl
          have hfz20_0 := blk_frozen BK523.out 0
          have hfz20_1 := blk_frozen BK523.out 1
          have hfz20_2 := blk_frozen BK523.out 2
          have hfz20_3 := blk_frozen BK523.out 3
          go_wp2
          go_meet
          case rel => exact ⟨_, (decide (a1_1 > (wrap64 (a0 - a1_0)))), (by first | rfl | (simp; done) | (simp [*]; done)), H', ⟨by first | omega | exact Nat.le_refl _⟩, ⟨by (with_reducible repeat (first | refine blk_drewN ?_ _ | refine blk_drew ?_ | refine blk_alloc ?_ _)); exact BK523.out⟩, ⟨by repeat (first | (with_reducible first | exact HB.out | apply below_alloc | apply pw_below_drewN | apply below_drew1 | refine below_set ?_ GE523.out) | exact HB.out)⟩⟩
 case rest =>
  clear HC4
  try clear c1
  try clear c2
  try clear p2
  try clear c3
  try clear c6
  try clear c6b0
  try clear c6b1
  try clear c6b2
  try clear p6
  try clear c7
  try clear c7b0
  try clear c7b1
  try clear c8
  try clear c8b0
  try clear c10
  try clear c10b0
  try clear c12
  try clear c12b0
  try clear c14
  try clear c14b0
  try clear c16
  try clear c16b0
  try clear c18
  try clear c18b0
  try clear hcz11_0
  try clear hcz11_1
  try clear hcz11_2
  try clear hcz11_3
  try clear hcz13_0
  try clear hcz13_1
  try clear hcz13_2
  try clear hcz13_3
  try clear hcz15_0
  try clear hcz15_1
  try clear hcz15_2
  try clear hcz15_3
  try clear hcz17_0
  try clear hcz17_1
  try clear hcz17_2
  try clear hcz17_3
  try clear hcz19_0
  try clear hcz19_1
  try clear hcz19_2
  try clear hcz19_3
  try clear hcz20_0
  try clear hcz20_1
  try clear hcz20_2
  try clear hcz20_3
  try clear hcz9_0
  try clear hcz9_1
  try clear hcz9_2
  try clear hcz9_3
  try clear hfz11_0
  try clear hfz11_1
  try clear hfz11_2
  try clear hfz11_3
  try clear hfz13_0
  try clear hfz13_1
  try clear hfz13_2
  try clear hfz13_3
  try clear hfz15_0
  try clear hfz15_1
  try clear hfz15_2
  try clear hfz15_3
  try clear hfz17_0
  try clear hfz17_1
  try clear hfz17_2
  try clear hfz17_3
  try clear hfz19_0
  try clear hfz19_1
  try clear hfz19_2
  try clear hfz19_3
  try clear hfz20_0
  try clear hfz20_1
  try clear hfz20_2
  try clear hfz20_3
  try clear hfz9_0
  try clear hfz9_1
  try clear hfz9_2
  try clear hfz9_3
  obtain ⟨kq, x63_3, rfl, HA, HJ3, BK523, HB⟩ := hcut
  cases kq with
  | zero => exact absurd HA.out (by simp [soukref11_Parts.j0])
  | succ kj3 =>
   have H := HA.out
   clear HA
   simp only [soukref11_Parts.j0] at H
   by_cases c21 : x63_3 = true
   ·subst c21
    have H1 : (some (([] : List (S69)), 1)) = some (r1, r2) := by rw [if_pos rfl] at H; exact H
    clear H
    have H := H1
    clear H1
    simp only [Option.some.injEq, Prod.mk.injEq] at H
    obtain ⟨rfl, rfl⟩ := H
    go_wp2
    go_ret2
    exact ⟨_, by first | rfl | (simp [errW_none, errW_some] <;> rfl) | (simp [*, errW_none, errW_some] <;> rfl), by first | exact Kd.R_nil _ _ _ _ _ | exact Kd.N_nil _ _ _ _ _ | exact Kd.V_nil _ _ _ _ _ | exact Kd.Q_nil _ _ _ _ _ | exact Kd.S_nil _ _ _ _ _, by repeat (first | (with_reducible first | exact HB.out | apply below_alloc | apply pw_below_drewN | apply below_drew1 | refine below_set ?_ GE523.out) | exact HB.out)⟩
   ·replace c21 := Bool.eq_false_iff.mpr c21
    subst c21
    have H1 : (soukref11_Parts.l0 kj3 a0 l2 ([] : List Int) 0 a1_0 a1_1 a1_2 a1_3) = some (r1, r2) := by rw [if_neg (show ¬ (false = true) by decide)] at H; exact H
    clear H
    have H := H1
    clear H1
    have H' := Aside0.mk H
    clear H
    go_wp2
    go_loopg [8, 9] kj3 (fun kq v8 v9 w' => ∃ (x8_2 : List Int) (x9_2 : Int), v9 = .int .i64 x9_2 ∧ Aside0 (soukref11_Parts.l0 kq a0 l2 x8_2 x9_2 a1_0 a1_1 a1_2 a1_3 = some (r1, r2)) ∧ Aside0 (kq ≤ kj3) ∧ Aside0 (Kd.R (Kd.int .i64) 2 w' w.heap.size (fun _ => True) v8 x8_2) ∧ Aside0 (w'.heap[gb523]? = some (.cells #[.int .i64 a1_0, .int .i64 a1_1, .int .i64 a1_2, .int .i64 a1_3] 66 (0, 0))) ∧ Aside0 (Below w.heap.size w w'))
    case atStart => exact ⟨(([] : List Int)), (0), (by first | rfl | (simp; done) | (simp [*]; done)), H', ⟨Nat.le_refl _⟩, ⟨by first | exact Kd.R_nil _ _ _ _ _ | exact Kd.N_nil _ _ _ _ _ | exact Kd.V_nil _ _ _ _ _ | exact Kd.Q_nil _ _ _ _ _ | exact Kd.S_nil _ _ _ _ _⟩, ⟨by (with_reducible repeat (first | refine blk_drewN ?_ _ | refine blk_drew ?_ | refine blk_alloc ?_ _)); exact BK523.out⟩, ⟨by repeat (first | (with_reducible first | exact HB.out | apply below_alloc | apply pw_below_drewN | apply below_drew1 | refine below_set ?_ GE523.out) | exact HB.out)⟩⟩
    case round =>
     clear H'
     try clear c1
     try clear c2
     try clear p2
     try clear c3
     try clear c6
     try clear c6b0
     try clear c6b1
     try clear c6b2
     try clear p6
     try clear c7
     try clear c7b0
     try clear c7b1
     try clear c8
     try clear c8b0
     try clear c10
     try clear c10b0
     try clear c12
     try clear c12b0
     try clear c14
     try clear c14b0
     try clear c16
     try clear c16b0
     try clear c18
     try clear c18b0
     try clear c21
     try clear hcz11_0
     try clear hcz11_1
     try clear hcz11_2
     try clear hcz11_3
     try clear hcz13_0
     try clear hcz13_1
     try clear hcz13_2
     try clear hcz13_3
     try clear hcz15_0
     try clear hcz15_1
     try clear hcz15_2
     try clear hcz15_3
     try clear hcz17_0
     try clear hcz17_1
     try clear hcz17_2
     try clear hcz17_3
     try clear hcz19_0
     try clear hcz19_1
     try clear hcz19_2
     try clear hcz19_3
     try clear hcz20_0
     try clear hcz20_1
     try clear hcz20_2
     try clear hcz20_3
     try clear hcz9_0
     try clear hcz9_1
     try clear hcz9_2
     try clear hcz9_3
     try clear hfz11_0
     try clear hfz11_1
     try clear hfz11_2
     try clear hfz11_3
     try clear hfz13_0
     try clear hfz13_1
     try clear hfz13_2
     try clear hfz13_3
     try clear hfz15_0
     try clear hfz15_1
     try clear hfz15_2
     try clear hfz15_3
     try clear hfz17_0
     try clear hfz17_1
     try clear hfz17_2
     try clear hfz17_3
     try clear hfz19_0
     try clear hfz19_1
     try clear hfz19_2
     try clear hfz19_3
     try clear hfz20_0
     try clear hfz20_1
     try clear hfz20_2
     try clear hfz20_3
     try clear hfz9_0
     try clear hfz9_1
     try clear hfz9_2
     try clear hfz9_3
     try clear p2
     try clear p6
     obtain ⟨x8_2, x9_2, rfl, HA, HK2, HO_8, BK523, HB⟩ := hrel
     cases gk with
     | zero => exact absurd HA.out (by simp [soukref11_Parts.l0])
     | succ k2 =>
      have H := HA.out
      clear HA
      simp only [soukref11_Parts.l0] at H
      by_cases c22 : x9_2 < (l2.length : Int)
      ·rw [if_pos c22] at H
       have c22b0 : decide (x9_2 < (l2.length : Int)) = true := decide_eq_true c22
       clear c22
       have HC23 := Aside0.mk H
       clear H
       go_upto_region 7 with (fail)
       go_cut [100] (fun v100 wc => ∃ (kq : Nat) (x100_22 : Bool), v100 = .bool x100_22 ∧ Aside0 (soukref11_Parts.j2 kq a0 l2 x8_2 x9_2 x100_22 a1_0 a1_1 a1_2 a1_3 = some (r1, r2)) ∧ Aside0 (kq ≤ k2) ∧ Aside0 (Kd.R (Kd.int .i64) 2 wc w.heap.size (fun _ => True) u8 x8_2) ∧ Aside0 (wc.heap[gb523]? = some (.cells #[.int .i64 a1_0, .int .i64 a1_1, .int .i64 a1_2, .int .i64 a1_3] 66 (0, 0))) ∧ Aside0 (Below w.heap.size w wc))
       case first =>
        have H := HC23.out
        clear HC23
        by_cases c24 : 0 ≤ x9_2
        ·rw [if_pos c24] at H
         have c24b0 : decide (0 ≤ x9_2) = true := decide_eq_true c24
         clear c24
         (first | rw [c24b0] | (simp only [i64_w, i32_w]; rw [c24b0]) | skip)
         by_cases c25 : ((rd_T106 l2 x9_2).f0).toList = ([] : List UInt8)
         ·rw [if_pos c25] at H
          have c25b0 : (((rd_T106 l2 x9_2).f0).toList == ([] : List UInt8)) = true := beq_iff_eq.mpr c25
          have c25b1 : (((rd_T106 l2 x9_2).f0).toList != ([] : List UInt8)) = false := bne_eq_false_iff_eq.mpr c25
          clear c25
          have H' := Aside0.mk H
          clear H
          have p524 : 0 ≤ (x9_2 : Int) := of_decide_eq_true (by first | (with_reducible assumption) | assumption)
          have q524 : x9_2 < (l2.length : Int) := of_decide_eq_true (by first | (with_reducible assumption) | assumption)
          obtain ⟨ad524, e524, hx524_0, hx524_1⟩ := at_T106 HR2.out x9_2 p524 q524
          cases e524
          replace hx524_0 := (HB.out.cell (World.block_lt_of_cell? w _ hx524_0)).trans hx524_0
          replace hx524_1 := (HB.out.cell (World.block_lt_of_cell? w _ hx524_1)).trans hx524_1
          replace p524 := eq_true p524
          replace q524 := eq_true q524
          go_wp2
          go_meet
          case rel => exact ⟨_, (true), (by first | rfl | (simp; done) | (simp [*]; done)), H', ⟨by have := HJ3.out; have := HK2.out; first | omega | exact Nat.le_refl _⟩, ⟨by (with_reducible repeat (first | apply Kd.R_alloc | apply Kd.R_drewN | apply Kd.R_drew)); exact HO_8.out⟩, ⟨by (with_reducible repeat (first | refine blk_drewN ?_ _ | refine blk_drew ?_ | refine blk_alloc ?_ _)); exact BK523.out⟩, ⟨by repeat (first | (with_reducible first | exact HB.out | apply below_alloc | apply pw_below_drewN | apply below_drew1 | refine below_set ?_ GE523.out) | exact HB.out)⟩⟩
         ·rw [if_neg c25] at H
          have c25b0 : (((rd_T106 l2 x9_2).f0).toList == ([] : List UInt8)) = false := beq_eq_false_iff_ne.mpr c25
          have c25b1 : (((rd_T106 l2 x9_2).f0).toList != ([] : List UInt8)) = true := bne_iff_ne.mpr c25
          by_cases c26 : (((rd_T106 l2 x9_2).f0).size : Int) > 20
          ·rw [if_pos c26] at H
           have c26b0 : decide (20 < (((rd_T106 l2 x9_2).f0).size : Int)) = true := decide_eq_true c26
           have c26b1 : decide (20 < ((rd_T106 l2 x9_2).f0).size) = true := decide_eq_true (by omega)
           clear c26
           have H' := Aside0.mk H
           clear H
           have p524 : 0 ≤ (x9_2 : Int) := of_decide_eq_true (by first | (with_reducible assumption) | assumption)
           have q524 : x9_2 < (l2.length : Int) := of_decide_eq_true (by first | (with_reducible assumption) | assumption)
           obtain ⟨ad524, e524, hx524_0, hx524_1⟩ := at_T106 HR2.out x9_2 p524 q524
           cases e524
           replace hx524_0 := (HB.out.cell (World.block_lt_of_cell? w _ hx524_0)).trans hx524_0
           replace hx524_1 := (HB.out.cell (World.block_lt_of_cell? w _ hx524_1)).trans hx524_1
           replace p524 := eq_true p524
           replace q524 := eq_true q524
           have p525 : 0 ≤ (x9_2 : Int) := of_decide_eq_true (by first | (with_reducible assumption) | assumption)
           have q525 : x9_2 < (l2.length : Int) := of_decide_eq_true (by first | (with_reducible assumption) | assumption)
           obtain ⟨ad525, e525, hx525_0, hx525_1⟩ := at_T106 HR2.out x9_2 p525 q525
           obtain rfl : ad524 = ad525 := (by injection e525)
           replace hx525_0 := (HB.out.cell (World.block_lt_of_cell? w _ hx525_0)).trans hx525_0
           replace hx525_1 := (HB.out.cell (World.block_lt_of_cell? w _ hx525_1)).trans hx525_1
           replace p525 := eq_true p525
           replace q525 := eq_true q525
           go_wp2
           go_meet
           case rel => exact ⟨_, (true), (by first | rfl | (simp; done) | (simp [*]; done)), H', ⟨by have := HJ3.out; have := HK2.out; first | omega | exact Nat.le_refl _⟩, ⟨by (with_reducible repeat (first | apply Kd.R_alloc | apply Kd.R_drewN | apply Kd.R_drew)); exact HO_8.out⟩, ⟨by (with_reducible repeat (first | refine blk_drewN ?_ _ | refine blk_drew ?_ | refine blk_alloc ?_ _)); exact BK523.out⟩, ⟨by repeat (first | (with_reducible first | exact HB.out | apply below_alloc | apply pw_below_drewN | apply below_drew1 | refine below_set ?_ GE523.out) | exact HB.out)⟩⟩
          ·rw [if_neg c26] at H
           have c26b0 : decide (20 < (((rd_T106 l2 x9_2).f0).size : Int)) = false := decide_eq_false c26
           have c26b1 : decide (20 < ((rd_T106 l2 x9_2).f0).size) = false := decide_eq_false (by omega)
           clear c26
           by_cases c27 : ((rd_T106 l2 x9_2).f1) < 1
           ·rw [if_pos c27] at H
            have c27b0 : decide (((rd_T106 l2 x9_2).f1) < 1) = true := decide_eq_true c27
            clear c27
            have H' := Aside0.mk H
            clear H
            have p524 : 0 ≤ (x9_2 : Int) := of_decide_eq_true (by first | (with_reducible assumption) | assumption)
            have q524 : x9_2 < (l2.length : Int) := of_decide_eq_true (by first | (with_reducible assumption) | assumption)
            obtain ⟨ad524, e524, hx524_0, hx524_1⟩ := at_T106 HR2.out x9_2 p524 q524
            cases e524
            replace hx524_0 := (HB.out.cell (World.block_lt_of_cell? w _ hx524_0)).trans hx524_0
            replace hx524_1 := (HB.out.cell (World.block_lt_of_cell? w _ hx524_1)).trans hx524_1
            replace p524 := eq_true p524
            replace q524 := eq_true q524
            have p525 : 0 ≤ (x9_2 : Int) := of_decide_eq_true (by first | (with_reducible assumption) | assumption)
            have q525 : x9_2 < (l2.length : Int) := of_decide_eq_true (by first | (with_reducible assumption) | assumption)
            obtain ⟨ad525, e525, hx525_0, hx525_1⟩ := at_T106 HR2.out x9_2 p525 q525
            obtain rfl : ad524 = ad525 := (by injection e525)
            replace hx525_0 := (HB.out.cell (World.block_lt_of_cell? w _ hx525_0)).trans hx525_0
            replace hx525_1 := (HB.out.cell (World.block_lt_of_cell? w _ hx525_1)).trans hx525_1
            replace p525 := eq_true p525
            replace q525 := eq_true q525
            have p526 : 0 ≤ (x9_2 : Int) := of_decide_eq_true (by first | (with_reducible assumption) | assumption)
            have q526 : x9_2 < (l2.length : Int) := of_decide_eq_true (by first | (with_reducible assumption) | assumption)
            obtain ⟨ad526, e526, hx526_0, hx526_1⟩ := at_T106 HR2.out x9_2 p526 q526
            obtain rfl : ad524 = ad526 := (by injection e526)
            replace hx526_0 := (HB.out.cell (World.block_lt_of_cell? w _ hx526_0)).trans hx526_0
            replace hx526_1 := (HB.out.cell (World.block_lt_of_cell? w _ hx526_1)).trans hx526_1
            replace p526 := eq_true p526
            replace q526 := eq_true q526
            go_wp2
            go_meet
            case rel => exact ⟨_, (true), (by first | rfl | (simp; done) | (simp [*]; done)), H', ⟨by have := HJ3.out; have := HK2.out; first | omega | exact Nat.le_refl _⟩, ⟨by (with_reducible repeat (first | apply Kd.R_alloc | apply Kd.R_drewN | apply Kd.R_drew)); exact HO_8.out⟩, ⟨by (with_reducible repeat (first | refine blk_drewN ?_ _ | refine blk_drew ?_ | refine blk_alloc ?_ _)); exact BK523.out⟩, ⟨by repeat (first | (with_reducible first | exact HB.out | apply below_alloc | apply pw_below_drewN | apply below_drew1 | refine below_set ?_ GE523.out) | exact HB.out)⟩⟩
           ·rw [if_neg c27] at H
            have c27b0 : decide (((rd_T106 l2 x9_2).f1) < 1) = false := decide_eq_false c27
            clear c27
            have H' := Aside0.mk H
            clear H
            have p524 : 0 ≤ (x9_2 : Int) := of_decide_eq_true (by first | (with_reducible assumption) | assumption)
            have q524 : x9_2 < (l2.length : Int) := of_decide_eq_true (by first | (with_reducible assumption) | assumption)
            obtain ⟨ad524, e524, hx524_0, hx524_1⟩ := at_T106 HR2.out x9_2 p524 q524
            cases e524
            replace hx524_0 := (HB.out.cell (World.block_lt_of_cell? w _ hx524_0)).trans hx524_0
            replace hx524_1 := (HB.out.cell (World.block_lt_of_cell? w _ hx524_1)).trans hx524_1
            replace p524 := eq_true p524
            replace q524 := eq_true q524
            have p525 : 0 ≤ (x9_2 : Int) := of_decide_eq_true (by first | (with_reducible assumption) | assumption)
            have q525 : x9_2 < (l2.length : Int) := of_decide_eq_true (by first | (with_reducible assumption) | assumption)
            obtain ⟨ad525, e525, hx525_0, hx525_1⟩ := at_T106 HR2.out x9_2 p525 q525
            obtain rfl : ad524 = ad525 := (by injection e525)
            replace hx525_0 := (HB.out.cell (World.block_lt_of_cell? w _ hx525_0)).trans hx525_0
            replace hx525_1 := (HB.out.cell (World.block_lt_of_cell? w _ hx525_1)).trans hx525_1
            replace p525 := eq_true p525
            replace q525 := eq_true q525
            have p526 : 0 ≤ (x9_2 : Int) := of_decide_eq_true (by first | (with_reducible assumption) | assumption)
            have q526 : x9_2 < (l2.length : Int) := of_decide_eq_true (by first | (with_reducible assumption) | assumption)
            obtain ⟨ad526, e526, hx526_0, hx526_1⟩ := at_T106 HR2.out x9_2 p526 q526
            obtain rfl : ad524 = ad526 := (by injection e526)
            replace hx526_0 := (HB.out.cell (World.block_lt_of_cell? w _ hx526_0)).trans hx526_0
            replace hx526_1 := (HB.out.cell (World.block_lt_of_cell? w _ hx526_1)).trans hx526_1
            replace p526 := eq_true p526
            replace q526 := eq_true q526
            have p527 : 0 ≤ (x9_2 : Int) := of_decide_eq_true (by first | (with_reducible assumption) | assumption)
            have q527 : x9_2 < (l2.length : Int) := of_decide_eq_true (by first | (with_reducible assumption) | assumption)
            obtain ⟨ad527, e527, hx527_0, hx527_1⟩ := at_T106 HR2.out x9_2 p527 q527
            obtain rfl : ad524 = ad527 := (by injection e527)
            replace hx527_0 := (HB.out.cell (World.block_lt_of_cell? w _ hx527_0)).trans hx527_0
            replace hx527_1 := (HB.out.cell (World.block_lt_of_cell? w _ hx527_1)).trans hx527_1
            replace p527 := eq_true p527
            replace q527 := eq_true q527
            go_wp2
            go_meet
            case rel => exact ⟨_, (decide (((rd_T106 l2 x9_2).f1) > 1125899906842624)), (by first | rfl | (simp; done) | (simp [*]; done)), H', ⟨by have := HJ3.out; have := HK2.out; first | omega | exact Nat.le_refl _⟩, ⟨by (with_reducible repeat (first | apply Kd.R_alloc | apply Kd.R_drewN | apply Kd.R_drew)); exact HO_8.out⟩, ⟨by (with_reducible repeat (first | refine blk_drewN ?_ _ | refine blk_drew ?_ | refine blk_alloc ?_ _)); exact BK523.out⟩, ⟨by repeat (first | (with_reducible first | exact HB.out | apply below_alloc | apply pw_below_drewN | apply below_drew1 | refine below_set ?_ GE523.out) | exact HB.out)⟩⟩
        ·rw [if_neg c24] at H
         exact absurd H (by simp)
       case rest =>
        clear HC23
        try clear c1
        try clear c2
        try clear p2
        try clear c3
        try clear p5
        try clear q5
        try clear hx5
        try clear c6
        try clear c6b0
        try clear c6b1
        try clear c6b2
        try clear p6
        try clear c7
        try clear c7b0
        try clear c7b1
        try clear c8
        try clear c8b0
        try clear c10
        try clear c10b0
        try clear c12
        try clear c12b0
        try clear c14
        try clear c14b0
        try clear c16
        try clear c16b0
        try clear c18
        try clear c18b0
        try clear c21
        try clear c22
        try clear c22b0
        try clear c24
        try clear c24b0
        try clear c25
        try clear c25b0
        try clear c25b1
        try clear c26
        try clear c26b0
        try clear c26b1
        try clear c27
        try clear c27b0
        try clear hcz11_0
        try clear hcz11_1
        try clear hcz11_2
        try clear hcz11_3
        try clear hcz13_0
        try clear hcz13_1
        try clear hcz13_2
        try clear hcz13_3
        try clear hcz15_0
        try clear hcz15_1
        try clear hcz15_2
        try clear hcz15_3
        try clear hcz17_0
        try clear hcz17_1
        try clear hcz17_2
        try clear hcz17_3
        try clear hcz19_0
        try clear hcz19_1
        try clear hcz19_2
        try clear hcz19_3
        try clear hcz20_0
        try clear hcz20_1
        try clear hcz20_2
        try clear hcz20_3
        try clear hcz9_0
        try clear hcz9_1
        try clear hcz9_2
        try clear hcz9_3
        try clear hfz11_0
        try clear hfz11_1
        try clear hfz11_2
        try clear hfz11_3
        try clear hfz13_0
        try clear hfz13_1
        try clear hfz13_2
        try clear hfz13_3
        try clear hfz15_0
        try clear hfz15_1
        try clear hfz15_2
        try clear hfz15_3
        try clear hfz17_0
        try clear hfz17_1
        try clear hfz17_2
        try clear hfz17_3
        try clear hfz19_0
        try clear hfz19_1
        try clear hfz19_2
        try clear hfz19_3
        try clear hfz20_0
        try clear hfz20_1
        try clear hfz20_2
        try clear hfz20_3
        try clear hfz9_0
        try clear hfz9_1
        try clear hfz9_2
        try clear hfz9_3
        try clear hx524_0
        try clear hx524_1
        try clear hx525_0
        try clear hx525_1
        try clear hx526_0
        try clear hx526_1
        try clear hx527_0
        try clear hx527_1
        try clear p2
        try clear p524
        try clear p525
        try clear p526
        try clear p527
        try clear p6
        try clear q524
        try clear q525
        try clear q526
        try clear q527
        obtain ⟨kq, x100_22, rfl, HA, HJ22, HO_8, BK523, HB⟩ := hcut
        cases kq with
        | zero => exact absurd HA.out (by simp [soukref11_Parts.j2])
        | succ kj22 =>
         have H := HA.out
         clear HA
         simp only [soukref11_Parts.j2] at H
         by_cases c28 : x100_22 = true
         ·subst c28
          have H1 : (some (([] : List (S69)), 1)) = some (r1, r2) := by rw [if_pos rfl] at H; exact H
          clear H
          have H := H1
          clear H1
          simp only [Option.some.injEq, Prod.mk.injEq] at H
          obtain ⟨rfl, rfl⟩ := H
          go_wp2
          go_ret2
          exact ⟨_, by first | rfl | (simp [errW_none, errW_some] <;> rfl) | (simp [*, errW_none, errW_some] <;> rfl), by first | exact Kd.R_nil _ _ _ _ _ | exact Kd.N_nil _ _ _ _ _ | exact Kd.V_nil _ _ _ _ _ | exact Kd.Q_nil _ _ _ _ _ | exact Kd.S_nil _ _ _ _ _, by repeat (first | (with_reducible first | exact HB.out | apply below_alloc | apply pw_below_drewN | apply below_drew1 | refine below_set ?_ GE523.out) | exact HB.out)⟩
         ·replace c28 := Bool.eq_false_iff.mpr c28
          subst c28
          have H1 : (soukref11_Parts.l1 kj22 a0 l2 x8_2 x9_2 0 a1_0 a1_1 a1_2 a1_3) = some (r1, r2) := by rw [if_neg (show ¬ (false = true) by decide)] at H; exact H
          clear H
          have H := H1
          clear H1
          have H' := Aside0.mk H
          clear H
          go_wp2
          go_loopg [10] kj22 (fun kq v10 w' => ∃ (x10_4 : Int), v10 = .int .i64 x10_4 ∧ Aside0 (soukref11_Parts.l1 kq a0 l2 x8_2 x9_2 x10_4 a1_0 a1_1 a1_2 a1_3 = some (r1, r2)) ∧ Aside0 (kq ≤ kj22) ∧ Aside0 (Kd.R (Kd.int .i64) 2 w' w.heap.size (fun _ => True) u8 x8_2) ∧ Aside0 (w'.heap[gb523]? = some (.cells #[.int .i64 a1_0, .int .i64 a1_1, .int .i64 a1_2, .int .i64 a1_3] 66 (0, 0))) ∧ Aside0 (Below w.heap.size w w'))
          case atStart => exact ⟨(0), (by first | rfl | (simp; done) | (simp [*]; done)), H', ⟨Nat.le_refl _⟩, ⟨by (with_reducible repeat (first | apply Kd.R_alloc | apply Kd.R_drewN | apply Kd.R_drew)); exact HO_8.out⟩, ⟨by (with_reducible repeat (first | refine blk_drewN ?_ _ | refine blk_drew ?_ | refine blk_alloc ?_ _)); exact BK523.out⟩, ⟨by repeat (first | (with_reducible first | exact HB.out | apply below_alloc | apply pw_below_drewN | apply below_drew1 | refine below_set ?_ GE523.out) | exact HB.out)⟩⟩
          case round =>
           clear H'
           try clear c1
           try clear c2
           try clear p2
           try clear c3
           try clear p5
           try clear q5
           try clear hx5
           try clear c6
           try clear c6b0
           try clear c6b1
           try clear c6b2
           try clear p6
           try clear c7
           try clear c7b0
           try clear c7b1
           try clear c8
           try clear c8b0
           try clear c10
           try clear c10b0
           try clear c12
           try clear c12b0
           try clear c14
           try clear c14b0
           try clear c16
           try clear c16b0
           try clear c18
           try clear c18b0
           try clear c21
           try clear c22
           try clear c22b0
           try clear c24
           try clear c24b0
           try clear c25
           try clear c25b0
           try clear c25b1
           try clear c26
           try clear c26b0
           try clear c26b1
           try clear c27
           try clear c27b0
           try clear c28
           try clear hcz11_0
           try clear hcz11_1
           try clear hcz11_2
           try clear hcz11_3
           try clear hcz13_0
           try clear hcz13_1
           try clear hcz13_2
           try clear hcz13_3
           try clear hcz15_0
           try clear hcz15_1
           try clear hcz15_2
           try clear hcz15_3
           try clear hcz17_0
           try clear hcz17_1
           try clear hcz17_2
           try clear hcz17_3
           try clear hcz19_0
           try clear hcz19_1
           try clear hcz19_2
           try clear hcz19_3
           try clear hcz20_0
           try clear hcz20_1
           try clear hcz20_2
           try clear hcz20_3
           try clear hcz9_0
           try clear hcz9_1
           try clear hcz9_2
           try clear hcz9_3
           try clear hfz11_0
           try clear hfz11_1
           try clear hfz11_2
           try clear hfz11_3
           try clear hfz13_0
           try clear hfz13_1
           try clear hfz13_2
           try clear hfz13_3
           try clear hfz15_0
           try clear hfz15_1
           try clear hfz15_2
           try clear hfz15_3
           try clear hfz17_0
           try clear hfz17_1
           try clear hfz17_2
           try clear hfz17_3
           try clear hfz19_0
           try clear hfz19_1
           try clear hfz19_2
           try clear hfz19_3
           try clear hfz20_0
           try clear hfz20_1
           try clear hfz20_2
           try clear hfz20_3
           try clear hfz9_0
           try clear hfz9_1
           try clear hfz9_2
           try clear hfz9_3
           try clear hx524_0
           try clear hx524_1
           try clear hx525_0
           try clear hx525_1
           try clear hx526_0
           try clear hx526_1
           try clear hx527_0
           try clear hx527_1
           try clear p2
           try clear p5
           try clear p524
           try clear p525
           try clear p526
           try clear p527
           try clear p6
           try clear q5
           try clear q524
           try clear q525
           try clear q526
           try clear q527
           obtain ⟨x10_4, rfl, HA, HK4, HO_8, BK523, HB⟩ := hrel
           cases gk with
           | zero => exact absurd HA.out (by simp [soukref11_Parts.l1])
           | succ k4 =>
            have H := HA.out
            clear HA
            simp only [soukref11_Parts.l1] at H
            by_cases c29 : x10_4 < x9_2
            ·rw [if_pos c29] at H
             have c29b0 : decide (x10_4 < x9_2) = true := decide_eq_true c29
             clear c29
             by_cases c30 : 0 ≤ x10_4
             ·rw [if_pos c30] at H
              have c30b0 : decide (0 ≤ x10_4) = true := decide_eq_true c30
              clear c30
              by_cases c31 : x10_4 < (l2.length : Int)
              ·rw [if_pos c31] at H
               have c31b0 : decide (x10_4 < (l2.length : Int)) = true := decide_eq_true c31
               clear c31
               by_cases c32 : 0 ≤ x9_2
               ·rw [if_pos c32] at H
                have c32b0 : decide (0 ≤ x9_2) = true := decide_eq_true c32
                clear c32
                by_cases c33 : x9_2 < (l2.length : Int)
                ·rw [if_pos c33] at H
                 have c33b0 : decide (x9_2 < (l2.length : Int)) = true := decide_eq_true c33
                 clear c33
                 by_cases c34 : ((rd_T106 l2 x10_4).f0).toList = ((rd_T106 l2 x9_2).f0).toList
                 ·rw [if_pos c34] at H
                  have c34b0 : (((rd_T106 l2 x10_4).f0).toList == ((rd_T106 l2 x9_2).f0).toList) = true := beq_iff_eq.mpr c34
                  have c34b1 : (((rd_T106 l2 x10_4).f0).toList != ((rd_T106 l2 x9_2).f0).toList) = false := bne_eq_false_iff_eq.mpr c34
                  clear c34
                  simp only [Option.some.injEq, Prod.mk.injEq] at H
                  obtain ⟨rfl, rfl⟩ := H
                  try go_wp2
                  have n0_ := Aside0.mk (Kd.R_drew HO_8.out)
                  have n1_ := Aside0.mk (blk_drew BK523.out)
                  have n2_ := Aside0.mk (below_drew1 HB.out)
                  clear HO_8
                  clear BK523
                  clear HB
                  have HO_8 := n0_
                  have BK523 := n1_
                  have HB := n2_
                  clear n0_ n1_ n2_
                  have p528 : 0 ≤ (x10_4 : Int) := of_decide_eq_true (by first | (with_reducible assumption) | assumption)
                  have q528 : x10_4 < (l2.length : Int) := of_decide_eq_true (by first | (with_reducible assumption) | assumption)
                  obtain ⟨ad528, e528, hx528_0, hx528_1⟩ := at_T106 HR2.out x10_4 p528 q528
                  have hw528_1 := hx528_1
                  have hw528_0 := hx528_0
                  cases e528
                  replace hx528_0 := (HB.out.cell (World.block_lt_of_cell? w _ hx528_0)).trans hx528_0
                  replace hx528_1 := (HB.out.cell (World.block_lt_of_cell? w _ hx528_1)).trans hx528_1
                  replace p528 := eq_true p528
                  replace q528 := eq_true q528
                  have p529 : 0 ≤ (x9_2 : Int) := of_decide_eq_true (by first | (with_reducible assumption) | assumption)
                  have q529 : x9_2 < (l2.length : Int) := of_decide_eq_true (by first | (with_reducible assumption) | assumption)
                  obtain ⟨ad529, e529, hx529_0, hx529_1⟩ := at_T106 HR2.out x9_2 p529 q529
                  have hw529_1 := hx529_1
                  have hw529_0 := hx529_0
                  obtain rfl : ad528 = ad529 := (by injection e529)
                  replace hx529_0 := (HB.out.cell (World.block_lt_of_cell? w _ hx529_0)).trans hx529_0
                  replace hx529_1 := (HB.out.cell (World.block_lt_of_cell? w _ hx529_1)).trans hx529_1
                  replace p529 := eq_true p529
                  replace q529 := eq_true q529
                  refine start_ (n := 11) (S := fun w' => w'.cell? (ad528.add ((x10_4).toNat * 2)) = some (.string ((rd_T106 l2 x10_4).f0)) ∧ w'.cell? ⟨(ad528.add ((x10_4).toNat * 2)).block, (ad528.add ((x10_4).toNat * 2)).off + 1, none⟩ = some (.int .i64 ((rd_T106 l2 x10_4).f1)) ∧ w'.cell? (ad528.add ((x9_2).toNat * 2)) = some (.string ((rd_T106 l2 x9_2).f0)) ∧ w'.cell? ⟨(ad528.add ((x9_2).toNat * 2)).block, (ad528.add ((x9_2).toNat * 2)).off + 1, none⟩ = some (.int .i64 ((rd_T106 l2 x9_2).f1))) (ds := []) #[false, false, false, false, false, false, false, false, false, false, false] (by kernel_rfl) rfl rfl ⟨((HB.out.cell (World.block_lt_of_cell? w _ hw528_0)).trans hw528_0), ((HB.out.cell (World.block_lt_of_cell? w _ hw528_1)).trans hw528_1), ((HB.out.cell (World.block_lt_of_cell? w _ hw529_0)).trans hw529_0), ((HB.out.cell (World.block_lt_of_cell? w _ hw529_1)).trans hw529_1)⟩ (fun hHeld => ?_); refine with_tabW soukref11_Parts.tab12 soukref11_Parts.bits12 (fun HT_ HW_ => ?_)
                  generalize wr.drew = w35 at HO_8 BK523 HB hx528_0 hx528_1 hx529_0 hx529_1 hHeld ⊢
                  refine pure_ (i := 0) (N := some 106) (v := ?_) (a' := ?_) #[true, false, false, false, false, false, false, false, false, false, false] rfl rfl (any_of HT_.out (by kernel_rfl)) (fun _ _ _ h => h) (Or.inl ⟨by rfl, ?_⟩) ?_ ?_
                  rotate_left
                  ·intro w'
                   go_simp
                   with_reducible rfl
                  rotate_left
                  ·simp only [Act.put, List.setIfInBounds_toArray, List.set_cons_zero, List.set_cons_succ, i64_w, i32_w]
                   rfl
                  refine pure_ (i := 1) (N := some 107) (v := ?_) (a' := ?_) #[true, true, false, false, false, false, false, false, false, false, false] rfl rfl (any_of HT_.out (by kernel_rfl)) (fun _ _ _ h => h) (Or.inl ⟨by rfl, ?_⟩) ?_ ?_
                  rotate_left
                  ·intro w'
                   go_simp
                   with_reducible rfl
                  rotate_left
                  ·simp only [Act.put, List.setIfInBounds_toArray, List.set_cons_zero, List.set_cons_succ, i64_w, i32_w]
                   rfl
                  refine pure_ (i := 2) (N := some 108) (v := ?_) (a' := ?_) #[true, true, true, false, false, false, false, false, false, false, false] rfl rfl (any_of HT_.out (by kernel_rfl)) (fun _ _ _ h => h) (Or.inl ⟨by rfl, ?_⟩) ?_ ?_
                  rotate_left
                  ·intro w'
                   go_simp
                   with_reducible rfl
                  rotate_left
                  ·simp only [Act.put, List.setIfInBounds_toArray, List.set_cons_zero, List.set_cons_succ, i64_w, i32_w]
                   rfl
                  refine pure_ (i := 3) (N := some 109) (v := ?_) (a' := ?_) #[true, true, true, true, false, false, false, false, false, false, false] rfl rfl (any_of HT_.out (by kernel_rfl)) (fun _ _ _ h => h) (Or.inl ⟨by rfl, ?_⟩) ?_ ?_
                  rotate_left
                  ·intro w'
                   go_simp
                   with_reducible rfl
                  rotate_left
                  ·simp only [Act.put, List.setIfInBounds_toArray, List.set_cons_zero, List.set_cons_succ, i64_w, i32_w]
                   rfl
                  refine pure_ (i := 5) (N := some 111) (v := ?_) (a' := ?_) #[true, true, true, true, false, true, false, false, false, false, false] rfl rfl (any_of HT_.out (by kernel_rfl)) (fun _ _ _ h => h) (Or.inl ⟨by rfl, ?_⟩) ?_ ?_
                  rotate_left
                  ·intro w'
                   go_simp
                   with_reducible rfl
                  rotate_left
                  ·simp only [Act.put, List.setIfInBounds_toArray, List.set_cons_zero, List.set_cons_succ, i64_w, i32_w]
                   rfl
                  refine pure_ (i := 6) (N := some 112) (v := ?_) (a' := ?_) #[true, true, true, true, false, true, true, false, false, false, false] rfl rfl (any_of HT_.out (by kernel_rfl)) (fun _ _ _ h => h) (Or.inl ⟨by rfl, ?_⟩) ?_ ?_
                  rotate_left
                  ·intro w'
                   go_simp
                   with_reducible rfl
                  rotate_left
                  ·simp only [Act.put, List.setIfInBounds_toArray, List.set_cons_zero, List.set_cons_succ, i64_w, i32_w]
                   rfl
                  refine pure_ (i := 7) (N := some 113) (v := ?_) (a' := ?_) #[true, true, true, true, false, true, true, true, false, false, false] rfl rfl (any_of HT_.out (by kernel_rfl)) (fun _ _ _ h => h) (Or.inl ⟨by rfl, ?_⟩) ?_ ?_
                  rotate_left
                  ·intro w'
                   go_simp
                   with_reducible rfl
                  rotate_left
                  ·simp only [Act.put, List.setIfInBounds_toArray, List.set_cons_zero, List.set_cons_succ, i64_w, i32_w]
                   rfl
                  refine pure_ (i := 8) (N := some 114) (v := ?_) (a' := ?_) #[true, true, true, true, false, true, true, true, true, false, false] rfl rfl (any_of HT_.out (by kernel_rfl)) (fun _ _ _ h => h) (Or.inl ⟨by rfl, ?_⟩) ?_ ?_
                  rotate_left
                  ·intro w'
                   go_simp
                   with_reducible rfl
                  rotate_left
                  ·simp only [Act.put, List.setIfInBounds_toArray, List.set_cons_zero, List.set_cons_succ, i64_w, i32_w]
                   rfl
                  refine take_ (i := 4) (N := some 110) (v := ?_) (a' := ?_) #[true, true, true, true, true, true, true, true, true, false, false] rfl rfl (take_ofW HT_.out HW_.out (by kernel_rfl)) (fun _ _ _ h => h) (Or.inl ⟨by rfl, ?_⟩) hHeld ?_ ?_
                  rotate_left
                  ·rintro w' ⟨s0, s1, s2, s3⟩
                   go_simp
                   with_reducible rfl
                  rotate_left
                  ·simp only [Act.put, List.setIfInBounds_toArray, List.set_cons_zero, List.set_cons_succ, i64_w, i32_w]
                   rfl
                  refine take_ (i := 9) (N := some 115) (v := ?_) (a' := ?_) #[true, true, true, true, true, true, true, true, true, true, false] rfl rfl (take_ofW HT_.out HW_.out (by kernel_rfl)) (fun _ _ _ h => h) (Or.inl ⟨by rfl, ?_⟩) hHeld ?_ ?_
                  rotate_left
                  ·rintro w' ⟨s0, s1, s2, s3⟩
                   go_simp
                   with_reducible rfl
                  rotate_left
                  ·simp only [Act.put, List.setIfInBounds_toArray, List.set_cons_zero, List.set_cons_succ, i64_w, i32_w]
                   rfl
                  refine pure_ (i := 10) (N := some 116) (v := ?_) (a' := ?_) #[true, true, true, true, true, true, true, true, true, true, true] rfl rfl (any_of HT_.out (by kernel_rfl)) (fun _ _ _ h => h) (Or.inl ⟨by rfl, ?_⟩) ?_ ?_
                  rotate_left
                  ·intro w'
                   go_simp
                   with_reducible rfl
                  rotate_left
                  ·simp only [Act.put, List.setIfInBounds_toArray, List.set_cons_zero, List.set_cons_succ, i64_w, i32_w]
                   rfl
                  refine done_ (done_of HT_.out (by kernel_rfl)) ?_
                  try go_wp2
                  go_ret2
                  exact ⟨_, by first | rfl | (simp [errW_none, errW_some] <;> rfl) | (simp [*, errW_none, errW_some] <;> rfl), by first | exact Kd.R_nil _ _ _ _ _ | exact Kd.N_nil _ _ _ _ _ | exact Kd.V_nil _ _ _ _ _ | exact Kd.Q_nil _ _ _ _ _ | exact Kd.S_nil _ _ _ _ _, by repeat (first | (with_reducible first | exact HB.out | apply below_alloc | apply pw_below_drewN | apply below_drew1 | refine below_set ?_ GE523.out) | exact HB.out)⟩
                 ·rw [if_neg c34] at H
                  have c34b0 : (((rd_T106 l2 x10_4).f0).toList == ((rd_T106 l2 x9_2).f0).toList) = false := beq_eq_false_iff_ne.mpr c34
                  have c34b1 : (((rd_T106 l2 x10_4).f0).toList != ((rd_T106 l2 x9_2).f0).toList) = true := bne_iff_ne.mpr c34
                  have H' := Aside0.mk H
                  clear H
                  try go_wp2
                  have n0_ := Aside0.mk (Kd.R_drew HO_8.out)
                  have n1_ := Aside0.mk (blk_drew BK523.out)
                  have n2_ := Aside0.mk (below_drew1 HB.out)
                  clear HO_8
                  clear BK523
                  clear HB
                  have HO_8 := n0_
                  have BK523 := n1_
                  have HB := n2_
                  clear n0_ n1_ n2_
                  have p528 : 0 ≤ (x10_4 : Int) := of_decide_eq_true (by first | (with_reducible assumption) | assumption)
                  have q528 : x10_4 < (l2.length : Int) := of_decide_eq_true (by first | (with_reducible assumption) | assumption)
                  obtain ⟨ad528, e528, hx528_0, hx528_1⟩ := at_T106 HR2.out x10_4 p528 q528
                  have hw528_1 := hx528_1
                  have hw528_0 := hx528_0
                  cases e528
                  replace hx528_0 := (HB.out.cell (World.block_lt_of_cell? w _ hx528_0)).trans hx528_0
                  replace hx528_1 := (HB.out.cell (World.block_lt_of_cell? w _ hx528_1)).trans hx528_1
                  replace p528 := eq_true p528
                  replace q528 := eq_true q528
                  have p529 : 0 ≤ (x9_2 : Int) := of_decide_eq_true (by first | (with_reducible assumption) | assumption)
                  have q529 : x9_2 < (l2.length : Int) := of_decide_eq_true (by first | (with_reducible assumption) | assumption)
                  obtain ⟨ad529, e529, hx529_0, hx529_1⟩ := at_T106 HR2.out x9_2 p529 q529
                  have hw529_1 := hx529_1
                  have hw529_0 := hx529_0
                  obtain rfl : ad528 = ad529 := (by injection e529)
                  replace hx529_0 := (HB.out.cell (World.block_lt_of_cell? w _ hx529_0)).trans hx529_0
                  replace hx529_1 := (HB.out.cell (World.block_lt_of_cell? w _ hx529_1)).trans hx529_1
                  replace p529 := eq_true p529
                  replace q529 := eq_true q529
                  refine start_ (n := 11) (S := fun w' => w'.cell? (ad528.add ((x10_4).toNat * 2)) = some (.string ((rd_T106 l2 x10_4).f0)) ∧ w'.cell? ⟨(ad528.add ((x10_4).toNat * 2)).block, (ad528.add ((x10_4).toNat * 2)).off + 1, none⟩ = some (.int .i64 ((rd_T106 l2 x10_4).f1)) ∧ w'.cell? (ad528.add ((x9_2).toNat * 2)) = some (.string ((rd_T106 l2 x9_2).f0)) ∧ w'.cell? ⟨(ad528.add ((x9_2).toNat * 2)).block, (ad528.add ((x9_2).toNat * 2)).off + 1, none⟩ = some (.int .i64 ((rd_T106 l2 x9_2).f1))) (ds := []) #[false, false, false, false, false, false, false, false, false, false, false] (by kernel_rfl) rfl rfl ⟨((HB.out.cell (World.block_lt_of_cell? w _ hw528_0)).trans hw528_0), ((HB.out.cell (World.block_lt_of_cell? w _ hw528_1)).trans hw528_1), ((HB.out.cell (World.block_lt_of_cell? w _ hw529_0)).trans hw529_0), ((HB.out.cell (World.block_lt_of_cell? w _ hw529_1)).trans hw529_1)⟩ (fun hHeld => ?_); refine with_tabW soukref11_Parts.tab12 soukref11_Parts.bits12 (fun HT_ HW_ => ?_)
                  generalize wr.drew = w36 at HO_8 BK523 HB hx528_0 hx528_1 hx529_0 hx529_1 hHeld ⊢
                  refine pure_ (i := 0) (N := some 106) (v := ?_) (a' := ?_) #[true, false, false, false, false, false, false, false, false, false, false] rfl rfl (any_of HT_.out (by kernel_rfl)) (fun _ _ _ h => h) (Or.inl ⟨by rfl, ?_⟩) ?_ ?_
                  rotate_left
                  ·intro w'
                   go_simp
                   with_reducible rfl
                  rotate_left
                  ·simp only [Act.put, List.setIfInBounds_toArray, List.set_cons_zero, List.set_cons_succ, i64_w, i32_w]
                   rfl
                  refine pure_ (i := 1) (N := some 107) (v := ?_) (a' := ?_) #[true, true, false, false, false, false, false, false, false, false, false] rfl rfl (any_of HT_.out (by kernel_rfl)) (fun _ _ _ h => h) (Or.inl ⟨by rfl, ?_⟩) ?_ ?_
                  rotate_left
                  ·intro w'
                   go_simp
                   with_reducible rfl
                  rotate_left
                  ·simp only [Act.put, List.setIfInBounds_toArray, List.set_cons_zero, List.set_cons_succ, i64_w, i32_w]
                   rfl
                  refine pure_ (i := 2) (N := some 108) (v := ?_) (a' := ?_) #[true, true, true, false, false, false, false, false, false, false, false] rfl rfl (any_of HT_.out (by kernel_rfl)) (fun _ _ _ h => h) (Or.inl ⟨by rfl, ?_⟩) ?_ ?_
                  rotate_left
                  ·intro w'
                   go_simp
                   with_reducible rfl
                  rotate_left
                  ·simp only [Act.put, List.setIfInBounds_toArray, List.set_cons_zero, List.set_cons_succ, i64_w, i32_w]
                   rfl
                  refine pure_ (i := 3) (N := some 109) (v := ?_) (a' := ?_) #[true, true, true, true, false, false, false, false, false, false, false] rfl rfl (any_of HT_.out (by kernel_rfl)) (fun _ _ _ h => h) (Or.inl ⟨by rfl, ?_⟩) ?_ ?_
                  rotate_left
                  ·intro w'
                   go_simp
                   with_reducible rfl
                  rotate_left
                  ·simp only [Act.put, List.setIfInBounds_toArray, List.set_cons_zero, List.set_cons_succ, i64_w, i32_w]
                   rfl
                  refine pure_ (i := 5) (N := some 111) (v := ?_) (a' := ?_) #[true, true, true, true, false, true, false, false, false, false, false] rfl rfl (any_of HT_.out (by kernel_rfl)) (fun _ _ _ h => h) (Or.inl ⟨by rfl, ?_⟩) ?_ ?_
                  rotate_left
                  ·intro w'
                   go_simp
                   with_reducible rfl
                  rotate_left
                  ·simp only [Act.put, List.setIfInBounds_toArray, List.set_cons_zero, List.set_cons_succ, i64_w, i32_w]
                   rfl
                  refine pure_ (i := 6) (N := some 112) (v := ?_) (a' := ?_) #[true, true, true, true, false, true, true, false, false, false, false] rfl rfl (any_of HT_.out (by kernel_rfl)) (fun _ _ _ h => h) (Or.inl ⟨by rfl, ?_⟩) ?_ ?_
                  rotate_left
                  ·intro w'
                   go_simp
                   with_reducible rfl
                  rotate_left
                  ·simp only [Act.put, List.setIfInBounds_toArray, List.set_cons_zero, List.set_cons_succ, i64_w, i32_w]
                   rfl
                  refine pure_ (i := 7) (N := some 113) (v := ?_) (a' := ?_) #[true, true, true, true, false, true, true, true, false, false, false] rfl rfl (any_of HT_.out (by kernel_rfl)) (fun _ _ _ h => h) (Or.inl ⟨by rfl, ?_⟩) ?_ ?_
                  rotate_left
                  ·intro w'
                   go_simp
                   with_reducible rfl
                  rotate_left
                  ·simp only [Act.put, List.setIfInBounds_toArray, List.set_cons_zero, List.set_cons_succ, i64_w, i32_w]
                   rfl
                  refine pure_ (i := 8) (N := some 114) (v := ?_) (a' := ?_) #[true, true, true, true, false, true, true, true, true, false, false] rfl rfl (any_of HT_.out (by kernel_rfl)) (fun _ _ _ h => h) (Or.inl ⟨by rfl, ?_⟩) ?_ ?_
                  rotate_left
                  ·intro w'
                   go_simp
                   with_reducible rfl
                  rotate_left
                  ·simp only [Act.put, List.setIfInBounds_toArray, List.set_cons_zero, List.set_cons_succ, i64_w, i32_w]
                   rfl
                  refine take_ (i := 4) (N := some 110) (v := ?_) (a' := ?_) #[true, true, true, true, true, true, true, true, true, false, false] rfl rfl (take_ofW HT_.out HW_.out (by kernel_rfl)) (fun _ _ _ h => h) (Or.inl ⟨by rfl, ?_⟩) hHeld ?_ ?_
                  rotate_left
                  ·rintro w' ⟨s0, s1, s2, s3⟩
                   go_simp
                   with_reducible rfl
                  rotate_left
                  ·simp only [Act.put, List.setIfInBounds_toArray, List.set_cons_zero, List.set_cons_succ, i64_w, i32_w]
                   rfl
                  refine take_ (i := 9) (N := some 115) (v := ?_) (a' := ?_) #[true, true, true, true, true, true, true, true, true, true, false] rfl rfl (take_ofW HT_.out HW_.out (by kernel_rfl)) (fun _ _ _ h => h) (Or.inl ⟨by rfl, ?_⟩) hHeld ?_ ?_
                  rotate_left
                  ·rintro w' ⟨s0, s1, s2, s3⟩
                   go_simp
                   with_reducible rfl
                  rotate_left
                  ·simp only [Act.put, List.setIfInBounds_toArray, List.set_cons_zero, List.set_cons_succ, i64_w, i32_w]
                   rfl
                  refine pure_ (i := 10) (N := some 116) (v := ?_) (a' := ?_) #[true, true, true, true, true, true, true, true, true, true, true] rfl rfl (any_of HT_.out (by kernel_rfl)) (fun _ _ _ h => h) (Or.inl ⟨by rfl, ?_⟩) ?_ ?_
                  rotate_left
                  ·intro w'
                   go_simp
                   with_reducible rfl
                  rotate_left
                  ·simp only [Act.put, List.setIfInBounds_toArray, List.set_cons_zero, List.set_cons_succ, i64_w, i32_w]
                   rfl
                  refine done_ (done_of HT_.out (by kernel_rfl)) ?_
                  try go_wp2
                  go_roundg k4
                  case measure => have := HJ3.out; have := HK2.out; have := HJ22.out; have := HK4.out; omega
                  case rel => exact ⟨(wrap64 (x10_4 + 1)), (by first | rfl | (simp; done) | (simp [*]; done)), H', ⟨by have := HJ3.out; have := HK2.out; have := HJ22.out; have := HK4.out; omega⟩, ⟨by (with_reducible repeat (first | apply Kd.R_alloc | apply Kd.R_drewN | apply Kd.R_drew)); exact HO_8.out⟩, ⟨by (with_reducible repeat (first | refine blk_drewN ?_ _ | refine blk_drew ?_ | refine blk_alloc ?_ _)); exact BK523.out⟩, ⟨by repeat (first | (with_reducible first | exact HB.out | apply below_alloc | apply pw_below_drewN | apply below_drew1 | refine below_set ?_ GE523.out) | exact HB.out)⟩⟩
                ·rw [if_neg c33] at H
                 exact absurd H (by simp)
               ·rw [if_neg c32] at H
                exact absurd H (by simp)
              ·rw [if_neg c31] at H
               exact absurd H (by simp)
             ·rw [if_neg c30] at H
              exact absurd H (by simp)
            ·rw [if_neg c29] at H
             have c29b0 : decide (x10_4 < x9_2) = false := decide_eq_false c29
             clear c29
             by_cases c37 : 0 ≤ x9_2
             ·rw [if_pos c37] at H
              have c37b0 : decide (0 ≤ x9_2) = true := decide_eq_true c37
              clear c37
              by_cases c38 : x9_2 < (l2.length : Int)
              ·rw [if_pos c38] at H
               have c38b0 : decide (x9_2 < (l2.length : Int)) = true := decide_eq_true c38
               clear c38
               by_cases c39 : x8_2.length < 17592186044416
               ·rw [if_pos c39] at H
                have LMc39 := Aside0.mk c39
                clear c39
                obtain ⟨y531, hy531⟩ : ∃ y_ : List Int, y_ = (x8_2 ++ [(rd_T106 l2 x9_2).f1]) := ⟨_, rfl⟩
                replace H : (soukref11_Parts.l0 k4 a0 l2 y531 (wrap64 (x9_2 + 1)) a1_0 a1_1 a1_2 a1_3) = some (r1, r2) := by first | (rw [hy531]; with_reducible exact H) | (have H2_ := (Option.bind_some _ _).symm.trans H; rw [hy531]; with_reducible exact H2_) | (have H2_ := (Option.bind_some _ _).symm.trans H; with_reducible exact H2_) | with_reducible exact H | (rw [hy531]; exact H) | exact H
                have Ny531 := Aside0.mk hy531
                clear hy531
                have H' := Aside0.mk H
                clear H
                have p530 : 0 ≤ (x9_2 : Int) := of_decide_eq_true (by first | (with_reducible assumption) | assumption)
                have q530 : x9_2 < (l2.length : Int) := of_decide_eq_true (by first | (with_reducible assumption) | assumption)
                obtain ⟨ad530, e530, hx530_0, hx530_1⟩ := at_T106 HR2.out x9_2 p530 q530
                cases e530
                replace hx530_0 := (HB.out.cell (World.block_lt_of_cell? w _ hx530_0)).trans hx530_0
                replace hx530_1 := (HB.out.cell (World.block_lt_of_cell? w _ hx530_1)).trans hx530_1
                replace p530 := eq_true p530
                replace q530 := eq_true q530
                go_wp2_with (first | ((with_reducible refine gate_builtin (b := .append) (xs := #[.tmp 117, .tmp 123]) rfl ?_); (try (refine gate_guard (by rfl) ?_; dsimp only)); at_builtin; refine Kd.R_append (Kd.int .i64) (w0 := w) w.heap.size rfl (.tmp 117) (.tmp 123) 22 2 (.int .i64 0) 8 rfl Try.underlying22 info2 rfl (by decide) (by omega) u8 x8_2 ((rd_T106 l2 x9_2).f1) [.int .i64 ((rd_T106 l2 x9_2).f1)] (fun _ => True) (fun _ => False) rfl rfl ?aP (fun _ hk => hk.elim) ?aF ?aO ?aB ?aS ?aL ?_; (case aP => exact rfl); (case aB => exact (by repeat (first | (with_reducible first | exact HB.out | apply below_alloc | apply pw_below_drewN | apply below_drew1 | refine below_set ?_ GE523.out) | exact HB.out))); (case aF => exact (fun _ _ => trivial)); (case aO => exact (by (with_reducible repeat (first | apply Kd.R_alloc | apply Kd.R_drewN | apply Kd.R_drew)); exact HO_8.out)); (case aS => exact (below_size (by repeat (first | (with_reducible first | exact HB.out | apply below_alloc | apply pw_below_drewN | apply below_drew1 | refine below_set ?_ GE523.out) | exact HB.out)))); (case aL => have := LMc39.out; omega); intro v532 w40 ho hb hg hat; rw [← Ny531.out] at ho; have n0_ := Aside0.mk (blk_grown (g := gb523) (o := .cells #[.int .i64 a1_0, .int .i64 a1_1, .int .i64 a1_2, .int .i64 a1_3] 66 (0, 0)) (by (with_reducible repeat (first | refine blk_drewN ?_ _ | refine blk_drew ?_ | refine blk_alloc ?_ _)); exact BK523.out) hg (Kd.R_ne HO_8.out BK523.out (by decide))); have n1_ := Aside0.mk (hb); have n2_ := Aside0.mk (ho); clear BK523; clear HB; clear HO_8; have BK523 := n0_; have HB := n1_; have HO533 := n2_; clear n0_ n1_ n2_; clear ho hb hg hat))
                go_roundg k4
                case measure => have := HJ3.out; have := HK2.out; have := HJ22.out; have := HK4.out; omega
                case rel => exact ⟨(y531), (wrap64 (x9_2 + 1)), (by first | rfl | (simp; done) | (simp [*]; done)), H', ⟨by have := HJ3.out; have := HK2.out; have := HJ22.out; have := HK4.out; omega⟩, ⟨by (with_reducible repeat (first | apply Kd.R_alloc | apply Kd.R_drewN | apply Kd.R_drew)); exact HO533.out⟩, ⟨by (with_reducible repeat (first | refine blk_drewN ?_ _ | refine blk_drew ?_ | refine blk_alloc ?_ _)); exact BK523.out⟩, ⟨by repeat (first | (with_reducible first | exact HB.out | apply below_alloc | apply pw_below_drewN | apply below_drew1 | refine below_set ?_ GE523.out) | exact HB.out)⟩⟩
               ·rw [if_neg c39] at H
                exact absurd H (by simp)
              ·rw [if_neg c38] at H
               exact absurd H (by simp)
             ·rw [if_neg c37] at H
              exact absurd H (by simp)
      ·rw [if_neg c22] at H
       have c22b0 : decide (x9_2 < (l2.length : Int)) = false := decide_eq_false c22
       clear c22
       replace H := Option.bind_eq_some_iff.mp H
       obtain ⟨⟨t534, t535⟩, A410, H⟩ := H
       replace H : (soukref11_Parts.l2 k2 l2 t534 ([] : List (S69)) 0 a1_0 a1_1 a1_2 a1_3) = some (r1, r2) := H
       have A41 := Aside0.mk A410
       clear A410
       have H' := Aside0.mk H
       clear H
       have hcz42_0 : wr.cell? ⟨gb523, 0, none⟩ = some (.int .i64 a1_0) := (blk_cell BK523.out 0).trans rfl
       have hcz42_1 : wr.cell? ⟨gb523, 1, none⟩ = some (.int .i64 a1_1) := (blk_cell BK523.out 1).trans rfl
       have hcz42_2 : wr.cell? ⟨gb523, 2, none⟩ = some (.int .i64 a1_2) := (blk_cell BK523.out 2).trans rfl
       have hcz42_3 : wr.cell? ⟨gb523, 3, none⟩ = some (.int .i64 a1_3) := (blk_cell BK523.out 3).trans rfl
       have hfz42_0 := blk_frozen BK523.out 0
       have hfz42_1 := blk_frozen BK523.out 1
       have hfz42_2 := blk_frozen BK523.out 2
       have hfz42_3 := blk_frozen BK523.out 3
       obtain ⟨Ao43, co43, eo43⟩ := Kd.R_slice HO_8.out
       subst eo43
       go_wp2_with (first | ((with_reducible refine gate_callee (f := 21) rfl ?_); refine goesL_ (some 134) rfl rfl Try.func21 (by kernel_rfl) rfl #[.int .i64 (wrap64 ((wrap64 (a0 - a1_0)) - a1_1)), .slice Ao43 x8_2.length co43] rfl (by (try simp only [List.map_toArray, List.map_cons, List.map_nil]); first | done | rfl | (simp only [List.length_drop, List.length_take]; rfl)) ?_; (with_reducible refine (soukref01_Split.calls (wrap64 ((wrap64 (a0 - a1_0)) - a1_1)) _ _ x8_2 t534 t535 _ ?side1 ?side2 A41.out).mono ?_); (case side1 => repeat (first | exact (Kd.R_reads' HO_8.out).2.2 | (with_reducible refine Kd.C_alloc ?_ _) | (with_reducible refine Kd.C_drewN ?_ _) | (with_reducible refine Kd.C_drew ?_))); (case side2 => exact (Kd.R_reads' HO_8.out).2.1); rintro e w44 ⟨v536, rfl, ho0, hb⟩; refine ⟨_, rfl, ?_⟩; have n0_ := Aside0.mk (Kd.R_elder' (by (with_reducible repeat (first | apply Kd.R_alloc | apply Kd.R_drewN | apply Kd.R_drew)); exact HO_8.out) (Kd.R_base ho0) hb); have n1_ := Aside0.mk (Kd.R_lower (Kd.R_new' ho0 (Kd.R_lt (by (with_reducible repeat (first | apply Kd.R_alloc | apply Kd.R_drewN | apply Kd.R_drew)); exact HO_8.out))) (below_size (by repeat (first | (with_reducible first | exact HB.out | apply below_alloc | apply pw_below_drewN | apply below_drew1 | refine below_set ?_ GE523.out) | exact HB.out)))); have n2_ := Aside0.mk (blk_below (g := gb523) (o := .cells #[.int .i64 a1_0, .int .i64 a1_1, .int .i64 a1_2, .int .i64 a1_3] 66 (0, 0)) (by (with_reducible repeat (first | refine blk_drewN ?_ _ | refine blk_drew ?_ | refine blk_alloc ?_ _)); exact BK523.out) hb); have n3_ := Aside0.mk (below_step (by repeat (first | (with_reducible first | exact HB.out | apply below_alloc | apply pw_below_drewN | apply below_drew1 | refine below_set ?_ GE523.out) | exact HB.out)) hb); clear HO_8; clear BK523; clear HB; have HO_8 := n0_; have HO537 := n1_; have BK523 := n2_; have HB := n3_; clear n0_ n1_ n2_ n3_; (try clear hb); (try clear hb2); (try clear hk); (try clear hi); (try clear ho0)))
       go_loopg [13, 14] k2 (fun kq v13 v14 w' => ∃ (x13_3 : List (S69)) (x14_3 : Int), v14 = .int .i64 x14_3 ∧ Aside0 (soukref11_Parts.l2 kq l2 t534 x13_3 x14_3 a1_0 a1_1 a1_2 a1_3 = some (r1, r2)) ∧ Aside0 (kq ≤ k2) ∧ Aside0 (Kd.R (Kd.int .i64) 2 w' w.heap.size (fun _ => True) v536 t534) ∧ Aside0 (Kd.R k69 69 w' w.heap.size (fun _ => True) v13 x13_3) ∧ Aside0 (w'.heap[gb523]? = some (.cells #[.int .i64 a1_0, .int .i64 a1_1, .int .i64 a1_2, .int .i64 a1_3] 66 (0, 0))) ∧ Aside0 (Below w.heap.size w w'))
       case atStart => exact ⟨(([] : List (S69))), (0), (by first | rfl | (simp; done) | (simp [*]; done)), H', ⟨Nat.le_refl _⟩, ⟨by (with_reducible repeat (first | apply Kd.R_alloc | apply Kd.R_drewN | apply Kd.R_drew)); exact Kd.R_mono HO537.out (fun _ hk => trivial)⟩, ⟨by first | exact Kd.R_nil _ _ _ _ _ | exact Kd.N_nil _ _ _ _ _ | exact Kd.V_nil _ _ _ _ _ | exact Kd.Q_nil _ _ _ _ _ | exact Kd.S_nil _ _ _ _ _⟩, ⟨by (with_reducible repeat (first | refine blk_drewN ?_ _ | refine blk_drew ?_ | refine blk_alloc ?_ _)); exact BK523.out⟩, ⟨by repeat (first | (with_reducible first | exact HB.out | apply below_alloc | apply pw_below_drewN | apply below_drew1 | refine below_set ?_ GE523.out) | exact HB.out)⟩⟩
       case round =>
        clear H'
        try clear c1
        try clear c2
        try clear p2
        try clear c3
        try clear p5
        try clear q5
        try clear hx5
        try clear c6
        try clear c6b0
        try clear c6b1
        try clear c6b2
        try clear p6
        try clear c7
        try clear c7b0
        try clear c7b1
        try clear c8
        try clear c8b0
        try clear c10
        try clear c10b0
        try clear c12
        try clear c12b0
        try clear c14
        try clear c14b0
        try clear c16
        try clear c16b0
        try clear c18
        try clear c18b0
        try clear c21
        try clear c22
        try clear c22b0
        try clear c24
        try clear c24b0
        try clear c25
        try clear c25b0
        try clear c25b1
        try clear c26
        try clear c26b0
        try clear c26b1
        try clear c27
        try clear c27b0
        try clear c28
        try clear c29
        try clear c29b0
        try clear c30
        try clear c30b0
        try clear c31
        try clear c31b0
        try clear c32
        try clear c32b0
        try clear c33
        try clear c33b0
        try clear c34
        try clear c34b0
        try clear c34b1
        try clear c37
        try clear c37b0
        try clear c38
        try clear c38b0
        try clear c39
        try clear hcz11_0
        try clear hcz11_1
        try clear hcz11_2
        try clear hcz11_3
        try clear hcz13_0
        try clear hcz13_1
        try clear hcz13_2
        try clear hcz13_3
        try clear hcz15_0
        try clear hcz15_1
        try clear hcz15_2
        try clear hcz15_3
        try clear hcz17_0
        try clear hcz17_1
        try clear hcz17_2
        try clear hcz17_3
        try clear hcz19_0
        try clear hcz19_1
        try clear hcz19_2
        try clear hcz19_3
        try clear hcz20_0
        try clear hcz20_1
        try clear hcz20_2
        try clear hcz20_3
        try clear hcz42_0
        try clear hcz42_1
        try clear hcz42_2
        try clear hcz42_3
        try clear hcz9_0
        try clear hcz9_1
        try clear hcz9_2
        try clear hcz9_3
        try clear hfz11_0
        try clear hfz11_1
        try clear hfz11_2
        try clear hfz11_3
        try clear hfz13_0
        try clear hfz13_1
        try clear hfz13_2
        try clear hfz13_3
        try clear hfz15_0
        try clear hfz15_1
        try clear hfz15_2
        try clear hfz15_3
        try clear hfz17_0
        try clear hfz17_1
        try clear hfz17_2
        try clear hfz17_3
        try clear hfz19_0
        try clear hfz19_1
        try clear hfz19_2
        try clear hfz19_3
        try clear hfz20_0
        try clear hfz20_1
        try clear hfz20_2
        try clear hfz20_3
        try clear hfz42_0
        try clear hfz42_1
        try clear hfz42_2
        try clear hfz42_3
        try clear hfz9_0
        try clear hfz9_1
        try clear hfz9_2
        try clear hfz9_3
        try clear hx524_0
        try clear hx524_1
        try clear hx525_0
        try clear hx525_1
        try clear hx526_0
        try clear hx526_1
        try clear hx527_0
        try clear hx527_1
        try clear hx528_0
        try clear hx528_1
        try clear hx529_0
        try clear hx529_1
        try clear hx530_0
        try clear hx530_1
        try clear p2
        try clear p5
        try clear p524
        try clear p525
        try clear p526
        try clear p527
        try clear p528
        try clear p529
        try clear p530
        try clear p6
        try clear q5
        try clear q524
        try clear q525
        try clear q526
        try clear q527
        try clear q528
        try clear q529
        try clear q530
        obtain ⟨x13_3, x14_3, rfl, HA, HK3, HO_11, HO_13, BK523, HB⟩ := hrel
        cases gk with
        | zero => exact absurd HA.out (by simp [soukref11_Parts.l2])
        | succ k3 =>
         have H := HA.out
         clear HA
         simp only [soukref11_Parts.l2] at H
         by_cases c45 : x14_3 < (l2.length : Int)
         ·rw [if_pos c45] at H
          have c45b0 : decide (x14_3 < (l2.length : Int)) = true := decide_eq_true c45
          clear c45
          by_cases c46 : 0 ≤ x14_3
          ·rw [if_pos c46] at H
           have c46b0 : decide (0 ≤ x14_3) = true := decide_eq_true c46
           clear c46
           by_cases c47 : x14_3 < (t534.length : Int)
           ·rw [if_pos c47] at H
            have c47b0 : decide (x14_3 < (t534.length : Int)) = true := decide_eq_true c47
            clear c47
            replace H := Option.bind_eq_some_iff.mp H
            obtain ⟨⟨t539, t540⟩, A480, H⟩ := H
            replace H : (if x13_3.length < 4398046511104 then (soukref11_Parts.l2 k3 l2 t534 (x13_3 ++ [(⟨(rd_T106 l2 x14_3).f0, rd t534 x14_3, t539⟩ : S69)]) (wrap64 (x14_3 + 1)) a1_0 a1_1 a1_2 a1_3) else (none)) = some (r1, r2) := H
            have A48 := Aside0.mk A480
            clear A480
            by_cases c49 : x13_3.length < 4398046511104
            ·rw [if_pos c49] at H
             have LMc49 := Aside0.mk c49
             clear c49
             obtain ⟨y543, hy543⟩ : ∃ y_ : List (S69), y_ = (x13_3 ++ [(⟨(rd_T106 l2 x14_3).f0, rd t534 x14_3, t539⟩ : S69)]) := ⟨_, rfl⟩
             replace H : (soukref11_Parts.l2 k3 l2 t534 y543 (wrap64 (x14_3 + 1)) a1_0 a1_1 a1_2 a1_3) = some (r1, r2) := by first | (rw [hy543]; with_reducible exact H) | (have H2_ := (Option.bind_some _ _).symm.trans H; rw [hy543]; with_reducible exact H2_) | (have H2_ := (Option.bind_some _ _).symm.trans H; with_reducible exact H2_) | with_reducible exact H | (rw [hy543]; exact H) | exact H
             have Ny543 := Aside0.mk hy543
             clear hy543
             have H' := Aside0.mk H
             clear H
             try go_wp2
             have n0_ := Aside0.mk (Kd.R_drew HO_11.out)
             have n1_ := Aside0.mk (Kd.R_drew HO_13.out)
             have n2_ := Aside0.mk (blk_drew BK523.out)
             have n3_ := Aside0.mk (below_drew1 HB.out)
             clear HO_11
             clear HO_13
             clear BK523
             clear HB
             have HO_11 := n0_
             have HO_13 := n1_
             have BK523 := n2_
             have HB := n3_
             clear n0_ n1_ n2_ n3_
             obtain ⟨Ao51, co51, eo51⟩ := Kd.R_slice HO_11.out
             (first | subst eo51 | (injection eo51 with f1_ f2_ f3_; have f4_ := f1_.symm; have f5_ := f3_.symm; clear f1_ f2_ f3_; subst f4_; subst f5_))
             have p538 : 0 ≤ (x14_3 : Int) := of_decide_eq_true (by first | (with_reducible assumption) | assumption)
             have q538 : x14_3 < (t534.length : Int) := of_decide_eq_true (by first | (with_reducible assumption) | assumption)
             obtain ⟨ad538, e538, hx538_0⟩ := Kd.at_int (Kd.R_reads' HO_11.out).2.2 x14_3 p538 q538
             cases e538
             replace p538 := eq_true p538
             replace q538 := eq_true q538
             refine start_ (n := 12) (S := fun w' => w'.cell? ⟨gb523, 0, none⟩ = some (.int .i64 a1_0) ∧ w'.cell? ⟨gb523, 1, none⟩ = some (.int .i64 a1_1) ∧ w'.cell? ⟨gb523, 2, none⟩ = some (.int .i64 a1_2) ∧ w'.cell? ⟨gb523, 3, none⟩ = some (.int .i64 a1_3) ∧ w'.cell? (ad538.add (x14_3).toNat) = some (.int .i64 (rd t534 x14_3))) (ds := []) #[false, false, false, false, false, false, false, false, false, false, false, false] (by kernel_rfl) rfl rfl ⟨(blk_cell BK523.out 0).trans rfl, (blk_cell BK523.out 1).trans rfl, (blk_cell BK523.out 2).trans rfl, (blk_cell BK523.out 3).trans rfl, hx538_0⟩ (fun hHeld => ?_); refine with_tabW soukref11_Parts.tab20 soukref11_Parts.bits20 (fun HT_ HW_ => ?_)
             generalize wr.drew = w50 at HO_11 HO_13 BK523 HB hx538_0 hHeld ⊢
             refine pure_ (i := 0) (N := some 144) (v := ?_) (a' := ?_) #[true, false, false, false, false, false, false, false, false, false, false, false] rfl rfl (any_of HT_.out (by kernel_rfl)) (fun _ _ _ h => h) (Or.inl ⟨by rfl, ?_⟩) ?_ ?_
             rotate_left
             ·intro w'
              go_simp
              with_reducible rfl
             rotate_left
             ·simp only [Act.put, List.setIfInBounds_toArray, List.set_cons_zero, List.set_cons_succ, i64_w, i32_w]
              rfl
             refine pure_ (i := 1) (N := some 145) (v := ?_) (a' := ?_) #[true, true, false, false, false, false, false, false, false, false, false, false] rfl rfl (any_of HT_.out (by kernel_rfl)) (fun _ _ _ h => h) (Or.inl ⟨by rfl, ?_⟩) ?_ ?_
             rotate_left
             ·intro w'
              go_simp
              with_reducible rfl
             rotate_left
             ·simp only [Act.put, List.setIfInBounds_toArray, List.set_cons_zero, List.set_cons_succ, i64_w, i32_w]
              rfl
             refine pure_ (i := 2) (N := some 146) (v := ?_) (a' := ?_) #[true, true, true, false, false, false, false, false, false, false, false, false] rfl rfl (any_of HT_.out (by kernel_rfl)) (fun _ _ _ h => h) (Or.inl ⟨by rfl, ?_⟩) ?_ ?_
             rotate_left
             ·intro w'
              go_simp
              with_reducible rfl
             rotate_left
             ·simp only [Act.put, List.setIfInBounds_toArray, List.set_cons_zero, List.set_cons_succ, i64_w, i32_w]
              rfl
             refine pure_ (i := 4) (N := some 148) (v := ?_) (a' := ?_) #[true, true, true, false, true, false, false, false, false, false, false, false] rfl rfl (any_of HT_.out (by kernel_rfl)) (fun _ _ _ h => h) (Or.inl ⟨by rfl, ?_⟩) ?_ ?_
             rotate_left
             ·intro w'
              go_simp
              with_reducible rfl
             rotate_left
             ·simp only [Act.put, List.setIfInBounds_toArray, List.set_cons_zero, List.set_cons_succ, i64_w, i32_w]
              rfl
             refine take_ (i := 3) (N := some 147) (v := ?_) (a' := ?_) #[true, true, true, true, true, false, false, false, false, false, false, false] rfl rfl (take_ofW HT_.out HW_.out (by kernel_rfl)) (fun _ _ _ h => h) (Or.inl ⟨by rfl, ?_⟩) hHeld ?_ ?_
             rotate_left
             ·rintro w' ⟨s0, s1, s2, s3, s4⟩
              go_simp
              with_reducible rfl
             rotate_left
             ·simp only [Act.put, List.setIfInBounds_toArray, List.set_cons_zero, List.set_cons_succ, i64_w, i32_w]
              rfl
             refine take_ (i := 5) (N := some 149) (v := ?_) (a' := ?_) #[true, true, true, true, true, true, false, false, false, false, false, false] rfl rfl (take_ofW HT_.out HW_.out (by kernel_rfl)) (fun _ _ _ h => h) (Or.inl ⟨by rfl, ?_⟩) hHeld ?_ ?_
             rotate_left
             ·rintro w' ⟨s0, s1, s2, s3, s4⟩
              go_simp
              with_reducible rfl
             rotate_left
             ·simp only [Act.put, List.setIfInBounds_toArray, List.set_cons_zero, List.set_cons_succ, i64_w, i32_w]
              rfl
             refine one_ (i := 6) (N := some 150) #[true, true, true, true, true, true, true, false, false, false, false, false] rfl rfl (one_of HT_.out (by kernel_rfl)) (by decide) (fun K hK => ?_)
             refine goes_ Try.func19 (by kernel_rfl) rfl #[.int .i64 (rd t534 x14_3), .int .i64 a1_2, .int .i64 10000, .int .i64 0] (by rfl) rfl rfl (by (try simp only [List.map_toArray, List.map_cons, List.map_nil]); first | done | rfl | (simp only [List.length_drop, List.length_take]; rfl)) ?_
             with_reducible refine (soukref01_MulDiv.calls k3 (rd t534 x14_3) a1_2 10000 0 t539 t540 _ A48.out).mono ?_
             rintro e w52 ⟨rfl, hb⟩
             have HS4_ := (hb.cell (World.block_lt_of_cell? _ _ (hHeld.2.2.2.2))).trans (hHeld.2.2.2.2)
             refine ⟨_, rfl, ?_⟩
             have n0_ := Aside0.mk (Kd.R_below (by (with_reducible repeat (first | apply Kd.R_alloc | apply Kd.R_drewN | apply Kd.R_drew)); exact HO_11.out) hb)
             have n1_ := Aside0.mk (Kd.R_below (by (with_reducible repeat (first | apply Kd.R_alloc | apply Kd.R_drewN | apply Kd.R_drew)); exact HO_13.out) hb)
             have n2_ := Aside0.mk (blk_below (g := gb523) (o := .cells #[.int .i64 a1_0, .int .i64 a1_1, .int .i64 a1_2, .int .i64 a1_3] 66 (0, 0)) (by (with_reducible repeat (first | refine blk_drewN ?_ _ | refine blk_drew ?_ | refine blk_alloc ?_ _)); exact BK523.out) hb)
             have n3_ := Aside0.mk (below_step (by repeat (first | (with_reducible first | exact HB.out | apply below_alloc | apply pw_below_drewN | apply below_drew1 | refine below_set ?_ GE523.out) | exact HB.out)) hb)
             clear HO_11
             clear HO_13
             clear BK523
             clear HB
             have HO_11 := n0_
             have HO_13 := n1_
             have BK523 := n2_
             have HB := n3_
             clear n0_ n1_ n2_ n3_
             (try clear hb)
             (try clear hb2)
             (try clear hk)
             (try clear hi)
             refine hK.out _ _ ⟨(blk_cell BK523.out 0).trans rfl, (blk_cell BK523.out 1).trans rfl, (blk_cell BK523.out 2).trans rfl, (blk_cell BK523.out 3).trans rfl, HS4_⟩ (fun hHeld => ?_)
             clear hK K
             refine norm_ (a' := ?_) ?_ ?_
             rotate_left
             ·show Act.put _ (some 150) _ = _
              simp only [Act.put, List.setIfInBounds_toArray, List.set_cons_zero, List.set_cons_succ, i64_w, i32_w]
              rfl
             refine pure_ (i := 7) (N := some 143) (v := ?_) (a' := ?_) #[true, true, true, true, true, true, true, true, false, false, false, false] rfl rfl (any_of HT_.out (by kernel_rfl)) (fun _ _ _ h => h) (Or.inl ⟨by rfl, ?_⟩) ?_ ?_
             rotate_left
             ·intro w'
              go_simp
              with_reducible rfl
             rotate_left
             ·simp only [Act.put, List.setIfInBounds_toArray, List.set_cons_zero, List.set_cons_succ, i64_w, i32_w]
              rfl
             refine pure_ (i := 8) (N := some 151) (v := ?_) (a' := ?_) #[true, true, true, true, true, true, true, true, true, false, false, false] rfl rfl (any_of HT_.out (by kernel_rfl)) (fun _ _ _ h => h) (Or.inl ⟨by rfl, ?_⟩) ?_ ?_
             rotate_left
             ·intro w'
              go_simp
              with_reducible rfl
             rotate_left
             ·simp only [Act.put, List.setIfInBounds_toArray, List.set_cons_zero, List.set_cons_succ, i64_w, i32_w]
              rfl
             refine pure_ (i := 9) (N := some 152) (v := ?_) (a' := ?_) #[true, true, true, true, true, true, true, true, true, true, false, false] rfl rfl (any_of HT_.out (by kernel_rfl)) (fun _ _ _ h => h) (Or.inl ⟨by rfl, ?_⟩) ?_ ?_
             rotate_left
             ·intro w'
              go_simp
              with_reducible rfl
             rotate_left
             ·simp only [Act.put, List.setIfInBounds_toArray, List.set_cons_zero, List.set_cons_succ, i64_w, i32_w]
              rfl
             refine pure_ (i := 10) (N := some 15) (v := ?_) (a' := ?_) #[true, true, true, true, true, true, true, true, true, true, true, false] rfl rfl (any_of HT_.out (by kernel_rfl)) (fun _ _ _ h => h) (Or.inl ⟨by rfl, ?_⟩) ?_ ?_
             rotate_left
             ·intro w'
              go_simp
              with_reducible rfl
             rotate_left
             ·simp only [Act.put, List.setIfInBounds_toArray, List.set_cons_zero, List.set_cons_succ, i64_w, i32_w]
              rfl
             refine pure_ (i := 11) (N := some 16) (v := ?_) (a' := ?_) #[true, true, true, true, true, true, true, true, true, true, true, true] rfl rfl (any_of HT_.out (by kernel_rfl)) (fun _ _ _ h => h) (Or.inl ⟨by rfl, ?_⟩) ?_ ?_
             rotate_left
             ·intro w'
              go_simp
              with_reducible rfl
             rotate_left
             ·simp only [Act.put, List.setIfInBounds_toArray, List.set_cons_zero, List.set_cons_succ, i64_w, i32_w]
              rfl
             refine done_ (done_of HT_.out (by kernel_rfl)) ?_
             try go_wp2
             have n0_ := Aside0.mk (Kd.R_drew HO_11.out)
             have n1_ := Aside0.mk (Kd.R_drew HO_13.out)
             have n2_ := Aside0.mk (blk_drew BK523.out)
             have n3_ := Aside0.mk (below_drew1 HB.out)
             clear HO_11
             clear HO_13
             clear BK523
             clear HB
             have HO_11 := n0_
             have HO_13 := n1_
             have BK523 := n2_
             have HB := n3_
             clear n0_ n1_ n2_ n3_
             have p541 : 0 ≤ (x14_3 : Int) := of_decide_eq_true (by first | (with_reducible assumption) | assumption)
             have q541 : x14_3 < (l2.length : Int) := of_decide_eq_true (by first | (with_reducible assumption) | assumption)
             obtain ⟨ad541, e541, hx541_0, hx541_1⟩ := at_T106 HR2.out x14_3 p541 q541
             have hw541_1 := hx541_1
             have hw541_0 := hx541_0
             cases e541
             replace hx541_0 := (HB.out.cell (World.block_lt_of_cell? w _ hx541_0)).trans hx541_0
             replace hx541_1 := (HB.out.cell (World.block_lt_of_cell? w _ hx541_1)).trans hx541_1
             replace p541 := eq_true p541
             replace q541 := eq_true q541
             have p542 : 0 ≤ (x14_3 : Int) := of_decide_eq_true (by first | (with_reducible assumption) | assumption)
             have q542 : x14_3 < (t534.length : Int) := of_decide_eq_true (by first | (with_reducible assumption) | assumption)
             obtain ⟨ad542, e542, hx542_0⟩ := Kd.at_int (Kd.R_reads' HO_11.out).2.2 x14_3 p542 q542
             obtain rfl : ad538 = ad542 := (by injection e542)
             replace p542 := eq_true p542
             replace q542 := eq_true q542
             refine start_ (n := 15) (S := fun w' => w'.cell? (ad541.add ((x14_3).toNat * 2)) = some (.string ((rd_T106 l2 x14_3).f0)) ∧ w'.cell? ⟨(ad541.add ((x14_3).toNat * 2)).block, (ad541.add ((x14_3).toNat * 2)).off + 1, none⟩ = some (.int .i64 ((rd_T106 l2 x14_3).f1)) ∧ w'.cell? (ad538.add (x14_3).toNat) = some (.int .i64 (rd t534 x14_3))) (ds := [12, 13]) #[false, false, false, false, false, false, false, false, false, false, false, false, false, false, false] (by kernel_rfl) rfl rfl ⟨((HB.out.cell (World.block_lt_of_cell? w _ hw541_0)).trans hw541_0), ((HB.out.cell (World.block_lt_of_cell? w _ hw541_1)).trans hw541_1), hx542_0⟩ (fun hHeld => ?_); refine with_tabW soukref11_Parts.tab21 soukref11_Parts.bits21 (fun HT_ HW_ => ?_)
             generalize w52.drew = w53 at HO_11 HO_13 BK523 HB hx541_0 hx541_1 hx542_0 hHeld ⊢
             refine pure_ (i := 0) (N := some 153) (v := ?_) (a' := ?_) #[true, false, false, false, false, false, false, false, false, false, false, false, false, false, false] rfl rfl (any_of HT_.out (by kernel_rfl)) (fun _ _ _ h => h) (Or.inl ⟨by rfl, ?_⟩) ?_ ?_
             rotate_left
             ·intro w'
              go_simp
              with_reducible rfl
             rotate_left
             ·simp only [Act.put, List.setIfInBounds_toArray, List.set_cons_zero, List.set_cons_succ, i64_w, i32_w]
              rfl
             refine pure_ (i := 1) (N := some 154) (v := ?_) (a' := ?_) #[true, true, false, false, false, false, false, false, false, false, false, false, false, false, false] rfl rfl (any_of HT_.out (by kernel_rfl)) (fun _ _ _ h => h) (Or.inl ⟨by rfl, ?_⟩) ?_ ?_
             rotate_left
             ·intro w'
              go_simp
              with_reducible rfl
             rotate_left
             ·simp only [Act.put, List.setIfInBounds_toArray, List.set_cons_zero, List.set_cons_succ, i64_w, i32_w]
              rfl
             refine pure_ (i := 2) (N := some 155) (v := ?_) (a' := ?_) #[true, true, true, false, false, false, false, false, false, false, false, false, false, false, false] rfl rfl (any_of HT_.out (by kernel_rfl)) (fun _ _ _ h => h) (Or.inl ⟨by rfl, ?_⟩) ?_ ?_
             rotate_left
             ·intro w'
              go_simp
              with_reducible rfl
             rotate_left
             ·simp only [Act.put, List.setIfInBounds_toArray, List.set_cons_zero, List.set_cons_succ, i64_w, i32_w]
              rfl
             refine pure_ (i := 3) (N := some 156) (v := ?_) (a' := ?_) #[true, true, true, true, false, false, false, false, false, false, false, false, false, false, false] rfl rfl (any_of HT_.out (by kernel_rfl)) (fun _ _ _ h => h) (Or.inl ⟨by rfl, ?_⟩) ?_ ?_
             rotate_left
             ·intro w'
              go_simp
              with_reducible rfl
             rotate_left
             ·simp only [Act.put, List.setIfInBounds_toArray, List.set_cons_zero, List.set_cons_succ, i64_w, i32_w]
              rfl
             refine pure_ (i := 4) (N := some 157) (v := ?_) (a' := ?_) #[true, true, true, true, true, false, false, false, false, false, false, false, false, false, false] rfl rfl (any_of HT_.out (by kernel_rfl)) (fun _ _ _ h => h) (Or.inl ⟨by rfl, ?_⟩) ?_ ?_
             rotate_left
             ·intro w'
              go_simp
              with_reducible rfl
             rotate_left
             ·simp only [Act.put, List.setIfInBounds_toArray, List.set_cons_zero, List.set_cons_succ, i64_w, i32_w]
              rfl
             refine pure_ (i := 6) (N := some 159) (v := ?_) (a' := ?_) #[true, true, true, true, true, false, true, false, false, false, false, false, false, false, false] rfl rfl (any_of HT_.out (by kernel_rfl)) (fun _ _ _ h => h) (Or.inl ⟨by rfl, ?_⟩) ?_ ?_
             rotate_left
             ·intro w'
              go_simp
              with_reducible rfl
             rotate_left
             ·simp only [Act.put, List.setIfInBounds_toArray, List.set_cons_zero, List.set_cons_succ, i64_w, i32_w]
              rfl
             refine pure_ (i := 7) (N := some 160) (v := ?_) (a' := ?_) #[true, true, true, true, true, false, true, true, false, false, false, false, false, false, false] rfl rfl (any_of HT_.out (by kernel_rfl)) (fun _ _ _ h => h) (Or.inl ⟨by rfl, ?_⟩) ?_ ?_
             rotate_left
             ·intro w'
              go_simp
              with_reducible rfl
             rotate_left
             ·simp only [Act.put, List.setIfInBounds_toArray, List.set_cons_zero, List.set_cons_succ, i64_w, i32_w]
              rfl
             refine pure_ (i := 8) (N := some 161) (v := ?_) (a' := ?_) #[true, true, true, true, true, false, true, true, true, false, false, false, false, false, false] rfl rfl (any_of HT_.out (by kernel_rfl)) (fun _ _ _ h => h) (Or.inl ⟨by rfl, ?_⟩) ?_ ?_
             rotate_left
             ·intro w'
              go_simp
              with_reducible rfl
             rotate_left
             ·simp only [Act.put, List.setIfInBounds_toArray, List.set_cons_zero, List.set_cons_succ, i64_w, i32_w]
              rfl
             refine pure_ (i := 10) (N := some 163) (v := ?_) (a' := ?_) #[true, true, true, true, true, false, true, true, true, false, true, false, false, false, false] rfl rfl (any_of HT_.out (by kernel_rfl)) (fun _ _ _ h => h) (Or.inl ⟨by rfl, ?_⟩) ?_ ?_
             rotate_left
             ·intro w'
              go_simp
              with_reducible rfl
             rotate_left
             ·simp only [Act.put, List.setIfInBounds_toArray, List.set_cons_zero, List.set_cons_succ, i64_w, i32_w]
              rfl
             refine take_ (i := 5) (N := some 158) (v := ?_) (a' := ?_) #[true, true, true, true, true, true, true, true, true, false, true, false, false, false, false] rfl rfl (take_ofW HT_.out HW_.out (by kernel_rfl)) (fun _ _ _ h => h) (Or.inl ⟨by rfl, ?_⟩) hHeld ?_ ?_
             rotate_left
             ·rintro w' ⟨s0, s1, s2⟩
              go_simp
              with_reducible rfl
             rotate_left
             ·simp only [Act.put, List.setIfInBounds_toArray, List.set_cons_zero, List.set_cons_succ, i64_w, i32_w]
              rfl
             refine take_ (i := 9) (N := some 162) (v := ?_) (a' := ?_) #[true, true, true, true, true, true, true, true, true, true, true, false, false, false, false] rfl rfl (take_ofW HT_.out HW_.out (by kernel_rfl)) (fun _ _ _ h => h) (Or.inl ⟨by rfl, ?_⟩) hHeld ?_ ?_
             rotate_left
             ·rintro w' ⟨s0, s1, s2⟩
              go_simp
              with_reducible rfl
             rotate_left
             ·simp only [Act.put, List.setIfInBounds_toArray, List.set_cons_zero, List.set_cons_succ, i64_w, i32_w]
              rfl
             refine pure_ (i := 11) (N := some 164) (v := ?_) (a' := ?_) #[true, true, true, true, true, true, true, true, true, true, true, true, false, false, false] rfl rfl (any_of HT_.out (by kernel_rfl)) (fun _ _ _ h => h) (Or.inl ⟨by rfl, ?_⟩) ?_ ?_
             rotate_left
             ·intro w'
              go_simp
              with_reducible rfl
             rotate_left
             ·simp only [Act.put, List.setIfInBounds_toArray, List.set_cons_zero, List.set_cons_succ, i64_w, i32_w]
              rfl
             refine last_ (i := 12) (N := some 165) #[true, true, true, true, true, true, true, true, true, true, true, true, true, false, false] rfl rfl (one_of HT_.out (by kernel_rfl)) (by decide) (fun K hK => ?_)
             refine value_ (w1 := ?_) (v := ?_) (by rfl) rfl ?_ ?_
             rotate_left 2
             ·go_simp
              constructor
              ·rfl
              ·rfl
             refine hK.out _ _ ?_
             clear hK K
             refine norm_ (a' := ?_) ?_ ?_
             rotate_left
             ·show Act.put _ (some 165) _ = _
              simp only [Act.put, List.setIfInBounds_toArray, List.set_cons_zero, List.set_cons_succ, i64_w, i32_w]
              rfl
             refine last_ (i := 13) (N := some 166) #[true, true, true, true, true, true, true, true, true, true, true, true, true, true, false] rfl rfl (one_of HT_.out (by kernel_rfl)) (by decide) (fun K hK => ?_)
             refine Kd.R_append_step k69 (w0 := w) w.heap.size (by rfl) (.tmp 153) (.tmp 165) 63 69 (.agg #[(.string ⟨#[]⟩), (.int .i64 0), (.int .i64 0)]) 32 rfl Try.underlying63 info69 rfl (by decide) (by omega) u13 x13_3 (⟨(rd_T106 l2 x14_3).f0, rd t534 x14_3, t539⟩ : S69) [.string ((rd_T106 l2 x14_3).f0), .int .i64 (rd t534 x14_3), .int .i64 t539] (fun _ => True) (fun _ => False) rfl rfl ?aP (fun _ hk => hk.elim) ?aF ?aO ?aB ?aS ?aL ?_
             (case aP => exact k69_mkM _ _ _ (⟨(rd_T106 l2 x14_3).f0, rd t534 x14_3, t539⟩ : S69))
             (case aB => exact (by repeat (first | (with_reducible first | exact HB.out | apply below_alloc | apply pw_below_drewN | apply below_drew1 | refine below_set ?_ GE523.out) | exact HB.out)))
             (case aF => exact (fun _ _ => trivial))
             (case aO => exact (by (with_reducible repeat (first | apply Kd.R_alloc | apply Kd.R_drewN | apply Kd.R_drew)); exact HO_13.out))
             (case aS => exact (below_size (by repeat (first | (with_reducible first | exact HB.out | apply below_alloc | apply pw_below_drewN | apply below_drew1 | refine below_set ?_ GE523.out) | exact HB.out))))
             (case aL => have := LMc49.out; omega)
             intro v544 w54 ho hb hg hat
             rw [← Ny543.out] at ho
             have n0_ := Aside0.mk (Kd.R_over' (by (with_reducible repeat (first | apply Kd.R_alloc | apply Kd.R_drewN | apply Kd.R_drew)); exact HO_11.out) (Kd.R_typed (by (with_reducible repeat (first | apply Kd.R_alloc | apply Kd.R_drewN | apply Kd.R_drew)); exact HO_13.out)) (by decide) hg)
             have n1_ := Aside0.mk (blk_grown (g := gb523) (o := .cells #[.int .i64 a1_0, .int .i64 a1_1, .int .i64 a1_2, .int .i64 a1_3] 66 (0, 0)) (by (with_reducible repeat (first | refine blk_drewN ?_ _ | refine blk_drew ?_ | refine blk_alloc ?_ _)); exact BK523.out) hg (Kd.R_ne HO_13.out BK523.out (by decide)))
             have n2_ := Aside0.mk (hb)
             have n3_ := Aside0.mk (ho)
             clear HO_11
             clear BK523
             clear HB
             clear HO_13
             have HO_11 := n0_
             have BK523 := n1_
             have HB := n2_
             have HO545 := n3_
             clear n0_ n1_ n2_ n3_
             clear ho hb hg hat
             refine hK.out _ _ ?_
             clear hK K
             refine norm_ (a' := ?_) ?_ ?_
             rotate_left
             ·show Act.put _ (some 166) _ = _
              simp only [Act.put, List.setIfInBounds_toArray, List.set_cons_zero, List.set_cons_succ, i64_w, i32_w]
              rfl
             refine pure_ (i := 14) (N := some 13) (v := ?_) (a' := ?_) #[true, true, true, true, true, true, true, true, true, true, true, true, true, true, true] rfl rfl (any_of HT_.out (by kernel_rfl)) (fun _ _ _ h => h) (Or.inl ⟨by rfl, ?_⟩) ?_ ?_
             rotate_left
             ·intro w'
              go_simp
              with_reducible rfl
             rotate_left
             ·simp only [Act.put, List.setIfInBounds_toArray, List.set_cons_zero, List.set_cons_succ, i64_w, i32_w]
              rfl
             refine done_ (done_of HT_.out (by kernel_rfl)) ?_
             try go_wp2
             go_roundg k3
             case measure => have := HJ3.out; have := HK2.out; have := HK3.out; omega
             case rel => exact ⟨(y543), (wrap64 (x14_3 + 1)), (by first | rfl | (simp; done) | (simp [*]; done)), H', ⟨by have := HJ3.out; have := HK2.out; have := HK3.out; omega⟩, ⟨by (with_reducible repeat (first | apply Kd.R_alloc | apply Kd.R_drewN | apply Kd.R_drew)); exact HO_11.out⟩, ⟨by (with_reducible repeat (first | apply Kd.R_alloc | apply Kd.R_drewN | apply Kd.R_drew)); exact HO545.out⟩, ⟨by (with_reducible repeat (first | refine blk_drewN ?_ _ | refine blk_drew ?_ | refine blk_alloc ?_ _)); exact BK523.out⟩, ⟨by repeat (first | (with_reducible first | exact HB.out | apply below_alloc | apply pw_below_drewN | apply below_drew1 | refine below_set ?_ GE523.out) | exact HB.out)⟩⟩
            ·rw [if_neg c49] at H
             exact absurd H (by simp)
           ·rw [if_neg c47] at H
            exact absurd H (by simp)
          ·rw [if_neg c46] at H
           exact absurd H (by simp)
         ·rw [if_neg c45] at H
          have c45b0 : decide (x14_3 < (l2.length : Int)) = false := decide_eq_false c45
          clear c45
          simp only [Option.some.injEq, Prod.mk.injEq] at H
          obtain ⟨rfl, rfl⟩ := H
          go_wp2
          go_ret2
          exact ⟨_, by first | rfl | (simp [errW_none, errW_some] <;> rfl) | (simp [*, errW_none, errW_some] <;> rfl), by (with_reducible repeat (first | apply Kd.R_alloc | apply Kd.R_drewN | apply Kd.R_drew)); exact HO_13.out, by repeat (first | (with_reducible first | exact HB.out | apply below_alloc | apply pw_below_drewN | apply below_drew1 | refine below_set ?_ GE523.out) | exact HB.out)⟩
end Go.Proofs.Ytncnhhnbjmpomaa.Q
namespace Go.Proofs.Ytncnhhnbjmpomaa.Q
open Go.RowKit Go.Proofs.YtncnhhnbjmpomaaW.PrintWords Go.Proofs.YtncnhhnbjmpomaaW.PrintLast Go.Proofs.YtncnhhnbjmpomaaW.PrintMore
attribute [local go_sem] max2_int min2_int max_two min_two max_three min_three max_four min_four   -- for this text's walks alone
set_option linter.unusedVariables false
set_option linter.unusedSimpArgs false
theorem eqA68 (d : Nat) (w : World) (x0 y0 : ByteArray) (x1 y1 : Int) (x2 y2 : Int) :
  (Op.equalIn (d + 2) 68 (.agg #[.string x0, .int .i64 x1, .int .i64 x2]) (.agg #[.string y0, .int .i64 y1, .int .i64 y2])).run Try.prog w = .ok (x0.toList == y0.toList && (x1 == y1 && (x2 == y2))) w := by
 refine eqA_of Try.underlying68 (by kernel_rfl) ?_
 refine eqf_cons (by rfl) (by go_simp; rfl) (by go_simp; rfl) (by go_simp) ?_
 refine eqf_cons (by rfl) (by go_simp; rfl) (by go_simp; rfl) (by go_simp) ?_
 exact eqf_last (by rfl) (by go_simp; rfl) (by go_simp; rfl) (by go_simp)
end Go.Proofs.Ytncnhhnbjmpomaa.Q
namespace Go.Proofs.Ytncnhhnbjmpomaa.Q
open Go.RowKit Go.Proofs.YtncnhhnbjmpomaaW.PrintWords Go.Proofs.YtncnhhnbjmpomaaW.PrintLast Go.Proofs.YtncnhhnbjmpomaaW.PrintMore
attribute [local go_sem] max2_int min2_int max_two min_two max_three min_three max_four min_four   -- for this text's walks alone
set_option linter.unusedVariables false
set_option linter.unusedSimpArgs false
attribute [local go_sem high] eqA68
def part_Part.l0 : Nat → List (S68) → List (S68) → Int → Int → Option (Bool)
 | 0, _, _, _, _ => none
 | k + 1, x0, x1, x12, x13 => if x13 < x12 then (if 0 ≤ x13 then (if x13 < (x0.length : Int) then (if x13 < (x1.length : Int) then (if (!((((rd_T68 x0 x13).f0).toList) == (((rd_T68 x1 x13).f0).toList)) || (!(((rd_T68 x0 x13).f1) == ((rd_T68 x1 x13).f1)) || (!(((rd_T68 x0 x13).f2) == ((rd_T68 x1 x13).f2))))) = true then (some false) else (part_Part.l0 k x0 x1 x12 (wrap64 (x13 + 1)))) else (none)) else (none)) else (none)) else (some true)
def part_Part.f (k : Nat) (l0 : List (S68)) (l1 : List (S68)) : Option (Bool) := if (l0.length : Int) = (l1.length : Int) then (part_Part.l0 k l0 l1 (l0.length : Int) 0) else (some false)
set_option maxHeartbeats 8000000 in
set_option maxRecDepth 100000 in
theorem part_Part.calls (k : Nat) (A0 : Option Addr) (c0 : Nat) (l0 : List (S68)) (A1 : Option Addr) (c1 : Nat) (l1 : List (S68)) (r : Bool) (w : World) (hr0 : Kd.C k68 w A0 l0.length l0) (hc0 : l0.length ≤ c0) (hr1 : Kd.C k68 w A1 l1.length l1) (hc1 : l1.length ≤ c1) (h : part_Part.f k l0 l1 = some r) :
  Calls Try.prog 58 #[.slice A0 l0.length c0, .slice A1 l1.length c1] w fun e w' => e = .returned (.bool r) ∧ Drawn0 w w' := by
 have hu68 := Try.underlying68
 have HR0 := Aside0.mk hr0
 have HC0 := Aside0.mk hc0
 clear hr0 hc0
 have HR1 := Aside0.mk hr1
 have HC1 := Aside0.mk hc1
 clear hr1 hc1
 have H : (if (l0.length : Int) = (l1.length : Int) then (part_Part.l0 k l0 l1 (l0.length : Int) 0) else (some false)) = some r := h
 clear h
 by_cases c3 : (l0.length : Int) = (l1.length : Int)
 ·rw [if_pos c3] at H
  have c3b0 : ((l0.length : Int) == (l1.length : Int)) = true := beq_iff_eq.mpr c3
  have c3b1 : ((l0.length : Int) != (l1.length : Int)) = false := bne_eq_false_iff_eq.mpr c3
  have c3b2 : (l0.length == l1.length) = true := by first | simpa using c3 | (simp at c3 ⊢; omega)
  clear c3
  have H' := Aside0.mk H
  clear H
  go_enter Try.func58, Try.ntmps58
  go_wp2
  repeat (go_quiet (fail); try go_wp2)
  go_loopg [13] k (fun kq v13 w' => ∃ (x13_1 : Int), v13 = .int .i64 x13_1 ∧ Aside0 (part_Part.l0 kq l0 l1 (l0.length : Int) x13_1 = some r) ∧ Aside0 (kq ≤ k) ∧ Drawn0 w w')
  case atStart => exact ⟨(0), (by first | rfl | (simp; done) | (simp [*]; done)), H', ⟨Nat.le_refl _⟩, by repeat (first | exact Drawn0.refl _ | apply Drawn0.step)⟩
  case round =>
   clear H'
   try clear c1
   try clear p2
   try clear c3
   try clear c3b0
   try clear c3b1
   try clear c3b2
   obtain ⟨x13_1, rfl, HA, HK1, ⟨m1, rfl⟩⟩ := hrel
   cases gk with
   | zero => exact absurd HA.out (by simp [part_Part.l0])
   | succ k1 =>
    have H := HA.out
    clear HA
    simp only [part_Part.l0] at H
    by_cases c4 : x13_1 < (l0.length : Int)
    ·rw [if_pos c4] at H
     have c4b0 : decide (x13_1 < (l0.length : Int)) = true := decide_eq_true c4
     clear c4
     by_cases c5 : 0 ≤ x13_1
     ·rw [if_pos c5] at H
      have c5b0 : decide (0 ≤ x13_1) = true := decide_eq_true c5
      clear c5
      by_cases c6 : x13_1 < (l0.length : Int)
      ·rw [if_pos c6] at H
       have c6b0 : decide (x13_1 < (l0.length : Int)) = true := decide_eq_true c6
       clear c6
       by_cases c7 : x13_1 < (l1.length : Int)
       ·rw [if_pos c7] at H
        have c7b0 : decide (x13_1 < (l1.length : Int)) = true := decide_eq_true c7
        clear c7
        by_cases c8 : (!((((rd_T68 l0 x13_1).f0).toList) == (((rd_T68 l1 x13_1).f0).toList)) || (!(((rd_T68 l0 x13_1).f1) == ((rd_T68 l1 x13_1).f1)) || (!(((rd_T68 l0 x13_1).f2) == ((rd_T68 l1 x13_1).f2))))) = true
        ·rw [if_pos c8] at H
         have c8b0 : (!((((rd_T68 l0 x13_1).f0).toList) == (((rd_T68 l1 x13_1).f0).toList)) || (!(((rd_T68 l0 x13_1).f1) == ((rd_T68 l1 x13_1).f1)) || (!(((rd_T68 l0 x13_1).f2) == ((rd_T68 l1 x13_1).f2))))) = true := c8
         clear c8
         obtain rfl := Option.some.inj H
         have p510 : 0 ≤ (x13_1 : Int) := of_decide_eq_true (by first | (with_reducible assumption) | assumption)
         have q510 : x13_1 < (l0.length : Int) := of_decide_eq_true (by first | (with_reducible assumption) | assumption)
         obtain ⟨ad510, e510, hx510_0, hx510_1, hx510_2⟩ := at_T68 HR0.out x13_1 p510 q510
         cases e510
         replace p510 := eq_true p510
         replace q510 := eq_true q510
         have p511 : 0 ≤ (x13_1 : Int) := of_decide_eq_true (by first | (with_reducible assumption) | assumption)
         have q511 : x13_1 < (l1.length : Int) := of_decide_eq_true (by first | (with_reducible assumption) | assumption)
         obtain ⟨ad511, e511, hx511_0, hx511_1, hx511_2⟩ := at_T68 HR1.out x13_1 p511 q511
         cases e511
         replace p511 := eq_true p511
         replace q511 := eq_true q511
         go_wp2
         repeat (go_quiet (fail); try go_wp2)
         go_ret
         exact ⟨by first | rfl | (simp; done) | (simp [*]; done), by repeat (first | exact Drawn0.refl _ | apply Drawn0.step)⟩
        ·rw [if_neg c8] at H
         have c8b0 : (!((((rd_T68 l0 x13_1).f0).toList) == (((rd_T68 l1 x13_1).f0).toList)) || (!(((rd_T68 l0 x13_1).f1) == ((rd_T68 l1 x13_1).f1)) || (!(((rd_T68 l0 x13_1).f2) == ((rd_T68 l1 x13_1).f2))))) = false := by simpa using c8
         clear c8
         have H' := Aside0.mk H
         clear H
         have p510 : 0 ≤ (x13_1 : Int) := of_decide_eq_true (by first | (with_reducible assumption) | assumption)
         have q510 : x13_1 < (l0.length : Int) := of_decide_eq_true (by first | (with_reducible assumption) | assumption)
         obtain ⟨ad510, e510, hx510_0, hx510_1, hx510_2⟩ := at_T68 HR0.out x13_1 p510 q510
         cases e510
         replace p510 := eq_true p510
         replace q510 := eq_true q510
         have p511 : 0 ≤ (x13_1 : Int) := of_decide_eq_true (by first | (with_reducible assumption) | assumption)
         have q511 : x13_1 < (l1.length : Int) := of_decide_eq_true (by first | (with_reducible assumption) | assumption)
         obtain ⟨ad511, e511, hx511_0, hx511_1, hx511_2⟩ := at_T68 HR1.out x13_1 p511 q511
         cases e511
         replace p511 := eq_true p511
         replace q511 := eq_true q511
         go_wp2
         repeat (go_quiet (fail); try go_wp2)
         go_roundg k1
         case measure => have := HK1.out; omega
         case rel => exact ⟨(wrap64 (x13_1 + 1)), (by first | rfl | (simp; done) | (simp [*]; done)), H', ⟨by have := HK1.out; omega⟩, by repeat (first | exact Drawn0.refl _ | apply Drawn0.step)⟩
       ·rw [if_neg c7] at H
        exact absurd H (by simp)
      ·rw [if_neg c6] at H
       exact absurd H (by simp)
     ·rw [if_neg c5] at H
      exact absurd H (by simp)
    ·rw [if_neg c4] at H
     have c4b0 : decide (x13_1 < (l0.length : Int)) = false := decide_eq_false c4
     clear c4
     obtain rfl := Option.some.inj H
     go_wp2
     repeat (go_quiet (fail); try go_wp2)
     go_ret
     exact ⟨by first | rfl | (simp; done) | (simp [*]; done), by repeat (first | exact Drawn0.refl _ | apply Drawn0.step)⟩
 ·rw [if_neg c3] at H
  have c3b0 : ((l0.length : Int) == (l1.length : Int)) = false := beq_eq_false_iff_ne.mpr c3
  have c3b1 : ((l0.length : Int) != (l1.length : Int)) = true := bne_iff_ne.mpr c3
  have c3b2 : (l0.length == l1.length) = false := by first | simpa using c3 | (simp at c3 ⊢; omega)
  obtain rfl := Option.some.inj H
  go_enter Try.func58, Try.ntmps58
  go_wp2
  repeat (go_quiet (fail); try go_wp2)
  go_ret
  exact ⟨by first | rfl | (simp; done) | (simp [*]; done), by repeat (first | exact Drawn0.refl _ | apply Drawn0.step)⟩
end Go.Proofs.Ytncnhhnbjmpomaa.Q
namespace Go.Proofs.Ytncnhhnbjmpomaa.Q
open Go.RowKit Go.Proofs.YtncnhhnbjmpomaaW.PrintWords Go.Proofs.YtncnhhnbjmpomaaW.PrintLast Go.Proofs.YtncnhhnbjmpomaaW.PrintMore
set_option linter.unusedVariables false
set_option linter.unusedSimpArgs false
theorem rj2_ok (quo : List Bool) (neg up : Bool) (hl : quo.length ≤ 50000) : EvT (fun k => soukref01_MulDiv.j2 k neg quo up) (valF (val quo + bv up) neg) := by
  cases up with
  | true =>
    obtain ⟨s, h1, h2, h3⟩ := plus_ok quo [true] (by omega) (by simp)
    have hv := value_ok s neg (by simp at h3; omega)
    rw [h2] at hv
    refine EvT.step (g := fun k => (soukref01_Plus.f k quo [true]).bind fun t => (soukref01_value.f k t neg).bind fun b => some (b.1, b.2)) (fun k => ?_) (EvT.bind h1 (EvT.bind hv (EvT.const _)))
    simp only [soukref01_MulDiv.j2]
    rw [if_pos trivial]
  | false =>
    have hv := value_ok quo neg (by omega)
    have e : val quo + bv false = val quo := by simp [bv]
    rw [e]
    refine EvT.step (g := fun k => (soukref01_value.f k quo neg).bind fun b => some (b.1, b.2)) (fun k => ?_) (EvT.bind hv (EvT.const _))
    simp only [soukref01_MulDiv.j2]
    rw [if_neg (by decide)]
theorem rj1_ok (quo : List Bool) (neg up z : Bool) (hl : quo.length ≤ 50000) : EvT (fun k => soukref01_MulDiv.j1 k neg quo up z) (valF (val quo + bv (up || z)) neg) := by
  cases z with
  | true =>
    have h := rj2_ok quo neg true hl
    rw [Bool.or_true]
    refine EvT.step (fun k => ?_) h
    simp only [soukref01_MulDiv.j1]
    rw [if_pos trivial]
  | false =>
    have h := rj2_ok quo neg up hl
    rw [Bool.or_false]
    refine EvT.step (fun k => ?_) h
    simp only [soukref01_MulDiv.j1]
    rw [if_neg (by decide)]
theorem rj0_ok (m : Int) (quo : List Bool) (neg lo hi up : Bool) (hl : quo.length ≤ 50000) : EvT (fun k => soukref01_MulDiv.j0 k m neg quo false lo hi up) (valF (val quo + bv (up || (decide (m = 2) && !lo && !hi && bat quo 0))) neg) := by
  have hat := at_ok quo 0
  by_cases hm : m = 2
  · cases lo with
    | true =>
      refine EvT.step (fun k => ?_) (rj1_ok quo neg up false hl |> fun h => by simpa [hm] using h)
      simp only [soukref01_MulDiv.j0]
      rw [if_neg (by decide), if_pos hm, if_pos trivial]
    | false =>
      cases hi with
      | true =>
        refine EvT.step (fun k => ?_) (rj1_ok quo neg up false hl |> fun h => by simpa [hm] using h)
        simp only [soukref01_MulDiv.j0]
        rw [if_neg (by decide), if_pos hm, if_neg (by decide), if_pos trivial]
      | false =>
        refine EvT.step (fun k => ?_) (rj1_ok quo neg up (bat quo 0) hl |> fun h => by simpa [hm] using h)
        simp only [soukref01_MulDiv.j0]
        rw [if_neg (by decide), if_pos hm, if_neg (by decide), if_neg (by decide)]
        have : soukref01_Wide_at.f quo 0 = some (bat quo 0) := hat
        rw [this]; rfl
  · refine EvT.step (fun k => ?_) (rj1_ok quo neg up false hl |> fun h => by simpa [hm] using h)
    simp only [soukref01_MulDiv.j0]
    rw [if_neg (by decide), if_neg hm]
theorem rj5_ok (quo : List Bool) (neg up : Bool) (hl : quo.length ≤ 50000) : EvT (fun k => soukref01_MulDiv.j5 k neg quo up) (valF (val quo + bv up) neg) := by
  cases up with
  | true =>
    obtain ⟨s, h1, h2, h3⟩ := plus_ok quo [true] (by omega) (by simp)
    have hv := value_ok s neg (by simp at h3; omega)
    rw [h2] at hv
    refine EvT.step (g := fun k => (soukref01_Plus.f k quo [true]).bind fun t => (soukref01_value.f k t neg).bind fun b => some (b.1, b.2)) (fun k => ?_) (EvT.bind h1 (EvT.bind hv (EvT.const _)))
    simp only [soukref01_MulDiv.j5]
    rw [if_pos trivial]
  | false =>
    have hv := value_ok quo neg (by omega)
    have e : val quo + bv false = val quo := by simp [bv]
    rw [e]
    refine EvT.step (g := fun k => (soukref01_value.f k quo neg).bind fun b => some (b.1, b.2)) (fun k => ?_) (EvT.bind hv (EvT.const _))
    simp only [soukref01_MulDiv.j5]
    rw [if_neg (by decide)]
theorem rj4_ok (quo : List Bool) (neg up z : Bool) (hl : quo.length ≤ 50000) : EvT (fun k => soukref01_MulDiv.j4 k neg quo up z) (valF (val quo + bv (up || z)) neg) := by
  cases z with
  | true =>
    have h := rj5_ok quo neg true hl
    rw [Bool.or_true]
    refine EvT.step (fun k => ?_) h
    simp only [soukref01_MulDiv.j4]
    rw [if_pos trivial]
  | false =>
    have h := rj5_ok quo neg up hl
    rw [Bool.or_false]
    refine EvT.step (fun k => ?_) h
    simp only [soukref01_MulDiv.j4]
    rw [if_neg (by decide)]
theorem rj3_ok (m : Int) (quo : List Bool) (neg lo hi up : Bool) (hl : quo.length ≤ 50000) : EvT (fun k => soukref01_MulDiv.j3 k m neg quo false lo hi up) (valF (val quo + bv (up || (decide (m = 2) && !lo && !hi && bat quo 0))) neg) := by
  have hat := at_ok quo 0
  by_cases hm : m = 2
  · cases lo with
    | true =>
      refine EvT.step (fun k => ?_) (rj4_ok quo neg up false hl |> fun h => by simpa [hm] using h)
      simp only [soukref01_MulDiv.j3]
      rw [if_neg (by decide), if_pos hm, if_pos trivial]
    | false =>
      cases hi with
      | true =>
        refine EvT.step (fun k => ?_) (rj4_ok quo neg up false hl |> fun h => by simpa [hm] using h)
        simp only [soukref01_MulDiv.j3]
        rw [if_neg (by decide), if_pos hm, if_neg (by decide), if_pos trivial]
      | false =>
        refine EvT.step (fun k => ?_) (rj4_ok quo neg up (bat quo 0) hl |> fun h => by simpa [hm] using h)
        simp only [soukref01_MulDiv.j3]
        rw [if_neg (by decide), if_pos hm, if_neg (by decide), if_neg (by decide)]
        have : soukref01_Wide_at.f quo 0 = some (bat quo 0) := hat
        rw [this]; rfl
  · refine EvT.step (fun k => ?_) (rj4_ok quo neg up false hl |> fun h => by simpa [hm] using h)
    simp only [soukref01_MulDiv.j3]
    rw [if_neg (by decide), if_neg hm]
def upB (neg : Bool) (m : Int) (q r c : Nat) : Bool :=
  !decide (r = 0) && ((decide (m = 0) && neg) || (decide (m = 1) && !neg) || (decide (m = 2) && (decide (c < 2 * r) || (!decide (2 * r < c) && decide (q % 2 = 1)))))
def negB (a b : Int) : Bool := decide (a < 0) != decide (b < 0)
def mdV (a b : Int) (c : Nat) (m : Int) : Nat := a.natAbs * b.natAbs / c + bv (upB (negB a b) m (a.natAbs * b.natAbs / c) (a.natAbs * b.natAbs % c) c)
def mdF (a b : Int) (c : Nat) (m : Int) : Int × Bool := valF (mdV a b c m) (negB a b)
theorem bat0 (l : List Bool) : bat l 0 = decide (val l % 2 = 1) := by
  cases l with
  | nil => rfl
  | cons b l => 
    have : val (b :: l) % 2 = bv b := by simp only [val]; cases b <;> simp [bv] <;> omega
    rw [this]; cases b <;> rfl
theorem rmd_neg (a b c m : Int) (ha : inR a) (hb : inR b) (hc : inR c) (hc0 : 0 < c) (hm : m = 0 ∨ m = 1 ∨ m = 2) (hneg : (negB a b = true)) : EvT (fun k => soukref01_MulDiv.f k a b c m) (mdF a b c.natAbs m) := by
  have hneg' : (decide (a < 0) != decide (b < 0)) = true := hneg
  have hA := bits_ok a ha
  have hB := bits_ok b hb
  have hC := bits_ok c hc
  have lA := bitsN_len64 a ha
  have lB := bitsN_len64 b hb
  have lC := bitsN_len64 c hc
  obtain ⟨P, hP1, hP2, hP3⟩ := times_ok (bitsN a.natAbs) (bitsN b.natAbs) (by omega) (by omega)
  rw [bitsN_val, bitsN_val] at hP2
  have lP := trimF_len P
  obtain ⟨q, r, hD1, hD2, hD3, hD4⟩ := div_ok (trimF P) (bitsN c.natAbs) (by omega) (by omega) (by rw [bitsN_val]; omega)
  rw [trimF_val, hP2, bitsN_val] at hD2 hD3
  have hrlt : val r < val (bitsN c.natAbs) := by rw [bitsN_val, hD3]; exact Nat.mod_lt _ (by omega)
  have lr : r.length ≤ 64 := Nat.le_trans (canon_len r _ hD4 hrlt) (Nat.le_trans (trimF_len _) lC)
  obtain ⟨t2, hT1, hT2, hT3⟩ := plus_ok r r (by omega) (by omega)
  have hR := trim_ok r (by omega)
  rw [← hD4] at hR
  have hL1 := less_ok t2 (bitsN c.natAbs) (by omega) (by omega)
  have hL2 := less_ok (bitsN c.natAbs) t2 (by omega) (by omega)
  rw [bitsN_val] at hL1 hL2
  have lq : (trimF q).length ≤ 20000 := by
    by_cases h : trimF q = []
    · rw [h]; simp
    · have h1 := trimF_pow q h
      rw [hD2] at h1
      have h2 : a.natAbs * b.natAbs / c.natAbs ≤ a.natAbs * b.natAbs := Nat.div_le_self _ _
      have h3 := val_lt P
      rw [hP2] at h3
      apply Classical.byContradiction
      intro h4
      have : 2 ^ P.length ≤ 2 ^ ((trimF q).length - 1) := Nat.pow_le_pow_right (by decide) (by omega)
      omega
  have hz : r = [] ↔ a.natAbs * b.natAbs % c.natAbs = 0 := by
    rw [← hD3]
    have := trimF_nil r
    rw [← hD4] at this
    exact this
  have hv2 : val t2 = 2 * (a.natAbs * b.natAbs % c.natAbs) := by rw [hT2, hD3]; omega
  unfold mdF mdV
  rw [hneg]
  have eq0 : val (trimF q) = a.natAbs * b.natAbs / c.natAbs := by rw [trimF_val, hD2]
  rw [← eq0]
  generalize hQ : trimF q = Q at *
  unfold soukref01_MulDiv.f
  refine EvT.congr (fun k => by rw [if_pos hneg']) ?_
  refine EvT.bind hA ?_
  refine EvT.bind hB ?_
  refine EvT.bind hP1 ?_
  refine EvT.bind hC ?_
  refine EvT.bind hD1 ?_
  refine EvT.bind hT1 ?_
  refine EvT.bind hR ?_
  by_cases hw : r = []
  · have hw0 := hz.1 hw
    have hup : upB true m (val Q) (a.natAbs * b.natAbs % c.natAbs) c.natAbs = false := by unfold upB; rw [hw0]; rfl
    rw [hup]
    refine EvT.congr (fun k => if_pos (by rw [hw]; rfl)) ?_
    refine EvT.bind hC ?_
    refine EvT.bind hL1 ?_
    refine EvT.bind hC ?_
    refine EvT.bind hL2 ?_
    have hv := value_ok Q true (by omega)
    have e : val Q + bv false = val Q := by simp [bv]
    rw [e]
    exact EvT.bind hv (EvT.const _)
  · have hw0 : ¬ a.natAbs * b.natAbs % c.natAbs = 0 := fun h => hw (hz.2 h)
    have hlen : ¬ ((r.length : Int) = 0) := by
      intro h; exact hw (List.length_eq_zero_iff.1 (by omega))
    refine EvT.congr (fun k => if_neg hlen) ?_
    refine EvT.bind hC ?_
    refine EvT.bind hL1 ?_
    refine EvT.bind hC ?_
    refine EvT.bind hL2 ?_
    have hj := fun up => rj0_ok m Q true (decide (val t2 < c.natAbs)) (decide (c.natAbs < val t2)) up (by omega)
    have hb0 := bat0 Q
    rcases hm with rfl | rfl | rfl
    · refine EvT.congr (fun k => by rw [if_pos rfl]) ?_
      have h := hj true
      have e : (true || (decide ((0 : Int) = 2) && !decide (val t2 < c.natAbs) && !decide (c.natAbs < val t2) && bat Q 0)) = upB true 0 (val Q) (a.natAbs * b.natAbs % c.natAbs) c.natAbs := by
        unfold upB; rw [hb0, hv2]; simp [hw0]
      rw [e] at h
      exact h
    · refine EvT.congr (fun k => by rw [if_neg (by decide), if_pos rfl, if_neg (by decide)]) ?_
      have h := hj false
      have e : (false || (decide ((1 : Int) = 2) && !decide (val t2 < c.natAbs) && !decide (c.natAbs < val t2) && bat Q 0)) = upB true 1 (val Q) (a.natAbs * b.natAbs % c.natAbs) c.natAbs := by
        unfold upB; rw [hb0, hv2]; simp [hw0]
      rw [e] at h
      exact h
    · refine EvT.congr (fun k => by rw [if_neg (by decide), if_neg (by decide), if_pos rfl]) ?_
      have h := hj (decide (c.natAbs < val t2))
      have e : ((decide (c.natAbs < val t2)) || (decide ((2 : Int) = 2) && !decide (val t2 < c.natAbs) && !decide (c.natAbs < val t2) && bat Q 0)) = upB true 2 (val Q) (a.natAbs * b.natAbs % c.natAbs) c.natAbs := by
        unfold upB; rw [hb0, hv2]; simp [hw0]; rw [Bool.eq_iff_iff]; simp; omega
      rw [e] at h
      exact h
theorem rmd_pos (a b c m : Int) (ha : inR a) (hb : inR b) (hc : inR c) (hc0 : 0 < c) (hm : m = 0 ∨ m = 1 ∨ m = 2) (hneg : (negB a b = false)) : EvT (fun k => soukref01_MulDiv.f k a b c m) (mdF a b c.natAbs m) := by
  have hneg' : ¬ (decide (a < 0) != decide (b < 0)) = true := by unfold negB at hneg; rw [hneg]; decide
  have hA := bits_ok a ha
  have hB := bits_ok b hb
  have hC := bits_ok c hc
  have lA := bitsN_len64 a ha
  have lB := bitsN_len64 b hb
  have lC := bitsN_len64 c hc
  obtain ⟨P, hP1, hP2, hP3⟩ := times_ok (bitsN a.natAbs) (bitsN b.natAbs) (by omega) (by omega)
  rw [bitsN_val, bitsN_val] at hP2
  have lP := trimF_len P
  obtain ⟨q, r, hD1, hD2, hD3, hD4⟩ := div_ok (trimF P) (bitsN c.natAbs) (by omega) (by omega) (by rw [bitsN_val]; omega)
  rw [trimF_val, hP2, bitsN_val] at hD2 hD3
  have hrlt : val r < val (bitsN c.natAbs) := by rw [bitsN_val, hD3]; exact Nat.mod_lt _ (by omega)
  have lr : r.length ≤ 64 := Nat.le_trans (canon_len r _ hD4 hrlt) (Nat.le_trans (trimF_len _) lC)
  obtain ⟨t2, hT1, hT2, hT3⟩ := plus_ok r r (by omega) (by omega)
  have hR := trim_ok r (by omega)
  rw [← hD4] at hR
  have hL1 := less_ok t2 (bitsN c.natAbs) (by omega) (by omega)
  have hL2 := less_ok (bitsN c.natAbs) t2 (by omega) (by omega)
  rw [bitsN_val] at hL1 hL2
  have lq : (trimF q).length ≤ 20000 := by
    by_cases h : trimF q = []
    · rw [h]; simp
    · have h1 := trimF_pow q h
      rw [hD2] at h1
      have h2 : a.natAbs * b.natAbs / c.natAbs ≤ a.natAbs * b.natAbs := Nat.div_le_self _ _
      have h3 := val_lt P
      rw [hP2] at h3
      apply Classical.byContradiction
      intro h4
      have : 2 ^ P.length ≤ 2 ^ ((trimF q).length - 1) := Nat.pow_le_pow_right (by decide) (by omega)
      omega
  have hz : r = [] ↔ a.natAbs * b.natAbs % c.natAbs = 0 := by
    rw [← hD3]
    have := trimF_nil r
    rw [← hD4] at this
    exact this
  have hv2 : val t2 = 2 * (a.natAbs * b.natAbs % c.natAbs) := by rw [hT2, hD3]; omega
  unfold mdF mdV
  rw [hneg]
  have eq0 : val (trimF q) = a.natAbs * b.natAbs / c.natAbs := by rw [trimF_val, hD2]
  rw [← eq0]
  generalize hQ : trimF q = Q at *
  unfold soukref01_MulDiv.f
  refine EvT.congr (fun k => by rw [if_neg hneg']) ?_
  refine EvT.bind hA ?_
  refine EvT.bind hB ?_
  refine EvT.bind hP1 ?_
  refine EvT.bind hC ?_
  refine EvT.bind hD1 ?_
  refine EvT.bind hT1 ?_
  refine EvT.bind hR ?_
  by_cases hw : r = []
  · have hw0 := hz.1 hw
    have hup : upB false m (val Q) (a.natAbs * b.natAbs % c.natAbs) c.natAbs = false := by unfold upB; rw [hw0]; rfl
    rw [hup]
    refine EvT.congr (fun k => if_pos (by rw [hw]; rfl)) ?_
    refine EvT.bind hC ?_
    refine EvT.bind hL1 ?_
    refine EvT.bind hC ?_
    refine EvT.bind hL2 ?_
    have hv := value_ok Q false (by omega)
    have e : val Q + bv false = val Q := by simp [bv]
    rw [e]
    exact EvT.bind hv (EvT.const _)
  · have hw0 : ¬ a.natAbs * b.natAbs % c.natAbs = 0 := fun h => hw (hz.2 h)
    have hlen : ¬ ((r.length : Int) = 0) := by
      intro h; exact hw (List.length_eq_zero_iff.1 (by omega))
    refine EvT.congr (fun k => if_neg hlen) ?_
    refine EvT.bind hC ?_
    refine EvT.bind hL1 ?_
    refine EvT.bind hC ?_
    refine EvT.bind hL2 ?_
    have hj := fun up => rj3_ok m Q false (decide (val t2 < c.natAbs)) (decide (c.natAbs < val t2)) up (by omega)
    have hb0 := bat0 Q
    rcases hm with rfl | rfl | rfl
    · refine EvT.congr (fun k => by rw [if_pos rfl, if_neg (by decide), if_neg (by decide)]) ?_
      have h := hj false
      have e : (false || (decide ((0 : Int) = 2) && !decide (val t2 < c.natAbs) && !decide (c.natAbs < val t2) && bat Q 0)) = upB false 0 (val Q) (a.natAbs * b.natAbs % c.natAbs) c.natAbs := by
        unfold upB; rw [hb0, hv2]; simp [hw0]
      rw [e] at h
      exact h
    · refine EvT.congr (fun k => by rw [if_neg (by decide), if_pos rfl]) ?_
      have h := hj true
      have e : (true || (decide ((1 : Int) = 2) && !decide (val t2 < c.natAbs) && !decide (c.natAbs < val t2) && bat Q 0)) = upB false 1 (val Q) (a.natAbs * b.natAbs % c.natAbs) c.natAbs := by
        unfold upB; rw [hb0, hv2]; simp [hw0]
      rw [e] at h
      exact h
    · refine EvT.congr (fun k => by rw [if_neg (by decide), if_neg (by decide), if_pos rfl]) ?_
      have h := hj (decide (c.natAbs < val t2))
      have e : ((decide (c.natAbs < val t2)) || (decide ((2 : Int) = 2) && !decide (val t2 < c.natAbs) && !decide (c.natAbs < val t2) && bat Q 0)) = upB false 2 (val Q) (a.natAbs * b.natAbs % c.natAbs) c.natAbs := by
        unfold upB; rw [hb0, hv2]; simp [hw0]; rw [Bool.eq_iff_iff]; simp; omega
      rw [e] at h
      exact h
theorem rmd_ok (a b c m : Int) (ha : inR a) (hb : inR b) (hc : inR c) (hc0 : 0 < c) (hm : m = 0 ∨ m = 1 ∨ m = 2) : EvT (fun k => soukref01_MulDiv.f k a b c m) (mdF a b c.natAbs m) := by
  cases h : negB a b with
  | true => exact rmd_neg a b c m ha hb hc hc0 hm h
  | false => exact rmd_pos a b c m ha hb hc hc0 hm h
end Go.Proofs.Ytncnhhnbjmpomaa.Q
namespace Go.Proofs.Ytncnhhnbjmpomaa.Q
open Go.RowKit Go.Proofs.YtncnhhnbjmpomaaW.PrintWords Go.Proofs.YtncnhhnbjmpomaaW.PrintLast Go.Proofs.YtncnhhnbjmpomaaW.PrintMore
set_option linter.unusedVariables false
set_option linter.unusedSimpArgs false
theorem mul_parts (x1 x0 y1 y0 p11 p10 p01 p00 : Int) (h00 : 0 ≤ p00) (h00b : p00 ≤ 18446744065119617025) (h01 : 0 ≤ p01) (h01b : p01 ≤ 18446744065119617025) (h10 : 0 ≤ p10) (h10b : p10 ≤ 18446744065119617025) (h11 : 0 ≤ p11) (h11b : p11 ≤ 18446744065119617025) :
    IntKind.u64.wrap (IntKind.u64.wrap (IntKind.u64.wrap p11 + IntKind.u64.wrap (IntKind.u64.wrap p10 + IntKind.u64.wrap p00 / 4294967296) / 4294967296) + IntKind.u64.wrap (IntKind.u64.wrap (p10 + p00 / 4294967296) % 4294967296 + IntKind.u64.wrap p01) / 4294967296)
      = ((p11 * 4294967296 + p10 + p01) * 4294967296 + p00) / 18446744073709551616 := by
  have e1 : IntKind.u64.wrap p11 = p11 := w64 h11 (by omega)
  have e2 : IntKind.u64.wrap p10 = p10 := w64 h10 (by omega)
  have e3 : IntKind.u64.wrap p01 = p01 := w64 h01 (by omega)
  have e4 : IntKind.u64.wrap p00 = p00 := w64 h00 (by omega)
  rw [e1, e2, e3, e4]
  have e5 : IntKind.u64.wrap (p10 + p00 / 4294967296) = p10 + p00 / 4294967296 := w64 (by omega) (by omega)
  rw [e5]
  have e6 : IntKind.u64.wrap ((p10 + p00 / 4294967296) % 4294967296 + p01) = (p10 + p00 / 4294967296) % 4294967296 + p01 := w64 (by omega) (by omega)
  rw [e6, w64 (x := p11 + (p10 + p00 / 4294967296) / 4294967296) (by omega) (by omega), w64 (by omega) (by omega)]
  omega
theorem mul_ring (x1 x0 y1 y0 : Int) : (x1 * 4294967296 + x0) * (y1 * 4294967296 + y0) = (x1 * y1 * 4294967296 + x1 * y0 + x0 * y1) * 4294967296 + x0 * y0 := by grind
theorem mul64_ok (a b : Int) (ha : 0 ≤ a) (ha2 : a < 18446744073709551616) (hb : 0 ≤ b) (hb2 : b < 18446744073709551616) : bits_Mul64.f a b = some (a * b / 18446744073709551616, a * b % 18446744073709551616) := by
  have xa0 : 0 ≤ a / 4294967296 := by omega
  have xa1 : a / 4294967296 ≤ 4294967295 := by omega
  have xb0 : 0 ≤ a % 4294967296 := by omega
  have xb1 : a % 4294967296 ≤ 4294967295 := by omega
  have ya0 : 0 ≤ b / 4294967296 := by omega
  have ya1 : b / 4294967296 ≤ 4294967295 := by omega
  have yb0 : 0 ≤ b % 4294967296 := by omega
  have yb1 : b % 4294967296 ≤ 4294967295 := by omega
  have hr := mul_ring (a / 4294967296) (a % 4294967296) (b / 4294967296) (b % 4294967296)
  have ea : a / 4294967296 * 4294967296 + a % 4294967296 = a := by omega
  have eb : b / 4294967296 * 4294967296 + b % 4294967296 = b := by omega
  rw [ea, eb] at hr
  have bd : ∀ x y : Int, 0 ≤ x → x ≤ 4294967295 → 0 ≤ y → y ≤ 4294967295 → 0 ≤ x * y ∧ x * y ≤ 18446744065119617025 := fun x y h1 h2 h3 h4 => ⟨Int.mul_nonneg h1 h3, by have := Int.mul_le_mul h2 h4 h3 (by omega : (0 : Int) ≤ 4294967295); omega⟩
  have b11 := bd _ _ xa0 xa1 ya0 ya1
  have b10 := bd _ _ xa0 xa1 yb0 yb1
  have b01 := bd _ _ xb0 xb1 ya0 ya1
  have b00 := bd _ _ xb0 xb1 yb0 yb1
  unfold bits_Mul64.f
  rw [and32 a ha ha2, and32 b hb hb2]
  have e4 : IntKind.u64.wrap (a % 4294967296 * (b % 4294967296)) = a % 4294967296 * (b % 4294967296) := w64 b00.1 (by omega)
  have e2 : IntKind.u64.wrap (a / 4294967296 * (b % 4294967296)) = a / 4294967296 * (b % 4294967296) := w64 b10.1 (by omega)
  have hm := mul_parts 0 0 0 0 _ _ _ _ b00.1 b00.2 b01.1 b01.2 b10.1 b10.2 b11.1 b11.2
  rw [e4, e2] at hm ⊢
  rw [← hr] at hm
  clear hr
  generalize a / 4294967296 * (b % 4294967296) = p10 at *
  generalize a % 4294967296 * (b % 4294967296) = p00 at *
  have e5 : IntKind.u64.wrap (p10 + p00 / 4294967296) = p10 + p00 / 4294967296 := w64 (by omega) (by omega)
  rw [and32 _ (by rw [e5]; omega) (by rw [e5]; omega), ← hm, w64m (a * b), e5]
theorem size_ok (a : Int) (ha : inR a) : money_size.f a = some (a.natAbs : Int) := by
  unfold inR at ha
  unfold money_size.f
  by_cases h : a < 0
  · rw [if_pos h]
    congr 1
    rw [IntKind.wrap_u64, IntKind.wrap_u64]; omega
  · rw [if_neg h]
    congr 1
    rw [IntKind.wrap_u64]; omega
theorem more_ok (m : Int) (neg : Bool) (q r c : Nat) (hq : q < 18446744073709551616) (hr : r < c) (hc : c ≤ 9223372036854775807) (hm : m = 0 ∨ m = 1 ∨ m = 2) : money_more.f m neg q r c = some (upB neg m q r c) := by
  unfold money_more.f upB
  by_cases h0 : r = 0
  · subst h0; rw [if_pos (by omega)]; rfl
  · rw [if_neg (by omega)]
    rcases hm with rfl | rfl | rfl
    · rw [if_pos rfl]; simp [h0]
    · rw [if_neg (by decide), if_pos rfl]; simp [h0]
    · rw [if_neg (by decide), if_neg (by decide)]
      have e : IntKind.u64.wrap ((c : Int) - (r : Int)) = ((c - r : Nat) : Int) := by rw [IntKind.wrap_u64]; omega
      rw [e, and1 q hq]
      by_cases h : r = c - r
      · rw [if_pos (by omega)]
        congr 1
        have h1 : ¬ c < 2 * r := by omega
        have h2 : ¬ 2 * r < c := by omega
        by_cases h3 : q % 2 = 1
        · simp [h0, h1, h2, h3]
        · have h4 : q % 2 = 0 := by omega
          simp [h0, h1, h2, h4]
      · rw [if_neg (by omega)]
        congr 1
        by_cases h1 : c < 2 * r
        · have : (r : Int) > ((c - r : Nat) : Int) := by omega
          simp [h0, h1, this]
        · have h2 : 2 * r < c := by omega
          have : ¬ (r : Int) > ((c - r : Nat) : Int) := by omega
          simp [h0, h1, h2, this]
theorem wz (q : Nat) (h : q + 1 = 18446744073709551616) : IntKind.u64.wrap ((q : Int) + 1) = 0 := by rw [IntKind.wrap_u64]; omega
theorem wn (q : Nat) (h : ¬ q + 1 = 18446744073709551616) (h2 : q < 18446744073709551616) : IntKind.u64.wrap ((q : Int) + 1) = ((q + 1 : Nat) : Int) := by rw [IntKind.wrap_u64]; omega
theorem nz (q : Nat) : ¬ ((q + 1 : Nat) : Int) = 0 := by omega
def resF (x : Int × Bool) : Int × Int := if x.2 = true then (x.1, 0) else (0, 2)
theorem mj2_ok (v : Nat) (hv : v < 18446744073709551616) : EvT (fun k => money_MulDiv.j1 k true (v : Int)) (resF (valF v true)) := by
  unfold valF
  rw [if_pos rfl]
  by_cases h : v ≤ 9223372036854775808
  · rw [if_pos h]
    refine EvT.step (g := fun k => money_MulDiv.j2 k true (v : Int) true) (fun k => ?_) (EvT.done (fun k => ?_))
    · simp only [money_MulDiv.j1]
      rw [if_pos trivial, decide_eq_true (by omega)]
    · simp only [money_MulDiv.j2]
      rw [if_pos trivial]
      have : wrap64 (IntKind.u64.wrap (-(v : Int))) = -(v : Int) := by rw [IntKind.wrap_u64]; unfold wrap64; omega
      rw [this]; rfl
  · rw [if_neg h]
    refine EvT.step (g := fun k => money_MulDiv.j2 k true (v : Int) false) (fun k => ?_) (EvT.done (fun k => ?_))
    · simp only [money_MulDiv.j1]
      rw [if_pos trivial, decide_eq_false (by omega)]
    · simp only [money_MulDiv.j2]
      rw [if_neg (by decide), if_pos trivial]; rfl
theorem mj4_ok (v : Nat) (hv : v < 18446744073709551616) : EvT (fun k => money_MulDiv.j3 k false (v : Int)) (resF (valF v false)) := by
  unfold valF
  rw [if_neg (by decide)]
  by_cases h : v < 9223372036854775808
  · rw [if_pos h]
    refine EvT.step (g := fun k => money_MulDiv.j4 k false (v : Int) false) (fun k => ?_) (EvT.done (fun k => ?_))
    · simp only [money_MulDiv.j3]
      rw [if_neg (by decide)]
    · simp only [money_MulDiv.j4]
      have : wrap64 (v : Int) = v := by unfold wrap64; omega
      have h' : (v : Int) < 9223372036854775808 := by omega
      rw [this]; simp [h', resF]
  · rw [if_neg h]
    refine EvT.step (g := fun k => money_MulDiv.j4 k false (v : Int) false) (fun k => ?_) (EvT.done (fun k => ?_))
    · simp only [money_MulDiv.j3]
      rw [if_neg (by decide)]
    · simp only [money_MulDiv.j4]
      have h' : ¬ (v : Int) < 9223372036854775808 := by omega
      simp [h', resF]
theorem pmd_true (a b c m : Int) (ha : inR a) (hb : inR b) (hc : inR c) (hc0 : 0 < c) (hm : m = 0 ∨ m = 1 ∨ m = 2) (hneg : negB a b = true) : EvT (fun k => money_MulDiv.j0 k a b c m false) (resF (mdF a b c.natAbs m)) := by
  have hneg' : (decide (a < 0) != decide (b < 0)) = true := hneg
  have ha' := ha
  have hb' := hb
  unfold inR at ha' hb' hc
  obtain ⟨n, rfl⟩ := Int.eq_ofNat_of_zero_le (show 0 ≤ c by omega)
  have e1 := size_ok a ha
  have e2 := size_ok b hb
  have e3 := mul64_ok a.natAbs b.natAbs (by omega) (by omega) (by omega) (by omega)
  have ew : IntKind.u64.wrap (n : Int) = n := by rw [IntKind.wrap_u64]; omega
  have eP : (a.natAbs : Int) * b.natAbs = ((a.natAbs * b.natAbs : Nat) : Int) := (Int.natCast_mul _ _).symm
  rw [eP] at e3
  have hna : Int.natAbs (n : Int) = n := rfl
  unfold mdF mdV
  rw [hneg, hna]
  generalize a.natAbs * b.natAbs = P at *
  refine EvT.step (g := fun k => if (P : Int) / 18446744073709551616 ≥ (n : Int) then some (0, 2) else (bits_Div64.f k ((P : Int) / 18446744073709551616) ((P : Int) % 18446744073709551616) n).bind fun bt => (money_more.f m true bt.1 bt.2 n).bind fun t => if t = true then (if IntKind.u64.wrap (bt.1 + 1) = 0 then some (0, 2) else money_MulDiv.j1 k true (IntKind.u64.wrap (bt.1 + 1))) else money_MulDiv.j1 k true bt.1) (fun k => ?_) ?_
  · simp only [money_MulDiv.j0]
    rw [if_neg (by decide), if_pos hneg']
    rw [e1, e2]
    simp only [Option.bind_some]
    rw [e3]
    simp only [Option.bind_some, ew]
  · have hn0 : 0 < n := by omega
    by_cases hbig : (P : Int) / 18446744073709551616 ≥ (n : Int)
    · have hq : 18446744073709551616 ≤ P / n := by
        rw [Nat.le_div_iff_mul_le hn0]
        have : n ≤ P / 18446744073709551616 := by omega
        omega
      have hv : valF (P / n + bv (upB true m (P / n) (P % n) n)) true = (0, false) := by
        unfold valF
        rw [if_pos rfl, if_neg (by omega)]
      rw [hv]
      exact EvT.congr (fun k => if_pos hbig) (EvT.const _)
    · refine EvT.congr (fun k => if_neg hbig) ?_
      obtain ⟨k0, hk0⟩ := div64_ok ((P : Int) / 18446744073709551616) ((P : Int) % 18446744073709551616) n (by omega) (by omega) (by omega) (by omega) (by omega)
      have eN : (P : Int) / 18446744073709551616 * 18446744073709551616 + (P : Int) % 18446744073709551616 = P := by omega
      rw [eN] at hk0
      have eq1 : (P : Int) / n = ((P / n : Nat) : Int) := (Int.natCast_ediv P n).symm
      have eq2 : (P : Int) % n = ((P % n : Nat) : Int) := (Int.natCast_emod P n).symm
      rw [eq1, eq2] at hk0
      have hD : EvT (fun k => bits_Div64.f k ((P : Int) / 18446744073709551616) ((P : Int) % 18446744073709551616) n) (((P / n : Nat) : Int), ((P % n : Nat) : Int)) := ⟨k0, fun k hk => by
        obtain ⟨j, rfl⟩ : ∃ j, k = k0 + j := ⟨k - k0, by omega⟩
        induction j with
        | zero => exact hk0
        | succ j ih => exact bits_Div64.mono _ _ _ (k0 + j) _ (ih (by omega))⟩
      refine EvT.bind hD ?_
      have hq2 : P / n < 18446744073709551616 := by
        apply Nat.div_lt_of_lt_mul
        have : P / 18446744073709551616 < n := by omega
        omega
      have hmo := more_ok m true (P / n) (P % n) n hq2 (Nat.mod_lt _ hn0) (by omega) hm
      cases hu : upB true m (P / n) (P % n) n with
      | false =>
        rw [hu] at hmo
        have e0 : P / n + bv false = P / n := by simp [bv]
        rw [e0]
        refine EvT.congr (fun k => ?_) (mj2_ok (P / n) hq2)
        show ((money_more.f m true ((P / n : Nat) : Int) ((P % n : Nat) : Int) n).bind _) = _
        rw [hmo]; simp
      | true =>
        rw [hu] at hmo
        have e0 : P / n + bv true = P / n + 1 := by simp [bv]
        rw [e0]
        by_cases hov : P / n + 1 = 18446744073709551616
        · have hv : valF (P / n + 1) true = (0, false) := by
            unfold valF
            rw [if_pos rfl, if_neg (by omega)]
          rw [hv]
          refine EvT.congr (fun k => ?_) (EvT.const _)
          show ((money_more.f m true ((P / n : Nat) : Int) ((P % n : Nat) : Int) n).bind _) = _
          have ez := wz (P / n) hov
          rw [hmo]
          simp only [Option.bind_some]
          rw [if_pos trivial, if_pos ez]; rfl
        · refine EvT.congr (fun k => ?_) (mj2_ok (P / n + 1) (by omega))
          show ((money_more.f m true ((P / n : Nat) : Int) ((P % n : Nat) : Int) n).bind _) = _
          have ez := wn (P / n) hov hq2
          rw [hmo]
          simp only [Option.bind_some, ez]
          rw [if_pos trivial, if_neg (nz (P / n))]
theorem pmd_false (a b c m : Int) (ha : inR a) (hb : inR b) (hc : inR c) (hc0 : 0 < c) (hm : m = 0 ∨ m = 1 ∨ m = 2) (hneg : negB a b = false) : EvT (fun k => money_MulDiv.j0 k a b c m false) (resF (mdF a b c.natAbs m)) := by
  have hneg' : ¬ (decide (a < 0) != decide (b < 0)) = true := by unfold negB at hneg; rw [hneg]; decide
  have ha' := ha
  have hb' := hb
  unfold inR at ha' hb' hc
  obtain ⟨n, rfl⟩ := Int.eq_ofNat_of_zero_le (show 0 ≤ c by omega)
  have e1 := size_ok a ha
  have e2 := size_ok b hb
  have e3 := mul64_ok a.natAbs b.natAbs (by omega) (by omega) (by omega) (by omega)
  have ew : IntKind.u64.wrap (n : Int) = n := by rw [IntKind.wrap_u64]; omega
  have eP : (a.natAbs : Int) * b.natAbs = ((a.natAbs * b.natAbs : Nat) : Int) := (Int.natCast_mul _ _).symm
  rw [eP] at e3
  have hna : Int.natAbs (n : Int) = n := rfl
  unfold mdF mdV
  rw [hneg, hna]
  generalize a.natAbs * b.natAbs = P at *
  refine EvT.step (g := fun k => if (P : Int) / 18446744073709551616 ≥ (n : Int) then some (0, 2) else (bits_Div64.f k ((P : Int) / 18446744073709551616) ((P : Int) % 18446744073709551616) n).bind fun bt => (money_more.f m false bt.1 bt.2 n).bind fun t => if t = true then (if IntKind.u64.wrap (bt.1 + 1) = 0 then some (0, 2) else money_MulDiv.j3 k false (IntKind.u64.wrap (bt.1 + 1))) else money_MulDiv.j3 k false bt.1) (fun k => ?_) ?_
  · simp only [money_MulDiv.j0]
    rw [if_neg (by decide), if_neg hneg']
    rw [e1, e2]
    simp only [Option.bind_some]
    rw [e3]
    simp only [Option.bind_some, ew]
  · have hn0 : 0 < n := by omega
    by_cases hbig : (P : Int) / 18446744073709551616 ≥ (n : Int)
    · have hq : 18446744073709551616 ≤ P / n := by
        rw [Nat.le_div_iff_mul_le hn0]
        have : n ≤ P / 18446744073709551616 := by omega
        omega
      have hv : valF (P / n + bv (upB false m (P / n) (P % n) n)) false = (0, false) := by
        unfold valF
        rw [if_neg (by decide), if_neg (by omega)]
      rw [hv]
      exact EvT.congr (fun k => if_pos hbig) (EvT.const _)
    · refine EvT.congr (fun k => if_neg hbig) ?_
      obtain ⟨k0, hk0⟩ := div64_ok ((P : Int) / 18446744073709551616) ((P : Int) % 18446744073709551616) n (by omega) (by omega) (by omega) (by omega) (by omega)
      have eN : (P : Int) / 18446744073709551616 * 18446744073709551616 + (P : Int) % 18446744073709551616 = P := by omega
      rw [eN] at hk0
      have eq1 : (P : Int) / n = ((P / n : Nat) : Int) := (Int.natCast_ediv P n).symm
      have eq2 : (P : Int) % n = ((P % n : Nat) : Int) := (Int.natCast_emod P n).symm
      rw [eq1, eq2] at hk0
      have hD : EvT (fun k => bits_Div64.f k ((P : Int) / 18446744073709551616) ((P : Int) % 18446744073709551616) n) (((P / n : Nat) : Int), ((P % n : Nat) : Int)) := ⟨k0, fun k hk => by
        obtain ⟨j, rfl⟩ : ∃ j, k = k0 + j := ⟨k - k0, by omega⟩
        induction j with
        | zero => exact hk0
        | succ j ih => exact bits_Div64.mono _ _ _ (k0 + j) _ (ih (by omega))⟩
      refine EvT.bind hD ?_
      have hq2 : P / n < 18446744073709551616 := by
        apply Nat.div_lt_of_lt_mul
        have : P / 18446744073709551616 < n := by omega
        omega
      have hmo := more_ok m false (P / n) (P % n) n hq2 (Nat.mod_lt _ hn0) (by omega) hm
      cases hu : upB false m (P / n) (P % n) n with
      | false =>
        rw [hu] at hmo
        have e0 : P / n + bv false = P / n := by simp [bv]
        rw [e0]
        refine EvT.congr (fun k => ?_) (mj4_ok (P / n) hq2)
        show ((money_more.f m false ((P / n : Nat) : Int) ((P % n : Nat) : Int) n).bind _) = _
        rw [hmo]; simp
      | true =>
        rw [hu] at hmo
        have e0 : P / n + bv true = P / n + 1 := by simp [bv]
        rw [e0]
        by_cases hov : P / n + 1 = 18446744073709551616
        · have hv : valF (P / n + 1) false = (0, false) := by
            unfold valF
            rw [if_neg (by decide), if_neg (by omega)]
          rw [hv]
          refine EvT.congr (fun k => ?_) (EvT.const _)
          show ((money_more.f m false ((P / n : Nat) : Int) ((P % n : Nat) : Int) n).bind _) = _
          have ez := wz (P / n) hov
          rw [hmo]
          simp only [Option.bind_some]
          rw [if_pos trivial, if_pos ez]; rfl
        · refine EvT.congr (fun k => ?_) (mj4_ok (P / n + 1) (by omega))
          show ((money_more.f m false ((P / n : Nat) : Int) ((P % n : Nat) : Int) n).bind _) = _
          have ez := wn (P / n) hov hq2
          rw [hmo]
          simp only [Option.bind_some, ez]
          rw [if_pos trivial, if_neg (nz (P / n))]
theorem pmd_ok (a b c m : Int) (ha : inR a) (hb : inR b) (hc : inR c) (hc0 : 0 < c) (hm : m = 0 ∨ m = 1 ∨ m = 2) : EvT (fun k => money_MulDiv.f k a b c m) (resF (mdF a b c.natAbs m)) := by
  have key : EvT (fun k => money_MulDiv.j0 k a b c m false) (resF (mdF a b c.natAbs m)) := by
    cases h : negB a b with
    | true => exact pmd_true a b c m ha hb hc hc0 hm h
    | false => exact pmd_false a b c m ha hb hc hc0 hm h
  refine EvT.congr (fun k => ?_) key
  unfold money_MulDiv.f
  rw [if_neg (by omega), if_neg (by omega), decide_eq_false (by omega)]
end Go.Proofs.Ytncnhhnbjmpomaa.Q
namespace Go.Proofs.Ytncnhhnbjmpomaa.Q
open Go.RowKit Go.Proofs.YtncnhhnbjmpomaaW.PrintWords Go.Proofs.Ytncnhhnbjmpomaa
set_option linter.unusedVariables false
set_option linter.unusedSimpArgs false
theorem bl_iff (a b : ByteArray) : a.toList = b.toList ↔ a = b := ⟨fun h => Go.WideShapes.bytes_inj (by rw [← ByteArray.toList_eq, ← ByteArray.toList_eq]; exact h), fun h => by rw [h]⟩
theorem rd106 (l : List S106) (i : Nat) (h : i < l.length) : rd_T106 l (i : Int) = l[i] := by simp [rd_T106, List.getD_eq_getElem?_getD, h]
theorem rdI (l : List Int) (i : Nat) (h : i < l.length) : rd l (i : Int) = l[i] := by simp [rd, List.getD_eq_getElem?_getD, h]
def badC (a c0 c1 c2 : Int) : Bool := decide (c0 < 0) || decide (c1 < 0) || decide (c2 < 0) || decide (c2 > 10000) || decide (a > 1125899906842624) || decide (c0 > a) || decide (c1 > wrap64 (a - c0))
theorem of_f (k : Nat) (a c0 c1 c2 c3 : Int) (l : List S106) : part_Of.f k a c0 c1 c2 c3 l = part_Of.j0 k a l (badC a c0 c1 c2) c0 c1 c2 c3 := by
  unfold part_Of.f badC
  by_cases h1 : c0 < 0
  · simp [h1]
  by_cases h2 : c1 < 0
  · simp [h1, h2]
  by_cases h3 : c2 < 0
  · simp [h1, h2, h3]
  by_cases h4 : c2 > 10000
  · simp [h1, h2, h3, h4]
  by_cases h5 : a > 1125899906842624
  · simp [h1, h2, h3, h4, h5]
  by_cases h6 : c0 > a
  · simp [h1, h2, h3, h4, h5, h6]
  · simp [h1, h2, h3, h4, h5, h6]
theorem parts_f (k : Nat) (a c0 c1 c2 c3 : Int) (l : List S106) : soukref11_Parts.f k a c0 c1 c2 c3 l = soukref11_Parts.j0 k a l (decide (l.length = 0) || decide (8 < l.length) || badC a c0 c1 c2) c0 c1 c2 c3 := by
  unfold soukref11_Parts.f badC
  by_cases e0 : l.length = 0
  · rw [if_pos (by omega)]; simp [e0]
  rw [if_neg (by omega)]
  by_cases e1 : 8 < l.length
  · rw [if_pos (by omega)]; simp [e1]
  rw [if_neg (by omega), decide_eq_false e0, decide_eq_false e1]
  by_cases h1 : c0 < 0
  · simp [h1]
  by_cases h2 : c1 < 0
  · simp [h1, h2]
  by_cases h3 : c2 < 0
  · simp [h1, h2, h3]
  by_cases h4 : c2 > 10000
  · simp [h1, h2, h3, h4]
  by_cases h5 : a > 1125899906842624
  · simp [h1, h2, h3, h4, h5]
  by_cases h6 : c0 > a
  · simp [h1, h2, h3, h4, h5, h6]
  · simp [h1, h2, h3, h4, h5, h6]
def wts (l : List S106) : List Int := l.map (·.f1)
def hv (hold n : Int) : Int := (mdF n hold 10000 0).1
def p68 (hold : Int) (x : S106) (n : Int) : S68 := ⟨x.f0, n, hv hold n⟩
def p69 (hold : Int) (x : S106) (n : Int) : S69 := ⟨x.f0, n, hv hold n⟩
theorem res_fst (a b : Int) (c : Nat) (m : Int) : (resF (mdF a b c m)).1 = (mdF a b c m).1 := by
  unfold resF
  split
  · rfl
  · rename_i h
    unfold mdF valF at h ⊢
    split at h
    · split at h
      · simp at h
      · rename_i h1 h2; rw [if_pos h1, if_neg h2]
    · split at h
      · simp at h
      · rename_i h1 h2; rw [if_neg h1, if_neg h2]
theorem of_l1 (hold c0 c1 c3 : Int) (ns : List Int) (l : List S106) (hl : l.length ≤ 20) (hn : ns.length = l.length) (hns : ∀ n ∈ ns, inR n) (hh : inR hold) : ∀ (d i : Nat), l.length - i = d → i ≤ l.length →
    EvT (fun k => part_Of.l1 k ns ((List.zipWith (p68 hold) l ns).take i) l (l.length : Int) i c0 c1 hold c3) (List.zipWith (p68 hold) l ns, 0)
  | 0, i, hd, hi => EvT.done fun k => by
    simp only [part_Of.l1]
    rw [if_neg (by omega), List.take_of_length_le (by simp; omega)]
  | d + 1, i, hd, hi => by
    have hlt : i < l.length := by omega
    have ih := of_l1 hold c0 c1 c3 ns l hl hn hns hh d (i + 1) (by omega) (by omega)
    have hx : inR ns[i] := hns _ (List.getElem_mem _)
    have hm := pmd_ok ns[i] hold 10000 0 hx hh ⟨by decide, by decide⟩ (by decide) (.inl rfl)
    have hz : i < (List.zipWith (p68 hold) l ns).length := by simp; omega
    have hlen : ((List.zipWith (p68 hold) l ns).take i).length < 4398046511104 := by simp; omega
    rw [List.take_succ_eq_append_getElem hz, List.getElem_zipWith] at ih
    refine EvT.step (fun k => ?_) (EvT.bind (F := fun k bt => if ((List.zipWith (p68 hold) l ns).take i).length < 4398046511104 then part_Of.l1 k ns ((List.zipWith (p68 hold) l ns).take i ++ [⟨l[i].f0, ns[i], bt.1⟩]) l (l.length : Int) ((i + 1 : Nat) : Int) c0 c1 hold c3 else none) hm (EvT.congr (fun k => if_pos hlen) ?_))
    · simp only [part_Of.l1]
      rw [if_pos (by omega), if_pos (by omega), if_pos (by omega), if_pos (by omega), rdI _ _ (by omega), rd106 _ _ hlt, nx i (by omega)]
    · simp only [res_fst]
      exact ih
theorem parts_l2 (hold c0 c1 c3 : Int) (ns : List Int) (l : List S106) (hl : l.length ≤ 20) (hn : ns.length = l.length) (hns : ∀ n ∈ ns, inR n) (hh : inR hold) : ∀ (d i : Nat), l.length - i = d → i ≤ l.length →
    EvT (fun k => soukref11_Parts.l2 k l ns ((List.zipWith (p69 hold) l ns).take i) i c0 c1 hold c3) (List.zipWith (p69 hold) l ns, 0)
  | 0, i, hd, hi => EvT.done fun k => by
    simp only [soukref11_Parts.l2]
    rw [if_neg (by omega), List.take_of_length_le (by simp; omega)]
  | d + 1, i, hd, hi => by
    have hlt : i < l.length := by omega
    have ih := parts_l2 hold c0 c1 c3 ns l hl hn hns hh d (i + 1) (by omega) (by omega)
    have hx : inR ns[i] := hns _ (List.getElem_mem _)
    have hm := rmd_ok ns[i] hold 10000 0 hx hh ⟨by decide, by decide⟩ (by decide) (.inl rfl)
    have hz : i < (List.zipWith (p69 hold) l ns).length := by simp; omega
    have hlen : ((List.zipWith (p69 hold) l ns).take i).length < 4398046511104 := by simp; omega
    rw [List.take_succ_eq_append_getElem hz, List.getElem_zipWith] at ih
    refine EvT.step (fun k => ?_) (EvT.bind (F := fun k bt => if ((List.zipWith (p69 hold) l ns).take i).length < 4398046511104 then soukref11_Parts.l2 k l ns ((List.zipWith (p69 hold) l ns).take i ++ [⟨l[i].f0, ns[i], bt.1⟩]) ((i + 1 : Nat) : Int) c0 c1 hold c3 else none) hm (EvT.congr (fun k => if_pos hlen) ?_))
    · simp only [soukref11_Parts.l2]
      rw [if_pos (by omega), if_pos (by omega), if_pos (by omega), rdI _ _ (by omega), rd106 _ _ hlt, nx i (by omega)]
    · exact ih
theorem of_l0 (a c0 c1 c2 c3 : Int) (l : List S106) (hl : l.length ≤ 20) {v : List S68 × Int}
    (hfin : EvT (fun k => (money_Split.f (wrap64 (wrap64 (a - c0) - c1)) (wts l)).bind fun bt497 => if bt497.2 = 0 then part_Of.l1 k bt497.1 ([] : List S68) l (l.length : Int) 0 c0 c1 c2 c3 else some (([] : List S68), bt497.2)) v) : ∀ (d i : Nat), l.length - i = d → i ≤ l.length →
    EvT (fun k => part_Of.l0 k a l ((wts l).take i) l (l.length : Int) i c0 c1 c2 c3) v
  | 0, i, hd, hi => EvT.step (fun k => by
      simp only [part_Of.l0]
      rw [if_neg (by omega), List.take_of_length_le (by simp [wts]; omega)]) hfin
  | d + 1, i, hd, hi => by
    have hlt : i < l.length := by omega
    have ih := of_l0 a c0 c1 c2 c3 l hl hfin d (i + 1) (by omega) (by omega)
    have hz : i < (wts l).length := by simp [wts]; omega
    have hlen : ((wts l).take i).length < 17592186044416 := by simp [wts]; omega
    rw [List.take_succ_eq_append_getElem hz] at ih
    refine EvT.step (fun k => ?_) ih
    simp only [part_Of.l0]
    rw [if_pos (by omega), if_pos (by omega), if_pos (by omega), if_pos hlen, rd106 _ _ hlt, nx i (by omega)]
    simp [wts]
theorem parts_l1 (a c0 c1 c2 c3 : Int) (l : List S106) (hl : l.length ≤ 20) (i : Nat) (hi : i < l.length) {v : List S69 × Int}
    (hdup : l[i].f0 ∈ (l.take i).map (·.f0) → v = ([], 9))
    (hgo : ¬ l[i].f0 ∈ (l.take i).map (·.f0) → EvT (fun k => soukref11_Parts.l0 k a l ((wts l).take (i + 1)) ((i + 1 : Nat) : Int) c0 c1 c2 c3) v) : ∀ (d j : Nat), i - j = d → j ≤ i → ¬ l[i].f0 ∈ (l.take j).map (·.f0) →
    EvT (fun k => soukref11_Parts.l1 k a l ((wts l).take i) i j c0 c1 c2 c3) v
  | 0, j, hd, hj, hno => by
    obtain rfl : j = i := by omega
    have hz : j < (wts l).length := by simp [wts]; omega
    have hlen : ((wts l).take j).length < 17592186044416 := by simp [wts]; omega
    have h := hgo hno
    rw [List.take_succ_eq_append_getElem hz] at h
    refine EvT.step (fun k => ?_) h
    simp only [soukref11_Parts.l1]
    rw [if_neg (by omega), if_pos (by omega), if_pos (by omega), if_pos hlen, rd106 _ _ hi, nx j (by omega)]
    simp [wts]
  | d + 1, j, hd, hj, hno => by
    have hjl : j < l.length := by omega
    by_cases he : l[j].f0 = l[i].f0
    · have hm : l[i].f0 ∈ (l.take i).map (·.f0) := List.mem_map.2 ⟨l[j], List.mem_take_iff_getElem.2 ⟨j, by omega, rfl⟩, he⟩
      rw [hdup hm]
      refine EvT.done fun k => ?_
      simp only [soukref11_Parts.l1]
      rw [if_pos (by omega), if_pos (by omega), if_pos (by omega), if_pos (by omega), if_pos (by omega), rd106 _ _ hi, rd106 _ _ hjl, if_pos ((bl_iff _ _).2 he)]
    · have ih := parts_l1 a c0 c1 c2 c3 l hl i hi hdup hgo d (j + 1) (by omega) (by omega) (by
        rw [List.take_succ_eq_append_getElem hjl, List.map_append, List.mem_append]
        rintro (h | h)
        · exact hno h
        · simp at h; exact he h.symm)
      refine EvT.step (fun k => ?_) ih
      simp only [soukref11_Parts.l1]
      rw [if_pos (by omega), if_pos (by omega), if_pos (by omega), if_pos (by omega), if_pos (by omega), rd106 _ _ hi, rd106 _ _ hjl, if_neg (fun h => he ((bl_iff _ _).1 h)), nx j (by omega)]
theorem parts_l0 (a c0 c1 c2 c3 : Int) (l : List S106) (hl : l.length ≤ 20) {v : List S69 × Int}
    (hfin : rightL [] l = 0 → EvT (fun k => (soukref01_Split.f (wrap64 (wrap64 (a - c0) - c1)) (wts l)).bind fun bt534 => soukref11_Parts.l2 k l bt534.1 ([] : List S69) 0 c0 c1 c2 c3) v)
    (hbad : ¬ rightL [] l = 0 → v = ([], rightL [] l)) : ∀ (d i : Nat), l.length - i = d → i ≤ l.length → rightL [] l = rightL ((l.take i).map (·.f0)) (l.drop i) →
    EvT (fun k => soukref11_Parts.l0 k a l ((wts l).take i) i c0 c1 c2 c3) v
  | 0, i, hd, hi, hr => by
    rw [List.drop_of_length_le (by omega)] at hr
    refine EvT.step (fun k => ?_) (hfin hr)
    simp only [soukref11_Parts.l0]
    rw [if_neg (by omega), List.take_of_length_le (by simp [wts]; omega)]
  | d + 1, i, hd, hi, hr => by
    have hlt : i < l.length := by omega
    rw [List.drop_eq_getElem_cons hlt, rightL] at hr
    have hj : EvT (fun k => soukref11_Parts.j2 k a l ((wts l).take i) i (badS l[i]) c0 c1 c2 c3) v := by
      by_cases hb : badS l[i] = true
      · rw [if_pos hb] at hr
        rw [hbad (by rw [hr]; decide), hr, hb]
        exact EvT.done fun k => by simp only [soukref11_Parts.j2]; rw [if_pos trivial]
      · rw [if_neg hb] at hr
        rw [eq_false_of_ne_true hb]
        refine EvT.step (fun k => by simp only [soukref11_Parts.j2]; rw [if_neg (by decide)]; rfl) (parts_l1 a c0 c1 c2 c3 l hl i hlt (fun h => ?_) (fun h => ?_) i 0 (by omega) (by omega) (by simp))
        · rw [if_pos h] at hr; rw [hbad (by rw [hr]; decide), hr]
        · rw [if_neg h] at hr
          exact parts_l0 a c0 c1 c2 c3 l hl hfin hbad d (i + 1) (by omega) (by omega) (by rw [hr, List.take_succ_eq_append_getElem hlt, List.map_append]; rfl)
    refine EvT.step (fun k => ?_) hj
    simp only [soukref11_Parts.l0]
    rw [if_pos (by omega), if_pos (by omega), rd106 _ _ hlt]
    unfold badS
    by_cases h1 : l[i].f0.toList = []
    · rw [if_pos h1]; simp [h1]
    rw [if_neg h1]
    by_cases h2 : (l[i].f0.size : Int) > 20
    · rw [if_pos h2]
      have : 20 < l[i].f0.size := by omega
      simp [h1, this]
    rw [if_neg h2]
    have h2' : ¬ 20 < l[i].f0.size := by omega
    by_cases h3 : l[i].f1 < 1
    · rw [if_pos h3]; simp [h1, h2', h3]
    rw [if_neg h3]; simp [h1, h2', h3]
end Go.Proofs.Ytncnhhnbjmpomaa.Q
