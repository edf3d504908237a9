/- What the statement leans on, part 2: functions of the program and of the reference as Lean functions, their contracts, and plain laws. -/
import Derived.Laws.StructEq
import Derived.Test.YtncnhhnbjmpomaaMCR1
namespace Go.Proofs.Ytncnhhnbjmpomaa.Q
open Go.RowKit Go.Proofs.YtncnhhnbjmpomaaW.PrintWords Go.Proofs.YtncnhhnbjmpomaaW.PrintLast Go.Proofs.YtncnhhnbjmpomaaW.PrintMore
attribute [local go_sem] max2_int min2_int max_two min_two max_three min_three max_four min_four   -- for this text's walks alone
set_option linter.unusedVariables false
set_option linter.unusedSimpArgs false
def claw_Take.j0 : Nat → List Int → Int → Bool → Option (List Int × Int)
 | 0, _, _, _ => none
 | k + 1, x0, x1, x13 => if x13 = true then (some (([] : List Int), 1)) else ((money_Add.f k x0).bind fun bt425 => (if bt425.2 = 0 then (if x1 > bt425.1 then (some (([] : List Int), 10)) else ((money_Split.f x1 x0).bind fun bt427 => (some (bt427.1, bt427.2)))) else (some (([] : List Int), bt425.2))))
def claw_Take.f (k : Nat) (l0 : List Int) (a1 : Int) : Option (List Int × Int) := if a1 ≤ 0 then (claw_Take.j0 k l0 a1 true) else ((slices_ContainsFunc_int64_int64.f l0 54).bind fun t424 => (claw_Take.j0 k l0 a1 t424))
set_option maxHeartbeats 8000000 in
set_option maxRecDepth 100000 in
theorem claw_Take.calls (k : Nat) (A0 : Option Addr) (c0 : Nat) (l0 : List Int) (a1 : Int) (r1 : List Int) (r2 : Int) (w : World) (hr0 : Kd.C (Kd.int .i64) w A0 l0.length l0) (hc0 : l0.length ≤ c0) (h : claw_Take.f k l0 a1 = some (r1, r2)) :
  Calls Try.prog 25 #[.slice A0 l0.length c0, .int .i64 a1] w fun e w' => ∃ v0_ : Value, e = .returned (.tuple #[v0_, .int .i64 r2]) ∧ Kd.R (Kd.int .i64) 2 w' w.heap.size (fun _ => True) v0_ r1 ∧ Below w.heap.size w w' := by
 have HR0 := Aside0.mk hr0
 have HC0 := Aside0.mk hc0
 clear hr0 hc0
 have HB := Aside0.mk (Below.refl w.heap.size w)
 have H : (if a1 ≤ 0 then (claw_Take.j0 k l0 a1 true) else ((slices_ContainsFunc_int64_int64.f l0 54).bind fun t424 => (claw_Take.j0 k l0 a1 t424))) = some (r1, r2) := h
 clear h
 have HC3 := Aside0.mk H
 clear H
 go_enter Try.func25, Try.ntmps25
 go_upto_region 1 with (fail)
 go_cut [13] (fun v13 wc => ∃ (kq : Nat) (x13_2 : Bool), v13 = .bool x13_2 ∧ Aside0 (claw_Take.j0 kq l0 a1 x13_2 = some (r1, r2)) ∧ Aside0 (kq ≤ k) ∧ Aside0 (Below w.heap.size w wc))
 case first =>
  have H := HC3.out
  clear HC3
  by_cases c4 : a1 ≤ 0
  ·rw [if_pos c4] at H
   have c4b0 : decide (a1 ≤ 0) = true := decide_eq_true c4
   clear c4
   (first | rw [c4b0] | (simp only [i64_w, i32_w]; rw [c4b0]) | skip)
   have H' := Aside0.mk H
   clear H
   go_wp2
   go_meet
   case rel => exact ⟨_, (true), (by first | rfl | (simp; done) | (simp [*]; done)), H', ⟨by first | omega | exact Nat.le_refl _⟩, ⟨by repeat (first | (with_reducible first | exact HB.out | apply below_alloc | apply pw_below_drewN | apply below_drew1) | exact HB.out)⟩⟩
  ·rw [if_neg c4] at H
   have c4b0 : decide (a1 ≤ 0) = false := decide_eq_false c4
   clear c4
   (first | rw [c4b0] | (simp only [i64_w, i32_w]; rw [c4b0]) | skip)
   replace H := Option.bind_eq_some_iff.mp H
   obtain ⟨t424, A50, H⟩ := H
   replace H : (claw_Take.j0 k l0 a1 t424) = some (r1, r2) := H
   have A5 := Aside0.mk A50
   clear A50
   have H' := Aside0.mk H
   clear H
   go_wp2_with (first | (go_at_call 28; (with_reducible refine (slices_ContainsFunc_int64_int64.calls _ _ l0 54 t424 _ ?side1 ?side2 A5.out).mono ?_); (case side1 => repeat (first | exact (Kd.C_below HR0.out HB.out) | (with_reducible refine Kd.C_alloc ?_ _) | (with_reducible refine Kd.C_drewN ?_ _) | (with_reducible refine Kd.C_drew ?_))); (case side2 => exact HC0.out); rintro e w' ⟨rfl, ⟨nd, rfl⟩⟩))
   go_meet
   case rel => exact ⟨_, (t424), (by first | rfl | (simp; done) | (simp [*]; done)), H', ⟨by first | omega | exact Nat.le_refl _⟩, ⟨by repeat (first | (with_reducible first | exact HB.out | apply below_alloc | apply pw_below_drewN | apply below_drew1) | exact HB.out)⟩⟩
 case rest =>
  clear HC3
  try clear c2
  try clear p2
  try clear c4
  try clear c4b0
  obtain ⟨kq, x13_2, rfl, HA, HJ2, HB⟩ := hcut
  cases kq with
  | zero => exact absurd HA.out (by simp [claw_Take.j0])
  | succ kj2 =>
   have H := HA.out
   clear HA
   simp only [claw_Take.j0] at H
   by_cases c6 : x13_2 = true
   ·subst c6
    have H1 : (some (([] : List Int), 1)) = some (r1, r2) := by rw [if_pos rfl] at H; exact H
    clear H
    have H := H1
    clear H1
    simp only [Option.some.injEq, Prod.mk.injEq] at H
    obtain ⟨rfl, rfl⟩ := H
    go_wp2
    go_ret2
    exact ⟨_, by first | rfl | (simp [errW_none, errW_some] <;> rfl) | (simp [*, errW_none, errW_some] <;> rfl), by first | exact Kd.R_nil _ _ _ _ _ | exact Kd.N_nil _ _ _ _ _ | exact Kd.V_nil _ _ _ _ _ | exact Kd.Q_nil _ _ _ _ _ | exact Kd.S_nil _ _ _ _ _, by repeat (first | (with_reducible first | exact HB.out | apply below_alloc | apply pw_below_drewN | apply below_drew1) | exact HB.out)⟩
   ·replace c6 := Bool.eq_false_iff.mpr c6
    subst c6
    have H1 : ((money_Add.f kj2 l0).bind fun bt425 => (if bt425.2 = 0 then (if a1 > bt425.1 then (some (([] : List Int), 10)) else ((money_Split.f a1 l0).bind fun bt427 => (some (bt427.1, bt427.2)))) else (some (([] : List Int), bt425.2)))) = some (r1, r2) := by rw [if_neg (show ¬ (false = true) by decide)] at H; exact H
    clear H
    have H := H1
    clear H1
    replace H := Option.bind_eq_some_iff.mp H
    obtain ⟨⟨t425, t426⟩, A70, H⟩ := H
    replace H : (if t426 = 0 then (if a1 > t425 then (some (([] : List Int), 10)) else ((money_Split.f a1 l0).bind fun bt427 => (some (bt427.1, bt427.2)))) else (some (([] : List Int), t426))) = some (r1, r2) := H
    have A7 := Aside0.mk A70
    clear A70
    by_cases c8 : t426 = 0
    ·rw [if_pos c8] at H
     have c8b0 : (t426 == 0) = true := beq_iff_eq.mpr c8
     have c8b1 : (t426 != 0) = false := bne_eq_false_iff_eq.mpr c8
     clear c8
     by_cases c9 : a1 > t425
     ·rw [if_pos c9] at H
      have c9b0 : decide (t425 < a1) = true := decide_eq_true c9
      clear c9
      simp only [Option.some.injEq, Prod.mk.injEq] at H
      obtain ⟨rfl, rfl⟩ := H
      go_wp2_with (first | ((with_reducible refine gate_callee (f := 13) rfl ?_); refine goesL_ (some 16) rfl rfl Try.func13 (by kernel_rfl) rfl #[.slice A0 l0.length c0] rfl (by (try simp only [List.map_toArray, List.map_cons, List.map_nil]); first | done | rfl | (simp only [List.length_drop, List.length_take]; rfl)) ?_; (with_reducible refine (money_Add.calls kj2 _ _ l0 t425 t426 _ ?side1 ?side2 A7.out).mono ?_); (case side1 => repeat (first | exact (Kd.C_below HR0.out HB.out) | (with_reducible refine Kd.C_alloc ?_ _) | (with_reducible refine Kd.C_drewN ?_ _) | (with_reducible refine Kd.C_drew ?_))); (case side2 => exact HC0.out); rintro e w' ⟨rfl, ⟨nd, rfl⟩⟩; refine ⟨_, rfl, ?_⟩))
      go_ret2
      exact ⟨_, by first | rfl | (simp [errW_none, errW_some] <;> rfl) | (simp [*, errW_none, errW_some] <;> rfl), by first | exact Kd.R_nil _ _ _ _ _ | exact Kd.N_nil _ _ _ _ _ | exact Kd.V_nil _ _ _ _ _ | exact Kd.Q_nil _ _ _ _ _ | exact Kd.S_nil _ _ _ _ _, by repeat (first | (with_reducible first | exact HB.out | apply below_alloc | apply pw_below_drewN | apply below_drew1) | exact HB.out)⟩
     ·rw [if_neg c9] at H
      have c9b0 : decide (t425 < a1) = false := decide_eq_false c9
      clear c9
      replace H := Option.bind_eq_some_iff.mp H
      obtain ⟨⟨t427, t428⟩, A100, H⟩ := H
      replace H : (some (t427, t428)) = some (r1, r2) := H
      have A10 := Aside0.mk A100
      clear A100
      simp only [Option.some.injEq, Prod.mk.injEq] at H
      obtain ⟨rfl, rfl⟩ := H
      go_wp2_with (first | ((with_reducible refine gate_callee (f := 13) rfl ?_); refine goesL_ (some 16) rfl rfl Try.func13 (by kernel_rfl) rfl #[.slice A0 l0.length c0] rfl (by (try simp only [List.map_toArray, List.map_cons, List.map_nil]); first | done | rfl | (simp only [List.length_drop, List.length_take]; rfl)) ?_; (with_reducible refine (money_Add.calls kj2 _ _ l0 t425 t426 _ ?side1 ?side2 A7.out).mono ?_); (case side1 => repeat (first | exact (Kd.C_below HR0.out HB.out) | (with_reducible refine Kd.C_alloc ?_ _) | (with_reducible refine Kd.C_drewN ?_ _) | (with_reducible refine Kd.C_drew ?_))); (case side2 => exact HC0.out); rintro e w' ⟨rfl, ⟨nd, rfl⟩⟩; refine ⟨_, rfl, ?_⟩) | ((with_reducible refine gate_callee (f := 20) rfl ?_); refine goesL_ (some 29) rfl rfl Try.func20 (by kernel_rfl) rfl #[.int .i64 a1, .slice A0 l0.length c0] rfl (by (try simp only [List.map_toArray, List.map_cons, List.map_nil]); first | done | rfl | (simp only [List.length_drop, List.length_take]; rfl)) ?_; (with_reducible refine (money_Split.calls a1 _ _ l0 t427 t428 _ ?side1 ?side2 A10.out).mono ?_); (case side1 => repeat (first | exact (Kd.C_below HR0.out (by repeat (first | (with_reducible first | exact HB.out | apply below_alloc | apply pw_below_drewN | apply below_drew1) | exact HB.out))) | (with_reducible refine Kd.C_alloc ?_ _) | (with_reducible refine Kd.C_drewN ?_ _) | (with_reducible refine Kd.C_drew ?_))); (case side2 => exact HC0.out); rintro e w11 ⟨v429, rfl, ho0, hb⟩; refine ⟨_, rfl, ?_⟩; have n0_ := Aside0.mk (Kd.R_lower ho0 (below_size (by repeat (first | (with_reducible first | exact HB.out | apply below_alloc | apply pw_below_drewN | apply below_drew1) | exact HB.out)))); have n1_ := Aside0.mk (below_step (by repeat (first | (with_reducible first | exact HB.out | apply below_alloc | apply pw_below_drewN | apply below_drew1) | exact HB.out)) hb); clear HB; have HO430 := n0_; have HB := n1_; clear n0_ n1_; (try clear hb); (try clear hb2); (try clear hk); (try clear hi); (try clear ho0)))
      go_ret2
      exact ⟨_, by first | rfl | (simp [errW_none, errW_some] <;> rfl) | (simp [*, errW_none, errW_some] <;> rfl), by (with_reducible repeat (first | apply Kd.R_alloc | apply Kd.R_drewN | apply Kd.R_drew)); exact HO430.out, by repeat (first | (with_reducible first | exact HB.out | apply below_alloc | apply pw_below_drewN | apply below_drew1) | exact HB.out)⟩
    ·rw [if_neg c8] at H
     have c8b0 : (t426 == 0) = false := beq_eq_false_iff_ne.mpr c8
     have c8b1 : (t426 != 0) = true := bne_iff_ne.mpr c8
     simp only [Option.some.injEq, Prod.mk.injEq] at H
     obtain ⟨rfl, rfl⟩ := H
     go_wp2_with (first | ((with_reducible refine gate_callee (f := 13) rfl ?_); refine goesL_ (some 16) rfl rfl Try.func13 (by kernel_rfl) rfl #[.slice A0 l0.length c0] rfl (by (try simp only [List.map_toArray, List.map_cons, List.map_nil]); first | done | rfl | (simp only [List.length_drop, List.length_take]; rfl)) ?_; (with_reducible refine (money_Add.calls kj2 _ _ l0 t425 t426 _ ?side1 ?side2 A7.out).mono ?_); (case side1 => repeat (first | exact (Kd.C_below HR0.out HB.out) | (with_reducible refine Kd.C_alloc ?_ _) | (with_reducible refine Kd.C_drewN ?_ _) | (with_reducible refine Kd.C_drew ?_))); (case side2 => exact HC0.out); rintro e w' ⟨rfl, ⟨nd, rfl⟩⟩; refine ⟨_, rfl, ?_⟩))
     go_ret2
     exact ⟨_, by first | rfl | (simp [errW_none, errW_some] <;> rfl) | (simp [*, errW_none, errW_some] <;> rfl), by first | exact Kd.R_nil _ _ _ _ _ | exact Kd.N_nil _ _ _ _ _ | exact Kd.V_nil _ _ _ _ _ | exact Kd.Q_nil _ _ _ _ _ | exact Kd.S_nil _ _ _ _ _, by repeat (first | (with_reducible first | exact HB.out | apply below_alloc | apply pw_below_drewN | apply below_drew1) | exact HB.out)⟩
end Go.Proofs.Ytncnhhnbjmpomaa.Q
namespace Go.Proofs.Ytncnhhnbjmpomaa.Q
open Go.RowKit Go.Proofs.YtncnhhnbjmpomaaW.PrintWords Go.Proofs.YtncnhhnbjmpomaaW.PrintLast Go.Proofs.YtncnhhnbjmpomaaW.PrintMore
attribute [local go_sem] max2_int min2_int max_two min_two max_three min_three max_four min_four   -- for this text's walks alone
set_option linter.unusedVariables false
set_option linter.unusedSimpArgs false
def soukref01_Add.j0 : Nat → Int → Int → Bool → Option (Int × Bool)
 | 0, _, _, _ => none
 | k + 1, x0, x1, x13 => if x13 = true then (some (0, false)) else (if x1 < 0 then (if x0 < (wrap64 ((-9223372036854775808) - x1)) then (some (0, false)) else (some (wrap64 (x0 + x1), true))) else (some (wrap64 (x0 + x1), true)))
def soukref01_Add.f (k : Nat) (a0 : Int) (a1 : Int) : Option (Int × Bool) := if a1 > 0 then (soukref01_Add.j0 k a0 a1 (decide (a0 > (wrap64 (9223372036854775807 - a1))))) else (soukref01_Add.j0 k a0 a1 false)
set_option maxHeartbeats 8000000 in
set_option maxRecDepth 100000 in
theorem soukref01_Add.calls (k : Nat) (a0 : Int) (a1 : Int) (r1 : Int) (r2 : Bool) (w : World) (h : soukref01_Add.f k a0 a1 = some (r1, r2)) :
  Calls Try.prog 37 #[.int .i64 a0, .int .i64 a1] w fun e w' => e = .returned (.tuple #[.int .i64 r1, .bool r2]) ∧ Drawn0 w w' := by
 have H : (if a1 > 0 then (soukref01_Add.j0 k a0 a1 (decide (a0 > (wrap64 (9223372036854775807 - a1))))) else (soukref01_Add.j0 k a0 a1 false)) = some (r1, r2) := h
 clear h
 have HC3 := Aside0.mk H
 clear H
 go_enter Try.func37, Try.ntmps37
 go_upto_region 1 with (fail)
 go_cut [13] (fun v13 wc => ∃ (kq : Nat) (x13_2 : Bool), v13 = .bool x13_2 ∧ Aside0 (soukref01_Add.j0 kq a0 a1 x13_2 = some (r1, r2)) ∧ Aside0 (kq ≤ k) ∧ Drawn0 w wc)
 case first =>
  have H := HC3.out
  clear HC3
  by_cases c4 : a1 > 0
  ·rw [if_pos c4] at H
   have c4b0 : decide (0 < a1) = true := decide_eq_true c4
   clear c4
   (first | rw [c4b0] | (simp only [i64_w, i32_w]; rw [c4b0]) | skip)
   have H' := Aside0.mk H
   clear H
   go_wp2
   go_meet
   case rel => exact ⟨_, (decide (a0 > (wrap64 (9223372036854775807 - a1)))), (by first | rfl | (simp; done) | (simp [*]; done)), H', ⟨by first | omega | exact Nat.le_refl _⟩, by repeat (first | exact Drawn0.refl _ | apply Drawn0.step)⟩
  ·rw [if_neg c4] at H
   have c4b0 : decide (0 < a1) = false := decide_eq_false c4
   clear c4
   (first | rw [c4b0] | (simp only [i64_w, i32_w]; rw [c4b0]) | skip)
   have H' := Aside0.mk H
   clear H
   go_wp2
   go_meet
   case rel => exact ⟨_, (false), (by first | rfl | (simp; done) | (simp [*]; done)), H', ⟨by first | omega | exact Nat.le_refl _⟩, by repeat (first | exact Drawn0.refl _ | apply Drawn0.step)⟩
 case rest =>
  clear HC3
  try clear p2
  try clear c3
  try clear c4
  try clear c4b0
  obtain ⟨kq, x13_2, rfl, HA, HJ2, ⟨mc2, rfl⟩⟩ := hcut
  cases kq with
  | zero => exact absurd HA.out (by simp [soukref01_Add.j0])
  | succ kj2 =>
   have H := HA.out
   clear HA
   simp only [soukref01_Add.j0] at H
   by_cases c5 : x13_2 = true
   ·subst c5
    have H1 : (some (0, false)) = some (r1, r2) := by rw [if_pos rfl] at H; exact H
    clear H
    have H := H1
    clear H1
    simp only [Option.some.injEq, Prod.mk.injEq] at H
    obtain ⟨rfl, rfl⟩ := H
    go_wp2
    go_ret2
    exact ⟨by first | rfl | (simp; done) | (simp [*]; done), by repeat (first | exact Drawn0.refl _ | apply Drawn0.step)⟩
   ·replace c5 := Bool.eq_false_iff.mpr c5
    subst c5
    have H1 : (if a1 < 0 then (if a0 < (wrap64 ((-9223372036854775808) - a1)) then (some (0, false)) else (some (wrap64 (a0 + a1), true))) else (some (wrap64 (a0 + a1), true))) = some (r1, r2) := by rw [if_neg (show ¬ (false = true) by decide)] at H; exact H
    clear H
    have H := H1
    clear H1
    by_cases c6 : a1 < 0
    ·rw [if_pos c6] at H
     have c6b0 : decide (a1 < 0) = true := decide_eq_true c6
     clear c6
     by_cases c7 : a0 < (wrap64 ((-9223372036854775808) - a1))
     ·rw [if_pos c7] at H
      have c7b0 : decide (a0 < (wrap64 ((-9223372036854775808) - a1))) = true := decide_eq_true c7
      clear c7
      simp only [Option.some.injEq, Prod.mk.injEq] at H
      obtain ⟨rfl, rfl⟩ := H
      go_wp2
      go_ret2
      exact ⟨by first | rfl | (simp; done) | (simp [*]; done), by repeat (first | exact Drawn0.refl _ | apply Drawn0.step)⟩
     ·rw [if_neg c7] at H
      have c7b0 : decide (a0 < (wrap64 ((-9223372036854775808) - a1))) = false := decide_eq_false c7
      clear c7
      simp only [Option.some.injEq, Prod.mk.injEq] at H
      obtain ⟨rfl, rfl⟩ := H
      go_wp2
      go_ret2
      exact ⟨by first | rfl | (simp; done) | (simp [*]; done), by repeat (first | exact Drawn0.refl _ | apply Drawn0.step)⟩
    ·rw [if_neg c6] at H
     have c6b0 : decide (a1 < 0) = false := decide_eq_false c6
     clear c6
     simp only [Option.some.injEq, Prod.mk.injEq] at H
     obtain ⟨rfl, rfl⟩ := H
     go_wp2
     go_ret2
     exact ⟨by first | rfl | (simp; done) | (simp [*]; done), by repeat (first | exact Drawn0.refl _ | apply Drawn0.step)⟩
end Go.Proofs.Ytncnhhnbjmpomaa.Q
namespace Go.Proofs.Ytncnhhnbjmpomaa.Q
open Go.RowKit Go.Proofs.YtncnhhnbjmpomaaW.PrintWords Go.Proofs.YtncnhhnbjmpomaaW.PrintLast Go.Proofs.YtncnhhnbjmpomaaW.PrintMore
attribute [local go_sem] max2_int min2_int max_two min_two max_three min_three max_four min_four   -- for this text's walks alone
set_option linter.unusedVariables false
set_option linter.unusedSimpArgs false
def soukref01_Sum.l0 : Nat → List Int → Int → Int → Option (Int × Bool)
 | 0, _, _, _ => none
 | k + 1, x0, x4, x5 => if x5 < (x0.length : Int) then (if 0 ≤ x5 then ((soukref01_Add.f k x4 (rd x0 x5)).bind fun bt129 => (if bt129.2 = true then (soukref01_Sum.l0 k x0 bt129.1 (wrap64 (x5 + 1))) else (some (0, false)))) else (none)) else (some (x4, true))
def soukref01_Sum.f (k : Nat) (l0 : List Int) : Option (Int × Bool) := soukref01_Sum.l0 k l0 0 0
set_option maxHeartbeats 8000000 in
set_option maxRecDepth 100000 in
theorem soukref01_Sum.calls (k : Nat) (A0 : Option Addr) (c0 : Nat) (l0 : List Int) (r1 : Int) (r2 : Bool) (w : World) (hr0 : Kd.C (Kd.int .i64) w A0 l0.length l0) (hc0 : l0.length ≤ c0) (h : soukref01_Sum.f k l0 = some (r1, r2)) :
  Calls Try.prog 14 #[.slice A0 l0.length c0] w fun e w' => e = .returned (.tuple #[.int .i64 r1, .bool r2]) ∧ Drawn0 w w' := by
 have HR0 := Aside0.mk hr0
 have HC0 := Aside0.mk hc0
 clear hr0 hc0
 have H : (soukref01_Sum.l0 k l0 0 0) = some (r1, r2) := h
 clear h
 have H' := Aside0.mk H
 clear H
 go_enter Try.func14, Try.ntmps14
 go_wp2
 go_loopg [4, 5] k (fun kq v4 v5 w' => ∃ (x4_1 : Int) (x5_1 : Int), v4 = .int .i64 x4_1 ∧ v5 = .int .i64 x5_1 ∧ Aside0 (soukref01_Sum.l0 kq l0 x4_1 x5_1 = some (r1, r2)) ∧ Aside0 (kq ≤ k) ∧ Drawn0 w w')
 case atStart => exact ⟨(0), (0), (by first | rfl | (simp; done) | (simp [*]; done)), (by first | rfl | (simp; done) | (simp [*]; done)), H', ⟨Nat.le_refl _⟩, by repeat (first | exact Drawn0.refl _ | apply Drawn0.step)⟩
 case round =>
  clear H'
  try clear c1
  obtain ⟨x4_1, x5_1, rfl, rfl, HA, HK1, ⟨m1, rfl⟩⟩ := hrel
  cases gk with
  | zero => exact absurd HA.out (by simp [soukref01_Sum.l0])
  | succ k1 =>
   have H := HA.out
   clear HA
   simp only [soukref01_Sum.l0] at H
   by_cases c2 : x5_1 < (l0.length : Int)
   ·rw [if_pos c2] at H
    have c2b0 : decide (x5_1 < (l0.length : Int)) = true := decide_eq_true c2
    clear c2
    by_cases c3 : 0 ≤ x5_1
    ·rw [if_pos c3] at H
     have c3b0 : decide (0 ≤ x5_1) = true := decide_eq_true c3
     clear c3
     replace H := Option.bind_eq_some_iff.mp H
     obtain ⟨⟨t129, t130⟩, A40, H⟩ := H
     replace H : (if t130 = true then (soukref01_Sum.l0 k1 l0 t129 (wrap64 (x5_1 + 1))) else (some (0, false))) = some (r1, r2) := H
     have A4 := Aside0.mk A40
     clear A40
     by_cases c5 : t130 = true
     ·subst c5
      have H1 : (soukref01_Sum.l0 k1 l0 t129 (wrap64 (x5_1 + 1))) = some (r1, r2) := by rw [if_pos rfl] at H; exact H
      clear H
      have H := H1
      clear H1
      have H' := Aside0.mk H
      clear H
      have p128 : 0 ≤ (x5_1 : Int) := of_decide_eq_true (by first | (with_reducible assumption) | assumption)
      have q128 : x5_1 < (l0.length : Int) := of_decide_eq_true (by first | (with_reducible assumption) | assumption)
      obtain ⟨ad128, e128, hx128_0⟩ := Kd.at_int HR0.out x5_1 p128 q128
      cases e128
      replace p128 := eq_true p128
      replace q128 := eq_true q128
      go_wp2_with (first | ((with_reducible refine gate_callee (f := 37) rfl ?_); refine goesL_ (some 20) rfl rfl Try.func37 (by kernel_rfl) rfl #[.int .i64 x4_1, .int .i64 (rd l0 x5_1)] rfl (by (try simp only [List.map_toArray, List.map_cons, List.map_nil]); first | done | rfl | (simp only [List.length_drop, List.length_take]; rfl)) ?_; (with_reducible refine (soukref01_Add.calls k1 x4_1 (rd l0 x5_1) t129 true _ A4.out).mono ?_); rintro e w' ⟨rfl, ⟨nd, rfl⟩⟩; refine ⟨_, rfl, ?_⟩))
      go_roundg k1
      case measure => have := HK1.out; omega
      case rel => exact ⟨(t129), (wrap64 (x5_1 + 1)), (by first | rfl | (simp; done) | (simp [*]; done)), (by first | rfl | (simp; done) | (simp [*]; done)), H', ⟨by have := HK1.out; omega⟩, by repeat (first | exact Drawn0.refl _ | apply Drawn0.step)⟩
     ·replace c5 := Bool.eq_false_iff.mpr c5
      subst c5
      have H1 : (some (0, false)) = some (r1, r2) := by rw [if_neg (show ¬ (false = true) by decide)] at H; exact H
      clear H
      have H := H1
      clear H1
      simp only [Option.some.injEq, Prod.mk.injEq] at H
      obtain ⟨rfl, rfl⟩ := H
      have p128 : 0 ≤ (x5_1 : Int) := of_decide_eq_true (by first | (with_reducible assumption) | assumption)
      have q128 : x5_1 < (l0.length : Int) := of_decide_eq_true (by first | (with_reducible assumption) | assumption)
      obtain ⟨ad128, e128, hx128_0⟩ := Kd.at_int HR0.out x5_1 p128 q128
      cases e128
      replace p128 := eq_true p128
      replace q128 := eq_true q128
      go_wp2_with (first | ((with_reducible refine gate_callee (f := 37) rfl ?_); refine goesL_ (some 20) rfl rfl Try.func37 (by kernel_rfl) rfl #[.int .i64 x4_1, .int .i64 (rd l0 x5_1)] rfl (by (try simp only [List.map_toArray, List.map_cons, List.map_nil]); first | done | rfl | (simp only [List.length_drop, List.length_take]; rfl)) ?_; (with_reducible refine (soukref01_Add.calls k1 x4_1 (rd l0 x5_1) t129 false _ A4.out).mono ?_); rintro e w' ⟨rfl, ⟨nd, rfl⟩⟩; refine ⟨_, rfl, ?_⟩))
      go_ret2
      exact ⟨by first | rfl | (simp; done) | (simp [*]; done), by repeat (first | exact Drawn0.refl _ | apply Drawn0.step)⟩
    ·rw [if_neg c3] at H
     exact absurd H (by simp)
   ·rw [if_neg c2] at H
    have c2b0 : decide (x5_1 < (l0.length : Int)) = false := decide_eq_false c2
    clear c2
    simp only [Option.some.injEq, Prod.mk.injEq] at H
    obtain ⟨rfl, rfl⟩ := H
    go_wp2
    go_ret2
    exact ⟨by first | rfl | (simp; done) | (simp [*]; done), by repeat (first | exact Drawn0.refl _ | apply Drawn0.step)⟩
end Go.Proofs.Ytncnhhnbjmpomaa.Q
namespace Go.Proofs.Ytncnhhnbjmpomaa
open Go.RowKit Go.Proofs.Ytncnhhnbjmpomaa.Q Go.Sort
set_option linter.unusedVariables false
set_option linter.unusedSimpArgs false
section
variable {α : Type} [Inhabited α] {lt lt' : α → α → Bool}
theorem insInner_size (a : Nat) : ∀ (j : Nat) (d : Array α), (insInner lt a j d).size = d.size
  | 0, d => rfl
  | j + 1, d => by
    unfold insInner
    split
    · rw [insInner_size a j, swp_size]
    · rfl
theorem insInner_congr (a : Nat) : ∀ (j : Nat) (d : Array α), j < d.size → (∀ q, q < j → lt d[j]! d[q]! = lt' d[j]! d[q]!) → insInner lt a j d = insInner lt' a j d
  | 0, d, _, _ => rfl
  | j + 1, d, hj, h => by
    unfold insInner
    rw [h j (by omega)]
    split
    · refine insInner_congr a j _ (by rw [swp_size]; omega) fun q hq => ?_
      have g := swp_get d hj (show j < d.size by omega)
      rw [g, g]
      simp only [if_true, show q ≠ j by omega, show q ≠ j + 1 by omega, show ¬ (j = j + 1) by omega, if_false]
      exact h q (by omega)
    · rfl
theorem insInner_all (a i : Nat) (P : α → Prop) : ∀ (j : Nat) (d : Array α), j ≤ i → i < d.size → (∀ q, q ≤ i → P d[q]!) → ∀ q, q ≤ i → P (insInner lt a j d)[q]!
  | 0, d, _, _, h => h
  | j + 1, d, hj, hi, h => by
    unfold insInner
    split
    · refine insInner_all a i P j _ (by omega) (by rw [swp_size]; exact hi) fun q hq => ?_
      have g := swp_get d (show j + 1 < d.size by omega) (show j < d.size by omega)
      rw [g]
      split
      · exact h _ (by omega)
      · split
        · exact h _ (by omega)
        · exact h q hq
    · exact h
theorem insInner_out (a : Nat) : ∀ (j : Nat) (d : Array α), j < d.size → ∀ q, j < q → (insInner lt a j d)[q]! = d[q]!
  | 0, d, _, q, _ => rfl
  | j + 1, d, hj, q, hq => by
    unfold insInner
    split
    · rw [insInner_out a j _ (by rw [swp_size]; omega) q (by omega)]
      have g := swp_get d hj (show j < d.size by omega)
      rw [g]
      simp only [show q ≠ j by omega, show q ≠ j + 1 by omega, if_false]
    · rfl
theorem insOuter_congr (a b : Nat) : ∀ (n i : Nat) (d : Array α), b - i = n → b ≤ d.size → (∀ p q, i ≤ p → q < p → p < b → lt d[p]! d[q]! = lt' d[p]! d[q]!) → insOuter lt a b i d = insOuter lt' a b i d
  | 0, i, d, hn, hb, h => by
    rw [insOuter, if_neg (by omega)]
    rw [insOuter, if_neg (by omega)]
  | n + 1, i, d, hn, hb, h => by
    have hlt : i < b := by omega
    rw [insOuter, if_pos hlt]
    conv => rhs; rw [insOuter, if_pos hlt]
    rw [← insInner_congr (lt := lt) (lt' := lt') a i d (by omega) (fun q hq => h i q (Nat.le_refl _) hq hlt)]
    refine insOuter_congr a b n (i + 1) _ (by omega) (by rw [insInner_size]; exact hb) fun p q hp hq hpb => ?_
    rw [insInner_out a i d (by omega) p (by omega)]
    by_cases hqi : q ≤ i
    · exact insInner_all a i (fun x => lt d[p]! x = lt' d[p]! x) i d (Nat.le_refl _) (by omega) (fun q hq => h p q (by omega) (by omega) hpb) q hqi
    · rw [insInner_out a i d (by omega) q (by omega)]
      exact h p q (by omega) hq hpb
end
def lx98 (x y : S98) : Bool := decide (y.f1 < x.f1) || (decide (x.f1 = y.f1) && decide (x.f0 < y.f0))
theorem swoLx : SWO lx98 := ⟨fun x => by simp [lx98], fun x y z h1 h2 => by simp [lx98] at *; omega, fun x y z h1 h2 => by simp [lx98] at *; omega⟩
theorem srt_lx (d : Array S98) (h : ∀ p q, q < p → p < d.size → (d[q]!).f0 < (d[p]!).f0) : srt d = insertionSort lx98 d 0 d.size := by
  unfold srt insertionSort
  refine insOuter_congr 0 d.size _ _ d rfl (Nat.le_refl _) fun p q _ hq hp => ?_
  have := h p q hq hp
  rw [lt98]; unfold lx98
  have e : decide ((d[p]!).f0 < (d[q]!).f0) = false := by simp; omega
  rw [e]; simp
def SortedD (l : List S98) : Prop := l.Pairwise fun x y => y.f1 < x.f1 ∨ (x.f1 = y.f1 ∧ x.f0 < y.f0)
theorem srt_sorted (d : Array S98) (h : ∀ p q, q < p → p < d.size → (d[q]!).f0 < (d[p]!).f0) : SortedD (srt d).toList := by
  have hs := (insertionSort_holds (lt := lx98) swoLx d 0 d.size (Nat.zero_le _) (Nat.le_refl _)).2
  rw [← srt_lx d h] at hs
  have hp := srt_perm d
  have hnd : ((srt d).toList.map fun r => r.f0).Nodup := by
    rw [(hp.1.map _).nodup_iff]
    rw [List.Nodup, List.pairwise_map, List.pairwise_iff_getElem]
    intro i j hi hj hij
    have := h j i hij (by simpa using hj)
    rw [getElem!_pos d i (by simpa using hi), getElem!_pos d j (by simpa using hj)] at this
    simp only [Array.getElem_toList]
    omega
  unfold SortedD
  rw [List.Nodup, List.pairwise_map] at hnd
  rw [List.pairwise_iff_getElem] at hnd ⊢
  intro i j hi hj hij
  have h1 := hnd i j hi hj hij
  have h2 := hs i j (Nat.zero_le _) hij (by rw [← hp.2]; simpa using hj)
  rw [getElem!_pos _ i (by simpa using hi), getElem!_pos _ j (by simpa using hj)] at h2
  simp only [Array.getElem_toList] at h1 ⊢
  generalize (srt d)[i] = x at *
  generalize (srt d)[j] = y at *
  simp [lx98] at h2
  omega
end Go.Proofs.Ytncnhhnbjmpomaa
namespace Go.Proofs.Ytncnhhnbjmpomaa
open Go.RowKit Go.Proofs.Ytncnhhnbjmpomaa.Q Go.Sort
set_option linter.unusedVariables false
set_option linter.unusedSimpArgs false
theorem restsF_get (t all : Int) : ∀ (l : List Int) (i k : Nat) (h : k < (restsF t all i l).length), (restsF t all i l)[k] = ⟨((i + k : Nat) : Int), t * l.getD k 0 % all⟩
  | [], i, k, h => by simp [restsF] at h
  | w :: l, i, 0, h => by simp [restsF]
  | w :: l, i, k + 1, h => by
    have := restsF_get t all l (i + 1) k (by simpa [restsF] using h)
    simp only [restsF, List.getElem_cons_succ, this, List.getD_cons_succ]
    congr 2; omega
theorem perm_sum {l m : List Int} (h : l.Perm m) : l.sum = m.sum := by
  induction h with
  | nil => rfl
  | cons x _ ih => simp [ih]
  | swap x y l => simp; omega
  | trans _ _ ih1 ih2 => exact ih1.trans ih2
def ordF (t : Int) (ws : List Int) : List S98 := (srt (restsF t ws.sum 0 ws).toArray).toList
def rvF (t : Int) (ws : List Int) (i : Nat) : Int := t * ws.getD i 0 % ws.sum
theorem ord_perm (t : Int) (ws : List Int) : (ordF t ws).Perm (restsF t ws.sum 0 ws) := (srt_perm _).1
theorem ord_len (t : Int) (ws : List Int) : (ordF t ws).length = ws.length := by rw [(ord_perm t ws).length_eq, restsF_len]
theorem ord_sorted (t : Int) (ws : List Int) : SortedD (ordF t ws) := by
  refine srt_sorted _ fun p q hq hp => ?_
  have hp' : p < (restsF t ws.sum 0 ws).length := by simpa using hp
  rw [getElem!_pos _ p hp, getElem!_pos _ q (by omega)]
  simp only [List.getElem_toArray]
  rw [restsF_get, restsF_get]
  simp; omega
theorem ord_mem (t : Int) (ws : List Int) (r : S98) (h : r ∈ ordF t ws) : ∃ i : Nat, i < ws.length ∧ r = ⟨(i : Int), rvF t ws i⟩ := by
  have h1 := (ord_perm t ws).mem_iff.1 h
  obtain ⟨k, hk, he⟩ := List.getElem_of_mem h1
  rw [restsF_get] at he
  refine ⟨k, by rwa [restsF_len] at hk, ?_⟩
  rw [← he]; unfold rvF; simp
theorem mem_ord (t : Int) (ws : List Int) (i : Nat) (h : i < ws.length) : (⟨(i : Int), rvF t ws i⟩ : S98) ∈ ordF t ws := by
  refine (ord_perm t ws).mem_iff.2 ?_
  have hk : i < (restsF t ws.sum 0 ws).length := by rw [restsF_len]; exact h
  have := List.getElem_mem hk
  rw [restsF_get] at this
  unfold rvF; simpa using this
theorem sum_le_of : ∀ (l : List S98) (c : Int), (∀ r ∈ l, r.f1 ≤ c) → (l.map fun r => r.f1).sum ≤ l.length * c
  | [], c, _ => by simp
  | r :: l, c, h => by
    have h1 := sum_le_of l c (fun x hx => h x (by simp [hx]))
    have h2 := h r (by simp)
    have e : (((r :: l).length : Nat) : Int) * c = (l.length : Int) * c + c := by rw [List.length_cons, Int.natCast_add, Int.add_mul]; simp
    rw [e]; simp; omega
theorem ord_pos (t : Int) (ws : List Int) (ht : 0 ≤ t) (hw : ∀ x ∈ ws, 0 ≤ x) (ha : 0 < ws.sum) (j : Nat) (hj : (j : Int) < leftF t ws.sum ws) (hjl : j < (ordF t ws).length) : 0 < ((ordF t ws)[j]).f1 := by
  have hS := quos_sum t ws.sum ha ws
  have hp := perm_sum ((ord_perm t ws).map fun r => r.f1)
  have hall : ∀ r ∈ ordF t ws, 0 ≤ r.f1 ∧ r.f1 ≤ ws.sum - 1 := by
    intro r hr
    obtain ⟨i, _, rfl⟩ := ord_mem t ws r hr
    have h1 := Int.emod_nonneg (t * ws.getD i 0) (b := ws.sum) (by omega)
    have h2 := Int.emod_lt_of_pos (t * ws.getD i 0) ha
    unfold rvF; simp only []; omega
  apply Classical.byContradiction
  intro hn
  have hs := ord_sorted t ws
  have hsp : ordF t ws = (ordF t ws).take j ++ (ordF t ws).drop j := (List.take_append_drop j _).symm
  have h1 := sum_le_of ((ordF t ws).take j) (ws.sum - 1) (fun r hr => (hall r (List.mem_of_mem_take hr)).2)
  have h2 := sum_le_of ((ordF t ws).drop j) 0 (fun r hr => by
    obtain ⟨k, hk, he⟩ := List.getElem_of_mem hr
    rw [List.getElem_drop] at he
    by_cases hk0 : k = 0
    · subst hk0; rw [← he]; simp only [Nat.add_zero]; omega
    · have h3 := List.pairwise_iff_getElem.1 hs j (j + k) hjl (by simp at hk; omega) (by omega)
      rw [he] at h3; omega)
  have h3 : ((ordF t ws).map fun r => r.f1).sum = (((ordF t ws).take j).map fun r => r.f1).sum + (((ordF t ws).drop j).map fun r => r.f1).sum := by
    conv => lhs; rw [hsp, List.map_append, List.sum_append]
  rw [List.length_take, Nat.min_eq_left (by omega)] at h1
  rw [Int.mul_zero] at h2
  unfold leftF at hj
  rw [← hp] at hS
  generalize (quosF t ws.sum ws).sum = S at *
  have e : ws.sum * (t - S) = ((ordF t ws).map fun r => r.f1).sum := by rw [Int.mul_sub, Int.mul_comm ws.sum t]; omega
  have h4 : ws.sum * ((j : Int) + 1) ≤ ws.sum * (t - S) := Int.mul_le_mul_of_nonneg_left (by omega) (by omega)
  have h5 : ws.sum * ((j : Int) + 1) = (j : Int) * (ws.sum - 1) + j + ws.sum := by rw [Int.mul_add, Int.mul_sub, Int.mul_comm ws.sum]; omega
  omega
def alive (t : Int) (ws : List Int) (j i : Nat) : Prop := ∀ r ∈ (ordF t ws).take j, r.f0 ≠ (i : Int)
theorem alive_drop (t : Int) (ws : List Int) (j i : Nat) (hi : i < ws.length) (h : alive t ws j i) : (⟨(i : Int), rvF t ws i⟩ : S98) ∈ (ordF t ws).drop j := by
  have hm := mem_ord t ws i hi
  rw [← List.take_append_drop j (ordF t ws)] at hm
  rcases List.mem_append.1 hm with h1 | h1
  · exact absurd rfl (h _ h1)
  · exact h1
theorem ord_f0 (t : Int) (ws : List Int) (j k : Nat) (hj : j < k) (hk : k < (ordF t ws).length) : ((ordF t ws)[j]).f0 ≠ ((ordF t ws)[k]).f0 := by
  have h := List.pairwise_iff_getElem.1 (ord_sorted t ws) j k (by omega) hk hj
  obtain ⟨a, _, ea⟩ := ord_mem t ws _ (List.getElem_mem (show j < (ordF t ws).length by omega))
  obtain ⟨b, _, eb⟩ := ord_mem t ws _ (List.getElem_mem hk)
  rw [ea, eb] at h ⊢
  simp only [] at h ⊢
  intro e
  obtain rfl : a = b := by omega
  omega
theorem pick_unique (t : Int) (ws : List Int) (ht : 0 ≤ t) (hw : ∀ x ∈ ws, 0 ≤ x) (ha : 0 < ws.sum) (j : Nat) (hj : (j : Int) < leftF t ws.sum ws) (hjl : j < (ordF t ws).length) (b : Nat) (hb : b < ws.length) (hab : alive t ws j b)
    (hmax : ∀ m, m < ws.length → alive t ws j m → rvF t ws m ≤ rvF t ws b) (hfst : ∀ m, m < b → alive t ws j m → rvF t ws m < rvF t ws b ∨ rvF t ws b = 0) : (ordF t ws)[j] = ⟨(b : Int), rvF t ws b⟩ := by
  have hpos := ord_pos t ws ht hw ha j hj hjl
  obtain ⟨p, hp, ep⟩ := ord_mem t ws _ (List.getElem_mem hjl)
  rw [ep] at hpos
  simp only [] at hpos
  have hap : alive t ws j p := by
    intro r hr he
    obtain ⟨k, hk, e⟩ := List.getElem_of_mem hr
    rw [List.getElem_take] at e
    simp at hk
    refine ord_f0 t ws k j (by omega) hjl ?_
    rw [e, ep, he]
  have h1 := hmax p hp hap
  have hd := alive_drop t ws j b hb hab
  obtain ⟨k, hk, e⟩ := List.getElem_of_mem hd
  rw [List.getElem_drop] at e
  by_cases hk0 : k = 0
  · subst hk0; simpa using e
  · have h2 := List.pairwise_iff_getElem.1 (ord_sorted t ws) j (j + k) hjl (by simp at hk; omega) (by omega)
    rw [e, ep] at h2
    simp only [] at h2
    rcases h2 with h2 | ⟨h2, h3⟩
    · omega
    · have := hfst p (by omega) hap
      omega
theorem alive_some (t : Int) (ws : List Int) (ht : 0 ≤ t) (hw : ∀ x ∈ ws, 0 ≤ x) (ha : 0 < ws.sum) (j : Nat) (hj : (j : Int) < leftF t ws.sum ws) (hjl : j < (ordF t ws).length) : ∃ p, p < ws.length ∧ alive t ws j p ∧ 0 < rvF t ws p := by
  have hpos := ord_pos t ws ht hw ha j hj hjl
  obtain ⟨p, hp, ep⟩ := ord_mem t ws _ (List.getElem_mem hjl)
  rw [ep] at hpos
  refine ⟨p, hp, ?_, hpos⟩
  intro r hr he
  obtain ⟨k, hk, e⟩ := List.getElem_of_mem hr
  rw [List.getElem_take] at e
  simp at hk
  refine ord_f0 t ws k j (by omega) hjl ?_
  rw [e, ep, he]
end Go.Proofs.Ytncnhhnbjmpomaa
namespace Go.Proofs.Ytncnhhnbjmpomaa.Q
open Go.RowKit
set_option linter.unusedVariables false
set_option linter.unusedSimpArgs false
def EvT {α : Type} (f : Nat → Option α) (v : α) : Prop := ∃ m, ∀ k, m ≤ k → f k = some v
section
variable {α β : Type} {f g : Nat → Option α} {v : α} {w : β}
theorem EvT.const (v : α) : EvT (fun _ => some v) v := ⟨0, fun _ _ => rfl⟩
theorem EvT.step (h : ∀ k, f (k + 1) = g k) (hg : EvT g v) : EvT f v := by
  obtain ⟨m, hm⟩ := hg
  refine ⟨m + 1, fun k hk => ?_⟩
  obtain ⟨j, rfl⟩ : ∃ j, k = j + 1 := ⟨k - 1, by omega⟩
  rw [h]; exact hm j (by omega)
theorem EvT.step2 (h : ∀ k, f (k + 2) = g k) (hg : EvT g v) : EvT f v := by
  obtain ⟨m, hm⟩ := hg
  refine ⟨m + 2, fun k hk => ?_⟩
  obtain ⟨j, rfl⟩ : ∃ j, k = j + 2 := ⟨k - 2, by omega⟩
  rw [h]; exact hm j (by omega)
theorem EvT.done (h : ∀ k, f (k + 1) = some v) : EvT f v := EvT.step h (EvT.const v)
theorem EvT.congr (h : ∀ k, f k = g k) (hg : EvT g v) : EvT f v := by
  obtain ⟨m, hm⟩ := hg
  exact ⟨m, fun k hk => by rw [h]; exact hm k hk⟩
theorem EvT.bind {F : Nat → α → Option β} (hf : EvT f v) (hF : EvT (fun k => F k v) w) : EvT (fun k => (f k).bind (F k)) w := by
  obtain ⟨m, hm⟩ := hf
  obtain ⟨n, hn⟩ := hF
  refine ⟨m + n, fun k hk => ?_⟩
  show (f k).bind (F k) = _
  rw [hm k (by omega)]; exact hn k (by omega)
theorem EvT.of_add (h : ∃ m, ∀ k, f (k + m) = some v) : EvT f v := by
  obtain ⟨m, hm⟩ := h
  refine ⟨m, fun k hk => ?_⟩
  have := hm (k - m)
  rwa [show k - m + m = k by omega] at this
theorem EvT.one (h : EvT f v) : ∃ k, f k = some v := by
  obtain ⟨m, hm⟩ := h
  exact ⟨m, hm m (Nat.le_refl _)⟩
end
theorem nx (i : Nat) (h : i < 1000000000000) : wrap64 ((i : Int) + 1) = ((i + 1 : Nat) : Int) := by
  unfold wrap64; omega
theorem pv (i : Nat) (h : i < 1000000000000) : wrap64 (((i + 1 : Nat) : Int) - 1) = (i : Int) := by
  unfold wrap64; omega
theorem pv1 (i : Nat) (h : i < 1000000000000) : wrap64 ((i : Int) - 1) = (i : Int) - 1 := by
  unfold wrap64; omega
end Go.Proofs.Ytncnhhnbjmpomaa.Q
namespace Go.Proofs.Ytncnhhnbjmpomaa.Q
open Go.RowKit Go.Proofs.YtncnhhnbjmpomaaW.PrintWords Go.Proofs.YtncnhhnbjmpomaaW.PrintLast Go.Proofs.YtncnhhnbjmpomaaW.PrintMore
attribute [local go_sem] max2_int min2_int max_two min_two max_three min_three max_four min_four   -- for this text's walks alone
set_option linter.unusedVariables false
set_option linter.unusedSimpArgs false
def soukref01_trim.l0 : Nat → List Bool → Int → Option (List Bool)
 | 0, _, _ => none
 | k + 1, x0, x3 => if x3 > 0 then (if 0 ≤ (wrap64 (x3 - 1)) then (if (wrap64 (x3 - 1)) < (x0.length : Int) then (if (rdOf false x0 (wrap64 (x3 - 1)) = true) then (if 0 ≤ x3 then (if x3 ≤ (x0.length : Int) then (some (x0.take (x3 : Int).toNat)) else (none)) else (none)) else (soukref01_trim.l0 k x0 (wrap64 (x3 - 1)))) else (none)) else (none)) else (if 0 ≤ x3 then (if x3 ≤ (x0.length : Int) then (some (x0.take (x3 : Int).toNat)) else (none)) else (none))
def soukref01_trim.f (k : Nat) (l0 : List Bool) : Option (List Bool) := soukref01_trim.l0 k l0 (l0.length : Int)
set_option maxHeartbeats 8000000 in
set_option maxRecDepth 100000 in
theorem soukref01_trim.calls (k : Nat) (P0_ : Nat → Prop) (u9000_ : Value) (l0 : List Bool) (r : List Bool) (w0 w : World) (hB : Below w0.heap.size w0 w) (ho0 : Kd.R Kd.bool 4 w w0.heap.size P0_ u9000_ l0) (h : soukref01_trim.f k l0 = some r) :
  Calls Try.prog 46 #[u9000_] w fun e w' => ∃ v0_ : Value, e = .returned (v0_) ∧ Kd.R Kd.bool 4 w' w0.heap.size (fun k_ => (P0_ k_ ∨ w.heap.size ≤ k_)) v0_ r ∧ Below w0.heap.size w0 w' ∧ Kept w w' (fun k_ => P0_ k_) := by
 have HO0 := Aside0.mk (show Kd.R Kd.bool 4 w w0.heap.size (fun k_ => (P0_ k_ ∨ w.heap.size ≤ k_)) u9000_ l0 from Kd.R_mono ho0 (fun k_ hk => (.inl hk)))
 have HK := Aside0.mk (Kept.refl w (fun k_ => P0_ k_))
 have HW0 := Aside0.mk hB.size
 have HB := Aside0.mk hB
 clear hB
 have H : (soukref01_trim.l0 k l0 (l0.length : Int)) = some r := h
 clear h
 have H' := Aside0.mk H
 clear H
 obtain ⟨Ao2, co2, eo2⟩ := Kd.R_slice HO0.out
 subst eo2
 go_enter Try.func46, Try.ntmps46
 go_wp2
 go_loopg [3] k (fun kq v3 w' => ∃ (x3_1 : Int), v3 = .int .i64 x3_1 ∧ Aside0 (soukref01_trim.l0 kq l0 x3_1 = some r) ∧ Aside0 (kq ≤ k) ∧ Aside0 (Kd.R Kd.bool 4 w' w0.heap.size (fun k_ => (P0_ k_ ∨ w.heap.size ≤ k_)) (.slice Ao2 l0.length co2) l0) ∧ Aside0 (Kept w w' (fun k_ => P0_ k_)) ∧ Aside0 (Below w0.heap.size w0 w'))
 case atStart => exact ⟨((l0.length : Int)), (by first | rfl | (simp; done) | (simp [*]; done)), H', ⟨Nat.le_refl _⟩, ⟨by (with_reducible repeat (first | apply Kd.R_alloc | apply Kd.R_drewN | apply Kd.R_drew)); exact HO0.out⟩, ⟨by repeat (first | (with_reducible first | exact HK.out | apply Kept.alloc | apply Kept.drewN | apply Kept.drew) | exact HK.out)⟩, ⟨by repeat (first | (with_reducible first | exact HB.out | apply below_alloc | apply pw_below_drewN | apply below_drew1) | exact HB.out)⟩⟩
 case round =>
  clear H'
  try clear p2
  obtain ⟨x3_1, rfl, HA, HK1, HO_0, HK, HB⟩ := hrel
  cases gk with
  | zero => exact absurd HA.out (by simp [soukref01_trim.l0])
  | succ k1 =>
   have H := HA.out
   clear HA
   simp only [soukref01_trim.l0] at H
   by_cases c3 : x3_1 > 0
   ·rw [if_pos c3] at H
    have c3b0 : decide (0 < x3_1) = true := decide_eq_true c3
    clear c3
    obtain ⟨ji4, hji4⟩ : ∃ j_ : Int, (wrap64 (x3_1 - 1)) = j_ := ⟨_, rfl⟩
    replace H : (if 0 ≤ (ji4) then (if (ji4) < (l0.length : Int) then (if (rdOf false l0 (ji4) = true) then (if 0 ≤ x3_1 then (if x3_1 ≤ (l0.length : Int) then (some (l0.take (x3_1 : Int).toNat)) else (none)) else (none)) else (soukref01_trim.l0 k1 l0 ji4)) else (none)) else (none)) = some r := by first | (rw [hji4] at H; exact H) | (simp only [hji4] at H ⊢; exact H)
    have hji4w : (IntKind.i64.wrap (x3_1 - 1)) = ji4 := (i64_w _).trans hji4
    by_cases c5 : 0 ≤ (ji4)
    ·rw [if_pos c5] at H
     have c5b0 : decide (0 ≤ (ji4)) = true := decide_eq_true c5
     clear c5
     by_cases c6 : (ji4) < (l0.length : Int)
     ·rw [if_pos c6] at H
      have c6b0 : decide ((ji4) < (l0.length : Int)) = true := decide_eq_true c6
      clear c6
      obtain ⟨bq7, hbq7⟩ : ∃ b_ : Bool, b_ = (rdOf false l0 (ji4)) := ⟨_, rfl⟩
      replace H : (if (bq7 = true) then (if 0 ≤ x3_1 then (if x3_1 ≤ (l0.length : Int) then (some (l0.take (x3_1 : Int).toNat)) else (none)) else (none)) else (soukref01_trim.l0 k1 l0 ji4)) = some r := by rw [← hbq7] at H; exact H
      have Nbq7 := Aside0.mk hbq7
      clear hbq7
      by_cases c8 : (bq7 = true)
      ·subst c8
       have H1 : (if 0 ≤ x3_1 then (if x3_1 ≤ (l0.length : Int) then (some (l0.take (x3_1 : Int).toNat)) else (none)) else (none)) = some r := by rw [if_pos rfl] at H; exact H
       clear H
       have H := H1
       clear H1
       by_cases c9 : 0 ≤ x3_1
       ·rw [if_pos c9] at H
        have c9b0 := eq_true c9
        have c9b1 : decide (0 ≤ x3_1) = true := decide_eq_true c9
        clear c9
        by_cases c10 : x3_1 ≤ (l0.length : Int)
        ·rw [if_pos c10] at H
         have c10b0 := eq_true c10
         have c10b1 : decide (x3_1 ≤ (l0.length : Int)) = true := decide_eq_true c10
         clear c10
         obtain ⟨y164, hy164⟩ : ∃ y_ : List Bool, y_ = (l0.take (x3_1 : Int).toNat) := ⟨_, rfl⟩
         replace H : (some y164) = some r := by first | (rw [hy164]; with_reducible exact H) | (have H2_ := (Option.bind_some _ _).symm.trans H; rw [hy164]; with_reducible exact H2_) | (have H2_ := (Option.bind_some _ _).symm.trans H; with_reducible exact H2_) | with_reducible exact H | (rw [hy164]; exact H) | exact H
         have Ny164 := Aside0.mk hy164
         clear hy164
         obtain rfl := Option.some.inj H
         have p163 : 0 ≤ ((ji4) : Int) := of_decide_eq_true (by first | (with_reducible assumption) | assumption)
         have q163 : (ji4) < (l0.length : Int) := of_decide_eq_true (by first | (with_reducible assumption) | assumption)
         obtain ⟨ad163, e163, hx163_0⟩ := Kd.at_bool (Kd.R_reads' HO_0.out).2.2 (ji4) p163 q163
         (try rw [← Nbq7.out] at hx163_0)
         cases e163
         replace p163 := eq_true p163
         replace q163 := eq_true q163
         have q11 : (x3_1 : Int) ≤ ((l0.length : Int) : Int) := of_decide_eq_true (by first | (with_reducible assumption) | assumption)
         obtain ⟨i011, hi011, _, hsz11, _⟩ := info_parts info4
         have hcut11 := cut_to (P := Try.prog) 87 4 .i64 Try.underlying87 hi011 (some ad163) l0.length co2 x3_1 (of_decide_eq_true (by first | (with_reducible assumption) | assumption)) q11 (Kd.R_reads' HO_0.out).2.1
         have hr11 := Kd.R_take (m := (x3_1 : Int).toNat) HO_0.out (by omega)
         have hy11 : y164.length = (x3_1 : Int).toNat := (by rw [Ny164.out, List.length_take]; omega)
         rw [← Ny164.out] at hr11
         rw [← hy11] at hr11 hcut11
         clear hy11 hi011 hsz11 HO_0
         have HO166 := Aside0.mk hr11
         clear hr11
         replace q11 := eq_true q11
         go_wp2
         go_ret
         exact ⟨_, by first | rfl | (simp [errW_none, errW_some] <;> rfl) | (simp only [← hji4]; first | rfl | (simp [errW_none, errW_some] <;> rfl)) | (simp [*, errW_none, errW_some] <;> rfl), by (with_reducible repeat (first | apply Kd.R_alloc | apply Kd.R_drewN | apply Kd.R_drew)); exact HO166.out, by repeat (first | (with_reducible first | exact HB.out | apply below_alloc | apply pw_below_drewN | apply below_drew1) | exact HB.out), by repeat (first | (with_reducible first | exact HK.out | apply Kept.alloc | apply Kept.drewN | apply Kept.drew) | exact HK.out)⟩
        ·rw [if_neg c10] at H
         exact absurd H (by simp)
       ·rw [if_neg c9] at H
        exact absurd H (by simp)
      ·replace c8 := Bool.eq_false_iff.mpr c8
       subst c8
       have H1 : (soukref01_trim.l0 k1 l0 ji4) = some r := by rw [if_neg (show ¬ (false = true) by decide)] at H; exact H
       clear H
       have H := H1
       clear H1
       have H' := Aside0.mk H
       clear H
       have p163 : 0 ≤ ((ji4) : Int) := of_decide_eq_true (by first | (with_reducible assumption) | assumption)
       have q163 : (ji4) < (l0.length : Int) := of_decide_eq_true (by first | (with_reducible assumption) | assumption)
       obtain ⟨ad163, e163, hx163_0⟩ := Kd.at_bool (Kd.R_reads' HO_0.out).2.2 (ji4) p163 q163
       (try rw [← Nbq7.out] at hx163_0)
       cases e163
       replace p163 := eq_true p163
       replace q163 := eq_true q163
       go_wp2
       go_roundg k1
       case measure => have := HK1.out; omega
       case rel => exact ⟨(ji4), (by first | rfl | (simp; done) | (simp only [← hji4] <;> (first | rfl | simp)) | (simp [*]; done)), H', ⟨by have := HK1.out; omega⟩, ⟨by (with_reducible repeat (first | apply Kd.R_alloc | apply Kd.R_drewN | apply Kd.R_drew)); exact HO_0.out⟩, ⟨by repeat (first | (with_reducible first | exact HK.out | apply Kept.alloc | apply Kept.drewN | apply Kept.drew) | exact HK.out)⟩, ⟨by repeat (first | (with_reducible first | exact HB.out | apply below_alloc | apply pw_below_drewN | apply below_drew1) | exact HB.out)⟩⟩
     ·rw [if_neg c6] at H
      exact absurd H (by simp)
    ·rw [if_neg c5] at H
     exact absurd H (by simp)
   ·rw [if_neg c3] at H
    have c3b0 : decide (0 < x3_1) = false := decide_eq_false c3
    clear c3
    by_cases c12 : 0 ≤ x3_1
    ·rw [if_pos c12] at H
     have c12b0 := eq_true c12
     have c12b1 : decide (0 ≤ x3_1) = true := decide_eq_true c12
     clear c12
     by_cases c13 : x3_1 ≤ (l0.length : Int)
     ·rw [if_pos c13] at H
      have c13b0 := eq_true c13
      have c13b1 : decide (x3_1 ≤ (l0.length : Int)) = true := decide_eq_true c13
      clear c13
      obtain ⟨y167, hy167⟩ : ∃ y_ : List Bool, y_ = (l0.take (x3_1 : Int).toNat) := ⟨_, rfl⟩
      replace H : (some y167) = some r := by first | (rw [hy167]; with_reducible exact H) | (have H2_ := (Option.bind_some _ _).symm.trans H; rw [hy167]; with_reducible exact H2_) | (have H2_ := (Option.bind_some _ _).symm.trans H; with_reducible exact H2_) | with_reducible exact H | (rw [hy167]; exact H) | exact H
      have Ny167 := Aside0.mk hy167
      clear hy167
      obtain rfl := Option.some.inj H
      have q14 : (x3_1 : Int) ≤ ((l0.length : Int) : Int) := of_decide_eq_true (by first | (with_reducible assumption) | assumption)
      obtain ⟨i014, hi014, _, hsz14, _⟩ := info_parts info4
      have hcut14 := cut_to (P := Try.prog) 87 4 .i64 Try.underlying87 hi014 Ao2 l0.length co2 x3_1 (of_decide_eq_true (by first | (with_reducible assumption) | assumption)) q14 (Kd.R_reads' HO_0.out).2.1
      have hr14 := Kd.R_take (m := (x3_1 : Int).toNat) HO_0.out (by omega)
      have hy14 : y167.length = (x3_1 : Int).toNat := (by rw [Ny167.out, List.length_take]; omega)
      rw [← Ny167.out] at hr14
      rw [← hy14] at hr14 hcut14
      clear hy14 hi014 hsz14 HO_0
      have HO169 := Aside0.mk hr14
      clear hr14
      replace q14 := eq_true q14
      go_wp2
      go_ret
      exact ⟨_, by first | rfl | (simp [errW_none, errW_some] <;> rfl) | (simp [*, errW_none, errW_some] <;> rfl), by (with_reducible repeat (first | apply Kd.R_alloc | apply Kd.R_drewN | apply Kd.R_drew)); exact HO169.out, by repeat (first | (with_reducible first | exact HB.out | apply below_alloc | apply pw_below_drewN | apply below_drew1) | exact HB.out), by repeat (first | (with_reducible first | exact HK.out | apply Kept.alloc | apply Kept.drewN | apply Kept.drew) | exact HK.out)⟩
     ·rw [if_neg c13] at H
      exact absurd H (by simp)
    ·rw [if_neg c12] at H
     exact absurd H (by simp)
end Go.Proofs.Ytncnhhnbjmpomaa.Q
namespace Go.Proofs.Ytncnhhnbjmpomaa.Q
open Go.RowKit Go.Proofs.YtncnhhnbjmpomaaW.PrintWords Go.Proofs.YtncnhhnbjmpomaaW.PrintLast Go.Proofs.YtncnhhnbjmpomaaW.PrintMore
attribute [local go_sem] max2_int min2_int max_two min_two max_three min_three max_four min_four   -- for this text's walks alone
set_option linter.unusedVariables false
set_option linter.unusedSimpArgs false
def soukref01_Wide_at.f (l0 : List Bool) (a1 : Int) : Option (Bool) := if a1 < (l0.length : Int) then (if 0 ≤ a1 then (some (rdOf false l0 a1)) else (none)) else (some false)
set_option maxHeartbeats 8000000 in
set_option maxRecDepth 100000 in
theorem soukref01_Wide_at.calls (A0 : Option Addr) (c0 : Nat) (l0 : List Bool) (a1 : Int) (r : Bool) (w : World) (hr0 : Kd.C Kd.bool w A0 l0.length l0) (hc0 : l0.length ≤ c0) (h : soukref01_Wide_at.f l0 a1 = some r) :
  Calls Try.prog 48 #[.slice A0 l0.length c0, .int .i64 a1] w fun e w' => e = .returned (.bool r) ∧ Drawn0 w w' := by
 have HR0 := Aside0.mk hr0
 have HC0 := Aside0.mk hc0
 clear hr0 hc0
 have H : (if a1 < (l0.length : Int) then (if 0 ≤ a1 then (some (rdOf false l0 a1)) else (none)) else (some false)) = some r := h
 clear h
 by_cases c3 : a1 < (l0.length : Int)
 ·rw [if_pos c3] at H
  have c3b0 : decide (a1 < (l0.length : Int)) = true := decide_eq_true c3
  clear c3
  by_cases c4 : 0 ≤ a1
  ·rw [if_pos c4] at H
   have c4b0 : decide (0 ≤ a1) = true := decide_eq_true c4
   clear c4
   obtain rfl := Option.some.inj H
   have p170 : 0 ≤ (a1 : Int) := of_decide_eq_true (by first | (with_reducible assumption) | assumption)
   have q170 : a1 < (l0.length : Int) := of_decide_eq_true (by first | (with_reducible assumption) | assumption)
   obtain ⟨ad170, e170, hx170_0⟩ := Kd.at_bool HR0.out a1 p170 q170
   cases e170
   replace p170 := eq_true p170
   replace q170 := eq_true q170
   go_enter Try.func48, Try.ntmps48
   go_wp2
   go_ret
   exact ⟨by first | rfl | (simp; done) | (simp [*]; done), by repeat (first | exact Drawn0.refl _ | apply Drawn0.step)⟩
  ·rw [if_neg c4] at H
   exact absurd H (by simp)
 ·rw [if_neg c3] at H
  have c3b0 : decide (a1 < (l0.length : Int)) = false := decide_eq_false c3
  clear c3
  obtain rfl := Option.some.inj H
  go_enter Try.func48, Try.ntmps48
  go_wp2
  go_ret
  exact ⟨by first | rfl | (simp; done) | (simp [*]; done), by repeat (first | exact Drawn0.refl _ | apply Drawn0.step)⟩
end Go.Proofs.Ytncnhhnbjmpomaa.Q
namespace Go.Proofs.Ytncnhhnbjmpomaa.Q
open Go.RowKit Go.Proofs.YtncnhhnbjmpomaaW.PrintWords Go.Proofs.YtncnhhnbjmpomaaW.PrintLast Go.Proofs.YtncnhhnbjmpomaaW.PrintMore
attribute [local go_sem] max2_int min2_int max_two min_two max_three min_three max_four min_four   -- for this text's walks alone
set_option linter.unusedVariables false
set_option linter.unusedSimpArgs false
def soukref01_less.l0 : Nat → List Bool → List Bool → Int → Option (Bool)
 | 0, _, _, _ => none
 | k + 1, x0, x1, x6 => if x6 ≥ 0 then ((soukref01_Wide_at.f x0 x6).bind fun t171 => ((soukref01_Wide_at.f x1 x6).bind fun t172 => (if t171 = true then (if t172 = true then (soukref01_less.l0 k x0 x1 (wrap64 (x6 - 1))) else (some t172)) else (if t172 = true then (some t172) else (soukref01_less.l0 k x0 x1 (wrap64 (x6 - 1))))))) else (some false)
def soukref01_less.f (k : Nat) (l0 : List Bool) (l1 : List Bool) : Option (Bool) := if (l0.length : Int) < (l1.length : Int) then (soukref01_less.l0 k l0 l1 (wrap64 ((l1.length : Int) - 1))) else (soukref01_less.l0 k l0 l1 (wrap64 ((l0.length : Int) - 1)))
set_option maxHeartbeats 8000000 in
set_option maxRecDepth 100000 in
theorem soukref01_less.calls (k : Nat) (A0 : Option Addr) (c0 : Nat) (l0 : List Bool) (A1 : Option Addr) (c1 : Nat) (l1 : List Bool) (r : Bool) (w : World) (hr0 : Kd.C Kd.bool w A0 l0.length l0) (hc0 : l0.length ≤ c0) (hr1 : Kd.C Kd.bool w A1 l1.length l1) (hc1 : l1.length ≤ c1) (h : soukref01_less.f k l0 l1 = some r) :
  Calls Try.prog 47 #[.slice A0 l0.length c0, .slice A1 l1.length c1] w fun e w' => e = .returned (.bool r) ∧ Below w.heap.size w w' := by
 have HR0 := Aside0.mk hr0
 have HC0 := Aside0.mk hc0
 clear hr0 hc0
 have HR1 := Aside0.mk hr1
 have HC1 := Aside0.mk hc1
 clear hr1 hc1
 have HB := Aside0.mk (Below.refl w.heap.size w)
 have H : (if (l0.length : Int) < (l1.length : Int) then (soukref01_less.l0 k l0 l1 (wrap64 ((l1.length : Int) - 1))) else (soukref01_less.l0 k l0 l1 (wrap64 ((l0.length : Int) - 1)))) = some r := h
 clear h
 by_cases c3 : (l0.length : Int) < (l1.length : Int)
 ·rw [if_pos c3] at H
  have c3i := eq_true c3
  have c3b0 : decide ((l0.length : Int) < (l1.length : Int)) = true := decide_eq_true c3
  have c3b1 : decide (l0.length < l1.length) = true := decide_eq_true (Int.ofNat_lt.mp c3)
  clear c3
  have H' := Aside0.mk H
  clear H
  go_enter Try.func47, Try.ntmps47
  go_wp2
  go_loopg [6] k (fun kq v6 w' => ∃ (x6_1 : Int), v6 = .int .i64 x6_1 ∧ Aside0 (soukref01_less.l0 kq l0 l1 x6_1 = some r) ∧ Aside0 (kq ≤ k) ∧ Aside0 (Below w.heap.size w w'))
  case atStart => exact ⟨(wrap64 ((l1.length : Int) - 1)), (by first | rfl | (simp; done) | (simp [*]; done)), H', ⟨Nat.le_refl _⟩, ⟨by repeat (first | (with_reducible first | exact HB.out | apply below_alloc | apply pw_below_drewN | apply below_drew1) | exact HB.out)⟩⟩
  case round =>
   clear H'
   try clear c1
   try clear p2
   try clear c3
   try clear c3b0
   try clear c3b1
   obtain ⟨x6_1, rfl, HA, HK1, HB⟩ := hrel
   cases gk with
   | zero => exact absurd HA.out (by simp [soukref01_less.l0])
   | succ k1 =>
    have H := HA.out
    clear HA
    simp only [soukref01_less.l0] at H
    by_cases c4 : x6_1 ≥ 0
    ·rw [if_pos c4] at H
     have c4b0 : decide (0 ≤ x6_1) = true := decide_eq_true c4
     clear c4
     replace H := Option.bind_eq_some_iff.mp H
     obtain ⟨t171, A50, H⟩ := H
     replace H : ((soukref01_Wide_at.f l1 x6_1).bind fun t172 => (if t171 = true then (if t172 = true then (soukref01_less.l0 k1 l0 l1 (wrap64 (x6_1 - 1))) else (some t172)) else (if t172 = true then (some t172) else (soukref01_less.l0 k1 l0 l1 (wrap64 (x6_1 - 1)))))) = some r := H
     have A5 := Aside0.mk A50
     clear A50
     replace H := Option.bind_eq_some_iff.mp H
     obtain ⟨t172, A60, H⟩ := H
     replace H : (if t171 = true then (if t172 = true then (soukref01_less.l0 k1 l0 l1 (wrap64 (x6_1 - 1))) else (some t172)) else (if t172 = true then (some t172) else (soukref01_less.l0 k1 l0 l1 (wrap64 (x6_1 - 1))))) = some r := H
     have A6 := Aside0.mk A60
     clear A60
     by_cases c7 : t171 = true
     ·subst c7
      have H1 : (if t172 = true then (soukref01_less.l0 k1 l0 l1 (wrap64 (x6_1 - 1))) else (some t172)) = some r := by rw [if_pos rfl] at H; exact H
      clear H
      have H := H1
      clear H1
      by_cases c8 : t172 = true
      ·subst c8
       have H1 : (soukref01_less.l0 k1 l0 l1 (wrap64 (x6_1 - 1))) = some r := by rw [if_pos rfl] at H; exact H
       clear H
       have H := H1
       clear H1
       have H' := Aside0.mk H
       clear H
       go_wp2_with (first | ((with_reducible refine gate_callee (f := 48) rfl ?_); refine goesL_ (some 22) rfl rfl Try.func48 (by kernel_rfl) rfl #[.slice A0 l0.length c0, .int .i64 x6_1] rfl (by (try simp only [List.map_toArray, List.map_cons, List.map_nil]); first | done | rfl | (simp only [List.length_drop, List.length_take]; rfl)) ?_; (with_reducible refine (soukref01_Wide_at.calls _ _ l0 x6_1 true _ ?side1 ?side2 A5.out).mono ?_); (case side1 => repeat (first | exact (Kd.C_below HR0.out HB.out) | (with_reducible refine Kd.C_alloc ?_ _) | (with_reducible refine Kd.C_drewN ?_ _) | (with_reducible refine Kd.C_drew ?_))); (case side2 => exact HC0.out); rintro e w' ⟨rfl, ⟨nd, rfl⟩⟩; refine ⟨_, rfl, ?_⟩) | ((with_reducible refine gate_callee (f := 48) rfl ?_); refine goesL_ (some 25) rfl rfl Try.func48 (by kernel_rfl) rfl #[.slice A1 l1.length c1, .int .i64 x6_1] rfl (by (try simp only [List.map_toArray, List.map_cons, List.map_nil]); first | done | rfl | (simp only [List.length_drop, List.length_take]; rfl)) ?_; (with_reducible refine (soukref01_Wide_at.calls _ _ l1 x6_1 true _ ?side1 ?side2 A6.out).mono ?_); (case side1 => repeat (first | exact (Kd.C_below HR1.out (by repeat (first | (with_reducible first | exact HB.out | apply below_alloc | apply pw_below_drewN | apply below_drew1) | exact HB.out))) | (with_reducible refine Kd.C_alloc ?_ _) | (with_reducible refine Kd.C_drewN ?_ _) | (with_reducible refine Kd.C_drew ?_))); (case side2 => exact HC1.out); rintro e w' ⟨rfl, ⟨nd, rfl⟩⟩; refine ⟨_, rfl, ?_⟩))
       go_roundg k1
       case measure => have := HK1.out; omega
       case rel => exact ⟨(wrap64 (x6_1 - 1)), (by first | rfl | (simp; done) | (simp [*]; done)), H', ⟨by have := HK1.out; omega⟩, ⟨by repeat (first | (with_reducible first | exact HB.out | apply below_alloc | apply pw_below_drewN | apply below_drew1) | exact HB.out)⟩⟩
      ·replace c8 := Bool.eq_false_iff.mpr c8
       subst c8
       have H1 : (some false) = some r := by rw [if_neg (show ¬ (false = true) by decide)] at H; exact H
       clear H
       have H := H1
       clear H1
       obtain rfl := Option.some.inj H
       go_wp2_with (first | ((with_reducible refine gate_callee (f := 48) rfl ?_); refine goesL_ (some 22) rfl rfl Try.func48 (by kernel_rfl) rfl #[.slice A0 l0.length c0, .int .i64 x6_1] rfl (by (try simp only [List.map_toArray, List.map_cons, List.map_nil]); first | done | rfl | (simp only [List.length_drop, List.length_take]; rfl)) ?_; (with_reducible refine (soukref01_Wide_at.calls _ _ l0 x6_1 true _ ?side1 ?side2 A5.out).mono ?_); (case side1 => repeat (first | exact (Kd.C_below HR0.out HB.out) | (with_reducible refine Kd.C_alloc ?_ _) | (with_reducible refine Kd.C_drewN ?_ _) | (with_reducible refine Kd.C_drew ?_))); (case side2 => exact HC0.out); rintro e w' ⟨rfl, ⟨nd, rfl⟩⟩; refine ⟨_, rfl, ?_⟩) | ((with_reducible refine gate_callee (f := 48) rfl ?_); refine goesL_ (some 25) rfl rfl Try.func48 (by kernel_rfl) rfl #[.slice A1 l1.length c1, .int .i64 x6_1] rfl (by (try simp only [List.map_toArray, List.map_cons, List.map_nil]); first | done | rfl | (simp only [List.length_drop, List.length_take]; rfl)) ?_; (with_reducible refine (soukref01_Wide_at.calls _ _ l1 x6_1 false _ ?side1 ?side2 A6.out).mono ?_); (case side1 => repeat (first | exact (Kd.C_below HR1.out (by repeat (first | (with_reducible first | exact HB.out | apply below_alloc | apply pw_below_drewN | apply below_drew1) | exact HB.out))) | (with_reducible refine Kd.C_alloc ?_ _) | (with_reducible refine Kd.C_drewN ?_ _) | (with_reducible refine Kd.C_drew ?_))); (case side2 => exact HC1.out); rintro e w' ⟨rfl, ⟨nd, rfl⟩⟩; refine ⟨_, rfl, ?_⟩))
       go_ret
       exact ⟨by first | rfl | (simp [errW_none, errW_some] <;> rfl) | (simp [*, errW_none, errW_some] <;> rfl), by repeat (first | (with_reducible first | exact HB.out | apply below_alloc | apply pw_below_drewN | apply below_drew1) | exact HB.out)⟩
     ·replace c7 := Bool.eq_false_iff.mpr c7
      subst c7
      have H1 : (if t172 = true then (some t172) else (soukref01_less.l0 k1 l0 l1 (wrap64 (x6_1 - 1)))) = some r := by rw [if_neg (show ¬ (false = true) by decide)] at H; exact H
      clear H
      have H := H1
      clear H1
      by_cases c9 : t172 = true
      ·subst c9
       have H1 : (some true) = some r := by rw [if_pos rfl] at H; exact H
       clear H
       have H := H1
       clear H1
       obtain rfl := Option.some.inj H
       go_wp2_with (first | ((with_reducible refine gate_callee (f := 48) rfl ?_); refine goesL_ (some 22) rfl rfl Try.func48 (by kernel_rfl) rfl #[.slice A0 l0.length c0, .int .i64 x6_1] rfl (by (try simp only [List.map_toArray, List.map_cons, List.map_nil]); first | done | rfl | (simp only [List.length_drop, List.length_take]; rfl)) ?_; (with_reducible refine (soukref01_Wide_at.calls _ _ l0 x6_1 false _ ?side1 ?side2 A5.out).mono ?_); (case side1 => repeat (first | exact (Kd.C_below HR0.out HB.out) | (with_reducible refine Kd.C_alloc ?_ _) | (with_reducible refine Kd.C_drewN ?_ _) | (with_reducible refine Kd.C_drew ?_))); (case side2 => exact HC0.out); rintro e w' ⟨rfl, ⟨nd, rfl⟩⟩; refine ⟨_, rfl, ?_⟩) | ((with_reducible refine gate_callee (f := 48) rfl ?_); refine goesL_ (some 25) rfl rfl Try.func48 (by kernel_rfl) rfl #[.slice A1 l1.length c1, .int .i64 x6_1] rfl (by (try simp only [List.map_toArray, List.map_cons, List.map_nil]); first | done | rfl | (simp only [List.length_drop, List.length_take]; rfl)) ?_; (with_reducible refine (soukref01_Wide_at.calls _ _ l1 x6_1 true _ ?side1 ?side2 A6.out).mono ?_); (case side1 => repeat (first | exact (Kd.C_below HR1.out (by repeat (first | (with_reducible first | exact HB.out | apply below_alloc | apply pw_below_drewN | apply below_drew1) | exact HB.out))) | (with_reducible refine Kd.C_alloc ?_ _) | (with_reducible refine Kd.C_drewN ?_ _) | (with_reducible refine Kd.C_drew ?_))); (case side2 => exact HC1.out); rintro e w' ⟨rfl, ⟨nd, rfl⟩⟩; refine ⟨_, rfl, ?_⟩))
       go_ret
       exact ⟨by first | rfl | (simp [errW_none, errW_some] <;> rfl) | (simp [*, errW_none, errW_some] <;> rfl), by repeat (first | (with_reducible first | exact HB.out | apply below_alloc | apply pw_below_drewN | apply below_drew1) | exact HB.out)⟩
      ·replace c9 := Bool.eq_false_iff.mpr c9
       subst c9
       have H1 : (soukref01_less.l0 k1 l0 l1 (wrap64 (x6_1 - 1))) = some r := by rw [if_neg (show ¬ (false = true) by decide)] at H; exact H
       clear H
       have H := H1
       clear H1
       have H' := Aside0.mk H
       clear H
       go_wp2_with (first | ((with_reducible refine gate_callee (f := 48) rfl ?_); refine goesL_ (some 22) rfl rfl Try.func48 (by kernel_rfl) rfl #[.slice A0 l0.length c0, .int .i64 x6_1] rfl (by (try simp only [List.map_toArray, List.map_cons, List.map_nil]); first | done | rfl | (simp only [List.length_drop, List.length_take]; rfl)) ?_; (with_reducible refine (soukref01_Wide_at.calls _ _ l0 x6_1 false _ ?side1 ?side2 A5.out).mono ?_); (case side1 => repeat (first | exact (Kd.C_below HR0.out HB.out) | (with_reducible refine Kd.C_alloc ?_ _) | (with_reducible refine Kd.C_drewN ?_ _) | (with_reducible refine Kd.C_drew ?_))); (case side2 => exact HC0.out); rintro e w' ⟨rfl, ⟨nd, rfl⟩⟩; refine ⟨_, rfl, ?_⟩) | ((with_reducible refine gate_callee (f := 48) rfl ?_); refine goesL_ (some 25) rfl rfl Try.func48 (by kernel_rfl) rfl #[.slice A1 l1.length c1, .int .i64 x6_1] rfl (by (try simp only [List.map_toArray, List.map_cons, List.map_nil]); first | done | rfl | (simp only [List.length_drop, List.length_take]; rfl)) ?_; (with_reducible refine (soukref01_Wide_at.calls _ _ l1 x6_1 false _ ?side1 ?side2 A6.out).mono ?_); (case side1 => repeat (first | exact (Kd.C_below HR1.out (by repeat (first | (with_reducible first | exact HB.out | apply below_alloc | apply pw_below_drewN | apply below_drew1) | exact HB.out))) | (with_reducible refine Kd.C_alloc ?_ _) | (with_reducible refine Kd.C_drewN ?_ _) | (with_reducible refine Kd.C_drew ?_))); (case side2 => exact HC1.out); rintro e w' ⟨rfl, ⟨nd, rfl⟩⟩; refine ⟨_, rfl, ?_⟩))
       go_roundg k1
       case measure => have := HK1.out; omega
       case rel => exact ⟨(wrap64 (x6_1 - 1)), (by first | rfl | (simp; done) | (simp [*]; done)), H', ⟨by have := HK1.out; omega⟩, ⟨by repeat (first | (with_reducible first | exact HB.out | apply below_alloc | apply pw_below_drewN | apply below_drew1) | exact HB.out)⟩⟩
    ·rw [if_neg c4] at H
     have c4b0 : decide (0 ≤ x6_1) = false := decide_eq_false c4
     clear c4
     obtain rfl := Option.some.inj H
     go_wp2
     go_ret
     exact ⟨by first | rfl | (simp [errW_none, errW_some] <;> rfl) | (simp [*, errW_none, errW_some] <;> rfl), by repeat (first | (with_reducible first | exact HB.out | apply below_alloc | apply pw_below_drewN | apply below_drew1) | exact HB.out)⟩
 ·rw [if_neg c3] at H
  have c3i := eq_false c3
  have c3b0 : decide ((l0.length : Int) < (l1.length : Int)) = false := decide_eq_false c3
  have c3b1 : decide (l0.length < l1.length) = false := decide_eq_false (fun h => c3 (Int.ofNat_lt.mpr h))
  clear c3
  have H' := Aside0.mk H
  clear H
  go_enter Try.func47, Try.ntmps47
  go_wp2
  go_loopg [6] k (fun kq v6 w' => ∃ (x6_1 : Int), v6 = .int .i64 x6_1 ∧ Aside0 (soukref01_less.l0 kq l0 l1 x6_1 = some r) ∧ Aside0 (kq ≤ k) ∧ Aside0 (Below w.heap.size w w'))
  case atStart => exact ⟨(wrap64 ((l0.length : Int) - 1)), (by first | rfl | (simp; done) | (simp [*]; done)), H', ⟨Nat.le_refl _⟩, ⟨by repeat (first | (with_reducible first | exact HB.out | apply below_alloc | apply pw_below_drewN | apply below_drew1) | exact HB.out)⟩⟩
  case round =>
   clear H'
   try clear c1
   try clear p2
   try clear c3
   try clear c3b0
   try clear c3b1
   try clear c4
   try clear c4b0
   try clear p6
   try clear c7
   try clear c8
   try clear c9
   try clear p2
   obtain ⟨x6_1, rfl, HA, HK1, HB⟩ := hrel
   cases gk with
   | zero => exact absurd HA.out (by simp [soukref01_less.l0])
   | succ k1 =>
    have H := HA.out
    clear HA
    simp only [soukref01_less.l0] at H
    by_cases c10 : x6_1 ≥ 0
    ·rw [if_pos c10] at H
     have c10b0 : decide (0 ≤ x6_1) = true := decide_eq_true c10
     clear c10
     replace H := Option.bind_eq_some_iff.mp H
     obtain ⟨t171, A110, H⟩ := H
     replace H : ((soukref01_Wide_at.f l1 x6_1).bind fun t172 => (if t171 = true then (if t172 = true then (soukref01_less.l0 k1 l0 l1 (wrap64 (x6_1 - 1))) else (some t172)) else (if t172 = true then (some t172) else (soukref01_less.l0 k1 l0 l1 (wrap64 (x6_1 - 1)))))) = some r := H
     have A11 := Aside0.mk A110
     clear A110
     replace H := Option.bind_eq_some_iff.mp H
     obtain ⟨t172, A120, H⟩ := H
     replace H : (if t171 = true then (if t172 = true then (soukref01_less.l0 k1 l0 l1 (wrap64 (x6_1 - 1))) else (some t172)) else (if t172 = true then (some t172) else (soukref01_less.l0 k1 l0 l1 (wrap64 (x6_1 - 1))))) = some r := H
     have A12 := Aside0.mk A120
     clear A120
     by_cases c13 : t171 = true
     ·subst c13
      have H1 : (if t172 = true then (soukref01_less.l0 k1 l0 l1 (wrap64 (x6_1 - 1))) else (some t172)) = some r := by rw [if_pos rfl] at H; exact H
      clear H
      have H := H1
      clear H1
      by_cases c14 : t172 = true
      ·subst c14
       have H1 : (soukref01_less.l0 k1 l0 l1 (wrap64 (x6_1 - 1))) = some r := by rw [if_pos rfl] at H; exact H
       clear H
       have H := H1
       clear H1
       have H' := Aside0.mk H
       clear H
       go_wp2_with (first | ((with_reducible refine gate_callee (f := 48) rfl ?_); refine goesL_ (some 22) rfl rfl Try.func48 (by kernel_rfl) rfl #[.slice A0 l0.length c0, .int .i64 x6_1] rfl (by (try simp only [List.map_toArray, List.map_cons, List.map_nil]); first | done | rfl | (simp only [List.length_drop, List.length_take]; rfl)) ?_; (with_reducible refine (soukref01_Wide_at.calls _ _ l0 x6_1 true _ ?side1 ?side2 A11.out).mono ?_); (case side1 => repeat (first | exact (Kd.C_below HR0.out HB.out) | (with_reducible refine Kd.C_alloc ?_ _) | (with_reducible refine Kd.C_drewN ?_ _) | (with_reducible refine Kd.C_drew ?_))); (case side2 => exact HC0.out); rintro e w' ⟨rfl, ⟨nd, rfl⟩⟩; refine ⟨_, rfl, ?_⟩) | ((with_reducible refine gate_callee (f := 48) rfl ?_); refine goesL_ (some 25) rfl rfl Try.func48 (by kernel_rfl) rfl #[.slice A1 l1.length c1, .int .i64 x6_1] rfl (by (try simp only [List.map_toArray, List.map_cons, List.map_nil]); first | done | rfl | (simp only [List.length_drop, List.length_take]; rfl)) ?_; (with_reducible refine (soukref01_Wide_at.calls _ _ l1 x6_1 true _ ?side1 ?side2 A12.out).mono ?_); (case side1 => repeat (first | exact (Kd.C_below HR1.out (by repeat (first | (with_reducible first | exact HB.out | apply below_alloc | apply pw_below_drewN | apply below_drew1) | exact HB.out))) | (with_reducible refine Kd.C_alloc ?_ _) | (with_reducible refine Kd.C_drewN ?_ _) | (with_reducible refine Kd.C_drew ?_))); (case side2 => exact HC1.out); rintro e w' ⟨rfl, ⟨nd, rfl⟩⟩; refine ⟨_, rfl, ?_⟩))
       go_roundg k1
       case measure => have := HK1.out; omega
       case rel => exact ⟨(wrap64 (x6_1 - 1)), (by first | rfl | (simp; done) | (simp [*]; done)), H', ⟨by have := HK1.out; omega⟩, ⟨by repeat (first | (with_reducible first | exact HB.out | apply below_alloc | apply pw_below_drewN | apply below_drew1) | exact HB.out)⟩⟩
      ·replace c14 := Bool.eq_false_iff.mpr c14
       subst c14
       have H1 : (some false) = some r := by rw [if_neg (show ¬ (false = true) by decide)] at H; exact H
       clear H
       have H := H1
       clear H1
       obtain rfl := Option.some.inj H
       go_wp2_with (first | ((with_reducible refine gate_callee (f := 48) rfl ?_); refine goesL_ (some 22) rfl rfl Try.func48 (by kernel_rfl) rfl #[.slice A0 l0.length c0, .int .i64 x6_1] rfl (by (try simp only [List.map_toArray, List.map_cons, List.map_nil]); first | done | rfl | (simp only [List.length_drop, List.length_take]; rfl)) ?_; (with_reducible refine (soukref01_Wide_at.calls _ _ l0 x6_1 true _ ?side1 ?side2 A11.out).mono ?_); (case side1 => repeat (first | exact (Kd.C_below HR0.out HB.out) | (with_reducible refine Kd.C_alloc ?_ _) | (with_reducible refine Kd.C_drewN ?_ _) | (with_reducible refine Kd.C_drew ?_))); (case side2 => exact HC0.out); rintro e w' ⟨rfl, ⟨nd, rfl⟩⟩; refine ⟨_, rfl, ?_⟩) | ((with_reducible refine gate_callee (f := 48) rfl ?_); refine goesL_ (some 25) rfl rfl Try.func48 (by kernel_rfl) rfl #[.slice A1 l1.length c1, .int .i64 x6_1] rfl (by (try simp only [List.map_toArray, List.map_cons, List.map_nil]); first | done | rfl | (simp only [List.length_drop, List.length_take]; rfl)) ?_; (with_reducible refine (soukref01_Wide_at.calls _ _ l1 x6_1 false _ ?side1 ?side2 A12.out).mono ?_); (case side1 => repeat (first | exact (Kd.C_below HR1.out (by repeat (first | (with_reducible first | exact HB.out | apply below_alloc | apply pw_below_drewN | apply below_drew1) | exact HB.out))) | (with_reducible refine Kd.C_alloc ?_ _) | (with_reducible refine Kd.C_drewN ?_ _) | (with_reducible refine Kd.C_drew ?_))); (case side2 => exact HC1.out); rintro e w' ⟨rfl, ⟨nd, rfl⟩⟩; refine ⟨_, rfl, ?_⟩))
       go_ret
       exact ⟨by first | rfl | (simp [errW_none, errW_some] <;> rfl) | (simp [*, errW_none, errW_some] <;> rfl), by repeat (first | (with_reducible first | exact HB.out | apply below_alloc | apply pw_below_drewN | apply below_drew1) | exact HB.out)⟩
     ·replace c13 := Bool.eq_false_iff.mpr c13
      subst c13
      have H1 : (if t172 = true then (some t172) else (soukref01_less.l0 k1 l0 l1 (wrap64 (x6_1 - 1)))) = some r := by rw [if_neg (show ¬ (false = true) by decide)] at H; exact H
      clear H
      have H := H1
      clear H1
      by_cases c15 : t172 = true
      ·subst c15
       have H1 : (some true) = some r := by rw [if_pos rfl] at H; exact H
       clear H
       have H := H1
       clear H1
       obtain rfl := Option.some.inj H
       go_wp2_with (first | ((with_reducible refine gate_callee (f := 48) rfl ?_); refine goesL_ (some 22) rfl rfl Try.func48 (by kernel_rfl) rfl #[.slice A0 l0.length c0, .int .i64 x6_1] rfl (by (try simp only [List.map_toArray, List.map_cons, List.map_nil]); first | done | rfl | (simp only [List.length_drop, List.length_take]; rfl)) ?_; (with_reducible refine (soukref01_Wide_at.calls _ _ l0 x6_1 false _ ?side1 ?side2 A11.out).mono ?_); (case side1 => repeat (first | exact (Kd.C_below HR0.out HB.out) | (with_reducible refine Kd.C_alloc ?_ _) | (with_reducible refine Kd.C_drewN ?_ _) | (with_reducible refine Kd.C_drew ?_))); (case side2 => exact HC0.out); rintro e w' ⟨rfl, ⟨nd, rfl⟩⟩; refine ⟨_, rfl, ?_⟩) | ((with_reducible refine gate_callee (f := 48) rfl ?_); refine goesL_ (some 25) rfl rfl Try.func48 (by kernel_rfl) rfl #[.slice A1 l1.length c1, .int .i64 x6_1] rfl (by (try simp only [List.map_toArray, List.map_cons, List.map_nil]); first | done | rfl | (simp only [List.length_drop, List.length_take]; rfl)) ?_; (with_reducible refine (soukref01_Wide_at.calls _ _ l1 x6_1 true _ ?side1 ?side2 A12.out).mono ?_); (case side1 => repeat (first | exact (Kd.C_below HR1.out (by repeat (first | (with_reducible first | exact HB.out | apply below_alloc | apply pw_below_drewN | apply below_drew1) | exact HB.out))) | (with_reducible refine Kd.C_alloc ?_ _) | (with_reducible refine Kd.C_drewN ?_ _) | (with_reducible refine Kd.C_drew ?_))); (case side2 => exact HC1.out); rintro e w' ⟨rfl, ⟨nd, rfl⟩⟩; refine ⟨_, rfl, ?_⟩))
       go_ret
       exact ⟨by first | rfl | (simp [errW_none, errW_some] <;> rfl) | (simp [*, errW_none, errW_some] <;> rfl), by repeat (first | (with_reducible first | exact HB.out | apply below_alloc | apply pw_below_drewN | apply below_drew1) | exact HB.out)⟩
      ·replace c15 := Bool.eq_false_iff.mpr c15
       subst c15
       have H1 : (soukref01_less.l0 k1 l0 l1 (wrap64 (x6_1 - 1))) = some r := by rw [if_neg (show ¬ (false = true) by decide)] at H; exact H
       clear H
       have H := H1
       clear H1
       have H' := Aside0.mk H
       clear H
       go_wp2_with (first | ((with_reducible refine gate_callee (f := 48) rfl ?_); refine goesL_ (some 22) rfl rfl Try.func48 (by kernel_rfl) rfl #[.slice A0 l0.length c0, .int .i64 x6_1] rfl (by (try simp only [List.map_toArray, List.map_cons, List.map_nil]); first | done | rfl | (simp only [List.length_drop, List.length_take]; rfl)) ?_; (with_reducible refine (soukref01_Wide_at.calls _ _ l0 x6_1 false _ ?side1 ?side2 A11.out).mono ?_); (case side1 => repeat (first | exact (Kd.C_below HR0.out HB.out) | (with_reducible refine Kd.C_alloc ?_ _) | (with_reducible refine Kd.C_drewN ?_ _) | (with_reducible refine Kd.C_drew ?_))); (case side2 => exact HC0.out); rintro e w' ⟨rfl, ⟨nd, rfl⟩⟩; refine ⟨_, rfl, ?_⟩) | ((with_reducible refine gate_callee (f := 48) rfl ?_); refine goesL_ (some 25) rfl rfl Try.func48 (by kernel_rfl) rfl #[.slice A1 l1.length c1, .int .i64 x6_1] rfl (by (try simp only [List.map_toArray, List.map_cons, List.map_nil]); first | done | rfl | (simp only [List.length_drop, List.length_take]; rfl)) ?_; (with_reducible refine (soukref01_Wide_at.calls _ _ l1 x6_1 false _ ?side1 ?side2 A12.out).mono ?_); (case side1 => repeat (first | exact (Kd.C_below HR1.out (by repeat (first | (with_reducible first | exact HB.out | apply below_alloc | apply pw_below_drewN | apply below_drew1) | exact HB.out))) | (with_reducible refine Kd.C_alloc ?_ _) | (with_reducible refine Kd.C_drewN ?_ _) | (with_reducible refine Kd.C_drew ?_))); (case side2 => exact HC1.out); rintro e w' ⟨rfl, ⟨nd, rfl⟩⟩; refine ⟨_, rfl, ?_⟩))
       go_roundg k1
       case measure => have := HK1.out; omega
       case rel => exact ⟨(wrap64 (x6_1 - 1)), (by first | rfl | (simp; done) | (simp [*]; done)), H', ⟨by have := HK1.out; omega⟩, ⟨by repeat (first | (with_reducible first | exact HB.out | apply below_alloc | apply pw_below_drewN | apply below_drew1) | exact HB.out)⟩⟩
    ·rw [if_neg c10] at H
     have c10b0 : decide (0 ≤ x6_1) = false := decide_eq_false c10
     clear c10
     obtain rfl := Option.some.inj H
     go_wp2
     go_ret
     exact ⟨by first | rfl | (simp [errW_none, errW_some] <;> rfl) | (simp [*, errW_none, errW_some] <;> rfl), by repeat (first | (with_reducible first | exact HB.out | apply below_alloc | apply pw_below_drewN | apply below_drew1) | exact HB.out)⟩
end Go.Proofs.Ytncnhhnbjmpomaa.Q
namespace Go.Proofs.Ytncnhhnbjmpomaa.Q
open Go.RowKit Go.Proofs.YtncnhhnbjmpomaaW.PrintWords Go.Proofs.YtncnhhnbjmpomaaW.PrintLast Go.Proofs.YtncnhhnbjmpomaaW.PrintMore
attribute [local go_sem] max2_int min2_int max_two min_two max_three min_three max_four min_four   -- for this text's walks alone
set_option linter.unusedVariables false
set_option linter.unusedSimpArgs false
def soukref01_minus.l0 : Nat → List Bool → List Bool → List Bool → Bool → Int → Option (List Bool)
 | 0, _, _, _, _, _ => none
 | k + 1, x0, x1, x5, x6, x7 => if x7 < (x0.length : Int) then ((soukref01_Wide_at.f x0 x7).bind fun t173 => ((soukref01_Wide_at.f x1 x7).bind fun t174 => (if t173 = true then (if t174 = true then (if x6 = true then (if x5.length < 140737488355328 then (soukref01_minus.l0 k x0 x1 (x5 ++ [true]) x6 (wrap64 (x7 + 1))) else (none)) else (if x5.length < 140737488355328 then (soukref01_minus.l0 k x0 x1 (x5 ++ [false]) x6 (wrap64 (x7 + 1))) else (none))) else (if x6 = true then (if x5.length < 140737488355328 then (soukref01_minus.l0 k x0 x1 (x5 ++ [false]) false (wrap64 (x7 + 1))) else (none)) else (if x5.length < 140737488355328 then (soukref01_minus.l0 k x0 x1 (x5 ++ [true]) false (wrap64 (x7 + 1))) else (none)))) else (if t174 = true then (if x6 = true then (if x5.length < 140737488355328 then (soukref01_minus.l0 k x0 x1 (x5 ++ [false]) true (wrap64 (x7 + 1))) else (none)) else (if x5.length < 140737488355328 then (soukref01_minus.l0 k x0 x1 (x5 ++ [true]) true (wrap64 (x7 + 1))) else (none))) else (if x6 = true then (if x5.length < 140737488355328 then (soukref01_minus.l0 k x0 x1 (x5 ++ [true]) true (wrap64 (x7 + 1))) else (none)) else (if x5.length < 140737488355328 then (soukref01_minus.l0 k x0 x1 (x5 ++ [false]) false (wrap64 (x7 + 1))) else (none))))))) else ((soukref01_trim.f k x5).bind fun t199 => (some t199))
def soukref01_minus.f (k : Nat) (l0 : List Bool) (l1 : List Bool) : Option (List Bool) := soukref01_minus.l0 k l0 l1 ([] : List Bool) false 0
set_option maxHeartbeats 8000000 in
set_option maxRecDepth 100000 in
theorem soukref01_minus.calls (k : Nat) (A0 : Option Addr) (c0 : Nat) (l0 : List Bool) (A1 : Option Addr) (c1 : Nat) (l1 : List Bool) (r : List Bool) (w : World) (hr0 : Kd.C Kd.bool w A0 l0.length l0) (hc0 : l0.length ≤ c0) (hr1 : Kd.C Kd.bool w A1 l1.length l1) (hc1 : l1.length ≤ c1) (h : soukref01_minus.f k l0 l1 = some r) :
  Calls Try.prog 65 #[.slice A0 l0.length c0, .slice A1 l1.length c1] w fun e w' => ∃ v0_ : Value, e = .returned (v0_) ∧ Kd.R Kd.bool 4 w' w.heap.size (fun _ => True) v0_ r ∧ Below w.heap.size w w' := by
 have HR0 := Aside0.mk hr0
 have HC0 := Aside0.mk hc0
 clear hr0 hc0
 have HR1 := Aside0.mk hr1
 have HC1 := Aside0.mk hc1
 clear hr1 hc1
 have HB := Aside0.mk (Below.refl w.heap.size w)
 have H : (soukref01_minus.l0 k l0 l1 ([] : List Bool) false 0) = some r := h
 clear h
 have H' := Aside0.mk H
 clear H
 go_enter Try.func65, Try.ntmps65
 go_wp2
 go_loopg [5, 6, 7] k (fun kq v5 v6 v7 w' => ∃ (x5_1 : List Bool) (x6_1 : Bool) (x7_1 : Int), v6 = .bool x6_1 ∧ v7 = .int .i64 x7_1 ∧ Aside0 (soukref01_minus.l0 kq l0 l1 x5_1 x6_1 x7_1 = some r) ∧ Aside0 (kq ≤ k) ∧ Aside0 (Kd.R Kd.bool 4 w' w.heap.size (fun _ => True) v5 x5_1) ∧ Aside0 (Below w.heap.size w w'))
 case atStart => exact ⟨(([] : List Bool)), (false), (0), (by first | rfl | (simp; done) | (simp [*]; done)), (by first | rfl | (simp; done) | (simp [*]; done)), H', ⟨Nat.le_refl _⟩, ⟨by first | exact Kd.R_nil _ _ _ _ _ | exact Kd.N_nil _ _ _ _ _ | exact Kd.V_nil _ _ _ _ _ | exact Kd.Q_nil _ _ _ _ _ | exact Kd.S_nil _ _ _ _ _⟩, ⟨by repeat (first | (with_reducible first | exact HB.out | apply below_alloc | apply pw_below_drewN | apply below_drew1) | exact HB.out)⟩⟩
 case round =>
  clear H'
  try clear c1
  try clear p2
  obtain ⟨x5_1, x6_1, x7_1, rfl, rfl, HA, HK1, HO_5, HB⟩ := hrel
  cases gk with
  | zero => exact absurd HA.out (by simp [soukref01_minus.l0])
  | succ k1 =>
   have H := HA.out
   clear HA
   simp only [soukref01_minus.l0] at H
   by_cases c3 : x7_1 < (l0.length : Int)
   ·rw [if_pos c3] at H
    have c3b0 : decide (x7_1 < (l0.length : Int)) = true := decide_eq_true c3
    clear c3
    replace H := Option.bind_eq_some_iff.mp H
    obtain ⟨t173, A40, H⟩ := H
    replace H : ((soukref01_Wide_at.f l1 x7_1).bind fun t174 => (if t173 = true then (if t174 = true then (if x6_1 = true then (if x5_1.length < 140737488355328 then (soukref01_minus.l0 k1 l0 l1 (x5_1 ++ [true]) x6_1 (wrap64 (x7_1 + 1))) else (none)) else (if x5_1.length < 140737488355328 then (soukref01_minus.l0 k1 l0 l1 (x5_1 ++ [false]) x6_1 (wrap64 (x7_1 + 1))) else (none))) else (if x6_1 = true then (if x5_1.length < 140737488355328 then (soukref01_minus.l0 k1 l0 l1 (x5_1 ++ [false]) false (wrap64 (x7_1 + 1))) else (none)) else (if x5_1.length < 140737488355328 then (soukref01_minus.l0 k1 l0 l1 (x5_1 ++ [true]) false (wrap64 (x7_1 + 1))) else (none)))) else (if t174 = true then (if x6_1 = true then (if x5_1.length < 140737488355328 then (soukref01_minus.l0 k1 l0 l1 (x5_1 ++ [false]) true (wrap64 (x7_1 + 1))) else (none)) else (if x5_1.length < 140737488355328 then (soukref01_minus.l0 k1 l0 l1 (x5_1 ++ [true]) true (wrap64 (x7_1 + 1))) else (none))) else (if x6_1 = true then (if x5_1.length < 140737488355328 then (soukref01_minus.l0 k1 l0 l1 (x5_1 ++ [true]) true (wrap64 (x7_1 + 1))) else (none)) else (if x5_1.length < 140737488355328 then (soukref01_minus.l0 k1 l0 l1 (x5_1 ++ [false]) false (wrap64 (x7_1 + 1))) else (none)))))) = some r := H
    have A4 := Aside0.mk A40
    clear A40
    replace H := Option.bind_eq_some_iff.mp H
    obtain ⟨t174, A50, H⟩ := H
    replace H : (if t173 = true then (if t174 = true then (if x6_1 = true then (if x5_1.length < 140737488355328 then (soukref01_minus.l0 k1 l0 l1 (x5_1 ++ [true]) x6_1 (wrap64 (x7_1 + 1))) else (none)) else (if x5_1.length < 140737488355328 then (soukref01_minus.l0 k1 l0 l1 (x5_1 ++ [false]) x6_1 (wrap64 (x7_1 + 1))) else (none))) else (if x6_1 = true then (if x5_1.length < 140737488355328 then (soukref01_minus.l0 k1 l0 l1 (x5_1 ++ [false]) false (wrap64 (x7_1 + 1))) else (none)) else (if x5_1.length < 140737488355328 then (soukref01_minus.l0 k1 l0 l1 (x5_1 ++ [true]) false (wrap64 (x7_1 + 1))) else (none)))) else (if t174 = true then (if x6_1 = true then (if x5_1.length < 140737488355328 then (soukref01_minus.l0 k1 l0 l1 (x5_1 ++ [false]) true (wrap64 (x7_1 + 1))) else (none)) else (if x5_1.length < 140737488355328 then (soukref01_minus.l0 k1 l0 l1 (x5_1 ++ [true]) true (wrap64 (x7_1 + 1))) else (none))) else (if x6_1 = true then (if x5_1.length < 140737488355328 then (soukref01_minus.l0 k1 l0 l1 (x5_1 ++ [true]) true (wrap64 (x7_1 + 1))) else (none)) else (if x5_1.length < 140737488355328 then (soukref01_minus.l0 k1 l0 l1 (x5_1 ++ [false]) false (wrap64 (x7_1 + 1))) else (none))))) = some r := H
    have A5 := Aside0.mk A50
    clear A50
    by_cases c6 : t173 = true
    ·subst c6
     have H1 : (if t174 = true then (if x6_1 = true then (if x5_1.length < 140737488355328 then (soukref01_minus.l0 k1 l0 l1 (x5_1 ++ [true]) x6_1 (wrap64 (x7_1 + 1))) else (none)) else (if x5_1.length < 140737488355328 then (soukref01_minus.l0 k1 l0 l1 (x5_1 ++ [false]) x6_1 (wrap64 (x7_1 + 1))) else (none))) else (if x6_1 = true then (if x5_1.length < 140737488355328 then (soukref01_minus.l0 k1 l0 l1 (x5_1 ++ [false]) false (wrap64 (x7_1 + 1))) else (none)) else (if x5_1.length < 140737488355328 then (soukref01_minus.l0 k1 l0 l1 (x5_1 ++ [true]) false (wrap64 (x7_1 + 1))) else (none)))) = some r := by rw [if_pos rfl] at H; exact H
     clear H
     have H := H1
     clear H1
     by_cases c7 : t174 = true
     ·subst c7
      have H1 : (if x6_1 = true then (if x5_1.length < 140737488355328 then (soukref01_minus.l0 k1 l0 l1 (x5_1 ++ [true]) x6_1 (wrap64 (x7_1 + 1))) else (none)) else (if x5_1.length < 140737488355328 then (soukref01_minus.l0 k1 l0 l1 (x5_1 ++ [false]) x6_1 (wrap64 (x7_1 + 1))) else (none))) = some r := by rw [if_pos rfl] at H; exact H
      clear H
      have H := H1
      clear H1
      by_cases c8 : x6_1 = true
      ·subst c8
       have H1 : (if x5_1.length < 140737488355328 then (soukref01_minus.l0 k1 l0 l1 (x5_1 ++ [true]) true (wrap64 (x7_1 + 1))) else (none)) = some r := by rw [if_pos rfl] at H; exact H
       clear H
       have H := H1
       clear H1
       by_cases c9 : x5_1.length < 140737488355328
       ·rw [if_pos c9] at H
        have LMc9 := Aside0.mk c9
        clear c9
        obtain ⟨y175, hy175⟩ : ∃ y_ : List Bool, y_ = (x5_1 ++ [true]) := ⟨_, rfl⟩
        replace H : (soukref01_minus.l0 k1 l0 l1 y175 true (wrap64 (x7_1 + 1))) = some r := by first | (rw [hy175]; with_reducible exact H) | (have H2_ := (Option.bind_some _ _).symm.trans H; rw [hy175]; with_reducible exact H2_) | (have H2_ := (Option.bind_some _ _).symm.trans H; with_reducible exact H2_) | with_reducible exact H | (rw [hy175]; exact H) | exact H
        have Ny175 := Aside0.mk hy175
        clear hy175
        have H' := Aside0.mk H
        clear H
        go_wp2_with (first | ((with_reducible refine gate_callee (f := 48) rfl ?_); refine goesL_ (some 18) rfl rfl Try.func48 (by kernel_rfl) rfl #[.slice A0 l0.length c0, .int .i64 x7_1] rfl (by (try simp only [List.map_toArray, List.map_cons, List.map_nil]); first | done | rfl | (simp only [List.length_drop, List.length_take]; rfl)) ?_; (with_reducible refine (soukref01_Wide_at.calls _ _ l0 x7_1 true _ ?side1 ?side2 A4.out).mono ?_); (case side1 => repeat (first | exact (Kd.C_below HR0.out HB.out) | (with_reducible refine Kd.C_alloc ?_ _) | (with_reducible refine Kd.C_drewN ?_ _) | (with_reducible refine Kd.C_drew ?_))); (case side2 => exact HC0.out); rintro e w' ⟨rfl, ⟨nd, rfl⟩⟩; refine ⟨_, rfl, ?_⟩) | ((with_reducible refine gate_callee (f := 48) rfl ?_); refine goesL_ (some 21) rfl rfl Try.func48 (by kernel_rfl) rfl #[.slice A1 l1.length c1, .int .i64 x7_1] rfl (by (try simp only [List.map_toArray, List.map_cons, List.map_nil]); first | done | rfl | (simp only [List.length_drop, List.length_take]; rfl)) ?_; (with_reducible refine (soukref01_Wide_at.calls _ _ l1 x7_1 true _ ?side1 ?side2 A5.out).mono ?_); (case side1 => repeat (first | exact (Kd.C_below HR1.out (by repeat (first | (with_reducible first | exact HB.out | apply below_alloc | apply pw_below_drewN | apply below_drew1) | exact HB.out))) | (with_reducible refine Kd.C_alloc ?_ _) | (with_reducible refine Kd.C_drewN ?_ _) | (with_reducible refine Kd.C_drew ?_))); (case side2 => exact HC1.out); rintro e w' ⟨rfl, ⟨nd, rfl⟩⟩; refine ⟨_, rfl, ?_⟩) | ((with_reducible refine gate_builtin (b := .append) (xs := #[.tmp 22, .tmp 28]) rfl ?_); at_builtin; refine Kd.R_append Kd.bool (w0 := w) w.heap.size rfl (.tmp 22) (.tmp 28) 87 4 (.bool false) 1 rfl Try.underlying87 info4 rfl (by decide) (by omega) u5 x5_1 true [.bool true] (fun _ => True) (fun _ => False) rfl rfl ?aP (fun _ hk => hk.elim) ?aF ?aO ?aB ?aS ?aL ?_; (case aP => exact rfl); (case aB => exact (by repeat (first | (with_reducible first | exact HB.out | apply below_alloc | apply pw_below_drewN | apply below_drew1) | exact HB.out))); (case aF => exact (fun _ _ => trivial)); (case aO => exact (by (with_reducible repeat (first | apply Kd.R_alloc | apply Kd.R_drewN | apply Kd.R_drew)); exact HO_5.out)); (case aS => exact (below_size (by repeat (first | (with_reducible first | exact HB.out | apply below_alloc | apply pw_below_drewN | apply below_drew1) | exact HB.out)))); (case aL => have := LMc9.out; omega); intro v176 w10 ho hb hg hat; rw [← Ny175.out] at ho; have n0_ := Aside0.mk (hb); have n1_ := Aside0.mk (ho); clear HB; clear HO_5; have HB := n0_; have HO177 := n1_; clear n0_ n1_; clear ho hb hg hat))
        go_roundg k1
        case measure => have := HK1.out; omega
        case rel => exact ⟨(y175), (true), (wrap64 (x7_1 + 1)), (by first | rfl | (simp; done) | (simp [*]; done)), (by first | rfl | (simp; done) | (simp [*]; done)), H', ⟨by have := HK1.out; omega⟩, ⟨by (with_reducible repeat (first | apply Kd.R_alloc | apply Kd.R_drewN | apply Kd.R_drew)); exact HO177.out⟩, ⟨by repeat (first | (with_reducible first | exact HB.out | apply below_alloc | apply pw_below_drewN | apply below_drew1) | exact HB.out)⟩⟩
       ·rw [if_neg c9] at H
        exact absurd H (by simp)
      ·replace c8 := Bool.eq_false_iff.mpr c8
       subst c8
       have H1 : (if x5_1.length < 140737488355328 then (soukref01_minus.l0 k1 l0 l1 (x5_1 ++ [false]) false (wrap64 (x7_1 + 1))) else (none)) = some r := by rw [if_neg (show ¬ (false = true) by decide)] at H; exact H
       clear H
       have H := H1
       clear H1
       by_cases c11 : x5_1.length < 140737488355328
       ·rw [if_pos c11] at H
        have LMc11 := Aside0.mk c11
        clear c11
        obtain ⟨y178, hy178⟩ : ∃ y_ : List Bool, y_ = (x5_1 ++ [false]) := ⟨_, rfl⟩
        replace H : (soukref01_minus.l0 k1 l0 l1 y178 false (wrap64 (x7_1 + 1))) = some r := by first | (rw [hy178]; with_reducible exact H) | (have H2_ := (Option.bind_some _ _).symm.trans H; rw [hy178]; with_reducible exact H2_) | (have H2_ := (Option.bind_some _ _).symm.trans H; with_reducible exact H2_) | with_reducible exact H | (rw [hy178]; exact H) | exact H
        have Ny178 := Aside0.mk hy178
        clear hy178
        have H' := Aside0.mk H
        clear H
        go_wp2_with (first | ((with_reducible refine gate_callee (f := 48) rfl ?_); refine goesL_ (some 18) rfl rfl Try.func48 (by kernel_rfl) rfl #[.slice A0 l0.length c0, .int .i64 x7_1] rfl (by (try simp only [List.map_toArray, List.map_cons, List.map_nil]); first | done | rfl | (simp only [List.length_drop, List.length_take]; rfl)) ?_; (with_reducible refine (soukref01_Wide_at.calls _ _ l0 x7_1 true _ ?side1 ?side2 A4.out).mono ?_); (case side1 => repeat (first | exact (Kd.C_below HR0.out HB.out) | (with_reducible refine Kd.C_alloc ?_ _) | (with_reducible refine Kd.C_drewN ?_ _) | (with_reducible refine Kd.C_drew ?_))); (case side2 => exact HC0.out); rintro e w' ⟨rfl, ⟨nd, rfl⟩⟩; refine ⟨_, rfl, ?_⟩) | ((with_reducible refine gate_callee (f := 48) rfl ?_); refine goesL_ (some 21) rfl rfl Try.func48 (by kernel_rfl) rfl #[.slice A1 l1.length c1, .int .i64 x7_1] rfl (by (try simp only [List.map_toArray, List.map_cons, List.map_nil]); first | done | rfl | (simp only [List.length_drop, List.length_take]; rfl)) ?_; (with_reducible refine (soukref01_Wide_at.calls _ _ l1 x7_1 true _ ?side1 ?side2 A5.out).mono ?_); (case side1 => repeat (first | exact (Kd.C_below HR1.out (by repeat (first | (with_reducible first | exact HB.out | apply below_alloc | apply pw_below_drewN | apply below_drew1) | exact HB.out))) | (with_reducible refine Kd.C_alloc ?_ _) | (with_reducible refine Kd.C_drewN ?_ _) | (with_reducible refine Kd.C_drew ?_))); (case side2 => exact HC1.out); rintro e w' ⟨rfl, ⟨nd, rfl⟩⟩; refine ⟨_, rfl, ?_⟩) | ((with_reducible refine gate_builtin (b := .append) (xs := #[.tmp 22, .tmp 28]) rfl ?_); at_builtin; refine Kd.R_append Kd.bool (w0 := w) w.heap.size rfl (.tmp 22) (.tmp 28) 87 4 (.bool false) 1 rfl Try.underlying87 info4 rfl (by decide) (by omega) u5 x5_1 false [.bool false] (fun _ => True) (fun _ => False) rfl rfl ?aP (fun _ hk => hk.elim) ?aF ?aO ?aB ?aS ?aL ?_; (case aP => exact rfl); (case aB => exact (by repeat (first | (with_reducible first | exact HB.out | apply below_alloc | apply pw_below_drewN | apply below_drew1) | exact HB.out))); (case aF => exact (fun _ _ => trivial)); (case aO => exact (by (with_reducible repeat (first | apply Kd.R_alloc | apply Kd.R_drewN | apply Kd.R_drew)); exact HO_5.out)); (case aS => exact (below_size (by repeat (first | (with_reducible first | exact HB.out | apply below_alloc | apply pw_below_drewN | apply below_drew1) | exact HB.out)))); (case aL => have := LMc11.out; omega); intro v179 w12 ho hb hg hat; rw [← Ny178.out] at ho; have n0_ := Aside0.mk (hb); have n1_ := Aside0.mk (ho); clear HB; clear HO_5; have HB := n0_; have HO180 := n1_; clear n0_ n1_; clear ho hb hg hat))
        go_roundg k1
        case measure => have := HK1.out; omega
        case rel => exact ⟨(y178), (false), (wrap64 (x7_1 + 1)), (by first | rfl | (simp; done) | (simp [*]; done)), (by first | rfl | (simp; done) | (simp [*]; done)), H', ⟨by have := HK1.out; omega⟩, ⟨by (with_reducible repeat (first | apply Kd.R_alloc | apply Kd.R_drewN | apply Kd.R_drew)); exact HO180.out⟩, ⟨by repeat (first | (with_reducible first | exact HB.out | apply below_alloc | apply pw_below_drewN | apply below_drew1) | exact HB.out)⟩⟩
       ·rw [if_neg c11] at H
        exact absurd H (by simp)
     ·replace c7 := Bool.eq_false_iff.mpr c7
      subst c7
      have H1 : (if x6_1 = true then (if x5_1.length < 140737488355328 then (soukref01_minus.l0 k1 l0 l1 (x5_1 ++ [false]) false (wrap64 (x7_1 + 1))) else (none)) else (if x5_1.length < 140737488355328 then (soukref01_minus.l0 k1 l0 l1 (x5_1 ++ [true]) false (wrap64 (x7_1 + 1))) else (none))) = some r := by rw [if_neg (show ¬ (false = true) by decide)] at H; exact H
      clear H
      have H := H1
      clear H1
      by_cases c13 : x6_1 = true
      ·subst c13
       have H1 : (if x5_1.length < 140737488355328 then (soukref01_minus.l0 k1 l0 l1 (x5_1 ++ [false]) false (wrap64 (x7_1 + 1))) else (none)) = some r := by rw [if_pos rfl] at H; exact H
       clear H
       have H := H1
       clear H1
       by_cases c14 : x5_1.length < 140737488355328
       ·rw [if_pos c14] at H
        have LMc14 := Aside0.mk c14
        clear c14
        obtain ⟨y181, hy181⟩ : ∃ y_ : List Bool, y_ = (x5_1 ++ [false]) := ⟨_, rfl⟩
        replace H : (soukref01_minus.l0 k1 l0 l1 y181 false (wrap64 (x7_1 + 1))) = some r := by first | (rw [hy181]; with_reducible exact H) | (have H2_ := (Option.bind_some _ _).symm.trans H; rw [hy181]; with_reducible exact H2_) | (have H2_ := (Option.bind_some _ _).symm.trans H; with_reducible exact H2_) | with_reducible exact H | (rw [hy181]; exact H) | exact H
        have Ny181 := Aside0.mk hy181
        clear hy181
        have H' := Aside0.mk H
        clear H
        go_wp2_with (first | ((with_reducible refine gate_callee (f := 48) rfl ?_); refine goesL_ (some 18) rfl rfl Try.func48 (by kernel_rfl) rfl #[.slice A0 l0.length c0, .int .i64 x7_1] rfl (by (try simp only [List.map_toArray, List.map_cons, List.map_nil]); first | done | rfl | (simp only [List.length_drop, List.length_take]; rfl)) ?_; (with_reducible refine (soukref01_Wide_at.calls _ _ l0 x7_1 true _ ?side1 ?side2 A4.out).mono ?_); (case side1 => repeat (first | exact (Kd.C_below HR0.out HB.out) | (with_reducible refine Kd.C_alloc ?_ _) | (with_reducible refine Kd.C_drewN ?_ _) | (with_reducible refine Kd.C_drew ?_))); (case side2 => exact HC0.out); rintro e w' ⟨rfl, ⟨nd, rfl⟩⟩; refine ⟨_, rfl, ?_⟩) | ((with_reducible refine gate_callee (f := 48) rfl ?_); refine goesL_ (some 21) rfl rfl Try.func48 (by kernel_rfl) rfl #[.slice A1 l1.length c1, .int .i64 x7_1] rfl (by (try simp only [List.map_toArray, List.map_cons, List.map_nil]); first | done | rfl | (simp only [List.length_drop, List.length_take]; rfl)) ?_; (with_reducible refine (soukref01_Wide_at.calls _ _ l1 x7_1 false _ ?side1 ?side2 A5.out).mono ?_); (case side1 => repeat (first | exact (Kd.C_below HR1.out (by repeat (first | (with_reducible first | exact HB.out | apply below_alloc | apply pw_below_drewN | apply below_drew1) | exact HB.out))) | (with_reducible refine Kd.C_alloc ?_ _) | (with_reducible refine Kd.C_drewN ?_ _) | (with_reducible refine Kd.C_drew ?_))); (case side2 => exact HC1.out); rintro e w' ⟨rfl, ⟨nd, rfl⟩⟩; refine ⟨_, rfl, ?_⟩) | ((with_reducible refine gate_builtin (b := .append) (xs := #[.tmp 22, .tmp 28]) rfl ?_); at_builtin; refine Kd.R_append Kd.bool (w0 := w) w.heap.size rfl (.tmp 22) (.tmp 28) 87 4 (.bool false) 1 rfl Try.underlying87 info4 rfl (by decide) (by omega) u5 x5_1 false [.bool false] (fun _ => True) (fun _ => False) rfl rfl ?aP (fun _ hk => hk.elim) ?aF ?aO ?aB ?aS ?aL ?_; (case aP => exact rfl); (case aB => exact (by repeat (first | (with_reducible first | exact HB.out | apply below_alloc | apply pw_below_drewN | apply below_drew1) | exact HB.out))); (case aF => exact (fun _ _ => trivial)); (case aO => exact (by (with_reducible repeat (first | apply Kd.R_alloc | apply Kd.R_drewN | apply Kd.R_drew)); exact HO_5.out)); (case aS => exact (below_size (by repeat (first | (with_reducible first | exact HB.out | apply below_alloc | apply pw_below_drewN | apply below_drew1) | exact HB.out)))); (case aL => have := LMc14.out; omega); intro v182 w15 ho hb hg hat; rw [← Ny181.out] at ho; have n0_ := Aside0.mk (hb); have n1_ := Aside0.mk (ho); clear HB; clear HO_5; have HB := n0_; have HO183 := n1_; clear n0_ n1_; clear ho hb hg hat))
        go_roundg k1
        case measure => have := HK1.out; omega
        case rel => exact ⟨(y181), (false), (wrap64 (x7_1 + 1)), (by first | rfl | (simp; done) | (simp [*]; done)), (by first | rfl | (simp; done) | (simp [*]; done)), H', ⟨by have := HK1.out; omega⟩, ⟨by (with_reducible repeat (first | apply Kd.R_alloc | apply Kd.R_drewN | apply Kd.R_drew)); exact HO183.out⟩, ⟨by repeat (first | (with_reducible first | exact HB.out | apply below_alloc | apply pw_below_drewN | apply below_drew1) | exact HB.out)⟩⟩
       ·rw [if_neg c14] at H
        exact absurd H (by simp)
      ·replace c13 := Bool.eq_false_iff.mpr c13
       subst c13
       have H1 : (if x5_1.length < 140737488355328 then (soukref01_minus.l0 k1 l0 l1 (x5_1 ++ [true]) false (wrap64 (x7_1 + 1))) else (none)) = some r := by rw [if_neg (show ¬ (false = true) by decide)] at H; exact H
       clear H
       have H := H1
       clear H1
       by_cases c16 : x5_1.length < 140737488355328
       ·rw [if_pos c16] at H
        have LMc16 := Aside0.mk c16
        clear c16
        obtain ⟨y184, hy184⟩ : ∃ y_ : List Bool, y_ = (x5_1 ++ [true]) := ⟨_, rfl⟩
        replace H : (soukref01_minus.l0 k1 l0 l1 y184 false (wrap64 (x7_1 + 1))) = some r := by first | (rw [hy184]; with_reducible exact H) | (have H2_ := (Option.bind_some _ _).symm.trans H; rw [hy184]; with_reducible exact H2_) | (have H2_ := (Option.bind_some _ _).symm.trans H; with_reducible exact H2_) | with_reducible exact H | (rw [hy184]; exact H) | exact H
        have Ny184 := Aside0.mk hy184
        clear hy184
        have H' := Aside0.mk H
        clear H
        go_wp2_with (first | ((with_reducible refine gate_callee (f := 48) rfl ?_); refine goesL_ (some 18) rfl rfl Try.func48 (by kernel_rfl) rfl #[.slice A0 l0.length c0, .int .i64 x7_1] rfl (by (try simp only [List.map_toArray, List.map_cons, List.map_nil]); first | done | rfl | (simp only [List.length_drop, List.length_take]; rfl)) ?_; (with_reducible refine (soukref01_Wide_at.calls _ _ l0 x7_1 true _ ?side1 ?side2 A4.out).mono ?_); (case side1 => repeat (first | exact (Kd.C_below HR0.out HB.out) | (with_reducible refine Kd.C_alloc ?_ _) | (with_reducible refine Kd.C_drewN ?_ _) | (with_reducible refine Kd.C_drew ?_))); (case side2 => exact HC0.out); rintro e w' ⟨rfl, ⟨nd, rfl⟩⟩; refine ⟨_, rfl, ?_⟩) | ((with_reducible refine gate_callee (f := 48) rfl ?_); refine goesL_ (some 21) rfl rfl Try.func48 (by kernel_rfl) rfl #[.slice A1 l1.length c1, .int .i64 x7_1] rfl (by (try simp only [List.map_toArray, List.map_cons, List.map_nil]); first | done | rfl | (simp only [List.length_drop, List.length_take]; rfl)) ?_; (with_reducible refine (soukref01_Wide_at.calls _ _ l1 x7_1 false _ ?side1 ?side2 A5.out).mono ?_); (case side1 => repeat (first | exact (Kd.C_below HR1.out (by repeat (first | (with_reducible first | exact HB.out | apply below_alloc | apply pw_below_drewN | apply below_drew1) | exact HB.out))) | (with_reducible refine Kd.C_alloc ?_ _) | (with_reducible refine Kd.C_drewN ?_ _) | (with_reducible refine Kd.C_drew ?_))); (case side2 => exact HC1.out); rintro e w' ⟨rfl, ⟨nd, rfl⟩⟩; refine ⟨_, rfl, ?_⟩) | ((with_reducible refine gate_builtin (b := .append) (xs := #[.tmp 22, .tmp 28]) rfl ?_); at_builtin; refine Kd.R_append Kd.bool (w0 := w) w.heap.size rfl (.tmp 22) (.tmp 28) 87 4 (.bool false) 1 rfl Try.underlying87 info4 rfl (by decide) (by omega) u5 x5_1 true [.bool true] (fun _ => True) (fun _ => False) rfl rfl ?aP (fun _ hk => hk.elim) ?aF ?aO ?aB ?aS ?aL ?_; (case aP => exact rfl); (case aB => exact (by repeat (first | (with_reducible first | exact HB.out | apply below_alloc | apply pw_below_drewN | apply below_drew1) | exact HB.out))); (case aF => exact (fun _ _ => trivial)); (case aO => exact (by (with_reducible repeat (first | apply Kd.R_alloc | apply Kd.R_drewN | apply Kd.R_drew)); exact HO_5.out)); (case aS => exact (below_size (by repeat (first | (with_reducible first | exact HB.out | apply below_alloc | apply pw_below_drewN | apply below_drew1) | exact HB.out)))); (case aL => have := LMc16.out; omega); intro v185 w17 ho hb hg hat; rw [← Ny184.out] at ho; have n0_ := Aside0.mk (hb); have n1_ := Aside0.mk (ho); clear HB; clear HO_5; have HB := n0_; have HO186 := n1_; clear n0_ n1_; clear ho hb hg hat))
        go_roundg k1
        case measure => have := HK1.out; omega
        case rel => exact ⟨(y184), (false), (wrap64 (x7_1 + 1)), (by first | rfl | (simp; done) | (simp [*]; done)), (by first | rfl | (simp; done) | (simp [*]; done)), H', ⟨by have := HK1.out; omega⟩, ⟨by (with_reducible repeat (first | apply Kd.R_alloc | apply Kd.R_drewN | apply Kd.R_drew)); exact HO186.out⟩, ⟨by repeat (first | (with_reducible first | exact HB.out | apply below_alloc | apply pw_below_drewN | apply below_drew1) | exact HB.out)⟩⟩
       ·rw [if_neg c16] at H
        exact absurd H (by simp)
    ·replace c6 := Bool.eq_false_iff.mpr c6
     subst c6
     have H1 : (if t174 = true then (if x6_1 = true then (if x5_1.length < 140737488355328 then (soukref01_minus.l0 k1 l0 l1 (x5_1 ++ [false]) true (wrap64 (x7_1 + 1))) else (none)) else (if x5_1.length < 140737488355328 then (soukref01_minus.l0 k1 l0 l1 (x5_1 ++ [true]) true (wrap64 (x7_1 + 1))) else (none))) else (if x6_1 = true then (if x5_1.length < 140737488355328 then (soukref01_minus.l0 k1 l0 l1 (x5_1 ++ [true]) true (wrap64 (x7_1 + 1))) else (none)) else (if x5_1.length < 140737488355328 then (soukref01_minus.l0 k1 l0 l1 (x5_1 ++ [false]) false (wrap64 (x7_1 + 1))) else (none)))) = some r := by rw [if_neg (show ¬ (false = true) by decide)] at H; exact H
     clear H
     have H := H1
     clear H1
     by_cases c18 : t174 = true
     ·subst c18
      have H1 : (if x6_1 = true then (if x5_1.length < 140737488355328 then (soukref01_minus.l0 k1 l0 l1 (x5_1 ++ [false]) true (wrap64 (x7_1 + 1))) else (none)) else (if x5_1.length < 140737488355328 then (soukref01_minus.l0 k1 l0 l1 (x5_1 ++ [true]) true (wrap64 (x7_1 + 1))) else (none))) = some r := by rw [if_pos rfl] at H; exact H
      clear H
      have H := H1
      clear H1
      by_cases c19 : x6_1 = true
      ·subst c19
       have H1 : (if x5_1.length < 140737488355328 then (soukref01_minus.l0 k1 l0 l1 (x5_1 ++ [false]) true (wrap64 (x7_1 + 1))) else (none)) = some r := by rw [if_pos rfl] at H; exact H
       clear H
       have H := H1
       clear H1
       by_cases c20 : x5_1.length < 140737488355328
       ·rw [if_pos c20] at H
        have LMc20 := Aside0.mk c20
        clear c20
        obtain ⟨y187, hy187⟩ : ∃ y_ : List Bool, y_ = (x5_1 ++ [false]) := ⟨_, rfl⟩
        replace H : (soukref01_minus.l0 k1 l0 l1 y187 true (wrap64 (x7_1 + 1))) = some r := by first | (rw [hy187]; with_reducible exact H) | (have H2_ := (Option.bind_some _ _).symm.trans H; rw [hy187]; with_reducible exact H2_) | (have H2_ := (Option.bind_some _ _).symm.trans H; with_reducible exact H2_) | with_reducible exact H | (rw [hy187]; exact H) | exact H
        have Ny187 := Aside0.mk hy187
        clear hy187
        have H' := Aside0.mk H
        clear H
        go_wp2_with (first | ((with_reducible refine gate_callee (f := 48) rfl ?_); refine goesL_ (some 18) rfl rfl Try.func48 (by kernel_rfl) rfl #[.slice A0 l0.length c0, .int .i64 x7_1] rfl (by (try simp only [List.map_toArray, List.map_cons, List.map_nil]); first | done | rfl | (simp only [List.length_drop, List.length_take]; rfl)) ?_; (with_reducible refine (soukref01_Wide_at.calls _ _ l0 x7_1 false _ ?side1 ?side2 A4.out).mono ?_); (case side1 => repeat (first | exact (Kd.C_below HR0.out HB.out) | (with_reducible refine Kd.C_alloc ?_ _) | (with_reducible refine Kd.C_drewN ?_ _) | (with_reducible refine Kd.C_drew ?_))); (case side2 => exact HC0.out); rintro e w' ⟨rfl, ⟨nd, rfl⟩⟩; refine ⟨_, rfl, ?_⟩) | ((with_reducible refine gate_callee (f := 48) rfl ?_); refine goesL_ (some 21) rfl rfl Try.func48 (by kernel_rfl) rfl #[.slice A1 l1.length c1, .int .i64 x7_1] rfl (by (try simp only [List.map_toArray, List.map_cons, List.map_nil]); first | done | rfl | (simp only [List.length_drop, List.length_take]; rfl)) ?_; (with_reducible refine (soukref01_Wide_at.calls _ _ l1 x7_1 true _ ?side1 ?side2 A5.out).mono ?_); (case side1 => repeat (first | exact (Kd.C_below HR1.out (by repeat (first | (with_reducible first | exact HB.out | apply below_alloc | apply pw_below_drewN | apply below_drew1) | exact HB.out))) | (with_reducible refine Kd.C_alloc ?_ _) | (with_reducible refine Kd.C_drewN ?_ _) | (with_reducible refine Kd.C_drew ?_))); (case side2 => exact HC1.out); rintro e w' ⟨rfl, ⟨nd, rfl⟩⟩; refine ⟨_, rfl, ?_⟩) | ((with_reducible refine gate_builtin (b := .append) (xs := #[.tmp 22, .tmp 28]) rfl ?_); at_builtin; refine Kd.R_append Kd.bool (w0 := w) w.heap.size rfl (.tmp 22) (.tmp 28) 87 4 (.bool false) 1 rfl Try.underlying87 info4 rfl (by decide) (by omega) u5 x5_1 false [.bool false] (fun _ => True) (fun _ => False) rfl rfl ?aP (fun _ hk => hk.elim) ?aF ?aO ?aB ?aS ?aL ?_; (case aP => exact rfl); (case aB => exact (by repeat (first | (with_reducible first | exact HB.out | apply below_alloc | apply pw_below_drewN | apply below_drew1) | exact HB.out))); (case aF => exact (fun _ _ => trivial)); (case aO => exact (by (with_reducible repeat (first | apply Kd.R_alloc | apply Kd.R_drewN | apply Kd.R_drew)); exact HO_5.out)); (case aS => exact (below_size (by repeat (first | (with_reducible first | exact HB.out | apply below_alloc | apply pw_below_drewN | apply below_drew1) | exact HB.out)))); (case aL => have := LMc20.out; omega); intro v188 w21 ho hb hg hat; rw [← Ny187.out] at ho; have n0_ := Aside0.mk (hb); have n1_ := Aside0.mk (ho); clear HB; clear HO_5; have HB := n0_; have HO189 := n1_; clear n0_ n1_; clear ho hb hg hat))
        go_roundg k1
        case measure => have := HK1.out; omega
        case rel => exact ⟨(y187), (true), (wrap64 (x7_1 + 1)), (by first | rfl | (simp; done) | (simp [*]; done)), (by first | rfl | (simp; done) | (simp [*]; done)), H', ⟨by have := HK1.out; omega⟩, ⟨by (with_reducible repeat (first | apply Kd.R_alloc | apply Kd.R_drewN | apply Kd.R_drew)); exact HO189.out⟩, ⟨by repeat (first | (with_reducible first | exact HB.out | apply below_alloc | apply pw_below_drewN | apply below_drew1) | exact HB.out)⟩⟩
       ·rw [if_neg c20] at H
        exact absurd H (by simp)
      ·replace c19 := Bool.eq_false_iff.mpr c19
       subst c19
       have H1 : (if x5_1.length < 140737488355328 then (soukref01_minus.l0 k1 l0 l1 (x5_1 ++ [true]) true (wrap64 (x7_1 + 1))) else (none)) = some r := by rw [if_neg (show ¬ (false = true) by decide)] at H; exact H
       clear H
       have H := H1
       clear H1
       by_cases c22 : x5_1.length < 140737488355328
       ·rw [if_pos c22] at H
        have LMc22 := Aside0.mk c22
        clear c22
        obtain ⟨y190, hy190⟩ : ∃ y_ : List Bool, y_ = (x5_1 ++ [true]) := ⟨_, rfl⟩
        replace H : (soukref01_minus.l0 k1 l0 l1 y190 true (wrap64 (x7_1 + 1))) = some r := by first | (rw [hy190]; with_reducible exact H) | (have H2_ := (Option.bind_some _ _).symm.trans H; rw [hy190]; with_reducible exact H2_) | (have H2_ := (Option.bind_some _ _).symm.trans H; with_reducible exact H2_) | with_reducible exact H | (rw [hy190]; exact H) | exact H
        have Ny190 := Aside0.mk hy190
        clear hy190
        have H' := Aside0.mk H
        clear H
        go_wp2_with (first | ((with_reducible refine gate_callee (f := 48) rfl ?_); refine goesL_ (some 18) rfl rfl Try.func48 (by kernel_rfl) rfl #[.slice A0 l0.length c0, .int .i64 x7_1] rfl (by (try simp only [List.map_toArray, List.map_cons, List.map_nil]); first | done | rfl | (simp only [List.length_drop, List.length_take]; rfl)) ?_; (with_reducible refine (soukref01_Wide_at.calls _ _ l0 x7_1 false _ ?side1 ?side2 A4.out).mono ?_); (case side1 => repeat (first | exact (Kd.C_below HR0.out HB.out) | (with_reducible refine Kd.C_alloc ?_ _) | (with_reducible refine Kd.C_drewN ?_ _) | (with_reducible refine Kd.C_drew ?_))); (case side2 => exact HC0.out); rintro e w' ⟨rfl, ⟨nd, rfl⟩⟩; refine ⟨_, rfl, ?_⟩) | ((with_reducible refine gate_callee (f := 48) rfl ?_); refine goesL_ (some 21) rfl rfl Try.func48 (by kernel_rfl) rfl #[.slice A1 l1.length c1, .int .i64 x7_1] rfl (by (try simp only [List.map_toArray, List.map_cons, List.map_nil]); first | done | rfl | (simp only [List.length_drop, List.length_take]; rfl)) ?_; (with_reducible refine (soukref01_Wide_at.calls _ _ l1 x7_1 true _ ?side1 ?side2 A5.out).mono ?_); (case side1 => repeat (first | exact (Kd.C_below HR1.out (by repeat (first | (with_reducible first | exact HB.out | apply below_alloc | apply pw_below_drewN | apply below_drew1) | exact HB.out))) | (with_reducible refine Kd.C_alloc ?_ _) | (with_reducible refine Kd.C_drewN ?_ _) | (with_reducible refine Kd.C_drew ?_))); (case side2 => exact HC1.out); rintro e w' ⟨rfl, ⟨nd, rfl⟩⟩; refine ⟨_, rfl, ?_⟩) | ((with_reducible refine gate_builtin (b := .append) (xs := #[.tmp 22, .tmp 28]) rfl ?_); at_builtin; refine Kd.R_append Kd.bool (w0 := w) w.heap.size rfl (.tmp 22) (.tmp 28) 87 4 (.bool false) 1 rfl Try.underlying87 info4 rfl (by decide) (by omega) u5 x5_1 true [.bool true] (fun _ => True) (fun _ => False) rfl rfl ?aP (fun _ hk => hk.elim) ?aF ?aO ?aB ?aS ?aL ?_; (case aP => exact rfl); (case aB => exact (by repeat (first | (with_reducible first | exact HB.out | apply below_alloc | apply pw_below_drewN | apply below_drew1) | exact HB.out))); (case aF => exact (fun _ _ => trivial)); (case aO => exact (by (with_reducible repeat (first | apply Kd.R_alloc | apply Kd.R_drewN | apply Kd.R_drew)); exact HO_5.out)); (case aS => exact (below_size (by repeat (first | (with_reducible first | exact HB.out | apply below_alloc | apply pw_below_drewN | apply below_drew1) | exact HB.out)))); (case aL => have := LMc22.out; omega); intro v191 w23 ho hb hg hat; rw [← Ny190.out] at ho; have n0_ := Aside0.mk (hb); have n1_ := Aside0.mk (ho); clear HB; clear HO_5; have HB := n0_; have HO192 := n1_; clear n0_ n1_; clear ho hb hg hat))
        go_roundg k1
        case measure => have := HK1.out; omega
        case rel => exact ⟨(y190), (true), (wrap64 (x7_1 + 1)), (by first | rfl | (simp; done) | (simp [*]; done)), (by first | rfl | (simp; done) | (simp [*]; done)), H', ⟨by have := HK1.out; omega⟩, ⟨by (with_reducible repeat (first | apply Kd.R_alloc | apply Kd.R_drewN | apply Kd.R_drew)); exact HO192.out⟩, ⟨by repeat (first | (with_reducible first | exact HB.out | apply below_alloc | apply pw_below_drewN | apply below_drew1) | exact HB.out)⟩⟩
       ·rw [if_neg c22] at H
        exact absurd H (by simp)
     ·replace c18 := Bool.eq_false_iff.mpr c18
      subst c18
      have H1 : (if x6_1 = true then (if x5_1.length < 140737488355328 then (soukref01_minus.l0 k1 l0 l1 (x5_1 ++ [true]) true (wrap64 (x7_1 + 1))) else (none)) else (if x5_1.length < 140737488355328 then (soukref01_minus.l0 k1 l0 l1 (x5_1 ++ [false]) false (wrap64 (x7_1 + 1))) else (none))) = some r := by rw [if_neg (show ¬ (false = true) by decide)] at H; exact H
      clear H
      have H := H1
      clear H1
      by_cases c24 : x6_1 = true
      ·subst c24
       have H1 : (if x5_1.length < 140737488355328 then (soukref01_minus.l0 k1 l0 l1 (x5_1 ++ [true]) true (wrap64 (x7_1 + 1))) else (none)) = some r := by rw [if_pos rfl] at H; exact H
       clear H
       have H := H1
       clear H1
       by_cases c25 : x5_1.length < 140737488355328
       ·rw [if_pos c25] at H
        have LMc25 := Aside0.mk c25
        clear c25
        obtain ⟨y193, hy193⟩ : ∃ y_ : List Bool, y_ = (x5_1 ++ [true]) := ⟨_, rfl⟩
        replace H : (soukref01_minus.l0 k1 l0 l1 y193 true (wrap64 (x7_1 + 1))) = some r := by first | (rw [hy193]; with_reducible exact H) | (have H2_ := (Option.bind_some _ _).symm.trans H; rw [hy193]; with_reducible exact H2_) | (have H2_ := (Option.bind_some _ _).symm.trans H; with_reducible exact H2_) | with_reducible exact H | (rw [hy193]; exact H) | exact H
        have Ny193 := Aside0.mk hy193
        clear hy193
        have H' := Aside0.mk H
        clear H
        go_wp2_with (first | ((with_reducible refine gate_callee (f := 48) rfl ?_); refine goesL_ (some 18) rfl rfl Try.func48 (by kernel_rfl) rfl #[.slice A0 l0.length c0, .int .i64 x7_1] rfl (by (try simp only [List.map_toArray, List.map_cons, List.map_nil]); first | done | rfl | (simp only [List.length_drop, List.length_take]; rfl)) ?_; (with_reducible refine (soukref01_Wide_at.calls _ _ l0 x7_1 false _ ?side1 ?side2 A4.out).mono ?_); (case side1 => repeat (first | exact (Kd.C_below HR0.out HB.out) | (with_reducible refine Kd.C_alloc ?_ _) | (with_reducible refine Kd.C_drewN ?_ _) | (with_reducible refine Kd.C_drew ?_))); (case side2 => exact HC0.out); rintro e w' ⟨rfl, ⟨nd, rfl⟩⟩; refine ⟨_, rfl, ?_⟩) | ((with_reducible refine gate_callee (f := 48) rfl ?_); refine goesL_ (some 21) rfl rfl Try.func48 (by kernel_rfl) rfl #[.slice A1 l1.length c1, .int .i64 x7_1] rfl (by (try simp only [List.map_toArray, List.map_cons, List.map_nil]); first | done | rfl | (simp only [List.length_drop, List.length_take]; rfl)) ?_; (with_reducible refine (soukref01_Wide_at.calls _ _ l1 x7_1 false _ ?side1 ?side2 A5.out).mono ?_); (case side1 => repeat (first | exact (Kd.C_below HR1.out (by repeat (first | (with_reducible first | exact HB.out | apply below_alloc | apply pw_below_drewN | apply below_drew1) | exact HB.out))) | (with_reducible refine Kd.C_alloc ?_ _) | (with_reducible refine Kd.C_drewN ?_ _) | (with_reducible refine Kd.C_drew ?_))); (case side2 => exact HC1.out); rintro e w' ⟨rfl, ⟨nd, rfl⟩⟩; refine ⟨_, rfl, ?_⟩) | ((with_reducible refine gate_builtin (b := .append) (xs := #[.tmp 22, .tmp 28]) rfl ?_); at_builtin; refine Kd.R_append Kd.bool (w0 := w) w.heap.size rfl (.tmp 22) (.tmp 28) 87 4 (.bool false) 1 rfl Try.underlying87 info4 rfl (by decide) (by omega) u5 x5_1 true [.bool true] (fun _ => True) (fun _ => False) rfl rfl ?aP (fun _ hk => hk.elim) ?aF ?aO ?aB ?aS ?aL ?_; (case aP => exact rfl); (case aB => exact (by repeat (first | (with_reducible first | exact HB.out | apply below_alloc | apply pw_below_drewN | apply below_drew1) | exact HB.out))); (case aF => exact (fun _ _ => trivial)); (case aO => exact (by (with_reducible repeat (first | apply Kd.R_alloc | apply Kd.R_drewN | apply Kd.R_drew)); exact HO_5.out)); (case aS => exact (below_size (by repeat (first | (with_reducible first | exact HB.out | apply below_alloc | apply pw_below_drewN | apply below_drew1) | exact HB.out)))); (case aL => have := LMc25.out; omega); intro v194 w26 ho hb hg hat; rw [← Ny193.out] at ho; have n0_ := Aside0.mk (hb); have n1_ := Aside0.mk (ho); clear HB; clear HO_5; have HB := n0_; have HO195 := n1_; clear n0_ n1_; clear ho hb hg hat))
        go_roundg k1
        case measure => have := HK1.out; omega
        case rel => exact ⟨(y193), (true), (wrap64 (x7_1 + 1)), (by first | rfl | (simp; done) | (simp [*]; done)), (by first | rfl | (simp; done) | (simp [*]; done)), H', ⟨by have := HK1.out; omega⟩, ⟨by (with_reducible repeat (first | apply Kd.R_alloc | apply Kd.R_drewN | apply Kd.R_drew)); exact HO195.out⟩, ⟨by repeat (first | (with_reducible first | exact HB.out | apply below_alloc | apply pw_below_drewN | apply below_drew1) | exact HB.out)⟩⟩
       ·rw [if_neg c25] at H
        exact absurd H (by simp)
      ·replace c24 := Bool.eq_false_iff.mpr c24
       subst c24
       have H1 : (if x5_1.length < 140737488355328 then (soukref01_minus.l0 k1 l0 l1 (x5_1 ++ [false]) false (wrap64 (x7_1 + 1))) else (none)) = some r := by rw [if_neg (show ¬ (false = true) by decide)] at H; exact H
       clear H
       have H := H1
       clear H1
       by_cases c27 : x5_1.length < 140737488355328
       ·rw [if_pos c27] at H
        have LMc27 := Aside0.mk c27
        clear c27
        obtain ⟨y196, hy196⟩ : ∃ y_ : List Bool, y_ = (x5_1 ++ [false]) := ⟨_, rfl⟩
        replace H : (soukref01_minus.l0 k1 l0 l1 y196 false (wrap64 (x7_1 + 1))) = some r := by first | (rw [hy196]; with_reducible exact H) | (have H2_ := (Option.bind_some _ _).symm.trans H; rw [hy196]; with_reducible exact H2_) | (have H2_ := (Option.bind_some _ _).symm.trans H; with_reducible exact H2_) | with_reducible exact H | (rw [hy196]; exact H) | exact H
        have Ny196 := Aside0.mk hy196
        clear hy196
        have H' := Aside0.mk H
        clear H
        go_wp2_with (first | ((with_reducible refine gate_callee (f := 48) rfl ?_); refine goesL_ (some 18) rfl rfl Try.func48 (by kernel_rfl) rfl #[.slice A0 l0.length c0, .int .i64 x7_1] rfl (by (try simp only [List.map_toArray, List.map_cons, List.map_nil]); first | done | rfl | (simp only [List.length_drop, List.length_take]; rfl)) ?_; (with_reducible refine (soukref01_Wide_at.calls _ _ l0 x7_1 false _ ?side1 ?side2 A4.out).mono ?_); (case side1 => repeat (first | exact (Kd.C_below HR0.out HB.out) | (with_reducible refine Kd.C_alloc ?_ _) | (with_reducible refine Kd.C_drewN ?_ _) | (with_reducible refine Kd.C_drew ?_))); (case side2 => exact HC0.out); rintro e w' ⟨rfl, ⟨nd, rfl⟩⟩; refine ⟨_, rfl, ?_⟩) | ((with_reducible refine gate_callee (f := 48) rfl ?_); refine goesL_ (some 21) rfl rfl Try.func48 (by kernel_rfl) rfl #[.slice A1 l1.length c1, .int .i64 x7_1] rfl (by (try simp only [List.map_toArray, List.map_cons, List.map_nil]); first | done | rfl | (simp only [List.length_drop, List.length_take]; rfl)) ?_; (with_reducible refine (soukref01_Wide_at.calls _ _ l1 x7_1 false _ ?side1 ?side2 A5.out).mono ?_); (case side1 => repeat (first | exact (Kd.C_below HR1.out (by repeat (first | (with_reducible first | exact HB.out | apply below_alloc | apply pw_below_drewN | apply below_drew1) | exact HB.out))) | (with_reducible refine Kd.C_alloc ?_ _) | (with_reducible refine Kd.C_drewN ?_ _) | (with_reducible refine Kd.C_drew ?_))); (case side2 => exact HC1.out); rintro e w' ⟨rfl, ⟨nd, rfl⟩⟩; refine ⟨_, rfl, ?_⟩) | ((with_reducible refine gate_builtin (b := .append) (xs := #[.tmp 22, .tmp 28]) rfl ?_); at_builtin; refine Kd.R_append Kd.bool (w0 := w) w.heap.size rfl (.tmp 22) (.tmp 28) 87 4 (.bool false) 1 rfl Try.underlying87 info4 rfl (by decide) (by omega) u5 x5_1 false [.bool false] (fun _ => True) (fun _ => False) rfl rfl ?aP (fun _ hk => hk.elim) ?aF ?aO ?aB ?aS ?aL ?_; (case aP => exact rfl); (case aB => exact (by repeat (first | (with_reducible first | exact HB.out | apply below_alloc | apply pw_below_drewN | apply below_drew1) | exact HB.out))); (case aF => exact (fun _ _ => trivial)); (case aO => exact (by (with_reducible repeat (first | apply Kd.R_alloc | apply Kd.R_drewN | apply Kd.R_drew)); exact HO_5.out)); (case aS => exact (below_size (by repeat (first | (with_reducible first | exact HB.out | apply below_alloc | apply pw_below_drewN | apply below_drew1) | exact HB.out)))); (case aL => have := LMc27.out; omega); intro v197 w28 ho hb hg hat; rw [← Ny196.out] at ho; have n0_ := Aside0.mk (hb); have n1_ := Aside0.mk (ho); clear HB; clear HO_5; have HB := n0_; have HO198 := n1_; clear n0_ n1_; clear ho hb hg hat))
        go_roundg k1
        case measure => have := HK1.out; omega
        case rel => exact ⟨(y196), (false), (wrap64 (x7_1 + 1)), (by first | rfl | (simp; done) | (simp [*]; done)), (by first | rfl | (simp; done) | (simp [*]; done)), H', ⟨by have := HK1.out; omega⟩, ⟨by (with_reducible repeat (first | apply Kd.R_alloc | apply Kd.R_drewN | apply Kd.R_drew)); exact HO198.out⟩, ⟨by repeat (first | (with_reducible first | exact HB.out | apply below_alloc | apply pw_below_drewN | apply below_drew1) | exact HB.out)⟩⟩
       ·rw [if_neg c27] at H
        exact absurd H (by simp)
   ·rw [if_neg c3] at H
    have c3b0 : decide (x7_1 < (l0.length : Int)) = false := decide_eq_false c3
    clear c3
    replace H := Option.bind_eq_some_iff.mp H
    obtain ⟨t199, A290, H⟩ := H
    replace H : (some t199) = some r := H
    have A29 := Aside0.mk A290
    clear A290
    obtain rfl := Option.some.inj H
    obtain ⟨Ao30, co30, eo30⟩ := Kd.R_slice HO_5.out
    subst eo30
    go_wp2_with (first | ((with_reducible refine gate_callee (f := 46) rfl ?_); refine goesL_ (some 45) rfl rfl Try.func46 (by kernel_rfl) rfl #[.slice Ao30 x5_1.length co30] rfl (by (try simp only [List.map_toArray, List.map_cons, List.map_nil]); first | done | rfl | (simp only [List.length_drop, List.length_take]; rfl)) ?_; (with_reducible refine (soukref01_trim.calls k1 (fun k_ => some k_ = (.slice Ao30 x5_1.length co30 : Value).ownBlock) (.slice Ao30 x5_1.length co30) x5_1 t199 w _ ?side1 ?side2 A29.out).mono ?_); (case side1 => repeat (first | (with_reducible first | exact HB.out | apply below_alloc | apply pw_below_drewN | apply below_drew1) | exact HB.out)); (case side2 => exact Kd.R_tight rfl HO_5.out); rintro e w31 ⟨v200, rfl, ho0, hb, hkp⟩; refine ⟨_, rfl, ?_⟩; have n0_ := Aside0.mk (Kd.R_mono (ok' := fun k_ => True) ho0 (fun k_ hk_ => trivial)); have n1_ := Aside0.mk (hb); clear HB; clear HO_5; have HO201 := n0_; have HB := n1_; clear n0_ n1_; (try clear hb); (try clear hkp); (try clear ho0)))
    go_ret
    exact ⟨_, by first | rfl | (simp [errW_none, errW_some] <;> rfl) | (simp [*, errW_none, errW_some] <;> rfl), by (with_reducible repeat (first | apply Kd.R_alloc | apply Kd.R_drewN | apply Kd.R_drew)); exact HO201.out, by repeat (first | (with_reducible first | exact HB.out | apply below_alloc | apply pw_below_drewN | apply below_drew1) | exact HB.out)⟩
end Go.Proofs.Ytncnhhnbjmpomaa.Q
namespace Go.Proofs.Ytncnhhnbjmpomaa.Q
open Go.RowKit Go.Proofs.YtncnhhnbjmpomaaW.PrintWords Go.Proofs.YtncnhhnbjmpomaaW.PrintLast Go.Proofs.YtncnhhnbjmpomaaW.PrintMore
attribute [local go_sem] max2_int min2_int max_two min_two max_three min_three max_four min_four   -- for this text's walks alone
set_option linter.unusedVariables false
set_option linter.unusedSimpArgs false
def soukref01_Div.l0 : Nat → List Bool → List Bool → List Bool → List Bool → Int → Option (List Bool × List Bool)
 | 0, _, _, _, _, _ => none
 | k + 1, x0, x1, x6, x7, x8 => if x8 ≥ 0 then (if 0 ≤ x8 then (if x8 < (x0.length : Int) then ((some (([rdOf false x0 x8] : List Bool) : List Bool)).bind fun y206 => (if y206.length + x7.length < 140737488355328 then ((soukref01_trim.f k (y206 ++ x7)).bind fun t212 => ((soukref01_less.f k t212 x1).bind fun t215 => ((some (([!t215] : List Bool) : List Bool)).bind fun y216 => (if y216.length + x6.length < 140737488355328 then ((some (y216 ++ x6 : List Bool)).bind fun y219 => (if t215 = true then (soukref01_Div.l0 k x0 x1 y219 t212 (wrap64 (x8 - 1))) else ((soukref01_minus.f k t212 x1).bind fun t222 => (soukref01_Div.l0 k x0 x1 y219 t222 (wrap64 (x8 - 1)))))) else (none))))) else (none))) else (none)) else (none)) else ((soukref01_trim.f k x6).bind fun t202 => (some (t202, x7)))
def soukref01_Div.f (k : Nat) (l0 : List Bool) (l1 : List Bool) : Option (List Bool × List Bool) := soukref01_Div.l0 k l0 l1 ([] : List Bool) ([] : List Bool) (wrap64 ((l0.length : Int) - 1))
set_option maxHeartbeats 8000000 in
set_option maxRecDepth 100000 in
theorem soukref01_Div.calls (k : Nat) (A0 : Option Addr) (c0 : Nat) (l0 : List Bool) (A1 : Option Addr) (c1 : Nat) (l1 : List Bool) (r1 : List Bool) (r2 : List Bool) (w : World) (hr0 : Kd.C Kd.bool w A0 l0.length l0) (hc0 : l0.length ≤ c0) (hr1 : Kd.C Kd.bool w A1 l1.length l1) (hc1 : l1.length ≤ c1) (h : soukref01_Div.f k l0 l1 = some (r1, r2)) :
  Calls Try.prog 42 #[.slice A0 l0.length c0, .slice A1 l1.length c1] w fun e w' => ∃ v0_ v1_ : Value, e = .returned (.tuple #[v0_, v1_]) ∧ Kd.R Kd.bool 4 w' w.heap.size (fun k_ => some k_ ≠ (v1_ : Value).ownBlock) v0_ r1 ∧ Kd.R Kd.bool 4 w' w.heap.size (fun k_ => some k_ ≠ (v0_ : Value).ownBlock) v1_ r2 ∧ Below w.heap.size w w' := by
 have HR0 := Aside0.mk hr0
 have HC0 := Aside0.mk hc0
 clear hr0 hc0
 have HR1 := Aside0.mk hr1
 have HC1 := Aside0.mk hc1
 clear hr1 hc1
 have HB := Aside0.mk (Below.refl w.heap.size w)
 have H : (soukref01_Div.l0 k l0 l1 ([] : List Bool) ([] : List Bool) (wrap64 ((l0.length : Int) - 1))) = some (r1, r2) := h
 clear h
 have H' := Aside0.mk H
 clear H
 go_enter Try.func42, Try.ntmps42
 go_wp2
 go_loopg [6, 7, 8] k (fun kq v6 v7 v8 w' => ∃ (x6_1 : List Bool) (x7_1 : List Bool) (x8_1 : Int), v8 = .int .i64 x8_1 ∧ Aside0 (soukref01_Div.l0 kq l0 l1 x6_1 x7_1 x8_1 = some (r1, r2)) ∧ Aside0 (kq ≤ k) ∧ Aside0 (Kd.R Kd.bool 4 w' w.heap.size (fun k_ => some k_ ≠ (v7 : Value).ownBlock) v6 x6_1) ∧ Aside0 (Kd.R Kd.bool 4 w' w.heap.size (fun k_ => some k_ ≠ (v6 : Value).ownBlock) v7 x7_1) ∧ Aside0 (Below w.heap.size w w'))
 case atStart => exact ⟨(([] : List Bool)), (([] : List Bool)), (wrap64 ((l0.length : Int) - 1)), (by first | rfl | (simp; done) | (simp [*]; done)), H', ⟨Nat.le_refl _⟩, ⟨by first | exact Kd.R_nil _ _ _ _ _ | exact Kd.N_nil _ _ _ _ _ | exact Kd.V_nil _ _ _ _ _ | exact Kd.Q_nil _ _ _ _ _ | exact Kd.S_nil _ _ _ _ _⟩, ⟨by first | exact Kd.R_nil _ _ _ _ _ | exact Kd.N_nil _ _ _ _ _ | exact Kd.V_nil _ _ _ _ _ | exact Kd.Q_nil _ _ _ _ _ | exact Kd.S_nil _ _ _ _ _⟩, ⟨by repeat (first | (with_reducible first | exact HB.out | apply below_alloc | apply pw_below_drewN | apply below_drew1) | exact HB.out)⟩⟩
 case round =>
  clear H'
  try clear c1
  try clear p2
  obtain ⟨x6_1, x7_1, x8_1, rfl, HA, HK1, HO_6, HO_7, HB⟩ := hrel
  cases gk with
  | zero => exact absurd HA.out (by simp [soukref01_Div.l0])
  | succ k1 =>
   have H := HA.out
   clear HA
   simp only [soukref01_Div.l0] at H
   by_cases c3 : x8_1 ≥ 0
   ·rw [if_pos c3] at H
    have c3b0 : decide (0 ≤ x8_1) = true := decide_eq_true c3
    clear c3
    by_cases c4 : 0 ≤ x8_1
    ·rw [if_pos c4] at H
     have c4b0 : decide (0 ≤ x8_1) = true := decide_eq_true c4
     clear c4
     by_cases c5 : x8_1 < (l0.length : Int)
     ·rw [if_pos c5] at H
      have c5b0 : decide (x8_1 < (l0.length : Int)) = true := decide_eq_true c5
      clear c5
      obtain ⟨y206, hy206⟩ : ∃ y_ : List Bool, y_ = (([rdOf false l0 x8_1] : List Bool)) := ⟨_, rfl⟩
      replace H : (if y206.length + x7_1.length < 140737488355328 then ((soukref01_trim.f k1 (y206 ++ x7_1)).bind fun t212 => ((soukref01_less.f k1 t212 l1).bind fun t215 => ((some (([!t215] : List Bool) : List Bool)).bind fun y216 => (if y216.length + x6_1.length < 140737488355328 then ((some (y216 ++ x6_1 : List Bool)).bind fun y219 => (if t215 = true then (soukref01_Div.l0 k1 l0 l1 y219 t212 (wrap64 (x8_1 - 1))) else ((soukref01_minus.f k1 t212 l1).bind fun t222 => (soukref01_Div.l0 k1 l0 l1 y219 t222 (wrap64 (x8_1 - 1)))))) else (none))))) else (none)) = some (r1, r2) := by first | (rw [hy206]; with_reducible exact H) | (have H2_ := (Option.bind_some _ _).symm.trans H; rw [hy206]; with_reducible exact H2_) | (have H2_ := (Option.bind_some _ _).symm.trans H; with_reducible exact H2_) | with_reducible exact H | (rw [hy206]; exact H) | exact H
      have Ny206 := Aside0.mk hy206
      clear hy206
      by_cases c6 : y206.length + x7_1.length < 140737488355328
      ·rw [if_pos c6] at H
       have LMc6 := Aside0.mk c6
       clear c6
       obtain ⟨y209, hy209⟩ : ∃ y_ : List Bool, y_ = (y206 ++ x7_1) := ⟨_, rfl⟩
       replace H : ((soukref01_trim.f k1 y209).bind fun t212 => ((soukref01_less.f k1 t212 l1).bind fun t215 => ((some (([!t215] : List Bool) : List Bool)).bind fun y216 => (if y216.length + x6_1.length < 140737488355328 then ((some (y216 ++ x6_1 : List Bool)).bind fun y219 => (if t215 = true then (soukref01_Div.l0 k1 l0 l1 y219 t212 (wrap64 (x8_1 - 1))) else ((soukref01_minus.f k1 t212 l1).bind fun t222 => (soukref01_Div.l0 k1 l0 l1 y219 t222 (wrap64 (x8_1 - 1)))))) else (none))))) = some (r1, r2) := by first | (rw [hy209]; with_reducible exact H) | (have H2_ := (Option.bind_some _ _).symm.trans H; rw [hy209]; with_reducible exact H2_) | (have H2_ := (Option.bind_some _ _).symm.trans H; with_reducible exact H2_) | with_reducible exact H | (rw [hy209]; exact H) | exact H
       have Ny209 := Aside0.mk hy209
       clear hy209
       replace H := Option.bind_eq_some_iff.mp H
       obtain ⟨t212, A70, H⟩ := H
       replace H : ((soukref01_less.f k1 t212 l1).bind fun t215 => ((some (([!t215] : List Bool) : List Bool)).bind fun y216 => (if y216.length + x6_1.length < 140737488355328 then ((some (y216 ++ x6_1 : List Bool)).bind fun y219 => (if t215 = true then (soukref01_Div.l0 k1 l0 l1 y219 t212 (wrap64 (x8_1 - 1))) else ((soukref01_minus.f k1 t212 l1).bind fun t222 => (soukref01_Div.l0 k1 l0 l1 y219 t222 (wrap64 (x8_1 - 1)))))) else (none)))) = some (r1, r2) := H
       have A7 := Aside0.mk A70
       clear A70
       replace H := Option.bind_eq_some_iff.mp H
       obtain ⟨t215, A80, H⟩ := H
       replace H : ((some (([!t215] : List Bool) : List Bool)).bind fun y216 => (if y216.length + x6_1.length < 140737488355328 then ((some (y216 ++ x6_1 : List Bool)).bind fun y219 => (if t215 = true then (soukref01_Div.l0 k1 l0 l1 y219 t212 (wrap64 (x8_1 - 1))) else ((soukref01_minus.f k1 t212 l1).bind fun t222 => (soukref01_Div.l0 k1 l0 l1 y219 t222 (wrap64 (x8_1 - 1)))))) else (none))) = some (r1, r2) := H
       have A8 := Aside0.mk A80
       clear A80
       obtain ⟨y216, hy216⟩ : ∃ y_ : List Bool, y_ = (([!t215] : List Bool)) := ⟨_, rfl⟩
       replace H : (if y216.length + x6_1.length < 140737488355328 then ((some (y216 ++ x6_1 : List Bool)).bind fun y219 => (if t215 = true then (soukref01_Div.l0 k1 l0 l1 y219 t212 (wrap64 (x8_1 - 1))) else ((soukref01_minus.f k1 t212 l1).bind fun t222 => (soukref01_Div.l0 k1 l0 l1 y219 t222 (wrap64 (x8_1 - 1)))))) else (none)) = some (r1, r2) := by first | (rw [hy216]; with_reducible exact H) | (have H2_ := (Option.bind_some _ _).symm.trans H; rw [hy216]; with_reducible exact H2_) | (have H2_ := (Option.bind_some _ _).symm.trans H; with_reducible exact H2_) | with_reducible exact H | (rw [hy216]; exact H) | exact H
       have Ny216 := Aside0.mk hy216
       clear hy216
       by_cases c9 : y216.length + x6_1.length < 140737488355328
       ·rw [if_pos c9] at H
        have LMc9 := Aside0.mk c9
        clear c9
        obtain ⟨y219, hy219⟩ : ∃ y_ : List Bool, y_ = (y216 ++ x6_1) := ⟨_, rfl⟩
        replace H : (if t215 = true then (soukref01_Div.l0 k1 l0 l1 y219 t212 (wrap64 (x8_1 - 1))) else ((soukref01_minus.f k1 t212 l1).bind fun t222 => (soukref01_Div.l0 k1 l0 l1 y219 t222 (wrap64 (x8_1 - 1))))) = some (r1, r2) := by first | (rw [hy219]; with_reducible exact H) | (have H2_ := (Option.bind_some _ _).symm.trans H; rw [hy219]; with_reducible exact H2_) | (have H2_ := (Option.bind_some _ _).symm.trans H; with_reducible exact H2_) | with_reducible exact H | (rw [hy219]; exact H) | exact H
        have Ny219 := Aside0.mk hy219
        clear hy219
        by_cases c10 : t215 = true
        ·subst c10
         have H1 : (soukref01_Div.l0 k1 l0 l1 y219 t212 (wrap64 (x8_1 - 1))) = some (r1, r2) := by rw [if_pos rfl] at H; exact H
         clear H
         have H := H1
         clear H1
         have H' := Aside0.mk H
         clear H
         have p205 : 0 ≤ (x8_1 : Int) := of_decide_eq_true (by first | (with_reducible assumption) | assumption)
         have q205 : x8_1 < (l0.length : Int) := of_decide_eq_true (by first | (with_reducible assumption) | assumption)
         obtain ⟨ad205, e205, hx205_0⟩ := Kd.at_bool HR0.out x8_1 p205 q205
         cases e205
         replace hx205_0 := (HB.out.cell (World.block_lt_of_cell? w _ hx205_0)).trans hx205_0
         replace p205 := eq_true p205
         replace q205 := eq_true q205
         go_wp2_with (first | ((with_reducible refine gate_dst (N := 21) rfl ?_); refine Kd.R_lit Kd.bool _ 4 ?hg (N := 21) ?hd (xs := ([rdOf false l0 x8_1] : List Bool)) (inner := [.bool (rdOf false l0 x8_1)]) (ok := fun _ => True) (okp := fun _ => True) ?hr ?hp (fun _ hk => hk) trivial (Below.refl _ _) (Nat.le_refl _) (by simp) ?_; (case hd => rfl); (case hg => rfl); (case hr => first | (go_simp; done) | (go_simp; rfl)); (case hp => exact (Reps.one (show Kd.M Kd.bool _ _ _ (rdOf false l0 x8_1) [.bool (rdOf false l0 x8_1)] from rfl) (Reps.none _ _))); intro v207 w11 ho12 hb hg_ hnew_; clear hg_ hnew_; (first | rw [← Ny206.out] at ho12 | (simp only [Int.reduceToNat] at ho12; rw [← Ny206.out] at ho12)); have n0_ := Aside0.mk (Kd.R_elder' (by (with_reducible repeat (first | apply Kd.R_alloc | apply Kd.R_drewN | apply Kd.R_drew)); exact HO_6.out) (Kd.R_base ho12) hb); have n1_ := Aside0.mk (Kd.R_elder' (by (with_reducible repeat (first | apply Kd.R_alloc | apply Kd.R_drewN | apply Kd.R_drew)); exact HO_7.out) (Kd.R_base ho12) hb); have n2_ := Aside0.mk (Kd.R_lower (Kd.R_new' (Kd.R_new' ho12 (Kd.R_lt (by (with_reducible repeat (first | apply Kd.R_alloc | apply Kd.R_drewN | apply Kd.R_drew)); exact HO_6.out))) (Kd.R_lt (by (with_reducible repeat (first | apply Kd.R_alloc | apply Kd.R_drewN | apply Kd.R_drew)); exact HO_7.out))) (below_size (by repeat (first | (with_reducible first | exact HB.out | apply below_alloc | apply pw_below_drewN | apply below_drew1) | exact HB.out)))); have n3_ := Aside0.mk (below_step (by repeat (first | (with_reducible first | exact HB.out | apply below_alloc | apply pw_below_drewN | apply below_drew1) | exact HB.out)) hb); clear HO_6; clear HO_7; clear HB; have HO_6 := n0_; have HO_7 := n1_; have HO208 := n2_; have HB := n3_; clear n0_ n1_ n2_ n3_; clear hb ho12; obtain ⟨Ao14, co14, eo14⟩ := Kd.R_slice HO_7.out; subst eo14) | ((with_reducible refine gate_builtin (b := .append) (xs := #[.tmp 21, .tmp 22]) rfl ?_); at_builtin; refine Kd.R_append_rows Kd.bool (w0 := w) w.heap.size rfl (.tmp 21) (.tmp 22) 87 4 (.bool false) 1 rfl Try.underlying87 info4 rfl (by decide) (by omega) v207 y206 x7_1 _ _ _ (fun k_ => some k_ ≠ (u6 : Value).ownBlock ∧ some k_ ≠ (.slice Ao14 x7_1.length co14 : Value).ownBlock) (fun _ => False) rfl rfl ?aO ?aR (fun _ _ h => h) (fun _ h => h.elim) ?aF ?aB ?aS ?aL ?_; (case aR => repeat (first | exact (Kd.R_reads' HO_7.out).2.2 | (with_reducible refine Kd.C_alloc ?_ _) | (with_reducible refine Kd.C_drewN ?_ _) | (with_reducible refine Kd.C_drew ?_))); (case aB => exact (by repeat (first | (with_reducible first | exact HB.out | apply below_alloc | apply pw_below_drewN | apply below_drew1) | exact HB.out))); (case aF => exact (fun k_ hk => ⟨Kd.fresh' (Kd.R_lt (by (with_reducible repeat (first | apply Kd.R_alloc | apply Kd.R_drewN | apply Kd.R_drew)); exact HO_6.out)) k_ hk, Kd.fresh' (Kd.R_lt (by (with_reducible repeat (first | apply Kd.R_alloc | apply Kd.R_drewN | apply Kd.R_drew)); exact HO_7.out)) k_ hk⟩)); (case aO => exact (by (with_reducible repeat (first | apply Kd.R_alloc | apply Kd.R_drewN | apply Kd.R_drew)); exact Kd.R_mono HO208.out (fun _ hk => ⟨hk.1.2, hk.2⟩))); (case aS => exact (below_size (by repeat (first | (with_reducible first | exact HB.out | apply below_alloc | apply pw_below_drewN | apply below_drew1) | exact HB.out)))); (case aL => have := LMc6.out; omega); intro v210 w13 ho hb hg hat; rw [← Ny209.out] at ho; have n0_ := Aside0.mk (Kd.R_after (ok := (fun k_ => some k_ ≠ (.slice Ao14 x7_1.length co14 : Value).ownBlock)) (by (with_reducible repeat (first | apply Kd.R_alloc | apply Kd.R_drewN | apply Kd.R_drew)); exact HO_6.out) hg hat); have n1_ := Aside0.mk (Kd.R_after (ok := (fun k_ => some k_ ≠ (u6 : Value).ownBlock)) (by (with_reducible repeat (first | apply Kd.R_alloc | apply Kd.R_drewN | apply Kd.R_drew)); exact HO_7.out) hg hat); have n2_ := Aside0.mk (hb); have n3_ := Aside0.mk (ho); clear HO_6; clear HO_7; clear HB; clear HO208; have HO_6 := n0_; have HO_7 := n1_; have HB := n2_; have HO211 := n3_; clear n0_ n1_ n2_ n3_; clear ho hb hg hat; obtain ⟨Ao15, co15, eo15⟩ := Kd.R_slice HO211.out; subst eo15) | ((with_reducible refine gate_callee (f := 46) rfl ?_); refine goesL_ (some 24) rfl rfl Try.func46 (by kernel_rfl) rfl #[.slice Ao15 y209.length co15] rfl (by (try simp only [List.map_toArray, List.map_cons, List.map_nil]); first | done | rfl | (simp only [List.length_drop, List.length_take]; rfl)) ?_; (with_reducible refine (soukref01_trim.calls k1 (fun k_ => some k_ = (.slice Ao15 y209.length co15 : Value).ownBlock) (.slice Ao15 y209.length co15) y209 t212 w _ ?side1 ?side2 A7.out).mono ?_); (case side1 => repeat (first | (with_reducible first | exact HB.out | apply below_alloc | apply pw_below_drewN | apply below_drew1) | exact HB.out)); (case side2 => exact Kd.R_tight rfl HO211.out); rintro e w16 ⟨v213, rfl, ho0, hb, hkp⟩; refine ⟨_, rfl, ?_⟩; have n0_ := Aside0.mk (Kd.R_mono (ok' := fun k_ => some k_ ≠ (.slice Ao14 x7_1.length co14 : Value).ownBlock ∧ some k_ ≠ (v213 : Value).ownBlock) (Kd.R_keptB (HO_6.out) hkp (fun k_ hk_ hs_ => (hk_.2) hs_)) (fun k_ hk_ => ⟨hk_.1.1, fun e_ => Or.elim (ho0.1 k_ e_.symm) (fun hs_ => hk_.2.1 hs_) (fun hn_ => Nat.not_le.2 hk_.2.2 hn_)⟩)); have n1_ := Aside0.mk (Kd.R_mono (ok' := fun k_ => some k_ ≠ (u6 : Value).ownBlock ∧ some k_ ≠ (v213 : Value).ownBlock) (Kd.R_keptB (HO_7.out) hkp (fun k_ hk_ hs_ => (hk_.2) hs_)) (fun k_ hk_ => ⟨hk_.1.1, fun e_ => Or.elim (ho0.1 k_ e_.symm) (fun hs_ => hk_.2.1 hs_) (fun hn_ => Nat.not_le.2 hk_.2.2 hn_)⟩)); have n2_ := Aside0.mk (Kd.R_mono (ok' := fun k_ => some k_ ≠ (u6 : Value).ownBlock ∧ some k_ ≠ (.slice Ao14 x7_1.length co14 : Value).ownBlock) ho0 (fun k_ hk_ => ⟨Or.elim hk_ (fun hs_ => fun e_ => (((HO_6.out).1 k_ e_.symm).2) hs_) (fun hn_ => (Kd.fresh' (Kd.R_lt (by (with_reducible repeat (first | apply Kd.R_alloc | apply Kd.R_drewN | apply Kd.R_drew)); exact HO_6.out)) k_ hn_)), Or.elim hk_ (fun hs_ => fun e_ => (((HO_7.out).1 k_ e_.symm).2) hs_) (fun hn_ => (Kd.fresh' (Kd.R_lt (by (with_reducible repeat (first | apply Kd.R_alloc | apply Kd.R_drewN | apply Kd.R_drew)); exact HO_7.out)) k_ hn_))⟩)); have n3_ := Aside0.mk (hb); clear HO_6; clear HO_7; clear HB; clear HO211; have HO_6 := n0_; have HO_7 := n1_; have HO214 := n2_; have HB := n3_; clear n0_ n1_ n2_ n3_; (try clear hb); (try clear hkp); (try clear ho0); obtain ⟨Ao17, co17, eo17⟩ := Kd.R_slice HO214.out; subst eo17) | ((with_reducible refine gate_callee (f := 47) rfl ?_); refine goesL_ (some 27) rfl rfl Try.func47 (by kernel_rfl) rfl #[.slice Ao17 t212.length co17, .slice A1 l1.length c1] rfl (by (try simp only [List.map_toArray, List.map_cons, List.map_nil]); first | done | rfl | (simp only [List.length_drop, List.length_take]; rfl)) ?_; (with_reducible refine (soukref01_less.calls k1 _ _ t212 _ _ l1 true _ ?side1 ?side2 ?side3 ?side4 A8.out).mono ?_); (case side1 => repeat (first | exact (Kd.R_reads' HO214.out).2.2 | (with_reducible refine Kd.C_alloc ?_ _) | (with_reducible refine Kd.C_drewN ?_ _) | (with_reducible refine Kd.C_drew ?_))); (case side2 => exact (Kd.R_reads' HO214.out).2.1); (case side3 => repeat (first | exact (Kd.C_below HR1.out HB.out) | (with_reducible refine Kd.C_alloc ?_ _) | (with_reducible refine Kd.C_drewN ?_ _) | (with_reducible refine Kd.C_drew ?_))); (case side4 => exact HC1.out); rintro e w18 ⟨rfl, hb⟩; refine ⟨_, rfl, ?_⟩; have n0_ := Aside0.mk (Kd.R_below (by (with_reducible repeat (first | apply Kd.R_alloc | apply Kd.R_drewN | apply Kd.R_drew)); exact HO_6.out) hb); have n1_ := Aside0.mk (Kd.R_below (by (with_reducible repeat (first | apply Kd.R_alloc | apply Kd.R_drewN | apply Kd.R_drew)); exact HO_7.out) hb); have n2_ := Aside0.mk (Kd.R_below (by (with_reducible repeat (first | apply Kd.R_alloc | apply Kd.R_drewN | apply Kd.R_drew)); exact HO214.out) hb); have n3_ := Aside0.mk (below_step (by repeat (first | (with_reducible first | exact HB.out | apply below_alloc | apply pw_below_drewN | apply below_drew1) | exact HB.out)) hb); clear HO_6; clear HO_7; clear HO214; clear HB; have HO_6 := n0_; have HO_7 := n1_; have HO214 := n2_; have HB := n3_; clear n0_ n1_ n2_ n3_; (try clear hb); (try clear hb2); (try clear hk); (try clear hi)) | ((with_reducible refine gate_dst (N := 30) rfl ?_); refine Kd.R_lit Kd.bool _ 4 ?hg (N := 30) ?hd (xs := ([!true] : List Bool)) (inner := [.bool (!true)]) (ok := fun _ => True) (okp := fun _ => True) ?hr ?hp (fun _ hk => hk) trivial (Below.refl _ _) (Nat.le_refl _) (by simp) ?_; (case hd => rfl); (case hg => rfl); (case hr => first | (go_simp; done) | (go_simp; rfl)); (case hp => exact (Reps.one (show Kd.M Kd.bool _ _ _ (!true) [.bool (!true)] from rfl) (Reps.none _ _))); intro v217 w19 ho20 hb hg_ hnew_; clear hg_ hnew_; (first | rw [← Ny216.out] at ho20 | (simp only [Int.reduceToNat] at ho20; rw [← Ny216.out] at ho20)); have n0_ := Aside0.mk (Kd.R_elder' (by (with_reducible repeat (first | apply Kd.R_alloc | apply Kd.R_drewN | apply Kd.R_drew)); exact HO_6.out) (Kd.R_base ho20) hb); have n1_ := Aside0.mk (Kd.R_elder' (by (with_reducible repeat (first | apply Kd.R_alloc | apply Kd.R_drewN | apply Kd.R_drew)); exact HO_7.out) (Kd.R_base ho20) hb); have n2_ := Aside0.mk (Kd.R_elder' (by (with_reducible repeat (first | apply Kd.R_alloc | apply Kd.R_drewN | apply Kd.R_drew)); exact HO214.out) (Kd.R_base ho20) hb); have n3_ := Aside0.mk (Kd.R_lower (Kd.R_new' (Kd.R_new' (Kd.R_new' ho20 (Kd.R_lt (by (with_reducible repeat (first | apply Kd.R_alloc | apply Kd.R_drewN | apply Kd.R_drew)); exact HO_6.out))) (Kd.R_lt (by (with_reducible repeat (first | apply Kd.R_alloc | apply Kd.R_drewN | apply Kd.R_drew)); exact HO_7.out))) (Kd.R_lt (by (with_reducible repeat (first | apply Kd.R_alloc | apply Kd.R_drewN | apply Kd.R_drew)); exact HO214.out))) (below_size (by repeat (first | (with_reducible first | exact HB.out | apply below_alloc | apply pw_below_drewN | apply below_drew1) | exact HB.out)))); have n4_ := Aside0.mk (below_step (by repeat (first | (with_reducible first | exact HB.out | apply below_alloc | apply pw_below_drewN | apply below_drew1) | exact HB.out)) hb); clear HO_6; clear HO_7; clear HO214; clear HB; have HO_6 := n0_; have HO_7 := n1_; have HO214 := n2_; have HO218 := n3_; have HB := n4_; clear n0_ n1_ n2_ n3_ n4_; clear hb ho20; obtain ⟨Ao22, co22, eo22⟩ := Kd.R_slice HO_6.out; subst eo22) | ((with_reducible refine gate_builtin (b := .append) (xs := #[.tmp 30, .tmp 31]) rfl ?_); at_builtin; refine Kd.R_append_rows Kd.bool (w0 := w) w.heap.size rfl (.tmp 30) (.tmp 31) 87 4 (.bool false) 1 rfl Try.underlying87 info4 rfl (by decide) (by omega) v217 y216 x6_1 _ _ _ (fun k_ => some k_ ≠ (.slice Ao22 x6_1.length co22 : Value).ownBlock ∧ some k_ ≠ (.slice Ao14 x7_1.length co14 : Value).ownBlock ∧ some k_ ≠ (.slice Ao17 t212.length co17 : Value).ownBlock) (fun _ => False) rfl rfl ?aO ?aR (fun _ _ h => h) (fun _ h => h.elim) ?aF ?aB ?aS ?aL ?_; (case aR => repeat (first | exact (Kd.R_reads' HO_6.out).2.2 | (with_reducible refine Kd.C_alloc ?_ _) | (with_reducible refine Kd.C_drewN ?_ _) | (with_reducible refine Kd.C_drew ?_))); (case aB => exact (by repeat (first | (with_reducible first | exact HB.out | apply below_alloc | apply pw_below_drewN | apply below_drew1) | exact HB.out))); (case aF => exact (fun k_ hk => ⟨Kd.fresh' (Kd.R_lt (by (with_reducible repeat (first | apply Kd.R_alloc | apply Kd.R_drewN | apply Kd.R_drew)); exact HO_6.out)) k_ hk, Kd.fresh' (Kd.R_lt (by (with_reducible repeat (first | apply Kd.R_alloc | apply Kd.R_drewN | apply Kd.R_drew)); exact HO_7.out)) k_ hk, Kd.fresh' (Kd.R_lt (by (with_reducible repeat (first | apply Kd.R_alloc | apply Kd.R_drewN | apply Kd.R_drew)); exact HO214.out)) k_ hk⟩)); (case aO => exact (by (with_reducible repeat (first | apply Kd.R_alloc | apply Kd.R_drewN | apply Kd.R_drew)); exact Kd.R_mono HO218.out (fun _ hk => ⟨hk.1.1.2, ⟨hk.1.2, hk.2⟩⟩))); (case aS => exact (below_size (by repeat (first | (with_reducible first | exact HB.out | apply below_alloc | apply pw_below_drewN | apply below_drew1) | exact HB.out)))); (case aL => have := LMc9.out; omega); intro v220 w21 ho hb hg hat; rw [← Ny219.out] at ho; have n0_ := Aside0.mk (Kd.R_after (ok := (fun k_ => some k_ ≠ (.slice Ao14 x7_1.length co14 : Value).ownBlock ∧ some k_ ≠ (.slice Ao17 t212.length co17 : Value).ownBlock)) (by (with_reducible repeat (first | apply Kd.R_alloc | apply Kd.R_drewN | apply Kd.R_drew)); exact HO_6.out) hg hat); have n1_ := Aside0.mk (Kd.R_after (ok := (fun k_ => some k_ ≠ (.slice Ao22 x6_1.length co22 : Value).ownBlock ∧ some k_ ≠ (.slice Ao17 t212.length co17 : Value).ownBlock)) (by (with_reducible repeat (first | apply Kd.R_alloc | apply Kd.R_drewN | apply Kd.R_drew)); exact HO_7.out) hg hat); have n2_ := Aside0.mk (Kd.R_after (ok := (fun k_ => some k_ ≠ (.slice Ao22 x6_1.length co22 : Value).ownBlock ∧ some k_ ≠ (.slice Ao14 x7_1.length co14 : Value).ownBlock)) (by (with_reducible repeat (first | apply Kd.R_alloc | apply Kd.R_drewN | apply Kd.R_drew)); exact HO214.out) hg hat); have n3_ := Aside0.mk (hb); have n4_ := Aside0.mk (ho); clear HO_6; clear HO_7; clear HO214; clear HB; clear HO218; have HO_6 := n0_; have HO_7 := n1_; have HO214 := n2_; have HB := n3_; have HO221 := n4_; clear n0_ n1_ n2_ n3_ n4_; clear ho hb hg hat))
         go_roundg k1
         case measure => have := HK1.out; omega
         case rel => exact ⟨(y219), (t212), (wrap64 (x8_1 - 1)), (by first | rfl | (simp; done) | (simp [*]; done)), H', ⟨by have := HK1.out; omega⟩, ⟨by (with_reducible repeat (first | apply Kd.R_alloc | apply Kd.R_drewN | apply Kd.R_drew)); exact Kd.R_mono HO221.out (fun _ hk => hk.2.2)⟩, ⟨by (with_reducible repeat (first | apply Kd.R_alloc | apply Kd.R_drewN | apply Kd.R_drew)); exact Kd.R_mono HO214.out (fun _ hk => hk.2)⟩, ⟨by repeat (first | (with_reducible first | exact HB.out | apply below_alloc | apply pw_below_drewN | apply below_drew1) | exact HB.out)⟩⟩
        ·replace c10 := Bool.eq_false_iff.mpr c10
         subst c10
         have H1 : ((soukref01_minus.f k1 t212 l1).bind fun t222 => (soukref01_Div.l0 k1 l0 l1 y219 t222 (wrap64 (x8_1 - 1)))) = some (r1, r2) := by rw [if_neg (show ¬ (false = true) by decide)] at H; exact H
         clear H
         have H := H1
         clear H1
         replace H := Option.bind_eq_some_iff.mp H
         obtain ⟨t222, A230, H⟩ := H
         replace H : (soukref01_Div.l0 k1 l0 l1 y219 t222 (wrap64 (x8_1 - 1))) = some (r1, r2) := H
         have A23 := Aside0.mk A230
         clear A230
         have H' := Aside0.mk H
         clear H
         have p205 : 0 ≤ (x8_1 : Int) := of_decide_eq_true (by first | (with_reducible assumption) | assumption)
         have q205 : x8_1 < (l0.length : Int) := of_decide_eq_true (by first | (with_reducible assumption) | assumption)
         obtain ⟨ad205, e205, hx205_0⟩ := Kd.at_bool HR0.out x8_1 p205 q205
         cases e205
         replace hx205_0 := (HB.out.cell (World.block_lt_of_cell? w _ hx205_0)).trans hx205_0
         replace p205 := eq_true p205
         replace q205 := eq_true q205
         go_wp2_with (first | ((with_reducible refine gate_dst (N := 21) rfl ?_); refine Kd.R_lit Kd.bool _ 4 ?hg (N := 21) ?hd (xs := ([rdOf false l0 x8_1] : List Bool)) (inner := [.bool (rdOf false l0 x8_1)]) (ok := fun _ => True) (okp := fun _ => True) ?hr ?hp (fun _ hk => hk) trivial (Below.refl _ _) (Nat.le_refl _) (by simp) ?_; (case hd => rfl); (case hg => rfl); (case hr => first | (go_simp; done) | (go_simp; rfl)); (case hp => exact (Reps.one (show Kd.M Kd.bool _ _ _ (rdOf false l0 x8_1) [.bool (rdOf false l0 x8_1)] from rfl) (Reps.none _ _))); intro v207 w24 ho25 hb hg_ hnew_; clear hg_ hnew_; (first | rw [← Ny206.out] at ho25 | (simp only [Int.reduceToNat] at ho25; rw [← Ny206.out] at ho25)); have n0_ := Aside0.mk (Kd.R_elder' (by (with_reducible repeat (first | apply Kd.R_alloc | apply Kd.R_drewN | apply Kd.R_drew)); exact HO_6.out) (Kd.R_base ho25) hb); have n1_ := Aside0.mk (Kd.R_elder' (by (with_reducible repeat (first | apply Kd.R_alloc | apply Kd.R_drewN | apply Kd.R_drew)); exact HO_7.out) (Kd.R_base ho25) hb); have n2_ := Aside0.mk (Kd.R_lower (Kd.R_new' (Kd.R_new' ho25 (Kd.R_lt (by (with_reducible repeat (first | apply Kd.R_alloc | apply Kd.R_drewN | apply Kd.R_drew)); exact HO_6.out))) (Kd.R_lt (by (with_reducible repeat (first | apply Kd.R_alloc | apply Kd.R_drewN | apply Kd.R_drew)); exact HO_7.out))) (below_size (by repeat (first | (with_reducible first | exact HB.out | apply below_alloc | apply pw_below_drewN | apply below_drew1) | exact HB.out)))); have n3_ := Aside0.mk (below_step (by repeat (first | (with_reducible first | exact HB.out | apply below_alloc | apply pw_below_drewN | apply below_drew1) | exact HB.out)) hb); clear HO_6; clear HO_7; clear HB; have HO_6 := n0_; have HO_7 := n1_; have HO208 := n2_; have HB := n3_; clear n0_ n1_ n2_ n3_; clear hb ho25; obtain ⟨Ao27, co27, eo27⟩ := Kd.R_slice HO_7.out; subst eo27) | ((with_reducible refine gate_builtin (b := .append) (xs := #[.tmp 21, .tmp 22]) rfl ?_); at_builtin; refine Kd.R_append_rows Kd.bool (w0 := w) w.heap.size rfl (.tmp 21) (.tmp 22) 87 4 (.bool false) 1 rfl Try.underlying87 info4 rfl (by decide) (by omega) v207 y206 x7_1 _ _ _ (fun k_ => some k_ ≠ (u6 : Value).ownBlock ∧ some k_ ≠ (.slice Ao27 x7_1.length co27 : Value).ownBlock) (fun _ => False) rfl rfl ?aO ?aR (fun _ _ h => h) (fun _ h => h.elim) ?aF ?aB ?aS ?aL ?_; (case aR => repeat (first | exact (Kd.R_reads' HO_7.out).2.2 | (with_reducible refine Kd.C_alloc ?_ _) | (with_reducible refine Kd.C_drewN ?_ _) | (with_reducible refine Kd.C_drew ?_))); (case aB => exact (by repeat (first | (with_reducible first | exact HB.out | apply below_alloc | apply pw_below_drewN | apply below_drew1) | exact HB.out))); (case aF => exact (fun k_ hk => ⟨Kd.fresh' (Kd.R_lt (by (with_reducible repeat (first | apply Kd.R_alloc | apply Kd.R_drewN | apply Kd.R_drew)); exact HO_6.out)) k_ hk, Kd.fresh' (Kd.R_lt (by (with_reducible repeat (first | apply Kd.R_alloc | apply Kd.R_drewN | apply Kd.R_drew)); exact HO_7.out)) k_ hk⟩)); (case aO => exact (by (with_reducible repeat (first | apply Kd.R_alloc | apply Kd.R_drewN | apply Kd.R_drew)); exact Kd.R_mono HO208.out (fun _ hk => ⟨hk.1.2, hk.2⟩))); (case aS => exact (below_size (by repeat (first | (with_reducible first | exact HB.out | apply below_alloc | apply pw_below_drewN | apply below_drew1) | exact HB.out)))); (case aL => have := LMc6.out; omega); intro v210 w26 ho hb hg hat; rw [← Ny209.out] at ho; have n0_ := Aside0.mk (Kd.R_after (ok := (fun k_ => some k_ ≠ (.slice Ao27 x7_1.length co27 : Value).ownBlock)) (by (with_reducible repeat (first | apply Kd.R_alloc | apply Kd.R_drewN | apply Kd.R_drew)); exact HO_6.out) hg hat); have n1_ := Aside0.mk (Kd.R_after (ok := (fun k_ => some k_ ≠ (u6 : Value).ownBlock)) (by (with_reducible repeat (first | apply Kd.R_alloc | apply Kd.R_drewN | apply Kd.R_drew)); exact HO_7.out) hg hat); have n2_ := Aside0.mk (hb); have n3_ := Aside0.mk (ho); clear HO_6; clear HO_7; clear HB; clear HO208; have HO_6 := n0_; have HO_7 := n1_; have HB := n2_; have HO211 := n3_; clear n0_ n1_ n2_ n3_; clear ho hb hg hat; obtain ⟨Ao28, co28, eo28⟩ := Kd.R_slice HO211.out; subst eo28) | ((with_reducible refine gate_callee (f := 46) rfl ?_); refine goesL_ (some 24) rfl rfl Try.func46 (by kernel_rfl) rfl #[.slice Ao28 y209.length co28] rfl (by (try simp only [List.map_toArray, List.map_cons, List.map_nil]); first | done | rfl | (simp only [List.length_drop, List.length_take]; rfl)) ?_; (with_reducible refine (soukref01_trim.calls k1 (fun k_ => some k_ = (.slice Ao28 y209.length co28 : Value).ownBlock) (.slice Ao28 y209.length co28) y209 t212 w _ ?side1 ?side2 A7.out).mono ?_); (case side1 => repeat (first | (with_reducible first | exact HB.out | apply below_alloc | apply pw_below_drewN | apply below_drew1) | exact HB.out)); (case side2 => exact Kd.R_tight rfl HO211.out); rintro e w29 ⟨v213, rfl, ho0, hb, hkp⟩; refine ⟨_, rfl, ?_⟩; have n0_ := Aside0.mk (Kd.R_mono (ok' := fun k_ => some k_ ≠ (.slice Ao27 x7_1.length co27 : Value).ownBlock ∧ some k_ ≠ (v213 : Value).ownBlock) (Kd.R_keptB (HO_6.out) hkp (fun k_ hk_ hs_ => (hk_.2) hs_)) (fun k_ hk_ => ⟨hk_.1.1, fun e_ => Or.elim (ho0.1 k_ e_.symm) (fun hs_ => hk_.2.1 hs_) (fun hn_ => Nat.not_le.2 hk_.2.2 hn_)⟩)); have n1_ := Aside0.mk (Kd.R_mono (ok' := fun k_ => some k_ ≠ (u6 : Value).ownBlock ∧ some k_ ≠ (v213 : Value).ownBlock) (Kd.R_keptB (HO_7.out) hkp (fun k_ hk_ hs_ => (hk_.2) hs_)) (fun k_ hk_ => ⟨hk_.1.1, fun e_ => Or.elim (ho0.1 k_ e_.symm) (fun hs_ => hk_.2.1 hs_) (fun hn_ => Nat.not_le.2 hk_.2.2 hn_)⟩)); have n2_ := Aside0.mk (Kd.R_mono (ok' := fun k_ => some k_ ≠ (u6 : Value).ownBlock ∧ some k_ ≠ (.slice Ao27 x7_1.length co27 : Value).ownBlock) ho0 (fun k_ hk_ => ⟨Or.elim hk_ (fun hs_ => fun e_ => (((HO_6.out).1 k_ e_.symm).2) hs_) (fun hn_ => (Kd.fresh' (Kd.R_lt (by (with_reducible repeat (first | apply Kd.R_alloc | apply Kd.R_drewN | apply Kd.R_drew)); exact HO_6.out)) k_ hn_)), Or.elim hk_ (fun hs_ => fun e_ => (((HO_7.out).1 k_ e_.symm).2) hs_) (fun hn_ => (Kd.fresh' (Kd.R_lt (by (with_reducible repeat (first | apply Kd.R_alloc | apply Kd.R_drewN | apply Kd.R_drew)); exact HO_7.out)) k_ hn_))⟩)); have n3_ := Aside0.mk (hb); clear HO_6; clear HO_7; clear HB; clear HO211; have HO_6 := n0_; have HO_7 := n1_; have HO214 := n2_; have HB := n3_; clear n0_ n1_ n2_ n3_; (try clear hb); (try clear hkp); (try clear ho0); obtain ⟨Ao30, co30, eo30⟩ := Kd.R_slice HO214.out; subst eo30) | ((with_reducible refine gate_callee (f := 47) rfl ?_); refine goesL_ (some 27) rfl rfl Try.func47 (by kernel_rfl) rfl #[.slice Ao30 t212.length co30, .slice A1 l1.length c1] rfl (by (try simp only [List.map_toArray, List.map_cons, List.map_nil]); first | done | rfl | (simp only [List.length_drop, List.length_take]; rfl)) ?_; (with_reducible refine (soukref01_less.calls k1 _ _ t212 _ _ l1 false _ ?side1 ?side2 ?side3 ?side4 A8.out).mono ?_); (case side1 => repeat (first | exact (Kd.R_reads' HO214.out).2.2 | (with_reducible refine Kd.C_alloc ?_ _) | (with_reducible refine Kd.C_drewN ?_ _) | (with_reducible refine Kd.C_drew ?_))); (case side2 => exact (Kd.R_reads' HO214.out).2.1); (case side3 => repeat (first | exact (Kd.C_below HR1.out HB.out) | (with_reducible refine Kd.C_alloc ?_ _) | (with_reducible refine Kd.C_drewN ?_ _) | (with_reducible refine Kd.C_drew ?_))); (case side4 => exact HC1.out); rintro e w31 ⟨rfl, hb⟩; refine ⟨_, rfl, ?_⟩; have n0_ := Aside0.mk (Kd.R_below (by (with_reducible repeat (first | apply Kd.R_alloc | apply Kd.R_drewN | apply Kd.R_drew)); exact HO_6.out) hb); have n1_ := Aside0.mk (Kd.R_below (by (with_reducible repeat (first | apply Kd.R_alloc | apply Kd.R_drewN | apply Kd.R_drew)); exact HO_7.out) hb); have n2_ := Aside0.mk (Kd.R_below (by (with_reducible repeat (first | apply Kd.R_alloc | apply Kd.R_drewN | apply Kd.R_drew)); exact HO214.out) hb); have n3_ := Aside0.mk (below_step (by repeat (first | (with_reducible first | exact HB.out | apply below_alloc | apply pw_below_drewN | apply below_drew1) | exact HB.out)) hb); clear HO_6; clear HO_7; clear HO214; clear HB; have HO_6 := n0_; have HO_7 := n1_; have HO214 := n2_; have HB := n3_; clear n0_ n1_ n2_ n3_; (try clear hb); (try clear hb2); (try clear hk); (try clear hi)) | ((with_reducible refine gate_dst (N := 30) rfl ?_); refine Kd.R_lit Kd.bool _ 4 ?hg (N := 30) ?hd (xs := ([!false] : List Bool)) (inner := [.bool (!false)]) (ok := fun _ => True) (okp := fun _ => True) ?hr ?hp (fun _ hk => hk) trivial (Below.refl _ _) (Nat.le_refl _) (by simp) ?_; (case hd => rfl); (case hg => rfl); (case hr => first | (go_simp; done) | (go_simp; rfl)); (case hp => exact (Reps.one (show Kd.M Kd.bool _ _ _ (!false) [.bool (!false)] from rfl) (Reps.none _ _))); intro v217 w32 ho33 hb hg_ hnew_; clear hg_ hnew_; (first | rw [← Ny216.out] at ho33 | (simp only [Int.reduceToNat] at ho33; rw [← Ny216.out] at ho33)); have n0_ := Aside0.mk (Kd.R_elder' (by (with_reducible repeat (first | apply Kd.R_alloc | apply Kd.R_drewN | apply Kd.R_drew)); exact HO_6.out) (Kd.R_base ho33) hb); have n1_ := Aside0.mk (Kd.R_elder' (by (with_reducible repeat (first | apply Kd.R_alloc | apply Kd.R_drewN | apply Kd.R_drew)); exact HO_7.out) (Kd.R_base ho33) hb); have n2_ := Aside0.mk (Kd.R_elder' (by (with_reducible repeat (first | apply Kd.R_alloc | apply Kd.R_drewN | apply Kd.R_drew)); exact HO214.out) (Kd.R_base ho33) hb); have n3_ := Aside0.mk (Kd.R_lower (Kd.R_new' (Kd.R_new' (Kd.R_new' ho33 (Kd.R_lt (by (with_reducible repeat (first | apply Kd.R_alloc | apply Kd.R_drewN | apply Kd.R_drew)); exact HO_6.out))) (Kd.R_lt (by (with_reducible repeat (first | apply Kd.R_alloc | apply Kd.R_drewN | apply Kd.R_drew)); exact HO_7.out))) (Kd.R_lt (by (with_reducible repeat (first | apply Kd.R_alloc | apply Kd.R_drewN | apply Kd.R_drew)); exact HO214.out))) (below_size (by repeat (first | (with_reducible first | exact HB.out | apply below_alloc | apply pw_below_drewN | apply below_drew1) | exact HB.out)))); have n4_ := Aside0.mk (below_step (by repeat (first | (with_reducible first | exact HB.out | apply below_alloc | apply pw_below_drewN | apply below_drew1) | exact HB.out)) hb); clear HO_6; clear HO_7; clear HO214; clear HB; have HO_6 := n0_; have HO_7 := n1_; have HO214 := n2_; have HO218 := n3_; have HB := n4_; clear n0_ n1_ n2_ n3_ n4_; clear hb ho33; obtain ⟨Ao35, co35, eo35⟩ := Kd.R_slice HO_6.out; subst eo35) | ((with_reducible refine gate_builtin (b := .append) (xs := #[.tmp 30, .tmp 31]) rfl ?_); at_builtin; refine Kd.R_append_rows Kd.bool (w0 := w) w.heap.size rfl (.tmp 30) (.tmp 31) 87 4 (.bool false) 1 rfl Try.underlying87 info4 rfl (by decide) (by omega) v217 y216 x6_1 _ _ _ (fun k_ => some k_ ≠ (.slice Ao35 x6_1.length co35 : Value).ownBlock ∧ some k_ ≠ (.slice Ao27 x7_1.length co27 : Value).ownBlock ∧ some k_ ≠ (.slice Ao30 t212.length co30 : Value).ownBlock) (fun _ => False) rfl rfl ?aO ?aR (fun _ _ h => h) (fun _ h => h.elim) ?aF ?aB ?aS ?aL ?_; (case aR => repeat (first | exact (Kd.R_reads' HO_6.out).2.2 | (with_reducible refine Kd.C_alloc ?_ _) | (with_reducible refine Kd.C_drewN ?_ _) | (with_reducible refine Kd.C_drew ?_))); (case aB => exact (by repeat (first | (with_reducible first | exact HB.out | apply below_alloc | apply pw_below_drewN | apply below_drew1) | exact HB.out))); (case aF => exact (fun k_ hk => ⟨Kd.fresh' (Kd.R_lt (by (with_reducible repeat (first | apply Kd.R_alloc | apply Kd.R_drewN | apply Kd.R_drew)); exact HO_6.out)) k_ hk, Kd.fresh' (Kd.R_lt (by (with_reducible repeat (first | apply Kd.R_alloc | apply Kd.R_drewN | apply Kd.R_drew)); exact HO_7.out)) k_ hk, Kd.fresh' (Kd.R_lt (by (with_reducible repeat (first | apply Kd.R_alloc | apply Kd.R_drewN | apply Kd.R_drew)); exact HO214.out)) k_ hk⟩)); (case aO => exact (by (with_reducible repeat (first | apply Kd.R_alloc | apply Kd.R_drewN | apply Kd.R_drew)); exact Kd.R_mono HO218.out (fun _ hk => ⟨hk.1.1.2, ⟨hk.1.2, hk.2⟩⟩))); (case aS => exact (below_size (by repeat (first | (with_reducible first | exact HB.out | apply below_alloc | apply pw_below_drewN | apply below_drew1) | exact HB.out)))); (case aL => have := LMc9.out; omega); intro v220 w34 ho hb hg hat; rw [← Ny219.out] at ho; have n0_ := Aside0.mk (Kd.R_after (ok := (fun k_ => some k_ ≠ (.slice Ao27 x7_1.length co27 : Value).ownBlock ∧ some k_ ≠ (.slice Ao30 t212.length co30 : Value).ownBlock)) (by (with_reducible repeat (first | apply Kd.R_alloc | apply Kd.R_drewN | apply Kd.R_drew)); exact HO_6.out) hg hat); have n1_ := Aside0.mk (Kd.R_after (ok := (fun k_ => some k_ ≠ (.slice Ao35 x6_1.length co35 : Value).ownBlock ∧ some k_ ≠ (.slice Ao30 t212.length co30 : Value).ownBlock)) (by (with_reducible repeat (first | apply Kd.R_alloc | apply Kd.R_drewN | apply Kd.R_drew)); exact HO_7.out) hg hat); have n2_ := Aside0.mk (Kd.R_after (ok := (fun k_ => some k_ ≠ (.slice Ao35 x6_1.length co35 : Value).ownBlock ∧ some k_ ≠ (.slice Ao27 x7_1.length co27 : Value).ownBlock)) (by (with_reducible repeat (first | apply Kd.R_alloc | apply Kd.R_drewN | apply Kd.R_drew)); exact HO214.out) hg hat); have n3_ := Aside0.mk (hb); have n4_ := Aside0.mk (ho); clear HO_6; clear HO_7; clear HO214; clear HB; clear HO218; have HO_6 := n0_; have HO_7 := n1_; have HO214 := n2_; have HB := n3_; have HO221 := n4_; clear n0_ n1_ n2_ n3_ n4_; clear ho hb hg hat) | ((with_reducible refine gate_callee (f := 65) rfl ?_); refine goesL_ (some 36) rfl rfl Try.func65 (by kernel_rfl) rfl #[.slice Ao30 t212.length co30, .slice A1 l1.length c1] rfl (by (try simp only [List.map_toArray, List.map_cons, List.map_nil]); first | done | rfl | (simp only [List.length_drop, List.length_take]; rfl)) ?_; (with_reducible refine (soukref01_minus.calls k1 _ _ t212 _ _ l1 t222 _ ?side1 ?side2 ?side3 ?side4 A23.out).mono ?_); (case side1 => repeat (first | exact (Kd.R_reads' HO214.out).2.2 | (with_reducible refine Kd.C_alloc ?_ _) | (with_reducible refine Kd.C_drewN ?_ _) | (with_reducible refine Kd.C_drew ?_))); (case side2 => exact (Kd.R_reads' HO214.out).2.1); (case side3 => repeat (first | exact (Kd.C_below HR1.out HB.out) | (with_reducible refine Kd.C_alloc ?_ _) | (with_reducible refine Kd.C_drewN ?_ _) | (with_reducible refine Kd.C_drew ?_))); (case side4 => exact HC1.out); rintro e w36 ⟨v223, rfl, ho0, hb⟩; refine ⟨_, rfl, ?_⟩; have n0_ := Aside0.mk (Kd.R_elder' (by (with_reducible repeat (first | apply Kd.R_alloc | apply Kd.R_drewN | apply Kd.R_drew)); exact HO_6.out) (Kd.R_base ho0) hb); have n1_ := Aside0.mk (Kd.R_elder' (by (with_reducible repeat (first | apply Kd.R_alloc | apply Kd.R_drewN | apply Kd.R_drew)); exact HO_7.out) (Kd.R_base ho0) hb); have n2_ := Aside0.mk (Kd.R_elder' (by (with_reducible repeat (first | apply Kd.R_alloc | apply Kd.R_drewN | apply Kd.R_drew)); exact HO214.out) (Kd.R_base ho0) hb); have n3_ := Aside0.mk (Kd.R_elder' (by (with_reducible repeat (first | apply Kd.R_alloc | apply Kd.R_drewN | apply Kd.R_drew)); exact HO221.out) (Kd.R_base ho0) hb); have n4_ := Aside0.mk (Kd.R_lower (Kd.R_new' (Kd.R_new' (Kd.R_new' (Kd.R_new' ho0 (Kd.R_lt (by (with_reducible repeat (first | apply Kd.R_alloc | apply Kd.R_drewN | apply Kd.R_drew)); exact HO_6.out))) (Kd.R_lt (by (with_reducible repeat (first | apply Kd.R_alloc | apply Kd.R_drewN | apply Kd.R_drew)); exact HO_7.out))) (Kd.R_lt (by (with_reducible repeat (first | apply Kd.R_alloc | apply Kd.R_drewN | apply Kd.R_drew)); exact HO214.out))) (Kd.R_lt (by (with_reducible repeat (first | apply Kd.R_alloc | apply Kd.R_drewN | apply Kd.R_drew)); exact HO221.out))) (below_size (by repeat (first | (with_reducible first | exact HB.out | apply below_alloc | apply pw_below_drewN | apply below_drew1) | exact HB.out)))); have n5_ := Aside0.mk (below_step (by repeat (first | (with_reducible first | exact HB.out | apply below_alloc | apply pw_below_drewN | apply below_drew1) | exact HB.out)) hb); clear HO_6; clear HO_7; clear HO214; clear HO221; clear HB; have HO_6 := n0_; have HO_7 := n1_; have HO214 := n2_; have HO221 := n3_; have HO224 := n4_; have HB := n5_; clear n0_ n1_ n2_ n3_ n4_ n5_; (try clear hb); (try clear hb2); (try clear hk); (try clear hi); (try clear ho0)))
         go_roundg k1
         case measure => have := HK1.out; omega
         case rel => exact ⟨(y219), (t222), (wrap64 (x8_1 - 1)), (by first | rfl | (simp; done) | (simp [*]; done)), H', ⟨by have := HK1.out; omega⟩, ⟨by (with_reducible repeat (first | apply Kd.R_alloc | apply Kd.R_drewN | apply Kd.R_drew)); exact Kd.R_mono HO221.out (fun _ hk => hk.2)⟩, ⟨by (with_reducible repeat (first | apply Kd.R_alloc | apply Kd.R_drewN | apply Kd.R_drew)); exact Kd.R_mono HO224.out (fun _ hk => hk.2)⟩, ⟨by repeat (first | (with_reducible first | exact HB.out | apply below_alloc | apply pw_below_drewN | apply below_drew1) | exact HB.out)⟩⟩
       ·rw [if_neg c9] at H
        exact absurd H (by simp)
      ·rw [if_neg c6] at H
       exact absurd H (by simp)
     ·rw [if_neg c5] at H
      exact absurd H (by simp)
    ·rw [if_neg c4] at H
     exact absurd H (by simp)
   ·rw [if_neg c3] at H
    have c3b0 : decide (0 ≤ x8_1) = false := decide_eq_false c3
    clear c3
    replace H := Option.bind_eq_some_iff.mp H
    obtain ⟨t202, A370, H⟩ := H
    replace H : (some (t202, x7_1)) = some (r1, r2) := H
    have A37 := Aside0.mk A370
    clear A370
    simp only [Option.some.injEq, Prod.mk.injEq] at H
    obtain ⟨rfl, rfl⟩ := H
    obtain ⟨Ao38, co38, eo38⟩ := Kd.R_slice HO_6.out
    subst eo38
    go_wp2_with (first | ((with_reducible refine gate_callee (f := 46) rfl ?_); refine goesL_ (some 38) rfl rfl Try.func46 (by kernel_rfl) rfl #[.slice Ao38 x6_1.length co38] rfl (by (try simp only [List.map_toArray, List.map_cons, List.map_nil]); first | done | rfl | (simp only [List.length_drop, List.length_take]; rfl)) ?_; (with_reducible refine (soukref01_trim.calls k1 (fun k_ => some k_ = (.slice Ao38 x6_1.length co38 : Value).ownBlock) (.slice Ao38 x6_1.length co38) x6_1 t202 w _ ?side1 ?side2 A37.out).mono ?_); (case side1 => repeat (first | (with_reducible first | exact HB.out | apply below_alloc | apply pw_below_drewN | apply below_drew1) | exact HB.out)); (case side2 => exact Kd.R_tight rfl HO_6.out); rintro e w39 ⟨v203, rfl, ho0, hb, hkp⟩; refine ⟨_, rfl, ?_⟩; have n0_ := Aside0.mk (Kd.R_mono (ok' := fun k_ => some k_ ≠ (v203 : Value).ownBlock) (Kd.R_keptB (HO_7.out) hkp (fun k_ hk_ hs_ => (hk_) hs_)) (fun k_ hk_ => fun e_ => Or.elim (ho0.1 k_ e_.symm) (fun hs_ => hk_.2.1 hs_) (fun hn_ => Nat.not_le.2 hk_.2.2 hn_))); have n1_ := Aside0.mk (Kd.R_mono (ok' := fun k_ => some k_ ≠ (u7 : Value).ownBlock) ho0 (fun k_ hk_ => Or.elim hk_ (fun hs_ => fun e_ => (((HO_7.out).1 k_ e_.symm)) hs_) (fun hn_ => (Kd.fresh' (Kd.R_lt (by (with_reducible repeat (first | apply Kd.R_alloc | apply Kd.R_drewN | apply Kd.R_drew)); exact HO_7.out)) k_ hn_)))); have n2_ := Aside0.mk (hb); clear HO_7; clear HB; clear HO_6; have HO_7 := n0_; have HO204 := n1_; have HB := n2_; clear n0_ n1_ n2_; (try clear hb); (try clear hkp); (try clear ho0)))
    go_ret2
    exact ⟨_, _, by first | rfl | (simp [errW_none, errW_some] <;> rfl) | (simp [*, errW_none, errW_some] <;> rfl), by (with_reducible repeat (first | apply Kd.R_alloc | apply Kd.R_drewN | apply Kd.R_drew)); exact HO204.out, by (with_reducible repeat (first | apply Kd.R_alloc | apply Kd.R_drewN | apply Kd.R_drew)); exact HO_7.out, by repeat (first | (with_reducible first | exact HB.out | apply below_alloc | apply pw_below_drewN | apply below_drew1) | exact HB.out)⟩
end Go.Proofs.Ytncnhhnbjmpomaa.Q
namespace Go.Proofs.Ytncnhhnbjmpomaa.Q
open Go.RowKit Go.Proofs.YtncnhhnbjmpomaaW.PrintWords Go.Proofs.YtncnhhnbjmpomaaW.PrintLast Go.Proofs.YtncnhhnbjmpomaaW.PrintMore
attribute [local go_sem] max2_int min2_int max_two min_two max_three min_three max_four min_four   -- for this text's walks alone
set_option linter.unusedVariables false
set_option linter.unusedSimpArgs false
mutual
def soukref01_Plus.l0 : Nat → List Bool → List Bool → List Bool → Bool → Int → Option (List Bool)
 | 0, _, _, _, _, _ => none
 | k + 1, x0, x1, x5, x6, x7 => if x7 < (x0.length : Int) then (soukref01_Plus.j1 k x0 x1 x5 x6 x7 true) else (if x7 < (x1.length : Int) then (soukref01_Plus.j1 k x0 x1 x5 x6 x7 true) else (soukref01_Plus.j1 k x0 x1 x5 x6 x7 x6))
def soukref01_Plus.j1 : Nat → List Bool → List Bool → List Bool → Bool → Int → Bool → Option (List Bool)
 | 0, _, _, _, _, _, _ => none
 | k + 1, x0, x1, x5, x6, x7, x22 => if x22 = true then ((soukref01_Wide_at.f x0 x7).bind fun t225 => ((soukref01_Wide_at.f x1 x7).bind fun t226 => (if t225 = true then (if t226 = true then (if x6 = true then (if x5.length < 140737488355328 then (soukref01_Plus.l0 k x0 x1 (x5 ++ [true]) true (wrap64 (x7 + 1))) else (none)) else (if x5.length < 140737488355328 then (soukref01_Plus.l0 k x0 x1 (x5 ++ [false]) true (wrap64 (x7 + 1))) else (none))) else (if x6 = true then (if x5.length < 140737488355328 then (soukref01_Plus.l0 k x0 x1 (x5 ++ [false]) true (wrap64 (x7 + 1))) else (none)) else (if x5.length < 140737488355328 then (soukref01_Plus.l0 k x0 x1 (x5 ++ [true]) false (wrap64 (x7 + 1))) else (none)))) else (if t226 = true then (if x6 = true then (if x5.length < 140737488355328 then (soukref01_Plus.l0 k x0 x1 (x5 ++ [false]) x6 (wrap64 (x7 + 1))) else (none)) else (if x5.length < 140737488355328 then (soukref01_Plus.l0 k x0 x1 (x5 ++ [true]) x6 (wrap64 (x7 + 1))) else (none))) else (if x6 = true then (if x5.length < 140737488355328 then (soukref01_Plus.l0 k x0 x1 (x5 ++ [true]) false (wrap64 (x7 + 1))) else (none)) else (if x5.length < 140737488355328 then (soukref01_Plus.l0 k x0 x1 (x5 ++ [false]) false (wrap64 (x7 + 1))) else (none))))))) else (some x5)
end
def soukref01_Plus.f (k : Nat) (l0 : List Bool) (l1 : List Bool) : Option (List Bool) := soukref01_Plus.l0 k l0 l1 ([] : List Bool) false 0
set_option maxHeartbeats 8000000 in
set_option maxRecDepth 100000 in
theorem soukref01_Plus.calls (k : Nat) (A0 : Option Addr) (c0 : Nat) (l0 : List Bool) (A1 : Option Addr) (c1 : Nat) (l1 : List Bool) (r : List Bool) (w : World) (hr0 : Kd.C Kd.bool w A0 l0.length l0) (hc0 : l0.length ≤ c0) (hr1 : Kd.C Kd.bool w A1 l1.length l1) (hc1 : l1.length ≤ c1) (h : soukref01_Plus.f k l0 l1 = some r) :
  Calls Try.prog 45 #[.slice A0 l0.length c0, .slice A1 l1.length c1] w fun e w' => ∃ v0_ : Value, e = .returned (v0_) ∧ Kd.R Kd.bool 4 w' w.heap.size (fun _ => True) v0_ r ∧ Below w.heap.size w w' := by
 have HR0 := Aside0.mk hr0
 have HC0 := Aside0.mk hc0
 clear hr0 hc0
 have HR1 := Aside0.mk hr1
 have HC1 := Aside0.mk hc1
 clear hr1 hc1
 have HB := Aside0.mk (Below.refl w.heap.size w)
 have H : (soukref01_Plus.l0 k l0 l1 ([] : List Bool) false 0) = some r := h
 clear h
 have H' := Aside0.mk H
 clear H
 go_enter Try.func45, Try.ntmps45
 go_wp2
 go_loopg [5, 6, 7] k (fun kq v5 v6 v7 w' => ∃ (x5_1 : List Bool) (x6_1 : Bool) (x7_1 : Int), v6 = .bool x6_1 ∧ v7 = .int .i64 x7_1 ∧ Aside0 (soukref01_Plus.l0 kq l0 l1 x5_1 x6_1 x7_1 = some r) ∧ Aside0 (kq ≤ k) ∧ Aside0 (Kd.R Kd.bool 4 w' w.heap.size (fun _ => True) v5 x5_1) ∧ Aside0 (Below w.heap.size w w'))
 case atStart => exact ⟨(([] : List Bool)), (false), (0), (by first | rfl | (simp; done) | (simp [*]; done)), (by first | rfl | (simp; done) | (simp [*]; done)), H', ⟨Nat.le_refl _⟩, ⟨by first | exact Kd.R_nil _ _ _ _ _ | exact Kd.N_nil _ _ _ _ _ | exact Kd.V_nil _ _ _ _ _ | exact Kd.Q_nil _ _ _ _ _ | exact Kd.S_nil _ _ _ _ _⟩, ⟨by repeat (first | (with_reducible first | exact HB.out | apply below_alloc | apply pw_below_drewN | apply below_drew1) | exact HB.out)⟩⟩
 case round =>
  clear H'
  try clear c1
  try clear p2
  obtain ⟨x5_1, x6_1, x7_1, rfl, rfl, HA, HK1, HO_5, HB⟩ := hrel
  cases gk with
  | zero => exact absurd HA.out (by simp [soukref01_Plus.l0])
  | succ k1 =>
   have H := HA.out
   clear HA
   simp only [soukref01_Plus.l0] at H
   have HC3 := Aside0.mk H
   clear H
   go_upto_region 4 with (fail)
   go_cut [22] (fun v22 wc => ∃ (kq : Nat) (x22_2 : Bool), v22 = .bool x22_2 ∧ Aside0 (soukref01_Plus.j1 kq l0 l1 x5_1 x6_1 x7_1 x22_2 = some r) ∧ Aside0 (kq ≤ k1) ∧ Aside0 (Kd.R Kd.bool 4 wc w.heap.size (fun _ => True) u5 x5_1) ∧ Aside0 (Below w.heap.size w wc))
   case first =>
    have H := HC3.out
    clear HC3
    by_cases c4 : x7_1 < (l0.length : Int)
    ·rw [if_pos c4] at H
     have c4b0 : decide (x7_1 < (l0.length : Int)) = true := decide_eq_true c4
     clear c4
     (first | rw [c4b0] | (simp only [i64_w, i32_w]; rw [c4b0]) | skip)
     have H' := Aside0.mk H
     clear H
     go_wp2
     go_meet
     case rel => exact ⟨_, (true), (by first | rfl | (simp; done) | (simp [*]; done)), H', ⟨by have := HK1.out; first | omega | exact Nat.le_refl _⟩, ⟨by (with_reducible repeat (first | apply Kd.R_alloc | apply Kd.R_drewN | apply Kd.R_drew)); exact HO_5.out⟩, ⟨by repeat (first | (with_reducible first | exact HB.out | apply below_alloc | apply pw_below_drewN | apply below_drew1) | exact HB.out)⟩⟩
    ·rw [if_neg c4] at H
     have c4b0 : decide (x7_1 < (l0.length : Int)) = false := decide_eq_false c4
     clear c4
     (first | rw [c4b0] | (simp only [i64_w, i32_w]; rw [c4b0]) | skip)
     by_cases c5 : x7_1 < (l1.length : Int)
     ·rw [if_pos c5] at H
      have c5b0 : decide (x7_1 < (l1.length : Int)) = true := decide_eq_true c5
      clear c5
      have H' := Aside0.mk H
      clear H
      go_wp2
      go_meet
      case rel => exact ⟨_, (true), (by first | rfl | (simp; done) | (simp [*]; done)), H', ⟨by have := HK1.out; first | omega | exact Nat.le_refl _⟩, ⟨by (with_reducible repeat (first | apply Kd.R_alloc | apply Kd.R_drewN | apply Kd.R_drew)); exact HO_5.out⟩, ⟨by repeat (first | (with_reducible first | exact HB.out | apply below_alloc | apply pw_below_drewN | apply below_drew1) | exact HB.out)⟩⟩
     ·rw [if_neg c5] at H
      have c5b0 : decide (x7_1 < (l1.length : Int)) = false := decide_eq_false c5
      clear c5
      have H' := Aside0.mk H
      clear H
      go_wp2
      go_meet
      case rel => exact ⟨_, (x6_1), (by first | rfl | (simp; done) | (simp [*]; done)), H', ⟨by have := HK1.out; first | omega | exact Nat.le_refl _⟩, ⟨by (with_reducible repeat (first | apply Kd.R_alloc | apply Kd.R_drewN | apply Kd.R_drew)); exact HO_5.out⟩, ⟨by repeat (first | (with_reducible first | exact HB.out | apply below_alloc | apply pw_below_drewN | apply below_drew1) | exact HB.out)⟩⟩
   case rest =>
    clear HC3
    try clear c1
    try clear p2
    try clear c4
    try clear c4b0
    try clear c5
    try clear c5b0
    try clear p2
    obtain ⟨kq, x22_2, rfl, HA, HJ2, HO_5, HB⟩ := hcut
    cases kq with
    | zero => exact absurd HA.out (by simp [soukref01_Plus.j1])
    | succ kj2 =>
     have H := HA.out
     clear HA
     simp only [soukref01_Plus.j1] at H
     by_cases c6 : x22_2 = true
     ·subst c6
      have H1 : ((soukref01_Wide_at.f l0 x7_1).bind fun t225 => ((soukref01_Wide_at.f l1 x7_1).bind fun t226 => (if t225 = true then (if t226 = true then (if x6_1 = true then (if x5_1.length < 140737488355328 then (soukref01_Plus.l0 kj2 l0 l1 (x5_1 ++ [true]) true (wrap64 (x7_1 + 1))) else (none)) else (if x5_1.length < 140737488355328 then (soukref01_Plus.l0 kj2 l0 l1 (x5_1 ++ [false]) true (wrap64 (x7_1 + 1))) else (none))) else (if x6_1 = true then (if x5_1.length < 140737488355328 then (soukref01_Plus.l0 kj2 l0 l1 (x5_1 ++ [false]) true (wrap64 (x7_1 + 1))) else (none)) else (if x5_1.length < 140737488355328 then (soukref01_Plus.l0 kj2 l0 l1 (x5_1 ++ [true]) false (wrap64 (x7_1 + 1))) else (none)))) else (if t226 = true then (if x6_1 = true then (if x5_1.length < 140737488355328 then (soukref01_Plus.l0 kj2 l0 l1 (x5_1 ++ [false]) x6_1 (wrap64 (x7_1 + 1))) else (none)) else (if x5_1.length < 140737488355328 then (soukref01_Plus.l0 kj2 l0 l1 (x5_1 ++ [true]) x6_1 (wrap64 (x7_1 + 1))) else (none))) else (if x6_1 = true then (if x5_1.length < 140737488355328 then (soukref01_Plus.l0 kj2 l0 l1 (x5_1 ++ [true]) false (wrap64 (x7_1 + 1))) else (none)) else (if x5_1.length < 140737488355328 then (soukref01_Plus.l0 kj2 l0 l1 (x5_1 ++ [false]) false (wrap64 (x7_1 + 1))) else (none))))))) = some r := by rw [if_pos rfl] at H; exact H
      clear H
      have H := H1
      clear H1
      replace H := Option.bind_eq_some_iff.mp H
      obtain ⟨t225, A70, H⟩ := H
      replace H : ((soukref01_Wide_at.f l1 x7_1).bind fun t226 => (if t225 = true then (if t226 = true then (if x6_1 = true then (if x5_1.length < 140737488355328 then (soukref01_Plus.l0 kj2 l0 l1 (x5_1 ++ [true]) true (wrap64 (x7_1 + 1))) else (none)) else (if x5_1.length < 140737488355328 then (soukref01_Plus.l0 kj2 l0 l1 (x5_1 ++ [false]) true (wrap64 (x7_1 + 1))) else (none))) else (if x6_1 = true then (if x5_1.length < 140737488355328 then (soukref01_Plus.l0 kj2 l0 l1 (x5_1 ++ [false]) true (wrap64 (x7_1 + 1))) else (none)) else (if x5_1.length < 140737488355328 then (soukref01_Plus.l0 kj2 l0 l1 (x5_1 ++ [true]) false (wrap64 (x7_1 + 1))) else (none)))) else (if t226 = true then (if x6_1 = true then (if x5_1.length < 140737488355328 then (soukref01_Plus.l0 kj2 l0 l1 (x5_1 ++ [false]) x6_1 (wrap64 (x7_1 + 1))) else (none)) else (if x5_1.length < 140737488355328 then (soukref01_Plus.l0 kj2 l0 l1 (x5_1 ++ [true]) x6_1 (wrap64 (x7_1 + 1))) else (none))) else (if x6_1 = true then (if x5_1.length < 140737488355328 then (soukref01_Plus.l0 kj2 l0 l1 (x5_1 ++ [true]) false (wrap64 (x7_1 + 1))) else (none)) else (if x5_1.length < 140737488355328 then (soukref01_Plus.l0 kj2 l0 l1 (x5_1 ++ [false]) false (wrap64 (x7_1 + 1))) else (none)))))) = some r := H
      have A7 := Aside0.mk A70
      clear A70
      replace H := Option.bind_eq_some_iff.mp H
      obtain ⟨t226, A80, H⟩ := H
      replace H : (if t225 = true then (if t226 = true then (if x6_1 = true then (if x5_1.length < 140737488355328 then (soukref01_Plus.l0 kj2 l0 l1 (x5_1 ++ [true]) true (wrap64 (x7_1 + 1))) else (none)) else (if x5_1.length < 140737488355328 then (soukref01_Plus.l0 kj2 l0 l1 (x5_1 ++ [false]) true (wrap64 (x7_1 + 1))) else (none))) else (if x6_1 = true then (if x5_1.length < 140737488355328 then (soukref01_Plus.l0 kj2 l0 l1 (x5_1 ++ [false]) true (wrap64 (x7_1 + 1))) else (none)) else (if x5_1.length < 140737488355328 then (soukref01_Plus.l0 kj2 l0 l1 (x5_1 ++ [true]) false (wrap64 (x7_1 + 1))) else (none)))) else (if t226 = true then (if x6_1 = true then (if x5_1.length < 140737488355328 then (soukref01_Plus.l0 kj2 l0 l1 (x5_1 ++ [false]) x6_1 (wrap64 (x7_1 + 1))) else (none)) else (if x5_1.length < 140737488355328 then (soukref01_Plus.l0 kj2 l0 l1 (x5_1 ++ [true]) x6_1 (wrap64 (x7_1 + 1))) else (none))) else (if x6_1 = true then (if x5_1.length < 140737488355328 then (soukref01_Plus.l0 kj2 l0 l1 (x5_1 ++ [true]) false (wrap64 (x7_1 + 1))) else (none)) else (if x5_1.length < 140737488355328 then (soukref01_Plus.l0 kj2 l0 l1 (x5_1 ++ [false]) false (wrap64 (x7_1 + 1))) else (none))))) = some r := H
      have A8 := Aside0.mk A80
      clear A80
      by_cases c9 : t225 = true
      ·subst c9
       have H1 : (if t226 = true then (if x6_1 = true then (if x5_1.length < 140737488355328 then (soukref01_Plus.l0 kj2 l0 l1 (x5_1 ++ [true]) true (wrap64 (x7_1 + 1))) else (none)) else (if x5_1.length < 140737488355328 then (soukref01_Plus.l0 kj2 l0 l1 (x5_1 ++ [false]) true (wrap64 (x7_1 + 1))) else (none))) else (if x6_1 = true then (if x5_1.length < 140737488355328 then (soukref01_Plus.l0 kj2 l0 l1 (x5_1 ++ [false]) true (wrap64 (x7_1 + 1))) else (none)) else (if x5_1.length < 140737488355328 then (soukref01_Plus.l0 kj2 l0 l1 (x5_1 ++ [true]) false (wrap64 (x7_1 + 1))) else (none)))) = some r := by rw [if_pos rfl] at H; exact H
       clear H
       have H := H1
       clear H1
       by_cases c10 : t226 = true
       ·subst c10
        have H1 : (if x6_1 = true then (if x5_1.length < 140737488355328 then (soukref01_Plus.l0 kj2 l0 l1 (x5_1 ++ [true]) true (wrap64 (x7_1 + 1))) else (none)) else (if x5_1.length < 140737488355328 then (soukref01_Plus.l0 kj2 l0 l1 (x5_1 ++ [false]) true (wrap64 (x7_1 + 1))) else (none))) = some r := by rw [if_pos rfl] at H; exact H
        clear H
        have H := H1
        clear H1
        by_cases c11 : x6_1 = true
        ·subst c11
         have H1 : (if x5_1.length < 140737488355328 then (soukref01_Plus.l0 kj2 l0 l1 (x5_1 ++ [true]) true (wrap64 (x7_1 + 1))) else (none)) = some r := by rw [if_pos rfl] at H; exact H
         clear H
         have H := H1
         clear H1
         by_cases c12 : x5_1.length < 140737488355328
         ·rw [if_pos c12] at H
          have LMc12 := Aside0.mk c12
          clear c12
          obtain ⟨y227, hy227⟩ : ∃ y_ : List Bool, y_ = (x5_1 ++ [true]) := ⟨_, rfl⟩
          replace H : (soukref01_Plus.l0 kj2 l0 l1 y227 true (wrap64 (x7_1 + 1))) = some r := by first | (rw [hy227]; with_reducible exact H) | (have H2_ := (Option.bind_some _ _).symm.trans H; rw [hy227]; with_reducible exact H2_) | (have H2_ := (Option.bind_some _ _).symm.trans H; with_reducible exact H2_) | with_reducible exact H | (rw [hy227]; exact H) | exact H
          have Ny227 := Aside0.mk hy227
          clear hy227
          have H' := Aside0.mk H
          clear H
          go_wp2_with (first | ((with_reducible refine gate_callee (f := 48) rfl ?_); refine goesL_ (some 27) rfl rfl Try.func48 (by kernel_rfl) rfl #[.slice A0 l0.length c0, .int .i64 x7_1] rfl (by (try simp only [List.map_toArray, List.map_cons, List.map_nil]); first | done | rfl | (simp only [List.length_drop, List.length_take]; rfl)) ?_; (with_reducible refine (soukref01_Wide_at.calls _ _ l0 x7_1 true _ ?side1 ?side2 A7.out).mono ?_); (case side1 => repeat (first | exact (Kd.C_below HR0.out HB.out) | (with_reducible refine Kd.C_alloc ?_ _) | (with_reducible refine Kd.C_drewN ?_ _) | (with_reducible refine Kd.C_drew ?_))); (case side2 => exact HC0.out); rintro e w' ⟨rfl, ⟨nd, rfl⟩⟩; refine ⟨_, rfl, ?_⟩) | ((with_reducible refine gate_callee (f := 48) rfl ?_); refine goesL_ (some 30) rfl rfl Try.func48 (by kernel_rfl) rfl #[.slice A1 l1.length c1, .int .i64 x7_1] rfl (by (try simp only [List.map_toArray, List.map_cons, List.map_nil]); first | done | rfl | (simp only [List.length_drop, List.length_take]; rfl)) ?_; (with_reducible refine (soukref01_Wide_at.calls _ _ l1 x7_1 true _ ?side1 ?side2 A8.out).mono ?_); (case side1 => repeat (first | exact (Kd.C_below HR1.out (by repeat (first | (with_reducible first | exact HB.out | apply below_alloc | apply pw_below_drewN | apply below_drew1) | exact HB.out))) | (with_reducible refine Kd.C_alloc ?_ _) | (with_reducible refine Kd.C_drewN ?_ _) | (with_reducible refine Kd.C_drew ?_))); (case side2 => exact HC1.out); rintro e w' ⟨rfl, ⟨nd, rfl⟩⟩; refine ⟨_, rfl, ?_⟩) | ((with_reducible refine gate_builtin (b := .append) (xs := #[.tmp 31, .tmp 37]) rfl ?_); (try (refine gate_guard (by rfl) ?_; dsimp only)); at_builtin; refine Kd.R_append Kd.bool (w0 := w) w.heap.size rfl (.tmp 31) (.tmp 37) 87 4 (.bool false) 1 rfl Try.underlying87 info4 rfl (by decide) (by omega) u5 x5_1 true [.bool true] (fun _ => True) (fun _ => False) rfl rfl ?aP (fun _ hk => hk.elim) ?aF ?aO ?aB ?aS ?aL ?_; (case aP => exact rfl); (case aB => exact (by repeat (first | (with_reducible first | exact HB.out | apply below_alloc | apply pw_below_drewN | apply below_drew1) | exact HB.out))); (case aF => exact (fun _ _ => trivial)); (case aO => exact (by (with_reducible repeat (first | apply Kd.R_alloc | apply Kd.R_drewN | apply Kd.R_drew)); exact HO_5.out)); (case aS => exact (below_size (by repeat (first | (with_reducible first | exact HB.out | apply below_alloc | apply pw_below_drewN | apply below_drew1) | exact HB.out)))); (case aL => have := LMc12.out; omega); intro v228 w13 ho hb hg hat; rw [← Ny227.out] at ho; have n0_ := Aside0.mk (hb); have n1_ := Aside0.mk (ho); clear HB; clear HO_5; have HB := n0_; have HO229 := n1_; clear n0_ n1_; clear ho hb hg hat))
          go_roundg kj2
          case measure => have := HK1.out; have := HJ2.out; omega
          case rel => exact ⟨(y227), (true), (wrap64 (x7_1 + 1)), (by first | rfl | (simp; done) | (simp [*]; done)), (by first | rfl | (simp; done) | (simp [*]; done)), H', ⟨by have := HK1.out; have := HJ2.out; omega⟩, ⟨by (with_reducible repeat (first | apply Kd.R_alloc | apply Kd.R_drewN | apply Kd.R_drew)); exact HO229.out⟩, ⟨by repeat (first | (with_reducible first | exact HB.out | apply below_alloc | apply pw_below_drewN | apply below_drew1) | exact HB.out)⟩⟩
         ·rw [if_neg c12] at H
          exact absurd H (by simp)
        ·replace c11 := Bool.eq_false_iff.mpr c11
         subst c11
         have H1 : (if x5_1.length < 140737488355328 then (soukref01_Plus.l0 kj2 l0 l1 (x5_1 ++ [false]) true (wrap64 (x7_1 + 1))) else (none)) = some r := by rw [if_neg (show ¬ (false = true) by decide)] at H; exact H
         clear H
         have H := H1
         clear H1
         by_cases c14 : x5_1.length < 140737488355328
         ·rw [if_pos c14] at H
          have LMc14 := Aside0.mk c14
          clear c14
          obtain ⟨y230, hy230⟩ : ∃ y_ : List Bool, y_ = (x5_1 ++ [false]) := ⟨_, rfl⟩
          replace H : (soukref01_Plus.l0 kj2 l0 l1 y230 true (wrap64 (x7_1 + 1))) = some r := by first | (rw [hy230]; with_reducible exact H) | (have H2_ := (Option.bind_some _ _).symm.trans H; rw [hy230]; with_reducible exact H2_) | (have H2_ := (Option.bind_some _ _).symm.trans H; with_reducible exact H2_) | with_reducible exact H | (rw [hy230]; exact H) | exact H
          have Ny230 := Aside0.mk hy230
          clear hy230
          have H' := Aside0.mk H
          clear H
          go_wp2_with (first | ((with_reducible refine gate_callee (f := 48) rfl ?_); refine goesL_ (some 27) rfl rfl Try.func48 (by kernel_rfl) rfl #[.slice A0 l0.length c0, .int .i64 x7_1] rfl (by (try simp only [List.map_toArray, List.map_cons, List.map_nil]); first | done | rfl | (simp only [List.length_drop, List.length_take]; rfl)) ?_; (with_reducible refine (soukref01_Wide_at.calls _ _ l0 x7_1 true _ ?side1 ?side2 A7.out).mono ?_); (case side1 => repeat (first | exact (Kd.C_below HR0.out HB.out) | (with_reducible refine Kd.C_alloc ?_ _) | (with_reducible refine Kd.C_drewN ?_ _) | (with_reducible refine Kd.C_drew ?_))); (case side2 => exact HC0.out); rintro e w' ⟨rfl, ⟨nd, rfl⟩⟩; refine ⟨_, rfl, ?_⟩) | ((with_reducible refine gate_callee (f := 48) rfl ?_); refine goesL_ (some 30) rfl rfl Try.func48 (by kernel_rfl) rfl #[.slice A1 l1.length c1, .int .i64 x7_1] rfl (by (try simp only [List.map_toArray, List.map_cons, List.map_nil]); first | done | rfl | (simp only [List.length_drop, List.length_take]; rfl)) ?_; (with_reducible refine (soukref01_Wide_at.calls _ _ l1 x7_1 true _ ?side1 ?side2 A8.out).mono ?_); (case side1 => repeat (first | exact (Kd.C_below HR1.out (by repeat (first | (with_reducible first | exact HB.out | apply below_alloc | apply pw_below_drewN | apply below_drew1) | exact HB.out))) | (with_reducible refine Kd.C_alloc ?_ _) | (with_reducible refine Kd.C_drewN ?_ _) | (with_reducible refine Kd.C_drew ?_))); (case side2 => exact HC1.out); rintro e w' ⟨rfl, ⟨nd, rfl⟩⟩; refine ⟨_, rfl, ?_⟩) | ((with_reducible refine gate_builtin (b := .append) (xs := #[.tmp 31, .tmp 37]) rfl ?_); (try (refine gate_guard (by rfl) ?_; dsimp only)); at_builtin; refine Kd.R_append Kd.bool (w0 := w) w.heap.size rfl (.tmp 31) (.tmp 37) 87 4 (.bool false) 1 rfl Try.underlying87 info4 rfl (by decide) (by omega) u5 x5_1 false [.bool false] (fun _ => True) (fun _ => False) rfl rfl ?aP (fun _ hk => hk.elim) ?aF ?aO ?aB ?aS ?aL ?_; (case aP => exact rfl); (case aB => exact (by repeat (first | (with_reducible first | exact HB.out | apply below_alloc | apply pw_below_drewN | apply below_drew1) | exact HB.out))); (case aF => exact (fun _ _ => trivial)); (case aO => exact (by (with_reducible repeat (first | apply Kd.R_alloc | apply Kd.R_drewN | apply Kd.R_drew)); exact HO_5.out)); (case aS => exact (below_size (by repeat (first | (with_reducible first | exact HB.out | apply below_alloc | apply pw_below_drewN | apply below_drew1) | exact HB.out)))); (case aL => have := LMc14.out; omega); intro v231 w15 ho hb hg hat; rw [← Ny230.out] at ho; have n0_ := Aside0.mk (hb); have n1_ := Aside0.mk (ho); clear HB; clear HO_5; have HB := n0_; have HO232 := n1_; clear n0_ n1_; clear ho hb hg hat))
          go_roundg kj2
          case measure => have := HK1.out; have := HJ2.out; omega
          case rel => exact ⟨(y230), (true), (wrap64 (x7_1 + 1)), (by first | rfl | (simp; done) | (simp [*]; done)), (by first | rfl | (simp; done) | (simp [*]; done)), H', ⟨by have := HK1.out; have := HJ2.out; omega⟩, ⟨by (with_reducible repeat (first | apply Kd.R_alloc | apply Kd.R_drewN | apply Kd.R_drew)); exact HO232.out⟩, ⟨by repeat (first | (with_reducible first | exact HB.out | apply below_alloc | apply pw_below_drewN | apply below_drew1) | exact HB.out)⟩⟩
         ·rw [if_neg c14] at H
          exact absurd H (by simp)
       ·replace c10 := Bool.eq_false_iff.mpr c10
        subst c10
        have H1 : (if x6_1 = true then (if x5_1.length < 140737488355328 then (soukref01_Plus.l0 kj2 l0 l1 (x5_1 ++ [false]) true (wrap64 (x7_1 + 1))) else (none)) else (if x5_1.length < 140737488355328 then (soukref01_Plus.l0 kj2 l0 l1 (x5_1 ++ [true]) false (wrap64 (x7_1 + 1))) else (none))) = some r := by rw [if_neg (show ¬ (false = true) by decide)] at H; exact H
        clear H
        have H := H1
        clear H1
        by_cases c16 : x6_1 = true
        ·subst c16
         have H1 : (if x5_1.length < 140737488355328 then (soukref01_Plus.l0 kj2 l0 l1 (x5_1 ++ [false]) true (wrap64 (x7_1 + 1))) else (none)) = some r := by rw [if_pos rfl] at H; exact H
         clear H
         have H := H1
         clear H1
         by_cases c17 : x5_1.length < 140737488355328
         ·rw [if_pos c17] at H
          have LMc17 := Aside0.mk c17
          clear c17
          obtain ⟨y233, hy233⟩ : ∃ y_ : List Bool, y_ = (x5_1 ++ [false]) := ⟨_, rfl⟩
          replace H : (soukref01_Plus.l0 kj2 l0 l1 y233 true (wrap64 (x7_1 + 1))) = some r := by first | (rw [hy233]; with_reducible exact H) | (have H2_ := (Option.bind_some _ _).symm.trans H; rw [hy233]; with_reducible exact H2_) | (have H2_ := (Option.bind_some _ _).symm.trans H; with_reducible exact H2_) | with_reducible exact H | (rw [hy233]; exact H) | exact H
          have Ny233 := Aside0.mk hy233
          clear hy233
          have H' := Aside0.mk H
          clear H
          go_wp2_with (first | ((with_reducible refine gate_callee (f := 48) rfl ?_); refine goesL_ (some 27) rfl rfl Try.func48 (by kernel_rfl) rfl #[.slice A0 l0.length c0, .int .i64 x7_1] rfl (by (try simp only [List.map_toArray, List.map_cons, List.map_nil]); first | done | rfl | (simp only [List.length_drop, List.length_take]; rfl)) ?_; (with_reducible refine (soukref01_Wide_at.calls _ _ l0 x7_1 true _ ?side1 ?side2 A7.out).mono ?_); (case side1 => repeat (first | exact (Kd.C_below HR0.out HB.out) | (with_reducible refine Kd.C_alloc ?_ _) | (with_reducible refine Kd.C_drewN ?_ _) | (with_reducible refine Kd.C_drew ?_))); (case side2 => exact HC0.out); rintro e w' ⟨rfl, ⟨nd, rfl⟩⟩; refine ⟨_, rfl, ?_⟩) | ((with_reducible refine gate_callee (f := 48) rfl ?_); refine goesL_ (some 30) rfl rfl Try.func48 (by kernel_rfl) rfl #[.slice A1 l1.length c1, .int .i64 x7_1] rfl (by (try simp only [List.map_toArray, List.map_cons, List.map_nil]); first | done | rfl | (simp only [List.length_drop, List.length_take]; rfl)) ?_; (with_reducible refine (soukref01_Wide_at.calls _ _ l1 x7_1 false _ ?side1 ?side2 A8.out).mono ?_); (case side1 => repeat (first | exact (Kd.C_below HR1.out (by repeat (first | (with_reducible first | exact HB.out | apply below_alloc | apply pw_below_drewN | apply below_drew1) | exact HB.out))) | (with_reducible refine Kd.C_alloc ?_ _) | (with_reducible refine Kd.C_drewN ?_ _) | (with_reducible refine Kd.C_drew ?_))); (case side2 => exact HC1.out); rintro e w' ⟨rfl, ⟨nd, rfl⟩⟩; refine ⟨_, rfl, ?_⟩) | ((with_reducible refine gate_builtin (b := .append) (xs := #[.tmp 31, .tmp 37]) rfl ?_); (try (refine gate_guard (by rfl) ?_; dsimp only)); at_builtin; refine Kd.R_append Kd.bool (w0 := w) w.heap.size rfl (.tmp 31) (.tmp 37) 87 4 (.bool false) 1 rfl Try.underlying87 info4 rfl (by decide) (by omega) u5 x5_1 false [.bool false] (fun _ => True) (fun _ => False) rfl rfl ?aP (fun _ hk => hk.elim) ?aF ?aO ?aB ?aS ?aL ?_; (case aP => exact rfl); (case aB => exact (by repeat (first | (with_reducible first | exact HB.out | apply below_alloc | apply pw_below_drewN | apply below_drew1) | exact HB.out))); (case aF => exact (fun _ _ => trivial)); (case aO => exact (by (with_reducible repeat (first | apply Kd.R_alloc | apply Kd.R_drewN | apply Kd.R_drew)); exact HO_5.out)); (case aS => exact (below_size (by repeat (first | (with_reducible first | exact HB.out | apply below_alloc | apply pw_below_drewN | apply below_drew1) | exact HB.out)))); (case aL => have := LMc17.out; omega); intro v234 w18 ho hb hg hat; rw [← Ny233.out] at ho; have n0_ := Aside0.mk (hb); have n1_ := Aside0.mk (ho); clear HB; clear HO_5; have HB := n0_; have HO235 := n1_; clear n0_ n1_; clear ho hb hg hat))
          go_roundg kj2
          case measure => have := HK1.out; have := HJ2.out; omega
          case rel => exact ⟨(y233), (true), (wrap64 (x7_1 + 1)), (by first | rfl | (simp; done) | (simp [*]; done)), (by first | rfl | (simp; done) | (simp [*]; done)), H', ⟨by have := HK1.out; have := HJ2.out; omega⟩, ⟨by (with_reducible repeat (first | apply Kd.R_alloc | apply Kd.R_drewN | apply Kd.R_drew)); exact HO235.out⟩, ⟨by repeat (first | (with_reducible first | exact HB.out | apply below_alloc | apply pw_below_drewN | apply below_drew1) | exact HB.out)⟩⟩
         ·rw [if_neg c17] at H
          exact absurd H (by simp)
        ·replace c16 := Bool.eq_false_iff.mpr c16
         subst c16
         have H1 : (if x5_1.length < 140737488355328 then (soukref01_Plus.l0 kj2 l0 l1 (x5_1 ++ [true]) false (wrap64 (x7_1 + 1))) else (none)) = some r := by rw [if_neg (show ¬ (false = true) by decide)] at H; exact H
         clear H
         have H := H1
         clear H1
         by_cases c19 : x5_1.length < 140737488355328
         ·rw [if_pos c19] at H
          have LMc19 := Aside0.mk c19
          clear c19
          obtain ⟨y236, hy236⟩ : ∃ y_ : List Bool, y_ = (x5_1 ++ [true]) := ⟨_, rfl⟩
          replace H : (soukref01_Plus.l0 kj2 l0 l1 y236 false (wrap64 (x7_1 + 1))) = some r := by first | (rw [hy236]; with_reducible exact H) | (have H2_ := (Option.bind_some _ _).symm.trans H; rw [hy236]; with_reducible exact H2_) | (have H2_ := (Option.bind_some _ _).symm.trans H; with_reducible exact H2_) | with_reducible exact H | (rw [hy236]; exact H) | exact H
          have Ny236 := Aside0.mk hy236
          clear hy236
          have H' := Aside0.mk H
          clear H
          go_wp2_with (first | ((with_reducible refine gate_callee (f := 48) rfl ?_); refine goesL_ (some 27) rfl rfl Try.func48 (by kernel_rfl) rfl #[.slice A0 l0.length c0, .int .i64 x7_1] rfl (by (try simp only [List.map_toArray, List.map_cons, List.map_nil]); first | done | rfl | (simp only [List.length_drop, List.length_take]; rfl)) ?_; (with_reducible refine (soukref01_Wide_at.calls _ _ l0 x7_1 true _ ?side1 ?side2 A7.out).mono ?_); (case side1 => repeat (first | exact (Kd.C_below HR0.out HB.out) | (with_reducible refine Kd.C_alloc ?_ _) | (with_reducible refine Kd.C_drewN ?_ _) | (with_reducible refine Kd.C_drew ?_))); (case side2 => exact HC0.out); rintro e w' ⟨rfl, ⟨nd, rfl⟩⟩; refine ⟨_, rfl, ?_⟩) | ((with_reducible refine gate_callee (f := 48) rfl ?_); refine goesL_ (some 30) rfl rfl Try.func48 (by kernel_rfl) rfl #[.slice A1 l1.length c1, .int .i64 x7_1] rfl (by (try simp only [List.map_toArray, List.map_cons, List.map_nil]); first | done | rfl | (simp only [List.length_drop, List.length_take]; rfl)) ?_; (with_reducible refine (soukref01_Wide_at.calls _ _ l1 x7_1 false _ ?side1 ?side2 A8.out).mono ?_); (case side1 => repeat (first | exact (Kd.C_below HR1.out (by repeat (first | (with_reducible first | exact HB.out | apply below_alloc | apply pw_below_drewN | apply below_drew1) | exact HB.out))) | (with_reducible refine Kd.C_alloc ?_ _) | (with_reducible refine Kd.C_drewN ?_ _) | (with_reducible refine Kd.C_drew ?_))); (case side2 => exact HC1.out); rintro e w' ⟨rfl, ⟨nd, rfl⟩⟩; refine ⟨_, rfl, ?_⟩) | ((with_reducible refine gate_builtin (b := .append) (xs := #[.tmp 31, .tmp 37]) rfl ?_); (try (refine gate_guard (by rfl) ?_; dsimp only)); at_builtin; refine Kd.R_append Kd.bool (w0 := w) w.heap.size rfl (.tmp 31) (.tmp 37) 87 4 (.bool false) 1 rfl Try.underlying87 info4 rfl (by decide) (by omega) u5 x5_1 true [.bool true] (fun _ => True) (fun _ => False) rfl rfl ?aP (fun _ hk => hk.elim) ?aF ?aO ?aB ?aS ?aL ?_; (case aP => exact rfl); (case aB => exact (by repeat (first | (with_reducible first | exact HB.out | apply below_alloc | apply pw_below_drewN | apply below_drew1) | exact HB.out))); (case aF => exact (fun _ _ => trivial)); (case aO => exact (by (with_reducible repeat (first | apply Kd.R_alloc | apply Kd.R_drewN | apply Kd.R_drew)); exact HO_5.out)); (case aS => exact (below_size (by repeat (first | (with_reducible first | exact HB.out | apply below_alloc | apply pw_below_drewN | apply below_drew1) | exact HB.out)))); (case aL => have := LMc19.out; omega); intro v237 w20 ho hb hg hat; rw [← Ny236.out] at ho; have n0_ := Aside0.mk (hb); have n1_ := Aside0.mk (ho); clear HB; clear HO_5; have HB := n0_; have HO238 := n1_; clear n0_ n1_; clear ho hb hg hat))
          go_roundg kj2
          case measure => have := HK1.out; have := HJ2.out; omega
          case rel => exact ⟨(y236), (false), (wrap64 (x7_1 + 1)), (by first | rfl | (simp; done) | (simp [*]; done)), (by first | rfl | (simp; done) | (simp [*]; done)), H', ⟨by have := HK1.out; have := HJ2.out; omega⟩, ⟨by (with_reducible repeat (first | apply Kd.R_alloc | apply Kd.R_drewN | apply Kd.R_drew)); exact HO238.out⟩, ⟨by repeat (first | (with_reducible first | exact HB.out | apply below_alloc | apply pw_below_drewN | apply below_drew1) | exact HB.out)⟩⟩
         ·rw [if_neg c19] at H
          exact absurd H (by simp)
      ·replace c9 := Bool.eq_false_iff.mpr c9
       subst c9
       have H1 : (if t226 = true then (if x6_1 = true then (if x5_1.length < 140737488355328 then (soukref01_Plus.l0 kj2 l0 l1 (x5_1 ++ [false]) x6_1 (wrap64 (x7_1 + 1))) else (none)) else (if x5_1.length < 140737488355328 then (soukref01_Plus.l0 kj2 l0 l1 (x5_1 ++ [true]) x6_1 (wrap64 (x7_1 + 1))) else (none))) else (if x6_1 = true then (if x5_1.length < 140737488355328 then (soukref01_Plus.l0 kj2 l0 l1 (x5_1 ++ [true]) false (wrap64 (x7_1 + 1))) else (none)) else (if x5_1.length < 140737488355328 then (soukref01_Plus.l0 kj2 l0 l1 (x5_1 ++ [false]) false (wrap64 (x7_1 + 1))) else (none)))) = some r := by rw [if_neg (show ¬ (false = true) by decide)] at H; exact H
       clear H
       have H := H1
       clear H1
       by_cases c21 : t226 = true
       ·subst c21
        have H1 : (if x6_1 = true then (if x5_1.length < 140737488355328 then (soukref01_Plus.l0 kj2 l0 l1 (x5_1 ++ [false]) x6_1 (wrap64 (x7_1 + 1))) else (none)) else (if x5_1.length < 140737488355328 then (soukref01_Plus.l0 kj2 l0 l1 (x5_1 ++ [true]) x6_1 (wrap64 (x7_1 + 1))) else (none))) = some r := by rw [if_pos rfl] at H; exact H
        clear H
        have H := H1
        clear H1
        by_cases c22 : x6_1 = true
        ·subst c22
         have H1 : (if x5_1.length < 140737488355328 then (soukref01_Plus.l0 kj2 l0 l1 (x5_1 ++ [false]) true (wrap64 (x7_1 + 1))) else (none)) = some r := by rw [if_pos rfl] at H; exact H
         clear H
         have H := H1
         clear H1
         by_cases c23 : x5_1.length < 140737488355328
         ·rw [if_pos c23] at H
          have LMc23 := Aside0.mk c23
          clear c23
          obtain ⟨y239, hy239⟩ : ∃ y_ : List Bool, y_ = (x5_1 ++ [false]) := ⟨_, rfl⟩
          replace H : (soukref01_Plus.l0 kj2 l0 l1 y239 true (wrap64 (x7_1 + 1))) = some r := by first | (rw [hy239]; with_reducible exact H) | (have H2_ := (Option.bind_some _ _).symm.trans H; rw [hy239]; with_reducible exact H2_) | (have H2_ := (Option.bind_some _ _).symm.trans H; with_reducible exact H2_) | with_reducible exact H | (rw [hy239]; exact H) | exact H
          have Ny239 := Aside0.mk hy239
          clear hy239
          have H' := Aside0.mk H
          clear H
          go_wp2_with (first | ((with_reducible refine gate_callee (f := 48) rfl ?_); refine goesL_ (some 27) rfl rfl Try.func48 (by kernel_rfl) rfl #[.slice A0 l0.length c0, .int .i64 x7_1] rfl (by (try simp only [List.map_toArray, List.map_cons, List.map_nil]); first | done | rfl | (simp only [List.length_drop, List.length_take]; rfl)) ?_; (with_reducible refine (soukref01_Wide_at.calls _ _ l0 x7_1 false _ ?side1 ?side2 A7.out).mono ?_); (case side1 => repeat (first | exact (Kd.C_below HR0.out HB.out) | (with_reducible refine Kd.C_alloc ?_ _) | (with_reducible refine Kd.C_drewN ?_ _) | (with_reducible refine Kd.C_drew ?_))); (case side2 => exact HC0.out); rintro e w' ⟨rfl, ⟨nd, rfl⟩⟩; refine ⟨_, rfl, ?_⟩) | ((with_reducible refine gate_callee (f := 48) rfl ?_); refine goesL_ (some 30) rfl rfl Try.func48 (by kernel_rfl) rfl #[.slice A1 l1.length c1, .int .i64 x7_1] rfl (by (try simp only [List.map_toArray, List.map_cons, List.map_nil]); first | done | rfl | (simp only [List.length_drop, List.length_take]; rfl)) ?_; (with_reducible refine (soukref01_Wide_at.calls _ _ l1 x7_1 true _ ?side1 ?side2 A8.out).mono ?_); (case side1 => repeat (first | exact (Kd.C_below HR1.out (by repeat (first | (with_reducible first | exact HB.out | apply below_alloc | apply pw_below_drewN | apply below_drew1) | exact HB.out))) | (with_reducible refine Kd.C_alloc ?_ _) | (with_reducible refine Kd.C_drewN ?_ _) | (with_reducible refine Kd.C_drew ?_))); (case side2 => exact HC1.out); rintro e w' ⟨rfl, ⟨nd, rfl⟩⟩; refine ⟨_, rfl, ?_⟩) | ((with_reducible refine gate_builtin (b := .append) (xs := #[.tmp 31, .tmp 37]) rfl ?_); (try (refine gate_guard (by rfl) ?_; dsimp only)); at_builtin; refine Kd.R_append Kd.bool (w0 := w) w.heap.size rfl (.tmp 31) (.tmp 37) 87 4 (.bool false) 1 rfl Try.underlying87 info4 rfl (by decide) (by omega) u5 x5_1 false [.bool false] (fun _ => True) (fun _ => False) rfl rfl ?aP (fun _ hk => hk.elim) ?aF ?aO ?aB ?aS ?aL ?_; (case aP => exact rfl); (case aB => exact (by repeat (first | (with_reducible first | exact HB.out | apply below_alloc | apply pw_below_drewN | apply below_drew1) | exact HB.out))); (case aF => exact (fun _ _ => trivial)); (case aO => exact (by (with_reducible repeat (first | apply Kd.R_alloc | apply Kd.R_drewN | apply Kd.R_drew)); exact HO_5.out)); (case aS => exact (below_size (by repeat (first | (with_reducible first | exact HB.out | apply below_alloc | apply pw_below_drewN | apply below_drew1) | exact HB.out)))); (case aL => have := LMc23.out; omega); intro v240 w24 ho hb hg hat; rw [← Ny239.out] at ho; have n0_ := Aside0.mk (hb); have n1_ := Aside0.mk (ho); clear HB; clear HO_5; have HB := n0_; have HO241 := n1_; clear n0_ n1_; clear ho hb hg hat))
          go_roundg kj2
          case measure => have := HK1.out; have := HJ2.out; omega
          case rel => exact ⟨(y239), (true), (wrap64 (x7_1 + 1)), (by first | rfl | (simp; done) | (simp [*]; done)), (by first | rfl | (simp; done) | (simp [*]; done)), H', ⟨by have := HK1.out; have := HJ2.out; omega⟩, ⟨by (with_reducible repeat (first | apply Kd.R_alloc | apply Kd.R_drewN | apply Kd.R_drew)); exact HO241.out⟩, ⟨by repeat (first | (with_reducible first | exact HB.out | apply below_alloc | apply pw_below_drewN | apply below_drew1) | exact HB.out)⟩⟩
         ·rw [if_neg c23] at H
          exact absurd H (by simp)
        ·replace c22 := Bool.eq_false_iff.mpr c22
         subst c22
         have H1 : (if x5_1.length < 140737488355328 then (soukref01_Plus.l0 kj2 l0 l1 (x5_1 ++ [true]) false (wrap64 (x7_1 + 1))) else (none)) = some r := by rw [if_neg (show ¬ (false = true) by decide)] at H; exact H
         clear H
         have H := H1
         clear H1
         by_cases c25 : x5_1.length < 140737488355328
         ·rw [if_pos c25] at H
          have LMc25 := Aside0.mk c25
          clear c25
          obtain ⟨y242, hy242⟩ : ∃ y_ : List Bool, y_ = (x5_1 ++ [true]) := ⟨_, rfl⟩
          replace H : (soukref01_Plus.l0 kj2 l0 l1 y242 false (wrap64 (x7_1 + 1))) = some r := by first | (rw [hy242]; with_reducible exact H) | (have H2_ := (Option.bind_some _ _).symm.trans H; rw [hy242]; with_reducible exact H2_) | (have H2_ := (Option.bind_some _ _).symm.trans H; with_reducible exact H2_) | with_reducible exact H | (rw [hy242]; exact H) | exact H
          have Ny242 := Aside0.mk hy242
          clear hy242
          have H' := Aside0.mk H
          clear H
          go_wp2_with (first | ((with_reducible refine gate_callee (f := 48) rfl ?_); refine goesL_ (some 27) rfl rfl Try.func48 (by kernel_rfl) rfl #[.slice A0 l0.length c0, .int .i64 x7_1] rfl (by (try simp only [List.map_toArray, List.map_cons, List.map_nil]); first | done | rfl | (simp only [List.length_drop, List.length_take]; rfl)) ?_; (with_reducible refine (soukref01_Wide_at.calls _ _ l0 x7_1 false _ ?side1 ?side2 A7.out).mono ?_); (case side1 => repeat (first | exact (Kd.C_below HR0.out HB.out) | (with_reducible refine Kd.C_alloc ?_ _) | (with_reducible refine Kd.C_drewN ?_ _) | (with_reducible refine Kd.C_drew ?_))); (case side2 => exact HC0.out); rintro e w' ⟨rfl, ⟨nd, rfl⟩⟩; refine ⟨_, rfl, ?_⟩) | ((with_reducible refine gate_callee (f := 48) rfl ?_); refine goesL_ (some 30) rfl rfl Try.func48 (by kernel_rfl) rfl #[.slice A1 l1.length c1, .int .i64 x7_1] rfl (by (try simp only [List.map_toArray, List.map_cons, List.map_nil]); first | done | rfl | (simp only [List.length_drop, List.length_take]; rfl)) ?_; (with_reducible refine (soukref01_Wide_at.calls _ _ l1 x7_1 true _ ?side1 ?side2 A8.out).mono ?_); (case side1 => repeat (first | exact (Kd.C_below HR1.out (by repeat (first | (with_reducible first | exact HB.out | apply below_alloc | apply pw_below_drewN | apply below_drew1) | exact HB.out))) | (with_reducible refine Kd.C_alloc ?_ _) | (with_reducible refine Kd.C_drewN ?_ _) | (with_reducible refine Kd.C_drew ?_))); (case side2 => exact HC1.out); rintro e w' ⟨rfl, ⟨nd, rfl⟩⟩; refine ⟨_, rfl, ?_⟩) | ((with_reducible refine gate_builtin (b := .append) (xs := #[.tmp 31, .tmp 37]) rfl ?_); (try (refine gate_guard (by rfl) ?_; dsimp only)); at_builtin; refine Kd.R_append Kd.bool (w0 := w) w.heap.size rfl (.tmp 31) (.tmp 37) 87 4 (.bool false) 1 rfl Try.underlying87 info4 rfl (by decide) (by omega) u5 x5_1 true [.bool true] (fun _ => True) (fun _ => False) rfl rfl ?aP (fun _ hk => hk.elim) ?aF ?aO ?aB ?aS ?aL ?_; (case aP => exact rfl); (case aB => exact (by repeat (first | (with_reducible first | exact HB.out | apply below_alloc | apply pw_below_drewN | apply below_drew1) | exact HB.out))); (case aF => exact (fun _ _ => trivial)); (case aO => exact (by (with_reducible repeat (first | apply Kd.R_alloc | apply Kd.R_drewN | apply Kd.R_drew)); exact HO_5.out)); (case aS => exact (below_size (by repeat (first | (with_reducible first | exact HB.out | apply below_alloc | apply pw_below_drewN | apply below_drew1) | exact HB.out)))); (case aL => have := LMc25.out; omega); intro v243 w26 ho hb hg hat; rw [← Ny242.out] at ho; have n0_ := Aside0.mk (hb); have n1_ := Aside0.mk (ho); clear HB; clear HO_5; have HB := n0_; have HO244 := n1_; clear n0_ n1_; clear ho hb hg hat))
          go_roundg kj2
          case measure => have := HK1.out; have := HJ2.out; omega
          case rel => exact ⟨(y242), (false), (wrap64 (x7_1 + 1)), (by first | rfl | (simp; done) | (simp [*]; done)), (by first | rfl | (simp; done) | (simp [*]; done)), H', ⟨by have := HK1.out; have := HJ2.out; omega⟩, ⟨by (with_reducible repeat (first | apply Kd.R_alloc | apply Kd.R_drewN | apply Kd.R_drew)); exact HO244.out⟩, ⟨by repeat (first | (with_reducible first | exact HB.out | apply below_alloc | apply pw_below_drewN | apply below_drew1) | exact HB.out)⟩⟩
         ·rw [if_neg c25] at H
          exact absurd H (by simp)
       ·replace c21 := Bool.eq_false_iff.mpr c21
        subst c21
        have H1 : (if x6_1 = true then (if x5_1.length < 140737488355328 then (soukref01_Plus.l0 kj2 l0 l1 (x5_1 ++ [true]) false (wrap64 (x7_1 + 1))) else (none)) else (if x5_1.length < 140737488355328 then (soukref01_Plus.l0 kj2 l0 l1 (x5_1 ++ [false]) false (wrap64 (x7_1 + 1))) else (none))) = some r := by rw [if_neg (show ¬ (false = true) by decide)] at H; exact H
        clear H
        have H := H1
        clear H1
        by_cases c27 : x6_1 = true
        ·subst c27
         have H1 : (if x5_1.length < 140737488355328 then (soukref01_Plus.l0 kj2 l0 l1 (x5_1 ++ [true]) false (wrap64 (x7_1 + 1))) else (none)) = some r := by rw [if_pos rfl] at H; exact H
         clear H
         have H := H1
         clear H1
         by_cases c28 : x5_1.length < 140737488355328
         ·rw [if_pos c28] at H
          have LMc28 := Aside0.mk c28
          clear c28
          obtain ⟨y245, hy245⟩ : ∃ y_ : List Bool, y_ = (x5_1 ++ [true]) := ⟨_, rfl⟩
          replace H : (soukref01_Plus.l0 kj2 l0 l1 y245 false (wrap64 (x7_1 + 1))) = some r := by first | (rw [hy245]; with_reducible exact H) | (have H2_ := (Option.bind_some _ _).symm.trans H; rw [hy245]; with_reducible exact H2_) | (have H2_ := (Option.bind_some _ _).symm.trans H; with_reducible exact H2_) | with_reducible exact H | (rw [hy245]; exact H) | exact H
          have Ny245 := Aside0.mk hy245
          clear hy245
          have H' := Aside0.mk H
          clear H
          go_wp2_with (first | ((with_reducible refine gate_callee (f := 48) rfl ?_); refine goesL_ (some 27) rfl rfl Try.func48 (by kernel_rfl) rfl #[.slice A0 l0.length c0, .int .i64 x7_1] rfl (by (try simp only [List.map_toArray, List.map_cons, List.map_nil]); first | done | rfl | (simp only [List.length_drop, List.length_take]; rfl)) ?_; (with_reducible refine (soukref01_Wide_at.calls _ _ l0 x7_1 false _ ?side1 ?side2 A7.out).mono ?_); (case side1 => repeat (first | exact (Kd.C_below HR0.out HB.out) | (with_reducible refine Kd.C_alloc ?_ _) | (with_reducible refine Kd.C_drewN ?_ _) | (with_reducible refine Kd.C_drew ?_))); (case side2 => exact HC0.out); rintro e w' ⟨rfl, ⟨nd, rfl⟩⟩; refine ⟨_, rfl, ?_⟩) | ((with_reducible refine gate_callee (f := 48) rfl ?_); refine goesL_ (some 30) rfl rfl Try.func48 (by kernel_rfl) rfl #[.slice A1 l1.length c1, .int .i64 x7_1] rfl (by (try simp only [List.map_toArray, List.map_cons, List.map_nil]); first | done | rfl | (simp only [List.length_drop, List.length_take]; rfl)) ?_; (with_reducible refine (soukref01_Wide_at.calls _ _ l1 x7_1 false _ ?side1 ?side2 A8.out).mono ?_); (case side1 => repeat (first | exact (Kd.C_below HR1.out (by repeat (first | (with_reducible first | exact HB.out | apply below_alloc | apply pw_below_drewN | apply below_drew1) | exact HB.out))) | (with_reducible refine Kd.C_alloc ?_ _) | (with_reducible refine Kd.C_drewN ?_ _) | (with_reducible refine Kd.C_drew ?_))); (case side2 => exact HC1.out); rintro e w' ⟨rfl, ⟨nd, rfl⟩⟩; refine ⟨_, rfl, ?_⟩) | ((with_reducible refine gate_builtin (b := .append) (xs := #[.tmp 31, .tmp 37]) rfl ?_); (try (refine gate_guard (by rfl) ?_; dsimp only)); at_builtin; refine Kd.R_append Kd.bool (w0 := w) w.heap.size rfl (.tmp 31) (.tmp 37) 87 4 (.bool false) 1 rfl Try.underlying87 info4 rfl (by decide) (by omega) u5 x5_1 true [.bool true] (fun _ => True) (fun _ => False) rfl rfl ?aP (fun _ hk => hk.elim) ?aF ?aO ?aB ?aS ?aL ?_; (case aP => exact rfl); (case aB => exact (by repeat (first | (with_reducible first | exact HB.out | apply below_alloc | apply pw_below_drewN | apply below_drew1) | exact HB.out))); (case aF => exact (fun _ _ => trivial)); (case aO => exact (by (with_reducible repeat (first | apply Kd.R_alloc | apply Kd.R_drewN | apply Kd.R_drew)); exact HO_5.out)); (case aS => exact (below_size (by repeat (first | (with_reducible first | exact HB.out | apply below_alloc | apply pw_below_drewN | apply below_drew1) | exact HB.out)))); (case aL => have := LMc28.out; omega); intro v246 w29 ho hb hg hat; rw [← Ny245.out] at ho; have n0_ := Aside0.mk (hb); have n1_ := Aside0.mk (ho); clear HB; clear HO_5; have HB := n0_; have HO247 := n1_; clear n0_ n1_; clear ho hb hg hat))
          go_roundg kj2
          case measure => have := HK1.out; have := HJ2.out; omega
          case rel => exact ⟨(y245), (false), (wrap64 (x7_1 + 1)), (by first | rfl | (simp; done) | (simp [*]; done)), (by first | rfl | (simp; done) | (simp [*]; done)), H', ⟨by have := HK1.out; have := HJ2.out; omega⟩, ⟨by (with_reducible repeat (first | apply Kd.R_alloc | apply Kd.R_drewN | apply Kd.R_drew)); exact HO247.out⟩, ⟨by repeat (first | (with_reducible first | exact HB.out | apply below_alloc | apply pw_below_drewN | apply below_drew1) | exact HB.out)⟩⟩
         ·rw [if_neg c28] at H
          exact absurd H (by simp)
        ·replace c27 := Bool.eq_false_iff.mpr c27
         subst c27
         have H1 : (if x5_1.length < 140737488355328 then (soukref01_Plus.l0 kj2 l0 l1 (x5_1 ++ [false]) false (wrap64 (x7_1 + 1))) else (none)) = some r := by rw [if_neg (show ¬ (false = true) by decide)] at H; exact H
         clear H
         have H := H1
         clear H1
         by_cases c30 : x5_1.length < 140737488355328
         ·rw [if_pos c30] at H
          have LMc30 := Aside0.mk c30
          clear c30
          obtain ⟨y248, hy248⟩ : ∃ y_ : List Bool, y_ = (x5_1 ++ [false]) := ⟨_, rfl⟩
          replace H : (soukref01_Plus.l0 kj2 l0 l1 y248 false (wrap64 (x7_1 + 1))) = some r := by first | (rw [hy248]; with_reducible exact H) | (have H2_ := (Option.bind_some _ _).symm.trans H; rw [hy248]; with_reducible exact H2_) | (have H2_ := (Option.bind_some _ _).symm.trans H; with_reducible exact H2_) | with_reducible exact H | (rw [hy248]; exact H) | exact H
          have Ny248 := Aside0.mk hy248
          clear hy248
          have H' := Aside0.mk H
          clear H
          go_wp2_with (first | ((with_reducible refine gate_callee (f := 48) rfl ?_); refine goesL_ (some 27) rfl rfl Try.func48 (by kernel_rfl) rfl #[.slice A0 l0.length c0, .int .i64 x7_1] rfl (by (try simp only [List.map_toArray, List.map_cons, List.map_nil]); first | done | rfl | (simp only [List.length_drop, List.length_take]; rfl)) ?_; (with_reducible refine (soukref01_Wide_at.calls _ _ l0 x7_1 false _ ?side1 ?side2 A7.out).mono ?_); (case side1 => repeat (first | exact (Kd.C_below HR0.out HB.out) | (with_reducible refine Kd.C_alloc ?_ _) | (with_reducible refine Kd.C_drewN ?_ _) | (with_reducible refine Kd.C_drew ?_))); (case side2 => exact HC0.out); rintro e w' ⟨rfl, ⟨nd, rfl⟩⟩; refine ⟨_, rfl, ?_⟩) | ((with_reducible refine gate_callee (f := 48) rfl ?_); refine goesL_ (some 30) rfl rfl Try.func48 (by kernel_rfl) rfl #[.slice A1 l1.length c1, .int .i64 x7_1] rfl (by (try simp only [List.map_toArray, List.map_cons, List.map_nil]); first | done | rfl | (simp only [List.length_drop, List.length_take]; rfl)) ?_; (with_reducible refine (soukref01_Wide_at.calls _ _ l1 x7_1 false _ ?side1 ?side2 A8.out).mono ?_); (case side1 => repeat (first | exact (Kd.C_below HR1.out (by repeat (first | (with_reducible first | exact HB.out | apply below_alloc | apply pw_below_drewN | apply below_drew1) | exact HB.out))) | (with_reducible refine Kd.C_alloc ?_ _) | (with_reducible refine Kd.C_drewN ?_ _) | (with_reducible refine Kd.C_drew ?_))); (case side2 => exact HC1.out); rintro e w' ⟨rfl, ⟨nd, rfl⟩⟩; refine ⟨_, rfl, ?_⟩) | ((with_reducible refine gate_builtin (b := .append) (xs := #[.tmp 31, .tmp 37]) rfl ?_); (try (refine gate_guard (by rfl) ?_; dsimp only)); at_builtin; refine Kd.R_append Kd.bool (w0 := w) w.heap.size rfl (.tmp 31) (.tmp 37) 87 4 (.bool false) 1 rfl Try.underlying87 info4 rfl (by decide) (by omega) u5 x5_1 false [.bool false] (fun _ => True) (fun _ => False) rfl rfl ?aP (fun _ hk => hk.elim) ?aF ?aO ?aB ?aS ?aL ?_; (case aP => exact rfl); (case aB => exact (by repeat (first | (with_reducible first | exact HB.out | apply below_alloc | apply pw_below_drewN | apply below_drew1) | exact HB.out))); (case aF => exact (fun _ _ => trivial)); (case aO => exact (by (with_reducible repeat (first | apply Kd.R_alloc | apply Kd.R_drewN | apply Kd.R_drew)); exact HO_5.out)); (case aS => exact (below_size (by repeat (first | (with_reducible first | exact HB.out | apply below_alloc | apply pw_below_drewN | apply below_drew1) | exact HB.out)))); (case aL => have := LMc30.out; omega); intro v249 w31 ho hb hg hat; rw [← Ny248.out] at ho; have n0_ := Aside0.mk (hb); have n1_ := Aside0.mk (ho); clear HB; clear HO_5; have HB := n0_; have HO250 := n1_; clear n0_ n1_; clear ho hb hg hat))
          go_roundg kj2
          case measure => have := HK1.out; have := HJ2.out; omega
          case rel => exact ⟨(y248), (false), (wrap64 (x7_1 + 1)), (by first | rfl | (simp; done) | (simp [*]; done)), (by first | rfl | (simp; done) | (simp [*]; done)), H', ⟨by have := HK1.out; have := HJ2.out; omega⟩, ⟨by (with_reducible repeat (first | apply Kd.R_alloc | apply Kd.R_drewN | apply Kd.R_drew)); exact HO250.out⟩, ⟨by repeat (first | (with_reducible first | exact HB.out | apply below_alloc | apply pw_below_drewN | apply below_drew1) | exact HB.out)⟩⟩
         ·rw [if_neg c30] at H
          exact absurd H (by simp)
     ·replace c6 := Bool.eq_false_iff.mpr c6
      subst c6
      have H1 : (some x5_1) = some r := by rw [if_neg (show ¬ (false = true) by decide)] at H; exact H
      clear H
      have H := H1
      clear H1
      obtain rfl := Option.some.inj H
      go_wp2
      go_ret
      exact ⟨_, by first | rfl | (simp [errW_none, errW_some] <;> rfl) | (simp [*, errW_none, errW_some] <;> rfl), by (with_reducible repeat (first | apply Kd.R_alloc | apply Kd.R_drewN | apply Kd.R_drew)); exact HO_5.out, by repeat (first | (with_reducible first | exact HB.out | apply below_alloc | apply pw_below_drewN | apply below_drew1) | exact HB.out)⟩
end Go.Proofs.Ytncnhhnbjmpomaa.Q
namespace Go.Proofs.Ytncnhhnbjmpomaa.Q
open Go.RowKit Go.Proofs.YtncnhhnbjmpomaaW.PrintWords Go.Proofs.YtncnhhnbjmpomaaW.PrintLast Go.Proofs.YtncnhhnbjmpomaaW.PrintMore
attribute [local go_sem] max2_int min2_int max_two min_two max_three min_three max_four min_four   -- for this text's walks alone
set_option linter.unusedVariables false
set_option linter.unusedSimpArgs false
def soukref01_Times.l0 : Nat → List Bool → List Bool → List Bool → Int → Option (List Bool)
 | 0, _, _, _, _ => none
 | k + 1, x0, x1, x5, x6 => if x6 ≥ 0 then ((some (([false] : List Bool) : List Bool)).bind fun y251 => (if y251.length + x5.length < 140737488355328 then ((some (y251 ++ x5 : List Bool)).bind fun y254 => (if 0 ≤ x6 then (if x6 < (x1.length : Int) then (if rdOf false x1 x6 = true then ((soukref01_Plus.f k y254 x0).bind fun t258 => (soukref01_Times.l0 k x0 x1 t258 (wrap64 (x6 - 1)))) else (soukref01_Times.l0 k x0 x1 y254 (wrap64 (x6 - 1)))) else (none)) else (none))) else (none))) else ((soukref01_trim.f k x5).bind fun t261 => (some t261))
def soukref01_Times.f (k : Nat) (l0 : List Bool) (l1 : List Bool) : Option (List Bool) := soukref01_Times.l0 k l0 l1 ([] : List Bool) (wrap64 ((l1.length : Int) - 1))
set_option maxHeartbeats 8000000 in
set_option maxRecDepth 100000 in
theorem soukref01_Times.calls (k : Nat) (A0 : Option Addr) (c0 : Nat) (l0 : List Bool) (A1 : Option Addr) (c1 : Nat) (l1 : List Bool) (r : List Bool) (w : World) (hr0 : Kd.C Kd.bool w A0 l0.length l0) (hc0 : l0.length ≤ c0) (hr1 : Kd.C Kd.bool w A1 l1.length l1) (hc1 : l1.length ≤ c1) (h : soukref01_Times.f k l0 l1 = some r) :
  Calls Try.prog 43 #[.slice A0 l0.length c0, .slice A1 l1.length c1] w fun e w' => ∃ v0_ : Value, e = .returned (v0_) ∧ Kd.R Kd.bool 4 w' w.heap.size (fun _ => True) v0_ r ∧ Below w.heap.size w w' := by
 have HR0 := Aside0.mk hr0
 have HC0 := Aside0.mk hc0
 clear hr0 hc0
 have HR1 := Aside0.mk hr1
 have HC1 := Aside0.mk hc1
 clear hr1 hc1
 have HB := Aside0.mk (Below.refl w.heap.size w)
 have H : (soukref01_Times.l0 k l0 l1 ([] : List Bool) (wrap64 ((l1.length : Int) - 1))) = some r := h
 clear h
 have H' := Aside0.mk H
 clear H
 go_enter Try.func43, Try.ntmps43
 go_wp2
 go_loopg [5, 6] k (fun kq v5 v6 w' => ∃ (x5_1 : List Bool) (x6_1 : Int), v6 = .int .i64 x6_1 ∧ Aside0 (soukref01_Times.l0 kq l0 l1 x5_1 x6_1 = some r) ∧ Aside0 (kq ≤ k) ∧ Aside0 (Kd.R Kd.bool 4 w' w.heap.size (fun _ => True) v5 x5_1) ∧ Aside0 (Below w.heap.size w w'))
 case atStart => exact ⟨(([] : List Bool)), (wrap64 ((l1.length : Int) - 1)), (by first | rfl | (simp; done) | (simp [*]; done)), H', ⟨Nat.le_refl _⟩, ⟨by first | exact Kd.R_nil _ _ _ _ _ | exact Kd.N_nil _ _ _ _ _ | exact Kd.V_nil _ _ _ _ _ | exact Kd.Q_nil _ _ _ _ _ | exact Kd.S_nil _ _ _ _ _⟩, ⟨by repeat (first | (with_reducible first | exact HB.out | apply below_alloc | apply pw_below_drewN | apply below_drew1) | exact HB.out)⟩⟩
 case round =>
  clear H'
  try clear c1
  try clear p2
  obtain ⟨x5_1, x6_1, rfl, HA, HK1, HO_5, HB⟩ := hrel
  cases gk with
  | zero => exact absurd HA.out (by simp [soukref01_Times.l0])
  | succ k1 =>
   have H := HA.out
   clear HA
   simp only [soukref01_Times.l0] at H
   by_cases c3 : x6_1 ≥ 0
   ·rw [if_pos c3] at H
    have c3b0 : decide (0 ≤ x6_1) = true := decide_eq_true c3
    clear c3
    obtain ⟨y251, hy251⟩ : ∃ y_ : List Bool, y_ = (([false] : List Bool)) := ⟨_, rfl⟩
    replace H : (if y251.length + x5_1.length < 140737488355328 then ((some (y251 ++ x5_1 : List Bool)).bind fun y254 => (if 0 ≤ x6_1 then (if x6_1 < (l1.length : Int) then (if rdOf false l1 x6_1 = true then ((soukref01_Plus.f k1 y254 l0).bind fun t258 => (soukref01_Times.l0 k1 l0 l1 t258 (wrap64 (x6_1 - 1)))) else (soukref01_Times.l0 k1 l0 l1 y254 (wrap64 (x6_1 - 1)))) else (none)) else (none))) else (none)) = some r := by first | (rw [hy251]; with_reducible exact H) | (have H2_ := (Option.bind_some _ _).symm.trans H; rw [hy251]; with_reducible exact H2_) | (have H2_ := (Option.bind_some _ _).symm.trans H; with_reducible exact H2_) | with_reducible exact H | (rw [hy251]; exact H) | exact H
    have Ny251 := Aside0.mk hy251
    clear hy251
    by_cases c4 : y251.length + x5_1.length < 140737488355328
    ·rw [if_pos c4] at H
     have LMc4 := Aside0.mk c4
     clear c4
     obtain ⟨y254, hy254⟩ : ∃ y_ : List Bool, y_ = (y251 ++ x5_1) := ⟨_, rfl⟩
     replace H : (if 0 ≤ x6_1 then (if x6_1 < (l1.length : Int) then (if rdOf false l1 x6_1 = true then ((soukref01_Plus.f k1 y254 l0).bind fun t258 => (soukref01_Times.l0 k1 l0 l1 t258 (wrap64 (x6_1 - 1)))) else (soukref01_Times.l0 k1 l0 l1 y254 (wrap64 (x6_1 - 1)))) else (none)) else (none)) = some r := by first | (rw [hy254]; with_reducible exact H) | (have H2_ := (Option.bind_some _ _).symm.trans H; rw [hy254]; with_reducible exact H2_) | (have H2_ := (Option.bind_some _ _).symm.trans H; with_reducible exact H2_) | with_reducible exact H | (rw [hy254]; exact H) | exact H
     have Ny254 := Aside0.mk hy254
     clear hy254
     by_cases c5 : 0 ≤ x6_1
     ·rw [if_pos c5] at H
      have c5b0 : decide (0 ≤ x6_1) = true := decide_eq_true c5
      clear c5
      by_cases c6 : x6_1 < (l1.length : Int)
      ·rw [if_pos c6] at H
       have c6b0 : decide (x6_1 < (l1.length : Int)) = true := decide_eq_true c6
       clear c6
       obtain ⟨bq7, hbq7⟩ : ∃ b_ : Bool, b_ = (rdOf false l1 x6_1) := ⟨_, rfl⟩
       replace H : (if bq7 = true then ((soukref01_Plus.f k1 y254 l0).bind fun t258 => (soukref01_Times.l0 k1 l0 l1 t258 (wrap64 (x6_1 - 1)))) else (soukref01_Times.l0 k1 l0 l1 y254 (wrap64 (x6_1 - 1)))) = some r := by rw [← hbq7] at H; exact H
       have Nbq7 := Aside0.mk hbq7
       clear hbq7
       by_cases c8 : bq7 = true
       ·subst c8
        have H1 : ((soukref01_Plus.f k1 y254 l0).bind fun t258 => (soukref01_Times.l0 k1 l0 l1 t258 (wrap64 (x6_1 - 1)))) = some r := by rw [if_pos rfl] at H; exact H
        clear H
        have H := H1
        clear H1
        replace H := Option.bind_eq_some_iff.mp H
        obtain ⟨t258, A90, H⟩ := H
        replace H : (soukref01_Times.l0 k1 l0 l1 t258 (wrap64 (x6_1 - 1))) = some r := H
        have A9 := Aside0.mk A90
        clear A90
        have H' := Aside0.mk H
        clear H
        go_wp2_with (first | ((with_reducible refine gate_dst (N := 14) rfl ?_); refine Kd.R_lit Kd.bool _ 4 ?hg (N := 14) ?hd (xs := ([false] : List Bool)) (inner := [.bool false]) (ok := fun _ => True) (okp := fun _ => True) ?hr ?hp (fun _ hk => hk) trivial (Below.refl _ _) (Nat.le_refl _) (by simp) ?_; (case hd => rfl); (case hg => rfl); (case hr => first | (go_simp; done) | (go_simp; rfl)); (case hp => exact (Reps.one (show Kd.M Kd.bool _ _ _ false [.bool false] from rfl) (Reps.none _ _))); intro v252 w10 ho11 hb hg_ hnew_; clear hg_ hnew_; (first | rw [← Ny251.out] at ho11 | (simp only [Int.reduceToNat] at ho11; rw [← Ny251.out] at ho11)); have n0_ := Aside0.mk (Kd.R_elder' (by (with_reducible repeat (first | apply Kd.R_alloc | apply Kd.R_drewN | apply Kd.R_drew)); exact HO_5.out) (Kd.R_base ho11) hb); have n1_ := Aside0.mk (Kd.R_lower (Kd.R_new' ho11 (Kd.R_lt (by (with_reducible repeat (first | apply Kd.R_alloc | apply Kd.R_drewN | apply Kd.R_drew)); exact HO_5.out))) (below_size (by repeat (first | (with_reducible first | exact HB.out | apply below_alloc | apply pw_below_drewN | apply below_drew1) | exact HB.out)))); have n2_ := Aside0.mk (below_step (by repeat (first | (with_reducible first | exact HB.out | apply below_alloc | apply pw_below_drewN | apply below_drew1) | exact HB.out)) hb); clear HO_5; clear HB; have HO_5 := n0_; have HO253 := n1_; have HB := n2_; clear n0_ n1_ n2_; clear hb ho11; obtain ⟨Ao13, co13, eo13⟩ := Kd.R_slice HO_5.out; subst eo13) | ((with_reducible refine gate_builtin (b := .append) (xs := #[.tmp 14, .tmp 15]) rfl ?_); at_builtin; refine Kd.R_append_rows Kd.bool (w0 := w) w.heap.size rfl (.tmp 14) (.tmp 15) 87 4 (.bool false) 1 rfl Try.underlying87 info4 rfl (by decide) (by omega) v252 y251 x5_1 _ _ _ (fun k_ => some k_ ≠ (.slice Ao13 x5_1.length co13 : Value).ownBlock) (fun _ => False) rfl rfl ?aO ?aR (fun _ _ h => h) (fun _ h => h.elim) ?aF ?aB ?aS ?aL ?_; (case aR => repeat (first | exact (Kd.R_reads' HO_5.out).2.2 | (with_reducible refine Kd.C_alloc ?_ _) | (with_reducible refine Kd.C_drewN ?_ _) | (with_reducible refine Kd.C_drew ?_))); (case aB => exact (by repeat (first | (with_reducible first | exact HB.out | apply below_alloc | apply pw_below_drewN | apply below_drew1) | exact HB.out))); (case aF => exact (fun k_ hk => Kd.fresh' (Kd.R_lt (by (with_reducible repeat (first | apply Kd.R_alloc | apply Kd.R_drewN | apply Kd.R_drew)); exact HO_5.out)) k_ hk)); (case aO => exact (by (with_reducible repeat (first | apply Kd.R_alloc | apply Kd.R_drewN | apply Kd.R_drew)); exact Kd.R_mono HO253.out (fun _ hk => hk.2))); (case aS => exact (below_size (by repeat (first | (with_reducible first | exact HB.out | apply below_alloc | apply pw_below_drewN | apply below_drew1) | exact HB.out)))); (case aL => have := LMc4.out; omega); intro v255 w12 ho hb hg hat; rw [← Ny254.out] at ho; have n0_ := Aside0.mk (Kd.R_after (ok := (fun _ => True)) (by (with_reducible repeat (first | apply Kd.R_alloc | apply Kd.R_drewN | apply Kd.R_drew)); exact HO_5.out) hg hat); have n1_ := Aside0.mk (hb); have n2_ := Aside0.mk (ho); clear HO_5; clear HB; clear HO253; have HO_5 := n0_; have HB := n1_; have HO256 := n2_; clear n0_ n1_ n2_; clear ho hb hg hat; have p257 : 0 ≤ (x6_1 : Int) := of_decide_eq_true (by first | (with_reducible assumption) | assumption); have q257 : x6_1 < (l1.length : Int) := of_decide_eq_true (by first | (with_reducible assumption) | assumption); obtain ⟨ad257, e257, hx257_0⟩ := Kd.at_bool HR1.out x6_1 p257 q257; (try rw [← Nbq7.out] at hx257_0); cases e257; replace hx257_0 := (HB.out.cell (World.block_lt_of_cell? w _ hx257_0)).trans hx257_0; replace p257 := eq_true p257; replace q257 := eq_true q257; obtain ⟨Ao14, co14, eo14⟩ := Kd.R_slice HO256.out; subst eo14) | ((with_reducible refine gate_callee (f := 45) rfl ?_); refine goesL_ (some 23) rfl rfl Try.func45 (by kernel_rfl) rfl #[.slice Ao14 y254.length co14, .slice A0 l0.length c0] rfl (by (try simp only [List.map_toArray, List.map_cons, List.map_nil]); first | done | rfl | (simp only [List.length_drop, List.length_take]; rfl)) ?_; (with_reducible refine (soukref01_Plus.calls k1 _ _ y254 _ _ l0 t258 _ ?side1 ?side2 ?side3 ?side4 A9.out).mono ?_); (case side1 => repeat (first | exact (Kd.R_reads' HO256.out).2.2 | (with_reducible refine Kd.C_alloc ?_ _) | (with_reducible refine Kd.C_drewN ?_ _) | (with_reducible refine Kd.C_drew ?_))); (case side2 => exact (Kd.R_reads' HO256.out).2.1); (case side3 => repeat (first | exact (Kd.C_below HR0.out HB.out) | (with_reducible refine Kd.C_alloc ?_ _) | (with_reducible refine Kd.C_drewN ?_ _) | (with_reducible refine Kd.C_drew ?_))); (case side4 => exact HC0.out); rintro e w15 ⟨v259, rfl, ho0, hb⟩; refine ⟨_, rfl, ?_⟩; have n0_ := Aside0.mk (Kd.R_elder' (by (with_reducible repeat (first | apply Kd.R_alloc | apply Kd.R_drewN | apply Kd.R_drew)); exact HO_5.out) (Kd.R_base ho0) hb); have n1_ := Aside0.mk (Kd.R_elder' (by (with_reducible repeat (first | apply Kd.R_alloc | apply Kd.R_drewN | apply Kd.R_drew)); exact HO256.out) (Kd.R_base ho0) hb); have n2_ := Aside0.mk (Kd.R_lower (Kd.R_new' (Kd.R_new' ho0 (Kd.R_lt (by (with_reducible repeat (first | apply Kd.R_alloc | apply Kd.R_drewN | apply Kd.R_drew)); exact HO_5.out))) (Kd.R_lt (by (with_reducible repeat (first | apply Kd.R_alloc | apply Kd.R_drewN | apply Kd.R_drew)); exact HO256.out))) (below_size (by repeat (first | (with_reducible first | exact HB.out | apply below_alloc | apply pw_below_drewN | apply below_drew1) | exact HB.out)))); have n3_ := Aside0.mk (below_step (by repeat (first | (with_reducible first | exact HB.out | apply below_alloc | apply pw_below_drewN | apply below_drew1) | exact HB.out)) hb); clear HO_5; clear HO256; clear HB; have HO_5 := n0_; have HO256 := n1_; have HO260 := n2_; have HB := n3_; clear n0_ n1_ n2_ n3_; (try clear hb); (try clear hb2); (try clear hk); (try clear hi); (try clear ho0)))
        go_roundg k1
        case measure => have := HK1.out; omega
        case rel => exact ⟨(t258), (wrap64 (x6_1 - 1)), (by first | rfl | (simp; done) | (simp [*]; done)), H', ⟨by have := HK1.out; omega⟩, ⟨by (with_reducible repeat (first | apply Kd.R_alloc | apply Kd.R_drewN | apply Kd.R_drew)); exact Kd.R_mono HO260.out (fun _ hk => trivial)⟩, ⟨by repeat (first | (with_reducible first | exact HB.out | apply below_alloc | apply pw_below_drewN | apply below_drew1) | exact HB.out)⟩⟩
       ·replace c8 := Bool.eq_false_iff.mpr c8
        subst c8
        have H1 : (soukref01_Times.l0 k1 l0 l1 y254 (wrap64 (x6_1 - 1))) = some r := by rw [if_neg (show ¬ (false = true) by decide)] at H; exact H
        clear H
        have H := H1
        clear H1
        have H' := Aside0.mk H
        clear H
        go_wp2_with (first | ((with_reducible refine gate_dst (N := 14) rfl ?_); refine Kd.R_lit Kd.bool _ 4 ?hg (N := 14) ?hd (xs := ([false] : List Bool)) (inner := [.bool false]) (ok := fun _ => True) (okp := fun _ => True) ?hr ?hp (fun _ hk => hk) trivial (Below.refl _ _) (Nat.le_refl _) (by simp) ?_; (case hd => rfl); (case hg => rfl); (case hr => first | (go_simp; done) | (go_simp; rfl)); (case hp => exact (Reps.one (show Kd.M Kd.bool _ _ _ false [.bool false] from rfl) (Reps.none _ _))); intro v252 w16 ho17 hb hg_ hnew_; clear hg_ hnew_; (first | rw [← Ny251.out] at ho17 | (simp only [Int.reduceToNat] at ho17; rw [← Ny251.out] at ho17)); have n0_ := Aside0.mk (Kd.R_elder' (by (with_reducible repeat (first | apply Kd.R_alloc | apply Kd.R_drewN | apply Kd.R_drew)); exact HO_5.out) (Kd.R_base ho17) hb); have n1_ := Aside0.mk (Kd.R_lower (Kd.R_new' ho17 (Kd.R_lt (by (with_reducible repeat (first | apply Kd.R_alloc | apply Kd.R_drewN | apply Kd.R_drew)); exact HO_5.out))) (below_size (by repeat (first | (with_reducible first | exact HB.out | apply below_alloc | apply pw_below_drewN | apply below_drew1) | exact HB.out)))); have n2_ := Aside0.mk (below_step (by repeat (first | (with_reducible first | exact HB.out | apply below_alloc | apply pw_below_drewN | apply below_drew1) | exact HB.out)) hb); clear HO_5; clear HB; have HO_5 := n0_; have HO253 := n1_; have HB := n2_; clear n0_ n1_ n2_; clear hb ho17; obtain ⟨Ao19, co19, eo19⟩ := Kd.R_slice HO_5.out; subst eo19) | ((with_reducible refine gate_builtin (b := .append) (xs := #[.tmp 14, .tmp 15]) rfl ?_); at_builtin; refine Kd.R_append_rows Kd.bool (w0 := w) w.heap.size rfl (.tmp 14) (.tmp 15) 87 4 (.bool false) 1 rfl Try.underlying87 info4 rfl (by decide) (by omega) v252 y251 x5_1 _ _ _ (fun k_ => some k_ ≠ (.slice Ao19 x5_1.length co19 : Value).ownBlock) (fun _ => False) rfl rfl ?aO ?aR (fun _ _ h => h) (fun _ h => h.elim) ?aF ?aB ?aS ?aL ?_; (case aR => repeat (first | exact (Kd.R_reads' HO_5.out).2.2 | (with_reducible refine Kd.C_alloc ?_ _) | (with_reducible refine Kd.C_drewN ?_ _) | (with_reducible refine Kd.C_drew ?_))); (case aB => exact (by repeat (first | (with_reducible first | exact HB.out | apply below_alloc | apply pw_below_drewN | apply below_drew1) | exact HB.out))); (case aF => exact (fun k_ hk => Kd.fresh' (Kd.R_lt (by (with_reducible repeat (first | apply Kd.R_alloc | apply Kd.R_drewN | apply Kd.R_drew)); exact HO_5.out)) k_ hk)); (case aO => exact (by (with_reducible repeat (first | apply Kd.R_alloc | apply Kd.R_drewN | apply Kd.R_drew)); exact Kd.R_mono HO253.out (fun _ hk => hk.2))); (case aS => exact (below_size (by repeat (first | (with_reducible first | exact HB.out | apply below_alloc | apply pw_below_drewN | apply below_drew1) | exact HB.out)))); (case aL => have := LMc4.out; omega); intro v255 w18 ho hb hg hat; rw [← Ny254.out] at ho; have n0_ := Aside0.mk (Kd.R_after (ok := (fun _ => True)) (by (with_reducible repeat (first | apply Kd.R_alloc | apply Kd.R_drewN | apply Kd.R_drew)); exact HO_5.out) hg hat); have n1_ := Aside0.mk (hb); have n2_ := Aside0.mk (ho); clear HO_5; clear HB; clear HO253; have HO_5 := n0_; have HB := n1_; have HO256 := n2_; clear n0_ n1_ n2_; clear ho hb hg hat; have p257 : 0 ≤ (x6_1 : Int) := of_decide_eq_true (by first | (with_reducible assumption) | assumption); have q257 : x6_1 < (l1.length : Int) := of_decide_eq_true (by first | (with_reducible assumption) | assumption); obtain ⟨ad257, e257, hx257_0⟩ := Kd.at_bool HR1.out x6_1 p257 q257; (try rw [← Nbq7.out] at hx257_0); cases e257; replace hx257_0 := (HB.out.cell (World.block_lt_of_cell? w _ hx257_0)).trans hx257_0; replace p257 := eq_true p257; replace q257 := eq_true q257))
        go_roundg k1
        case measure => have := HK1.out; omega
        case rel => exact ⟨(y254), (wrap64 (x6_1 - 1)), (by first | rfl | (simp; done) | (simp [*]; done)), H', ⟨by have := HK1.out; omega⟩, ⟨by (with_reducible repeat (first | apply Kd.R_alloc | apply Kd.R_drewN | apply Kd.R_drew)); exact Kd.R_mono HO256.out (fun _ hk => trivial)⟩, ⟨by repeat (first | (with_reducible first | exact HB.out | apply below_alloc | apply pw_below_drewN | apply below_drew1) | exact HB.out)⟩⟩
      ·rw [if_neg c6] at H
       exact absurd H (by simp)
     ·rw [if_neg c5] at H
      exact absurd H (by simp)
    ·rw [if_neg c4] at H
     exact absurd H (by simp)
   ·rw [if_neg c3] at H
    have c3b0 : decide (0 ≤ x6_1) = false := decide_eq_false c3
    clear c3
    replace H := Option.bind_eq_some_iff.mp H
    obtain ⟨t261, A200, H⟩ := H
    replace H : (some t261) = some r := H
    have A20 := Aside0.mk A200
    clear A200
    obtain rfl := Option.some.inj H
    obtain ⟨Ao21, co21, eo21⟩ := Kd.R_slice HO_5.out
    subst eo21
    go_wp2_with (first | ((with_reducible refine gate_callee (f := 46) rfl ?_); refine goesL_ (some 25) rfl rfl Try.func46 (by kernel_rfl) rfl #[.slice Ao21 x5_1.length co21] rfl (by (try simp only [List.map_toArray, List.map_cons, List.map_nil]); first | done | rfl | (simp only [List.length_drop, List.length_take]; rfl)) ?_; (with_reducible refine (soukref01_trim.calls k1 (fun k_ => some k_ = (.slice Ao21 x5_1.length co21 : Value).ownBlock) (.slice Ao21 x5_1.length co21) x5_1 t261 w _ ?side1 ?side2 A20.out).mono ?_); (case side1 => repeat (first | (with_reducible first | exact HB.out | apply below_alloc | apply pw_below_drewN | apply below_drew1) | exact HB.out)); (case side2 => exact Kd.R_tight rfl HO_5.out); rintro e w22 ⟨v262, rfl, ho0, hb, hkp⟩; refine ⟨_, rfl, ?_⟩; have n0_ := Aside0.mk (Kd.R_mono (ok' := fun k_ => True) ho0 (fun k_ hk_ => trivial)); have n1_ := Aside0.mk (hb); clear HB; clear HO_5; have HO263 := n0_; have HB := n1_; clear n0_ n1_; (try clear hb); (try clear hkp); (try clear ho0)))
    go_ret
    exact ⟨_, by first | rfl | (simp [errW_none, errW_some] <;> rfl) | (simp [*, errW_none, errW_some] <;> rfl), by (with_reducible repeat (first | apply Kd.R_alloc | apply Kd.R_drewN | apply Kd.R_drew)); exact HO263.out, by repeat (first | (with_reducible first | exact HB.out | apply below_alloc | apply pw_below_drewN | apply below_drew1) | exact HB.out)⟩
end Go.Proofs.Ytncnhhnbjmpomaa.Q
namespace Go.Proofs.Ytncnhhnbjmpomaa.Q
open Go.RowKit Go.Proofs.YtncnhhnbjmpomaaW.PrintWords Go.Proofs.YtncnhhnbjmpomaaW.PrintLast Go.Proofs.YtncnhhnbjmpomaaW.PrintMore
attribute [local go_sem] max2_int min2_int max_two min_two max_three min_three max_four min_four   -- for this text's walks alone
set_option linter.unusedVariables false
set_option linter.unusedSimpArgs false
mutual
def soukref01_bits.j0 : Nat → List Bool → Int → Option (List Bool)
 | 0, _, _ => none
 | k + 1, x3, x4 => soukref01_bits.l0 k x3 x4
def soukref01_bits.l0 : Nat → List Bool → Int → Option (List Bool)
 | 0, _, _ => none
 | k + 1, x3, x4 => if x4 > 0 then (if x3.length < 140737488355328 then (soukref01_bits.l0 k (x3 ++ [((Go.bits .and .u64 x4 1) == 1)]) (x4 / 2)) else (none)) else (some x3)
end
def soukref01_bits.f (k : Nat) (a0 : Int) : Option (List Bool) := if a0 < 0 then (soukref01_bits.j0 k ([] : List Bool) (IntKind.u64.wrap (-(IntKind.u64.wrap (a0))))) else (soukref01_bits.j0 k ([] : List Bool) (IntKind.u64.wrap (a0)))
set_option maxHeartbeats 8000000 in
set_option maxRecDepth 100000 in
theorem soukref01_bits.calls (k : Nat) (a0 : Int) (r : List Bool) (w : World) (h : soukref01_bits.f k a0 = some r) :
  Calls Try.prog 44 #[.int .i64 a0] w fun e w' => ∃ v0_ : Value, e = .returned (v0_) ∧ Kd.R Kd.bool 4 w' w.heap.size (fun _ => True) v0_ r ∧ Below w.heap.size w w' := by
 have HB := Aside0.mk (Below.refl w.heap.size w)
 have H : (if a0 < 0 then (soukref01_bits.j0 k ([] : List Bool) (IntKind.u64.wrap (-(IntKind.u64.wrap (a0))))) else (soukref01_bits.j0 k ([] : List Bool) (IntKind.u64.wrap (a0)))) = some r := h
 clear h
 have HC2 := Aside0.mk H
 clear H
 go_enter Try.func44, Try.ntmps44
 go_upto_if 8 with (fail)
 go_cut [4] (fun v4 wc => ∃ (kq : Nat) (x4_1 : Int), v4 = .int .u64 x4_1 ∧ Aside0 (soukref01_bits.j0 kq ([] : List Bool) x4_1 = some r) ∧ Aside0 (kq ≤ k) ∧ Aside0 (Kd.R Kd.bool 4 wc w.heap.size (fun _ => True) (.slice none 0 0) ([] : List Bool)) ∧ Aside0 (Below w.heap.size w wc))
 case first =>
  have H := HC2.out
  clear HC2
  by_cases c3 : a0 < 0
  ·rw [if_pos c3] at H
   have c3b0 : decide (a0 < 0) = true := decide_eq_true c3
   clear c3
   (first | rw [c3b0] | (simp only [i64_w, i32_w]; rw [c3b0]) | skip)
   have H' := Aside0.mk H
   clear H
   go_wp2
   go_meet
   case rel => exact ⟨_, (IntKind.u64.wrap (-(IntKind.u64.wrap (a0)))), (by first | rfl | (simp; done) | (simp [*]; done)), H', ⟨by first | omega | exact Nat.le_refl _⟩, ⟨by first | exact Kd.R_nil _ _ _ _ _ | exact Kd.N_nil _ _ _ _ _ | exact Kd.V_nil _ _ _ _ _ | exact Kd.Q_nil _ _ _ _ _ | exact Kd.S_nil _ _ _ _ _⟩, ⟨by repeat (first | (with_reducible first | exact HB.out | apply below_alloc | apply pw_below_drewN | apply below_drew1) | exact HB.out)⟩⟩
  ·rw [if_neg c3] at H
   have c3b0 : decide (a0 < 0) = false := decide_eq_false c3
   clear c3
   (first | rw [c3b0] | (simp only [i64_w, i32_w]; rw [c3b0]) | skip)
   have H' := Aside0.mk H
   clear H
   go_wp2
   go_meet
   case rel => exact ⟨_, (IntKind.u64.wrap (a0)), (by first | rfl | (simp; done) | (simp [*]; done)), H', ⟨by first | omega | exact Nat.le_refl _⟩, ⟨by first | exact Kd.R_nil _ _ _ _ _ | exact Kd.N_nil _ _ _ _ _ | exact Kd.V_nil _ _ _ _ _ | exact Kd.Q_nil _ _ _ _ _ | exact Kd.S_nil _ _ _ _ _⟩, ⟨by repeat (first | (with_reducible first | exact HB.out | apply below_alloc | apply pw_below_drewN | apply below_drew1) | exact HB.out)⟩⟩
 case rest =>
  clear HC2
  try clear p2
  try clear c3
  try clear c3b0
  obtain ⟨kq, x4_1, rfl, HA, HJ1, HO_3, HB⟩ := hcut
  cases kq with
  | zero => exact absurd HA.out (by simp [soukref01_bits.j0])
  | succ kj1 =>
   have H := HA.out
   clear HA
   simp only [soukref01_bits.j0] at H
   have H' := Aside0.mk H
   clear H
   go_wp2
   go_loopg [3, 4] kj1 (fun kq v3 v4 w' => ∃ (x3_2 : List Bool) (x4_2 : Int), v4 = .int .u64 x4_2 ∧ Aside0 (soukref01_bits.l0 kq x3_2 x4_2 = some r) ∧ Aside0 (kq ≤ kj1) ∧ Aside0 (Kd.R Kd.bool 4 w' w.heap.size (fun _ => True) v3 x3_2) ∧ Aside0 (Below w.heap.size w w'))
   case atStart => exact ⟨(([] : List Bool)), (x4_1), (by first | rfl | (simp; done) | (simp [*]; done)), H', ⟨Nat.le_refl _⟩, ⟨by (with_reducible repeat (first | apply Kd.R_alloc | apply Kd.R_drewN | apply Kd.R_drew)); exact HO_3.out⟩, ⟨by repeat (first | (with_reducible first | exact HB.out | apply below_alloc | apply pw_below_drewN | apply below_drew1) | exact HB.out)⟩⟩
   case round =>
    clear H'
    try clear p2
    try clear c3
    try clear c3b0
    try clear p2
    obtain ⟨x3_2, x4_2, rfl, HA, HK2, HO_3, HB⟩ := hrel
    cases gk with
    | zero => exact absurd HA.out (by simp [soukref01_bits.l0])
    | succ k2 =>
     have H := HA.out
     clear HA
     simp only [soukref01_bits.l0] at H
     by_cases c4 : x4_2 > 0
     ·rw [if_pos c4] at H
      have c4b0 : decide (0 < x4_2) = true := decide_eq_true c4
      clear c4
      by_cases c5 : x3_2.length < 140737488355328
      ·rw [if_pos c5] at H
       have LMc5 := Aside0.mk c5
       clear c5
       obtain ⟨y264, hy264⟩ : ∃ y_ : List Bool, y_ = (x3_2 ++ [((Go.bits .and .u64 x4_2 1) == 1)]) := ⟨_, rfl⟩
       replace H : (soukref01_bits.l0 k2 y264 (x4_2 / 2)) = some r := by first | (rw [hy264]; with_reducible exact H) | (have H2_ := (Option.bind_some _ _).symm.trans H; rw [hy264]; with_reducible exact H2_) | (have H2_ := (Option.bind_some _ _).symm.trans H; with_reducible exact H2_) | with_reducible exact H | (rw [hy264]; exact H) | exact H
       have Ny264 := Aside0.mk hy264
       clear hy264
       have H' := Aside0.mk H
       clear H
       go_wp2_with (first | ((with_reducible refine gate_builtin (b := .append) (xs := #[.tmp 13, .tmp 17]) rfl ?_); at_builtin; refine Kd.R_append Kd.bool (w0 := w) w.heap.size rfl (.tmp 13) (.tmp 17) 87 4 (.bool false) 1 rfl Try.underlying87 info4 rfl (by decide) (by omega) u3 x3_2 ((Go.bits .and .u64 x4_2 1) == 1) [.bool ((Go.bits .and .u64 x4_2 1) == 1)] (fun _ => True) (fun _ => False) rfl rfl ?aP (fun _ hk => hk.elim) ?aF ?aO ?aB ?aS ?aL ?_; (case aP => exact rfl); (case aB => exact (by repeat (first | (with_reducible first | exact HB.out | apply below_alloc | apply pw_below_drewN | apply below_drew1) | exact HB.out))); (case aF => exact (fun _ _ => trivial)); (case aO => exact (by (with_reducible repeat (first | apply Kd.R_alloc | apply Kd.R_drewN | apply Kd.R_drew)); exact HO_3.out)); (case aS => exact (below_size (by repeat (first | (with_reducible first | exact HB.out | apply below_alloc | apply pw_below_drewN | apply below_drew1) | exact HB.out)))); (case aL => have := LMc5.out; omega); intro v265 w6 ho hb hg hat; rw [← Ny264.out] at ho; have n0_ := Aside0.mk (hb); have n1_ := Aside0.mk (ho); clear HB; clear HO_3; have HB := n0_; have HO266 := n1_; clear n0_ n1_; clear ho hb hg hat))
       go_roundg k2
       case measure => have := HJ1.out; have := HK2.out; omega
       case rel => exact ⟨(y264), (x4_2 / 2), (by first | rfl | (simp; done) | (simp [*]; done)), H', ⟨by have := HJ1.out; have := HK2.out; omega⟩, ⟨by (with_reducible repeat (first | apply Kd.R_alloc | apply Kd.R_drewN | apply Kd.R_drew)); exact HO266.out⟩, ⟨by repeat (first | (with_reducible first | exact HB.out | apply below_alloc | apply pw_below_drewN | apply below_drew1) | exact HB.out)⟩⟩
      ·rw [if_neg c5] at H
       exact absurd H (by simp)
     ·rw [if_neg c4] at H
      have c4b0 : decide (0 < x4_2) = false := decide_eq_false c4
      clear c4
      obtain rfl := Option.some.inj H
      go_wp2
      go_ret
      exact ⟨_, by first | rfl | (simp [errW_none, errW_some] <;> rfl) | (simp [*, errW_none, errW_some] <;> rfl), by (with_reducible repeat (first | apply Kd.R_alloc | apply Kd.R_drewN | apply Kd.R_drew)); exact HO_3.out, by repeat (first | (with_reducible first | exact HB.out | apply below_alloc | apply pw_below_drewN | apply below_drew1) | exact HB.out)⟩
end Go.Proofs.Ytncnhhnbjmpomaa.Q
namespace Go.Proofs.Ytncnhhnbjmpomaa.Q
open Go.RowKit Go.Proofs.YtncnhhnbjmpomaaW.PrintWords Go.Proofs.YtncnhhnbjmpomaaW.PrintLast Go.Proofs.YtncnhhnbjmpomaaW.PrintMore
attribute [local go_sem] max2_int min2_int max_two min_two max_three min_three max_four min_four   -- for this text's walks alone
set_option linter.unusedVariables false
set_option linter.unusedSimpArgs false
mutual
def soukref01_value.l0 : Nat → List Bool → Bool → Int → Int → Option (Int × Bool)
 | 0, _, _, _, _ => none
 | k + 1, x0, x1, x6, x7 => if x7 ≥ 0 then (if 0 ≤ x7 then (if x7 < (x0.length : Int) then (if rdOf false x0 x7 = true then (soukref01_value.l0 k x0 x1 (IntKind.u64.wrap ((IntKind.u64.wrap (x6 * 2)) + 1)) (wrap64 (x7 - 1))) else (soukref01_value.l0 k x0 x1 (IntKind.u64.wrap (x6 * 2)) (wrap64 (x7 - 1)))) else (none)) else (none)) else (if x1 = true then (soukref01_value.j1 k x1 x6 (decide (x6 ≤ 9223372036854775808))) else (soukref01_value.j1 k x1 x6 false))
def soukref01_value.j1 : Nat → Bool → Int → Bool → Option (Int × Bool)
 | 0, _, _, _ => none
 | k + 1, x1, x6, x32 => if x32 = true then (some (wrap64 (IntKind.u64.wrap (-x6)), true)) else (if x6 < 9223372036854775808 then (if x1 = true then (some (wrap64 (x6), (x6 == 0))) else (some (wrap64 (x6), true))) else (some (0, false)))
end
def soukref01_value.f (k : Nat) (l0 : List Bool) (a1 : Bool) : Option (Int × Bool) := (soukref01_trim.f k l0).bind fun t267 => (if (t267.length : Int) > 64 then (some (0, false)) else (soukref01_value.l0 k t267 a1 0 (wrap64 ((t267.length : Int) - 1))))
set_option maxHeartbeats 8000000 in
set_option maxRecDepth 100000 in
theorem soukref01_value.calls (k : Nat) (P0_ : Nat → Prop) (u9000_ : Value) (l0 : List Bool) (a1 : Bool) (r1 : Int) (r2 : Bool) (w0 w : World) (hB : Below w0.heap.size w0 w) (ho0 : Kd.R Kd.bool 4 w w0.heap.size P0_ u9000_ l0) (h : soukref01_value.f k l0 a1 = some (r1, r2)) :
  Calls Try.prog 49 #[u9000_, .bool a1] w fun e w' => e = .returned (.tuple #[.int .i64 r1, .bool r2]) ∧ Below w0.heap.size w0 w' ∧ Kept w w' (fun k_ => P0_ k_) := by
 have HO0 := Aside0.mk (show Kd.R Kd.bool 4 w w0.heap.size (fun k_ => (P0_ k_ ∨ w.heap.size ≤ k_)) u9000_ l0 from Kd.R_mono ho0 (fun k_ hk => (.inl hk)))
 have HK := Aside0.mk (Kept.refl w (fun k_ => P0_ k_))
 have HW0 := Aside0.mk hB.size
 have HB := Aside0.mk hB
 clear hB
 have H : ((soukref01_trim.f k l0).bind fun t267 => (if (t267.length : Int) > 64 then (some (0, false)) else (soukref01_value.l0 k t267 a1 0 (wrap64 ((t267.length : Int) - 1))))) = some (r1, r2) := h
 clear h
 replace H := Option.bind_eq_some_iff.mp H
 obtain ⟨t267, A30, H⟩ := H
 replace H : (if (t267.length : Int) > 64 then (some (0, false)) else (soukref01_value.l0 k t267 a1 0 (wrap64 ((t267.length : Int) - 1)))) = some (r1, r2) := H
 have A3 := Aside0.mk A30
 clear A30
 by_cases c4 : (t267.length : Int) > 64
 ·rw [if_pos c4] at H
  have c4b0 : decide (64 < (t267.length : Int)) = true := decide_eq_true c4
  have c4b1 : decide (64 < t267.length) = true := decide_eq_true (by omega)
  clear c4
  simp only [Option.some.injEq, Prod.mk.injEq] at H
  obtain ⟨rfl, rfl⟩ := H
  obtain ⟨Ao5, co5, eo5⟩ := Kd.R_slice HO0.out
  subst eo5
  go_enter Try.func49, Try.ntmps49
  go_wp2_with (first | ((with_reducible refine gate_callee (f := 46) rfl ?_); refine goesL_ (some 9) rfl rfl Try.func46 (by kernel_rfl) rfl #[.slice Ao5 l0.length co5] rfl (by (try simp only [List.map_toArray, List.map_cons, List.map_nil]); first | done | rfl | (simp only [List.length_drop, List.length_take]; rfl)) ?_; (with_reducible refine (soukref01_trim.calls k (fun k_ => some k_ = (.slice Ao5 l0.length co5 : Value).ownBlock) (.slice Ao5 l0.length co5) l0 t267 w0 _ ?side1 ?side2 A3.out).mono ?_); (case side1 => repeat (first | (with_reducible first | exact HB.out | apply below_alloc | apply pw_below_drewN | apply below_drew1) | exact HB.out)); (case side2 => exact Kd.R_tight rfl HO0.out); rintro e w6 ⟨v268, rfl, ho0, hb, hkp⟩; refine ⟨_, rfl, ?_⟩; have n0_ := Aside0.mk (Kd.R_mono (ok' := fun k_ => (P0_ k_ ∨ w.heap.size ≤ k_)) ho0 (fun k_ hk_ => Or.elim hk_ (fun hs_ => (HO0.out.1 k_ (hs_).symm)) (fun hn_ => (.inr (Nat.le_trans (by first | exact HK.out.1 | exact (show Kept w _ (fun k_ => P0_ k_) from by repeat (first | (with_reducible first | exact HK.out | apply Kept.alloc | apply Kept.drewN | apply Kept.drew) | exact HK.out)).1) hn_))))); have n1_ := Aside0.mk (Kept.then_ (S := (fun k_ => P0_ k_)) (by repeat (first | (with_reducible first | exact HK.out | apply Kept.alloc | apply Kept.drewN | apply Kept.drew) | exact HK.out)) hkp (fun k_ hs_ => (fun e_ => (HO0.out.1 k_ e_.symm)) hs_)); have n2_ := Aside0.mk (hb); clear HK; clear HB; clear HO0; have HO269 := n0_; have HK := n1_; have HB := n2_; clear n0_ n1_ n2_; (try clear hb); (try clear hkp); (try clear ho0); obtain ⟨Ao7, co7, eo7⟩ := Kd.R_slice HO269.out; subst eo7))
  go_ret2
  exact ⟨by first | rfl | (simp [errW_none, errW_some] <;> rfl) | (simp [*, errW_none, errW_some] <;> rfl), by repeat (first | (with_reducible first | exact HB.out | apply below_alloc | apply pw_below_drewN | apply below_drew1) | exact HB.out), by repeat (first | (with_reducible first | exact HK.out | apply Kept.alloc | apply Kept.drewN | apply Kept.drew) | exact HK.out)⟩
 ·rw [if_neg c4] at H
  have c4b0 : decide (64 < (t267.length : Int)) = false := decide_eq_false c4
  have c4b1 : decide (64 < t267.length) = false := decide_eq_false (by omega)
  clear c4
  have H' := Aside0.mk H
  clear H
  obtain ⟨Ao8, co8, eo8⟩ := Kd.R_slice HO0.out
  subst eo8
  go_enter Try.func49, Try.ntmps49
  go_wp2_with (first | ((with_reducible refine gate_callee (f := 46) rfl ?_); refine goesL_ (some 9) rfl rfl Try.func46 (by kernel_rfl) rfl #[.slice Ao8 l0.length co8] rfl (by (try simp only [List.map_toArray, List.map_cons, List.map_nil]); first | done | rfl | (simp only [List.length_drop, List.length_take]; rfl)) ?_; (with_reducible refine (soukref01_trim.calls k (fun k_ => some k_ = (.slice Ao8 l0.length co8 : Value).ownBlock) (.slice Ao8 l0.length co8) l0 t267 w0 _ ?side1 ?side2 A3.out).mono ?_); (case side1 => repeat (first | (with_reducible first | exact HB.out | apply below_alloc | apply pw_below_drewN | apply below_drew1) | exact HB.out)); (case side2 => exact Kd.R_tight rfl HO0.out); rintro e w9 ⟨v268, rfl, ho0, hb, hkp⟩; refine ⟨_, rfl, ?_⟩; have n0_ := Aside0.mk (Kd.R_mono (ok' := fun k_ => (P0_ k_ ∨ w.heap.size ≤ k_)) ho0 (fun k_ hk_ => Or.elim hk_ (fun hs_ => (HO0.out.1 k_ (hs_).symm)) (fun hn_ => (.inr (Nat.le_trans (by first | exact HK.out.1 | exact (show Kept w _ (fun k_ => P0_ k_) from by repeat (first | (with_reducible first | exact HK.out | apply Kept.alloc | apply Kept.drewN | apply Kept.drew) | exact HK.out)).1) hn_))))); have n1_ := Aside0.mk (Kept.then_ (S := (fun k_ => P0_ k_)) (by repeat (first | (with_reducible first | exact HK.out | apply Kept.alloc | apply Kept.drewN | apply Kept.drew) | exact HK.out)) hkp (fun k_ hs_ => (fun e_ => (HO0.out.1 k_ e_.symm)) hs_)); have n2_ := Aside0.mk (hb); clear HK; clear HB; clear HO0; have HO269 := n0_; have HK := n1_; have HB := n2_; clear n0_ n1_ n2_; (try clear hb); (try clear hkp); (try clear ho0); obtain ⟨Ao10, co10, eo10⟩ := Kd.R_slice HO269.out; subst eo10))
  go_loopg [6, 7] k (fun kq v6 v7 w' => ∃ (x6_1 : Int) (x7_1 : Int), v6 = .int .u64 x6_1 ∧ v7 = .int .i64 x7_1 ∧ Aside0 (soukref01_value.l0 kq t267 a1 x6_1 x7_1 = some (r1, r2)) ∧ Aside0 (kq ≤ k) ∧ Aside0 (Kd.R Kd.bool 4 w' w0.heap.size (fun k_ => (P0_ k_ ∨ w.heap.size ≤ k_)) (.slice Ao10 t267.length co10) t267) ∧ Aside0 (Kept w w' (fun k_ => P0_ k_)) ∧ Aside0 (Below w0.heap.size w0 w'))
  case atStart => exact ⟨(0), (wrap64 ((t267.length : Int) - 1)), (by first | rfl | (simp; done) | (simp [*]; done)), (by first | rfl | (simp; done) | (simp [*]; done)), H', ⟨Nat.le_refl _⟩, ⟨by (with_reducible repeat (first | apply Kd.R_alloc | apply Kd.R_drewN | apply Kd.R_drew)); exact HO269.out⟩, ⟨by repeat (first | (with_reducible first | exact HK.out | apply Kept.alloc | apply Kept.drewN | apply Kept.drew) | exact HK.out)⟩, ⟨by repeat (first | (with_reducible first | exact HB.out | apply below_alloc | apply pw_below_drewN | apply below_drew1) | exact HB.out)⟩⟩
  case round =>
   clear H'
   try clear p2
   try clear c4
   try clear c4b0
   try clear c4b1
   try clear p6
   obtain ⟨x6_1, x7_1, rfl, rfl, HA, HK1, HO_0, HK, HB⟩ := hrel
   cases gk with
   | zero => exact absurd HA.out (by simp [soukref01_value.l0])
   | succ k1 =>
    have H := HA.out
    clear HA
    simp only [soukref01_value.l0] at H
    by_cases c11 : x7_1 ≥ 0
    ·rw [if_pos c11] at H
     have c11b0 : decide (0 ≤ x7_1) = true := decide_eq_true c11
     clear c11
     by_cases c12 : 0 ≤ x7_1
     ·rw [if_pos c12] at H
      have c12b0 : decide (0 ≤ x7_1) = true := decide_eq_true c12
      clear c12
      by_cases c13 : x7_1 < (t267.length : Int)
      ·rw [if_pos c13] at H
       have c13b0 : decide (x7_1 < (t267.length : Int)) = true := decide_eq_true c13
       clear c13
       obtain ⟨bq14, hbq14⟩ : ∃ b_ : Bool, b_ = (rdOf false t267 x7_1) := ⟨_, rfl⟩
       replace H : (if bq14 = true then (soukref01_value.l0 k1 t267 a1 (IntKind.u64.wrap ((IntKind.u64.wrap (x6_1 * 2)) + 1)) (wrap64 (x7_1 - 1))) else (soukref01_value.l0 k1 t267 a1 (IntKind.u64.wrap (x6_1 * 2)) (wrap64 (x7_1 - 1)))) = some (r1, r2) := by rw [← hbq14] at H; exact H
       have Nbq14 := Aside0.mk hbq14
       clear hbq14
       by_cases c15 : bq14 = true
       ·subst c15
        have H1 : (soukref01_value.l0 k1 t267 a1 (IntKind.u64.wrap ((IntKind.u64.wrap (x6_1 * 2)) + 1)) (wrap64 (x7_1 - 1))) = some (r1, r2) := by rw [if_pos rfl] at H; exact H
        clear H
        have H := H1
        clear H1
        have H' := Aside0.mk H
        clear H
        have p270 : 0 ≤ (x7_1 : Int) := of_decide_eq_true (by first | (with_reducible assumption) | assumption)
        have q270 : x7_1 < (t267.length : Int) := of_decide_eq_true (by first | (with_reducible assumption) | assumption)
        obtain ⟨ad270, e270, hx270_0⟩ := Kd.at_bool (Kd.R_reads' HO_0.out).2.2 x7_1 p270 q270
        (try rw [← Nbq14.out] at hx270_0)
        cases e270
        replace p270 := eq_true p270
        replace q270 := eq_true q270
        go_wp2
        go_roundg k1
        case measure => have := HK1.out; omega
        case rel => exact ⟨(IntKind.u64.wrap ((IntKind.u64.wrap (x6_1 * 2)) + 1)), (wrap64 (x7_1 - 1)), (by first | rfl | (simp; done) | (simp [*]; done)), (by first | rfl | (simp; done) | (simp [*]; done)), H', ⟨by have := HK1.out; omega⟩, ⟨by (with_reducible repeat (first | apply Kd.R_alloc | apply Kd.R_drewN | apply Kd.R_drew)); exact HO_0.out⟩, ⟨by repeat (first | (with_reducible first | exact HK.out | apply Kept.alloc | apply Kept.drewN | apply Kept.drew) | exact HK.out)⟩, ⟨by repeat (first | (with_reducible first | exact HB.out | apply below_alloc | apply pw_below_drewN | apply below_drew1) | exact HB.out)⟩⟩
       ·replace c15 := Bool.eq_false_iff.mpr c15
        subst c15
        have H1 : (soukref01_value.l0 k1 t267 a1 (IntKind.u64.wrap (x6_1 * 2)) (wrap64 (x7_1 - 1))) = some (r1, r2) := by rw [if_neg (show ¬ (false = true) by decide)] at H; exact H
        clear H
        have H := H1
        clear H1
        have H' := Aside0.mk H
        clear H
        have p270 : 0 ≤ (x7_1 : Int) := of_decide_eq_true (by first | (with_reducible assumption) | assumption)
        have q270 : x7_1 < (t267.length : Int) := of_decide_eq_true (by first | (with_reducible assumption) | assumption)
        obtain ⟨ad270, e270, hx270_0⟩ := Kd.at_bool (Kd.R_reads' HO_0.out).2.2 x7_1 p270 q270
        (try rw [← Nbq14.out] at hx270_0)
        cases e270
        replace p270 := eq_true p270
        replace q270 := eq_true q270
        go_wp2
        go_roundg k1
        case measure => have := HK1.out; omega
        case rel => exact ⟨(IntKind.u64.wrap (x6_1 * 2)), (wrap64 (x7_1 - 1)), (by first | rfl | (simp; done) | (simp [*]; done)), (by first | rfl | (simp; done) | (simp [*]; done)), H', ⟨by have := HK1.out; omega⟩, ⟨by (with_reducible repeat (first | apply Kd.R_alloc | apply Kd.R_drewN | apply Kd.R_drew)); exact HO_0.out⟩, ⟨by repeat (first | (with_reducible first | exact HK.out | apply Kept.alloc | apply Kept.drewN | apply Kept.drew) | exact HK.out)⟩, ⟨by repeat (first | (with_reducible first | exact HB.out | apply below_alloc | apply pw_below_drewN | apply below_drew1) | exact HB.out)⟩⟩
      ·rw [if_neg c13] at H
       exact absurd H (by simp)
     ·rw [if_neg c12] at H
      exact absurd H (by simp)
    ·rw [if_neg c11] at H
     have c11b0 : decide (0 ≤ x7_1) = false := decide_eq_false c11
     clear c11
     have HC16 := Aside0.mk H
     clear H
     go_upto_region 11 with (fail)
     go_cut [32] (fun v32 wc => ∃ (kq : Nat) (x32_15 : Bool), v32 = .bool x32_15 ∧ Aside0 (soukref01_value.j1 kq a1 x6_1 x32_15 = some (r1, r2)) ∧ Aside0 (kq ≤ k1) ∧ Aside0 (Kept w wc (fun k_ => P0_ k_)) ∧ Aside0 (Below w0.heap.size w0 wc))
     case first =>
      have H := HC16.out
      clear HC16
      by_cases c17 : a1 = true
      ·subst c17
       have H1 : (soukref01_value.j1 k1 true x6_1 (decide (x6_1 ≤ 9223372036854775808))) = some (r1, r2) := by rw [if_pos rfl] at H; exact H
       clear H
       have H := H1
       clear H1
       have H' := Aside0.mk H
       clear H
       go_wp2
       go_meet
       case rel => exact ⟨_, (decide (x6_1 ≤ 9223372036854775808)), (by first | rfl | (simp; done) | (simp [*]; done)), H', ⟨by have := HK1.out; first | omega | exact Nat.le_refl _⟩, ⟨by repeat (first | (with_reducible first | exact HK.out | apply Kept.alloc | apply Kept.drewN | apply Kept.drew) | exact HK.out)⟩, ⟨by repeat (first | (with_reducible first | exact HB.out | apply below_alloc | apply pw_below_drewN | apply below_drew1) | exact HB.out)⟩⟩
      ·replace c17 := Bool.eq_false_iff.mpr c17
       subst c17
       have H1 : (soukref01_value.j1 k1 false x6_1 false) = some (r1, r2) := by rw [if_neg (show ¬ (false = true) by decide)] at H; exact H
       clear H
       have H := H1
       clear H1
       have H' := Aside0.mk H
       clear H
       go_wp2
       go_meet
       case rel => exact ⟨_, (false), (by first | rfl | (simp; done) | (simp [*]; done)), H', ⟨by have := HK1.out; first | omega | exact Nat.le_refl _⟩, ⟨by repeat (first | (with_reducible first | exact HK.out | apply Kept.alloc | apply Kept.drewN | apply Kept.drew) | exact HK.out)⟩, ⟨by repeat (first | (with_reducible first | exact HB.out | apply below_alloc | apply pw_below_drewN | apply below_drew1) | exact HB.out)⟩⟩
     case rest =>
      clear HC16
      try clear c1
      try clear q1
      try clear p2
      try clear q2
      try clear hx2
      try clear c4
      try clear c4b0
      try clear c4b1
      try clear p6
      try clear c11
      try clear c11b0
      try clear c12
      try clear c12b0
      try clear c13
      try clear c13b0
      try clear q14
      try clear c15
      try clear c17
      try clear hx270_0
      try clear p2
      try clear p270
      try clear p6
      try clear q270
      obtain ⟨kq, x32_15, rfl, HA, HJ15, HK, HB⟩ := hcut
      cases kq with
      | zero => exact absurd HA.out (by simp [soukref01_value.j1])
      | succ kj15 =>
       have H := HA.out
       clear HA
       simp only [soukref01_value.j1] at H
       by_cases c18 : x32_15 = true
       ·subst c18
        have H1 : (some (wrap64 (IntKind.u64.wrap (-x6_1)), true)) = some (r1, r2) := by rw [if_pos rfl] at H; exact H
        clear H
        have H := H1
        clear H1
        simp only [Option.some.injEq, Prod.mk.injEq] at H
        obtain ⟨rfl, rfl⟩ := H
        go_wp2
        go_ret2
        exact ⟨by first | rfl | (simp [errW_none, errW_some] <;> rfl) | (simp [*, errW_none, errW_some] <;> rfl), by repeat (first | (with_reducible first | exact HB.out | apply below_alloc | apply pw_below_drewN | apply below_drew1) | exact HB.out), by repeat (first | (with_reducible first | exact HK.out | apply Kept.alloc | apply Kept.drewN | apply Kept.drew) | exact HK.out)⟩
       ·replace c18 := Bool.eq_false_iff.mpr c18
        subst c18
        have H1 : (if x6_1 < 9223372036854775808 then (if a1 = true then (some (wrap64 (x6_1), (x6_1 == 0))) else (some (wrap64 (x6_1), true))) else (some (0, false))) = some (r1, r2) := by rw [if_neg (show ¬ (false = true) by decide)] at H; exact H
        clear H
        have H := H1
        clear H1
        by_cases c19 : x6_1 < 9223372036854775808
        ·rw [if_pos c19] at H
         have c19b0 : decide (x6_1 < 9223372036854775808) = true := decide_eq_true c19
         clear c19
         by_cases c20 : a1 = true
         ·subst c20
          have H1 : (some (wrap64 (x6_1), (x6_1 == 0))) = some (r1, r2) := by rw [if_pos rfl] at H; exact H
          clear H
          have H := H1
          clear H1
          simp only [Option.some.injEq, Prod.mk.injEq] at H
          obtain ⟨rfl, rfl⟩ := H
          go_wp2
          go_ret2
          exact ⟨by first | rfl | (simp [errW_none, errW_some] <;> rfl) | (simp [*, errW_none, errW_some] <;> rfl), by repeat (first | (with_reducible first | exact HB.out | apply below_alloc | apply pw_below_drewN | apply below_drew1) | exact HB.out), by repeat (first | (with_reducible first | exact HK.out | apply Kept.alloc | apply Kept.drewN | apply Kept.drew) | exact HK.out)⟩
         ·replace c20 := Bool.eq_false_iff.mpr c20
          subst c20
          have H1 : (some (wrap64 (x6_1), true)) = some (r1, r2) := by rw [if_neg (show ¬ (false = true) by decide)] at H; exact H
          clear H
          have H := H1
          clear H1
          simp only [Option.some.injEq, Prod.mk.injEq] at H
          obtain ⟨rfl, rfl⟩ := H
          go_wp2
          go_ret2
          exact ⟨by first | rfl | (simp [errW_none, errW_some] <;> rfl) | (simp [*, errW_none, errW_some] <;> rfl), by repeat (first | (with_reducible first | exact HB.out | apply below_alloc | apply pw_below_drewN | apply below_drew1) | exact HB.out), by repeat (first | (with_reducible first | exact HK.out | apply Kept.alloc | apply Kept.drewN | apply Kept.drew) | exact HK.out)⟩
        ·rw [if_neg c19] at H
         have c19b0 : decide (x6_1 < 9223372036854775808) = false := decide_eq_false c19
         clear c19
         simp only [Option.some.injEq, Prod.mk.injEq] at H
         obtain ⟨rfl, rfl⟩ := H
         go_wp2
         go_ret2
         exact ⟨by first | rfl | (simp [errW_none, errW_some] <;> rfl) | (simp [*, errW_none, errW_some] <;> rfl), by repeat (first | (with_reducible first | exact HB.out | apply below_alloc | apply pw_below_drewN | apply below_drew1) | exact HB.out), by repeat (first | (with_reducible first | exact HK.out | apply Kept.alloc | apply Kept.drewN | apply Kept.drew) | exact HK.out)⟩
end Go.Proofs.Ytncnhhnbjmpomaa.Q
namespace Go.Proofs.Ytncnhhnbjmpomaa.Q
open Go.RowKit Go.Proofs.YtncnhhnbjmpomaaW.PrintWords Go.Proofs.YtncnhhnbjmpomaaW.PrintLast Go.Proofs.YtncnhhnbjmpomaaW.PrintMore
set_option linter.unusedVariables false
set_option linter.unusedSimpArgs false
def bv (b : Bool) : Nat := if b = true then 1 else 0
def val : List Bool → Nat
  | [] => 0
  | b :: l => bv b + 2 * val l
theorem bv_le (b : Bool) : bv b ≤ 1 := by cases b <;> decide
theorem val_lt : ∀ l : List Bool, val l < 2 ^ l.length
  | [] => by decide
  | b :: l => by
    have := val_lt l
    have := bv_le b
    simp only [val, List.length_cons, Nat.pow_succ]; omega
theorem val_snoc : ∀ (l : List Bool) (b : Bool), val (l ++ [b]) = val l + 2 ^ l.length * bv b
  | [], b => by simp [val]
  | c :: l, b => by
    simp only [List.cons_append, val, val_snoc l b, List.length_cons, Nat.pow_succ]
    rw [Nat.mul_add, Nat.mul_comm (2 ^ l.length) 2, Nat.mul_assoc]; omega
theorem val_app : ∀ (l r : List Bool), val (l ++ r) = val l + 2 ^ l.length * val r
  | [], r => by simp [val]
  | c :: l, r => by
    simp only [List.cons_append, val, val_app l r, List.length_cons, Nat.pow_succ]
    rw [Nat.mul_add, Nat.mul_comm (2 ^ l.length) 2, Nat.mul_assoc]; omega
def bat (a : List Bool) (i : Nat) : Bool := a.getD i false
theorem val_take_succ (a : List Bool) (i : Nat) : val (a.take (i + 1)) = val (a.take i) + 2 ^ i * bv (bat a i) := by
  by_cases h : i < a.length
  · rw [List.take_succ_eq_append_getElem h, val_snoc, List.length_take, Nat.min_eq_left (by omega)]
    unfold bat; rw [List.getD_eq_getElem?_getD, List.getElem?_eq_getElem h]; rfl
  · rw [List.take_of_length_le (by omega), List.take_of_length_le (by omega)]
    unfold bat; rw [List.getD_eq_getElem?_getD, List.getElem?_eq_none (by omega)]; simp [bv]
theorem val_take_all (a : List Bool) (i : Nat) (h : a.length ≤ i) : val (a.take i) = val a := by rw [List.take_of_length_le h]
theorem val_split (a : List Bool) (i : Nat) (h : i ≤ a.length) : val a = val (a.take i) + 2 ^ i * val (a.drop i) := by
  conv => lhs; rw [← List.take_append_drop i a, val_app]
  rw [List.length_take, Nat.min_eq_left h]
theorem at_ok (a : List Bool) (i : Nat) : soukref01_Wide_at.f a (i : Int) = some (bat a i) := by
  unfold soukref01_Wide_at.f bat
  by_cases h : i < a.length
  · rw [if_pos (by omega), if_pos (by omega)]
    unfold rdOf; rw [Int.toNat_natCast]
  · rw [if_neg (by omega), List.getD_eq_getElem?_getD, List.getElem?_eq_none (by omega)]; rfl
theorem rdOf_at (a : List Bool) (i : Nat) : rdOf false a (i : Int) = bat a i := by unfold rdOf bat; rw [Int.toNat_natCast]
def trimF : List Bool → List Bool
  | [] => []
  | b :: l => if b = false ∧ trimF l = [] then [] else b :: trimF l
theorem trimF_val : ∀ l : List Bool, val (trimF l) = val l
  | [] => rfl
  | b :: l => by
    have ih := trimF_val l
    unfold trimF
    split
    · rename_i h
      obtain ⟨rfl, h2⟩ := h
      rw [h2] at ih
      simp only [val] at ih ⊢
      rw [← ih]; rfl
    · simp only [val, ih]
theorem trimF_len : ∀ l : List Bool, (trimF l).length ≤ l.length
  | [] => Nat.le_refl _
  | b :: l => by
    have := trimF_len l
    unfold trimF
    split
    · simp
    · simp; omega
theorem trimF_pow : ∀ l : List Bool, trimF l ≠ [] → 2 ^ ((trimF l).length - 1) ≤ val l
  | [], h => absurd rfl h
  | b :: l, h => by
    unfold trimF at h ⊢
    split at h
    · exact absurd rfl h
    · rename_i hc
      rw [if_neg hc]
      simp only [List.length_cons, Nat.add_sub_cancel, val]
      by_cases hl : trimF l = []
      · rw [hl]
        cases b with
        | true => simp [bv]
        | false => exact absurd ⟨rfl, hl⟩ hc
      · have := trimF_pow l hl
        have hpos : 0 < (trimF l).length := List.length_pos_iff.2 hl
        obtain ⟨n, hn⟩ : ∃ n, (trimF l).length = n + 1 := ⟨(trimF l).length - 1, by omega⟩
        rw [hn] at this ⊢
        rw [Nat.pow_succ]
        simp at this; omega
theorem trimF_false : ∀ l : List Bool, trimF (l ++ [false]) = trimF l
  | [] => rfl
  | b :: l => by simp only [List.cons_append, trimF, trimF_false l]
theorem trimF_true : ∀ l : List Bool, trimF (l ++ [true]) = l ++ [true]
  | [] => rfl
  | b :: l => by
    simp only [List.cons_append, trimF, trimF_true l]
    rw [if_neg (by simp)]
theorem trim_from (a : List Bool) (ha : a.length ≤ 1000000) : ∀ j, j ≤ a.length → EvT (fun k => soukref01_trim.l0 k a (j : Int)) (trimF (a.take j))
  | 0, _ => by
    refine EvT.done (fun k => ?_)
    simp only [soukref01_trim.l0]
    rw [if_neg (by omega), if_pos (by omega), if_pos (by omega)]
    simp [trimF]
  | j + 1, hj => by
    have ih := trim_from a ha j (by omega)
    have hlt : j < a.length := by omega
    have ht : a.take (j + 1) = a.take j ++ [bat a j] := by
      rw [List.take_succ_eq_append_getElem hlt]; unfold bat; rw [List.getD_eq_getElem?_getD, List.getElem?_eq_getElem hlt]; rfl
    cases hb : bat a j with
    | true =>
      refine EvT.done (fun k => ?_)
      simp only [soukref01_trim.l0]
      rw [if_pos (by omega), pv j (by omega), if_pos (by omega), if_pos (by omega), rdOf_at, if_pos hb, if_pos (by omega), if_pos (by omega), Int.toNat_natCast, ht, hb, trimF_true]
    | false =>
      rw [ht, hb, trimF_false]
      refine EvT.step (fun k => ?_) ih
      simp only [soukref01_trim.l0]
      rw [if_pos (by omega), pv j (by omega), if_pos (by omega), if_pos (by omega), rdOf_at, if_neg (by rw [hb]; decide)]
theorem trim_ok (a : List Bool) (ha : a.length ≤ 1000000) : EvT (fun k => soukref01_trim.f k a) (trimF a) := by
  have := trim_from a ha a.length (Nat.le_refl _)
  rw [List.take_length] at this
  exact this
end Go.Proofs.Ytncnhhnbjmpomaa.Q
namespace Go.Proofs.Ytncnhhnbjmpomaa.Q
open Go.RowKit Go.Proofs.YtncnhhnbjmpomaaW.PrintWords Go.Proofs.YtncnhhnbjmpomaaW.PrintLast Go.Proofs.YtncnhhnbjmpomaaW.PrintMore
set_option linter.unusedVariables false
set_option linter.unusedSimpArgs false
def bitsN : Nat → List Bool
  | 0 => []
  | n + 1 => decide ((n + 1) % 2 = 1) :: bitsN ((n + 1) / 2)
termination_by n => n
theorem bitsN_pos (n : Nat) (h : 0 < n) : bitsN n = decide (n % 2 = 1) :: bitsN (n / 2) := by
  obtain ⟨m, rfl⟩ : ∃ m, n = m + 1 := ⟨n - 1, by omega⟩
  rw [bitsN]
theorem bitsN_val : ∀ n : Nat, val (bitsN n) = n := by
  intro n
  induction n using Nat.strongRecOn with
  | ind n ih =>
  by_cases h : 0 < n
  · rw [bitsN_pos n h]
    simp only [val, ih (n / 2) (by omega)]
    by_cases h2 : n % 2 = 1
    · simp [bv, h2]; omega
    · simp [bv, h2]; omega
  · have : n = 0 := by omega
    subst this; rw [bitsN]; rfl
theorem bitsN_len : ∀ (j n : Nat), n < 2 ^ j → (bitsN n).length ≤ j
  | 0, n, h => by have : n = 0 := by simpa using h
                  subst this; rw [bitsN]; simp
  | j + 1, n, h => by
    by_cases h0 : 0 < n
    · rw [bitsN_pos n h0]
      have := bitsN_len j (n / 2) (by rw [Nat.pow_succ] at h; omega)
      simp; omega
    · have : n = 0 := by omega
      subst this; rw [bitsN]; simp
theorem and1 (n : Nat) (h : n < 18446744073709551616) : Go.bits .and .u64 (n : Int) 1 = ((n % 2 : Nat) : Int) := by
  have := bits_and_u64_nat n 1 h (by decide)
  have e : ((1 : Nat) : Int) = 1 := rfl
  rw [e] at this
  rw [this, Nat.and_one_is_mod]
theorem bits_from : ∀ (j n : Nat) (out : List Bool), n < 2 ^ j → j ≤ 64 → out.length + j ≤ 1000 → EvT (fun k => soukref01_bits.l0 k out (n : Int)) (out ++ bitsN n) := by
  intro j
  induction j with
  | zero =>
    intro n out h _ _
    have : n = 0 := by simpa using h
    subst this
    refine EvT.done (fun k => ?_)
    simp only [soukref01_bits.l0]
    rw [if_neg (by decide), bitsN, List.append_nil]
  | succ j ih =>
    intro n out h hj hl
    by_cases h0 : 0 < n
    · have h64 : n < 18446744073709551616 := Nat.lt_of_lt_of_le h (Nat.pow_le_pow_right (by decide) hj)
      have := ih (n / 2) (out ++ [decide (n % 2 = 1)]) (by rw [Nat.pow_succ] at h; omega) (by omega) (by simp; omega)
      rw [List.append_assoc, List.singleton_append, ← bitsN_pos n h0] at this
      refine EvT.step (fun k => ?_) this
      simp only [soukref01_bits.l0]
      have e1 : ((n : Int) / 2) = ((n / 2 : Nat) : Int) := by omega
      have e2 : (((n % 2 : Nat) : Int) == 1) = decide (n % 2 = 1) := by
        by_cases h2 : n % 2 = 1
        · simp [h2]
        · have : n % 2 = 0 := by omega
          simp [this]
      rw [if_pos (by omega), if_pos (by omega), and1 n h64, e1, e2]
    · have : n = 0 := by omega
      subst this
      refine EvT.done (fun k => ?_)
      simp only [soukref01_bits.l0]
      rw [if_neg (by decide), bitsN, List.append_nil]
theorem bits_ok (a : Int) (ha : inR a) : EvT (fun k => soukref01_bits.f k a) (bitsN a.natAbs) := by
  unfold inR at ha
  have key : ∀ n : Nat, n < 18446744073709551616 → EvT (fun k => soukref01_bits.j0 k [] (n : Int)) (bitsN n) := fun n hn => by
    refine EvT.step (fun k => ?_) (bits_from 64 n [] hn (Nat.le_refl _) (by decide))
    simp only [soukref01_bits.j0]
  by_cases h : a < 0
  · refine EvT.congr (fun k => ?_) (key a.natAbs (by omega))
    unfold soukref01_bits.f
    rw [if_pos h]
    have : IntKind.u64.wrap (-IntKind.u64.wrap a) = (a.natAbs : Int) := by
      rw [IntKind.wrap_u64, IntKind.wrap_u64]; omega
    rw [this]
  · refine EvT.congr (fun k => ?_) (key a.natAbs (by omega))
    unfold soukref01_bits.f
    rw [if_neg h]
    have : IntKind.u64.wrap a = (a.natAbs : Int) := by
      rw [IntKind.wrap_u64]; omega
    rw [this]
theorem bitsN_len64 (a : Int) (ha : inR a) : (bitsN a.natAbs).length ≤ 64 := by
  unfold inR at ha
  exact bitsN_len 64 _ (by omega)
def maj (x y z : Bool) : Bool := (x && y) || (x && z) || (y && z)
theorem add3 (x y z : Bool) : bv x + bv y + bv z = bv ((x != y) != z) + 2 * bv (maj x y z) := by cases x <;> cases y <;> cases z <;> decide
theorem plus_go (a b out : List Bool) (c : Bool) (i : Nat) (hi : i < 1000000) (ho : out.length < 1000000) (hc : i < a.length ∨ i < b.length ∨ c = true) (k : Nat) :
    soukref01_Plus.l0 (k + 2) a b out c (i : Int) = soukref01_Plus.l0 k a b (out ++ [((bat a i) != (bat b i)) != c]) (maj (bat a i) (bat b i) c) ((i + 1 : Nat) : Int) := by
  have hj : soukref01_Plus.j1 (k + 1) a b out c (i : Int) true = soukref01_Plus.l0 k a b (out ++ [((bat a i) != (bat b i)) != c]) (maj (bat a i) (bat b i) c) ((i + 1 : Nat) : Int) := by
    simp only [soukref01_Plus.j1]
    rw [if_pos trivial, at_ok, at_ok]
    simp only [Option.bind_some]
    rw [nx i (by omega)]
    have hl : out.length < 140737488355328 := by omega
    cases bat a i <;> cases bat b i <;> cases c <;> simp [hl, maj]
  show soukref01_Plus.l0 (k + 1 + 1) _ _ _ _ _ = _
  obtain ⟨K, hK⟩ : ∃ K, K = k + 1 := ⟨_, rfl⟩
  rw [← hK] at hj ⊢
  simp only [soukref01_Plus.l0]
  by_cases h1 : i < a.length
  · rw [if_pos (by omega), hj]
  · rw [if_neg (by omega)]
    by_cases h2 : i < b.length
    · rw [if_pos (by omega), hj]
    · rw [if_neg (by omega)]
      have h3 : c = true := by rcases hc with h | h | h; exact absurd h h1; exact absurd h h2; exact h
      subst h3
      exact hj
theorem plus_from (a b : List Bool) (ha : a.length ≤ 100000) (hb : b.length ≤ 100000) : ∀ (d i : Nat) (out : List Bool) (c : Bool), max a.length b.length - i = d → out.length = i → i ≤ max a.length b.length →
    val out + 2 ^ i * bv c = val (a.take i) + val (b.take i) → ∃ r, EvT (fun k => soukref01_Plus.l0 k a b out c (i : Int)) r ∧ val r = val a + val b ∧ r.length ≤ max a.length b.length + 1 := by
  intro d
  induction d with
  | zero =>
    intro i out c hd ho hi hv
    have e : i = max a.length b.length := by omega
    rw [val_take_all a i (by omega), val_take_all b i (by omega)] at hv
    cases c with
    | false =>
      refine ⟨out, EvT.step (g := fun k => soukref01_Plus.j1 k a b out false i false) (fun k => ?_) (EvT.done (fun k => ?_)), by simpa [bv] using hv, by omega⟩
      · simp only [soukref01_Plus.l0]
        rw [if_neg (by omega), if_neg (by omega)]
      · simp only [soukref01_Plus.j1]
        rw [if_neg (by decide)]
    | true =>
      have ha0 : bat a i = false := by unfold bat; rw [List.getD_eq_getElem?_getD, List.getElem?_eq_none (by omega)]; rfl
      have hb0 : bat b i = false := by unfold bat; rw [List.getD_eq_getElem?_getD, List.getElem?_eq_none (by omega)]; rfl
      refine ⟨out ++ [true], EvT.step2 (g := fun k => soukref01_Plus.l0 k a b (out ++ [true]) false ((i + 1 : Nat) : Int)) (fun k => ?_) ?_, ?_, by simp; omega⟩
      · rw [plus_go a b out true i (by omega) (by omega) (.inr (.inr rfl)) k, ha0, hb0]; rfl
      · refine EvT.step (g := fun k => soukref01_Plus.j1 k a b (out ++ [true]) false ((i + 1 : Nat) : Int) false) (fun k => ?_) (EvT.done (fun k => ?_))
        · simp only [soukref01_Plus.l0]
          rw [if_neg (by omega), if_neg (by omega)]
        · simp only [soukref01_Plus.j1]
          rw [if_neg (by decide)]
      · rw [val_snoc, ho]; exact hv
  | succ d ih =>
    intro i out c hd ho hi hv
    have hlt : i < max a.length b.length := by omega
    obtain ⟨r, h1, h2, h3⟩ := ih (i + 1) (out ++ [((bat a i) != (bat b i)) != c]) (maj (bat a i) (bat b i) c) (by omega) (by simp [ho]) (by omega) (by
      have h3 := add3 (bat a i) (bat b i) c
      rw [val_snoc, ho, val_take_succ, val_take_succ, Nat.pow_succ]
      generalize bat a i = x at *
      generalize bat b i = y at *
      generalize 2 ^ i = p at *
      cases x <;> cases y <;> cases c <;> simp [bv, maj] at hv ⊢ <;> omega)
    refine ⟨r, EvT.step2 (fun k => ?_) h1, h2, h3⟩
    exact plus_go a b out c i (by omega) (by omega) (by omega) k
theorem plus_ok (a b : List Bool) (ha : a.length ≤ 100000) (hb : b.length ≤ 100000) : ∃ r, EvT (fun k => soukref01_Plus.f k a b) r ∧ val r = val a + val b ∧ r.length ≤ max a.length b.length + 1 := by
  obtain ⟨r, h1, h2, h3⟩ := plus_from a b ha hb _ 0 [] false rfl rfl (by omega) (by simp [val, bv])
  exact ⟨r, h1, h2, h3⟩
theorem less_from (a b : List Bool) : ∀ j : Nat, j ≤ 100000 → EvT (fun k => soukref01_less.l0 k a b ((j : Int) - 1)) (decide (val (a.take j) < val (b.take j)))
  | 0, _ => by
    refine EvT.done (fun k => ?_)
    simp only [soukref01_less.l0]
    rw [if_neg (by omega)]; simp [val]
  | j + 1, hj => by
    have ih := less_from a b j (by omega)
    have e : ((j + 1 : Nat) : Int) - 1 = (j : Int) := by omega
    rw [e, val_take_succ, val_take_succ]
    have hA := val_lt (a.take j)
    have hB := val_lt (b.take j)
    have hA2 : val (a.take j) < 2 ^ j := Nat.lt_of_lt_of_le hA (Nat.pow_le_pow_right (by decide) (List.length_take_le _ _))
    have hB2 : val (b.take j) < 2 ^ j := Nat.lt_of_lt_of_le hB (Nat.pow_le_pow_right (by decide) (List.length_take_le _ _))
    clear hA hB
    have hgo : ∀ k, soukref01_less.l0 (k + 1) a b (j : Int) = if bat a j = true then (if bat b j = true then soukref01_less.l0 k a b ((j : Int) - 1) else some (bat b j)) else (if bat b j = true then some (bat b j) else soukref01_less.l0 k a b ((j : Int) - 1)) := fun k => by
      simp only [soukref01_less.l0]
      rw [if_pos (by omega), at_ok, at_ok]
      simp only [Option.bind_some]
      rw [pv1 j (by omega)]
    cases hx : bat a j <;> cases hy : bat b j
    · have e2 : decide (val (a.take j) + 2 ^ j * bv false < val (b.take j) + 2 ^ j * bv false) = decide (val (a.take j) < val (b.take j)) := by simp [bv]
      rw [e2]
      exact EvT.step (fun k => by rw [hgo, hx, hy]; rfl) ih
    · have e2 : decide (val (a.take j) + 2 ^ j * bv false < val (b.take j) + 2 ^ j * bv true) = true := by simp [bv]; omega
      rw [e2]
      exact EvT.done (fun k => by rw [hgo, hx, hy]; rfl)
    · have e2 : decide (val (a.take j) + 2 ^ j * bv true < val (b.take j) + 2 ^ j * bv false) = false := by simp [bv]; omega
      rw [e2]
      exact EvT.done (fun k => by rw [hgo, hx, hy]; rfl)
    · have e2 : decide (val (a.take j) + 2 ^ j * bv true < val (b.take j) + 2 ^ j * bv true) = decide (val (a.take j) < val (b.take j)) := by simp [bv]
      rw [e2]
      exact EvT.step (fun k => by rw [hgo, hx, hy]; rfl) ih
theorem less_ok (a b : List Bool) (ha : a.length ≤ 100000) (hb : b.length ≤ 100000) : EvT (fun k => soukref01_less.f k a b) (decide (val a < val b)) := by
  have key : ∀ n, n ≤ 100000 → a.length ≤ n → b.length ≤ n → EvT (fun k => soukref01_less.l0 k a b ((n : Int) - 1)) (decide (val a < val b)) := fun n h h1 h2 => by
    have := less_from a b n h
    rwa [val_take_all a n h1, val_take_all b n h2] at this
  by_cases h : a.length < b.length
  · refine EvT.congr (fun k => ?_) (key b.length hb (by omega) (Nat.le_refl _))
    unfold soukref01_less.f
    rw [if_pos (by omega), pv1 _ (by omega)]
  · refine EvT.congr (fun k => ?_) (key a.length ha (Nat.le_refl _) (by omega))
    unfold soukref01_less.f
    rw [if_neg (by omega), pv1 _ (by omega)]
end Go.Proofs.Ytncnhhnbjmpomaa.Q
