/- What the statement leans on, part 4: functions of the program and of the reference as Lean functions, their contracts, and plain laws. -/
import Derived.Laws.Bits64b
import Derived.Test.YtncnhhnbjmpomaaWWords
import Derived.Test.YtncnhhnbjmpomaaWLast
import Derived.Test.YtncnhhnbjmpomaaWQPut
import Derived.Test.YtncnhhnbjmpomaaWApart
import Derived.Test.YtncnhhnbjmpomaaWArr
import Derived.Test.YtncnhhnbjmpomaaWZeros
import Derived.Test.YtncnhhnbjmpomaaWFoot
import Derived.Test.YtncnhhnbjmpomaaWKept
import Derived.Test.YtncnhhnbjmpomaaWShare
import Derived.Test.YtncnhhnbjmpomaaWN
import Derived.Test.YtncnhhnbjmpomaaWRepsOne
import Derived.Test.YtncnhhnbjmpomaaWGuard
import Derived.Test.YtncnhhnbjmpomaaWNEv
import Derived.Test.YtncnhhnbjmpomaaWMore
import Derived.Test.YtncnhhnbjmpomaaMD3
/-! Q4 -/
-- Written by wip/myprint.py over the kit's print: functions and contracts of the program's functions.
namespace Go.Proofs.Ytncnhhnbjmpomaa.Q
open Go.RowKit Go.Proofs.YtncnhhnbjmpomaaW.PrintWords Go.Proofs.YtncnhhnbjmpomaaW.PrintLast Go.Proofs.YtncnhhnbjmpomaaW.PrintMore
attribute [local go_sem] max2_int min2_int max_two min_two max_three min_three max_four min_four   -- for this text's walks alone
set_option linter.unusedVariables false
set_option linter.unusedSimpArgs false

/-! ### souklaw01_MoneyDivides: function 4 -/
mutual
def souklaw01_MoneyDivides.j0 : Nat → Int → Int → Int → Bool → Option (Bool)
  | 0, _, _, _, _ => none
  | k + 1, x0, x1, x2, x38 => if x38 = true then (some false) else (souklaw01_MoneyDivides.l0 k x0 x1 x2 ([] : List Int) 0)
def souklaw01_MoneyDivides.l0 : Nat → Int → Int → Int → List Int → Int → Option (Bool)
  | 0, _, _, _, _, _ => none
  | k + 1, x0, x1, x2, x11, x12 => if x12 ≤ 2 then ((money_MulDiv.f k x0 x1 x2 x12).bind fun bt394 => (if x2 ≤ 0 then (if bt394.1 = 0 then (if bt394.2 = 1 then (souklaw01_MoneyDivides.l0 k x0 x1 x2 x11 (wrap64 (x12 + 1))) else (some false)) else (some false)) else ((soukref01_MulDiv.f k x0 x1 x2 x12).bind fun bt396 => ((souklaw01_is.f bt394.1 bt394.2 bt396.1 bt396.2).bind fun t398 => (if t398 = true then (if bt396.2 = true then (if x11.length < 17592186044416 then (souklaw01_MoneyDivides.l0 k x0 x1 x2 (x11 ++ [bt394.1]) (wrap64 (x12 + 1))) else (none)) else (souklaw01_MoneyDivides.l0 k x0 x1 x2 x11 (wrap64 (x12 + 1)))) else (some false)))))) else (if (x11.length : Int) < 3 then (some true) else (if 0 < (x11.length : Int) then (if 1 < (x11.length : Int) then (if (rd x11 0) = (rd x11 1) then (if 2 < (x11.length : Int) then (if (rd x11 2) = (rd x11 0) then (some true) else (some ((rd x11 2) == (rd x11 1)))) else (none)) else (if (wrap64 ((rd x11 0) + 1)) = (rd x11 1) then (if 2 < (x11.length : Int) then (if (rd x11 2) = (rd x11 0) then (some true) else (some ((rd x11 2) == (rd x11 1)))) else (none)) else (some false))) else (none)) else (none)))
end
def souklaw01_MoneyDivides.f (k : Nat) (a0 : Int) (a1 : Int) (a2 : Int) : Option (Bool) := (souklaw01_lives.f k).bind fun t377 => (if t377 = true then ((money_MulDiv.f k a0 a1 a2 3).bind fun bt378 => ((money_MulDiv.f k a0 a1 a2 (-1)).bind fun bt380 => (if bt378.2 = 1 then (souklaw01_MoneyDivides.j0 k a0 a1 a2 (bt380.2 != 1)) else (souklaw01_MoneyDivides.j0 k a0 a1 a2 true)))) else (some false))
theorem souklaw01_MoneyDivides.mono_l : ∀ k, (∀ y0 y1 y2 y3, LeO (souklaw01_MoneyDivides.j0 k y0 y1 y2 y3) (souklaw01_MoneyDivides.j0 (k + 1) y0 y1 y2 y3)) ∧ (∀ y0 y1 y2 y3 y4, LeO (souklaw01_MoneyDivides.l0 k y0 y1 y2 y3 y4) (souklaw01_MoneyDivides.l0 (k + 1) y0 y1 y2 y3 y4))
  | 0 => ⟨fun _ _ _ _ r h => by simp [souklaw01_MoneyDivides.j0] at h, fun _ _ _ _ _ r h => by simp [souklaw01_MoneyDivides.l0] at h⟩
  | k + 1 => by
    obtain ⟨ih0, ih1⟩ := souklaw01_MoneyDivides.mono_l k
    refine ⟨?_, ?_⟩
    · intro y0 y1 y2 y3
      unfold souklaw01_MoneyDivides.j0
      repeat' first
      | (with_reducible exact ih0 _ _ _ _)
      | (with_reducible exact ih1 _ _ _ _ _)
      | (with_reducible exact money_MulDiv.mono _ _ _ _ _)
      | (with_reducible exact souklaw01_lives.mono _)
      | (with_reducible exact soukref01_MulDiv.mono _ _ _ _ _)
      | (with_reducible exact LeO.refl _)
      | (with_reducible exact LeO.none _)
      | (with_reducible refine LeO.ite ?_ ?_)
      | (with_reducible refine LeO.bind ?_ (fun _ => ?_))
      | exact ih0 _ _ _ _
      | exact ih1 _ _ _ _ _
      | exact money_MulDiv.mono _ _ _ _ _
      | exact souklaw01_lives.mono _
      | exact soukref01_MulDiv.mono _ _ _ _ _
      | exact LeO.none _
      | refine LeO.ite ?_ ?_
      | refine LeO.bind ?_ (fun _ => ?_)
    · intro y0 y1 y2 y3 y4
      unfold souklaw01_MoneyDivides.l0
      repeat' first
      | (with_reducible exact ih0 _ _ _ _)
      | (with_reducible exact ih1 _ _ _ _ _)
      | (with_reducible exact money_MulDiv.mono _ _ _ _ _)
      | (with_reducible exact souklaw01_lives.mono _)
      | (with_reducible exact soukref01_MulDiv.mono _ _ _ _ _)
      | (with_reducible exact LeO.refl _)
      | (with_reducible exact LeO.none _)
      | (with_reducible refine LeO.ite ?_ ?_)
      | (with_reducible refine LeO.bind ?_ (fun _ => ?_))
      | exact ih0 _ _ _ _
      | exact ih1 _ _ _ _ _
      | exact money_MulDiv.mono _ _ _ _ _
      | exact souklaw01_lives.mono _
      | exact soukref01_MulDiv.mono _ _ _ _ _
      | exact LeO.none _
      | refine LeO.ite ?_ ?_
      | refine LeO.bind ?_ (fun _ => ?_)
theorem souklaw01_MoneyDivides.mono : ∀ a0 a1 a2 k, LeO (souklaw01_MoneyDivides.f k a0 a1 a2) (souklaw01_MoneyDivides.f (k + 1) a0 a1 a2) := by
  intro a0 a1 a2 k
  obtain ⟨ih0, ih1⟩ := souklaw01_MoneyDivides.mono_l k
  unfold souklaw01_MoneyDivides.f
  repeat' first
      | (with_reducible exact ih0 _ _ _ _)
      | (with_reducible exact ih1 _ _ _ _ _)
      | (with_reducible exact money_MulDiv.mono _ _ _ _ _)
      | (with_reducible exact souklaw01_lives.mono _)
      | (with_reducible exact soukref01_MulDiv.mono _ _ _ _ _)
      | (with_reducible exact LeO.refl _)
      | (with_reducible exact LeO.none _)
      | (with_reducible refine LeO.ite ?_ ?_)
      | (with_reducible refine LeO.bind ?_ (fun _ => ?_))
      | exact ih0 _ _ _ _
      | exact ih1 _ _ _ _ _
      | exact money_MulDiv.mono _ _ _ _ _
      | exact souklaw01_lives.mono _
      | exact soukref01_MulDiv.mono _ _ _ _ _
      | exact LeO.none _
      | refine LeO.ite ?_ ?_
      | refine LeO.bind ?_ (fun _ => ?_)
set_option maxHeartbeats 8000000 in
set_option maxRecDepth 100000 in
theorem souklaw01_MoneyDivides.calls (k : Nat) (a0 : Int) (a1 : Int) (a2 : Int) (r : Bool) (w : World) (h : souklaw01_MoneyDivides.f k a0 a1 a2 = some r) :
    Calls Try.prog 4 #[.int .i64 a0, .int .i64 a1, .int .i64 a2] w fun e w' => e = .returned (.bool r) ∧ Below w.heap.size w w' := by
  have HB := Aside0.mk (Below.refl w.heap.size w)
  have H : ((souklaw01_lives.f k).bind fun t377 => (if t377 = true then ((money_MulDiv.f k a0 a1 a2 3).bind fun bt378 => ((money_MulDiv.f k a0 a1 a2 (-1)).bind fun bt380 => (if bt378.2 = 1 then (souklaw01_MoneyDivides.j0 k a0 a1 a2 (bt380.2 != 1)) else (souklaw01_MoneyDivides.j0 k a0 a1 a2 true)))) else (some false))) = some r := h
  clear h
  replace H := Option.bind_eq_some_iff.mp H
  obtain ⟨t377, A40, H⟩ := H
  replace H : (if t377 = true then ((money_MulDiv.f k a0 a1 a2 3).bind fun bt378 => ((money_MulDiv.f k a0 a1 a2 (-1)).bind fun bt380 => (if bt378.2 = 1 then (souklaw01_MoneyDivides.j0 k a0 a1 a2 (bt380.2 != 1)) else (souklaw01_MoneyDivides.j0 k a0 a1 a2 true)))) else (some false)) = some r := H
  have A4 := Aside0.mk A40
  clear A40
  by_cases c5 : t377 = true
  · subst c5
    have H1 : ((money_MulDiv.f k a0 a1 a2 3).bind fun bt378 => ((money_MulDiv.f k a0 a1 a2 (-1)).bind fun bt380 => (if bt378.2 = 1 then (souklaw01_MoneyDivides.j0 k a0 a1 a2 (bt380.2 != 1)) else (souklaw01_MoneyDivides.j0 k a0 a1 a2 true)))) = some r := by rw [if_pos rfl] at H; exact H
    clear H
    have H := H1
    clear H1
    replace H := Option.bind_eq_some_iff.mp H
    obtain ⟨⟨t378, t379⟩, A60, H⟩ := H
    replace H : ((money_MulDiv.f k a0 a1 a2 (-1)).bind fun bt380 => (if t379 = 1 then (souklaw01_MoneyDivides.j0 k a0 a1 a2 (bt380.2 != 1)) else (souklaw01_MoneyDivides.j0 k a0 a1 a2 true))) = some r := H
    have A6 := Aside0.mk A60
    clear A60
    replace H := Option.bind_eq_some_iff.mp H
    obtain ⟨⟨t380, t381⟩, A70, H⟩ := H
    replace H : (if t379 = 1 then (souklaw01_MoneyDivides.j0 k a0 a1 a2 (t381 != 1)) else (souklaw01_MoneyDivides.j0 k a0 a1 a2 true)) = some r := H
    have A7 := Aside0.mk A70
    clear A70
    have HC8 := Aside0.mk H
    clear H
    go_enter Try.func4, Try.ntmps4
    go_upto_region 5 with (first | (go_at_call 12; (with_reducible refine (souklaw01_lives.calls k  true _ A4.out).mono ?_); rintro e w9 ⟨rfl, hb⟩; have n0_ := Aside0.mk (below_step (by repeat (first | (with_reducible first | exact HB.out | apply below_alloc | apply pw_below_drewN | apply below_drew1) | exact HB.out)) hb); clear HB; have HB := n0_; clear n0_; (try clear hb); (try clear hb2); (try clear hk); (try clear hi)) | (go_at_call 18; (with_reducible refine (money_MulDiv.calls k a0 a1 a2 3 t378 t379 _ A6.out).mono ?_); rintro e w' ⟨rfl, ⟨nd, rfl⟩⟩; (try first | exact ⟨rfl, _, World.drewN_drewN _ _ _⟩ | exact ⟨rfl, _, Eq.trans (World.drewN_drewN _ _ _) (congrArg (World.drewN _) (Nat.add_assoc _ _ _))⟩)) | (go_at_call 18; (with_reducible refine (money_MulDiv.calls k a0 a1 a2 (-1) t380 t381 _ A7.out).mono ?_); rintro e w' ⟨rfl, ⟨nd, rfl⟩⟩; (try first | exact ⟨rfl, _, World.drewN_drewN _ _ _⟩ | exact ⟨rfl, _, Eq.trans (World.drewN_drewN _ _ _) (congrArg (World.drewN _) (Nat.add_assoc _ _ _))⟩)))
    repeat (go_quiet (first | (go_at_call 12; (with_reducible refine (souklaw01_lives.calls k  true _ A4.out).mono ?_); rintro e w9 ⟨rfl, hb⟩; have n0_ := Aside0.mk (below_step (by repeat (first | (with_reducible first | exact HB.out | apply below_alloc | apply pw_below_drewN | apply below_drew1) | exact HB.out)) hb); clear HB; have HB := n0_; clear n0_; (try clear hb); (try clear hb2); (try clear hk); (try clear hi)) | (go_at_call 18; (with_reducible refine (money_MulDiv.calls k a0 a1 a2 3 t378 t379 _ A6.out).mono ?_); rintro e w' ⟨rfl, ⟨nd, rfl⟩⟩; (try first | exact ⟨rfl, _, World.drewN_drewN _ _ _⟩ | exact ⟨rfl, _, Eq.trans (World.drewN_drewN _ _ _) (congrArg (World.drewN _) (Nat.add_assoc _ _ _))⟩)) | (go_at_call 18; (with_reducible refine (money_MulDiv.calls k a0 a1 a2 (-1) t380 t381 _ A7.out).mono ?_); rintro e w' ⟨rfl, ⟨nd, rfl⟩⟩; (try first | exact ⟨rfl, _, World.drewN_drewN _ _ _⟩ | exact ⟨rfl, _, Eq.trans (World.drewN_drewN _ _ _) (congrArg (World.drewN _) (Nat.add_assoc _ _ _))⟩))); go_upto_region 5 with (first | (go_at_call 12; (with_reducible refine (souklaw01_lives.calls k  true _ A4.out).mono ?_); rintro e w9 ⟨rfl, hb⟩; have n0_ := Aside0.mk (below_step (by repeat (first | (with_reducible first | exact HB.out | apply below_alloc | apply pw_below_drewN | apply below_drew1) | exact HB.out)) hb); clear HB; have HB := n0_; clear n0_; (try clear hb); (try clear hb2); (try clear hk); (try clear hi)) | (go_at_call 18; (with_reducible refine (money_MulDiv.calls k a0 a1 a2 3 t378 t379 _ A6.out).mono ?_); rintro e w' ⟨rfl, ⟨nd, rfl⟩⟩; (try first | exact ⟨rfl, _, World.drewN_drewN _ _ _⟩ | exact ⟨rfl, _, Eq.trans (World.drewN_drewN _ _ _) (congrArg (World.drewN _) (Nat.add_assoc _ _ _))⟩)) | (go_at_call 18; (with_reducible refine (money_MulDiv.calls k a0 a1 a2 (-1) t380 t381 _ A7.out).mono ?_); rintro e w' ⟨rfl, ⟨nd, rfl⟩⟩; (try first | exact ⟨rfl, _, World.drewN_drewN _ _ _⟩ | exact ⟨rfl, _, Eq.trans (World.drewN_drewN _ _ _) (congrArg (World.drewN _) (Nat.add_assoc _ _ _))⟩))))
    (try simp only [Act.put, List.setIfInBounds_toArray, List.set_cons_zero, List.set_cons_succ])
    go_cut [38] (fun v38 wc => ∃ (kq : Nat) (x38_7 : Bool), v38 = .bool x38_7 ∧ Aside0 (souklaw01_MoneyDivides.j0 kq a0 a1 a2 x38_7 = some r) ∧ Aside0 (kq ≤ k) ∧ Aside0 (Below w.heap.size w wc))
    case first =>
      have H := HC8.out
      clear HC8
      by_cases c10 : t379 = 1
      · rw [if_pos c10] at H
        have c10b0 : (t379 == 1) = true := beq_iff_eq.mpr c10
        have c10b1 : (t379 != 1) = false := bne_eq_false_iff_eq.mpr c10
        clear c10
        (first | rw [c10b0] | (simp only [i64_w, i32_w]; rw [c10b0]) | skip)
        have H' := Aside0.mk H
        clear H
        go_wp2
        repeat (go_quiet (fail); try go_wp2)
        go_meet
        case rel => exact ⟨_, ((t381 != 1)), (by first | rfl | (simp; done) | (simp [*]; done)), H', ⟨by first | omega | exact Nat.le_refl _⟩, ⟨by repeat (first | (with_reducible first | exact HB.out | apply below_alloc | apply pw_below_drewN | apply below_drew1) | exact HB.out)⟩⟩
      · rw [if_neg c10] at H
        have c10b0 : (t379 == 1) = false := beq_eq_false_iff_ne.mpr c10
        have c10b1 : (t379 != 1) = true := bne_iff_ne.mpr c10
        (first | rw [c10b0] | (simp only [i64_w, i32_w]; rw [c10b0]) | skip)
        have H' := Aside0.mk H
        clear H
        go_wp2
        repeat (go_quiet (fail); try go_wp2)
        go_meet
        case rel => exact ⟨_, (true), (by first | rfl | (simp; done) | (simp [*]; done)), H', ⟨by first | omega | exact Nat.le_refl _⟩, ⟨by repeat (first | (with_reducible first | exact HB.out | apply below_alloc | apply pw_below_drewN | apply below_drew1) | exact HB.out)⟩⟩
    case rest =>
      clear HC8
      try clear c1
      try clear p2
      try clear c4
      try clear c5
      try clear c10
      try clear c10b0
      try clear c10b1
      obtain ⟨kq, x38_7, rfl, HA, HJ7, HB⟩ := hcut
      cases kq with
      | zero => exact absurd HA.out (by simp [souklaw01_MoneyDivides.j0])
      | succ kj7 =>
        have H := HA.out
        clear HA
        simp only [souklaw01_MoneyDivides.j0] at H
        by_cases c11 : x38_7 = true
        · subst c11
          have H1 : (some false) = some r := by rw [if_pos rfl] at H; exact H
          clear H
          have H := H1
          clear H1
          obtain rfl := Option.some.inj H
          go_wp2
          repeat (go_quiet (fail); try go_wp2)
          go_ret
          exact ⟨by first | rfl | (simp [errW_none, errW_some] <;> rfl) | (simp [*, errW_none, errW_some] <;> rfl), by repeat (first | (with_reducible first | exact HB.out | apply below_alloc | apply pw_below_drewN | apply below_drew1) | exact HB.out)⟩
        · replace c11 := Bool.eq_false_iff.mpr c11
          subst c11
          have H1 : (souklaw01_MoneyDivides.l0 kj7 a0 a1 a2 ([] : List Int) 0) = some r := by rw [if_neg (show ¬ (false = true) by decide)] at H; exact H
          clear H
          have H := H1
          clear H1
          have H' := Aside0.mk H
          clear H
          go_wp2
          repeat (go_quiet (fail); try go_wp2)
          go_loopg [11, 12] kj7 (fun kq v11 v12 w' => ∃ (x11_2 : List Int) (x12_2 : Int), v12 = .int .i64 x12_2 ∧ Aside0 (souklaw01_MoneyDivides.l0 kq a0 a1 a2 x11_2 x12_2 = some r) ∧ Aside0 (kq ≤ kj7) ∧ Aside0 (Kd.R (Kd.int .i64) 2 w' w.heap.size (fun _ => True) v11 x11_2) ∧ Aside0 (Below w.heap.size w w'))
          case atStart => exact ⟨(([] : List Int)), (0), (by first | rfl | (simp; done) | (simp [*]; done)), H', ⟨Nat.le_refl _⟩, ⟨by first | exact Kd.R_nil _ _ _ _ _ | exact Kd.N_nil _ _ _ _ _ | exact Kd.V_nil _ _ _ _ _ | exact Kd.Q_nil _ _ _ _ _ | exact Kd.S_nil _ _ _ _ _⟩, ⟨by repeat (first | (with_reducible first | exact HB.out | apply below_alloc | apply pw_below_drewN | apply below_drew1) | exact HB.out)⟩⟩
          case round =>
            clear H'
            try clear c1
            try clear p2
            try clear c4
            try clear c5
            try clear c10
            try clear c10b0
            try clear c10b1
            try clear c11
            try clear p2
            obtain ⟨x11_2, x12_2, rfl, HA, HK2, HO_11, HB⟩ := hrel
            cases gk with
            | zero => exact absurd HA.out (by simp [souklaw01_MoneyDivides.l0])
            | succ k2 =>
              have H := HA.out
              clear HA
              simp only [souklaw01_MoneyDivides.l0] at H
              by_cases c12 : x12_2 ≤ 2
              · rw [if_pos c12] at H
                have c12b0 : decide (x12_2 ≤ 2) = true := decide_eq_true c12
                clear c12
                replace H := Option.bind_eq_some_iff.mp H
                obtain ⟨⟨t394, t395⟩, A130, H⟩ := H
                replace H : (if a2 ≤ 0 then (if t394 = 0 then (if t395 = 1 then (souklaw01_MoneyDivides.l0 k2 a0 a1 a2 x11_2 (wrap64 (x12_2 + 1))) else (some false)) else (some false)) else ((soukref01_MulDiv.f k2 a0 a1 a2 x12_2).bind fun bt396 => ((souklaw01_is.f t394 t395 bt396.1 bt396.2).bind fun t398 => (if t398 = true then (if bt396.2 = true then (if x11_2.length < 17592186044416 then (souklaw01_MoneyDivides.l0 k2 a0 a1 a2 (x11_2 ++ [t394]) (wrap64 (x12_2 + 1))) else (none)) else (souklaw01_MoneyDivides.l0 k2 a0 a1 a2 x11_2 (wrap64 (x12_2 + 1)))) else (some false))))) = some r := H
                have A13 := Aside0.mk A130
                clear A130
                by_cases c14 : a2 ≤ 0
                · rw [if_pos c14] at H
                  have c14b0 : decide (a2 ≤ 0) = true := decide_eq_true c14
                  clear c14
                  by_cases c15 : t394 = 0
                  · rw [if_pos c15] at H
                    have c15b0 : (t394 == 0) = true := beq_iff_eq.mpr c15
                    have c15b1 : (t394 != 0) = false := bne_eq_false_iff_eq.mpr c15
                    clear c15
                    by_cases c16 : t395 = 1
                    · rw [if_pos c16] at H
                      have c16b0 : (t395 == 1) = true := beq_iff_eq.mpr c16
                      have c16b1 : (t395 != 1) = false := bne_eq_false_iff_eq.mpr c16
                      clear c16
                      have H' := Aside0.mk H
                      clear H
                      go_wp2_with (first | (go_at_call 18; (with_reducible refine (money_MulDiv.calls k2 a0 a1 a2 x12_2 t394 t395 _ A13.out).mono ?_); rintro e w' ⟨rfl, ⟨nd, rfl⟩⟩; (try first | exact ⟨rfl, _, World.drewN_drewN _ _ _⟩ | exact ⟨rfl, _, Eq.trans (World.drewN_drewN _ _ _) (congrArg (World.drewN _) (Nat.add_assoc _ _ _))⟩)))
                      repeat (go_quiet (first | (go_at_call 18; (with_reducible refine (money_MulDiv.calls k2 a0 a1 a2 x12_2 t394 t395 _ A13.out).mono ?_); rintro e w' ⟨rfl, ⟨nd, rfl⟩⟩; (try first | exact ⟨rfl, _, World.drewN_drewN _ _ _⟩ | exact ⟨rfl, _, Eq.trans (World.drewN_drewN _ _ _) (congrArg (World.drewN _) (Nat.add_assoc _ _ _))⟩))); try go_wp2_with (first | (go_at_call 18; (with_reducible refine (money_MulDiv.calls k2 a0 a1 a2 x12_2 t394 t395 _ A13.out).mono ?_); rintro e w' ⟨rfl, ⟨nd, rfl⟩⟩; (try first | exact ⟨rfl, _, World.drewN_drewN _ _ _⟩ | exact ⟨rfl, _, Eq.trans (World.drewN_drewN _ _ _) (congrArg (World.drewN _) (Nat.add_assoc _ _ _))⟩))))
                      go_roundg k2
                      case measure => have := HJ7.out; have := HK2.out; omega
                      case rel => exact ⟨(x11_2), (wrap64 (x12_2 + 1)), (by first | rfl | (simp; done) | (simp [*]; done)), H', ⟨by have := HJ7.out; have := HK2.out; omega⟩, ⟨by (with_reducible repeat (first | apply Kd.R_alloc | apply Kd.R_drewN | apply Kd.R_drew)); exact HO_11.out⟩, ⟨by repeat (first | (with_reducible first | exact HB.out | apply below_alloc | apply pw_below_drewN | apply below_drew1) | exact HB.out)⟩⟩
                    · rw [if_neg c16] at H
                      have c16b0 : (t395 == 1) = false := beq_eq_false_iff_ne.mpr c16
                      have c16b1 : (t395 != 1) = true := bne_iff_ne.mpr c16
                      obtain rfl := Option.some.inj H
                      go_wp2_with (first | (go_at_call 18; (with_reducible refine (money_MulDiv.calls k2 a0 a1 a2 x12_2 t394 t395 _ A13.out).mono ?_); rintro e w' ⟨rfl, ⟨nd, rfl⟩⟩; (try first | exact ⟨rfl, _, World.drewN_drewN _ _ _⟩ | exact ⟨rfl, _, Eq.trans (World.drewN_drewN _ _ _) (congrArg (World.drewN _) (Nat.add_assoc _ _ _))⟩)))
                      repeat (go_quiet (first | (go_at_call 18; (with_reducible refine (money_MulDiv.calls k2 a0 a1 a2 x12_2 t394 t395 _ A13.out).mono ?_); rintro e w' ⟨rfl, ⟨nd, rfl⟩⟩; (try first | exact ⟨rfl, _, World.drewN_drewN _ _ _⟩ | exact ⟨rfl, _, Eq.trans (World.drewN_drewN _ _ _) (congrArg (World.drewN _) (Nat.add_assoc _ _ _))⟩))); try go_wp2_with (first | (go_at_call 18; (with_reducible refine (money_MulDiv.calls k2 a0 a1 a2 x12_2 t394 t395 _ A13.out).mono ?_); rintro e w' ⟨rfl, ⟨nd, rfl⟩⟩; (try first | exact ⟨rfl, _, World.drewN_drewN _ _ _⟩ | exact ⟨rfl, _, Eq.trans (World.drewN_drewN _ _ _) (congrArg (World.drewN _) (Nat.add_assoc _ _ _))⟩))))
                      go_ret
                      exact ⟨by first | rfl | (simp [errW_none, errW_some] <;> rfl) | (simp [*, errW_none, errW_some] <;> rfl), by repeat (first | (with_reducible first | exact HB.out | apply below_alloc | apply pw_below_drewN | apply below_drew1) | exact HB.out)⟩
                  · rw [if_neg c15] at H
                    have c15b0 : (t394 == 0) = false := beq_eq_false_iff_ne.mpr c15
                    have c15b1 : (t394 != 0) = true := bne_iff_ne.mpr c15
                    obtain rfl := Option.some.inj H
                    go_wp2_with (first | (go_at_call 18; (with_reducible refine (money_MulDiv.calls k2 a0 a1 a2 x12_2 t394 t395 _ A13.out).mono ?_); rintro e w' ⟨rfl, ⟨nd, rfl⟩⟩; (try first | exact ⟨rfl, _, World.drewN_drewN _ _ _⟩ | exact ⟨rfl, _, Eq.trans (World.drewN_drewN _ _ _) (congrArg (World.drewN _) (Nat.add_assoc _ _ _))⟩)))
                    repeat (go_quiet (first | (go_at_call 18; (with_reducible refine (money_MulDiv.calls k2 a0 a1 a2 x12_2 t394 t395 _ A13.out).mono ?_); rintro e w' ⟨rfl, ⟨nd, rfl⟩⟩; (try first | exact ⟨rfl, _, World.drewN_drewN _ _ _⟩ | exact ⟨rfl, _, Eq.trans (World.drewN_drewN _ _ _) (congrArg (World.drewN _) (Nat.add_assoc _ _ _))⟩))); try go_wp2_with (first | (go_at_call 18; (with_reducible refine (money_MulDiv.calls k2 a0 a1 a2 x12_2 t394 t395 _ A13.out).mono ?_); rintro e w' ⟨rfl, ⟨nd, rfl⟩⟩; (try first | exact ⟨rfl, _, World.drewN_drewN _ _ _⟩ | exact ⟨rfl, _, Eq.trans (World.drewN_drewN _ _ _) (congrArg (World.drewN _) (Nat.add_assoc _ _ _))⟩))))
                    go_ret
                    exact ⟨by first | rfl | (simp [errW_none, errW_some] <;> rfl) | (simp [*, errW_none, errW_some] <;> rfl), by repeat (first | (with_reducible first | exact HB.out | apply below_alloc | apply pw_below_drewN | apply below_drew1) | exact HB.out)⟩
                · rw [if_neg c14] at H
                  have c14b0 : decide (a2 ≤ 0) = false := decide_eq_false c14
                  clear c14
                  replace H := Option.bind_eq_some_iff.mp H
                  obtain ⟨⟨t396, t397⟩, A170, H⟩ := H
                  replace H : ((souklaw01_is.f t394 t395 t396 t397).bind fun t398 => (if t398 = true then (if t397 = true then (if x11_2.length < 17592186044416 then (souklaw01_MoneyDivides.l0 k2 a0 a1 a2 (x11_2 ++ [t394]) (wrap64 (x12_2 + 1))) else (none)) else (souklaw01_MoneyDivides.l0 k2 a0 a1 a2 x11_2 (wrap64 (x12_2 + 1)))) else (some false))) = some r := H
                  have A17 := Aside0.mk A170
                  clear A170
                  replace H := Option.bind_eq_some_iff.mp H
                  obtain ⟨t398, A180, H⟩ := H
                  replace H : (if t398 = true then (if t397 = true then (if x11_2.length < 17592186044416 then (souklaw01_MoneyDivides.l0 k2 a0 a1 a2 (x11_2 ++ [t394]) (wrap64 (x12_2 + 1))) else (none)) else (souklaw01_MoneyDivides.l0 k2 a0 a1 a2 x11_2 (wrap64 (x12_2 + 1)))) else (some false)) = some r := H
                  have A18 := Aside0.mk A180
                  clear A180
                  by_cases c19 : t398 = true
                  · subst c19
                    have H1 : (if t397 = true then (if x11_2.length < 17592186044416 then (souklaw01_MoneyDivides.l0 k2 a0 a1 a2 (x11_2 ++ [t394]) (wrap64 (x12_2 + 1))) else (none)) else (souklaw01_MoneyDivides.l0 k2 a0 a1 a2 x11_2 (wrap64 (x12_2 + 1)))) = some r := by rw [if_pos rfl] at H; exact H
                    clear H
                    have H := H1
                    clear H1
                    by_cases c20 : t397 = true
                    · subst c20
                      have H1 : (if x11_2.length < 17592186044416 then (souklaw01_MoneyDivides.l0 k2 a0 a1 a2 (x11_2 ++ [t394]) (wrap64 (x12_2 + 1))) else (none)) = some r := by rw [if_pos rfl] at H; exact H
                      clear H
                      have H := H1
                      clear H1
                      by_cases c21 : x11_2.length < 17592186044416
                      · rw [if_pos c21] at H
                        have LMc21 := Aside0.mk c21
                        clear c21
                        obtain ⟨y399, hy399⟩ : ∃ y_ : List Int, y_ = (x11_2 ++ [t394]) := ⟨_, rfl⟩
                        replace H : (souklaw01_MoneyDivides.l0 k2 a0 a1 a2 y399 (wrap64 (x12_2 + 1))) = some r := by first | (rw [hy399]; with_reducible exact H) | (have H2_ := (Option.bind_some _ _).symm.trans H; rw [hy399]; with_reducible exact H2_) | (have H2_ := (Option.bind_some _ _).symm.trans H; with_reducible exact H2_) | with_reducible exact H | (rw [hy399]; exact H) | exact H
                        have Ny399 := Aside0.mk hy399
                        clear hy399
                        have H' := Aside0.mk H
                        clear H
                        go_wp2_with (first | (go_at_call 18; (with_reducible refine (money_MulDiv.calls k2 a0 a1 a2 x12_2 t394 t395 _ A13.out).mono ?_); rintro e w' ⟨rfl, ⟨nd, rfl⟩⟩; (try first | exact ⟨rfl, _, World.drewN_drewN _ _ _⟩ | exact ⟨rfl, _, Eq.trans (World.drewN_drewN _ _ _) (congrArg (World.drewN _) (Nat.add_assoc _ _ _))⟩)) | (go_at_call 19; (with_reducible refine (soukref01_MulDiv.calls k2 a0 a1 a2 x12_2 t396 true _ A17.out).mono ?_); rintro e w22 ⟨rfl, hb⟩; have n0_ := Aside0.mk (Kd.R_below (by (with_reducible repeat (first | apply Kd.R_alloc | apply Kd.R_drewN | apply Kd.R_drew)); exact HO_11.out) hb); have n1_ := Aside0.mk (below_step (by repeat (first | (with_reducible first | exact HB.out | apply below_alloc | apply pw_below_drewN | apply below_drew1) | exact HB.out)) hb); clear HO_11; clear HB; have HO_11 := n0_; have HB := n1_; clear n0_ n1_; (try clear hb); (try clear hb2); (try clear hk); (try clear hi)) | (go_at_call 15; (with_reducible refine (souklaw01_is.calls t394 t395 t396 true true _ A18.out).mono ?_); rintro e w' ⟨rfl, ⟨nd, rfl⟩⟩; (try first | exact ⟨rfl, _, World.drewN_drewN _ _ _⟩ | exact ⟨rfl, _, Eq.trans (World.drewN_drewN _ _ _) (congrArg (World.drewN _) (Nat.add_assoc _ _ _))⟩)) | ((with_reducible refine gate_builtin (b := .append) (xs := #[.tmp 74, .tmp 76]) rfl ?_); at_builtin; refine Kd.R_append (Kd.int .i64) (w0 := w) w.heap.size rfl (.tmp 74) (.tmp 76) 22 2 (.int .i64 0) 8 rfl Try.underlying22 info2 rfl (by decide) (by omega) u11 x11_2 t394 [.int .i64 t394] (fun _ => True) (fun _ => False) rfl rfl ?aP (fun _ hk => hk.elim) ?aF ?aO ?aB ?aS ?aL ?_; (case aP => exact rfl); (case aB => exact (by repeat (first | (with_reducible first | exact HB.out | apply below_alloc | apply pw_below_drewN | apply below_drew1) | exact HB.out))); (case aF => exact (fun _ _ => trivial)); (case aO => exact (by (with_reducible repeat (first | apply Kd.R_alloc | apply Kd.R_drewN | apply Kd.R_drew)); exact HO_11.out)); (case aS => exact (below_size (by repeat (first | (with_reducible first | exact HB.out | apply below_alloc | apply pw_below_drewN | apply below_drew1) | exact HB.out)))); (case aL => have := LMc21.out; omega); intro v400 w23 ho hb hg hat; rw [← Ny399.out] at ho; have n0_ := Aside0.mk (hb); have n1_ := Aside0.mk (ho); clear HB; clear HO_11; have HB := n0_; have HO401 := n1_; clear n0_ n1_; clear ho hb hg hat))
                        repeat (go_quiet (first | (go_at_call 18; (with_reducible refine (money_MulDiv.calls k2 a0 a1 a2 x12_2 t394 t395 _ A13.out).mono ?_); rintro e w' ⟨rfl, ⟨nd, rfl⟩⟩; (try first | exact ⟨rfl, _, World.drewN_drewN _ _ _⟩ | exact ⟨rfl, _, Eq.trans (World.drewN_drewN _ _ _) (congrArg (World.drewN _) (Nat.add_assoc _ _ _))⟩)) | (go_at_call 19; (with_reducible refine (soukref01_MulDiv.calls k2 a0 a1 a2 x12_2 t396 true _ A17.out).mono ?_); rintro e w22 ⟨rfl, hb⟩; have n0_ := Aside0.mk (Kd.R_below (by (with_reducible repeat (first | apply Kd.R_alloc | apply Kd.R_drewN | apply Kd.R_drew)); exact HO_11.out) hb); have n1_ := Aside0.mk (below_step (by repeat (first | (with_reducible first | exact HB.out | apply below_alloc | apply pw_below_drewN | apply below_drew1) | exact HB.out)) hb); clear HO_11; clear HB; have HO_11 := n0_; have HB := n1_; clear n0_ n1_; (try clear hb); (try clear hb2); (try clear hk); (try clear hi)) | (go_at_call 15; (with_reducible refine (souklaw01_is.calls t394 t395 t396 true true _ A18.out).mono ?_); rintro e w' ⟨rfl, ⟨nd, rfl⟩⟩; (try first | exact ⟨rfl, _, World.drewN_drewN _ _ _⟩ | exact ⟨rfl, _, Eq.trans (World.drewN_drewN _ _ _) (congrArg (World.drewN _) (Nat.add_assoc _ _ _))⟩)) | ((with_reducible refine gate_builtin (b := .append) (xs := #[.tmp 74, .tmp 76]) rfl ?_); at_builtin; refine Kd.R_append (Kd.int .i64) (w0 := w) w.heap.size rfl (.tmp 74) (.tmp 76) 22 2 (.int .i64 0) 8 rfl Try.underlying22 info2 rfl (by decide) (by omega) u11 x11_2 t394 [.int .i64 t394] (fun _ => True) (fun _ => False) rfl rfl ?aP (fun _ hk => hk.elim) ?aF ?aO ?aB ?aS ?aL ?_; (case aP => exact rfl); (case aB => exact (by repeat (first | (with_reducible first | exact HB.out | apply below_alloc | apply pw_below_drewN | apply below_drew1) | exact HB.out))); (case aF => exact (fun _ _ => trivial)); (case aO => exact (by (with_reducible repeat (first | apply Kd.R_alloc | apply Kd.R_drewN | apply Kd.R_drew)); exact HO_11.out)); (case aS => exact (below_size (by repeat (first | (with_reducible first | exact HB.out | apply below_alloc | apply pw_below_drewN | apply below_drew1) | exact HB.out)))); (case aL => have := LMc21.out; omega); intro v400 w23 ho hb hg hat; rw [← Ny399.out] at ho; have n0_ := Aside0.mk (hb); have n1_ := Aside0.mk (ho); clear HB; clear HO_11; have HB := n0_; have HO401 := n1_; clear n0_ n1_; clear ho hb hg hat)); try go_wp2_with (first | (go_at_call 18; (with_reducible refine (money_MulDiv.calls k2 a0 a1 a2 x12_2 t394 t395 _ A13.out).mono ?_); rintro e w' ⟨rfl, ⟨nd, rfl⟩⟩; (try first | exact ⟨rfl, _, World.drewN_drewN _ _ _⟩ | exact ⟨rfl, _, Eq.trans (World.drewN_drewN _ _ _) (congrArg (World.drewN _) (Nat.add_assoc _ _ _))⟩)) | (go_at_call 19; (with_reducible refine (soukref01_MulDiv.calls k2 a0 a1 a2 x12_2 t396 true _ A17.out).mono ?_); rintro e w22 ⟨rfl, hb⟩; have n0_ := Aside0.mk (Kd.R_below (by (with_reducible repeat (first | apply Kd.R_alloc | apply Kd.R_drewN | apply Kd.R_drew)); exact HO_11.out) hb); have n1_ := Aside0.mk (below_step (by repeat (first | (with_reducible first | exact HB.out | apply below_alloc | apply pw_below_drewN | apply below_drew1) | exact HB.out)) hb); clear HO_11; clear HB; have HO_11 := n0_; have HB := n1_; clear n0_ n1_; (try clear hb); (try clear hb2); (try clear hk); (try clear hi)) | (go_at_call 15; (with_reducible refine (souklaw01_is.calls t394 t395 t396 true true _ A18.out).mono ?_); rintro e w' ⟨rfl, ⟨nd, rfl⟩⟩; (try first | exact ⟨rfl, _, World.drewN_drewN _ _ _⟩ | exact ⟨rfl, _, Eq.trans (World.drewN_drewN _ _ _) (congrArg (World.drewN _) (Nat.add_assoc _ _ _))⟩)) | ((with_reducible refine gate_builtin (b := .append) (xs := #[.tmp 74, .tmp 76]) rfl ?_); at_builtin; refine Kd.R_append (Kd.int .i64) (w0 := w) w.heap.size rfl (.tmp 74) (.tmp 76) 22 2 (.int .i64 0) 8 rfl Try.underlying22 info2 rfl (by decide) (by omega) u11 x11_2 t394 [.int .i64 t394] (fun _ => True) (fun _ => False) rfl rfl ?aP (fun _ hk => hk.elim) ?aF ?aO ?aB ?aS ?aL ?_; (case aP => exact rfl); (case aB => exact (by repeat (first | (with_reducible first | exact HB.out | apply below_alloc | apply pw_below_drewN | apply below_drew1) | exact HB.out))); (case aF => exact (fun _ _ => trivial)); (case aO => exact (by (with_reducible repeat (first | apply Kd.R_alloc | apply Kd.R_drewN | apply Kd.R_drew)); exact HO_11.out)); (case aS => exact (below_size (by repeat (first | (with_reducible first | exact HB.out | apply below_alloc | apply pw_below_drewN | apply below_drew1) | exact HB.out)))); (case aL => have := LMc21.out; omega); intro v400 w23 ho hb hg hat; rw [← Ny399.out] at ho; have n0_ := Aside0.mk (hb); have n1_ := Aside0.mk (ho); clear HB; clear HO_11; have HB := n0_; have HO401 := n1_; clear n0_ n1_; clear ho hb hg hat)))
                        go_roundg k2
                        case measure => have := HJ7.out; have := HK2.out; omega
                        case rel => exact ⟨(y399), (wrap64 (x12_2 + 1)), (by first | rfl | (simp; done) | (simp [*]; done)), H', ⟨by have := HJ7.out; have := HK2.out; omega⟩, ⟨by (with_reducible repeat (first | apply Kd.R_alloc | apply Kd.R_drewN | apply Kd.R_drew)); exact HO401.out⟩, ⟨by repeat (first | (with_reducible first | exact HB.out | apply below_alloc | apply pw_below_drewN | apply below_drew1) | exact HB.out)⟩⟩
                      · rw [if_neg c21] at H
                        exact absurd H (by simp)
                    · replace c20 := Bool.eq_false_iff.mpr c20
                      subst c20
                      have H1 : (souklaw01_MoneyDivides.l0 k2 a0 a1 a2 x11_2 (wrap64 (x12_2 + 1))) = some r := by rw [if_neg (show ¬ (false = true) by decide)] at H; exact H
                      clear H
                      have H := H1
                      clear H1
                      have H' := Aside0.mk H
                      clear H
                      go_wp2_with (first | (go_at_call 18; (with_reducible refine (money_MulDiv.calls k2 a0 a1 a2 x12_2 t394 t395 _ A13.out).mono ?_); rintro e w' ⟨rfl, ⟨nd, rfl⟩⟩; (try first | exact ⟨rfl, _, World.drewN_drewN _ _ _⟩ | exact ⟨rfl, _, Eq.trans (World.drewN_drewN _ _ _) (congrArg (World.drewN _) (Nat.add_assoc _ _ _))⟩)) | (go_at_call 19; (with_reducible refine (soukref01_MulDiv.calls k2 a0 a1 a2 x12_2 t396 false _ A17.out).mono ?_); rintro e w24 ⟨rfl, hb⟩; have n0_ := Aside0.mk (Kd.R_below (by (with_reducible repeat (first | apply Kd.R_alloc | apply Kd.R_drewN | apply Kd.R_drew)); exact HO_11.out) hb); have n1_ := Aside0.mk (below_step (by repeat (first | (with_reducible first | exact HB.out | apply below_alloc | apply pw_below_drewN | apply below_drew1) | exact HB.out)) hb); clear HO_11; clear HB; have HO_11 := n0_; have HB := n1_; clear n0_ n1_; (try clear hb); (try clear hb2); (try clear hk); (try clear hi)) | (go_at_call 15; (with_reducible refine (souklaw01_is.calls t394 t395 t396 false true _ A18.out).mono ?_); rintro e w' ⟨rfl, ⟨nd, rfl⟩⟩; (try first | exact ⟨rfl, _, World.drewN_drewN _ _ _⟩ | exact ⟨rfl, _, Eq.trans (World.drewN_drewN _ _ _) (congrArg (World.drewN _) (Nat.add_assoc _ _ _))⟩)))
                      repeat (go_quiet (first | (go_at_call 18; (with_reducible refine (money_MulDiv.calls k2 a0 a1 a2 x12_2 t394 t395 _ A13.out).mono ?_); rintro e w' ⟨rfl, ⟨nd, rfl⟩⟩; (try first | exact ⟨rfl, _, World.drewN_drewN _ _ _⟩ | exact ⟨rfl, _, Eq.trans (World.drewN_drewN _ _ _) (congrArg (World.drewN _) (Nat.add_assoc _ _ _))⟩)) | (go_at_call 19; (with_reducible refine (soukref01_MulDiv.calls k2 a0 a1 a2 x12_2 t396 false _ A17.out).mono ?_); rintro e w24 ⟨rfl, hb⟩; have n0_ := Aside0.mk (Kd.R_below (by (with_reducible repeat (first | apply Kd.R_alloc | apply Kd.R_drewN | apply Kd.R_drew)); exact HO_11.out) hb); have n1_ := Aside0.mk (below_step (by repeat (first | (with_reducible first | exact HB.out | apply below_alloc | apply pw_below_drewN | apply below_drew1) | exact HB.out)) hb); clear HO_11; clear HB; have HO_11 := n0_; have HB := n1_; clear n0_ n1_; (try clear hb); (try clear hb2); (try clear hk); (try clear hi)) | (go_at_call 15; (with_reducible refine (souklaw01_is.calls t394 t395 t396 false true _ A18.out).mono ?_); rintro e w' ⟨rfl, ⟨nd, rfl⟩⟩; (try first | exact ⟨rfl, _, World.drewN_drewN _ _ _⟩ | exact ⟨rfl, _, Eq.trans (World.drewN_drewN _ _ _) (congrArg (World.drewN _) (Nat.add_assoc _ _ _))⟩))); try go_wp2_with (first | (go_at_call 18; (with_reducible refine (money_MulDiv.calls k2 a0 a1 a2 x12_2 t394 t395 _ A13.out).mono ?_); rintro e w' ⟨rfl, ⟨nd, rfl⟩⟩; (try first | exact ⟨rfl, _, World.drewN_drewN _ _ _⟩ | exact ⟨rfl, _, Eq.trans (World.drewN_drewN _ _ _) (congrArg (World.drewN _) (Nat.add_assoc _ _ _))⟩)) | (go_at_call 19; (with_reducible refine (soukref01_MulDiv.calls k2 a0 a1 a2 x12_2 t396 false _ A17.out).mono ?_); rintro e w24 ⟨rfl, hb⟩; have n0_ := Aside0.mk (Kd.R_below (by (with_reducible repeat (first | apply Kd.R_alloc | apply Kd.R_drewN | apply Kd.R_drew)); exact HO_11.out) hb); have n1_ := Aside0.mk (below_step (by repeat (first | (with_reducible first | exact HB.out | apply below_alloc | apply pw_below_drewN | apply below_drew1) | exact HB.out)) hb); clear HO_11; clear HB; have HO_11 := n0_; have HB := n1_; clear n0_ n1_; (try clear hb); (try clear hb2); (try clear hk); (try clear hi)) | (go_at_call 15; (with_reducible refine (souklaw01_is.calls t394 t395 t396 false true _ A18.out).mono ?_); rintro e w' ⟨rfl, ⟨nd, rfl⟩⟩; (try first | exact ⟨rfl, _, World.drewN_drewN _ _ _⟩ | exact ⟨rfl, _, Eq.trans (World.drewN_drewN _ _ _) (congrArg (World.drewN _) (Nat.add_assoc _ _ _))⟩))))
                      go_roundg k2
                      case measure => have := HJ7.out; have := HK2.out; omega
                      case rel => exact ⟨(x11_2), (wrap64 (x12_2 + 1)), (by first | rfl | (simp; done) | (simp [*]; done)), H', ⟨by have := HJ7.out; have := HK2.out; omega⟩, ⟨by (with_reducible repeat (first | apply Kd.R_alloc | apply Kd.R_drewN | apply Kd.R_drew)); exact HO_11.out⟩, ⟨by repeat (first | (with_reducible first | exact HB.out | apply below_alloc | apply pw_below_drewN | apply below_drew1) | exact HB.out)⟩⟩
                  · replace c19 := Bool.eq_false_iff.mpr c19
                    subst c19
                    have H1 : (some false) = some r := by rw [if_neg (show ¬ (false = true) by decide)] at H; exact H
                    clear H
                    have H := H1
                    clear H1
                    obtain rfl := Option.some.inj H
                    go_wp2_with (first | (go_at_call 18; (with_reducible refine (money_MulDiv.calls k2 a0 a1 a2 x12_2 t394 t395 _ A13.out).mono ?_); rintro e w' ⟨rfl, ⟨nd, rfl⟩⟩; (try first | exact ⟨rfl, _, World.drewN_drewN _ _ _⟩ | exact ⟨rfl, _, Eq.trans (World.drewN_drewN _ _ _) (congrArg (World.drewN _) (Nat.add_assoc _ _ _))⟩)) | (go_at_call 19; (with_reducible refine (soukref01_MulDiv.calls k2 a0 a1 a2 x12_2 t396 t397 _ A17.out).mono ?_); rintro e w25 ⟨rfl, hb⟩; have n0_ := Aside0.mk (Kd.R_below (by (with_reducible repeat (first | apply Kd.R_alloc | apply Kd.R_drewN | apply Kd.R_drew)); exact HO_11.out) hb); have n1_ := Aside0.mk (below_step (by repeat (first | (with_reducible first | exact HB.out | apply below_alloc | apply pw_below_drewN | apply below_drew1) | exact HB.out)) hb); clear HO_11; clear HB; have HO_11 := n0_; have HB := n1_; clear n0_ n1_; (try clear hb); (try clear hb2); (try clear hk); (try clear hi)) | (go_at_call 15; (with_reducible refine (souklaw01_is.calls t394 t395 t396 t397 false _ A18.out).mono ?_); rintro e w' ⟨rfl, ⟨nd, rfl⟩⟩; (try first | exact ⟨rfl, _, World.drewN_drewN _ _ _⟩ | exact ⟨rfl, _, Eq.trans (World.drewN_drewN _ _ _) (congrArg (World.drewN _) (Nat.add_assoc _ _ _))⟩)))
                    repeat (go_quiet (first | (go_at_call 18; (with_reducible refine (money_MulDiv.calls k2 a0 a1 a2 x12_2 t394 t395 _ A13.out).mono ?_); rintro e w' ⟨rfl, ⟨nd, rfl⟩⟩; (try first | exact ⟨rfl, _, World.drewN_drewN _ _ _⟩ | exact ⟨rfl, _, Eq.trans (World.drewN_drewN _ _ _) (congrArg (World.drewN _) (Nat.add_assoc _ _ _))⟩)) | (go_at_call 19; (with_reducible refine (soukref01_MulDiv.calls k2 a0 a1 a2 x12_2 t396 t397 _ A17.out).mono ?_); rintro e w25 ⟨rfl, hb⟩; have n0_ := Aside0.mk (Kd.R_below (by (with_reducible repeat (first | apply Kd.R_alloc | apply Kd.R_drewN | apply Kd.R_drew)); exact HO_11.out) hb); have n1_ := Aside0.mk (below_step (by repeat (first | (with_reducible first | exact HB.out | apply below_alloc | apply pw_below_drewN | apply below_drew1) | exact HB.out)) hb); clear HO_11; clear HB; have HO_11 := n0_; have HB := n1_; clear n0_ n1_; (try clear hb); (try clear hb2); (try clear hk); (try clear hi)) | (go_at_call 15; (with_reducible refine (souklaw01_is.calls t394 t395 t396 t397 false _ A18.out).mono ?_); rintro e w' ⟨rfl, ⟨nd, rfl⟩⟩; (try first | exact ⟨rfl, _, World.drewN_drewN _ _ _⟩ | exact ⟨rfl, _, Eq.trans (World.drewN_drewN _ _ _) (congrArg (World.drewN _) (Nat.add_assoc _ _ _))⟩))); try go_wp2_with (first | (go_at_call 18; (with_reducible refine (money_MulDiv.calls k2 a0 a1 a2 x12_2 t394 t395 _ A13.out).mono ?_); rintro e w' ⟨rfl, ⟨nd, rfl⟩⟩; (try first | exact ⟨rfl, _, World.drewN_drewN _ _ _⟩ | exact ⟨rfl, _, Eq.trans (World.drewN_drewN _ _ _) (congrArg (World.drewN _) (Nat.add_assoc _ _ _))⟩)) | (go_at_call 19; (with_reducible refine (soukref01_MulDiv.calls k2 a0 a1 a2 x12_2 t396 t397 _ A17.out).mono ?_); rintro e w25 ⟨rfl, hb⟩; have n0_ := Aside0.mk (Kd.R_below (by (with_reducible repeat (first | apply Kd.R_alloc | apply Kd.R_drewN | apply Kd.R_drew)); exact HO_11.out) hb); have n1_ := Aside0.mk (below_step (by repeat (first | (with_reducible first | exact HB.out | apply below_alloc | apply pw_below_drewN | apply below_drew1) | exact HB.out)) hb); clear HO_11; clear HB; have HO_11 := n0_; have HB := n1_; clear n0_ n1_; (try clear hb); (try clear hb2); (try clear hk); (try clear hi)) | (go_at_call 15; (with_reducible refine (souklaw01_is.calls t394 t395 t396 t397 false _ A18.out).mono ?_); rintro e w' ⟨rfl, ⟨nd, rfl⟩⟩; (try first | exact ⟨rfl, _, World.drewN_drewN _ _ _⟩ | exact ⟨rfl, _, Eq.trans (World.drewN_drewN _ _ _) (congrArg (World.drewN _) (Nat.add_assoc _ _ _))⟩))))
                    go_ret
                    exact ⟨by first | rfl | (simp [errW_none, errW_some] <;> rfl) | (simp [*, errW_none, errW_some] <;> rfl), by repeat (first | (with_reducible first | exact HB.out | apply below_alloc | apply pw_below_drewN | apply below_drew1) | exact HB.out)⟩
              · rw [if_neg c12] at H
                have c12b0 : decide (x12_2 ≤ 2) = false := decide_eq_false c12
                clear c12
                by_cases c26 : (x11_2.length : Int) < 3
                · rw [if_pos c26] at H
                  have c26b0 : decide ((x11_2.length : Int) < 3) = true := decide_eq_true c26
                  have c26b1 : decide (x11_2.length < 3) = true := decide_eq_true (by omega)
                  clear c26
                  obtain rfl := Option.some.inj H
                  obtain ⟨Ao27, co27, eo27⟩ := Kd.R_slice HO_11.out
                  subst eo27
                  go_wp2
                  repeat (go_quiet (fail); try go_wp2)
                  go_ret
                  exact ⟨by first | rfl | (simp [errW_none, errW_some] <;> rfl) | (simp [*, errW_none, errW_some] <;> rfl), by repeat (first | (with_reducible first | exact HB.out | apply below_alloc | apply pw_below_drewN | apply below_drew1) | exact HB.out)⟩
                · rw [if_neg c26] at H
                  have c26b0 : decide ((x11_2.length : Int) < 3) = false := decide_eq_false c26
                  have c26b1 : decide (x11_2.length < 3) = false := decide_eq_false (by omega)
                  clear c26
                  by_cases c28 : 0 < (x11_2.length : Int)
                  · rw [if_pos c28] at H
                    have c28b0 : decide (0 < (x11_2.length : Int)) = true := decide_eq_true c28
                    have c28b1 : decide (0 < x11_2.length) = true := decide_eq_true (by omega)
                    clear c28
                    by_cases c29 : 1 < (x11_2.length : Int)
                    · rw [if_pos c29] at H
                      have c29b0 : decide (1 < (x11_2.length : Int)) = true := decide_eq_true c29
                      have c29b1 : decide (1 < x11_2.length) = true := decide_eq_true (by omega)
                      clear c29
                      by_cases c30 : (rd x11_2 0) = (rd x11_2 1)
                      · rw [if_pos c30] at H
                        have c30b0 : ((rd x11_2 0) == (rd x11_2 1)) = true := beq_iff_eq.mpr c30
                        have c30b1 : ((rd x11_2 0) != (rd x11_2 1)) = false := bne_eq_false_iff_eq.mpr c30
                        clear c30
                        by_cases c31 : 2 < (x11_2.length : Int)
                        · rw [if_pos c31] at H
                          have c31b0 : decide (2 < (x11_2.length : Int)) = true := decide_eq_true c31
                          have c31b1 : decide (2 < x11_2.length) = true := decide_eq_true (by omega)
                          clear c31
                          by_cases c32 : (rd x11_2 2) = (rd x11_2 0)
                          · rw [if_pos c32] at H
                            have c32b0 : ((rd x11_2 2) == (rd x11_2 0)) = true := beq_iff_eq.mpr c32
                            have c32b1 : ((rd x11_2 2) != (rd x11_2 0)) = false := bne_eq_false_iff_eq.mpr c32
                            clear c32
                            obtain rfl := Option.some.inj H
                            obtain ⟨Ao33, co33, eo33⟩ := Kd.R_slice HO_11.out
                            subst eo33
                            have p382 : 0 ≤ (0 : Int) := (by omega)
                            have q382 : 0 < (x11_2.length : Int) := of_decide_eq_true (by first | (with_reducible assumption) | assumption)
                            obtain ⟨ad382, e382, hx382_0⟩ := Kd.at_int (Kd.R_reads' HO_11.out).2.2 0 p382 q382
                            cases e382
                            have qi382 : (0 < x11_2.length) = True := eq_true (by omega)
                            (try rw [show ((0 : Int)).toNat = 0 from rfl] at hx382_0)
                            (try rw [Addr.add_zero'] at hx382_0)
                            replace p382 := eq_true p382
                            replace q382 := eq_true q382
                            have p383 : 0 ≤ (1 : Int) := (by omega)
                            have q383 : 1 < (x11_2.length : Int) := of_decide_eq_true (by first | (with_reducible assumption) | assumption)
                            obtain ⟨ad383, e383, hx383_0⟩ := Kd.at_int (Kd.R_reads' HO_11.out).2.2 1 p383 q383
                            obtain rfl : ad382 = ad383 := (by injection e383)
                            (try simp only [show (1 : Int).toNat = 1 from rfl, Nat.reduceMul, Nat.reduceEqDiff, Go.Addr.add, ↓reduceIte] at hx383_0)
                            have qi383 : (1 < x11_2.length) = True := eq_true (by omega)
                            (try rw [show ((1 : Int)).toNat = 1 from rfl] at hx383_0)
                            replace p383 := eq_true p383
                            replace q383 := eq_true q383
                            have p384 : 0 ≤ (2 : Int) := (by omega)
                            have q384 : 2 < (x11_2.length : Int) := of_decide_eq_true (by first | (with_reducible assumption) | assumption)
                            obtain ⟨ad384, e384, hx384_0⟩ := Kd.at_int (Kd.R_reads' HO_11.out).2.2 2 p384 q384
                            obtain rfl : ad382 = ad384 := (by injection e384)
                            (try simp only [show (2 : Int).toNat = 2 from rfl, Nat.reduceMul, Nat.reduceEqDiff, Go.Addr.add, ↓reduceIte] at hx384_0)
                            have qi384 : (2 < x11_2.length) = True := eq_true (by omega)
                            (try rw [show ((2 : Int)).toNat = 2 from rfl] at hx384_0)
                            replace p384 := eq_true p384
                            replace q384 := eq_true q384
                            have p385 : 0 ≤ (0 : Int) := (by omega)
                            have q385 : 0 < (x11_2.length : Int) := of_decide_eq_true (by first | (with_reducible assumption) | assumption)
                            obtain ⟨ad385, e385, hx385_0⟩ := Kd.at_int (Kd.R_reads' HO_11.out).2.2 0 p385 q385
                            obtain rfl : ad382 = ad385 := (by injection e385)
                            have qi385 : (0 < x11_2.length) = True := eq_true (by omega)
                            (try rw [show ((0 : Int)).toNat = 0 from rfl] at hx385_0)
                            (try rw [Addr.add_zero'] at hx385_0)
                            replace p385 := eq_true p385
                            replace q385 := eq_true q385
                            go_wp2
                            repeat (go_quiet (fail); try go_wp2)
                            go_ret
                            exact ⟨by first | rfl | (simp [errW_none, errW_some] <;> rfl) | (simp [*, errW_none, errW_some] <;> rfl), by repeat (first | (with_reducible first | exact HB.out | apply below_alloc | apply pw_below_drewN | apply below_drew1) | exact HB.out)⟩
                          · rw [if_neg c32] at H
                            have c32b0 : ((rd x11_2 2) == (rd x11_2 0)) = false := beq_eq_false_iff_ne.mpr c32
                            have c32b1 : ((rd x11_2 2) != (rd x11_2 0)) = true := bne_iff_ne.mpr c32
                            obtain rfl := Option.some.inj H
                            obtain ⟨Ao34, co34, eo34⟩ := Kd.R_slice HO_11.out
                            subst eo34
                            have p382 : 0 ≤ (0 : Int) := (by omega)
                            have q382 : 0 < (x11_2.length : Int) := of_decide_eq_true (by first | (with_reducible assumption) | assumption)
                            obtain ⟨ad382, e382, hx382_0⟩ := Kd.at_int (Kd.R_reads' HO_11.out).2.2 0 p382 q382
                            cases e382
                            have qi382 : (0 < x11_2.length) = True := eq_true (by omega)
                            (try rw [show ((0 : Int)).toNat = 0 from rfl] at hx382_0)
                            (try rw [Addr.add_zero'] at hx382_0)
                            replace p382 := eq_true p382
                            replace q382 := eq_true q382
                            have p383 : 0 ≤ (1 : Int) := (by omega)
                            have q383 : 1 < (x11_2.length : Int) := of_decide_eq_true (by first | (with_reducible assumption) | assumption)
                            obtain ⟨ad383, e383, hx383_0⟩ := Kd.at_int (Kd.R_reads' HO_11.out).2.2 1 p383 q383
                            obtain rfl : ad382 = ad383 := (by injection e383)
                            (try simp only [show (1 : Int).toNat = 1 from rfl, Nat.reduceMul, Nat.reduceEqDiff, Go.Addr.add, ↓reduceIte] at hx383_0)
                            have qi383 : (1 < x11_2.length) = True := eq_true (by omega)
                            (try rw [show ((1 : Int)).toNat = 1 from rfl] at hx383_0)
                            replace p383 := eq_true p383
                            replace q383 := eq_true q383
                            have p384 : 0 ≤ (2 : Int) := (by omega)
                            have q384 : 2 < (x11_2.length : Int) := of_decide_eq_true (by first | (with_reducible assumption) | assumption)
                            obtain ⟨ad384, e384, hx384_0⟩ := Kd.at_int (Kd.R_reads' HO_11.out).2.2 2 p384 q384
                            obtain rfl : ad382 = ad384 := (by injection e384)
                            (try simp only [show (2 : Int).toNat = 2 from rfl, Nat.reduceMul, Nat.reduceEqDiff, Go.Addr.add, ↓reduceIte] at hx384_0)
                            have qi384 : (2 < x11_2.length) = True := eq_true (by omega)
                            (try rw [show ((2 : Int)).toNat = 2 from rfl] at hx384_0)
                            replace p384 := eq_true p384
                            replace q384 := eq_true q384
                            have p385 : 0 ≤ (0 : Int) := (by omega)
                            have q385 : 0 < (x11_2.length : Int) := of_decide_eq_true (by first | (with_reducible assumption) | assumption)
                            obtain ⟨ad385, e385, hx385_0⟩ := Kd.at_int (Kd.R_reads' HO_11.out).2.2 0 p385 q385
                            obtain rfl : ad382 = ad385 := (by injection e385)
                            have qi385 : (0 < x11_2.length) = True := eq_true (by omega)
                            (try rw [show ((0 : Int)).toNat = 0 from rfl] at hx385_0)
                            (try rw [Addr.add_zero'] at hx385_0)
                            replace p385 := eq_true p385
                            replace q385 := eq_true q385
                            have p386 : 0 ≤ (2 : Int) := (by omega)
                            have q386 : 2 < (x11_2.length : Int) := of_decide_eq_true (by first | (with_reducible assumption) | assumption)
                            obtain ⟨ad386, e386, hx386_0⟩ := Kd.at_int (Kd.R_reads' HO_11.out).2.2 2 p386 q386
                            obtain rfl : ad382 = ad386 := (by injection e386)
                            (try simp only [show (2 : Int).toNat = 2 from rfl, Nat.reduceMul, Nat.reduceEqDiff, Go.Addr.add, ↓reduceIte] at hx386_0)
                            have qi386 : (2 < x11_2.length) = True := eq_true (by omega)
                            (try rw [show ((2 : Int)).toNat = 2 from rfl] at hx386_0)
                            replace p386 := eq_true p386
                            replace q386 := eq_true q386
                            have p387 : 0 ≤ (1 : Int) := (by omega)
                            have q387 : 1 < (x11_2.length : Int) := of_decide_eq_true (by first | (with_reducible assumption) | assumption)
                            obtain ⟨ad387, e387, hx387_0⟩ := Kd.at_int (Kd.R_reads' HO_11.out).2.2 1 p387 q387
                            obtain rfl : ad382 = ad387 := (by injection e387)
                            (try simp only [show (1 : Int).toNat = 1 from rfl, Nat.reduceMul, Nat.reduceEqDiff, Go.Addr.add, ↓reduceIte] at hx387_0)
                            have qi387 : (1 < x11_2.length) = True := eq_true (by omega)
                            (try rw [show ((1 : Int)).toNat = 1 from rfl] at hx387_0)
                            replace p387 := eq_true p387
                            replace q387 := eq_true q387
                            go_wp2
                            repeat (go_quiet (fail); try go_wp2)
                            go_ret
                            exact ⟨by first | rfl | (simp [errW_none, errW_some] <;> rfl) | (simp [*, errW_none, errW_some] <;> rfl), by repeat (first | (with_reducible first | exact HB.out | apply below_alloc | apply pw_below_drewN | apply below_drew1) | exact HB.out)⟩
                        · rw [if_neg c31] at H
                          exact absurd H (by simp)
                      · rw [if_neg c30] at H
                        have c30b0 : ((rd x11_2 0) == (rd x11_2 1)) = false := beq_eq_false_iff_ne.mpr c30
                        have c30b1 : ((rd x11_2 0) != (rd x11_2 1)) = true := bne_iff_ne.mpr c30
                        by_cases c35 : (wrap64 ((rd x11_2 0) + 1)) = (rd x11_2 1)
                        · rw [if_pos c35] at H
                          have c35b0 : ((wrap64 ((rd x11_2 0) + 1)) == (rd x11_2 1)) = true := beq_iff_eq.mpr c35
                          have c35b1 : ((wrap64 ((rd x11_2 0) + 1)) != (rd x11_2 1)) = false := bne_eq_false_iff_eq.mpr c35
                          clear c35
                          by_cases c36 : 2 < (x11_2.length : Int)
                          · rw [if_pos c36] at H
                            have c36b0 : decide (2 < (x11_2.length : Int)) = true := decide_eq_true c36
                            have c36b1 : decide (2 < x11_2.length) = true := decide_eq_true (by omega)
                            clear c36
                            by_cases c37 : (rd x11_2 2) = (rd x11_2 0)
                            · rw [if_pos c37] at H
                              have c37b0 : ((rd x11_2 2) == (rd x11_2 0)) = true := beq_iff_eq.mpr c37
                              have c37b1 : ((rd x11_2 2) != (rd x11_2 0)) = false := bne_eq_false_iff_eq.mpr c37
                              clear c37
                              obtain rfl := Option.some.inj H
                              obtain ⟨Ao38, co38, eo38⟩ := Kd.R_slice HO_11.out
                              subst eo38
                              have p382 : 0 ≤ (0 : Int) := (by omega)
                              have q382 : 0 < (x11_2.length : Int) := of_decide_eq_true (by first | (with_reducible assumption) | assumption)
                              obtain ⟨ad382, e382, hx382_0⟩ := Kd.at_int (Kd.R_reads' HO_11.out).2.2 0 p382 q382
                              cases e382
                              have qi382 : (0 < x11_2.length) = True := eq_true (by omega)
                              (try rw [show ((0 : Int)).toNat = 0 from rfl] at hx382_0)
                              (try rw [Addr.add_zero'] at hx382_0)
                              replace p382 := eq_true p382
                              replace q382 := eq_true q382
                              have p383 : 0 ≤ (1 : Int) := (by omega)
                              have q383 : 1 < (x11_2.length : Int) := of_decide_eq_true (by first | (with_reducible assumption) | assumption)
                              obtain ⟨ad383, e383, hx383_0⟩ := Kd.at_int (Kd.R_reads' HO_11.out).2.2 1 p383 q383
                              obtain rfl : ad382 = ad383 := (by injection e383)
                              (try simp only [show (1 : Int).toNat = 1 from rfl, Nat.reduceMul, Nat.reduceEqDiff, Go.Addr.add, ↓reduceIte] at hx383_0)
                              have qi383 : (1 < x11_2.length) = True := eq_true (by omega)
                              (try rw [show ((1 : Int)).toNat = 1 from rfl] at hx383_0)
                              replace p383 := eq_true p383
                              replace q383 := eq_true q383
                              have p388 : 0 ≤ (0 : Int) := (by omega)
                              have q388 : 0 < (x11_2.length : Int) := of_decide_eq_true (by first | (with_reducible assumption) | assumption)
                              obtain ⟨ad388, e388, hx388_0⟩ := Kd.at_int (Kd.R_reads' HO_11.out).2.2 0 p388 q388
                              obtain rfl : ad382 = ad388 := (by injection e388)
                              have qi388 : (0 < x11_2.length) = True := eq_true (by omega)
                              (try rw [show ((0 : Int)).toNat = 0 from rfl] at hx388_0)
                              (try rw [Addr.add_zero'] at hx388_0)
                              replace p388 := eq_true p388
                              replace q388 := eq_true q388
                              have p389 : 0 ≤ (1 : Int) := (by omega)
                              have q389 : 1 < (x11_2.length : Int) := of_decide_eq_true (by first | (with_reducible assumption) | assumption)
                              obtain ⟨ad389, e389, hx389_0⟩ := Kd.at_int (Kd.R_reads' HO_11.out).2.2 1 p389 q389
                              obtain rfl : ad382 = ad389 := (by injection e389)
                              (try simp only [show (1 : Int).toNat = 1 from rfl, Nat.reduceMul, Nat.reduceEqDiff, Go.Addr.add, ↓reduceIte] at hx389_0)
                              have qi389 : (1 < x11_2.length) = True := eq_true (by omega)
                              (try rw [show ((1 : Int)).toNat = 1 from rfl] at hx389_0)
                              replace p389 := eq_true p389
                              replace q389 := eq_true q389
                              have p390 : 0 ≤ (2 : Int) := (by omega)
                              have q390 : 2 < (x11_2.length : Int) := of_decide_eq_true (by first | (with_reducible assumption) | assumption)
                              obtain ⟨ad390, e390, hx390_0⟩ := Kd.at_int (Kd.R_reads' HO_11.out).2.2 2 p390 q390
                              obtain rfl : ad382 = ad390 := (by injection e390)
                              (try simp only [show (2 : Int).toNat = 2 from rfl, Nat.reduceMul, Nat.reduceEqDiff, Go.Addr.add, ↓reduceIte] at hx390_0)
                              have qi390 : (2 < x11_2.length) = True := eq_true (by omega)
                              (try rw [show ((2 : Int)).toNat = 2 from rfl] at hx390_0)
                              replace p390 := eq_true p390
                              replace q390 := eq_true q390
                              have p391 : 0 ≤ (0 : Int) := (by omega)
                              have q391 : 0 < (x11_2.length : Int) := of_decide_eq_true (by first | (with_reducible assumption) | assumption)
                              obtain ⟨ad391, e391, hx391_0⟩ := Kd.at_int (Kd.R_reads' HO_11.out).2.2 0 p391 q391
                              obtain rfl : ad382 = ad391 := (by injection e391)
                              have qi391 : (0 < x11_2.length) = True := eq_true (by omega)
                              (try rw [show ((0 : Int)).toNat = 0 from rfl] at hx391_0)
                              (try rw [Addr.add_zero'] at hx391_0)
                              replace p391 := eq_true p391
                              replace q391 := eq_true q391
                              go_wp2
                              repeat (go_quiet (fail); try go_wp2)
                              go_ret
                              exact ⟨by first | rfl | (simp [errW_none, errW_some] <;> rfl) | (simp [*, errW_none, errW_some] <;> rfl), by repeat (first | (with_reducible first | exact HB.out | apply below_alloc | apply pw_below_drewN | apply below_drew1) | exact HB.out)⟩
                            · rw [if_neg c37] at H
                              have c37b0 : ((rd x11_2 2) == (rd x11_2 0)) = false := beq_eq_false_iff_ne.mpr c37
                              have c37b1 : ((rd x11_2 2) != (rd x11_2 0)) = true := bne_iff_ne.mpr c37
                              obtain rfl := Option.some.inj H
                              obtain ⟨Ao39, co39, eo39⟩ := Kd.R_slice HO_11.out
                              subst eo39
                              have p382 : 0 ≤ (0 : Int) := (by omega)
                              have q382 : 0 < (x11_2.length : Int) := of_decide_eq_true (by first | (with_reducible assumption) | assumption)
                              obtain ⟨ad382, e382, hx382_0⟩ := Kd.at_int (Kd.R_reads' HO_11.out).2.2 0 p382 q382
                              cases e382
                              have qi382 : (0 < x11_2.length) = True := eq_true (by omega)
                              (try rw [show ((0 : Int)).toNat = 0 from rfl] at hx382_0)
                              (try rw [Addr.add_zero'] at hx382_0)
                              replace p382 := eq_true p382
                              replace q382 := eq_true q382
                              have p383 : 0 ≤ (1 : Int) := (by omega)
                              have q383 : 1 < (x11_2.length : Int) := of_decide_eq_true (by first | (with_reducible assumption) | assumption)
                              obtain ⟨ad383, e383, hx383_0⟩ := Kd.at_int (Kd.R_reads' HO_11.out).2.2 1 p383 q383
                              obtain rfl : ad382 = ad383 := (by injection e383)
                              (try simp only [show (1 : Int).toNat = 1 from rfl, Nat.reduceMul, Nat.reduceEqDiff, Go.Addr.add, ↓reduceIte] at hx383_0)
                              have qi383 : (1 < x11_2.length) = True := eq_true (by omega)
                              (try rw [show ((1 : Int)).toNat = 1 from rfl] at hx383_0)
                              replace p383 := eq_true p383
                              replace q383 := eq_true q383
                              have p388 : 0 ≤ (0 : Int) := (by omega)
                              have q388 : 0 < (x11_2.length : Int) := of_decide_eq_true (by first | (with_reducible assumption) | assumption)
                              obtain ⟨ad388, e388, hx388_0⟩ := Kd.at_int (Kd.R_reads' HO_11.out).2.2 0 p388 q388
                              obtain rfl : ad382 = ad388 := (by injection e388)
                              have qi388 : (0 < x11_2.length) = True := eq_true (by omega)
                              (try rw [show ((0 : Int)).toNat = 0 from rfl] at hx388_0)
                              (try rw [Addr.add_zero'] at hx388_0)
                              replace p388 := eq_true p388
                              replace q388 := eq_true q388
                              have p389 : 0 ≤ (1 : Int) := (by omega)
                              have q389 : 1 < (x11_2.length : Int) := of_decide_eq_true (by first | (with_reducible assumption) | assumption)
                              obtain ⟨ad389, e389, hx389_0⟩ := Kd.at_int (Kd.R_reads' HO_11.out).2.2 1 p389 q389
                              obtain rfl : ad382 = ad389 := (by injection e389)
                              (try simp only [show (1 : Int).toNat = 1 from rfl, Nat.reduceMul, Nat.reduceEqDiff, Go.Addr.add, ↓reduceIte] at hx389_0)
                              have qi389 : (1 < x11_2.length) = True := eq_true (by omega)
                              (try rw [show ((1 : Int)).toNat = 1 from rfl] at hx389_0)
                              replace p389 := eq_true p389
                              replace q389 := eq_true q389
                              have p390 : 0 ≤ (2 : Int) := (by omega)
                              have q390 : 2 < (x11_2.length : Int) := of_decide_eq_true (by first | (with_reducible assumption) | assumption)
                              obtain ⟨ad390, e390, hx390_0⟩ := Kd.at_int (Kd.R_reads' HO_11.out).2.2 2 p390 q390
                              obtain rfl : ad382 = ad390 := (by injection e390)
                              (try simp only [show (2 : Int).toNat = 2 from rfl, Nat.reduceMul, Nat.reduceEqDiff, Go.Addr.add, ↓reduceIte] at hx390_0)
                              have qi390 : (2 < x11_2.length) = True := eq_true (by omega)
                              (try rw [show ((2 : Int)).toNat = 2 from rfl] at hx390_0)
                              replace p390 := eq_true p390
                              replace q390 := eq_true q390
                              have p391 : 0 ≤ (0 : Int) := (by omega)
                              have q391 : 0 < (x11_2.length : Int) := of_decide_eq_true (by first | (with_reducible assumption) | assumption)
                              obtain ⟨ad391, e391, hx391_0⟩ := Kd.at_int (Kd.R_reads' HO_11.out).2.2 0 p391 q391
                              obtain rfl : ad382 = ad391 := (by injection e391)
                              have qi391 : (0 < x11_2.length) = True := eq_true (by omega)
                              (try rw [show ((0 : Int)).toNat = 0 from rfl] at hx391_0)
                              (try rw [Addr.add_zero'] at hx391_0)
                              replace p391 := eq_true p391
                              replace q391 := eq_true q391
                              have p392 : 0 ≤ (2 : Int) := (by omega)
                              have q392 : 2 < (x11_2.length : Int) := of_decide_eq_true (by first | (with_reducible assumption) | assumption)
                              obtain ⟨ad392, e392, hx392_0⟩ := Kd.at_int (Kd.R_reads' HO_11.out).2.2 2 p392 q392
                              obtain rfl : ad382 = ad392 := (by injection e392)
                              (try simp only [show (2 : Int).toNat = 2 from rfl, Nat.reduceMul, Nat.reduceEqDiff, Go.Addr.add, ↓reduceIte] at hx392_0)
                              have qi392 : (2 < x11_2.length) = True := eq_true (by omega)
                              (try rw [show ((2 : Int)).toNat = 2 from rfl] at hx392_0)
                              replace p392 := eq_true p392
                              replace q392 := eq_true q392
                              have p393 : 0 ≤ (1 : Int) := (by omega)
                              have q393 : 1 < (x11_2.length : Int) := of_decide_eq_true (by first | (with_reducible assumption) | assumption)
                              obtain ⟨ad393, e393, hx393_0⟩ := Kd.at_int (Kd.R_reads' HO_11.out).2.2 1 p393 q393
                              obtain rfl : ad382 = ad393 := (by injection e393)
                              (try simp only [show (1 : Int).toNat = 1 from rfl, Nat.reduceMul, Nat.reduceEqDiff, Go.Addr.add, ↓reduceIte] at hx393_0)
                              have qi393 : (1 < x11_2.length) = True := eq_true (by omega)
                              (try rw [show ((1 : Int)).toNat = 1 from rfl] at hx393_0)
                              replace p393 := eq_true p393
                              replace q393 := eq_true q393
                              go_wp2
                              repeat (go_quiet (fail); try go_wp2)
                              go_ret
                              exact ⟨by first | rfl | (simp [errW_none, errW_some] <;> rfl) | (simp [*, errW_none, errW_some] <;> rfl), by repeat (first | (with_reducible first | exact HB.out | apply below_alloc | apply pw_below_drewN | apply below_drew1) | exact HB.out)⟩
                          · rw [if_neg c36] at H
                            exact absurd H (by simp)
                        · rw [if_neg c35] at H
                          have c35b0 : ((wrap64 ((rd x11_2 0) + 1)) == (rd x11_2 1)) = false := beq_eq_false_iff_ne.mpr c35
                          have c35b1 : ((wrap64 ((rd x11_2 0) + 1)) != (rd x11_2 1)) = true := bne_iff_ne.mpr c35
                          obtain rfl := Option.some.inj H
                          obtain ⟨Ao40, co40, eo40⟩ := Kd.R_slice HO_11.out
                          subst eo40
                          have p382 : 0 ≤ (0 : Int) := (by omega)
                          have q382 : 0 < (x11_2.length : Int) := of_decide_eq_true (by first | (with_reducible assumption) | assumption)
                          obtain ⟨ad382, e382, hx382_0⟩ := Kd.at_int (Kd.R_reads' HO_11.out).2.2 0 p382 q382
                          cases e382
                          have qi382 : (0 < x11_2.length) = True := eq_true (by omega)
                          (try rw [show ((0 : Int)).toNat = 0 from rfl] at hx382_0)
                          (try rw [Addr.add_zero'] at hx382_0)
                          replace p382 := eq_true p382
                          replace q382 := eq_true q382
                          have p383 : 0 ≤ (1 : Int) := (by omega)
                          have q383 : 1 < (x11_2.length : Int) := of_decide_eq_true (by first | (with_reducible assumption) | assumption)
                          obtain ⟨ad383, e383, hx383_0⟩ := Kd.at_int (Kd.R_reads' HO_11.out).2.2 1 p383 q383
                          obtain rfl : ad382 = ad383 := (by injection e383)
                          (try simp only [show (1 : Int).toNat = 1 from rfl, Nat.reduceMul, Nat.reduceEqDiff, Go.Addr.add, ↓reduceIte] at hx383_0)
                          have qi383 : (1 < x11_2.length) = True := eq_true (by omega)
                          (try rw [show ((1 : Int)).toNat = 1 from rfl] at hx383_0)
                          replace p383 := eq_true p383
                          replace q383 := eq_true q383
                          have p388 : 0 ≤ (0 : Int) := (by omega)
                          have q388 : 0 < (x11_2.length : Int) := of_decide_eq_true (by first | (with_reducible assumption) | assumption)
                          obtain ⟨ad388, e388, hx388_0⟩ := Kd.at_int (Kd.R_reads' HO_11.out).2.2 0 p388 q388
                          obtain rfl : ad382 = ad388 := (by injection e388)
                          have qi388 : (0 < x11_2.length) = True := eq_true (by omega)
                          (try rw [show ((0 : Int)).toNat = 0 from rfl] at hx388_0)
                          (try rw [Addr.add_zero'] at hx388_0)
                          replace p388 := eq_true p388
                          replace q388 := eq_true q388
                          have p389 : 0 ≤ (1 : Int) := (by omega)
                          have q389 : 1 < (x11_2.length : Int) := of_decide_eq_true (by first | (with_reducible assumption) | assumption)
                          obtain ⟨ad389, e389, hx389_0⟩ := Kd.at_int (Kd.R_reads' HO_11.out).2.2 1 p389 q389
                          obtain rfl : ad382 = ad389 := (by injection e389)
                          (try simp only [show (1 : Int).toNat = 1 from rfl, Nat.reduceMul, Nat.reduceEqDiff, Go.Addr.add, ↓reduceIte] at hx389_0)
                          have qi389 : (1 < x11_2.length) = True := eq_true (by omega)
                          (try rw [show ((1 : Int)).toNat = 1 from rfl] at hx389_0)
                          replace p389 := eq_true p389
                          replace q389 := eq_true q389
                          go_wp2
                          repeat (go_quiet (fail); try go_wp2)
                          go_ret
                          exact ⟨by first | rfl | (simp [errW_none, errW_some] <;> rfl) | (simp [*, errW_none, errW_some] <;> rfl), by repeat (first | (with_reducible first | exact HB.out | apply below_alloc | apply pw_below_drewN | apply below_drew1) | exact HB.out)⟩
                    · rw [if_neg c29] at H
                      exact absurd H (by simp)
                  · rw [if_neg c28] at H
                    exact absurd H (by simp)
  · replace c5 := Bool.eq_false_iff.mpr c5
    subst c5
    have H1 : (some false) = some r := by rw [if_neg (show ¬ (false = true) by decide)] at H; exact H
    clear H
    have H := H1
    clear H1
    obtain rfl := Option.some.inj H
    go_enter Try.func4, Try.ntmps4
    go_wp2_with (first | (go_at_call 12; (with_reducible refine (souklaw01_lives.calls k  false _ A4.out).mono ?_); rintro e w41 ⟨rfl, hb⟩; have n0_ := Aside0.mk (below_step (by repeat (first | (with_reducible first | exact HB.out | apply below_alloc | apply pw_below_drewN | apply below_drew1) | exact HB.out)) hb); clear HB; have HB := n0_; clear n0_; (try clear hb); (try clear hb2); (try clear hk); (try clear hi)))
    repeat (go_quiet (first | (go_at_call 12; (with_reducible refine (souklaw01_lives.calls k  false _ A4.out).mono ?_); rintro e w41 ⟨rfl, hb⟩; have n0_ := Aside0.mk (below_step (by repeat (first | (with_reducible first | exact HB.out | apply below_alloc | apply pw_below_drewN | apply below_drew1) | exact HB.out)) hb); clear HB; have HB := n0_; clear n0_; (try clear hb); (try clear hb2); (try clear hk); (try clear hi))); try go_wp2_with (first | (go_at_call 12; (with_reducible refine (souklaw01_lives.calls k  false _ A4.out).mono ?_); rintro e w41 ⟨rfl, hb⟩; have n0_ := Aside0.mk (below_step (by repeat (first | (with_reducible first | exact HB.out | apply below_alloc | apply pw_below_drewN | apply below_drew1) | exact HB.out)) hb); clear HB; have HB := n0_; clear n0_; (try clear hb); (try clear hb2); (try clear hk); (try clear hi))))
    go_ret
    exact ⟨by first | rfl | (simp [errW_none, errW_some] <;> rfl) | (simp [*, errW_none, errW_some] <;> rfl), by repeat (first | (with_reducible first | exact HB.out | apply below_alloc | apply pw_below_drewN | apply below_drew1) | exact HB.out)⟩

/-- THE ONE PURE STATEMENT of souklaw01_MoneyDivides: yours. -/
def souklaw01_MoneyDivides.Pure : Prop := ∀ (a0 : Int) (a1 : Int) (a2 : Int), (Lit.int .i64 a0).wf = true → (Lit.int .i64 a1).wf = true → (Lit.int .i64 a2).wf = true → ∃ k, souklaw01_MoneyDivides.f k a0 a1 a2 = some true
theorem souklaw01_MoneyDivides.walk (P : souklaw01_MoneyDivides.Pure) (a0 : Int) (a1 : Int) (a2 : Int) (w : World) (w0 : (Lit.int .i64 a0).wf = true) (w1 : (Lit.int .i64 a1).wf = true) (w2 : (Lit.int .i64 a2).wf = true) :
    Calls Try.prog 4 #[.int .i64 a0, .int .i64 a1, .int .i64 a2] w fun e w' => e = .returned (.bool true) ∧ Below w.heap.size w w' := by
  obtain ⟨k, h⟩ := P a0 a1 a2 w0 w1 w2
  refine (souklaw01_MoneyDivides.calls k a0 a1 a2 true w h).mono ?_
  rintro e w' ⟨rfl, hd⟩
  exact ⟨rfl, hd⟩

end Go.Proofs.Ytncnhhnbjmpomaa.Q

/-! PEv -/
namespace Go.Proofs.Ytncnhhnbjmpomaa.Q
open Go.RowKit
set_option linter.unusedVariables false
set_option linter.unusedSimpArgs false
/-- with enough rounds f tells v -/
def EvT {α : Type} (f : Nat → Option α) (v : α) : Prop := ∃ m, ∀ k, m ≤ k → f k = some v
section
variable {α β : Type} {f g : Nat → Option α} {v : α} {w : β}
theorem EvT.const (v : α) : EvT (fun _ => some v) v := ⟨0, fun _ _ => rfl⟩
theorem EvT.step (h : ∀ k, f (k + 1) = g k) (hg : EvT g v) : EvT f v := by
  obtain ⟨m, hm⟩ := hg
  refine ⟨m + 1, fun k hk => ?_⟩
  obtain ⟨j, rfl⟩ : ∃ j, k = j + 1 := ⟨k - 1, by omega⟩
  rw [h]; exact hm j (by omega)
theorem EvT.step2 (h : ∀ k, f (k + 2) = g k) (hg : EvT g v) : EvT f v := by
  obtain ⟨m, hm⟩ := hg
  refine ⟨m + 2, fun k hk => ?_⟩
  obtain ⟨j, rfl⟩ : ∃ j, k = j + 2 := ⟨k - 2, by omega⟩
  rw [h]; exact hm j (by omega)
theorem EvT.done (h : ∀ k, f (k + 1) = some v) : EvT f v := EvT.step h (EvT.const v)
theorem EvT.congr (h : ∀ k, f k = g k) (hg : EvT g v) : EvT f v := by
  obtain ⟨m, hm⟩ := hg
  exact ⟨m, fun k hk => by rw [h]; exact hm k hk⟩
theorem EvT.bind {F : Nat → α → Option β} (hf : EvT f v) (hF : EvT (fun k => F k v) w) : EvT (fun k => (f k).bind (F k)) w := by
  obtain ⟨m, hm⟩ := hf
  obtain ⟨n, hn⟩ := hF
  refine ⟨m + n, fun k hk => ?_⟩
  show (f k).bind (F k) = _
  rw [hm k (by omega)]; exact hn k (by omega)
theorem EvT.of_add (h : ∃ m, ∀ k, f (k + m) = some v) : EvT f v := by
  obtain ⟨m, hm⟩ := h
  refine ⟨m, fun k hk => ?_⟩
  have := hm (k - m)
  rwa [show k - m + m = k by omega] at this
theorem EvT.one (h : EvT f v) : ∃ k, f k = some v := by
  obtain ⟨m, hm⟩ := h
  exact ⟨m, hm m (Nat.le_refl _)⟩
theorem EvT.to_add (h : EvT f v) : ∃ m, ∀ k, f (k + m) = some v := by
  obtain ⟨m, hm⟩ := h
  exact ⟨m, fun k => hm _ (by omega)⟩
end
/-- a counter's next value, as the walk tells it -/
theorem nx (i : Nat) (h : i < 1000000000000) : wrap64 ((i : Int) + 1) = ((i + 1 : Nat) : Int) := by
  unfold wrap64; omega
theorem pv (i : Nat) (h : i < 1000000000000) : wrap64 (((i + 1 : Nat) : Int) - 1) = (i : Int) := by
  unfold wrap64; omega
theorem pv1 (i : Nat) (h : i < 1000000000000) : wrap64 ((i : Int) - 1) = (i : Int) - 1 := by
  unfold wrap64; omega
end Go.Proofs.Ytncnhhnbjmpomaa.Q

/-! PWide -/
namespace Go.Proofs.Ytncnhhnbjmpomaa.Q
open Go.RowKit Go.Proofs.YtncnhhnbjmpomaaW.PrintWords Go.Proofs.YtncnhhnbjmpomaaW.PrintLast Go.Proofs.YtncnhhnbjmpomaaW.PrintMore
set_option linter.unusedVariables false
set_option linter.unusedSimpArgs false
def bv (b : Bool) : Nat := if b = true then 1 else 0
def val : List Bool → Nat
  | [] => 0
  | b :: l => bv b + 2 * val l
theorem bv_le (b : Bool) : bv b ≤ 1 := by cases b <;> decide
theorem val_lt : ∀ l : List Bool, val l < 2 ^ l.length
  | [] => by decide
  | b :: l => by
    have := val_lt l
    have := bv_le b
    simp only [val, List.length_cons, Nat.pow_succ]; omega
theorem val_snoc : ∀ (l : List Bool) (b : Bool), val (l ++ [b]) = val l + 2 ^ l.length * bv b
  | [], b => by simp [val]
  | c :: l, b => by
    simp only [List.cons_append, val, val_snoc l b, List.length_cons, Nat.pow_succ]
    rw [Nat.mul_add, Nat.mul_comm (2 ^ l.length) 2, Nat.mul_assoc]; omega
theorem val_app : ∀ (l r : List Bool), val (l ++ r) = val l + 2 ^ l.length * val r
  | [], r => by simp [val]
  | c :: l, r => by
    simp only [List.cons_append, val, val_app l r, List.length_cons, Nat.pow_succ]
    rw [Nat.mul_add, Nat.mul_comm (2 ^ l.length) 2, Nat.mul_assoc]; omega
def bat (a : List Bool) (i : Nat) : Bool := a.getD i false
theorem val_take_succ (a : List Bool) (i : Nat) : val (a.take (i + 1)) = val (a.take i) + 2 ^ i * bv (bat a i) := by
  by_cases h : i < a.length
  · rw [List.take_succ_eq_append_getElem h, val_snoc, List.length_take, Nat.min_eq_left (by omega)]
    unfold bat; rw [List.getD_eq_getElem?_getD, List.getElem?_eq_getElem h]; rfl
  · rw [List.take_of_length_le (by omega), List.take_of_length_le (by omega)]
    unfold bat; rw [List.getD_eq_getElem?_getD, List.getElem?_eq_none (by omega)]; simp [bv]
theorem val_take_all (a : List Bool) (i : Nat) (h : a.length ≤ i) : val (a.take i) = val a := by rw [List.take_of_length_le h]
theorem val_split (a : List Bool) (i : Nat) (h : i ≤ a.length) : val a = val (a.take i) + 2 ^ i * val (a.drop i) := by
  conv => lhs; rw [← List.take_append_drop i a, val_app]
  rw [List.length_take, Nat.min_eq_left h]
theorem at_ok (a : List Bool) (i : Nat) : soukref01_Wide_at.f a (i : Int) = some (bat a i) := by
  unfold soukref01_Wide_at.f bat
  by_cases h : i < a.length
  · rw [if_pos (by omega), if_pos (by omega)]
    unfold rdOf; rw [Int.toNat_natCast]
  · rw [if_neg (by omega), List.getD_eq_getElem?_getD, List.getElem?_eq_none (by omega)]; rfl
theorem rdOf_at (a : List Bool) (i : Nat) : rdOf false a (i : Int) = bat a i := by unfold rdOf bat; rw [Int.toNat_natCast]
/-- without bits that are not needed -/
def trimF : List Bool → List Bool
  | [] => []
  | b :: l => if b = false ∧ trimF l = [] then [] else b :: trimF l
theorem trimF_val : ∀ l : List Bool, val (trimF l) = val l
  | [] => rfl
  | b :: l => by
    have ih := trimF_val l
    unfold trimF
    split
    · rename_i h
      obtain ⟨rfl, h2⟩ := h
      rw [h2] at ih
      simp only [val] at ih ⊢
      rw [← ih]; rfl
    · simp only [val, ih]
theorem trimF_len : ∀ l : List Bool, (trimF l).length ≤ l.length
  | [] => Nat.le_refl _
  | b :: l => by
    have := trimF_len l
    unfold trimF
    split
    · simp
    · simp; omega
theorem trimF_nil : ∀ l : List Bool, trimF l = [] ↔ val l = 0
  | [] => by simp [trimF, val]
  | b :: l => by
    have ih := trimF_nil l
    unfold trimF
    split
    · rename_i h
      obtain ⟨rfl, h2⟩ := h
      have := ih.1 h2
      simp [val, this, bv]
    · rename_i h
      simp only [reduceCtorEq, false_iff, val]
      intro h0
      apply h
      cases b with
      | true => simp [bv] at h0
      | false => exact ⟨rfl, ih.2 (by simp [bv] at h0; omega)⟩
theorem trimF_pow : ∀ l : List Bool, trimF l ≠ [] → 2 ^ ((trimF l).length - 1) ≤ val l
  | [], h => absurd rfl h
  | b :: l, h => by
    unfold trimF at h ⊢
    split at h
    · exact absurd rfl h
    · rename_i hc
      rw [if_neg hc]
      simp only [List.length_cons, Nat.add_sub_cancel, val]
      by_cases hl : trimF l = []
      · rw [hl]
        cases b with
        | true => simp [bv]
        | false => exact absurd ⟨rfl, hl⟩ hc
      · have := trimF_pow l hl
        have hpos : 0 < (trimF l).length := List.length_pos_iff.2 hl
        obtain ⟨n, hn⟩ : ∃ n, (trimF l).length = n + 1 := ⟨(trimF l).length - 1, by omega⟩
        rw [hn] at this ⊢
        rw [Nat.pow_succ]
        simp at this; omega
theorem trimF_false : ∀ l : List Bool, trimF (l ++ [false]) = trimF l
  | [] => rfl
  | b :: l => by simp only [List.cons_append, trimF, trimF_false l]
theorem trimF_true : ∀ l : List Bool, trimF (l ++ [true]) = l ++ [true]
  | [] => rfl
  | b :: l => by
    simp only [List.cons_append, trimF, trimF_true l]
    rw [if_neg (by simp)]
theorem trim_from (a : List Bool) (ha : a.length ≤ 1000000) : ∀ j, j ≤ a.length → EvT (fun k => soukref01_trim.l0 k a (j : Int)) (trimF (a.take j))
  | 0, _ => by
    refine EvT.done (fun k => ?_)
    simp only [soukref01_trim.l0]
    rw [if_neg (by omega), if_pos (by omega), if_pos (by omega)]
    simp [trimF]
  | j + 1, hj => by
    have ih := trim_from a ha j (by omega)
    have hlt : j < a.length := by omega
    have ht : a.take (j + 1) = a.take j ++ [bat a j] := by
      rw [List.take_succ_eq_append_getElem hlt]; unfold bat; rw [List.getD_eq_getElem?_getD, List.getElem?_eq_getElem hlt]; rfl
    cases hb : bat a j with
    | true =>
      refine EvT.done (fun k => ?_)
      simp only [soukref01_trim.l0]
      rw [if_pos (by omega), pv j (by omega), if_pos (by omega), if_pos (by omega), rdOf_at, if_pos hb, if_pos (by omega), if_pos (by omega), Int.toNat_natCast, ht, hb, trimF_true]
    | false =>
      rw [ht, hb, trimF_false]
      refine EvT.step (fun k => ?_) ih
      simp only [soukref01_trim.l0]
      rw [if_pos (by omega), pv j (by omega), if_pos (by omega), if_pos (by omega), rdOf_at, if_neg (by rw [hb]; decide)]
theorem trim_ok (a : List Bool) (ha : a.length ≤ 1000000) : EvT (fun k => soukref01_trim.f k a) (trimF a) := by
  have := trim_from a ha a.length (Nat.le_refl _)
  rw [List.take_length] at this
  exact this
end Go.Proofs.Ytncnhhnbjmpomaa.Q

/-! PWib -/
namespace Go.Proofs.Ytncnhhnbjmpomaa.Q
open Go.RowKit Go.Proofs.YtncnhhnbjmpomaaW.PrintWords Go.Proofs.YtncnhhnbjmpomaaW.PrintLast Go.Proofs.YtncnhhnbjmpomaaW.PrintMore
set_option linter.unusedVariables false
set_option linter.unusedSimpArgs false
def bitsN : Nat → List Bool
  | 0 => []
  | n + 1 => decide ((n + 1) % 2 = 1) :: bitsN ((n + 1) / 2)
termination_by n => n
theorem bitsN_pos (n : Nat) (h : 0 < n) : bitsN n = decide (n % 2 = 1) :: bitsN (n / 2) := by
  obtain ⟨m, rfl⟩ : ∃ m, n = m + 1 := ⟨n - 1, by omega⟩
  rw [bitsN]
theorem bitsN_val : ∀ n : Nat, val (bitsN n) = n := by
  intro n
  induction n using Nat.strongRecOn with
  | ind n ih =>
  by_cases h : 0 < n
  · rw [bitsN_pos n h]
    simp only [val, ih (n / 2) (by omega)]
    by_cases h2 : n % 2 = 1
    · simp [bv, h2]; omega
    · simp [bv, h2]; omega
  · have : n = 0 := by omega
    subst this; rw [bitsN]; rfl
theorem bitsN_len : ∀ (j n : Nat), n < 2 ^ j → (bitsN n).length ≤ j
  | 0, n, h => by have : n = 0 := by simpa using h
                  subst this; rw [bitsN]; simp
  | j + 1, n, h => by
    by_cases h0 : 0 < n
    · rw [bitsN_pos n h0]
      have := bitsN_len j (n / 2) (by rw [Nat.pow_succ] at h; omega)
      simp; omega
    · have : n = 0 := by omega
      subst this; rw [bitsN]; simp
theorem and1 (n : Nat) (h : n < 18446744073709551616) : Go.bits .and .u64 (n : Int) 1 = ((n % 2 : Nat) : Int) := by
  have := bits_and_u64_nat n 1 h (by decide)
  have e : ((1 : Nat) : Int) = 1 := rfl
  rw [e] at this
  rw [this, Nat.and_one_is_mod]
theorem bits_from : ∀ (j n : Nat) (out : List Bool), n < 2 ^ j → j ≤ 64 → out.length + j ≤ 1000 → EvT (fun k => soukref01_bits.l0 k out (n : Int)) (out ++ bitsN n) := by
  intro j
  induction j with
  | zero =>
    intro n out h _ _
    have : n = 0 := by simpa using h
    subst this
    refine EvT.done (fun k => ?_)
    simp only [soukref01_bits.l0]
    rw [if_neg (by decide), bitsN, List.append_nil]
  | succ j ih =>
    intro n out h hj hl
    by_cases h0 : 0 < n
    · have h64 : n < 18446744073709551616 := Nat.lt_of_lt_of_le h (Nat.pow_le_pow_right (by decide) hj)
      have := ih (n / 2) (out ++ [decide (n % 2 = 1)]) (by rw [Nat.pow_succ] at h; omega) (by omega) (by simp; omega)
      rw [List.append_assoc, List.singleton_append, ← bitsN_pos n h0] at this
      refine EvT.step (fun k => ?_) this
      simp only [soukref01_bits.l0]
      have e1 : ((n : Int) / 2) = ((n / 2 : Nat) : Int) := by omega
      have e2 : (((n % 2 : Nat) : Int) == 1) = decide (n % 2 = 1) := by
        by_cases h2 : n % 2 = 1
        · simp [h2]
        · have : n % 2 = 0 := by omega
          simp [this]
      rw [if_pos (by omega), if_pos (by omega), and1 n h64, e1, e2]
    · have : n = 0 := by omega
      subst this
      refine EvT.done (fun k => ?_)
      simp only [soukref01_bits.l0]
      rw [if_neg (by decide), bitsN, List.append_nil]
theorem bits_ok (a : Int) (ha : inR a) : EvT (fun k => soukref01_bits.f k a) (bitsN a.natAbs) := by
  unfold inR at ha
  have key : ∀ n : Nat, n < 18446744073709551616 → EvT (fun k => soukref01_bits.j0 k [] (n : Int)) (bitsN n) := fun n hn => by
    refine EvT.step (fun k => ?_) (bits_from 64 n [] hn (Nat.le_refl _) (by decide))
    simp only [soukref01_bits.j0]
  by_cases h : a < 0
  · refine EvT.congr (fun k => ?_) (key a.natAbs (by omega))
    unfold soukref01_bits.f
    rw [if_pos h]
    have : IntKind.u64.wrap (-IntKind.u64.wrap a) = (a.natAbs : Int) := by
      rw [IntKind.wrap_u64, IntKind.wrap_u64]; omega
    rw [this]
  · refine EvT.congr (fun k => ?_) (key a.natAbs (by omega))
    unfold soukref01_bits.f
    rw [if_neg h]
    have : IntKind.u64.wrap a = (a.natAbs : Int) := by
      rw [IntKind.wrap_u64]; omega
    rw [this]
theorem bitsN_len64 (a : Int) (ha : inR a) : (bitsN a.natAbs).length ≤ 64 := by
  unfold inR at ha
  exact bitsN_len 64 _ (by omega)
/-! Plus -/
def maj (x y z : Bool) : Bool := (x && y) || (x && z) || (y && z)
theorem add3 (x y z : Bool) : bv x + bv y + bv z = bv ((x != y) != z) + 2 * bv (maj x y z) := by cases x <;> cases y <;> cases z <;> decide
theorem plus_go (a b out : List Bool) (c : Bool) (i : Nat) (hi : i < 1000000) (ho : out.length < 1000000) (hc : i < a.length ∨ i < b.length ∨ c = true) (k : Nat) :
    soukref01_Plus.l0 (k + 2) a b out c (i : Int) = soukref01_Plus.l0 k a b (out ++ [((bat a i) != (bat b i)) != c]) (maj (bat a i) (bat b i) c) ((i + 1 : Nat) : Int) := by
  have hj : soukref01_Plus.j1 (k + 1) a b out c (i : Int) true = soukref01_Plus.l0 k a b (out ++ [((bat a i) != (bat b i)) != c]) (maj (bat a i) (bat b i) c) ((i + 1 : Nat) : Int) := by
    simp only [soukref01_Plus.j1]
    rw [if_pos trivial, at_ok, at_ok]
    simp only [Option.bind_some]
    rw [nx i (by omega)]
    have hl : out.length < 140737488355328 := by omega
    cases bat a i <;> cases bat b i <;> cases c <;> simp [hl, maj]
  show soukref01_Plus.l0 (k + 1 + 1) _ _ _ _ _ = _
  obtain ⟨K, hK⟩ : ∃ K, K = k + 1 := ⟨_, rfl⟩
  rw [← hK] at hj ⊢
  simp only [soukref01_Plus.l0]
  by_cases h1 : i < a.length
  · rw [if_pos (by omega), hj]
  · rw [if_neg (by omega)]
    by_cases h2 : i < b.length
    · rw [if_pos (by omega), hj]
    · rw [if_neg (by omega)]
      have h3 : c = true := by rcases hc with h | h | h; exact absurd h h1; exact absurd h h2; exact h
      subst h3
      exact hj
theorem plus_from (a b : List Bool) (ha : a.length ≤ 100000) (hb : b.length ≤ 100000) : ∀ (d i : Nat) (out : List Bool) (c : Bool), max a.length b.length - i = d → out.length = i → i ≤ max a.length b.length →
    val out + 2 ^ i * bv c = val (a.take i) + val (b.take i) → ∃ r, EvT (fun k => soukref01_Plus.l0 k a b out c (i : Int)) r ∧ val r = val a + val b ∧ r.length ≤ max a.length b.length + 1 := by
  intro d
  induction d with
  | zero =>
    intro i out c hd ho hi hv
    have e : i = max a.length b.length := by omega
    rw [val_take_all a i (by omega), val_take_all b i (by omega)] at hv
    cases c with
    | false =>
      refine ⟨out, EvT.step (g := fun k => soukref01_Plus.j1 k a b out false i false) (fun k => ?_) (EvT.done (fun k => ?_)), by simpa [bv] using hv, by omega⟩
      · simp only [soukref01_Plus.l0]
        rw [if_neg (by omega), if_neg (by omega)]
      · simp only [soukref01_Plus.j1]
        rw [if_neg (by decide)]
    | true =>
      have ha0 : bat a i = false := by unfold bat; rw [List.getD_eq_getElem?_getD, List.getElem?_eq_none (by omega)]; rfl
      have hb0 : bat b i = false := by unfold bat; rw [List.getD_eq_getElem?_getD, List.getElem?_eq_none (by omega)]; rfl
      refine ⟨out ++ [true], EvT.step2 (g := fun k => soukref01_Plus.l0 k a b (out ++ [true]) false ((i + 1 : Nat) : Int)) (fun k => ?_) ?_, ?_, by simp; omega⟩
      · rw [plus_go a b out true i (by omega) (by omega) (.inr (.inr rfl)) k, ha0, hb0]; rfl
      · refine EvT.step (g := fun k => soukref01_Plus.j1 k a b (out ++ [true]) false ((i + 1 : Nat) : Int) false) (fun k => ?_) (EvT.done (fun k => ?_))
        · simp only [soukref01_Plus.l0]
          rw [if_neg (by omega), if_neg (by omega)]
        · simp only [soukref01_Plus.j1]
          rw [if_neg (by decide)]
      · rw [val_snoc, ho]; exact hv
  | succ d ih =>
    intro i out c hd ho hi hv
    have hlt : i < max a.length b.length := by omega
    obtain ⟨r, h1, h2, h3⟩ := ih (i + 1) (out ++ [((bat a i) != (bat b i)) != c]) (maj (bat a i) (bat b i) c) (by omega) (by simp [ho]) (by omega) (by
      have h3 := add3 (bat a i) (bat b i) c
      rw [val_snoc, ho, val_take_succ, val_take_succ, Nat.pow_succ]
      generalize bat a i = x at *
      generalize bat b i = y at *
      generalize 2 ^ i = p at *
      cases x <;> cases y <;> cases c <;> simp [bv, maj] at hv ⊢ <;> omega)
    refine ⟨r, EvT.step2 (fun k => ?_) h1, h2, h3⟩
    exact plus_go a b out c i (by omega) (by omega) (by omega) k
theorem plus_ok (a b : List Bool) (ha : a.length ≤ 100000) (hb : b.length ≤ 100000) : ∃ r, EvT (fun k => soukref01_Plus.f k a b) r ∧ val r = val a + val b ∧ r.length ≤ max a.length b.length + 1 := by
  obtain ⟨r, h1, h2, h3⟩ := plus_from a b ha hb _ 0 [] false rfl rfl (by omega) (by simp [val, bv])
  exact ⟨r, h1, h2, h3⟩
/-! less -/
theorem less_from (a b : List Bool) : ∀ j : Nat, j ≤ 100000 → EvT (fun k => soukref01_less.l0 k a b ((j : Int) - 1)) (decide (val (a.take j) < val (b.take j)))
  | 0, _ => by
    refine EvT.done (fun k => ?_)
    simp only [soukref01_less.l0]
    rw [if_neg (by omega)]; simp [val]
  | j + 1, hj => by
    have ih := less_from a b j (by omega)
    have e : ((j + 1 : Nat) : Int) - 1 = (j : Int) := by omega
    rw [e, val_take_succ, val_take_succ]
    have hA := val_lt (a.take j)
    have hB := val_lt (b.take j)
    have hA2 : val (a.take j) < 2 ^ j := Nat.lt_of_lt_of_le hA (Nat.pow_le_pow_right (by decide) (List.length_take_le _ _))
    have hB2 : val (b.take j) < 2 ^ j := Nat.lt_of_lt_of_le hB (Nat.pow_le_pow_right (by decide) (List.length_take_le _ _))
    clear hA hB
    have hgo : ∀ k, soukref01_less.l0 (k + 1) a b (j : Int) = if bat a j = true then (if bat b j = true then soukref01_less.l0 k a b ((j : Int) - 1) else some (bat b j)) else (if bat b j = true then some (bat b j) else soukref01_less.l0 k a b ((j : Int) - 1)) := fun k => by
      simp only [soukref01_less.l0]
      rw [if_pos (by omega), at_ok, at_ok]
      simp only [Option.bind_some]
      rw [pv1 j (by omega)]
    cases hx : bat a j <;> cases hy : bat b j
    · have e2 : decide (val (a.take j) + 2 ^ j * bv false < val (b.take j) + 2 ^ j * bv false) = decide (val (a.take j) < val (b.take j)) := by simp [bv]
      rw [e2]
      exact EvT.step (fun k => by rw [hgo, hx, hy]; rfl) ih
    · have e2 : decide (val (a.take j) + 2 ^ j * bv false < val (b.take j) + 2 ^ j * bv true) = true := by simp [bv]; omega
      rw [e2]
      exact EvT.done (fun k => by rw [hgo, hx, hy]; rfl)
    · have e2 : decide (val (a.take j) + 2 ^ j * bv true < val (b.take j) + 2 ^ j * bv false) = false := by simp [bv]; omega
      rw [e2]
      exact EvT.done (fun k => by rw [hgo, hx, hy]; rfl)
    · have e2 : decide (val (a.take j) + 2 ^ j * bv true < val (b.take j) + 2 ^ j * bv true) = decide (val (a.take j) < val (b.take j)) := by simp [bv]
      rw [e2]
      exact EvT.step (fun k => by rw [hgo, hx, hy]; rfl) ih
theorem less_ok (a b : List Bool) (ha : a.length ≤ 100000) (hb : b.length ≤ 100000) : EvT (fun k => soukref01_less.f k a b) (decide (val a < val b)) := by
  have key : ∀ n, n ≤ 100000 → a.length ≤ n → b.length ≤ n → EvT (fun k => soukref01_less.l0 k a b ((n : Int) - 1)) (decide (val a < val b)) := fun n h h1 h2 => by
    have := less_from a b n h
    rwa [val_take_all a n h1, val_take_all b n h2] at this
  by_cases h : a.length < b.length
  · refine EvT.congr (fun k => ?_) (key b.length hb (by omega) (Nat.le_refl _))
    unfold soukref01_less.f
    rw [if_pos (by omega), pv1 _ (by omega)]
  · refine EvT.congr (fun k => ?_) (key a.length ha (Nat.le_refl _) (by omega))
    unfold soukref01_less.f
    rw [if_neg (by omega), pv1 _ (by omega)]
end Go.Proofs.Ytncnhhnbjmpomaa.Q

/-! PWic -/
namespace Go.Proofs.Ytncnhhnbjmpomaa.Q
open Go.RowKit Go.Proofs.YtncnhhnbjmpomaaW.PrintWords Go.Proofs.YtncnhhnbjmpomaaW.PrintLast Go.Proofs.YtncnhhnbjmpomaaW.PrintMore
set_option linter.unusedVariables false
set_option linter.unusedSimpArgs false
/-- what is borrowed -/
def bor (x y w : Bool) : Bool := (!x && (y || w)) || (y && w)
theorem sub3 (x y w : Bool) : bv ((x != y) != w) + bv y + bv w = bv x + 2 * bv (bor x y w) := by cases x <;> cases y <;> cases w <;> decide
theorem minus_go (a b out : List Bool) (c : Bool) (i : Nat) (hi : i < a.length) (ha : a.length ≤ 100000) (ho : out.length < 1000000) (k : Nat) :
    soukref01_minus.l0 (k + 1) a b out c (i : Int) = soukref01_minus.l0 k a b (out ++ [((bat a i) != (bat b i)) != c]) (bor (bat a i) (bat b i) c) ((i + 1 : Nat) : Int) := by
  simp only [soukref01_minus.l0]
  rw [if_pos (by omega), at_ok, at_ok]
  simp only [Option.bind_some]
  rw [nx i (by omega)]
  have hl : out.length < 140737488355328 := by omega
  cases bat a i <;> cases bat b i <;> cases c <;> simp [hl, bor]
theorem minus_from (a b : List Bool) (ha : a.length ≤ 100000) : ∀ (d i : Nat) (out : List Bool) (c : Bool), a.length - i = d → out.length = i → i ≤ a.length →
    val out + val (b.take i) = val (a.take i) + 2 ^ i * bv c → ∃ r c', EvT (fun k => soukref01_minus.l0 k a b out c (i : Int)) (trimF r) ∧ r.length = a.length ∧ val r + val (b.take a.length) = val a + 2 ^ a.length * bv c' := by
  intro d
  induction d with
  | zero =>
    intro i out c hd ho hi hv
    have e : i = a.length := by omega
    subst e
    rw [List.take_length] at hv
    refine ⟨out, c, EvT.step (g := fun k => (soukref01_trim.f k out).bind fun t => some t) (fun k => ?_) ?_, ho, hv⟩
    · simp only [soukref01_minus.l0]
      rw [if_neg (by omega)]
    · exact EvT.bind (F := fun _ t => some t) (trim_ok out (by omega)) (EvT.const _)
  | succ d ih =>
    intro i out c hd ho hi hv
    obtain ⟨r, c', h1, h2⟩ := ih (i + 1) (out ++ [((bat a i) != (bat b i)) != c]) (bor (bat a i) (bat b i) c) (by omega) (by simp [ho]) (by omega) (by
      have h3 := sub3 (bat a i) (bat b i) c
      rw [val_snoc, ho, val_take_succ, val_take_succ, Nat.pow_succ]
      generalize bat a i = x at *
      generalize bat b i = y at *
      generalize 2 ^ i = p at *
      cases x <;> cases y <;> cases c <;> simp [bv, bor] at hv ⊢ <;> omega)
    exact ⟨r, c', EvT.step (fun k => minus_go a b out c i (by omega) ha (by omega) k) h1, h2⟩
theorem val_take_lt (b : List Bool) (n : Nat) (h : val b < 2 ^ n) : val (b.take n) = val b := by
  by_cases hn : b.length ≤ n
  · exact val_take_all b n hn
  · have h1 := val_split b n (by omega)
    have : val (b.drop n) = 0 := by
      apply Classical.byContradiction
      intro h0
      have : 2 ^ n * 1 ≤ 2 ^ n * val (b.drop n) := Nat.mul_le_mul_left _ (by omega)
      omega
    rw [this] at h1; simpa using h1.symm
theorem minus_ok (a b : List Bool) (ha : a.length ≤ 100000) (hle : val b ≤ val a) : ∃ r, EvT (fun k => soukref01_minus.f k a b) (trimF r) ∧ val r = val a - val b ∧ r.length = a.length := by
  obtain ⟨r, c, h1, h2, h3⟩ := minus_from a b ha _ 0 [] false rfl rfl (by omega) (by simp [val, bv])
  refine ⟨r, h1, ?_, h2⟩
  have hA := val_lt a
  have hr := val_lt r
  rw [h2] at hr
  rw [val_take_lt b a.length (by omega)] at h3
  cases c with
  | false => simp [bv] at h3; omega
  | true => simp [bv] at h3; omega
/-! Times -/
theorem drop_bat (b : List Bool) (j : Nat) (h : j < b.length) : b.drop j = bat b j :: b.drop (j + 1) := by
  rw [← List.getElem_cons_drop (h := h)]
  unfold bat; rw [List.getD_eq_getElem?_getD, List.getElem?_eq_getElem h]; rfl
theorem times_from (a b : List Bool) (ha : a.length ≤ 1000) (hb : b.length ≤ 1000) : ∀ (j : Nat) (out : List Bool), j ≤ b.length → out.length ≤ 10000 + (b.length - j) * 2 → val out = val a * val (b.drop j) →
    ∃ r, EvT (fun k => soukref01_Times.l0 k a b out ((j : Int) - 1)) (trimF r) ∧ val r = val a * val b ∧ r.length ≤ 20000
  | 0, out, _, ho, hv => by
    refine ⟨out, EvT.step (g := fun k => (soukref01_trim.f k out).bind fun t => some t) (fun k => ?_) ?_, by simpa using hv, by omega⟩
    · simp only [soukref01_Times.l0]
      rw [if_neg (by omega)]
    · exact EvT.bind (F := fun _ t => some t) (trim_ok out (by omega)) (EvT.const _)
  | j + 1, out, hj, ho, hv => by
    have e : ((j + 1 : Nat) : Int) - 1 = (j : Int) := by omega
    have hlt : j < b.length := by omega
    have hd := drop_bat b j hlt
    rw [e]
    cases hb1 : bat b j with
    | false =>
      have hv2 : val (false :: out) = val a * val (b.drop j) := by
        rw [hd, hb1]; simp only [val, bv]; rw [hv]; simp [Nat.mul_left_comm]
      obtain ⟨r, h1, h2⟩ := times_from a b ha hb j (false :: out) (by omega) (by simp; omega) hv2
      refine ⟨r, EvT.step (fun k => ?_) h1, h2⟩
      simp only [soukref01_Times.l0]
      rw [if_pos (by omega)]
      simp only [Option.bind_some, List.length_cons, List.length_nil, List.cons_append, List.nil_append]
      rw [if_pos (by omega), if_pos (by omega), if_pos (by omega), rdOf_at, if_neg (by rw [hb1]; decide), pv1 j (by omega)]
    | true =>
      obtain ⟨s, hs1, hs2, hs3⟩ := plus_ok (false :: out) a (by simp; omega) (by omega)
      have hv2 : val s = val a * val (b.drop j) := by
        rw [hd, hb1, hs2]; simp only [val, bv]; rw [hv]; simp [Nat.mul_add, Nat.mul_left_comm]; omega
      obtain ⟨r, h1, h2⟩ := times_from a b ha hb j s (by omega) (by simp at hs3; omega) hv2
      refine ⟨r, EvT.step (g := fun k => (soukref01_Plus.f k (false :: out) a).bind fun t => soukref01_Times.l0 k a b t ((j : Int) - 1)) (fun k => ?_) (EvT.bind (F := fun k t => soukref01_Times.l0 k a b t ((j : Int) - 1)) hs1 h1), h2⟩
      simp only [soukref01_Times.l0]
      rw [if_pos (by omega)]
      simp only [Option.bind_some, List.length_cons, List.length_nil, List.cons_append, List.nil_append]
      rw [if_pos (by omega), if_pos (by omega), if_pos (by omega), rdOf_at, if_pos hb1, pv1 j (by omega)]
theorem times_ok (a b : List Bool) (ha : a.length ≤ 1000) (hb : b.length ≤ 1000) : ∃ r, EvT (fun k => soukref01_Times.f k a b) (trimF r) ∧ val r = val a * val b ∧ r.length ≤ 20000 := by
  obtain ⟨r, h1, h2⟩ := times_from a b ha hb b.length [] (Nat.le_refl _) (by simp) (by simp [val])
  refine ⟨r, EvT.congr (fun k => ?_) h1, h2⟩
  unfold soukref01_Times.f
  rw [pv1 _ (by omega)]
/-! Div -/
theorem trimF_idem : ∀ l : List Bool, trimF (trimF l) = trimF l
  | [] => rfl
  | b :: l => by
    have ih := trimF_idem l
    by_cases h : b = false ∧ trimF l = []
    · have : trimF (b :: l) = [] := by unfold trimF; rw [if_pos h]
      rw [this]; rfl
    · have e : trimF (b :: l) = b :: trimF l := by rw [trimF, if_neg h]
      rw [e, trimF, ih, if_neg h]
theorem canon_len (r b : List Bool) (hc : r = trimF r) (hlt : val r < val b) : r.length ≤ (trimF b).length := by
  by_cases h : r = []
  · rw [h]; simp
  · have h1 := trimF_pow r (by rw [← hc]; exact h)
    rw [← hc] at h1
    have h2 := val_lt (trimF b)
    rw [trimF_val] at h2
    apply Classical.byContradiction
    intro h3
    have : 2 ^ (trimF b).length ≤ 2 ^ (r.length - 1) := Nat.pow_le_pow_right (by decide) (by omega)
    omega
theorem div_from (a b : List Bool) (ha : a.length ≤ 30000) (hb : b.length ≤ 1000) (h0 : 0 < val b) : ∀ (j : Nat) (quo rem : List Bool), j ≤ a.length → quo.length ≤ a.length - j → val rem < val b → rem = trimF rem →
    val (a.drop j) = val quo * val b + val rem →
    ∃ q r, EvT (fun k => soukref01_Div.l0 k a b quo rem ((j : Int) - 1)) (trimF q, r) ∧ val q = val a / val b ∧ val r = val a % val b ∧ r = trimF r
  | 0, quo, rem, _, hq, hlt, hc, hv => by
    refine ⟨quo, rem, EvT.step (g := fun k => (soukref01_trim.f k quo).bind fun t => some (t, rem)) (fun k => ?_) ?_, ?_, ?_, hc⟩
    · simp only [soukref01_Div.l0]
      rw [if_neg (by omega)]
    · exact EvT.bind (F := fun _ t => some (t, rem)) (trim_ok quo (by omega)) (EvT.const _)
    · rw [List.drop_zero] at hv
      rw [hv, Nat.add_comm, Nat.add_mul_div_right _ _ h0, Nat.div_eq_of_lt hlt, Nat.zero_add]
    · rw [List.drop_zero] at hv
      rw [hv, Nat.add_comm, Nat.add_mul_mod_self_right, Nat.mod_eq_of_lt hlt]
  | j + 1, quo, rem, hj, hq, hlt, hc, hv => by
    have hr : rem.length ≤ 1000 := Nat.le_trans (canon_len rem b hc hlt) (Nat.le_trans (trimF_len b) hb)
    have e : ((j + 1 : Nat) : Int) - 1 = (j : Int) := by omega
    have hla : j < a.length := by omega
    have hd := drop_bat a j hla
    rw [e]
    -- the rest with one bit more
    have ht := trim_ok (bat a j :: rem) (by simp; omega)
    have htv : val (trimF (bat a j :: rem)) = bv (bat a j) + 2 * val rem := by rw [trimF_val]; rfl
    have htl := trimF_len (bat a j :: rem)
    have hL := less_ok (trimF (bat a j :: rem)) b (by simp at htl; omega) (by omega)
    rw [htv] at hL
    have hvd : val (a.drop j) = bv (bat a j) + 2 * (val quo * val b + val rem) := by rw [hd]; simp only [val, hv]
    have hgo : ∀ k, soukref01_Div.l0 (k + 1) a b quo rem (j : Int) = (soukref01_trim.f k (bat a j :: rem)).bind fun t205 => (soukref01_less.f k t205 b).bind fun t208 => if t208 = true then soukref01_Div.l0 k a b ((!t208) :: quo) t205 ((j : Int) - 1) else (soukref01_minus.f k t205 b).bind fun t215 => soukref01_Div.l0 k a b ((!t208) :: quo) t215 ((j : Int) - 1) := fun k => by
      simp only [soukref01_Div.l0]
      rw [if_pos (by omega), if_pos (by omega), if_pos (by omega), rdOf_at]
      simp only [Option.bind_some, List.length_cons, List.length_nil, List.cons_append, List.nil_append]
      have hq1 : 0 + 1 + quo.length < 140737488355328 := by omega
      rw [if_pos (by omega), pv1 j (by omega)]
      simp only [if_pos hq1]
    by_cases hl : bv (bat a j) + 2 * val rem < val b
    · rw [decide_eq_true hl] at hL
      obtain ⟨q, r, h1, h2⟩ := div_from a b ha hb h0 j (false :: quo) (trimF (bat a j :: rem)) (by omega) (by simp; omega) (by rw [htv]; exact hl) (trimF_idem _).symm (by
        rw [hvd, htv]
        show _ = (0 + 2 * val quo) * val b + _
        rw [Nat.zero_add, Nat.mul_assoc]; omega)
      refine ⟨q, r, EvT.step hgo (EvT.bind (F := fun k t205 => (soukref01_less.f k t205 b).bind fun t208 => if t208 = true then soukref01_Div.l0 k a b ((!t208) :: quo) t205 ((j : Int) - 1) else (soukref01_minus.f k t205 b).bind fun t215 => soukref01_Div.l0 k a b ((!t208) :: quo) t215 ((j : Int) - 1)) ht (EvT.bind (F := fun k t208 => if t208 = true then soukref01_Div.l0 k a b ((!t208) :: quo) (trimF (bat a j :: rem)) ((j : Int) - 1) else (soukref01_minus.f k (trimF (bat a j :: rem)) b).bind fun t215 => soukref01_Div.l0 k a b ((!t208) :: quo) t215 ((j : Int) - 1)) hL (EvT.congr (fun k => if_pos rfl) h1))), h2⟩
    · rw [decide_eq_false hl] at hL
      obtain ⟨m, hm1, hm2, hm3⟩ := minus_ok (trimF (bat a j :: rem)) b (by simp at htl; omega) (by rw [htv]; omega)
      rw [htv] at hm2
      have hbv := bv_le (bat a j)
      obtain ⟨q, r, h1, h2⟩ := div_from a b ha hb h0 j (true :: quo) (trimF m) (by omega) (by simp; omega) (by rw [trimF_val, hm2]; omega) (trimF_idem _).symm (by
        rw [hvd, trimF_val, hm2]
        show _ = (1 + 2 * val quo) * val b + _
        rw [Nat.add_mul, Nat.one_mul, Nat.mul_assoc]; omega)
      refine ⟨q, r, EvT.step hgo (EvT.bind (F := fun k t205 => (soukref01_less.f k t205 b).bind fun t208 => if t208 = true then soukref01_Div.l0 k a b ((!t208) :: quo) t205 ((j : Int) - 1) else (soukref01_minus.f k t205 b).bind fun t215 => soukref01_Div.l0 k a b ((!t208) :: quo) t215 ((j : Int) - 1)) ht (EvT.bind (F := fun k t208 => if t208 = true then soukref01_Div.l0 k a b ((!t208) :: quo) (trimF (bat a j :: rem)) ((j : Int) - 1) else (soukref01_minus.f k (trimF (bat a j :: rem)) b).bind fun t215 => soukref01_Div.l0 k a b ((!t208) :: quo) t215 ((j : Int) - 1)) hL (EvT.congr (fun k => if_neg (by decide)) (EvT.bind (F := fun k t215 => soukref01_Div.l0 k a b ((!false) :: quo) t215 ((j : Int) - 1)) hm1 h1)))), h2⟩
theorem div_ok (a b : List Bool) (ha : a.length ≤ 30000) (hb : b.length ≤ 1000) (h0 : 0 < val b) : ∃ q r, EvT (fun k => soukref01_Div.f k a b) (trimF q, r) ∧ val q = val a / val b ∧ val r = val a % val b ∧ r = trimF r := by
  obtain ⟨q, r, h1, h2⟩ := div_from a b ha hb h0 a.length [] [] (Nat.le_refl _) (by simp) (by simpa [val] using h0) rfl (by simp [val])
  refine ⟨q, r, EvT.congr (fun k => ?_) h1, h2⟩
  unfold soukref01_Div.f
  rw [pv1 _ (by omega)]
/-! value -/
def valF (v : Nat) (neg : Bool) : Int × Bool :=
  if neg = true then (if v ≤ 9223372036854775808 then (-(v : Int), true) else (0, false)) else if v < 9223372036854775808 then ((v : Int), true) else (0, false)
theorem value_from (a : List Bool) (neg : Bool) (ha : a.length ≤ 64) : ∀ (j : Nat), j ≤ a.length → EvT (fun k => soukref01_value.l0 k a neg (val (a.drop j) : Nat) ((j : Int) - 1)) (valF (val a) neg)
  | 0, _ => by
    rw [List.drop_zero]
    have hv : val a < 18446744073709551616 := Nat.lt_of_lt_of_le (val_lt a) (Nat.pow_le_pow_right (by decide) ha)
    generalize val a = v at *
    cases neg with
    | true =>
      refine EvT.step (g := fun k => soukref01_value.j1 k true (v : Int) (decide ((v : Int) ≤ 9223372036854775808))) (fun k => ?_) (EvT.done (fun k => ?_))
      · simp only [soukref01_value.l0]
        rw [if_neg (by omega), if_pos trivial]
      · simp only [soukref01_value.j1]
        unfold valF
        rw [if_pos rfl]
        by_cases h : v ≤ 9223372036854775808
        · rw [if_pos (by simp; omega), if_pos h]
          have : wrap64 (IntKind.u64.wrap (-(v : Int))) = -(v : Int) := by rw [IntKind.wrap_u64]; unfold wrap64; omega
          rw [this]
        · rw [if_neg (by simp; omega), if_neg h, if_neg (by omega)]
    | false =>
      refine EvT.step (g := fun k => soukref01_value.j1 k false (v : Int) false) (fun k => ?_) (EvT.done (fun k => ?_))
      · simp only [soukref01_value.l0]
        rw [if_neg (by omega), if_neg (by decide)]
      · simp only [soukref01_value.j1]
        unfold valF
        by_cases h : v < 9223372036854775808
        · have hw : wrap64 (v : Int) = v := by unfold wrap64; omega
          have h' : (v : Int) < 9223372036854775808 := by omega
          rw [hw]; simp [h, h']
        · have h' : ¬ (v : Int) < 9223372036854775808 := by omega
          simp [h, h']
  | j + 1, hj => by
    have e : ((j + 1 : Nat) : Int) - 1 = (j : Int) := by omega
    have hla : j < a.length := by omega
    have ih := value_from a neg ha j (by omega)
    have hd := drop_bat a j hla
    have hv : val (a.drop j) < 18446744073709551616 := by
      have h1 := val_lt (a.drop j)
      have h2 : 2 ^ (a.drop j).length ≤ 2 ^ 64 := Nat.pow_le_pow_right (by decide) (by rw [List.length_drop]; omega)
      have h3 : (2 : Nat) ^ 64 = 18446744073709551616 := by decide
      omega
    rw [hd] at ih hv
    simp only [val] at ih hv
    rw [e]
    generalize val (a.drop (j + 1)) = u at *
    refine EvT.step (fun k => ?_) ih
    simp only [soukref01_value.l0]
    rw [if_pos (by omega), if_pos (by omega), if_pos (by omega), rdOf_at, pv1 j (by omega)]
    cases hb : bat a j with
    | true =>
      rw [hb] at hv
      have : IntKind.u64.wrap (IntKind.u64.wrap ((u : Int) * 2) + 1) = ((bv true + 2 * u : Nat) : Int) := by
        rw [IntKind.wrap_u64, IntKind.wrap_u64]; simp [bv] at hv ⊢; omega
      rw [if_pos rfl, this]
    | false =>
      rw [hb] at hv
      have : IntKind.u64.wrap ((u : Int) * 2) = ((bv false + 2 * u : Nat) : Int) := by
        rw [IntKind.wrap_u64]; simp [bv] at hv ⊢; omega
      rw [if_neg (by decide), this]
theorem value_ok (a : List Bool) (neg : Bool) (ha : a.length ≤ 100000) : EvT (fun k => soukref01_value.f k a neg) (valF (val a) neg) := by
  have ht := trim_ok a (by omega)
  refine EvT.bind (F := fun k t260 => if (t260.length : Int) > 64 then (some (0, false)) else (soukref01_value.l0 k t260 neg 0 (wrap64 ((t260.length : Int) - 1)))) ht ?_
  by_cases h : (trimF a).length > 64
  · have h1 : val a ≥ 18446744073709551616 := by
      have hne : trimF a ≠ [] := fun h2 => by rw [h2] at h; simp at h
      have := trimF_pow a hne
      have h2 : 2 ^ 64 ≤ 2 ^ ((trimF a).length - 1) := Nat.pow_le_pow_right (by decide) (by omega)
      have h3 : (2 : Nat) ^ 64 = 18446744073709551616 := by decide
      omega
    have e : valF (val a) neg = (0, false) := by
      unfold valF
      cases neg
      · rw [if_neg (by decide), if_neg (by omega)]
      · rw [if_pos rfl, if_neg (by omega)]
    rw [e]
    exact EvT.congr (fun k => if_pos (by omega)) (EvT.const _)
  · have := value_from (trimF a) neg (by omega) (trimF a).length (Nat.le_refl _)
    rw [List.drop_length, trimF_val] at this
    refine EvT.congr (fun k => ?_) this
    rw [if_neg (by omega), pv1 _ (by omega)]
    rfl
end Go.Proofs.Ytncnhhnbjmpomaa.Q

/-! PMul -/
namespace Go.Proofs.Ytncnhhnbjmpomaa.Q
open Go.RowKit Go.Proofs.YtncnhhnbjmpomaaW.PrintWords Go.Proofs.YtncnhhnbjmpomaaW.PrintLast Go.Proofs.YtncnhhnbjmpomaaW.PrintMore
set_option linter.unusedVariables false
set_option linter.unusedSimpArgs false
theorem rj2_ok (quo : List Bool) (neg up : Bool) (hl : quo.length ≤ 50000) : EvT (fun k => soukref01_MulDiv.j2 k neg quo up) (valF (val quo + bv up) neg) := by
  cases up with
  | true =>
    obtain ⟨s, h1, h2, h3⟩ := plus_ok quo [true] (by omega) (by simp)
    have hv := value_ok s neg (by simp at h3; omega)
    rw [h2] at hv
    refine EvT.step (g := fun k => (soukref01_Plus.f k quo [true]).bind fun t => (soukref01_value.f k t neg).bind fun b => some (b.1, b.2)) (fun k => ?_) (EvT.bind h1 (EvT.bind hv (EvT.const _)))
    simp only [soukref01_MulDiv.j2]
    rw [if_pos trivial]
  | false =>
    have hv := value_ok quo neg (by omega)
    have e : val quo + bv false = val quo := by simp [bv]
    rw [e]
    refine EvT.step (g := fun k => (soukref01_value.f k quo neg).bind fun b => some (b.1, b.2)) (fun k => ?_) (EvT.bind hv (EvT.const _))
    simp only [soukref01_MulDiv.j2]
    rw [if_neg (by decide)]
theorem rj1_ok (quo : List Bool) (neg up z : Bool) (hl : quo.length ≤ 50000) : EvT (fun k => soukref01_MulDiv.j1 k neg quo up z) (valF (val quo + bv (up || z)) neg) := by
  cases z with
  | true =>
    have h := rj2_ok quo neg true hl
    rw [Bool.or_true]
    refine EvT.step (fun k => ?_) h
    simp only [soukref01_MulDiv.j1]
    rw [if_pos trivial]
  | false =>
    have h := rj2_ok quo neg up hl
    rw [Bool.or_false]
    refine EvT.step (fun k => ?_) h
    simp only [soukref01_MulDiv.j1]
    rw [if_neg (by decide)]
theorem rj0_ok (m : Int) (quo : List Bool) (neg lo hi up : Bool) (hl : quo.length ≤ 50000) : EvT (fun k => soukref01_MulDiv.j0 k m neg quo false lo hi up) (valF (val quo + bv (up || (decide (m = 2) && !lo && !hi && bat quo 0))) neg) := by
  have hat := at_ok quo 0
  by_cases hm : m = 2
  · cases lo with
    | true =>
      refine EvT.step (fun k => ?_) (rj1_ok quo neg up false hl |> fun h => by simpa [hm] using h)
      simp only [soukref01_MulDiv.j0]
      rw [if_neg (by decide), if_pos hm, if_pos trivial]
    | false =>
      cases hi with
      | true =>
        refine EvT.step (fun k => ?_) (rj1_ok quo neg up false hl |> fun h => by simpa [hm] using h)
        simp only [soukref01_MulDiv.j0]
        rw [if_neg (by decide), if_pos hm, if_neg (by decide), if_pos trivial]
      | false =>
        refine EvT.step (fun k => ?_) (rj1_ok quo neg up (bat quo 0) hl |> fun h => by simpa [hm] using h)
        simp only [soukref01_MulDiv.j0]
        rw [if_neg (by decide), if_pos hm, if_neg (by decide), if_neg (by decide)]
        have : soukref01_Wide_at.f quo 0 = some (bat quo 0) := hat
        rw [this]; rfl
  · refine EvT.step (fun k => ?_) (rj1_ok quo neg up false hl |> fun h => by simpa [hm] using h)
    simp only [soukref01_MulDiv.j0]
    rw [if_neg (by decide), if_neg hm]
theorem rj5_ok (quo : List Bool) (neg up : Bool) (hl : quo.length ≤ 50000) : EvT (fun k => soukref01_MulDiv.j5 k neg quo up) (valF (val quo + bv up) neg) := by
  cases up with
  | true =>
    obtain ⟨s, h1, h2, h3⟩ := plus_ok quo [true] (by omega) (by simp)
    have hv := value_ok s neg (by simp at h3; omega)
    rw [h2] at hv
    refine EvT.step (g := fun k => (soukref01_Plus.f k quo [true]).bind fun t => (soukref01_value.f k t neg).bind fun b => some (b.1, b.2)) (fun k => ?_) (EvT.bind h1 (EvT.bind hv (EvT.const _)))
    simp only [soukref01_MulDiv.j5]
    rw [if_pos trivial]
  | false =>
    have hv := value_ok quo neg (by omega)
    have e : val quo + bv false = val quo := by simp [bv]
    rw [e]
    refine EvT.step (g := fun k => (soukref01_value.f k quo neg).bind fun b => some (b.1, b.2)) (fun k => ?_) (EvT.bind hv (EvT.const _))
    simp only [soukref01_MulDiv.j5]
    rw [if_neg (by decide)]
theorem rj4_ok (quo : List Bool) (neg up z : Bool) (hl : quo.length ≤ 50000) : EvT (fun k => soukref01_MulDiv.j4 k neg quo up z) (valF (val quo + bv (up || z)) neg) := by
  cases z with
  | true =>
    have h := rj5_ok quo neg true hl
    rw [Bool.or_true]
    refine EvT.step (fun k => ?_) h
    simp only [soukref01_MulDiv.j4]
    rw [if_pos trivial]
  | false =>
    have h := rj5_ok quo neg up hl
    rw [Bool.or_false]
    refine EvT.step (fun k => ?_) h
    simp only [soukref01_MulDiv.j4]
    rw [if_neg (by decide)]
theorem rj3_ok (m : Int) (quo : List Bool) (neg lo hi up : Bool) (hl : quo.length ≤ 50000) : EvT (fun k => soukref01_MulDiv.j3 k m neg quo false lo hi up) (valF (val quo + bv (up || (decide (m = 2) && !lo && !hi && bat quo 0))) neg) := by
  have hat := at_ok quo 0
  by_cases hm : m = 2
  · cases lo with
    | true =>
      refine EvT.step (fun k => ?_) (rj4_ok quo neg up false hl |> fun h => by simpa [hm] using h)
      simp only [soukref01_MulDiv.j3]
      rw [if_neg (by decide), if_pos hm, if_pos trivial]
    | false =>
      cases hi with
      | true =>
        refine EvT.step (fun k => ?_) (rj4_ok quo neg up false hl |> fun h => by simpa [hm] using h)
        simp only [soukref01_MulDiv.j3]
        rw [if_neg (by decide), if_pos hm, if_neg (by decide), if_pos trivial]
      | false =>
        refine EvT.step (fun k => ?_) (rj4_ok quo neg up (bat quo 0) hl |> fun h => by simpa [hm] using h)
        simp only [soukref01_MulDiv.j3]
        rw [if_neg (by decide), if_pos hm, if_neg (by decide), if_neg (by decide)]
        have : soukref01_Wide_at.f quo 0 = some (bat quo 0) := hat
        rw [this]; rfl
  · refine EvT.step (fun k => ?_) (rj4_ok quo neg up false hl |> fun h => by simpa [hm] using h)
    simp only [soukref01_MulDiv.j3]
    rw [if_neg (by decide), if_neg hm]
/-- is a quotient raised? -/
def upB (neg : Bool) (m : Int) (q r c : Nat) : Bool :=
  !decide (r = 0) && ((decide (m = 0) && neg) || (decide (m = 1) && !neg) || (decide (m = 2) && (decide (c < 2 * r) || (!decide (2 * r < c) && decide (q % 2 = 1)))))
def negB (a b : Int) : Bool := decide (a < 0) != decide (b < 0)
/-- a times b by c -/
def mdV (a b : Int) (c : Nat) (m : Int) : Nat := a.natAbs * b.natAbs / c + bv (upB (negB a b) m (a.natAbs * b.natAbs / c) (a.natAbs * b.natAbs % c) c)
def mdF (a b : Int) (c : Nat) (m : Int) : Int × Bool := valF (mdV a b c m) (negB a b)
theorem bat0 (l : List Bool) : bat l 0 = decide (val l % 2 = 1) := by
  cases l with
  | nil => rfl
  | cons b l => 
    have : val (b :: l) % 2 = bv b := by simp only [val]; cases b <;> simp [bv] <;> omega
    rw [this]; cases b <;> rfl
theorem rmd_neg (a b c m : Int) (ha : inR a) (hb : inR b) (hc : inR c) (hc0 : 0 < c) (hm : m = 0 ∨ m = 1 ∨ m = 2) (hneg : (negB a b = true)) : EvT (fun k => soukref01_MulDiv.f k a b c m) (mdF a b c.natAbs m) := by
  have hneg' : (decide (a < 0) != decide (b < 0)) = true := hneg
  have hA := bits_ok a ha
  have hB := bits_ok b hb
  have hC := bits_ok c hc
  have lA := bitsN_len64 a ha
  have lB := bitsN_len64 b hb
  have lC := bitsN_len64 c hc
  obtain ⟨P, hP1, hP2, hP3⟩ := times_ok (bitsN a.natAbs) (bitsN b.natAbs) (by omega) (by omega)
  rw [bitsN_val, bitsN_val] at hP2
  have lP := trimF_len P
  obtain ⟨q, r, hD1, hD2, hD3, hD4⟩ := div_ok (trimF P) (bitsN c.natAbs) (by omega) (by omega) (by rw [bitsN_val]; omega)
  rw [trimF_val, hP2, bitsN_val] at hD2 hD3
  have hrlt : val r < val (bitsN c.natAbs) := by rw [bitsN_val, hD3]; exact Nat.mod_lt _ (by omega)
  have lr : r.length ≤ 64 := Nat.le_trans (canon_len r _ hD4 hrlt) (Nat.le_trans (trimF_len _) lC)
  obtain ⟨t2, hT1, hT2, hT3⟩ := plus_ok r r (by omega) (by omega)
  have hR := trim_ok r (by omega)
  rw [← hD4] at hR
  have hL1 := less_ok t2 (bitsN c.natAbs) (by omega) (by omega)
  have hL2 := less_ok (bitsN c.natAbs) t2 (by omega) (by omega)
  rw [bitsN_val] at hL1 hL2
  have lq : (trimF q).length ≤ 20000 := by
    by_cases h : trimF q = []
    · rw [h]; simp
    · have h1 := trimF_pow q h
      rw [hD2] at h1
      have h2 : a.natAbs * b.natAbs / c.natAbs ≤ a.natAbs * b.natAbs := Nat.div_le_self _ _
      have h3 := val_lt P
      rw [hP2] at h3
      apply Classical.byContradiction
      intro h4
      have : 2 ^ P.length ≤ 2 ^ ((trimF q).length - 1) := Nat.pow_le_pow_right (by decide) (by omega)
      omega
  have hz : r = [] ↔ a.natAbs * b.natAbs % c.natAbs = 0 := by
    rw [← hD3]
    have := trimF_nil r
    rw [← hD4] at this
    exact this
  have hv2 : val t2 = 2 * (a.natAbs * b.natAbs % c.natAbs) := by rw [hT2, hD3]; omega
  unfold mdF mdV
  rw [hneg]
  have eq0 : val (trimF q) = a.natAbs * b.natAbs / c.natAbs := by rw [trimF_val, hD2]
  rw [← eq0]
  generalize hQ : trimF q = Q at *
  unfold soukref01_MulDiv.f
  refine EvT.congr (fun k => by rw [if_pos hneg']) ?_
  refine EvT.bind hA ?_
  refine EvT.bind hB ?_
  refine EvT.bind hP1 ?_
  refine EvT.bind hC ?_
  refine EvT.bind hD1 ?_
  refine EvT.bind hT1 ?_
  refine EvT.bind hR ?_
  by_cases hw : r = []
  · have hw0 := hz.1 hw
    have hup : upB true m (val Q) (a.natAbs * b.natAbs % c.natAbs) c.natAbs = false := by unfold upB; rw [hw0]; rfl
    rw [hup]
    refine EvT.congr (fun k => if_pos (by rw [hw]; rfl)) ?_
    refine EvT.bind hC ?_
    refine EvT.bind hL1 ?_
    refine EvT.bind hC ?_
    refine EvT.bind hL2 ?_
    have hv := value_ok Q true (by omega)
    have e : val Q + bv false = val Q := by simp [bv]
    rw [e]
    exact EvT.bind hv (EvT.const _)
  · have hw0 : ¬ a.natAbs * b.natAbs % c.natAbs = 0 := fun h => hw (hz.2 h)
    have hlen : ¬ ((r.length : Int) = 0) := by
      intro h; exact hw (List.length_eq_zero_iff.1 (by omega))
    refine EvT.congr (fun k => if_neg hlen) ?_
    refine EvT.bind hC ?_
    refine EvT.bind hL1 ?_
    refine EvT.bind hC ?_
    refine EvT.bind hL2 ?_
    have hj := fun up => rj0_ok m Q true (decide (val t2 < c.natAbs)) (decide (c.natAbs < val t2)) up (by omega)
    have hb0 := bat0 Q
    rcases hm with rfl | rfl | rfl
    · refine EvT.congr (fun k => by rw [if_pos rfl]) ?_
      have h := hj true
      have e : (true || (decide ((0 : Int) = 2) && !decide (val t2 < c.natAbs) && !decide (c.natAbs < val t2) && bat Q 0)) = upB true 0 (val Q) (a.natAbs * b.natAbs % c.natAbs) c.natAbs := by
        unfold upB; rw [hb0, hv2]; simp [hw0]
      rw [e] at h
      exact h
    · refine EvT.congr (fun k => by rw [if_neg (by decide), if_pos rfl, if_neg (by decide)]) ?_
      have h := hj false
      have e : (false || (decide ((1 : Int) = 2) && !decide (val t2 < c.natAbs) && !decide (c.natAbs < val t2) && bat Q 0)) = upB true 1 (val Q) (a.natAbs * b.natAbs % c.natAbs) c.natAbs := by
        unfold upB; rw [hb0, hv2]; simp [hw0]
      rw [e] at h
      exact h
    · refine EvT.congr (fun k => by rw [if_neg (by decide), if_neg (by decide), if_pos rfl]) ?_
      have h := hj (decide (c.natAbs < val t2))
      have e : ((decide (c.natAbs < val t2)) || (decide ((2 : Int) = 2) && !decide (val t2 < c.natAbs) && !decide (c.natAbs < val t2) && bat Q 0)) = upB true 2 (val Q) (a.natAbs * b.natAbs % c.natAbs) c.natAbs := by
        unfold upB; rw [hb0, hv2]; simp [hw0]; rw [Bool.eq_iff_iff]; simp; omega
      rw [e] at h
      exact h
theorem rmd_pos (a b c m : Int) (ha : inR a) (hb : inR b) (hc : inR c) (hc0 : 0 < c) (hm : m = 0 ∨ m = 1 ∨ m = 2) (hneg : (negB a b = false)) : EvT (fun k => soukref01_MulDiv.f k a b c m) (mdF a b c.natAbs m) := by
  have hneg' : ¬ (decide (a < 0) != decide (b < 0)) = true := by unfold negB at hneg; rw [hneg]; decide
  have hA := bits_ok a ha
  have hB := bits_ok b hb
  have hC := bits_ok c hc
  have lA := bitsN_len64 a ha
  have lB := bitsN_len64 b hb
  have lC := bitsN_len64 c hc
  obtain ⟨P, hP1, hP2, hP3⟩ := times_ok (bitsN a.natAbs) (bitsN b.natAbs) (by omega) (by omega)
  rw [bitsN_val, bitsN_val] at hP2
  have lP := trimF_len P
  obtain ⟨q, r, hD1, hD2, hD3, hD4⟩ := div_ok (trimF P) (bitsN c.natAbs) (by omega) (by omega) (by rw [bitsN_val]; omega)
  rw [trimF_val, hP2, bitsN_val] at hD2 hD3
  have hrlt : val r < val (bitsN c.natAbs) := by rw [bitsN_val, hD3]; exact Nat.mod_lt _ (by omega)
  have lr : r.length ≤ 64 := Nat.le_trans (canon_len r _ hD4 hrlt) (Nat.le_trans (trimF_len _) lC)
  obtain ⟨t2, hT1, hT2, hT3⟩ := plus_ok r r (by omega) (by omega)
  have hR := trim_ok r (by omega)
  rw [← hD4] at hR
  have hL1 := less_ok t2 (bitsN c.natAbs) (by omega) (by omega)
  have hL2 := less_ok (bitsN c.natAbs) t2 (by omega) (by omega)
  rw [bitsN_val] at hL1 hL2
  have lq : (trimF q).length ≤ 20000 := by
    by_cases h : trimF q = []
    · rw [h]; simp
    · have h1 := trimF_pow q h
      rw [hD2] at h1
      have h2 : a.natAbs * b.natAbs / c.natAbs ≤ a.natAbs * b.natAbs := Nat.div_le_self _ _
      have h3 := val_lt P
      rw [hP2] at h3
      apply Classical.byContradiction
      intro h4
      have : 2 ^ P.length ≤ 2 ^ ((trimF q).length - 1) := Nat.pow_le_pow_right (by decide) (by omega)
      omega
  have hz : r = [] ↔ a.natAbs * b.natAbs % c.natAbs = 0 := by
    rw [← hD3]
    have := trimF_nil r
    rw [← hD4] at this
    exact this
  have hv2 : val t2 = 2 * (a.natAbs * b.natAbs % c.natAbs) := by rw [hT2, hD3]; omega
  unfold mdF mdV
  rw [hneg]
  have eq0 : val (trimF q) = a.natAbs * b.natAbs / c.natAbs := by rw [trimF_val, hD2]
  rw [← eq0]
  generalize hQ : trimF q = Q at *
  unfold soukref01_MulDiv.f
  refine EvT.congr (fun k => by rw [if_neg hneg']) ?_
  refine EvT.bind hA ?_
  refine EvT.bind hB ?_
  refine EvT.bind hP1 ?_
  refine EvT.bind hC ?_
  refine EvT.bind hD1 ?_
  refine EvT.bind hT1 ?_
  refine EvT.bind hR ?_
  by_cases hw : r = []
  · have hw0 := hz.1 hw
    have hup : upB false m (val Q) (a.natAbs * b.natAbs % c.natAbs) c.natAbs = false := by unfold upB; rw [hw0]; rfl
    rw [hup]
    refine EvT.congr (fun k => if_pos (by rw [hw]; rfl)) ?_
    refine EvT.bind hC ?_
    refine EvT.bind hL1 ?_
    refine EvT.bind hC ?_
    refine EvT.bind hL2 ?_
    have hv := value_ok Q false (by omega)
    have e : val Q + bv false = val Q := by simp [bv]
    rw [e]
    exact EvT.bind hv (EvT.const _)
  · have hw0 : ¬ a.natAbs * b.natAbs % c.natAbs = 0 := fun h => hw (hz.2 h)
    have hlen : ¬ ((r.length : Int) = 0) := by
      intro h; exact hw (List.length_eq_zero_iff.1 (by omega))
    refine EvT.congr (fun k => if_neg hlen) ?_
    refine EvT.bind hC ?_
    refine EvT.bind hL1 ?_
    refine EvT.bind hC ?_
    refine EvT.bind hL2 ?_
    have hj := fun up => rj3_ok m Q false (decide (val t2 < c.natAbs)) (decide (c.natAbs < val t2)) up (by omega)
    have hb0 := bat0 Q
    rcases hm with rfl | rfl | rfl
    · refine EvT.congr (fun k => by rw [if_pos rfl, if_neg (by decide), if_neg (by decide)]) ?_
      have h := hj false
      have e : (false || (decide ((0 : Int) = 2) && !decide (val t2 < c.natAbs) && !decide (c.natAbs < val t2) && bat Q 0)) = upB false 0 (val Q) (a.natAbs * b.natAbs % c.natAbs) c.natAbs := by
        unfold upB; rw [hb0, hv2]; simp [hw0]
      rw [e] at h
      exact h
    · refine EvT.congr (fun k => by rw [if_neg (by decide), if_pos rfl]) ?_
      have h := hj true
      have e : (true || (decide ((1 : Int) = 2) && !decide (val t2 < c.natAbs) && !decide (c.natAbs < val t2) && bat Q 0)) = upB false 1 (val Q) (a.natAbs * b.natAbs % c.natAbs) c.natAbs := by
        unfold upB; rw [hb0, hv2]; simp [hw0]
      rw [e] at h
      exact h
    · refine EvT.congr (fun k => by rw [if_neg (by decide), if_neg (by decide), if_pos rfl]) ?_
      have h := hj (decide (c.natAbs < val t2))
      have e : ((decide (c.natAbs < val t2)) || (decide ((2 : Int) = 2) && !decide (val t2 < c.natAbs) && !decide (c.natAbs < val t2) && bat Q 0)) = upB false 2 (val Q) (a.natAbs * b.natAbs % c.natAbs) c.natAbs := by
        unfold upB; rw [hb0, hv2]; simp [hw0]; rw [Bool.eq_iff_iff]; simp; omega
      rw [e] at h
      exact h
theorem rmd_ok (a b c m : Int) (ha : inR a) (hb : inR b) (hc : inR c) (hc0 : 0 < c) (hm : m = 0 ∨ m = 1 ∨ m = 2) : EvT (fun k => soukref01_MulDiv.f k a b c m) (mdF a b c.natAbs m) := by
  cases h : negB a b with
  | true => exact rmd_neg a b c m ha hb hc hc0 hm h
  | false => exact rmd_pos a b c m ha hb hc hc0 hm h
end Go.Proofs.Ytncnhhnbjmpomaa.Q

/-! PMud -/
namespace Go.Proofs.Ytncnhhnbjmpomaa.Q
open Go.RowKit Go.Proofs.YtncnhhnbjmpomaaW.PrintWords Go.Proofs.YtncnhhnbjmpomaaW.PrintLast Go.Proofs.YtncnhhnbjmpomaaW.PrintMore
set_option linter.unusedVariables false
set_option linter.unusedSimpArgs false
theorem mul_parts (x1 x0 y1 y0 p11 p10 p01 p00 : Int) (h00 : 0 ≤ p00) (h00b : p00 ≤ 18446744065119617025) (h01 : 0 ≤ p01) (h01b : p01 ≤ 18446744065119617025) (h10 : 0 ≤ p10) (h10b : p10 ≤ 18446744065119617025) (h11 : 0 ≤ p11) (h11b : p11 ≤ 18446744065119617025) :
    IntKind.u64.wrap (IntKind.u64.wrap (IntKind.u64.wrap p11 + IntKind.u64.wrap (IntKind.u64.wrap p10 + IntKind.u64.wrap p00 / 4294967296) / 4294967296) + IntKind.u64.wrap (IntKind.u64.wrap (p10 + p00 / 4294967296) % 4294967296 + IntKind.u64.wrap p01) / 4294967296)
      = ((p11 * 4294967296 + p10 + p01) * 4294967296 + p00) / 18446744073709551616 := by
  have e1 : IntKind.u64.wrap p11 = p11 := w64 h11 (by omega)
  have e2 : IntKind.u64.wrap p10 = p10 := w64 h10 (by omega)
  have e3 : IntKind.u64.wrap p01 = p01 := w64 h01 (by omega)
  have e4 : IntKind.u64.wrap p00 = p00 := w64 h00 (by omega)
  rw [e1, e2, e3, e4]
  have e5 : IntKind.u64.wrap (p10 + p00 / 4294967296) = p10 + p00 / 4294967296 := w64 (by omega) (by omega)
  rw [e5]
  have e6 : IntKind.u64.wrap ((p10 + p00 / 4294967296) % 4294967296 + p01) = (p10 + p00 / 4294967296) % 4294967296 + p01 := w64 (by omega) (by omega)
  rw [e6, w64 (x := p11 + (p10 + p00 / 4294967296) / 4294967296) (by omega) (by omega), w64 (by omega) (by omega)]
  omega
theorem mul_ring (x1 x0 y1 y0 : Int) : (x1 * 4294967296 + x0) * (y1 * 4294967296 + y0) = (x1 * y1 * 4294967296 + x1 * y0 + x0 * y1) * 4294967296 + x0 * y0 := by grind
theorem mul64_ok (a b : Int) (ha : 0 ≤ a) (ha2 : a < 18446744073709551616) (hb : 0 ≤ b) (hb2 : b < 18446744073709551616) : bits_Mul64.f a b = some (a * b / 18446744073709551616, a * b % 18446744073709551616) := by
  have xa0 : 0 ≤ a / 4294967296 := by omega
  have xa1 : a / 4294967296 ≤ 4294967295 := by omega
  have xb0 : 0 ≤ a % 4294967296 := by omega
  have xb1 : a % 4294967296 ≤ 4294967295 := by omega
  have ya0 : 0 ≤ b / 4294967296 := by omega
  have ya1 : b / 4294967296 ≤ 4294967295 := by omega
  have yb0 : 0 ≤ b % 4294967296 := by omega
  have yb1 : b % 4294967296 ≤ 4294967295 := by omega
  have hr := mul_ring (a / 4294967296) (a % 4294967296) (b / 4294967296) (b % 4294967296)
  have ea : a / 4294967296 * 4294967296 + a % 4294967296 = a := by omega
  have eb : b / 4294967296 * 4294967296 + b % 4294967296 = b := by omega
  rw [ea, eb] at hr
  have bd : ∀ x y : Int, 0 ≤ x → x ≤ 4294967295 → 0 ≤ y → y ≤ 4294967295 → 0 ≤ x * y ∧ x * y ≤ 18446744065119617025 := fun x y h1 h2 h3 h4 => ⟨Int.mul_nonneg h1 h3, by have := Int.mul_le_mul h2 h4 h3 (by omega : (0 : Int) ≤ 4294967295); omega⟩
  have b11 := bd _ _ xa0 xa1 ya0 ya1
  have b10 := bd _ _ xa0 xa1 yb0 yb1
  have b01 := bd _ _ xb0 xb1 ya0 ya1
  have b00 := bd _ _ xb0 xb1 yb0 yb1
  unfold bits_Mul64.f
  rw [and32 a ha ha2, and32 b hb hb2]
  have e4 : IntKind.u64.wrap (a % 4294967296 * (b % 4294967296)) = a % 4294967296 * (b % 4294967296) := w64 b00.1 (by omega)
  have e2 : IntKind.u64.wrap (a / 4294967296 * (b % 4294967296)) = a / 4294967296 * (b % 4294967296) := w64 b10.1 (by omega)
  have hm := mul_parts 0 0 0 0 _ _ _ _ b00.1 b00.2 b01.1 b01.2 b10.1 b10.2 b11.1 b11.2
  rw [e4, e2] at hm ⊢
  rw [← hr] at hm
  clear hr
  generalize a / 4294967296 * (b % 4294967296) = p10 at *
  generalize a % 4294967296 * (b % 4294967296) = p00 at *
  have e5 : IntKind.u64.wrap (p10 + p00 / 4294967296) = p10 + p00 / 4294967296 := w64 (by omega) (by omega)
  rw [and32 _ (by rw [e5]; omega) (by rw [e5]; omega), ← hm, w64m (a * b), e5]
theorem size_ok (a : Int) (ha : inR a) : money_size.f a = some (a.natAbs : Int) := by
  unfold inR at ha
  unfold money_size.f
  by_cases h : a < 0
  · rw [if_pos h]
    congr 1
    rw [IntKind.wrap_u64, IntKind.wrap_u64]; omega
  · rw [if_neg h]
    congr 1
    rw [IntKind.wrap_u64]; omega
theorem more_ok (m : Int) (neg : Bool) (q r c : Nat) (hq : q < 18446744073709551616) (hr : r < c) (hc : c ≤ 9223372036854775807) (hm : m = 0 ∨ m = 1 ∨ m = 2) : money_more.f m neg q r c = some (upB neg m q r c) := by
  unfold money_more.f upB
  by_cases h0 : r = 0
  · subst h0; rw [if_pos (by omega)]; rfl
  · rw [if_neg (by omega)]
    rcases hm with rfl | rfl | rfl
    · rw [if_pos rfl]; simp [h0]
    · rw [if_neg (by decide), if_pos rfl]; simp [h0]
    · rw [if_neg (by decide), if_neg (by decide)]
      have e : IntKind.u64.wrap ((c : Int) - (r : Int)) = ((c - r : Nat) : Int) := by rw [IntKind.wrap_u64]; omega
      rw [e, and1 q hq]
      by_cases h : r = c - r
      · rw [if_pos (by omega)]
        congr 1
        have h1 : ¬ c < 2 * r := by omega
        have h2 : ¬ 2 * r < c := by omega
        by_cases h3 : q % 2 = 1
        · simp [h0, h1, h2, h3]
        · have h4 : q % 2 = 0 := by omega
          simp [h0, h1, h2, h4]
      · rw [if_neg (by omega)]
        congr 1
        by_cases h1 : c < 2 * r
        · have : (r : Int) > ((c - r : Nat) : Int) := by omega
          simp [h0, h1, this]
        · have h2 : 2 * r < c := by omega
          have : ¬ (r : Int) > ((c - r : Nat) : Int) := by omega
          simp [h0, h1, h2, this]
theorem wz (q : Nat) (h : q + 1 = 18446744073709551616) : IntKind.u64.wrap ((q : Int) + 1) = 0 := by rw [IntKind.wrap_u64]; omega
theorem wn (q : Nat) (h : ¬ q + 1 = 18446744073709551616) (h2 : q < 18446744073709551616) : IntKind.u64.wrap ((q : Int) + 1) = ((q + 1 : Nat) : Int) := by rw [IntKind.wrap_u64]; omega
theorem nz (q : Nat) : ¬ ((q + 1 : Nat) : Int) = 0 := by omega
def resF (x : Int × Bool) : Int × Int := if x.2 = true then (x.1, 0) else (0, 2)
theorem mj2_ok (v : Nat) (hv : v < 18446744073709551616) : EvT (fun k => money_MulDiv.j1 k true (v : Int)) (resF (valF v true)) := by
  unfold valF
  rw [if_pos rfl]
  by_cases h : v ≤ 9223372036854775808
  · rw [if_pos h]
    refine EvT.step (g := fun k => money_MulDiv.j2 k true (v : Int) true) (fun k => ?_) (EvT.done (fun k => ?_))
    · simp only [money_MulDiv.j1]
      rw [if_pos trivial, decide_eq_true (by omega)]
    · simp only [money_MulDiv.j2]
      rw [if_pos trivial]
      have : wrap64 (IntKind.u64.wrap (-(v : Int))) = -(v : Int) := by rw [IntKind.wrap_u64]; unfold wrap64; omega
      rw [this]; rfl
  · rw [if_neg h]
    refine EvT.step (g := fun k => money_MulDiv.j2 k true (v : Int) false) (fun k => ?_) (EvT.done (fun k => ?_))
    · simp only [money_MulDiv.j1]
      rw [if_pos trivial, decide_eq_false (by omega)]
    · simp only [money_MulDiv.j2]
      rw [if_neg (by decide), if_pos trivial]; rfl
theorem mj4_ok (v : Nat) (hv : v < 18446744073709551616) : EvT (fun k => money_MulDiv.j3 k false (v : Int)) (resF (valF v false)) := by
  unfold valF
  rw [if_neg (by decide)]
  by_cases h : v < 9223372036854775808
  · rw [if_pos h]
    refine EvT.step (g := fun k => money_MulDiv.j4 k false (v : Int) false) (fun k => ?_) (EvT.done (fun k => ?_))
    · simp only [money_MulDiv.j3]
      rw [if_neg (by decide)]
    · simp only [money_MulDiv.j4]
      have : wrap64 (v : Int) = v := by unfold wrap64; omega
      have h' : (v : Int) < 9223372036854775808 := by omega
      rw [this]; simp [h', resF]
  · rw [if_neg h]
    refine EvT.step (g := fun k => money_MulDiv.j4 k false (v : Int) false) (fun k => ?_) (EvT.done (fun k => ?_))
    · simp only [money_MulDiv.j3]
      rw [if_neg (by decide)]
    · simp only [money_MulDiv.j4]
      have h' : ¬ (v : Int) < 9223372036854775808 := by omega
      simp [h', resF]
theorem pmd_true (a b c m : Int) (ha : inR a) (hb : inR b) (hc : inR c) (hc0 : 0 < c) (hm : m = 0 ∨ m = 1 ∨ m = 2) (hneg : negB a b = true) : EvT (fun k => money_MulDiv.j0 k a b c m false) (resF (mdF a b c.natAbs m)) := by
  have hneg' : (decide (a < 0) != decide (b < 0)) = true := hneg
  have ha' := ha
  have hb' := hb
  unfold inR at ha' hb' hc
  obtain ⟨n, rfl⟩ := Int.eq_ofNat_of_zero_le (show 0 ≤ c by omega)
  have e1 := size_ok a ha
  have e2 := size_ok b hb
  have e3 := mul64_ok a.natAbs b.natAbs (by omega) (by omega) (by omega) (by omega)
  have ew : IntKind.u64.wrap (n : Int) = n := by rw [IntKind.wrap_u64]; omega
  have eP : (a.natAbs : Int) * b.natAbs = ((a.natAbs * b.natAbs : Nat) : Int) := (Int.natCast_mul _ _).symm
  rw [eP] at e3
  have hna : Int.natAbs (n : Int) = n := rfl
  unfold mdF mdV
  rw [hneg, hna]
  generalize a.natAbs * b.natAbs = P at *
  refine EvT.step (g := fun k => if (P : Int) / 18446744073709551616 ≥ (n : Int) then some (0, 2) else (bits_Div64.f k ((P : Int) / 18446744073709551616) ((P : Int) % 18446744073709551616) n).bind fun bt => (money_more.f m true bt.1 bt.2 n).bind fun t => if t = true then (if IntKind.u64.wrap (bt.1 + 1) = 0 then some (0, 2) else money_MulDiv.j1 k true (IntKind.u64.wrap (bt.1 + 1))) else money_MulDiv.j1 k true bt.1) (fun k => ?_) ?_
  · simp only [money_MulDiv.j0]
    rw [if_neg (by decide), if_pos hneg']
    rw [e1, e2]
    simp only [Option.bind_some]
    rw [e3]
    simp only [Option.bind_some, ew]
  · have hn0 : 0 < n := by omega
    by_cases hbig : (P : Int) / 18446744073709551616 ≥ (n : Int)
    · have hq : 18446744073709551616 ≤ P / n := by
        rw [Nat.le_div_iff_mul_le hn0]
        have : n ≤ P / 18446744073709551616 := by omega
        omega
      have hv : valF (P / n + bv (upB true m (P / n) (P % n) n)) true = (0, false) := by
        unfold valF
        rw [if_pos rfl, if_neg (by omega)]
      rw [hv]
      exact EvT.congr (fun k => if_pos hbig) (EvT.const _)
    · refine EvT.congr (fun k => if_neg hbig) ?_
      obtain ⟨k0, hk0⟩ := div64_ok ((P : Int) / 18446744073709551616) ((P : Int) % 18446744073709551616) n (by omega) (by omega) (by omega) (by omega) (by omega)
      have eN : (P : Int) / 18446744073709551616 * 18446744073709551616 + (P : Int) % 18446744073709551616 = P := by omega
      rw [eN] at hk0
      have eq1 : (P : Int) / n = ((P / n : Nat) : Int) := (Int.natCast_ediv P n).symm
      have eq2 : (P : Int) % n = ((P % n : Nat) : Int) := (Int.natCast_emod P n).symm
      rw [eq1, eq2] at hk0
      have hD : EvT (fun k => bits_Div64.f k ((P : Int) / 18446744073709551616) ((P : Int) % 18446744073709551616) n) (((P / n : Nat) : Int), ((P % n : Nat) : Int)) := ⟨k0, fun k hk => by
        obtain ⟨j, rfl⟩ : ∃ j, k = k0 + j := ⟨k - k0, by omega⟩
        induction j with
        | zero => exact hk0
        | succ j ih => exact bits_Div64.mono _ _ _ (k0 + j) _ (ih (by omega))⟩
      refine EvT.bind hD ?_
      have hq2 : P / n < 18446744073709551616 := by
        apply Nat.div_lt_of_lt_mul
        have : P / 18446744073709551616 < n := by omega
        omega
      have hmo := more_ok m true (P / n) (P % n) n hq2 (Nat.mod_lt _ hn0) (by omega) hm
      cases hu : upB true m (P / n) (P % n) n with
      | false =>
        rw [hu] at hmo
        have e0 : P / n + bv false = P / n := by simp [bv]
        rw [e0]
        refine EvT.congr (fun k => ?_) (mj2_ok (P / n) hq2)
        show ((money_more.f m true ((P / n : Nat) : Int) ((P % n : Nat) : Int) n).bind _) = _
        rw [hmo]; simp
      | true =>
        rw [hu] at hmo
        have e0 : P / n + bv true = P / n + 1 := by simp [bv]
        rw [e0]
        by_cases hov : P / n + 1 = 18446744073709551616
        · have hv : valF (P / n + 1) true = (0, false) := by
            unfold valF
            rw [if_pos rfl, if_neg (by omega)]
          rw [hv]
          refine EvT.congr (fun k => ?_) (EvT.const _)
          show ((money_more.f m true ((P / n : Nat) : Int) ((P % n : Nat) : Int) n).bind _) = _
          have ez := wz (P / n) hov
          rw [hmo]
          simp only [Option.bind_some]
          rw [if_pos trivial, if_pos ez]; rfl
        · refine EvT.congr (fun k => ?_) (mj2_ok (P / n + 1) (by omega))
          show ((money_more.f m true ((P / n : Nat) : Int) ((P % n : Nat) : Int) n).bind _) = _
          have ez := wn (P / n) hov hq2
          rw [hmo]
          simp only [Option.bind_some, ez]
          rw [if_pos trivial, if_neg (nz (P / n))]
theorem pmd_false (a b c m : Int) (ha : inR a) (hb : inR b) (hc : inR c) (hc0 : 0 < c) (hm : m = 0 ∨ m = 1 ∨ m = 2) (hneg : negB a b = false) : EvT (fun k => money_MulDiv.j0 k a b c m false) (resF (mdF a b c.natAbs m)) := by
  have hneg' : ¬ (decide (a < 0) != decide (b < 0)) = true := by unfold negB at hneg; rw [hneg]; decide
  have ha' := ha
  have hb' := hb
  unfold inR at ha' hb' hc
  obtain ⟨n, rfl⟩ := Int.eq_ofNat_of_zero_le (show 0 ≤ c by omega)
  have e1 := size_ok a ha
  have e2 := size_ok b hb
  have e3 := mul64_ok a.natAbs b.natAbs (by omega) (by omega) (by omega) (by omega)
  have ew : IntKind.u64.wrap (n : Int) = n := by rw [IntKind.wrap_u64]; omega
  have eP : (a.natAbs : Int) * b.natAbs = ((a.natAbs * b.natAbs : Nat) : Int) := (Int.natCast_mul _ _).symm
  rw [eP] at e3
  have hna : Int.natAbs (n : Int) = n := rfl
  unfold mdF mdV
  rw [hneg, hna]
  generalize a.natAbs * b.natAbs = P at *
  refine EvT.step (g := fun k => if (P : Int) / 18446744073709551616 ≥ (n : Int) then some (0, 2) else (bits_Div64.f k ((P : Int) / 18446744073709551616) ((P : Int) % 18446744073709551616) n).bind fun bt => (money_more.f m false bt.1 bt.2 n).bind fun t => if t = true then (if IntKind.u64.wrap (bt.1 + 1) = 0 then some (0, 2) else money_MulDiv.j3 k false (IntKind.u64.wrap (bt.1 + 1))) else money_MulDiv.j3 k false bt.1) (fun k => ?_) ?_
  · simp only [money_MulDiv.j0]
    rw [if_neg (by decide), if_neg hneg']
    rw [e1, e2]
    simp only [Option.bind_some]
    rw [e3]
    simp only [Option.bind_some, ew]
  · have hn0 : 0 < n := by omega
    by_cases hbig : (P : Int) / 18446744073709551616 ≥ (n : Int)
    · have hq : 18446744073709551616 ≤ P / n := by
        rw [Nat.le_div_iff_mul_le hn0]
        have : n ≤ P / 18446744073709551616 := by omega
        omega
      have hv : valF (P / n + bv (upB false m (P / n) (P % n) n)) false = (0, false) := by
        unfold valF
        rw [if_neg (by decide), if_neg (by omega)]
      rw [hv]
      exact EvT.congr (fun k => if_pos hbig) (EvT.const _)
    · refine EvT.congr (fun k => if_neg hbig) ?_
      obtain ⟨k0, hk0⟩ := div64_ok ((P : Int) / 18446744073709551616) ((P : Int) % 18446744073709551616) n (by omega) (by omega) (by omega) (by omega) (by omega)
      have eN : (P : Int) / 18446744073709551616 * 18446744073709551616 + (P : Int) % 18446744073709551616 = P := by omega
      rw [eN] at hk0
      have eq1 : (P : Int) / n = ((P / n : Nat) : Int) := (Int.natCast_ediv P n).symm
      have eq2 : (P : Int) % n = ((P % n : Nat) : Int) := (Int.natCast_emod P n).symm
      rw [eq1, eq2] at hk0
      have hD : EvT (fun k => bits_Div64.f k ((P : Int) / 18446744073709551616) ((P : Int) % 18446744073709551616) n) (((P / n : Nat) : Int), ((P % n : Nat) : Int)) := ⟨k0, fun k hk => by
        obtain ⟨j, rfl⟩ : ∃ j, k = k0 + j := ⟨k - k0, by omega⟩
        induction j with
        | zero => exact hk0
        | succ j ih => exact bits_Div64.mono _ _ _ (k0 + j) _ (ih (by omega))⟩
      refine EvT.bind hD ?_
      have hq2 : P / n < 18446744073709551616 := by
        apply Nat.div_lt_of_lt_mul
        have : P / 18446744073709551616 < n := by omega
        omega
      have hmo := more_ok m false (P / n) (P % n) n hq2 (Nat.mod_lt _ hn0) (by omega) hm
      cases hu : upB false m (P / n) (P % n) n with
      | false =>
        rw [hu] at hmo
        have e0 : P / n + bv false = P / n := by simp [bv]
        rw [e0]
        refine EvT.congr (fun k => ?_) (mj4_ok (P / n) hq2)
        show ((money_more.f m false ((P / n : Nat) : Int) ((P % n : Nat) : Int) n).bind _) = _
        rw [hmo]; simp
      | true =>
        rw [hu] at hmo
        have e0 : P / n + bv true = P / n + 1 := by simp [bv]
        rw [e0]
        by_cases hov : P / n + 1 = 18446744073709551616
        · have hv : valF (P / n + 1) false = (0, false) := by
            unfold valF
            rw [if_neg (by decide), if_neg (by omega)]
          rw [hv]
          refine EvT.congr (fun k => ?_) (EvT.const _)
          show ((money_more.f m false ((P / n : Nat) : Int) ((P % n : Nat) : Int) n).bind _) = _
          have ez := wz (P / n) hov
          rw [hmo]
          simp only [Option.bind_some]
          rw [if_pos trivial, if_pos ez]; rfl
        · refine EvT.congr (fun k => ?_) (mj4_ok (P / n + 1) (by omega))
          show ((money_more.f m false ((P / n : Nat) : Int) ((P % n : Nat) : Int) n).bind _) = _
          have ez := wn (P / n) hov hq2
          rw [hmo]
          simp only [Option.bind_some, ez]
          rw [if_pos trivial, if_neg (nz (P / n))]
theorem pmd_ok (a b c m : Int) (ha : inR a) (hb : inR b) (hc : inR c) (hc0 : 0 < c) (hm : m = 0 ∨ m = 1 ∨ m = 2) : EvT (fun k => money_MulDiv.f k a b c m) (resF (mdF a b c.natAbs m)) := by
  have key : EvT (fun k => money_MulDiv.j0 k a b c m false) (resF (mdF a b c.natAbs m)) := by
    cases h : negB a b with
    | true => exact pmd_true a b c m ha hb hc hc0 hm h
    | false => exact pmd_false a b c m ha hb hc hc0 hm h
  refine EvT.congr (fun k => ?_) key
  unfold money_MulDiv.f
  rw [if_neg (by omega), if_neg (by omega), decide_eq_false (by omega)]
theorem pmd_bad (a b c m : Int) (h : c ≤ 0 ∨ m < 0 ∨ 2 < m) : EvT (fun k => money_MulDiv.f k a b c m) (0, 1) := by
  have key : EvT (fun k => money_MulDiv.j0 k a b c m true) (0, 1) := EvT.done (fun k => by simp only [money_MulDiv.j0]; rw [if_pos trivial])
  refine EvT.congr (fun k => ?_) key
  unfold money_MulDiv.f
  by_cases h1 : c ≤ 0
  · rw [if_pos h1]
  · by_cases h2 : m < 0
    · rw [if_neg h1, if_pos h2]
    · rw [if_neg h1, if_neg h2, decide_eq_true (by omega)]
end Go.Proofs.Ytncnhhnbjmpomaa.Q

/-! PEq -/
namespace Go.Proofs.Ytncnhhnbjmpomaa.Q
open Go.RowKit Go.Proofs.YtncnhhnbjmpomaaW.PrintWords Go.Proofs.YtncnhhnbjmpomaaW.PrintLast Go.Proofs.YtncnhhnbjmpomaaW.PrintMore
set_option linter.unusedVariables false
set_option linter.unusedSimpArgs false
theorem eq_from (a b : List Int) (hl : a.length = b.length) (hb : a.length ≤ 1000000000000) : ∀ (d i : Nat), a.length - i = d → i ≤ a.length →
    ∃ m, ∀ k, slices_Equal_int64_int64.l0 (k + m) a b a.length i = some (decide (a.drop i = b.drop i)) := by
  intro d
  induction d with
  | zero =>
    intro i hd hi
    refine ⟨1, fun k => ?_⟩
    simp only [slices_Equal_int64_int64.l0]
    rw [if_neg (by omega)]
    have h1 : a.drop i = [] := List.drop_eq_nil_of_le (by omega)
    have h2 : b.drop i = [] := List.drop_eq_nil_of_le (by omega)
    rw [h1, h2]; simp
  | succ d ih =>
    intro i hd hi
    have hlt : i < a.length := by omega
    have hlb : i < b.length := by omega
    have ea : a.drop i = a[i] :: a.drop (i + 1) := (List.getElem_cons_drop (h := hlt)).symm
    have eb : b.drop i = b[i] :: b.drop (i + 1) := (List.getElem_cons_drop (h := hlb)).symm
    have hw : wrap64 ((i : Int) + 1) = ((i + 1 : Nat) : Int) := by rw [w64i (by omega) (by omega)]; rfl
    obtain ⟨m, hm⟩ := ih (i + 1) (by omega) (by omega)
    refine ⟨m + 1, fun k => ?_⟩
    rw [← Nat.add_assoc]
    simp only [slices_Equal_int64_int64.l0]
    rw [if_pos (by omega), if_pos (by omega), if_pos (by omega), if_pos (by omega), rd_at a i hlt, rd_at b i hlb, hw, hm, ea, eb]
    by_cases h : a[i] = b[i]
    · rw [if_pos h]; exact congrArg some (decide_eq_decide.2 ⟨fun e => by rw [h, e], fun e => (List.cons.inj e).2⟩)
    · rw [if_neg h]; exact congrArg some (decide_eq_false (fun e => h (List.cons.inj e).1)).symm
theorem eq_ok (a b : List Int) (hb : a.length ≤ 1000000000000) : ∃ m, ∀ k, slices_Equal_int64_int64.f (k + m) a b = some (decide (a = b)) := by
  by_cases hl : a.length = b.length
  · obtain ⟨m, hm⟩ := eq_from a b hl hb a.length 0 (by omega) (by omega)
    refine ⟨m, fun k => ?_⟩
    unfold slices_Equal_int64_int64.f
    rw [if_pos (by omega)]
    have := hm k
    simpa using this
  · refine ⟨0, fun k => ?_⟩
    unfold slices_Equal_int64_int64.f
    rw [if_neg (by omega)]
    have : ¬ (a = b) := fun h => hl (by rw [h])
    simp [this]
end Go.Proofs.Ytncnhhnbjmpomaa.Q

/-! PLv -/
namespace Go.Proofs.Ytncnhhnbjmpomaa.Q
open Go.RowKit Go.Proofs.YtncnhhnbjmpomaaW.PrintWords Go.Proofs.YtncnhhnbjmpomaaW.PrintLast Go.Proofs.YtncnhhnbjmpomaaW.PrintMore Go.Proofs.Ytncnhhnbjmpomaa Go.Sort
set_option linter.unusedVariables false
set_option linter.unusedSimpArgs false
theorem srt3 : srt #[⟨0, 1⟩, ⟨1, 1⟩, ⟨2, 1⟩] = #[⟨0, 1⟩, ⟨1, 1⟩, ⟨2, 1⟩] := by
  show insOuter (ltOf cf98) 0 3 1 _ = _
  rw [insOuter_go _ _ _ _ _ (by decide)]
  have h1 : insInner (ltOf cf98) 0 1 #[(⟨0, 1⟩ : S98), ⟨1, 1⟩, ⟨2, 1⟩] = #[⟨0, 1⟩, ⟨1, 1⟩, ⟨2, 1⟩] := by rfl
  rw [h1, insOuter_go _ _ _ _ _ (by decide)]
  have h2 : insInner (ltOf cf98) 0 2 #[(⟨0, 1⟩ : S98), ⟨1, 1⟩, ⟨2, 1⟩] = #[⟨0, 1⟩, ⟨1, 1⟩, ⟨2, 1⟩] := by rfl
  rw [h2, insOuter_stop _ _ _ _ _ (by decide)]
theorem split_ex : money_Split.f 10 [1, 1, 1] = some ([4, 3, 3], 0) := by
  unfold money_Split.f
  rw [if_pos (by decide)]
  have hp : partsF 10 [1, 1, 1] = [4, 3, 3] := by
    unfold partsF
    have h1 : (restsF 10 [1, 1, 1].sum 0 [1, 1, 1]).toArray = #[⟨0, 1⟩, ⟨1, 1⟩, ⟨2, 1⟩] := by rfl
    rw [h1, srt3]; rfl
  have : splitF 10 [1, 1, 1] = (partsF 10 [1, 1, 1], 0) := by rfl
  rw [this, hp]
theorem lives01_ok : ∃ m, ∀ k, souklaw01_lives.f (k + m) = some true := by
  obtain ⟨m, hm⟩ := eq_ok [4, 3, 3] [4, 3, 3] (by decide)
  refine ⟨m, fun k => ?_⟩
  unfold souklaw01_lives.f
  rw [split_ex]
  simp only [Option.bind_some]
  rw [if_pos trivial, hm]
  rfl
end Go.Proofs.Ytncnhhnbjmpomaa.Q

/-! PDvd -/
namespace Go.Proofs.Ytncnhhnbjmpomaa.Q
open Go.RowKit Go.Proofs.YtncnhhnbjmpomaaW.PrintWords Go.Proofs.YtncnhhnbjmpomaaW.PrintLast Go.Proofs.YtncnhhnbjmpomaaW.PrintMore
set_option linter.unusedVariables false
set_option linter.unusedSimpArgs false
theorem is_res (x : Int × Bool) (h : x.2 = true ∨ x = (0, false)) : souklaw01_is.f (resF x).1 (resF x).2 x.1 x.2 = some true := by
  unfold souklaw01_is.f resF
  rcases h with h | h
  · rw [if_pos h, if_pos h]; simp
  · subst h; rfl
theorem valF_alt (v : Nat) (neg : Bool) : (valF v neg).2 = true ∨ valF v neg = (0, false) := by
  unfold valF
  split
  · split
    · exact .inl rfl
    · exact .inr rfl
  · split
    · exact .inl rfl
    · exact .inr rfl
/-- the quotients of the modes up to m, if there are any -/
def qs (a b c : Int) : List Int → List Int
  | [] => []
  | m :: l => (if (mdF a b c.natAbs m).2 = true then [(mdF a b c.natAbs m).1] else []) ++ qs a b c l
/-- the last test -/
def last3 (l : List Int) : Option Bool := if (l.length : Int) < 3 then (some true) else (if 0 < (l.length : Int) then (if 1 < (l.length : Int) then (if (rd l 0) = (rd l 1) then (if 2 < (l.length : Int) then (if (rd l 2) = (rd l 0) then (some true) else (some ((rd l 2) == (rd l 1)))) else (none)) else (if (wrap64 ((rd l 0) + 1)) = (rd l 1) then (if 2 < (l.length : Int) then (if (rd l 2) = (rd l 0) then (some true) else (some ((rd l 2) == (rd l 1)))) else (none)) else (some false))) else (none)) else (none))
theorem div_step (a b c m : Int) (ha : inR a) (hb : inR b) (hc : inR c) (hc0 : 0 < c) (hm : m = 0 ∨ m = 1 ∨ m = 2) (l : List Int) (hl : l.length ≤ 100) (v : Bool)
    (h : EvT (fun k => souklaw01_MoneyDivides.l0 k a b c (l ++ (if (mdF a b c.natAbs m).2 = true then [(mdF a b c.natAbs m).1] else [])) (m + 1)) v) : EvT (fun k => souklaw01_MoneyDivides.l0 k a b c l m) v := by
  have h1 := pmd_ok a b c m ha hb hc hc0 hm
  have h2 := rmd_ok a b c m ha hb hc hc0 hm
  have h3 := is_res (mdF a b c.natAbs m) (valF_alt _ _)
  have hw : wrap64 (m + 1) = m + 1 := by rcases hm with rfl | rfl | rfl <;> exact w64i (by decide) (by decide)
  have hne : ¬ c ≤ 0 := by omega
  have hl' : l.length < 17592186044416 := by omega
  generalize mdF a b c.natAbs m = x at *
  refine EvT.step (g := fun k => (money_MulDiv.f k a b c m).bind fun bt394 => (soukref01_MulDiv.f k a b c m).bind fun bt396 => (souklaw01_is.f bt394.1 bt394.2 bt396.1 bt396.2).bind fun t398 => if t398 = true then (if bt396.2 = true then souklaw01_MoneyDivides.l0 k a b c (l ++ [bt394.1]) (m + 1) else souklaw01_MoneyDivides.l0 k a b c l (m + 1)) else some false) (fun k => ?_) ?_
  · simp only [souklaw01_MoneyDivides.l0]
    rw [if_pos (by omega)]
    simp only [if_neg hne, if_pos hl', hw]
  · refine EvT.bind h1 ?_
    refine EvT.bind h2 ?_
    refine EvT.congr (g := fun k => if x.2 = true then souklaw01_MoneyDivides.l0 k a b c (l ++ [(resF x).1]) (m + 1) else souklaw01_MoneyDivides.l0 k a b c l (m + 1)) (fun k => ?_) ?_
    · show ((souklaw01_is.f (resF x).1 (resF x).2 x.1 x.2).bind _) = _
      rw [h3]; simp
    · by_cases hx : x.2 = true
      · rw [if_pos hx] at h
        have e : (resF x).1 = x.1 := by unfold resF; rw [if_pos hx]
        rw [e]
        exact EvT.congr (fun k => if_pos hx) h
      · rw [if_neg hx, List.append_nil] at h
        exact EvT.congr (fun k => if_neg hx) h
theorem div_bad (a b c : Int) (hc : c ≤ 0) (m : Int) (hm : m = 0 ∨ m = 1 ∨ m = 2) (v : Bool)
    (h : EvT (fun k => souklaw01_MoneyDivides.l0 k a b c [] (m + 1)) v) : EvT (fun k => souklaw01_MoneyDivides.l0 k a b c [] m) v := by
  have h1 := pmd_bad a b c m (.inl hc)
  have hw : wrap64 (m + 1) = m + 1 := by rcases hm with rfl | rfl | rfl <;> exact w64i (by decide) (by decide)
  refine EvT.step (g := fun k => (money_MulDiv.f k a b c m).bind fun bt394 => if bt394.1 = 0 then (if bt394.2 = 1 then souklaw01_MoneyDivides.l0 k a b c [] (m + 1) else some false) else some false) (fun k => ?_) ?_
  · simp only [souklaw01_MoneyDivides.l0]
    rw [if_pos (by omega)]
    simp only [if_pos hc, hw]
  · refine EvT.bind h1 ?_
    exact EvT.congr (fun k => by rw [if_pos rfl, if_pos rfl]) h
theorem div_end (a b c : Int) (l : List Int) (v : Bool) (h : last3 l = some v) : EvT (fun k => souklaw01_MoneyDivides.l0 k a b c l 3) v := by
  refine EvT.done (fun k => ?_)
  simp only [souklaw01_MoneyDivides.l0]
  rw [if_neg (by decide)]
  exact h
theorem last3_of (x y z : Int) (h1 : x = y ∨ (x + 1 = y ∧ -9223372036854775808 ≤ x ∧ y ≤ 9223372036854775807)) (h2 : z = x ∨ z = y) : last3 [x, y, z] = some true := by
  unfold last3
  have r0 : rd [x, y, z] 0 = x := rfl
  have r1 : rd [x, y, z] 1 = y := rfl
  have r2 : rd [x, y, z] 2 = z := rfl
  have hl : (([x, y, z].length : Nat) : Int) = 3 := rfl
  rw [hl, r0, r1, r2, if_neg (by decide), if_pos (by decide), if_pos (by decide)]
  rcases h1 with h1 | ⟨h1, h3, h4⟩
  · rw [if_pos h1, if_pos (by decide)]
    by_cases h : z = x
    · rw [if_pos h]
    · rw [if_neg h, h2.resolve_left h]; simp
  · rw [if_neg (by omega), w64i (by omega) (by omega), if_pos h1, if_pos (by decide)]
    by_cases h : z = x
    · rw [if_pos h]
    · rw [if_neg h, h2.resolve_left h]; simp
theorem last3_short (l : List Int) (h : l.length < 3) : last3 l = some true := by
  unfold last3; rw [if_pos (by omega)]
theorem valF_neg (v : Nat) (h : (valF v true).2 = true) : (valF v true).1 = -(v : Int) ∧ v ≤ 9223372036854775808 := by
  unfold valF at *
  rw [if_pos rfl] at *
  by_cases h1 : v ≤ 9223372036854775808
  · rw [if_pos h1]; exact ⟨rfl, h1⟩
  · rw [if_neg h1] at h; cases h
theorem valF_pos (v : Nat) (h : (valF v false).2 = true) : (valF v false).1 = (v : Int) ∧ v < 9223372036854775808 := by
  unfold valF at *
  rw [if_neg (by decide)] at *
  by_cases h1 : v < 9223372036854775808
  · rw [if_pos h1]; exact ⟨rfl, h1⟩
  · rw [if_neg h1] at h; cases h
theorem qs3 (neg : Bool) (q r c : Nat) (h0 : (valF (q + bv (upB neg 0 q r c)) neg).2 = true) (h1 : (valF (q + bv (upB neg 1 q r c)) neg).2 = true) (h2 : (valF (q + bv (upB neg 2 q r c)) neg).2 = true) :
    last3 [(valF (q + bv (upB neg 0 q r c)) neg).1, (valF (q + bv (upB neg 1 q r c)) neg).1, (valF (q + bv (upB neg 2 q r c)) neg).1] = some true := by
  have u2 : r = 0 → upB neg 2 q r c = false := fun h => by unfold upB; rw [h]; rfl
  cases neg with
  | true =>
    have e0 : upB true 0 q r c = !decide (r = 0) := by unfold upB; simp
    have e1 : upB true 1 q r c = false := by unfold upB; simp
    rw [e0] at h0 ⊢
    rw [e1] at h1 ⊢
    generalize upB true 2 q r c = u at *
    obtain ⟨f0, g0⟩ := valF_neg _ h0
    obtain ⟨f1, g1⟩ := valF_neg _ h1
    obtain ⟨f2, g2⟩ := valF_neg _ h2
    rw [f0, f1, f2]
    by_cases hr : r = 0
    · rw [u2 hr]; simp only [hr, decide_true, Bool.not_true]
      exact last3_of _ _ _ (.inl rfl) (.inl rfl)
    · have : (!decide (r = 0)) = true := by simp [hr]
      rw [this] at g0 ⊢
      refine last3_of _ _ _ (.inr ⟨by simp [bv]; omega, by omega, by omega⟩) ?_
      cases u with
      | true => exact .inl rfl
      | false => exact .inr rfl
  | false =>
    have e0 : upB false 0 q r c = false := by unfold upB; simp
    have e1 : upB false 1 q r c = !decide (r = 0) := by unfold upB; simp
    rw [e0] at h0 ⊢
    rw [e1] at h1 ⊢
    generalize upB false 2 q r c = u at *
    obtain ⟨f0, g0⟩ := valF_pos _ h0
    obtain ⟨f1, g1⟩ := valF_pos _ h1
    obtain ⟨f2, g2⟩ := valF_pos _ h2
    rw [f0, f1, f2]
    by_cases hr : r = 0
    · rw [u2 hr]; simp only [hr, decide_true, Bool.not_true]
      exact last3_of _ _ _ (.inl rfl) (.inl rfl)
    · have : (!decide (r = 0)) = true := by simp [hr]
      rw [this] at g1 ⊢
      refine last3_of _ _ _ (.inr ⟨by simp [bv], by omega, by omega⟩) ?_
      cases u with
      | true => exact .inr rfl
      | false => exact .inl rfl
/-- the three quotients hang together -/
theorem qs_last (a b c : Int) : last3 (qs a b c [0, 1, 2]) = some true := by
  unfold qs qs qs qs
  by_cases h0 : (mdF a b c.natAbs 0).2 = true
  · by_cases h1 : (mdF a b c.natAbs 1).2 = true
    · by_cases h2 : (mdF a b c.natAbs 2).2 = true
      · rw [if_pos h0, if_pos h1, if_pos h2]
        simp only [List.cons_append, List.nil_append, List.append_nil]
        exact qs3 _ _ _ _ h0 h1 h2
      · apply last3_short; rw [if_pos h0, if_pos h1, if_neg h2]; simp
    · apply last3_short; rw [if_pos h0, if_neg h1]; split <;> simp
  · apply last3_short; rw [if_neg h0]; split <;> split <;> simp
theorem div_loop (a b c : Int) (ha : inR a) (hb : inR b) (hc : inR c) : EvT (fun k => souklaw01_MoneyDivides.l0 k a b c [] 0) true := by
  by_cases hc0 : c ≤ 0
  · refine div_bad a b c hc0 0 (.inl rfl) _ (div_bad a b c hc0 1 (.inr (.inl rfl)) _ (div_bad a b c hc0 2 (.inr (.inr rfl)) _ ?_))
    exact div_end a b c [] true (last3_short [] (by decide))
  · have hl : ∀ m, ((if (mdF a b c.natAbs m).2 = true then [(mdF a b c.natAbs m).1] else []) : List Int).length ≤ 1 := fun m => by split <;> simp
    have l0 := hl 0
    have l1 := hl 1
    refine div_step a b c 0 ha hb hc (by omega) (.inl rfl) [] (by simp) _ (div_step a b c 1 ha hb hc (by omega) (.inr (.inl rfl)) _ (by simp; omega) _ (div_step a b c 2 ha hb hc (by omega) (.inr (.inr rfl)) _ (by simp; omega) _ ?_))
    have h := qs_last a b c
    unfold qs qs qs qs at h
    rw [List.append_nil] at h
    rw [List.nil_append, List.append_assoc]
    exact div_end a b c _ true h
theorem divides_ok : souklaw01_MoneyDivides.Pure := by
  intro a b c h1 h2 h3
  have ha := bounds_i64 h1
  have hb := bounds_i64 h2
  have hc := bounds_i64 h3
  have hlv := EvT.of_add lives01_ok
  have hlo := div_loop a b c ha hb hc
  have hp := pmd_bad a b c 3 (.inr (.inr (by decide)))
  have hq := pmd_bad a b c (-1) (.inr (.inl (by decide)))
  apply EvT.one
  unfold souklaw01_MoneyDivides.f
  refine EvT.bind hlv ?_
  refine EvT.congr (fun k => if_pos rfl) ?_
  refine EvT.bind hp ?_
  refine EvT.bind hq ?_
  refine EvT.congr (fun k => if_pos rfl) ?_
  refine EvT.step (fun k => ?_) hlo
  simp only [souklaw01_MoneyDivides.j0]
  rw [if_neg (by decide)]
end Go.Proofs.Ytncnhhnbjmpomaa.Q

/-! PureMoneyDivides -/
namespace Go.Proofs.Ytncnhhnbjmpomaa.Pure
open Go.RowKit Go.Proofs.Ytncnhhnbjmpomaa.Q
theorem MoneyDivides : souklaw01_MoneyDivides.Pure := divides_ok
end Go.Proofs.Ytncnhhnbjmpomaa.Pure
