-- Written by wip/myprint.py over the kit's print: functions and contracts of the program's functions.
import Derived.Test.YtncnhhnbjmpomaaQ0
import Derived.Test.YtncnhhnbjmpomaaQ37
namespace Go.Proofs.Ytncnhhnbjmpomaa.Q
open Go.RowKit Go.Proofs.YtncnhhnbjmpomaaW.PrintWords Go.Proofs.YtncnhhnbjmpomaaW.PrintLast Go.Proofs.YtncnhhnbjmpomaaW.PrintMore
attribute [local go_sem] max2_int min2_int max_two min_two max_three min_three max_four min_four   -- for this text's walks alone
set_option linter.unusedVariables false
set_option linter.unusedSimpArgs false

/-! ### soukref01_Sub: function 17 -/
def soukref01_Sub.f (k : Nat) (a0 : Int) (a1 : Int) : Option (Int × Bool) := if a1 = (-9223372036854775808) then (if a0 ≥ 0 then (some (0, false)) else (some (wrap64 (a0 - a1), true))) else ((soukref01_Add.f k a0 (wrap64 (-a1))).bind fun bt131 => (some (bt131.1, bt131.2)))
theorem soukref01_Sub.mono : ∀ a0 a1 k, LeO (soukref01_Sub.f k a0 a1) (soukref01_Sub.f (k + 1) a0 a1) := by
  intro a0 a1 k
  unfold soukref01_Sub.f
  repeat' first
      | (with_reducible exact soukref01_Add.mono _ _ _)
      | (with_reducible exact LeO.refl _)
      | (with_reducible exact LeO.none _)
      | (with_reducible refine LeO.ite ?_ ?_)
      | (with_reducible refine LeO.bind ?_ (fun _ => ?_))
      | exact soukref01_Add.mono _ _ _
      | exact LeO.none _
      | refine LeO.ite ?_ ?_
      | refine LeO.bind ?_ (fun _ => ?_)
set_option maxHeartbeats 8000000 in
set_option maxRecDepth 100000 in
theorem soukref01_Sub.calls (k : Nat) (a0 : Int) (a1 : Int) (r1 : Int) (r2 : Bool) (w : World) (h : soukref01_Sub.f k a0 a1 = some (r1, r2)) :
    Calls Try.prog 17 #[.int .i64 a0, .int .i64 a1] w fun e w' => e = .returned (.tuple #[.int .i64 r1, .bool r2]) ∧ Drawn0 w w' := by
  have H : (if a1 = (-9223372036854775808) then (if a0 ≥ 0 then (some (0, false)) else (some (wrap64 (a0 - a1), true))) else ((soukref01_Add.f k a0 (wrap64 (-a1))).bind fun bt131 => (some (bt131.1, bt131.2)))) = some (r1, r2) := h
  clear h
  by_cases c3 : a1 = (-9223372036854775808)
  · rw [if_pos c3] at H
    have c3b0 : (a1 == (-9223372036854775808)) = true := beq_iff_eq.mpr c3
    have c3b1 : (a1 != (-9223372036854775808)) = false := bne_eq_false_iff_eq.mpr c3
    clear c3
    by_cases c4 : a0 ≥ 0
    · rw [if_pos c4] at H
      have c4b0 : decide (0 ≤ a0) = true := decide_eq_true c4
      clear c4
      simp only [Option.some.injEq, Prod.mk.injEq] at H
      obtain ⟨rfl, rfl⟩ := H
      go_enter Try.func17, Try.ntmps17
      go_wp2
      go_ret2
      exact ⟨by first | rfl | (simp; done) | (simp [*]; done), by repeat (first | exact Drawn0.refl _ | apply Drawn0.step)⟩
    · rw [if_neg c4] at H
      have c4b0 : decide (0 ≤ a0) = false := decide_eq_false c4
      clear c4
      simp only [Option.some.injEq, Prod.mk.injEq] at H
      obtain ⟨rfl, rfl⟩ := H
      go_enter Try.func17, Try.ntmps17
      go_wp2
      go_ret2
      exact ⟨by first | rfl | (simp; done) | (simp [*]; done), by repeat (first | exact Drawn0.refl _ | apply Drawn0.step)⟩
  · rw [if_neg c3] at H
    have c3b0 : (a1 == (-9223372036854775808)) = false := beq_eq_false_iff_ne.mpr c3
    have c3b1 : (a1 != (-9223372036854775808)) = true := bne_iff_ne.mpr c3
    replace H := Option.bind_eq_some_iff.mp H
    obtain ⟨⟨t131, t132⟩, A50, H⟩ := H
    replace H : (some (t131, t132)) = some (r1, r2) := H
    have A5 := Aside0.mk A50
    clear A50
    simp only [Option.some.injEq, Prod.mk.injEq] at H
    obtain ⟨rfl, rfl⟩ := H
    go_enter Try.func17, Try.ntmps17
    go_wp2_with (first | ((with_reducible refine gate_callee (f := 37) rfl ?_); refine goesL_ (some 16) rfl rfl Try.func37 (by kernel_rfl) rfl #[.int .i64 a0, .int .i64 (wrap64 (-a1))] rfl (by (try simp only [List.map_toArray, List.map_cons, List.map_nil]); first | done | rfl | (simp only [List.length_drop, List.length_take]; rfl)) ?_; (with_reducible refine (soukref01_Add.calls k a0 (wrap64 (-a1)) t131 t132 _ A5.out).mono ?_); rintro e w' ⟨rfl, ⟨nd, rfl⟩⟩; refine ⟨_, rfl, ?_⟩))
    go_ret2
    exact ⟨by first | rfl | (simp; done) | (simp [*]; done), by repeat (first | exact Drawn0.refl _ | apply Drawn0.step)⟩

end Go.Proofs.Ytncnhhnbjmpomaa.Q
