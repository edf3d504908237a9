-- Written by wip/myprint.py over the kit's print: functions and contracts of the program's functions.
import Derived.Test.YtncnhhnbjmpomaaQ0
namespace Go.Proofs.Ytncnhhnbjmpomaa.Q
open Go.RowKit Go.Proofs.YtncnhhnbjmpomaaW.PrintWords Go.Proofs.YtncnhhnbjmpomaaW.PrintLast Go.Proofs.YtncnhhnbjmpomaaW.PrintMore
attribute [local go_sem] max2_int min2_int max_two min_two max_three min_three max_four min_four   -- for this text's walks alone
set_option linter.unusedVariables false
set_option linter.unusedSimpArgs false

/-! ### money_Add: function 13 -/
def money_Add.l0 : Nat → Int → List Int → Int → Int → Option (Int × Int)
  | 0, _, _, _, _ => none
  | k + 1, x4, x8, x9, x10 => if x10 < x9 then (if 0 ≤ x10 then (if x10 < (x8.length : Int) then (if ((decide ((wrap64 (x4 + (rd x8 x10))) > x4)) != (decide ((rd x8 x10) > 0))) = true then (if (rd x8 x10) = 0 then (money_Add.l0 k (wrap64 (x4 + (rd x8 x10))) x8 x9 (wrap64 (x10 + 1))) else (some (0, 2))) else (money_Add.l0 k (wrap64 (x4 + (rd x8 x10))) x8 x9 (wrap64 (x10 + 1)))) else (none)) else (none)) else (some (x4, 0))
def money_Add.f (k : Nat) (l0 : List Int) : Option (Int × Int) := money_Add.l0 k 0 l0 (l0.length : Int) 0
theorem money_Add.mono_l : ∀ k, (∀ y0 y1 y2 y3, LeO (money_Add.l0 k y0 y1 y2 y3) (money_Add.l0 (k + 1) y0 y1 y2 y3))
  | 0 => fun _ _ _ _ r h => by simp [money_Add.l0] at h
  | k + 1 => by
    have ih0 := money_Add.mono_l k
    · intro y0 y1 y2 y3
      unfold money_Add.l0
      repeat' first
      | (with_reducible exact ih0 _ _ _ _)
      | (with_reducible exact LeO.refl _)
      | (with_reducible exact LeO.none _)
      | (with_reducible refine LeO.ite ?_ ?_)
      | (with_reducible refine LeO.bind ?_ (fun _ => ?_))
      | exact ih0 _ _ _ _
      | exact LeO.none _
      | refine LeO.ite ?_ ?_
      | refine LeO.bind ?_ (fun _ => ?_)
theorem money_Add.mono : ∀ a0 k, LeO (money_Add.f k a0) (money_Add.f (k + 1) a0) := by
  intro a0 k
  have ih0 := money_Add.mono_l k
  unfold money_Add.f
  repeat' first
      | (with_reducible exact ih0 _ _ _ _)
      | (with_reducible exact LeO.refl _)
      | (with_reducible exact LeO.none _)
      | (with_reducible refine LeO.ite ?_ ?_)
      | (with_reducible refine LeO.bind ?_ (fun _ => ?_))
      | exact ih0 _ _ _ _
      | exact LeO.none _
      | refine LeO.ite ?_ ?_
      | refine LeO.bind ?_ (fun _ => ?_)
set_option maxHeartbeats 8000000 in
set_option maxRecDepth 100000 in
theorem money_Add.calls (k : Nat) (A0 : Option Addr) (c0 : Nat) (l0 : List Int) (r1 : Int) (r2 : Int) (w : World) (hr0 : Kd.C (Kd.int .i64) w A0 l0.length l0) (hc0 : l0.length ≤ c0) (h : money_Add.f k l0 = some (r1, r2)) :
    Calls Try.prog 13 #[.slice A0 l0.length c0] w fun e w' => e = .returned (.tuple #[.int .i64 r1, .int .i64 r2]) ∧ Drawn0 w w' := by
  have HR0 := Aside0.mk hr0
  have HC0 := Aside0.mk hc0
  clear hr0 hc0
  have H : (money_Add.l0 k 0 l0 (l0.length : Int) 0) = some (r1, r2) := h
  clear h
  have H' := Aside0.mk H
  clear H
  go_enter Try.func13, Try.ntmps13
  go_wp2
  go_loopg [4, 10] k (fun kq v4 v10 w' => ∃ (x4_1 : Int) (x10_1 : Int), v4 = .int .i64 x4_1 ∧ v10 = .int .i64 x10_1 ∧ Aside0 (money_Add.l0 kq x4_1 l0 (l0.length : Int) x10_1 = some (r1, r2)) ∧ Aside0 (kq ≤ k) ∧ Drawn0 w w')
  case atStart => exact ⟨(0), (0), (by first | rfl | (simp; done) | (simp [*]; done)), (by first | rfl | (simp; done) | (simp [*]; done)), H', ⟨Nat.le_refl _⟩, by repeat (first | exact Drawn0.refl _ | apply Drawn0.step)⟩
  case round =>
    clear H'
    try clear c1
    obtain ⟨x4_1, x10_1, rfl, rfl, HA, HK1, ⟨m1, rfl⟩⟩ := hrel
    cases gk with
    | zero => exact absurd HA.out (by simp [money_Add.l0])
    | succ k1 =>
      have H := HA.out
      clear HA
      simp only [money_Add.l0] at H
      by_cases c2 : x10_1 < (l0.length : Int)
      · rw [if_pos c2] at H
        have c2b0 : decide (x10_1 < (l0.length : Int)) = true := decide_eq_true c2
        clear c2
        by_cases c3 : 0 ≤ x10_1
        · rw [if_pos c3] at H
          have c3b0 : decide (0 ≤ x10_1) = true := decide_eq_true c3
          clear c3
          by_cases c4 : x10_1 < (l0.length : Int)
          · rw [if_pos c4] at H
            have c4b0 : decide (x10_1 < (l0.length : Int)) = true := decide_eq_true c4
            clear c4
            by_cases c5 : ((decide ((wrap64 (x4_1 + (rd l0 x10_1))) > x4_1)) != (decide ((rd l0 x10_1) > 0))) = true
            · rw [if_pos c5] at H
              have c5b0 : ((decide ((wrap64 (x4_1 + (rd l0 x10_1))) > x4_1)) != (decide ((rd l0 x10_1) > 0))) = true := c5
              (try (have c5b1 : decide ((decide ((wrap64 (x4_1 + (rd l0 x10_1))) > x4_1)) = (decide ((rd l0 x10_1) > 0))) = false := by simpa using c5))
              (try (have c5b2 : ((decide ((wrap64 (x4_1 + (rd l0 x10_1))) > x4_1)) == (decide ((rd l0 x10_1) > 0))) = false := by simpa using c5))
              (try (have c5b3 : ¬ ((decide ((wrap64 (x4_1 + (rd l0 x10_1))) > x4_1)) = (decide ((rd l0 x10_1) > 0))) := by simpa using c5))
              clear c5
              by_cases c6 : (rd l0 x10_1) = 0
              · rw [if_pos c6] at H
                have c6b0 : ((rd l0 x10_1) == 0) = true := beq_iff_eq.mpr c6
                have c6b1 : ((rd l0 x10_1) != 0) = false := bne_eq_false_iff_eq.mpr c6
                clear c6
                have H' := Aside0.mk H
                clear H
                have p101 : 0 ≤ (x10_1 : Int) := of_decide_eq_true (by first | (with_reducible assumption) | assumption)
                have q101 : x10_1 < (l0.length : Int) := of_decide_eq_true (by first | (with_reducible assumption) | assumption)
                obtain ⟨ad101, e101, hx101_0⟩ := Kd.at_int HR0.out x10_1 p101 q101
                cases e101
                replace p101 := eq_true p101
                replace q101 := eq_true q101
                go_wp2
                go_roundg k1
                case measure => have := HK1.out; omega
                case rel => exact ⟨(wrap64 (x4_1 + (rd l0 x10_1))), (wrap64 (x10_1 + 1)), (by first | rfl | (simp; done) | (simp [*]; done)), (by first | rfl | (simp; done) | (simp [*]; done)), H', ⟨by have := HK1.out; omega⟩, by repeat (first | exact Drawn0.refl _ | apply Drawn0.step)⟩
              · rw [if_neg c6] at H
                have c6b0 : ((rd l0 x10_1) == 0) = false := beq_eq_false_iff_ne.mpr c6
                have c6b1 : ((rd l0 x10_1) != 0) = true := bne_iff_ne.mpr c6
                simp only [Option.some.injEq, Prod.mk.injEq] at H
                obtain ⟨rfl, rfl⟩ := H
                have p101 : 0 ≤ (x10_1 : Int) := of_decide_eq_true (by first | (with_reducible assumption) | assumption)
                have q101 : x10_1 < (l0.length : Int) := of_decide_eq_true (by first | (with_reducible assumption) | assumption)
                obtain ⟨ad101, e101, hx101_0⟩ := Kd.at_int HR0.out x10_1 p101 q101
                cases e101
                replace p101 := eq_true p101
                replace q101 := eq_true q101
                go_wp2
                go_ret2
                exact ⟨by first | rfl | (simp; done) | (simp [*]; done), by repeat (first | exact Drawn0.refl _ | apply Drawn0.step)⟩
            · rw [if_neg c5] at H
              have c5b0 : ((decide ((wrap64 (x4_1 + (rd l0 x10_1))) > x4_1)) != (decide ((rd l0 x10_1) > 0))) = false := by simpa using c5
              (try (have c5b1 : decide ((decide ((wrap64 (x4_1 + (rd l0 x10_1))) > x4_1)) = (decide ((rd l0 x10_1) > 0))) = true := by simpa using c5))
              (try (have c5b2 : ((decide ((wrap64 (x4_1 + (rd l0 x10_1))) > x4_1)) == (decide ((rd l0 x10_1) > 0))) = true := by simpa using c5))
              clear c5
              have H' := Aside0.mk H
              clear H
              have p101 : 0 ≤ (x10_1 : Int) := of_decide_eq_true (by first | (with_reducible assumption) | assumption)
              have q101 : x10_1 < (l0.length : Int) := of_decide_eq_true (by first | (with_reducible assumption) | assumption)
              obtain ⟨ad101, e101, hx101_0⟩ := Kd.at_int HR0.out x10_1 p101 q101
              cases e101
              replace p101 := eq_true p101
              replace q101 := eq_true q101
              go_wp2
              go_roundg k1
              case measure => have := HK1.out; omega
              case rel => exact ⟨(wrap64 (x4_1 + (rd l0 x10_1))), (wrap64 (x10_1 + 1)), (by first | rfl | (simp; done) | (simp [*]; done)), (by first | rfl | (simp; done) | (simp [*]; done)), H', ⟨by have := HK1.out; omega⟩, by repeat (first | exact Drawn0.refl _ | apply Drawn0.step)⟩
          · rw [if_neg c4] at H
            exact absurd H (by simp)
        · rw [if_neg c3] at H
          exact absurd H (by simp)
      · rw [if_neg c2] at H
        have c2b0 : decide (x10_1 < (l0.length : Int)) = false := decide_eq_false c2
        clear c2
        simp only [Option.some.injEq, Prod.mk.injEq] at H
        obtain ⟨rfl, rfl⟩ := H
        go_wp2
        go_ret2
        exact ⟨by first | rfl | (simp; done) | (simp [*]; done), by repeat (first | exact Drawn0.refl _ | apply Drawn0.step)⟩

end Go.Proofs.Ytncnhhnbjmpomaa.Q
