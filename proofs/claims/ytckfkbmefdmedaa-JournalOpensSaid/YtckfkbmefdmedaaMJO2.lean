/- What the statement leans on, part 2: functions of the program and of the reference as Lean functions, their contracts, and plain laws. -/
import Derived.Laws.StructEq
import Derived.WalkMore
import Derived.Shelf.SlGeneric
import Derived.Shelf.Spec.SlicesGrow
import Derived.Ground.Names8Prog
import Derived.RangeFuncNested
import Derived.RangeFuncBound
import Derived.RangeFuncCalls
import Derived.RangeFuncLeaves
import Derived.Shelf.Abstract
import Derived.Shelf.RegionOpen
import Derived.OwnWalkIn
import Derived.TacticsInMore
import Derived.LoopNIn
import Derived.LoopIn
import Derived.Laws.CopyOwn
import Derived.Test.YtckfkbmefdmedaaMJO1
namespace Go.Proofs.Ytckfkbmefdmedaa.Q
open Go.RowKit Go.Proofs.YtckfkbmefdmedaaW.PrintWords Go.Proofs.YtckfkbmefdmedaaW.PrintLast Go.Proofs.YtckfkbmefdmedaaW.PrintMore
attribute [local go_sem] max2_int min2_int max_two min_two max_three min_three max_four min_four   -- for this text's walks alone
set_option linter.unusedVariables false
set_option linter.unusedSimpArgs false
mutual
def soukref03_Blocks.j0 : Nat → Int → ByteArray → Int → Bool → Option (List ByteArray × Bool)
 | 0, _, _, _, _ => none
 | k + 1, x0, x1, x6, x30 => if x30 = true then (some (([] : List ByteArray), false)) else ((soukref03_Low.f k (IntKind.u64.wrap ((IntKind.u64.wrap (x0)) + 1)) 4).bind fun t135 => (soukref03_Blocks.l0 k x1 x6 t135 ([] : List ByteArray) 0))
def soukref03_Blocks.l0 : Nat → ByteArray → Int → ByteArray → List ByteArray → Int → Option (List ByteArray × Bool)
 | 0, _, _, _, _, _ => none
 | k + 1, x1, x6, x7, x8, x9 => if x9 < x6 then (if (x1.size : Int) > 49 then (if 0 ≤ 49 then (if 49 ≤ (x1.size : Int) then (soukref03_Blocks.j2 k x1 x6 x7 x8 x9 (x1.extract 0 49)) else (none)) else (none)) else (soukref03_Blocks.j2 k x1 x6 x7 x8 x9 x1)) else (some (x8, true))
def soukref03_Blocks.j2 : Nat → ByteArray → Int → ByteArray → List ByteArray → Int → ByteArray → Option (List ByteArray × Bool)
 | 0, _, _, _, _, _, _ => none
 | k + 1, x1, x6, x7, x8, x9, x10 => if 0 ≤ (x10.size : Int) then (if (x10.size : Int) ≤ (x1.size : Int) then (soukref03_Blocks.l1 k (x1.extract ((x10.size : Int) : Int).toNat x1.size) x6 x7 x8 x9 x10 (x10.size : Int)) else (none)) else (none)
def soukref03_Blocks.l1 : Nat → ByteArray → Int → ByteArray → List ByteArray → Int → ByteArray → Int → Option (List ByteArray × Bool)
 | 0, _, _, _, _, _, _, _ => none
 | k + 1, x1, x6, x7, x8, x9, x10, x11 => if (x10.size : Int) < 49 then (if x10.size + 1 ≤ 9223372036854775807 then (soukref03_Blocks.l1 k x1 x6 x7 x8 x9 (x10 ++ (⟨#[0]⟩ : ByteArray)) x11) else (none)) else ((soukref03_Low.f k (IntKind.u64.wrap (x9)) 1).bind fun t136 => ((soukref03_Low.f k (IntKind.u64.wrap (x6)) 1).bind fun t137 => (if t136.size + t137.size ≤ 9223372036854775807 then ((soukref03_Low.f k (IntKind.u64.wrap (x11)) 1).bind fun t138 => (if (t136 ++ t137).size + t138.size ≤ 9223372036854775807 then (if ((t136 ++ t137) ++ t138).size + x10.size ≤ 9223372036854775807 then (if x7.size + (((t136 ++ t137) ++ t138) ++ x10).size ≤ 9223372036854775807 then ((soukref03_Sum.f k (x7 ++ (((t136 ++ t137) ++ t138) ++ x10))).bind fun t139 => ((soukref03_Low.f k (IntKind.u64.wrap (t139)) 4).bind fun t140 => (if (x7 ++ (((t136 ++ t137) ++ t138) ++ x10)).size + t140.size ≤ 9223372036854775807 then (if ((x7 ++ (((t136 ++ t137) ++ t138) ++ x10)) ++ t140).size + x7.size ≤ 9223372036854775807 then (if x8.length < 8796093022208 then (soukref03_Blocks.l0 k x1 x6 x7 (x8 ++ [((x7 ++ (((t136 ++ t137) ++ t138) ++ x10)) ++ t140) ++ x7]) (wrap64 (x9 + 1))) else (none)) else (none)) else (none)))) else (none)) else (none)) else (none))) else (none))))
end
def soukref03_Blocks.f (k : Nat) (a0 : Int) (a1 : ByteArray) : Option (List ByteArray × Bool) := if (wrap64 (Int.tdiv (wrap64 ((a1.size : Int) + 48)) 49)) = 0 then (soukref03_Blocks.j0 k a0 a1 (wrap64 (Int.tdiv (wrap64 ((a1.size : Int) + 48)) 49)) true) else (if (wrap64 (Int.tdiv (wrap64 ((a1.size : Int) + 48)) 49)) > 255 then (soukref03_Blocks.j0 k a0 a1 (wrap64 (Int.tdiv (wrap64 ((a1.size : Int) + 48)) 49)) true) else (if a0 < 0 then (soukref03_Blocks.j0 k a0 a1 (wrap64 (Int.tdiv (wrap64 ((a1.size : Int) + 48)) 49)) true) else (soukref03_Blocks.j0 k a0 a1 (wrap64 (Int.tdiv (wrap64 ((a1.size : Int) + 48)) 49)) (decide (a0 > 4294967294)))))
set_option maxHeartbeats 8000000 in
set_option maxRecDepth 100000 in
theorem soukref03_Blocks.calls (k : Nat) (a0 : Int) (a1 : ByteArray) (r1 : List ByteArray) (r2 : Bool) (w : World) (h : soukref03_Blocks.f k a0 a1 = some (r1, r2)) :
  Calls Try.prog 19 #[.int .i64 a0, .string a1] w fun e w' => ∃ v0_ : Value, e = .returned (.tuple #[v0_, .bool r2]) ∧ Kd.R Kd.string 9 w' w.heap.size (fun _ => True) v0_ r1 ∧ Below w.heap.size w w' := by
 have HB := Aside0.mk (Below.refl w.heap.size w)
 have H : (if (wrap64 (Int.tdiv (wrap64 ((a1.size : Int) + 48)) 49)) = 0 then (soukref03_Blocks.j0 k a0 a1 (wrap64 (Int.tdiv (wrap64 ((a1.size : Int) + 48)) 49)) true) else (if (wrap64 (Int.tdiv (wrap64 ((a1.size : Int) + 48)) 49)) > 255 then (soukref03_Blocks.j0 k a0 a1 (wrap64 (Int.tdiv (wrap64 ((a1.size : Int) + 48)) 49)) true) else (if a0 < 0 then (soukref03_Blocks.j0 k a0 a1 (wrap64 (Int.tdiv (wrap64 ((a1.size : Int) + 48)) 49)) true) else (soukref03_Blocks.j0 k a0 a1 (wrap64 (Int.tdiv (wrap64 ((a1.size : Int) + 48)) 49)) (decide (a0 > 4294967294)))))) = some (r1, r2) := h
 clear h
 have HC3 := Aside0.mk H
 clear H
 go_enter Try.func19, Try.ntmps19
 go_upto_region 2 with (fail)
 go_cut [30] (fun v30 wc => ∃ (kq : Nat) (x30_2 : Bool), v30 = .bool x30_2 ∧ Aside0 (soukref03_Blocks.j0 kq a0 a1 (wrap64 (Int.tdiv (wrap64 ((a1.size : Int) + 48)) 49)) x30_2 = some (r1, r2)) ∧ Aside0 (kq ≤ k) ∧ Aside0 (Below w.heap.size w wc))
 case first =>
  have H := HC3.out
  clear HC3
  by_cases c4 : (wrap64 (Int.tdiv (wrap64 ((a1.size : Int) + 48)) 49)) = 0
  ·rw [if_pos c4] at H
   have c4b0 : ((wrap64 (Int.tdiv (wrap64 ((a1.size : Int) + 48)) 49)) == 0) = true := beq_iff_eq.mpr c4
   have c4b1 : ((wrap64 (Int.tdiv (wrap64 ((a1.size : Int) + 48)) 49)) != 0) = false := bne_eq_false_iff_eq.mpr c4
   clear c4
   (first | rw [c4b0] | (simp only [i64_w, i32_w]; rw [c4b0]) | skip)
   have H' := Aside0.mk H
   clear H
   go_wp2
   go_meet
   case rel => exact ⟨_, (true), (by first | rfl | (simp; done) | (simp [*]; done)), H', ⟨by first | omega | exact Nat.le_refl _⟩, ⟨by repeat (first | (with_reducible first | exact HB.out | apply below_alloc | apply pw_below_drewN | apply below_drew1) | exact HB.out)⟩⟩
  ·rw [if_neg c4] at H
   have c4b0 : ((wrap64 (Int.tdiv (wrap64 ((a1.size : Int) + 48)) 49)) == 0) = false := beq_eq_false_iff_ne.mpr c4
   have c4b1 : ((wrap64 (Int.tdiv (wrap64 ((a1.size : Int) + 48)) 49)) != 0) = true := bne_iff_ne.mpr c4
   (first | rw [c4b0] | (simp only [i64_w, i32_w]; rw [c4b0]) | skip)
   by_cases c5 : (wrap64 (Int.tdiv (wrap64 ((a1.size : Int) + 48)) 49)) > 255
   ·rw [if_pos c5] at H
    have c5b0 : decide (255 < (wrap64 (Int.tdiv (wrap64 ((a1.size : Int) + 48)) 49))) = true := decide_eq_true c5
    clear c5
    have H' := Aside0.mk H
    clear H
    go_wp2
    go_meet
    case rel => exact ⟨_, (true), (by first | rfl | (simp; done) | (simp [*]; done)), H', ⟨by first | omega | exact Nat.le_refl _⟩, ⟨by repeat (first | (with_reducible first | exact HB.out | apply below_alloc | apply pw_below_drewN | apply below_drew1) | exact HB.out)⟩⟩
   ·rw [if_neg c5] at H
    have c5b0 : decide (255 < (wrap64 (Int.tdiv (wrap64 ((a1.size : Int) + 48)) 49))) = false := decide_eq_false c5
    clear c5
    by_cases c6 : a0 < 0
    ·rw [if_pos c6] at H
     have c6b0 : decide (a0 < 0) = true := decide_eq_true c6
     clear c6
     have H' := Aside0.mk H
     clear H
     go_wp2
     go_meet
     case rel => exact ⟨_, (true), (by first | rfl | (simp; done) | (simp [*]; done)), H', ⟨by first | omega | exact Nat.le_refl _⟩, ⟨by repeat (first | (with_reducible first | exact HB.out | apply below_alloc | apply pw_below_drewN | apply below_drew1) | exact HB.out)⟩⟩
    ·rw [if_neg c6] at H
     have c6b0 : decide (a0 < 0) = false := decide_eq_false c6
     clear c6
     have H' := Aside0.mk H
     clear H
     go_wp2
     go_meet
     case rel => exact ⟨_, (decide (a0 > 4294967294)), (by first | rfl | (simp; done) | (simp [*]; done)), H', ⟨by first | omega | exact Nat.le_refl _⟩, ⟨by repeat (first | (with_reducible first | exact HB.out | apply below_alloc | apply pw_below_drewN | apply below_drew1) | exact HB.out)⟩⟩
 case rest =>
  clear HC3
  try clear c1
  try clear p2
  try clear c4
  try clear c4b0
  try clear c4b1
  try clear c5
  try clear c5b0
  try clear c6
  try clear c6b0
  try clear p6
  obtain ⟨kq, x30_2, rfl, HA, HJ2, HB⟩ := hcut
  cases kq with
  | zero => exact absurd HA.out (by simp [soukref03_Blocks.j0])
  | succ kj2 =>
   have H := HA.out
   clear HA
   simp only [soukref03_Blocks.j0] at H
   by_cases c7 : x30_2 = true
   ·subst c7
    have H1 : (some (([] : List ByteArray), false)) = some (r1, r2) := by rw [if_pos rfl] at H; exact H
    clear H
    have H := H1
    clear H1
    simp only [Option.some.injEq, Prod.mk.injEq] at H
    obtain ⟨rfl, rfl⟩ := H
    go_wp2
    go_ret2
    exact ⟨_, by first | rfl | (simp [errW_none, errW_some] <;> rfl) | (simp [*, errW_none, errW_some] <;> rfl), by first | exact Kd.R_nil _ _ _ _ _ | exact Kd.N_nil _ _ _ _ _ | exact Kd.V_nil _ _ _ _ _ | exact Kd.Q_nil _ _ _ _ _ | exact Kd.S_nil _ _ _ _ _, by repeat (first | (with_reducible first | exact HB.out | apply below_alloc | apply pw_below_drewN | apply below_drew1) | exact HB.out)⟩
   ·replace c7 := Bool.eq_false_iff.mpr c7
    subst c7
    have H1 : ((soukref03_Low.f kj2 (IntKind.u64.wrap ((IntKind.u64.wrap (a0)) + 1)) 4).bind fun t135 => (soukref03_Blocks.l0 kj2 a1 (wrap64 (Int.tdiv (wrap64 ((a1.size : Int) + 48)) 49)) t135 ([] : List ByteArray) 0)) = some (r1, r2) := by rw [if_neg (show ¬ (false = true) by decide)] at H; exact H
    clear H
    have H := H1
    clear H1
    replace H := Option.bind_eq_some_iff.mp H
    obtain ⟨t135, A80, H⟩ := H
    replace H : (soukref03_Blocks.l0 kj2 a1 (wrap64 (Int.tdiv (wrap64 ((a1.size : Int) + 48)) 49)) t135 ([] : List ByteArray) 0) = some (r1, r2) := H
    have A8 := Aside0.mk A80
    clear A80
    have H' := Aside0.mk H
    clear H
    go_wp2_with (first | ((with_reducible refine gate_callee (f := 74) rfl ?_); refine goesL_ (some 34) rfl rfl Try.func74 (by kernel_rfl) rfl #[.int .u64 (IntKind.u64.wrap ((IntKind.u64.wrap (a0)) + 1)), .int .i64 4] rfl (by (try simp only [List.map_toArray, List.map_cons, List.map_nil]); first | done | rfl | (simp only [List.length_drop, List.length_take]; rfl)) ?_; (with_reducible refine (soukref03_Low.calls kj2 (IntKind.u64.wrap ((IntKind.u64.wrap (a0)) + 1)) 4 t135 _ A8.out).mono ?_); rintro e w9 ⟨rfl, hb⟩; refine ⟨_, rfl, ?_⟩; have n0_ := Aside0.mk (below_step (by repeat (first | (with_reducible first | exact HB.out | apply below_alloc | apply pw_below_drewN | apply below_drew1) | exact HB.out)) hb); clear HB; have HB := n0_; clear n0_; (try clear hb); (try clear hb2); (try clear hk); (try clear hi)))
    go_loopg [1, 8, 9] kj2 (fun kq v1 v8 v9 w' => ∃ (x1_2 : ByteArray) (x8_2 : List ByteArray) (x9_2 : Int), v1 = .string x1_2 ∧ v9 = .int .i64 x9_2 ∧ Aside0 (soukref03_Blocks.l0 kq x1_2 (wrap64 (Int.tdiv (wrap64 ((a1.size : Int) + 48)) 49)) t135 x8_2 x9_2 = some (r1, r2)) ∧ Aside0 (kq ≤ kj2) ∧ Aside0 (Kd.R Kd.string 9 w' w.heap.size (fun _ => True) v8 x8_2) ∧ Aside0 (Below w.heap.size w w'))
    case atStart => exact ⟨(a1), (([] : List ByteArray)), (0), (by first | rfl | (simp; done) | (simp [*]; done)), (by first | rfl | (simp; done) | (simp [*]; done)), H', ⟨Nat.le_refl _⟩, ⟨by first | exact Kd.R_nil _ _ _ _ _ | exact Kd.N_nil _ _ _ _ _ | exact Kd.V_nil _ _ _ _ _ | exact Kd.Q_nil _ _ _ _ _ | exact Kd.S_nil _ _ _ _ _⟩, ⟨by repeat (first | (with_reducible first | exact HB.out | apply below_alloc | apply pw_below_drewN | apply below_drew1) | exact HB.out)⟩⟩
    case round =>
     clear H'
     try clear c1
     try clear p2
     try clear c4
     try clear c4b0
     try clear c4b1
     try clear c5
     try clear c5b0
     try clear c6
     try clear c6b0
     try clear p6
     try clear c7
     try clear p2
     try clear p6
     obtain ⟨x1_2, x8_2, x9_2, rfl, rfl, HA, HK2, HO_8, HB⟩ := hrel
     cases gk with
     | zero => exact absurd HA.out (by simp [soukref03_Blocks.l0])
     | succ k2 =>
      have H := HA.out
      clear HA
      simp only [soukref03_Blocks.l0] at H
      by_cases c10 : x9_2 < (wrap64 (Int.tdiv (wrap64 ((a1.size : Int) + 48)) 49))
      ·rw [if_pos c10] at H
       have c10b0 : decide (x9_2 < (wrap64 (Int.tdiv (wrap64 ((a1.size : Int) + 48)) 49))) = true := decide_eq_true c10
       clear c10
       have HC11 := Aside0.mk H
       clear H
       go_upto_if 43 with (fail)
       go_cut [10] (fun v10 wc => ∃ (kq : Nat) (x10_10 : ByteArray), v10 = .string x10_10 ∧ Aside0 (soukref03_Blocks.j2 kq x1_2 (wrap64 (Int.tdiv (wrap64 ((a1.size : Int) + 48)) 49)) t135 x8_2 x9_2 x10_10 = some (r1, r2)) ∧ Aside0 (kq ≤ k2) ∧ Aside0 (Kd.R Kd.string 9 wc w.heap.size (fun _ => True) u8 x8_2) ∧ Aside0 (Below w.heap.size w wc))
       case first =>
        have H := HC11.out
        clear HC11
        by_cases c12 : (x1_2.size : Int) > 49
        ·rw [if_pos c12] at H
         have c12b0 : decide (49 < (x1_2.size : Int)) = true := decide_eq_true c12
         have c12b1 : decide (49 < x1_2.size) = true := decide_eq_true (by omega)
         clear c12
         (first | rw [c12b0] | (simp only [i64_w, i32_w]; rw [c12b0]) | skip)
         by_cases c13 : 0 ≤ 49
         ·rw [if_pos c13] at H
          have c13b0 := eq_true c13
          have c13b1 : decide (0 ≤ 49) = true := decide_eq_true c13
          clear c13
          by_cases c14 : 49 ≤ (x1_2.size : Int)
          ·rw [if_pos c14] at H
           have c14b0 := eq_true c14
           have c14b1 : decide (49 ≤ (x1_2.size : Int)) = true := decide_eq_true c14
           clear c14
           have H' := Aside0.mk H
           clear H
           go_wp2
           go_meet
           case rel => exact ⟨_, (x1_2.extract 0 49), (by first | rfl | (simp; done) | (simp [*]; done)), H', ⟨by have := HJ2.out; have := HK2.out; first | omega | exact Nat.le_refl _⟩, ⟨by (with_reducible repeat (first | apply Kd.R_alloc | apply Kd.R_drewN | apply Kd.R_drew)); exact HO_8.out⟩, ⟨by repeat (first | (with_reducible first | exact HB.out | apply below_alloc | apply pw_below_drewN | apply below_drew1) | exact HB.out)⟩⟩
          ·rw [if_neg c14] at H
           exact absurd H (by simp)
         ·rw [if_neg c13] at H
          exact absurd H (by simp)
        ·rw [if_neg c12] at H
         have c12b0 : decide (49 < (x1_2.size : Int)) = false := decide_eq_false c12
         have c12b1 : decide (49 < x1_2.size) = false := decide_eq_false (by omega)
         clear c12
         (first | rw [c12b0] | (simp only [i64_w, i32_w]; rw [c12b0]) | skip)
         have H' := Aside0.mk H
         clear H
         go_wp2
         go_meet
         case rel => exact ⟨_, (x1_2), (by first | rfl | (simp; done) | (simp [*]; done)), H', ⟨by have := HJ2.out; have := HK2.out; first | omega | exact Nat.le_refl _⟩, ⟨by (with_reducible repeat (first | apply Kd.R_alloc | apply Kd.R_drewN | apply Kd.R_drew)); exact HO_8.out⟩, ⟨by repeat (first | (with_reducible first | exact HB.out | apply below_alloc | apply pw_below_drewN | apply below_drew1) | exact HB.out)⟩⟩
       case rest =>
        clear HC11
        try clear c1
        try clear p2
        try clear c4
        try clear c4b0
        try clear c4b1
        try clear c5
        try clear c5b0
        try clear c6
        try clear c6b0
        try clear p6
        try clear c7
        try clear c10
        try clear c10b0
        try clear c12
        try clear c12b0
        try clear c12b1
        try clear c13
        try clear c13b0
        try clear c13b1
        try clear c14
        try clear c14b0
        try clear c14b1
        try clear p2
        try clear p6
        obtain ⟨kq, x10_10, rfl, HA, HJ10, HO_8, HB⟩ := hcut
        cases kq with
        | zero => exact absurd HA.out (by simp [soukref03_Blocks.j2])
        | succ kj10 =>
         have H := HA.out
         clear HA
         simp only [soukref03_Blocks.j2] at H
         by_cases c15 : 0 ≤ (x10_10.size : Int)
         ·rw [if_pos c15] at H
          have c15b0 := eq_true c15
          have c15b1 : decide (0 ≤ (x10_10.size : Int)) = true := decide_eq_true c15
          clear c15
          by_cases c16 : (x10_10.size : Int) ≤ (x1_2.size : Int)
          ·rw [if_pos c16] at H
           have c16b0 := eq_true c16
           have c16b1 : decide ((x10_10.size : Int) ≤ (x1_2.size : Int)) = true := decide_eq_true c16
           clear c16
           have H' := Aside0.mk H
           clear H
           go_wp2
           go_loopg [10] kj10 (fun kq v10 w' => ∃ (x10_4 : ByteArray), v10 = .string x10_4 ∧ Aside0 (soukref03_Blocks.l1 kq (x1_2.extract ((x10_10.size : Int) : Int).toNat x1_2.size) (wrap64 (Int.tdiv (wrap64 ((a1.size : Int) + 48)) 49)) t135 x8_2 x9_2 x10_4 (x10_10.size : Int) = some (r1, r2)) ∧ Aside0 (kq ≤ kj10) ∧ Aside0 (Kd.R Kd.string 9 w' w.heap.size (fun _ => True) u8 x8_2) ∧ Aside0 (Below w.heap.size w w'))
           case atStart => exact ⟨(x10_10), (by first | rfl | (simp; done) | (simp [*]; done)), H', ⟨Nat.le_refl _⟩, ⟨by (with_reducible repeat (first | apply Kd.R_alloc | apply Kd.R_drewN | apply Kd.R_drew)); exact HO_8.out⟩, ⟨by repeat (first | (with_reducible first | exact HB.out | apply below_alloc | apply pw_below_drewN | apply below_drew1) | exact HB.out)⟩⟩
           case round =>
            clear H'
            try clear c1
            try clear p2
            try clear c4
            try clear c4b0
            try clear c4b1
            try clear c5
            try clear c5b0
            try clear c6
            try clear c6b0
            try clear p6
            try clear c7
            try clear c10
            try clear c10b0
            try clear c12
            try clear c12b0
            try clear c12b1
            try clear c13
            try clear c13b0
            try clear c13b1
            try clear c14
            try clear c14b0
            try clear c14b1
            try clear c15
            try clear c15b0
            try clear c15b1
            try clear c16
            try clear c16b0
            try clear c16b1
            try clear p2
            try clear p6
            obtain ⟨x10_4, rfl, HA, HK4, HO_8, HB⟩ := hrel
            cases gk with
            | zero => exact absurd HA.out (by simp [soukref03_Blocks.l1])
            | succ k4 =>
             have H := HA.out
             clear HA
             simp only [soukref03_Blocks.l1] at H
             by_cases c17 : (x10_4.size : Int) < 49
             ·rw [if_pos c17] at H
              have c17b0 : decide ((x10_4.size : Int) < 49) = true := decide_eq_true c17
              have c17b1 : decide (x10_4.size < 49) = true := decide_eq_true (by omega)
              clear c17
              by_cases c18 : x10_4.size + 1 ≤ 9223372036854775807
              ·rw [if_pos c18] at H
               have c18b0 := eq_true c18
               have c18b1 : decide (x10_4.size + 1 ≤ 9223372036854775807) = true := decide_eq_true c18
               try have c18b2 : (9223372036854775807 < x10_4.size + 1) = False := eq_false (Nat.not_lt.2 c18)
               have H' := Aside0.mk H
               clear H
               go_wp2
               go_roundg k4
               case measure => have := HJ2.out; have := HK2.out; have := HJ10.out; have := HK4.out; omega
               case rel => exact ⟨(x10_4 ++ (⟨#[0]⟩ : ByteArray)), (by first | rfl | (simp; done) | (simp [*]; done)), H', ⟨by have := HJ2.out; have := HK2.out; have := HJ10.out; have := HK4.out; omega⟩, ⟨by (with_reducible repeat (first | apply Kd.R_alloc | apply Kd.R_drewN | apply Kd.R_drew)); exact HO_8.out⟩, ⟨by repeat (first | (with_reducible first | exact HB.out | apply below_alloc | apply pw_below_drewN | apply below_drew1) | exact HB.out)⟩⟩
              ·rw [if_neg c18] at H
               exact absurd H (by simp)
             ·rw [if_neg c17] at H
              have c17b0 : decide ((x10_4.size : Int) < 49) = false := decide_eq_false c17
              have c17b1 : decide (x10_4.size < 49) = false := decide_eq_false (by omega)
              clear c17
              replace H := Option.bind_eq_some_iff.mp H
              obtain ⟨t136, A190, H⟩ := H
              replace H : ((soukref03_Low.f k4 (IntKind.u64.wrap ((wrap64 (Int.tdiv (wrap64 ((a1.size : Int) + 48)) 49)))) 1).bind fun t137 => (if t136.size + t137.size ≤ 9223372036854775807 then ((soukref03_Low.f k4 (IntKind.u64.wrap ((x10_10.size : Int))) 1).bind fun t138 => (if (t136 ++ t137).size + t138.size ≤ 9223372036854775807 then (if ((t136 ++ t137) ++ t138).size + x10_4.size ≤ 9223372036854775807 then (if t135.size + (((t136 ++ t137) ++ t138) ++ x10_4).size ≤ 9223372036854775807 then ((soukref03_Sum.f k4 (t135 ++ (((t136 ++ t137) ++ t138) ++ x10_4))).bind fun t139 => ((soukref03_Low.f k4 (IntKind.u64.wrap (t139)) 4).bind fun t140 => (if (t135 ++ (((t136 ++ t137) ++ t138) ++ x10_4)).size + t140.size ≤ 9223372036854775807 then (if ((t135 ++ (((t136 ++ t137) ++ t138) ++ x10_4)) ++ t140).size + t135.size ≤ 9223372036854775807 then (if x8_2.length < 8796093022208 then (soukref03_Blocks.l0 k4 (x1_2.extract ((x10_10.size : Int) : Int).toNat x1_2.size) (wrap64 (Int.tdiv (wrap64 ((a1.size : Int) + 48)) 49)) t135 (x8_2 ++ [((t135 ++ (((t136 ++ t137) ++ t138) ++ x10_4)) ++ t140) ++ t135]) (wrap64 (x9_2 + 1))) else (none)) else (none)) else (none)))) else (none)) else (none)) else (none))) else (none))) = some (r1, r2) := H
              have A19 := Aside0.mk A190
              clear A190
              replace H := Option.bind_eq_some_iff.mp H
              obtain ⟨t137, A200, H⟩ := H
              replace H : (if t136.size + t137.size ≤ 9223372036854775807 then ((soukref03_Low.f k4 (IntKind.u64.wrap ((x10_10.size : Int))) 1).bind fun t138 => (if (t136 ++ t137).size + t138.size ≤ 9223372036854775807 then (if ((t136 ++ t137) ++ t138).size + x10_4.size ≤ 9223372036854775807 then (if t135.size + (((t136 ++ t137) ++ t138) ++ x10_4).size ≤ 9223372036854775807 then ((soukref03_Sum.f k4 (t135 ++ (((t136 ++ t137) ++ t138) ++ x10_4))).bind fun t139 => ((soukref03_Low.f k4 (IntKind.u64.wrap (t139)) 4).bind fun t140 => (if (t135 ++ (((t136 ++ t137) ++ t138) ++ x10_4)).size + t140.size ≤ 9223372036854775807 then (if ((t135 ++ (((t136 ++ t137) ++ t138) ++ x10_4)) ++ t140).size + t135.size ≤ 9223372036854775807 then (if x8_2.length < 8796093022208 then (soukref03_Blocks.l0 k4 (x1_2.extract ((x10_10.size : Int) : Int).toNat x1_2.size) (wrap64 (Int.tdiv (wrap64 ((a1.size : Int) + 48)) 49)) t135 (x8_2 ++ [((t135 ++ (((t136 ++ t137) ++ t138) ++ x10_4)) ++ t140) ++ t135]) (wrap64 (x9_2 + 1))) else (none)) else (none)) else (none)))) else (none)) else (none)) else (none))) else (none)) = some (r1, r2) := H
              have A20 := Aside0.mk A200
              clear A200
              by_cases c21 : t136.size + t137.size ≤ 9223372036854775807
              ·rw [if_pos c21] at H
               have c21b0 := eq_true c21
               have c21b1 : decide (t136.size + t137.size ≤ 9223372036854775807) = true := decide_eq_true c21
               try have c21b2 : (9223372036854775807 < t136.size + t137.size) = False := eq_false (Nat.not_lt.2 c21)
               replace H := Option.bind_eq_some_iff.mp H
               obtain ⟨t138, A220, H⟩ := H
               replace H : (if (t136 ++ t137).size + t138.size ≤ 9223372036854775807 then (if ((t136 ++ t137) ++ t138).size + x10_4.size ≤ 9223372036854775807 then (if t135.size + (((t136 ++ t137) ++ t138) ++ x10_4).size ≤ 9223372036854775807 then ((soukref03_Sum.f k4 (t135 ++ (((t136 ++ t137) ++ t138) ++ x10_4))).bind fun t139 => ((soukref03_Low.f k4 (IntKind.u64.wrap (t139)) 4).bind fun t140 => (if (t135 ++ (((t136 ++ t137) ++ t138) ++ x10_4)).size + t140.size ≤ 9223372036854775807 then (if ((t135 ++ (((t136 ++ t137) ++ t138) ++ x10_4)) ++ t140).size + t135.size ≤ 9223372036854775807 then (if x8_2.length < 8796093022208 then (soukref03_Blocks.l0 k4 (x1_2.extract ((x10_10.size : Int) : Int).toNat x1_2.size) (wrap64 (Int.tdiv (wrap64 ((a1.size : Int) + 48)) 49)) t135 (x8_2 ++ [((t135 ++ (((t136 ++ t137) ++ t138) ++ x10_4)) ++ t140) ++ t135]) (wrap64 (x9_2 + 1))) else (none)) else (none)) else (none)))) else (none)) else (none)) else (none)) = some (r1, r2) := H
               have A22 := Aside0.mk A220
               clear A220
               by_cases c23 : (t136 ++ t137).size + t138.size ≤ 9223372036854775807
               ·rw [if_pos c23] at H
                have c23b0 := eq_true c23
                have c23b1 : decide ((t136 ++ t137).size + t138.size ≤ 9223372036854775807) = true := decide_eq_true c23
                try have c23b2 : (9223372036854775807 < (t136 ++ t137).size + t138.size) = False := eq_false (Nat.not_lt.2 c23)
                try (have c23b3 := c23b2; simp only [ByteArray.size_append] at c23b3)
                by_cases c24 : ((t136 ++ t137) ++ t138).size + x10_4.size ≤ 9223372036854775807
                ·rw [if_pos c24] at H
                 have c24b0 := eq_true c24
                 have c24b1 : decide (((t136 ++ t137) ++ t138).size + x10_4.size ≤ 9223372036854775807) = true := decide_eq_true c24
                 try have c24b2 : (9223372036854775807 < ((t136 ++ t137) ++ t138).size + x10_4.size) = False := eq_false (Nat.not_lt.2 c24)
                 try (have c24b3 := c24b2; simp only [ByteArray.size_append] at c24b3)
                 by_cases c25 : t135.size + (((t136 ++ t137) ++ t138) ++ x10_4).size ≤ 9223372036854775807
                 ·rw [if_pos c25] at H
                  have c25b0 := eq_true c25
                  have c25b1 : decide (t135.size + (((t136 ++ t137) ++ t138) ++ x10_4).size ≤ 9223372036854775807) = true := decide_eq_true c25
                  try have c25b2 : (9223372036854775807 < t135.size + (((t136 ++ t137) ++ t138) ++ x10_4).size) = False := eq_false (Nat.not_lt.2 c25)
                  try (have c25b3 := c25b2; simp only [ByteArray.size_append] at c25b3)
                  replace H := Option.bind_eq_some_iff.mp H
                  obtain ⟨t139, A260, H⟩ := H
                  replace H : ((soukref03_Low.f k4 (IntKind.u64.wrap (t139)) 4).bind fun t140 => (if (t135 ++ (((t136 ++ t137) ++ t138) ++ x10_4)).size + t140.size ≤ 9223372036854775807 then (if ((t135 ++ (((t136 ++ t137) ++ t138) ++ x10_4)) ++ t140).size + t135.size ≤ 9223372036854775807 then (if x8_2.length < 8796093022208 then (soukref03_Blocks.l0 k4 (x1_2.extract ((x10_10.size : Int) : Int).toNat x1_2.size) (wrap64 (Int.tdiv (wrap64 ((a1.size : Int) + 48)) 49)) t135 (x8_2 ++ [((t135 ++ (((t136 ++ t137) ++ t138) ++ x10_4)) ++ t140) ++ t135]) (wrap64 (x9_2 + 1))) else (none)) else (none)) else (none))) = some (r1, r2) := H
                  have A26 := Aside0.mk A260
                  clear A260
                  replace H := Option.bind_eq_some_iff.mp H
                  obtain ⟨t140, A270, H⟩ := H
                  replace H : (if (t135 ++ (((t136 ++ t137) ++ t138) ++ x10_4)).size + t140.size ≤ 9223372036854775807 then (if ((t135 ++ (((t136 ++ t137) ++ t138) ++ x10_4)) ++ t140).size + t135.size ≤ 9223372036854775807 then (if x8_2.length < 8796093022208 then (soukref03_Blocks.l0 k4 (x1_2.extract ((x10_10.size : Int) : Int).toNat x1_2.size) (wrap64 (Int.tdiv (wrap64 ((a1.size : Int) + 48)) 49)) t135 (x8_2 ++ [((t135 ++ (((t136 ++ t137) ++ t138) ++ x10_4)) ++ t140) ++ t135]) (wrap64 (x9_2 + 1))) else (none)) else (none)) else (none)) = some (r1, r2) := H
                  have A27 := Aside0.mk A270
                  clear A270
                  by_cases c28 : (t135 ++ (((t136 ++ t137) ++ t138) ++ x10_4)).size + t140.size ≤ 9223372036854775807
                  ·rw [if_pos c28] at H
                   have c28b0 := eq_true c28
                   have c28b1 : decide ((t135 ++ (((t136 ++ t137) ++ t138) ++ x10_4)).size + t140.size ≤ 9223372036854775807) = true := decide_eq_true c28
                   try have c28b2 : (9223372036854775807 < (t135 ++ (((t136 ++ t137) ++ t138) ++ x10_4)).size + t140.size) = False := eq_false (Nat.not_lt.2 c28)
                   try (have c28b3 := c28b2; simp only [ByteArray.size_append] at c28b3)
                   by_cases c29 : ((t135 ++ (((t136 ++ t137) ++ t138) ++ x10_4)) ++ t140).size + t135.size ≤ 9223372036854775807
                   ·rw [if_pos c29] at H
                    have c29b0 := eq_true c29
                    have c29b1 : decide (((t135 ++ (((t136 ++ t137) ++ t138) ++ x10_4)) ++ t140).size + t135.size ≤ 9223372036854775807) = true := decide_eq_true c29
                    try have c29b2 : (9223372036854775807 < ((t135 ++ (((t136 ++ t137) ++ t138) ++ x10_4)) ++ t140).size + t135.size) = False := eq_false (Nat.not_lt.2 c29)
                    try (have c29b3 := c29b2; simp only [ByteArray.size_append] at c29b3)
                    by_cases c30 : x8_2.length < 8796093022208
                    ·rw [if_pos c30] at H
                     have LMc30 := Aside0.mk c30
                     clear c30
                     obtain ⟨y141, hy141⟩ : ∃ y_ : List ByteArray, y_ = (x8_2 ++ [((t135 ++ (((t136 ++ t137) ++ t138) ++ x10_4)) ++ t140) ++ t135]) := ⟨_, rfl⟩
                     replace H : (soukref03_Blocks.l0 k4 (x1_2.extract ((x10_10.size : Int) : Int).toNat x1_2.size) (wrap64 (Int.tdiv (wrap64 ((a1.size : Int) + 48)) 49)) t135 y141 (wrap64 (x9_2 + 1))) = some (r1, r2) := by first | (rw [hy141]; with_reducible exact H) | (have H2_ := (Option.bind_some _ _).symm.trans H; rw [hy141]; with_reducible exact H2_) | (have H2_ := (Option.bind_some _ _).symm.trans H; with_reducible exact H2_) | with_reducible exact H | (rw [hy141]; exact H) | exact H
                     have Ny141 := Aside0.mk hy141
                     clear hy141
                     have H' := Aside0.mk H
                     clear H
                     go_wp2_with (first | ((with_reducible refine gate_callee (f := 74) rfl ?_); refine goesL_ (some 59) rfl rfl Try.func74 (by kernel_rfl) rfl #[.int .u64 (IntKind.u64.wrap (x9_2)), .int .i64 1] rfl (by (try simp only [List.map_toArray, List.map_cons, List.map_nil]); first | done | rfl | (simp only [List.length_drop, List.length_take]; rfl)) ?_; (with_reducible refine (soukref03_Low.calls k4 (IntKind.u64.wrap (x9_2)) 1 t136 _ A19.out).mono ?_); rintro e w31 ⟨rfl, hb⟩; refine ⟨_, rfl, ?_⟩; have n0_ := Aside0.mk (Kd.R_below (by (with_reducible repeat (first | apply Kd.R_alloc | apply Kd.R_drewN | apply Kd.R_drew)); exact HO_8.out) hb); have n1_ := Aside0.mk (below_step (by repeat (first | (with_reducible first | exact HB.out | apply below_alloc | apply pw_below_drewN | apply below_drew1) | exact HB.out)) hb); clear HO_8; clear HB; have HO_8 := n0_; have HB := n1_; clear n0_ n1_; (try clear hb); (try clear hb2); (try clear hk); (try clear hi)) | ((with_reducible refine gate_callee (f := 74) rfl ?_); refine goesL_ (some 62) rfl rfl Try.func74 (by kernel_rfl) rfl #[.int .u64 (IntKind.u64.wrap ((wrap64 (Int.tdiv (wrap64 ((a1.size : Int) + 48)) 49)))), .int .i64 1] rfl (by (try simp only [List.map_toArray, List.map_cons, List.map_nil]); first | done | rfl | (simp only [List.length_drop, List.length_take]; rfl)) ?_; (with_reducible refine (soukref03_Low.calls k4 (IntKind.u64.wrap ((wrap64 (Int.tdiv (wrap64 ((a1.size : Int) + 48)) 49)))) 1 t137 _ A20.out).mono ?_); rintro e w32 ⟨rfl, hb⟩; refine ⟨_, rfl, ?_⟩; have n0_ := Aside0.mk (Kd.R_below (by (with_reducible repeat (first | apply Kd.R_alloc | apply Kd.R_drewN | apply Kd.R_drew)); exact HO_8.out) hb); have n1_ := Aside0.mk (below_step (by repeat (first | (with_reducible first | exact HB.out | apply below_alloc | apply pw_below_drewN | apply below_drew1) | exact HB.out)) hb); clear HO_8; clear HB; have HO_8 := n0_; have HB := n1_; clear n0_ n1_; (try clear hb); (try clear hb2); (try clear hk); (try clear hi)) | ((with_reducible refine gate_callee (f := 74) rfl ?_); refine goesL_ (some 66) rfl rfl Try.func74 (by kernel_rfl) rfl #[.int .u64 (IntKind.u64.wrap ((x10_10.size : Int))), .int .i64 1] rfl (by (try simp only [List.map_toArray, List.map_cons, List.map_nil]); first | done | rfl | (simp only [List.length_drop, List.length_take]; rfl)) ?_; (with_reducible refine (soukref03_Low.calls k4 (IntKind.u64.wrap ((x10_10.size : Int))) 1 t138 _ A22.out).mono ?_); rintro e w33 ⟨rfl, hb⟩; refine ⟨_, rfl, ?_⟩; have n0_ := Aside0.mk (Kd.R_below (by (with_reducible repeat (first | apply Kd.R_alloc | apply Kd.R_drewN | apply Kd.R_drew)); exact HO_8.out) hb); have n1_ := Aside0.mk (below_step (by repeat (first | (with_reducible first | exact HB.out | apply below_alloc | apply pw_below_drewN | apply below_drew1) | exact HB.out)) hb); clear HO_8; clear HB; have HO_8 := n0_; have HB := n1_; clear n0_ n1_; (try clear hb); (try clear hb2); (try clear hk); (try clear hi)) | ((with_reducible refine gate_callee (f := 75) rfl ?_); refine goesL_ (some 77) rfl rfl Try.func75 (by kernel_rfl) rfl #[.string (t135 ++ (((t136 ++ t137) ++ t138) ++ x10_4))] rfl (by (try simp only [List.map_toArray, List.map_cons, List.map_nil]); first | done | rfl | (simp only [List.length_drop, List.length_take]; rfl)) ?_; (with_reducible refine (soukref03_Sum.calls k4 (t135 ++ (((t136 ++ t137) ++ t138) ++ x10_4)) t139 _ A26.out).mono ?_); rintro e w' ⟨rfl, ⟨nd, rfl⟩⟩; refine ⟨_, rfl, ?_⟩) | ((with_reducible refine gate_callee (f := 74) rfl ?_); refine goesL_ (some 79) rfl rfl Try.func74 (by kernel_rfl) rfl #[.int .u64 (IntKind.u64.wrap (t139)), .int .i64 4] rfl (by (try simp only [List.map_toArray, List.map_cons, List.map_nil]); first | done | rfl | (simp only [List.length_drop, List.length_take]; rfl)) ?_; (with_reducible refine (soukref03_Low.calls k4 (IntKind.u64.wrap (t139)) 4 t140 _ A27.out).mono ?_); rintro e w34 ⟨rfl, hb⟩; refine ⟨_, rfl, ?_⟩; have n0_ := Aside0.mk (Kd.R_below (by (with_reducible repeat (first | apply Kd.R_alloc | apply Kd.R_drewN | apply Kd.R_drew)); exact HO_8.out) hb); have n1_ := Aside0.mk (below_step (by repeat (first | (with_reducible first | exact HB.out | apply below_alloc | apply pw_below_drewN | apply below_drew1) | exact HB.out)) hb); clear HO_8; clear HB; have HO_8 := n0_; have HB := n1_; clear n0_ n1_; (try clear hb); (try clear hb2); (try clear hk); (try clear hi)) | ((with_reducible refine gate_builtin (b := .append) (xs := #[.tmp 70, .tmp 83]) rfl ?_); at_builtin; refine Kd.R_append Kd.string (w0 := w) w.heap.size rfl (.tmp 70) (.tmp 83) 22 9 (.string ⟨#[]⟩) 16 rfl Try.underlying22 info9 rfl (by decide) (by omega) u8 x8_2 (((t135 ++ (((t136 ++ t137) ++ t138) ++ x10_4)) ++ t140) ++ t135) [.string (((t135 ++ (((t136 ++ t137) ++ t138) ++ x10_4)) ++ t140) ++ t135)] (fun _ => True) (fun _ => False) rfl rfl ?aP (fun _ hk => hk.elim) ?aF ?aO ?aB ?aS ?aL ?_; (case aP => exact rfl); (case aB => exact (by repeat (first | (with_reducible first | exact HB.out | apply below_alloc | apply pw_below_drewN | apply below_drew1) | exact HB.out))); (case aF => exact (fun _ _ => trivial)); (case aO => exact (by (with_reducible repeat (first | apply Kd.R_alloc | apply Kd.R_drewN | apply Kd.R_drew)); exact HO_8.out)); (case aS => exact (below_size (by repeat (first | (with_reducible first | exact HB.out | apply below_alloc | apply pw_below_drewN | apply below_drew1) | exact HB.out)))); (case aL => have := LMc30.out; omega); intro v142 w35 ho hb hg hat; rw [← Ny141.out] at ho; have n0_ := Aside0.mk (hb); have n1_ := Aside0.mk (ho); clear HB; clear HO_8; have HB := n0_; have HO143 := n1_; clear n0_ n1_; clear ho hb hg hat))
                     go_roundg k4
                     case measure => have := HJ2.out; have := HK2.out; have := HJ10.out; have := HK4.out; omega
                     case rel => exact ⟨((x1_2.extract ((x10_10.size : Int) : Int).toNat x1_2.size)), (y141), (wrap64 (x9_2 + 1)), (by first | rfl | (simp; done) | (simp [*]; done)), (by first | rfl | (simp; done) | (simp [*]; done)), H', ⟨by have := HJ2.out; have := HK2.out; have := HJ10.out; have := HK4.out; omega⟩, ⟨by (with_reducible repeat (first | apply Kd.R_alloc | apply Kd.R_drewN | apply Kd.R_drew)); exact HO143.out⟩, ⟨by repeat (first | (with_reducible first | exact HB.out | apply below_alloc | apply pw_below_drewN | apply below_drew1) | exact HB.out)⟩⟩
                    ·rw [if_neg c30] at H
                     exact absurd H (by simp)
                   ·rw [if_neg c29] at H
                    exact absurd H (by simp)
                  ·rw [if_neg c28] at H
                   exact absurd H (by simp)
                 ·rw [if_neg c25] at H
                  exact absurd H (by simp)
                ·rw [if_neg c24] at H
                 exact absurd H (by simp)
               ·rw [if_neg c23] at H
                exact absurd H (by simp)
              ·rw [if_neg c21] at H
               exact absurd H (by simp)
          ·rw [if_neg c16] at H
           exact absurd H (by simp)
         ·rw [if_neg c15] at H
          exact absurd H (by simp)
      ·rw [if_neg c10] at H
       have c10b0 : decide (x9_2 < (wrap64 (Int.tdiv (wrap64 ((a1.size : Int) + 48)) 49))) = false := decide_eq_false c10
       clear c10
       simp only [Option.some.injEq, Prod.mk.injEq] at H
       obtain ⟨rfl, rfl⟩ := H
       go_wp2
       go_ret2
       exact ⟨_, by first | rfl | (simp [errW_none, errW_some] <;> rfl) | (simp [*, errW_none, errW_some] <;> rfl), by (with_reducible repeat (first | apply Kd.R_alloc | apply Kd.R_drewN | apply Kd.R_drew)); exact HO_8.out, by repeat (first | (with_reducible first | exact HB.out | apply below_alloc | apply pw_below_drewN | apply below_drew1) | exact HB.out)⟩
end Go.Proofs.Ytckfkbmefdmedaa.Q
namespace Go.Proofs.Ytckfkbmefdmedaa
open Go.RowKit Go.Proofs.Kq Go.Proofs.Ytckfkbmefdmedaa.Q Go.Proofs.YtckfkbmefdmedaaW.PrintWords Go
set_option linter.unusedVariables false
set_option linter.unusedSimpArgs false
def bl (s : ByteArray) : List UInt8 := s.data.toList
def chunk (L : List UInt8) (i : Nat) : ByteArray := ⟨((L.drop (49 * i)).take 49).toArray⟩
def blkR (n : Int) (L : List UInt8) (c : Nat) : Nat → Nat → List ByteArray
  | _, 0 => []
  | i, r + 1 => oneF n i c (chunk L i) :: blkR n L c (i + 1) r
theorem blkR_len (n : Int) (L : List UInt8) (c : Nat) : ∀ r i, (blkR n L c i r).length = r
  | 0, i => rfl
  | r + 1, i => by simp [blkR, blkR_len n L c r]
theorem blkR_get (n : Int) (L : List UInt8) (c : Nat) : ∀ r i j, (h : j < r) → (blkR n L c i r)[j]'(by rw [blkR_len]; exact h) = oneF n ((i + j : Nat) : Int) c (chunk L (i + j))
  | 0, i, j, h => by omega
  | r + 1, i, 0, h => rfl
  | r + 1, i, j + 1, h => by
    have := blkR_get n L c r (i + 1) j (by omega)
    simp only [blkR, List.getElem_cons_succ]
    rw [this, show i + 1 + j = i + (j + 1) by omega]
theorem ba_size (s : ByteArray) : s.size = (bl s).length := by simp [bl]
theorem ba_of (s : ByteArray) : s = ⟨(bl s).toArray⟩ := by apply ByteArray.ext; simp [bl]
theorem bl_extract (s : ByteArray) (a b : Nat) : bl (s.extract a b) = ((bl s).drop a).take (b - a) := by
  simp [bl, List.extract]
theorem ba_ext {s t : ByteArray} (h : bl s = bl t) : s = t := by rw [ba_of s, ba_of t, h]
theorem chunk_size (L : List UInt8) (i : Nat) : (chunk L i).size = min 49 (L.length - 49 * i) := by rw [ba_size]; simp [chunk, bl]
theorem chunk_a (L : List UInt8) (i : Nat) (x : ByteArray) (hx : bl x = L.drop (49 * i)) : x.extract 0 49 = chunk L i := by
  apply ba_ext; rw [bl_extract, hx]; simp [chunk, bl]
theorem chunk_b (L : List UInt8) (i : Nat) (x : ByteArray) (hx : bl x = L.drop (49 * i)) (h : ¬ 49 < x.size) : x.extract 0 x.size = chunk L i := by
  have hl : (L.drop (49 * i)).length ≤ 49 := by rw [← hx, ← ba_size]; omega
  apply ba_ext; rw [bl_extract, hx, ba_size, hx]
  show _ = List.take 49 _
  rw [List.drop_zero, Nat.sub_zero, List.take_length, List.take_of_length_le hl]
theorem rest_a (L : List UInt8) (i : Nat) (x : ByteArray) (hx : bl x = L.drop (49 * i)) (d : ByteArray) (hd : d = chunk L i) : bl (x.extract d.size x.size) = L.drop (49 * (i + 1)) := by
  have h1 : x.size = L.length - 49 * i := by rw [ba_size, hx]; simp
  have h2 : d.size = min 49 (L.length - 49 * i) := by rw [hd, chunk_size]
  rw [bl_extract, hx, List.drop_drop, List.take_of_length_le (by simp; omega)]
  by_cases h : 49 ≤ L.length - 49 * i
  · rw [h2, Nat.min_eq_left h, Nat.mul_succ, Nat.add_comm]
  · rw [List.drop_eq_nil_of_le (by omega), List.drop_eq_nil_of_le (by omega)]
theorem pk_loop (n : Int) (L : List UInt8) (hL : L.length ≤ 1000000) (c : Nat) (hc : c ≤ 255) : ∀ (r i : Nat) (x : ByteArray) (acc : List ByteArray), i + r = c → bl x = L.drop (49 * i) → acc.length ≤ i →
    EvT (fun k => block_Pack.l0 k n x c acc c i) (acc ++ blkR (n % 4294967296) L c i r, 0)
  | 0, i, x, acc, hi, hx, ha => by
    refine EvT.done (fun k => ?_)
    simp only [block_Pack.l0, blkR, List.append_nil]
    rw [if_neg (by omega)]
  | r + 1, i, x, acc, hi, hx, ha => by
    have hd : (chunk L i).size ≤ 49 := by rw [chunk_size]; omega
    have h1 : x.size = L.length - 49 * i := by rw [ba_size, hx]; simp
    have hlen : acc.length < 8796093022208 := by omega
    by_cases h : 49 < x.size
    · have ih := pk_loop n L hL c hc r (i + 1) (x.extract 49 x.size) (acc ++ [oneF (n % 4294967296) i c (chunk L i)]) (by omega) (by
        have := rest_a L i x hx (chunk L i) rfl
        rwa [chunk_size, Nat.min_eq_left (by omega)] at this) (by simp; omega)
      rw [List.append_assoc] at ih
      refine EvT.step (fun k => ?_) ih
      simp only [block_Pack.l0]
      rw [if_pos (by omega), if_pos (by omega), if_pos (by omega), if_pos (by omega), chunk_a L i x hx, one_ok _ _ _ _ hd]
      simp only [Option.bind_some]
      rw [if_pos hlen, nx i (by omega)]
    · have ih := pk_loop n L hL c hc r (i + 1) (x.extract x.size x.size) (acc ++ [oneF (n % 4294967296) i c (chunk L i)]) (by omega) (by
        have := rest_a L i x hx (chunk L i) rfl
        rwa [show (chunk L i).size = x.size by rw [chunk_size]; omega] at this) (by simp; omega)
      rw [List.append_assoc] at ih
      refine EvT.step (fun k => ?_) ih
      simp only [block_Pack.l0]
      rw [if_pos (by omega), if_neg (by omega), if_pos (by omega), if_pos (by omega), Int.toNat_natCast, chunk_b L i x hx h, one_ok _ _ _ _ hd]
      simp only [Option.bind_some]
      rw [if_pos hlen, nx i (by omega)]
def cntL (n : Nat) : Nat := (n + 48) / 49
def packF (n : Int) (L : List UInt8) : List ByteArray × Int := if cntL L.length < 1 ∨ 255 < cntL L.length ∨ n < 0 ∨ 4294967295 ≤ n then ([], 1) else (blkR n L (cntL L.length) 0 (cntL L.length), 0)
theorem pack_ok (n : Int) (p : ByteArray) (hL : p.size ≤ 1000000) : EvT (fun k => block_Pack.f k n p) (packF n (bl p)) := by
  have e : wrap64 (Int.tdiv (wrap64 ((wrap64 ((p.size : Int) + 49)) - 1)) 49) = (cntL (bl p).length : Int) := by
    rw [← ba_size]
    have e1 : wrap64 ((wrap64 ((p.size : Int) + 49)) - 1) = ((p.size + 48 : Nat) : Int) := by unfold wrap64; omega
    rw [e1, Int.tdiv_eq_ediv_of_nonneg (by omega)]
    unfold cntL wrap64; omega
  have hs := ba_size p
  unfold block_Pack.f packF
  rw [e]
  by_cases h1 : cntL (bl p).length < 1
  · rw [if_pos (.inl h1)]
    refine EvT.congr (fun k => if_pos (by omega)) (EvT.done fun k => ?_)
    simp only [block_Pack.j0]; rw [if_pos trivial]
  by_cases h2 : 255 < cntL (bl p).length
  · rw [if_pos (.inr (.inl h2))]
    refine EvT.congr (fun k => (if_neg (by omega)).trans (if_pos (by omega))) (EvT.done fun k => ?_)
    simp only [block_Pack.j0]; rw [if_pos trivial]
  by_cases h3 : n < 0
  · rw [if_pos (.inr (.inr (.inl h3)))]
    refine EvT.congr (fun k => (if_neg (by omega)).trans ((if_neg (by omega)).trans (if_pos h3))) (EvT.done fun k => ?_)
    simp only [block_Pack.j0]; rw [if_pos trivial]
  by_cases h4 : 4294967295 ≤ n
  · rw [if_pos (.inr (.inr (.inr h4)))]
    refine EvT.congr (fun k => (if_neg (by omega)).trans ((if_neg (by omega)).trans (if_neg h3))) (EvT.done fun k => ?_)
    simp only [block_Pack.j0]; rw [if_pos (decide_eq_true h4)]
  · rw [if_neg (by omega)]
    have h := pk_loop n (bl p) (by omega) (cntL (bl p).length) (by omega) (cntL (bl p).length) 0 p [] (by omega) (by simp) (by simp)
    rw [show n % 4294967296 = n by omega, List.nil_append] at h
    refine EvT.congr (fun k => (if_neg (by omega)).trans ((if_neg (by omega)).trans (if_neg h3))) (EvT.step (fun k => ?_) h)
    simp only [block_Pack.j0]; rw [if_neg (by rw [decide_eq_false (by omega)]; decide)]; rfl
end Go.Proofs.Ytckfkbmefdmedaa
namespace Go.Proofs.Ytckfkbmefdmedaa
open Go.RowKit Go.Proofs.Kq Go.Proofs.Ytckfkbmefdmedaa.Q Go.Proofs.YtckfkbmefdmedaaW.PrintWords Go
set_option linter.unusedVariables false
set_option linter.unusedSimpArgs false
def zer (r : Nat) : ByteArray := ⟨(Lib.repeatL [0] r).toArray⟩
theorem zer_size (r : Nat) : (zer r).size = r := by
  show (List.toArray _).size = _
  simp [Lib.repeatL_length]
theorem pad_loop (x1 x7 : ByteArray) (x6 x9 x11 : Int) (x8 : List ByteArray) (v : List ByteArray × Bool) : ∀ (r : Nat) (d : ByteArray), d.size + r = 49 →
    EvT (fun k => soukref03_Blocks.l1 k x1 x6 x7 x8 x9 (d ++ zer r) x11) v → EvT (fun k => soukref03_Blocks.l1 k x1 x6 x7 x8 x9 d x11) v
  | 0, d, h, hv => by rw [show zer 0 = ⟨#[]⟩ from rfl, ba_nil] at hv; exact hv
  | r + 1, d, h, hv => by
    have e : d ++ zer (r + 1) = (d ++ (⟨#[0]⟩ : ByteArray)) ++ zer r := by
      rw [ba_assoc]; congr 1
    rw [e] at hv
    have hz : (⟨#[0]⟩ : ByteArray).size = 1 := rfl
    refine EvT.step (fun k => ?_) (pad_loop x1 x7 x6 x9 x11 x8 v r (d ++ (⟨#[0]⟩ : ByteArray)) (by rw [ByteArray.size_append, hz]; omega) hv)
    rw [soukref03_Blocks.l1, if_pos (by omega), if_pos (by omega)]
theorem u64w (i : Nat) (h : i < 1000000) : IntKind.u64.wrap (i : Int) = i := by
  show (i : Int) % 18446744073709551616 = _
  omega
theorem rb_end (x1 : ByteArray) (n : Int) (c i : Nat) (hc : c ≤ 255) (hi : i < c) (x8 : List ByteArray) (h8 : x8.length ≤ i) (d : ByteArray) (hd : d.size ≤ 49) (v : List ByteArray × Bool)
    (h : EvT (fun k => soukref03_Blocks.l0 k x1 c (strOfNums (lowI 4 ((n + 1) % 4294967296))) (x8 ++ [oneF n i c d]) (i + 1 : Nat)) v) :
    EvT (fun k => soukref03_Blocks.l1 k x1 c (strOfNums (lowI 4 ((n + 1) % 4294967296))) x8 i d d.size) v := by
  refine pad_loop _ _ _ _ _ _ _ (49 - d.size) d (by omega) ?_
  have hl1 : ∀ z : Int, lowI 1 z = [z % 256] := fun z => rfl
  obtain ⟨m1, h1⟩ := low_ok 1 (by decide) i (by omega) (by omega)
  obtain ⟨m2, h2⟩ := low_ok 1 (by decide) c (by omega) (by omega)
  obtain ⟨m3, h3⟩ := low_ok 1 (by decide) d.size (by omega) (by omega)
  rw [hl1] at h1 h2 h3
  have hs4 : ∀ z, (strOfNums (lowI 4 z)).size = 4 := fun z => by rw [sn_size, lowI_len]
  have eh : strOfNums (lowI 4 ((n + 1) % 4294967296)) ++ (((strOfNums [(i : Int) % 256] ++ strOfNums [(c : Int) % 256]) ++ strOfNums [(d.size : Int) % 256]) ++ (d ++ zer (49 - d.size))) = headF n i c d := by
    unfold headF
    rw [← sn_app, ← sn_app]
    simp only [ba_assoc]
    rfl
  have hh : (headF n i c d).size = 56 := by
    rw [← eh]
    simp only [ByteArray.size_append, hs4, zer_size, sn_size]; simp; omega
  obtain ⟨m4, h4⟩ := sum_ok (headF n i c d) (by omega)
  have hci := crcF_in (headF n i c d)
  obtain ⟨m5, h5⟩ := low_ok 4 (by decide) (crcF (headF n i c d)) hci.1 (by have := hci.2; omega)
  obtain ⟨m6, h6⟩ := h
  refine ⟨m1 + m2 + m3 + m4 + m5 + m6 + 1, fun k hk => ?_⟩
  obtain ⟨j, rfl⟩ : ∃ j, k = j + 1 := ⟨k - 1, by omega⟩
  show soukref03_Blocks.l1 (j + 1) _ _ _ _ _ _ _ = _
  rw [soukref03_Blocks.l1, if_neg (by rw [ByteArray.size_append, zer_size]; omega)]
  rw [u64w i (by omega), u64w c (by omega), u64w d.size (by omega)]
  have g1 := h1 j (by omega); have g2 := h2 j (by omega); have g3 := h3 j (by omega); have g4 := h4 j (by omega); have g5 := h5 j (by omega); have g6 := h6 j (by omega)
  simp only [Int.ofNat_eq_natCast] at g1 g2 g3 g5
  have k1 : soukref03_Low.f j (i : Int) 1 = some (strOfNums [(i : Int) % 256]) := g1
  have k2 : soukref03_Low.f j (c : Int) 1 = some (strOfNums [(c : Int) % 256]) := g2
  have k3 : soukref03_Low.f j (d.size : Int) 1 = some (strOfNums [(d.size : Int) % 256]) := g3
  have k5 : soukref03_Low.f j (crcF (headF n i c d)) 4 = some (strOfNums (lowI 4 (crcF (headF n i c d)))) := g5
  have k4 : soukref03_Sum.f j (headF n i c d) = some (crcF (headF n i c d)) := g4
  rw [k1]; simp only [Option.bind_some]
  rw [k2]; simp only [Option.bind_some]
  rw [if_pos (by simp only [sn_size]; simp), k3]; simp only [Option.bind_some]
  rw [if_pos (by simp only [ByteArray.size_append, sn_size]; simp), if_pos (by simp only [ByteArray.size_append, sn_size, zer_size]; simp; omega), if_pos (by simp only [ByteArray.size_append, sn_size, zer_size, lowI_len]; simp; omega)]
  rw [eh, k4]; simp only [Option.bind_some]
  rw [show IntKind.u64.wrap (crcF (headF n i c d)) = crcF (headF n i c d) by
    show (crcF (headF n i c d)) % 18446744073709551616 = _
    have := hci.1; have := hci.2; omega, k5]; simp only [Option.bind_some]
  rw [if_pos (by rw [hh, hs4]; omega), if_pos (by rw [ByteArray.size_append, hh, hs4, hs4]; omega), if_pos (by omega), nx i (by omega)]
  exact g6
theorem rb_loop (n : Int) (L : List UInt8) (hL : L.length ≤ 1000000) (c : Nat) (hc : c ≤ 255) : ∀ (r i : Nat) (x : ByteArray) (acc : List ByteArray), i + r = c → bl x = L.drop (49 * i) → acc.length ≤ i →
    EvT (fun k => soukref03_Blocks.l0 k x c (strOfNums (lowI 4 ((n + 1) % 4294967296))) acc i) (acc ++ blkR n L c i r, true)
  | 0, i, x, acc, hi, hx, ha => by
    refine EvT.done (fun k => ?_)
    simp only [soukref03_Blocks.l0, blkR, List.append_nil]
    rw [if_neg (by omega)]
  | r + 1, i, x, acc, hi, hx, ha => by
    have hd : (chunk L i).size ≤ 49 := by rw [chunk_size]; omega
    have h1 : x.size = L.length - 49 * i := by rw [ba_size, hx]; simp
    have ih := rb_loop n L hL c hc r (i + 1) (x.extract (chunk L i).size x.size) (acc ++ [oneF n i c (chunk L i)]) (by omega) (rest_a L i x hx (chunk L i) rfl) (by simp; omega)
    rw [List.append_assoc] at ih
    have h2 := rb_end _ n c i hc (by omega) acc ha (chunk L i) hd _ ih
    have h3 : EvT (fun k => soukref03_Blocks.j2 k x c (strOfNums (lowI 4 ((n + 1) % 4294967296))) acc i (chunk L i)) (acc ++ blkR n L c i (r + 1), true) := by
      refine EvT.step (fun k => ?_) h2
      rw [soukref03_Blocks.j2, if_pos (by omega), if_pos (by rw [chunk_size]; omega), Int.toNat_natCast]
    refine EvT.step (fun k => ?_) h3
    rw [soukref03_Blocks.l0, if_pos (by omega)]
    by_cases h : 49 < x.size
    · rw [if_pos (by omega), if_pos (by omega), if_pos (by omega), chunk_a L i x hx]
    · rw [if_neg (by omega)]
      have e := chunk_b L i x hx h
      rw [show x.extract 0 x.size = x by apply ba_ext; rw [bl_extract]; simp [ba_size]] at e
      rw [← e]
def blocksF (n : Int) (L : List UInt8) : List ByteArray × Bool := if cntL L.length < 1 ∨ 255 < cntL L.length ∨ n < 0 ∨ 4294967295 ≤ n then ([], false) else (blkR n L (cntL L.length) 0 (cntL L.length), true)
theorem blocks_ok (n : Int) (p : ByteArray) (hL : p.size ≤ 1000000) : EvT (fun k => soukref03_Blocks.f k n p) (blocksF n (bl p)) := by
  have e : wrap64 (Int.tdiv (wrap64 ((p.size : Int) + 48)) 49) = (cntL (bl p).length : Int) := by
    rw [← ba_size]
    have e1 : wrap64 ((p.size : Int) + 48) = ((p.size + 48 : Nat) : Int) := by unfold wrap64; omega
    rw [e1, Int.tdiv_eq_ediv_of_nonneg (by omega)]
    unfold cntL wrap64; omega
  have hs := ba_size p
  unfold soukref03_Blocks.f blocksF
  rw [e]
  by_cases h1 : cntL (bl p).length < 1
  · rw [if_pos (.inl h1)]
    refine EvT.congr (fun k => if_pos (by omega)) (EvT.done fun k => ?_)
    simp only [soukref03_Blocks.j0]; rw [if_pos trivial]
  by_cases h2 : 255 < cntL (bl p).length
  · rw [if_pos (.inr (.inl h2))]
    refine EvT.congr (fun k => (if_neg (by omega)).trans (if_pos (by omega))) (EvT.done fun k => ?_)
    simp only [soukref03_Blocks.j0]; rw [if_pos trivial]
  by_cases h3 : n < 0
  · rw [if_pos (.inr (.inr (.inl h3)))]
    refine EvT.congr (fun k => (if_neg (by omega)).trans ((if_neg (by omega)).trans (if_pos h3))) (EvT.done fun k => ?_)
    simp only [soukref03_Blocks.j0]; rw [if_pos trivial]
  by_cases h4 : 4294967295 ≤ n
  · rw [if_pos (.inr (.inr (.inr h4)))]
    refine EvT.congr (fun k => (if_neg (by omega)).trans ((if_neg (by omega)).trans (if_neg h3))) (EvT.done fun k => ?_)
    simp only [soukref03_Blocks.j0]; rw [if_pos (decide_eq_true (by omega))]
  · rw [if_neg (by omega)]
    have h := rb_loop n (bl p) (by omega) (cntL (bl p).length) (by omega) (cntL (bl p).length) 0 p [] (by omega) (by simp) (by simp)
    rw [List.nil_append] at h
    obtain ⟨m1, hm1⟩ := low_ok 4 (by decide) (n + 1) (by omega) (by omega)
    obtain ⟨m2, hm2⟩ := h
    refine EvT.congr (fun k => (if_neg (by omega)).trans ((if_neg (by omega)).trans (if_neg h3))) ?_
    refine ⟨m1 + m2 + 1, fun k hk => ?_⟩
    obtain ⟨j, rfl⟩ : ∃ j, k = j + 1 := ⟨k - 1, by omega⟩
    show soukref03_Blocks.j0 (j + 1) _ _ _ _ = _
    rw [soukref03_Blocks.j0, if_neg (by rw [decide_eq_false (by omega)]; decide)]
    have ew : IntKind.u64.wrap (IntKind.u64.wrap n + 1) = n + 1 := by
      show (n % 18446744073709551616 + 1) % 18446744073709551616 = _
      omega
    have g1 : soukref03_Low.f j (n + 1) 4 = some (strOfNums (lowI 4 (n + 1))) := hm1 j (by omega)
    rw [ew, g1]; simp only [Option.bind_some]
    have g2 := hm2 j (by omega)
    rw [show (n + 1) % 4294967296 = n + 1 by omega] at g2
    exact g2
end Go.Proofs.Ytckfkbmefdmedaa
namespace Go.Proofs.Ytckfkbmefdmedaa.Q
open Go.RowKit Go.Proofs.YtckfkbmefdmedaaW.PrintWords Go.Proofs.YtckfkbmefdmedaaW.PrintLast Go.Proofs.YtckfkbmefdmedaaW.PrintMore
attribute [local go_sem] max2_int min2_int max_two min_two max_three min_three max_four min_four   -- for this text's walks alone
set_option linter.unusedVariables false
set_option linter.unusedSimpArgs false
def soukref03_equal.l0 : Nat → List ByteArray → List ByteArray → Int → Option (Bool)
 | 0, _, _, _ => none
 | k + 1, x0, x1, x5 => if x5 < (x0.length : Int) then (if 0 ≤ x5 then (if x5 < (x1.length : Int) then (if (rdOf ByteArray.empty x0 x5).toList = (rdOf ByteArray.empty x1 x5).toList then (soukref03_equal.l0 k x0 x1 (wrap64 (x5 + 1))) else (some false)) else (none)) else (none)) else (some ((x0.length : Int) == (x1.length : Int)))
def soukref03_equal.f (k : Nat) (l0 : List ByteArray) (l1 : List ByteArray) : Option (Bool) := soukref03_equal.l0 k l0 l1 0
set_option maxHeartbeats 8000000 in
set_option maxRecDepth 100000 in
theorem soukref03_equal.calls (k : Nat) (A0 : Option Addr) (c0 : Nat) (l0 : List ByteArray) (A1 : Option Addr) (c1 : Nat) (l1 : List ByteArray) (r : Bool) (w : World) (hr0 : Kd.C Kd.string w A0 l0.length l0) (hc0 : l0.length ≤ c0) (hr1 : Kd.C Kd.string w A1 l1.length l1) (hc1 : l1.length ≤ c1) (h : soukref03_equal.f k l0 l1 = some r) :
  Calls Try.prog 69 #[.slice A0 l0.length c0, .slice A1 l1.length c1] w fun e w' => e = .returned (.bool r) ∧ Drawn0 w w' := by
 have HR0 := Aside0.mk hr0
 have HC0 := Aside0.mk hc0
 clear hr0 hc0
 have HR1 := Aside0.mk hr1
 have HC1 := Aside0.mk hc1
 clear hr1 hc1
 have H : (soukref03_equal.l0 k l0 l1 0) = some r := h
 clear h
 have H' := Aside0.mk H
 clear H
 go_enter Try.func69, Try.ntmps69
 go_wp2
 repeat (go_quiet (fail); try go_wp2)
 go_loopg [5] k (fun kq v5 w' => ∃ (x5_1 : Int), v5 = .int .i64 x5_1 ∧ Aside0 (soukref03_equal.l0 kq l0 l1 x5_1 = some r) ∧ Aside0 (kq ≤ k) ∧ Drawn0 w w')
 case atStart => exact ⟨(0), (by first | rfl | (simp; done) | (simp [*]; done)), H', ⟨Nat.le_refl _⟩, by repeat (first | exact Drawn0.refl _ | apply Drawn0.step)⟩
 case round =>
  clear H'
  try clear c1
  try clear p2
  obtain ⟨x5_1, rfl, HA, HK1, ⟨m1, rfl⟩⟩ := hrel
  cases gk with
  | zero => exact absurd HA.out (by simp [soukref03_equal.l0])
  | succ k1 =>
   have H := HA.out
   clear HA
   simp only [soukref03_equal.l0] at H
   by_cases c3 : x5_1 < (l0.length : Int)
   ·rw [if_pos c3] at H
    have c3b0 : decide (x5_1 < (l0.length : Int)) = true := decide_eq_true c3
    clear c3
    by_cases c4 : 0 ≤ x5_1
    ·rw [if_pos c4] at H
     have c4b0 : decide (0 ≤ x5_1) = true := decide_eq_true c4
     clear c4
     by_cases c5 : x5_1 < (l1.length : Int)
     ·rw [if_pos c5] at H
      have c5b0 : decide (x5_1 < (l1.length : Int)) = true := decide_eq_true c5
      clear c5
      by_cases c6 : (rdOf ByteArray.empty l0 x5_1).toList = (rdOf ByteArray.empty l1 x5_1).toList
      ·rw [if_pos c6] at H
       have c6b0 : ((rdOf ByteArray.empty l0 x5_1).toList == (rdOf ByteArray.empty l1 x5_1).toList) = true := beq_iff_eq.mpr c6
       have c6b1 : ((rdOf ByteArray.empty l0 x5_1).toList != (rdOf ByteArray.empty l1 x5_1).toList) = false := bne_eq_false_iff_eq.mpr c6
       clear c6
       have H' := Aside0.mk H
       clear H
       have p144 : 0 ≤ (x5_1 : Int) := of_decide_eq_true (by first | (with_reducible assumption) | assumption)
       have q144 : x5_1 < (l0.length : Int) := of_decide_eq_true (by first | (with_reducible assumption) | assumption)
       obtain ⟨ad144, e144, hx144_0⟩ := Kd.at_string HR0.out x5_1 p144 q144
       cases e144
       replace p144 := eq_true p144
       replace q144 := eq_true q144
       have p145 : 0 ≤ (x5_1 : Int) := of_decide_eq_true (by first | (with_reducible assumption) | assumption)
       have q145 : x5_1 < (l1.length : Int) := of_decide_eq_true (by first | (with_reducible assumption) | assumption)
       obtain ⟨ad145, e145, hx145_0⟩ := Kd.at_string HR1.out x5_1 p145 q145
       cases e145
       replace p145 := eq_true p145
       replace q145 := eq_true q145
       go_wp2
       repeat (go_quiet (fail); try go_wp2)
       go_roundg k1
       case measure => have := HK1.out; omega
       case rel => exact ⟨(wrap64 (x5_1 + 1)), (by first | rfl | (simp; done) | (simp [*]; done)), H', ⟨by have := HK1.out; omega⟩, by repeat (first | exact Drawn0.refl _ | apply Drawn0.step)⟩
      ·rw [if_neg c6] at H
       have c6b0 : ((rdOf ByteArray.empty l0 x5_1).toList == (rdOf ByteArray.empty l1 x5_1).toList) = false := beq_eq_false_iff_ne.mpr c6
       have c6b1 : ((rdOf ByteArray.empty l0 x5_1).toList != (rdOf ByteArray.empty l1 x5_1).toList) = true := bne_iff_ne.mpr c6
       obtain rfl := Option.some.inj H
       have p144 : 0 ≤ (x5_1 : Int) := of_decide_eq_true (by first | (with_reducible assumption) | assumption)
       have q144 : x5_1 < (l0.length : Int) := of_decide_eq_true (by first | (with_reducible assumption) | assumption)
       obtain ⟨ad144, e144, hx144_0⟩ := Kd.at_string HR0.out x5_1 p144 q144
       cases e144
       replace p144 := eq_true p144
       replace q144 := eq_true q144
       have p145 : 0 ≤ (x5_1 : Int) := of_decide_eq_true (by first | (with_reducible assumption) | assumption)
       have q145 : x5_1 < (l1.length : Int) := of_decide_eq_true (by first | (with_reducible assumption) | assumption)
       obtain ⟨ad145, e145, hx145_0⟩ := Kd.at_string HR1.out x5_1 p145 q145
       cases e145
       replace p145 := eq_true p145
       replace q145 := eq_true q145
       go_wp2
       repeat (go_quiet (fail); try go_wp2)
       go_ret
       exact ⟨by first | rfl | (simp; done) | (simp [*]; done), by repeat (first | exact Drawn0.refl _ | apply Drawn0.step)⟩
     ·rw [if_neg c5] at H
      exact absurd H (by simp)
    ·rw [if_neg c4] at H
     exact absurd H (by simp)
   ·rw [if_neg c3] at H
    have c3b0 : decide (x5_1 < (l0.length : Int)) = false := decide_eq_false c3
    clear c3
    obtain rfl := Option.some.inj H
    go_wp2
    repeat (go_quiet (fail); try go_wp2)
    go_ret
    exact ⟨by first | rfl | (simp; done) | (simp [*]; done), by repeat (first | exact Drawn0.refl _ | apply Drawn0.step)⟩
end Go.Proofs.Ytckfkbmefdmedaa.Q
namespace Go.Proofs.Ytckfkbmefdmedaa.Q
open Go.RowKit Go.Proofs.YtckfkbmefdmedaaW.PrintWords Go.Proofs.YtckfkbmefdmedaaW.PrintLast Go.Proofs.YtckfkbmefdmedaaW.PrintMore
attribute [local go_sem] max2_int min2_int max_two min_two max_three min_three max_four min_four   -- for this text's walks alone
set_option linter.unusedVariables false
set_option linter.unusedSimpArgs false
def block_whole.l0 : Nat → Int → List ByteArray → Int → Int → Option (Bool)
 | 0, _, _, _, _ => none
 | k + 1, x1, x7, x8, x9 => if x9 < x8 then (if 0 ≤ x9 then (if x9 < (x7.length : Int) then (if 5 < ((rdOf ByteArray.empty x7 x9).size : Int) then (if (wrap64 (bt (rdOf ByteArray.empty x7 x9) 5)) = x1 then (block_whole.l0 k x1 x7 x8 (wrap64 (x9 + 1))) else (some false)) else (none)) else (none)) else (none)) else (some true)
def block_whole.f (k : Nat) (l0 : List ByteArray) (a1 : Int) : Option (Bool) := block_whole.l0 k a1 l0 (l0.length : Int) 0
set_option maxHeartbeats 8000000 in
set_option maxRecDepth 100000 in
theorem block_whole.calls (k : Nat) (A0 : Option Addr) (c0 : Nat) (l0 : List ByteArray) (a1 : Int) (r : Bool) (w : World) (hr0 : Kd.C Kd.string w A0 l0.length l0) (hc0 : l0.length ≤ c0) (h : block_whole.f k l0 a1 = some r) :
  Calls Try.prog 67 #[.slice A0 l0.length c0, .int .i64 a1] w fun e w' => e = .returned (.bool r) ∧ Drawn0 w w' := by
 have HR0 := Aside0.mk hr0
 have HC0 := Aside0.mk hc0
 clear hr0 hc0
 have H : (block_whole.l0 k a1 l0 (l0.length : Int) 0) = some r := h
 clear h
 have H' := Aside0.mk H
 clear H
 go_enter Try.func67, Try.ntmps67
 go_wp2
 go_loopg [9] k (fun kq v9 w' => ∃ (x9_1 : Int), v9 = .int .i64 x9_1 ∧ Aside0 (block_whole.l0 kq a1 l0 (l0.length : Int) x9_1 = some r) ∧ Aside0 (kq ≤ k) ∧ Drawn0 w w')
 case atStart => exact ⟨(0), (by first | rfl | (simp; done) | (simp [*]; done)), H', ⟨Nat.le_refl _⟩, by repeat (first | exact Drawn0.refl _ | apply Drawn0.step)⟩
 case round =>
  clear H'
  try clear p2
  obtain ⟨x9_1, rfl, HA, HK1, ⟨m1, rfl⟩⟩ := hrel
  cases gk with
  | zero => exact absurd HA.out (by simp [block_whole.l0])
  | succ k1 =>
   have H := HA.out
   clear HA
   simp only [block_whole.l0] at H
   by_cases c3 : x9_1 < (l0.length : Int)
   ·rw [if_pos c3] at H
    have c3b0 : decide (x9_1 < (l0.length : Int)) = true := decide_eq_true c3
    clear c3
    by_cases c4 : 0 ≤ x9_1
    ·rw [if_pos c4] at H
     have c4b0 : decide (0 ≤ x9_1) = true := decide_eq_true c4
     clear c4
     by_cases c5 : x9_1 < (l0.length : Int)
     ·rw [if_pos c5] at H
      have c5b0 : decide (x9_1 < (l0.length : Int)) = true := decide_eq_true c5
      clear c5
      by_cases c6 : 5 < ((rdOf ByteArray.empty l0 x9_1).size : Int)
      ·rw [if_pos c6] at H
       have c6b0 : decide (5 < ((rdOf ByteArray.empty l0 x9_1).size : Int)) = true := decide_eq_true c6
       have c6b1 : decide (5 < (rdOf ByteArray.empty l0 x9_1).size) = true := decide_eq_true (by omega)
       clear c6
       by_cases c8 : (wrap64 (bt (rdOf ByteArray.empty l0 x9_1) 5)) = a1
       ·rw [if_pos c8] at H
        have c8b0 : ((wrap64 (bt (rdOf ByteArray.empty l0 x9_1) 5)) == a1) = true := beq_iff_eq.mpr c8
        have c8b1 : ((wrap64 (bt (rdOf ByteArray.empty l0 x9_1) 5)) != a1) = false := bne_eq_false_iff_eq.mpr c8
        clear c8
        have H' := Aside0.mk H
        clear H
        have p131 : 0 ≤ (x9_1 : Int) := of_decide_eq_true (by first | (with_reducible assumption) | assumption)
        have q131 : x9_1 < (l0.length : Int) := of_decide_eq_true (by first | (with_reducible assumption) | assumption)
        obtain ⟨ad131, e131, hx131_0⟩ := Kd.at_string HR0.out x9_1 p131 q131
        cases e131
        replace p131 := eq_true p131
        replace q131 := eq_true q131
        have p7 : 0 ≤ (5 : Int) := (by omega)
        have q7 : 5 < (rdOf ByteArray.empty l0 x9_1).size := (by have : (5 : Int) < ((rdOf ByteArray.empty l0 x9_1).size : Int) := of_decide_eq_true (by first | (with_reducible assumption) | assumption); omega)
        have hx7 : ∀ h : 5 < (rdOf ByteArray.empty l0 x9_1).size, (((rdOf ByteArray.empty l0 x9_1)[5]'h).toNat : Int) = bt (rdOf ByteArray.empty l0 x9_1) 5 := bt_at (rdOf ByteArray.empty l0 x9_1) 5
        clear p7
        have qi7 : (5 < ((rdOf ByteArray.empty l0 x9_1).size : Int)) = True := eq_true (of_decide_eq_true (by first | (with_reducible assumption) | assumption))
        replace q7 := eq_true q7
        go_wp2
        go_roundg k1
        case measure => have := HK1.out; omega
        case rel => exact ⟨(wrap64 (x9_1 + 1)), (by first | rfl | (simp; done) | (simp [*]; done)), H', ⟨by have := HK1.out; omega⟩, by repeat (first | exact Drawn0.refl _ | apply Drawn0.step)⟩
       ·rw [if_neg c8] at H
        have c8b0 : ((wrap64 (bt (rdOf ByteArray.empty l0 x9_1) 5)) == a1) = false := beq_eq_false_iff_ne.mpr c8
        have c8b1 : ((wrap64 (bt (rdOf ByteArray.empty l0 x9_1) 5)) != a1) = true := bne_iff_ne.mpr c8
        obtain rfl := Option.some.inj H
        have p131 : 0 ≤ (x9_1 : Int) := of_decide_eq_true (by first | (with_reducible assumption) | assumption)
        have q131 : x9_1 < (l0.length : Int) := of_decide_eq_true (by first | (with_reducible assumption) | assumption)
        obtain ⟨ad131, e131, hx131_0⟩ := Kd.at_string HR0.out x9_1 p131 q131
        cases e131
        replace p131 := eq_true p131
        replace q131 := eq_true q131
        have p7 : 0 ≤ (5 : Int) := (by omega)
        have q7 : 5 < (rdOf ByteArray.empty l0 x9_1).size := (by have : (5 : Int) < ((rdOf ByteArray.empty l0 x9_1).size : Int) := of_decide_eq_true (by first | (with_reducible assumption) | assumption); omega)
        have hx7 : ∀ h : 5 < (rdOf ByteArray.empty l0 x9_1).size, (((rdOf ByteArray.empty l0 x9_1)[5]'h).toNat : Int) = bt (rdOf ByteArray.empty l0 x9_1) 5 := bt_at (rdOf ByteArray.empty l0 x9_1) 5
        clear p7
        have qi7 : (5 < ((rdOf ByteArray.empty l0 x9_1).size : Int)) = True := eq_true (of_decide_eq_true (by first | (with_reducible assumption) | assumption))
        replace q7 := eq_true q7
        go_wp2
        go_ret
        exact ⟨by first | rfl | (simp; done) | (simp [*]; done), by repeat (first | exact Drawn0.refl _ | apply Drawn0.step)⟩
      ·rw [if_neg c6] at H
       exact absurd H (by simp)
     ·rw [if_neg c5] at H
      exact absurd H (by simp)
    ·rw [if_neg c4] at H
     exact absurd H (by simp)
   ·rw [if_neg c3] at H
    have c3b0 : decide (x9_1 < (l0.length : Int)) = false := decide_eq_false c3
    clear c3
    obtain rfl := Option.some.inj H
    go_wp2
    go_ret
    exact ⟨by first | rfl | (simp; done) | (simp [*]; done), by repeat (first | exact Drawn0.refl _ | apply Drawn0.step)⟩
end Go.Proofs.Ytckfkbmefdmedaa.Q
namespace Go.Proofs.Ytckfkbmefdmedaa
open Go.RowKit Go.Proofs.Kq
set_option linter.unusedVariables false
set_option linter.unusedSimpArgs false
def Bld (base b : Nat) (bs : List UInt8) (w : World) : Prop := Lib.IsBuilder 113 5 base b (Lib.byteCells bs) w
theorem builderAt_below {p : Value} {base b : Nat} {bs : List Value} {w w1 : World} (h : Lib.BuilderAt 113 5 base b p bs w) (hb : Below w.heap.size w w1) : Lib.BuilderAt 113 5 base b p bs w1 := by
  have hlt := h.lt
  obtain ⟨h0, v, h1, h2, h3⟩ := h
  have ho : Go.Proofs.Kq.Own (fun v : Value => [v]) 1 5 w base v bs := by simpa [Go.Proofs.Kq.Own] using h2
  have ho2 := ho.below hb
  exact ⟨h0, v, by rw [hb.block b hlt]; exact h1, by simpa [Go.Proofs.Kq.Own] using ho2, h3⟩
theorem Bld.below {base b : Nat} {bs : List UInt8} {w w1 : World} (h : Bld base b bs w) (hb : Below w.heap.size w w1) : Bld base b bs w1 :=
  h.imp (fun x => builderAt_below x hb) (fun x => builderAt_below x hb)
theorem Bld.new {w0 w : World} (hb : Below w0.heap.size w0 w) : Bld w0.heap.size w.heap.size [] (w.alloc (.cells #[.pointer none, .slice none 0 0] 113)) :=
  .inl ⟨hb.size, .slice none 0 0, by (show (w.heap.push _)[w.heap.size]? = _; simp), ⟨by simp [Lib.byteCells], .inl ⟨rfl, by simp [Lib.byteCells]⟩⟩, by simp [Value.ownBlock]⟩
theorem wstr_any (base b : Nat) (bs : List UInt8) (s : ByteArray) (w : World) (h : Bld base b bs w) (hl : bs.length + s.size ≤ 140737488355328) (hB : base ≤ w.heap.size) :
    Calls Try.prog 66 #[.pointer (some ⟨b, 0, none⟩), .string s] w fun e w' => e = .returned (.tuple #[.int .i64 s.size, .nilIface]) ∧ Bld base b (bs ++ s.data.toList) w' ∧ Below base w w' := by
  refine (Any.Builder_WriteString (P := Try.prog) (ρ := Try.lays105_ren) { Try.lays105 with } Try.Builder_Extra_105 base b (Lib.byteCells bs) s w h (by simpa [Lib.byteCells] using hl) hB).mono ?_
  rintro e w' ⟨rfl, h1, h2⟩
  refine ⟨rfl, .inr ?_, h2⟩
  have e : Lib.byteCells (bs ++ s.data.toList) = Lib.byteCells bs ++ Lib.strCells s := by simp [Lib.byteCells, Lib.strCells]
  rw [e]; exact h1
theorem bstr_any (base b : Nat) (bs : List UInt8) (w : World) (h : Bld base b bs w) (hB : base ≤ w.heap.size) :
    Calls Try.prog 68 #[.pointer (some ⟨b, 0, none⟩)] w fun e w' => e = .returned (.string ⟨bs.toArray⟩) ∧ Below base w w' :=
  Try.Builder_String_any base b bs w h hB
end Go.Proofs.Ytckfkbmefdmedaa
namespace Go.Proofs.Ytckfkbmefdmedaa
open Go.RowKit Go.Proofs.Kq Go.Proofs.Ytckfkbmefdmedaa.Q
open Go.Proofs.YtckfkbmefdmedaaW.PrintWords (pw_cell_below Kd Kd.C Kd.C_below bt rdOf)
set_option linter.unusedVariables false
set_option linter.unusedSimpArgs false
def lenB (s : ByteArray) : Nat := (s.data.getD 6 0).toNat
def cntB (s : ByteArray) : Nat := (s.data.getD 5 0).toNat
def datB (s : ByteArray) : ByteArray := s.extract 7 (7 + lenB s)
def badU : ByteArray × Int × Int := (⟨#[]⟩, 0, 5)
def okB (number : Int) (i : Nat) (s : ByteArray) : Bool :=
  decide (s.size = 64) && decide (lenB s ≤ 49) && decide (0 < lenB s) && decide (oneF number (i : Int) (cntB s : Int) (datB s) = s) && decide (i < cntB s) && !(decide (i + 1 < cntB s) && decide (lenB s < 49))
def wholeB (l : List ByteArray) (n : Nat) : Bool := l.all fun s => decide (cntB s = n)
def unpF (number : Int) (all : List ByteArray) : Nat → Nat → List UInt8 → ByteArray × Int × Int
  | 0, _, _ => badU
  | d + 1, i, out =>
    let s := all.getD i ByteArray.empty
    if okB number i s = true then
      (if cntB s = i + 1 then (if wholeB (all.take (i + 1)) (i + 1) = true then (⟨(out ++ (datB s).data.toList).toArray⟩, ((i + 1 : Nat) : Int), 0) else badU)
       else if i + 1 = 255 then badU else unpF number all d (i + 1) (out ++ (datB s).data.toList))
    else badU
def unpackF (number : Int) (l : List ByteArray) : ByteArray × Int × Int :=
  if l.length = 0 then (⟨#[]⟩, 0, 4) else if number < 0 ∨ 4294967295 ≤ number then (⟨#[]⟩, 0, 1) else unpF number l l.length 0 []
theorem unpF_bad (number : Int) (all : List ByteArray) (k : Nat) (out : List UInt8) (h : k < all.length) (hb : okB number k all[k] = false) : unpF number all (all.length - k) k out = badU := by
  rw [show all.length - k = (all.length - (k + 1)) + 1 by omega]
  simp only [unpF, List.getD_eq_getElem?_getD, List.getElem?_eq_getElem h, Option.getD_some, hb]
  rfl
theorem unpF_end (number : Int) (all : List ByteArray) (k : Nat) (out : List UInt8) (h : k < all.length) (hb : okB number k all[k] = true) (hc : cntB all[k] = k + 1) : unpF number all (all.length - k) k out = if wholeB (all.take (k + 1)) (k + 1) = true then (⟨(out ++ (datB all[k]).data.toList).toArray⟩, ((k + 1 : Nat) : Int), 0) else badU := by
  rw [show all.length - k = (all.length - (k + 1)) + 1 by omega]
  simp only [unpF, List.getD_eq_getElem?_getD, List.getElem?_eq_getElem h, Option.getD_some, hb, hc, if_true]
theorem unpF_full (number : Int) (all : List ByteArray) (k : Nat) (out : List UInt8) (h : k < all.length) (hc : ¬ cntB all[k] = k + 1) (h5 : k + 1 = 255) : unpF number all (all.length - k) k out = badU := by
  rw [show all.length - k = (all.length - (k + 1)) + 1 by omega]
  simp only [unpF, List.getD_eq_getElem?_getD, List.getElem?_eq_getElem h, Option.getD_some]
  split
  · first | rfl | rw [if_neg hc, if_pos h5]
  · rfl
theorem unpF_next (number : Int) (all : List ByteArray) (k : Nat) (out : List UInt8) (h : k < all.length) (hb : okB number k all[k] = true) (hc : ¬ cntB all[k] = k + 1) (h5 : ¬ k + 1 = 255) : unpF number all (all.length - k) k out = unpF number all (all.length - (k + 1)) (k + 1) (out ++ (datB all[k]).data.toList) := by
  rw [show all.length - k = (all.length - (k + 1)) + 1 by omega]
  rw [unpF]
  simp only [List.getD_eq_getElem?_getD, List.getElem?_eq_getElem h, Option.getD_some, hb, if_true]
  rw [if_neg hc, if_neg h5]
theorem whole_loop (l : List ByteArray) (n : Nat) (hn : n < 256) (h64 : ∀ s ∈ l, s.size = 64) (hl : l.length ≤ 1000000) : ∀ r i : Nat, i + r = l.length → EvT (fun k => block_whole.l0 k n l l.length i) (wholeB (l.drop i) n)
  | 0, i, hi => by
    refine EvT.done (fun k => ?_)
    simp only [block_whole.l0]
    rw [if_neg (by omega), List.drop_eq_nil_of_le (by omega)]; rfl
  | r + 1, i, hi => by
    have ih := whole_loop l n hn h64 hl r (i + 1) (by omega)
    have hlt : i < l.length := by omega
    have hs := h64 l[i] (List.getElem_mem hlt)
    have hrd : rdOf ByteArray.empty l (i : Int) = l[i] := by simp [rdOf, hlt]
    have hbt : wrap64 (bt l[i] 5) = (cntB l[i] : Int) := by
      have h5 : 5 < l[i].size := by omega
      have e5 : (l[i][5]'h5).toNat = cntB l[i] := by simp [cntB, Array.getD, h5]; rfl
      have := (l[i][5]'h5).toNat_lt
      rw [show bt l[i] 5 = ((l[i][5]'h5).toNat : Int) by simp [bt, h5]]
      unfold wrap64; omega
    rw [List.drop_eq_getElem_cons hlt]
    by_cases hq : cntB l[i] = n
    · refine EvT.step (fun k => ?_) (show EvT (fun k => block_whole.l0 k n l l.length ((i + 1 : Nat) : Int)) _ by
        have e : wholeB (l[i] :: l.drop (i + 1)) n = wholeB (l.drop (i + 1)) n := by unfold wholeB; rw [List.all_cons, decide_eq_true hq, Bool.true_and]
        rw [e]; exact ih)
      simp only [block_whole.l0]
      rw [if_pos (by omega), if_pos (by omega), if_pos (by omega), hrd, if_pos (by omega), hbt, if_pos (by omega), nx i (by omega)]
    · have e : wholeB (l[i] :: l.drop (i + 1)) n = false := by unfold wholeB; rw [List.all_cons, decide_eq_false hq, Bool.false_and]
      rw [e]
      refine EvT.done (fun k => ?_)
      simp only [block_whole.l0]
      rw [if_pos (by omega), if_pos (by omega), if_pos (by omega), hrd, if_pos (by omega), hbt, if_neg (by omega)]
theorem whole_ok (l : List ByteArray) (n : Nat) (hn : n < 256) (h64 : ∀ s ∈ l, s.size = 64) (hl : l.length ≤ 1000000) : ∃ K, block_whole.f K l n = some (wholeB l n) := by
  have h := whole_loop l n hn h64 hl l.length 0 (by omega)
  exact EvT.one (f := fun k => block_whole.f k l n) h
def UnpP (r : ByteArray × Int × Int) (w : World) (e : Ending) (w' : World) : Prop := e = .returned (.tuple #[.string r.1, .int .i64 r.2.1, .int .i64 r.2.2]) ∧ Below w.heap.size w w'
set_option maxRecDepth 100000 in
set_option maxHeartbeats 4000000 in
theorem unp_any (number : Int) (A : Option Addr) (c : Nat) (xs : List ByteArray) (w : World) (hC : Kd.C Kd.string w A xs.length xs) (hn0 : 0 ≤ number) (hn1 : number < 4294967295) (hcc : xs.length ≤ c) (hl : xs.length ≤ 10000000000000) (h0 : 0 < xs.length) :
    Calls Try.prog 14 #[.int .i64 number, .slice A xs.length c] w (UnpP (unpF number xs xs.length 0 []) w) := by
  obtain ⟨ad, rfl, hx⟩ := (Kd.reads_of_C (d := ByteArray.empty) hC).2.2 h0
  have hsp : ad.spot = none := by
    have h1 := Rk.spot_none (hx 0 h0)
    simpa [Addr.add] using h1
  obtain ⟨b, off, rfl⟩ : ∃ b off, ad = ⟨b, off, none⟩ := ⟨ad.block, ad.off, by rw [← Kp.addr_eta hsp]⟩
  have HX : Hid (∀ (i : Nat) (hi : i < xs.length), w.cell? ⟨b, off + i, none⟩ = some (.string xs[i])) := hidI fun i hi => by
    have := hx i hi
    rw [Kp.add_plain', List.getD_eq_getElem?_getD, List.getElem?_eq_getElem hi] at this
    simpa using this
  have HN := Bld.new (Below.refl w.heap.size w)
  have hne : ¬ (xs.length = 0) := by omega
  have hnd : decide ((xs.length : Int) = 0) = false := decide_eq_false (by omega)
  have hn2 : decide (number < 0) = false := decide_eq_false (by omega)
  have hn3 : decide (4294967295 ≤ number) = false := decide_eq_false (by omega)
  have HC := hidI hC
  clear hx hC
  go_enter Try.func14, Try.ntmps14
  go_wp2
  apply wp_scope_straight
  go_wp2
  apply wp_label
  go_wp2
  obtain ⟨R, hR⟩ : ∃ R, unpF number xs xs.length 0 [] = R := ⟨_, rfl⟩
  rw [hR]
  have HR := hidI hR
  clear hR
  go_loopw [23] (fun i wr => ∃ k : Nat, k ≤ xs.length ∧ k ≤ 254 ∧ i = .int .i64 k ∧ ∃ out : List UInt8, out.length ≤ k * 49 ∧ Hid (Bld w.heap.size w.heap.size out wr ∧ Below w.heap.size w wr ∧ unpF number xs (xs.length - k) k out = R ∧ ∀ (j : Nat) (hj : j < xs.length), j < k → xs[j].size = 64)) (fun i _ => xs.length - (intOf i).toNat)
  case atStart => exact ⟨0, Nat.zero_le _, Nat.zero_le _, rfl, [], by simp, hidI ⟨HN, below_new (Below.refl _ _) _, HR.out, fun j hj h => absurd h (by omega)⟩⟩
  case round =>
    obtain ⟨k, hk, hk254, rfl, out, hout, hI⟩ := hrel
    by_cases hlt : k < xs.length
    · obtain ⟨s, hs⟩ : ∃ s, s = xs[k] := ⟨_, rfl⟩
      have q0 : wr.cell? ⟨b, off + k, none⟩ = some (.string s) := by rw [hs]; exact pw_cell_below hI.out.2.1 (HX.out k hlt)
      have HS := hidI hs
      have HK := hidI hlt
      clear hs
      by_cases h64 : s.size = 64
      · have p5 : 5 < s.size := by omega
        have p6 : 6 < s.size := by omega
        have e6 : (s[6]'p6).toNat = lenB s := by simp [lenB, Array.getD, p6]; rfl
        have e5 : (s[5]'p5).toNat = cntB s := by simp [cntB, Array.getD, p5]; rfl
        have l5 : cntB s < 256 := by rw [← e5]; exact UInt8.toNat_lt _
        have l6 : lenB s < 256 := by rw [← e6]; exact UInt8.toNat_lt _
        have hbad : Hid (okB number k s = false → R = badU) := hidI fun h => by
          rw [← hI.out.2.2.1]; exact unpF_bad number xs k out HK.out (by rw [← HS.out]; exact h)
        by_cases g1 : 49 < lenB s ∨ lenB s = 0
        · have hR : R = badU := hbad.out (by rcases g1 with g | g <;> simp [okB, g]; omega)
          have hfin5 : ∀ w1, Below wr.heap.size wr w1 → UnpP (unpF number xs xs.length 0 []) w (.returned (.tuple #[.string ⟨#[]⟩, .int .i64 0, .int .i64 5])) w1 := fun w1 h => by
            rw [HR.out, hR]; exact ⟨rfl, below_step hI.out.2.1 h⟩
          have HF5 := hidI hfin5
          clear hfin5
          go_wp2_with fail
          go_region
          all_goals
            rcases g1 with g | g
            · have g4 : decide (49 < (lenB s : Int)) = true := decide_eq_true (by omega)
              go_wp2_with fail
              rw [Exit.noGoto_ret]
              go_ret3
              exact HF5.out _ (Below.refl _ wr).drew
            · have g4 : decide (49 < (lenB s : Int)) = false := decide_eq_false (by omega)
              have g5 : ((lenB s : Int) == 0) = true := by rw [g]; rfl
              clear g
              go_wp2_with fail
              rw [Exit.noGoto_ret]
              go_ret3
              exact HF5.out _ (Below.refl _ wr).drew
        · have g2 : ¬ 49 < lenB s := by omega
          have g3 : ¬ lenB s = 0 := by omega
          have g4 : decide (49 < (lenB s : Int)) = false := decide_eq_false (by omega)
          have g5 : ((lenB s : Int) == 0) = false := by simp; omega
          clear g1
          go_wp2_with fail
          go_region
          all_goals
            go_wp2_with fail
            refine (block_one.calls number (k : Int) (cntB s : Int) (s.extract 7 (7 + lenB s)) _ _ (one_ok _ _ _ _ (by simp; omega))).mono ?_
            rintro e w1 ⟨rfl, hb1⟩
            simp only []
            have hW1 : Below w.heap.size w w1 := below_step hI.out.2.1.drew hb1
            have hBw : Hid (w.heap.size ≤ w1.heap.size) := hidI hW1.size
            have HW1 := hidI hW1
            have hbd1 := (hI.out.1.below (Below.refl _ wr).drew).below hb1
            have HBD1 := hidI hbd1
            clear hW1 hbd1 hb1
            have hfin : Hid (R = badU → UnpP (unpF number xs xs.length 0 []) w (.returned (.tuple #[.string ⟨#[]⟩, .int .i64 0, .int .i64 5])) w1) := hidI fun h => by
              rw [HR.out, h]; exact ⟨rfl, HW1.out⟩
            by_cases hE : oneF number (k : Int) (cntB s : Int) (s.extract 7 (7 + lenB s)) = s
            · have hE1 : (s.toList == (oneF number (k : Int) (cntB s : Int) (s.extract 7 (7 + lenB s))).toList) = true := by rw [hE]; simp
              have HE := hidI hE
              clear hE
              by_cases hc : k < cntB s
              · have hc1 : decide ((cntB s : Int) ≤ (k : Int)) = false := decide_eq_false (by omega)
                have hc0 : ¬ cntB s ≤ k := by omega
                have hds : (s.extract 7 (7 + lenB s)).size = lenB s := by rw [ByteArray.size_extract]; omega
                have hbb : out.length + (s.extract 7 (7 + lenB s)).size ≤ 140737488355328 := by rw [hds]; omega
                by_cases hq : cntB s = k + 1
                · have hc3 : ¬ ((k : Int) + 1 < (cntB s : Int)) := by omega
                  have hc3' : decide ((k : Int) + 1 < (cntB s : Int)) = false := decide_eq_false hc3
                  have hc6 : ((cntB s : Int) == (k : Int) + 1) = true := by rw [hq]; simp
                  have HQ := hidI hq
                  clear hq
                  have hk1 : k + 1 ≤ c := by omega
                  have hok : Hid (okB number k s = true) := hidI (by simp only [okB, datB, HE.out, h64]; simp [hc]; omega)
                  go_wp2_with fail
                  with_reducible refine (wstr_any w.heap.size w.heap.size out (s.extract 7 (7 + lenB s)) w1 HBD1.out hbb hBw.out).mono ?_
                  rintro e w2 ⟨rfl, hB2, hb2⟩
                  simp only []
                  go_wp2_with fail
                  have h64s : ∀ t ∈ xs.take (k + 1), t.size = 64 := by
                    intro t ht
                    obtain ⟨j, hj, rfl⟩ := List.getElem_of_mem ht
                    rw [List.length_take] at hj
                    rw [List.getElem_take]
                    by_cases e : j = k
                    · subst e; rw [← HS.out]; exact h64
                    · exact hI.out.2.2.2 j (by omega) (by omega)
                  have hlt' : (xs.take (k + 1)).length = k + 1 := by rw [List.length_take]; omega
                  obtain ⟨K, hK⟩ := whole_ok (xs.take (k + 1)) (cntB s) l5 h64s (by omega)
                  have hCw := block_whole.calls K (some ⟨b, off, none⟩) c (xs.take (k + 1)) (cntB s : Int) _ w2 (by
                    rw [hlt']
                    have := Go.Proofs.YtckfkbmefdmedaaW.PrintWords.Kd.C_take (Kd.C_below HC.out (HW1.out.trans hb2)) (m := k + 1) (by omega)
                    rw [hlt'] at this; exact this) (by rw [hlt']; exact hk1) hK
                  rw [hlt'] at hCw
                  clear h64s hlt' hK
                  with_reducible refine hCw.mono ?_
                  rintro e w3 ⟨rfl, hd3⟩
                  obtain ⟨m3, rfl⟩ := hd3
                  simp only []
                  have hRe : R = if wholeB (xs.take (k + 1)) (cntB s) = true then (⟨(out ++ (s.extract 7 (7 + lenB s)).data.toList).toArray⟩, ((k + 1 : Nat) : Int), 0) else badU := by
                    rw [← hI.out.2.2.1, unpF_end number xs k out HK.out (by rw [← HS.out]; exact hok.out) (by rw [← HS.out]; exact HQ.out), ← HS.out, HQ.out]; rfl
                  have HRe := hidI hRe
                  clear hRe
                  generalize wholeB (xs.take (k + 1)) (cntB s) = wh at *
                  have hB3 := hB2.below (Below.refl w2.heap.size w2 |> fun h => below_drewN h m3)
                  cases wh
                  · have hfin3 : Hid (UnpP (unpF number xs xs.length 0 []) w (.returned (.tuple #[.string ⟨#[]⟩, .int .i64 0, .int .i64 5])) (w2.drewN m3)) := hidI (by
                      rw [HR.out, HRe.out]; exact ⟨rfl, below_drewN (HW1.out.trans hb2) m3⟩)
                    go_wp2_with fail
                    rw [Exit.noGoto_ret]
                    go_ret3
                    exact hfin3.out
                  · go_wp2_with fail
                    with_reducible refine (bstr_any w.heap.size w.heap.size (out ++ (s.extract 7 (7 + lenB s)).data.toList) (w2.drewN m3) hB3 (below_drewN (HW1.out.trans hb2) m3).size).mono ?_
                    rintro e w4 ⟨rfl, hb4⟩
                    have hfin4 : Hid (UnpP (unpF number xs xs.length 0 []) w (.returned (.tuple #[.string ⟨(out ++ (s.extract 7 (7 + lenB s)).data.toList).toArray⟩, .int .i64 (cntB s), .int .i64 0])) w4) := hidI (by
                      rw [HR.out, HRe.out, ← HQ.out]; exact ⟨rfl, (below_drewN (HW1.out.trans hb2) m3).trans hb4⟩)
                    simp only []
                    go_wp2_with fail
                    rw [Exit.noGoto_ret]
                    go_ret3
                    first | exact hfin4.out | (have q := hfin4.out; rw [HR.out] at q; exact q)
                · by_cases hc2 : lenB s < 49
                  · have hR : R = badU := hbad.out (by simp [okB, hc2]; omega)
                    have hc3 : ((k : Int) + 1 < (cntB s : Int)) := by omega
                    have hc4 : decide ((lenB s : Int) < 49) = true := decide_eq_true (by omega)
                    have hc3' : decide ((k : Int) + 1 < (cntB s : Int)) = true := decide_eq_true hc3
                    go_wp2_with fail
                    rw [Exit.noGoto_ret]
                    go_ret3
                    exact hfin.out hR
                  · have hc3 : ((k : Int) + 1 < (cntB s : Int)) := by omega
                    have hc4 : decide ((lenB s : Int) < 49) = false := decide_eq_false (by omega)
                    have hc3' : decide ((k : Int) + 1 < (cntB s : Int)) = true := decide_eq_true hc3
                    have hc5 : (49 : Int) ≤ (lenB s : Int) := by omega
                    have hc6 : ((cntB s : Int) == (k : Int) + 1) = false := by simp; omega
                    go_wp2_with fail
                    with_reducible refine (wstr_any w.heap.size w.heap.size out (s.extract 7 (7 + lenB s)) w1 HBD1.out hbb hBw.out).mono ?_
                    rintro e w2 ⟨rfl, hB2, hb2⟩
                    simp only []
                    have hok : Hid (okB number k s = true) := hidI (by simp only [okB, datB, HE.out, h64]; simp [hc, hc2]; omega)
                    by_cases hq5 : k + 1 = 255
                    · have hq6 : ((k : Int) + 1 == 255) = true := by simp; omega
                      have hR : R = badU := by
                        rw [← hI.out.2.2.1]; exact unpF_full number xs k out HK.out (by rw [← HS.out]; exact hq) hq5
                      clear hq5
                      have hfin2 : Hid (UnpP (unpF number xs xs.length 0 []) w (.returned (.tuple #[.string ⟨#[]⟩, .int .i64 0, .int .i64 5])) w2) := hidI (by
                        rw [HR.out, hR]; exact ⟨rfl, HW1.out.trans hb2⟩)
                      go_wp2_with fail
                      rw [Exit.noGoto_ret]
                      go_ret3
                      exact hfin2.out
                    · have hq6 : ((k : Int) + 1 == 255) = false := by simp; omega
                      have hI2 : Hid (Bld w.heap.size w.heap.size (out ++ (s.extract 7 (7 + lenB s)).data.toList) w2 ∧ Below w.heap.size w w2 ∧ unpF number xs (xs.length - (k + 1)) (k + 1) (out ++ (s.extract 7 (7 + lenB s)).data.toList) = R ∧ ∀ (j : Nat) (hj : j < xs.length), j < k + 1 → xs[j].size = 64) := hidI ⟨hB2, HW1.out.trans hb2, by
                        rw [← hI.out.2.2.1, unpF_next number xs k out HK.out (by rw [← HS.out]; exact hok.out) (by rw [← HS.out]; exact hq) hq5, ← HS.out]; rfl, by
                        intro j hj hjk
                        by_cases e : j = k
                        · subst e; rw [← HS.out]; exact h64
                        · exact hI.out.2.2.2 j hj (by omega)⟩
                      go_wp2_with fail
                      go_roundw
                      · exact ⟨k + 1, by omega, by omega, by simp, _, by simp; omega, hI2⟩
                      · simp [intOf]; omega
              · have hR : R = badU := hbad.out (by simp [okB, hc])
                have hc1 : decide ((cntB s : Int) ≤ (k : Int)) = true := decide_eq_true (by omega)
                go_wp2_with fail
                rw [Exit.noGoto_ret]
                go_ret3
                exact hfin.out hR
            · have hR : R = badU := hbad.out (by simp [okB, datB, hE])
              have hE1 : (s.toList == (oneF number (k : Int) (cntB s : Int) (s.extract 7 (7 + lenB s))).toList) = false := by
                rw [beq_eq_false_iff_ne]
                intro e
                exact hE (ByteArray.ext (Array.ext' (by rw [ByteArray.toList_eq, ByteArray.toList_eq] at e; exact e))).symm
              clear hE
              go_wp2_with fail
              rw [Exit.noGoto_ret]
              go_ret3
              exact hfin.out hR
      · have hR : R = badU := by
          rw [← hI.out.2.2.1]; exact unpF_bad number xs k out HK.out (by rw [← HS.out]; simp [okB, h64])
        have hfin6 : Hid (UnpP (unpF number xs xs.length 0 []) w (.returned (.tuple #[.string ⟨#[]⟩, .int .i64 0, .int .i64 5])) wr) := hidI (by
          rw [HR.out, hR]; exact ⟨rfl, hI.out.2.1⟩)
        have h64' : ((s.size : Int) == 64) = false := by simp; omega
        go_wp2_with fail
        rw [Exit.noGoto_ret]
        go_ret3
        exact hfin6.out
    · have hR : R = badU := by
        rw [← hI.out.2.2.1, show xs.length - k = 0 by omega]; rfl
      have hfin7 : Hid (UnpP (unpF number xs xs.length 0 []) w (.returned (.tuple #[.string ⟨#[]⟩, .int .i64 0, .int .i64 5])) wr) := hidI (by
        rw [HR.out, hR]; exact ⟨rfl, hI.out.2.1⟩)
      go_wp2_with fail
      rw [Exit.noGoto_ret]
      go_ret3
      exact hfin7.out
set_option maxRecDepth 100000 in
set_option maxHeartbeats 4000000 in
theorem unp_all (number : Int) (A : Option Addr) (c : Nat) (xs : List ByteArray) (w : World) (hC : Kd.C Kd.string w A xs.length xs) (hcc : xs.length ≤ c) (hl : xs.length ≤ 10000000000000) :
    Calls Try.prog 14 #[.int .i64 number, .slice A xs.length c] w (UnpP (unpackF number xs) w) := by
  by_cases h0 : xs.length = 0
  · have hfin : Hid (UnpP (unpackF number xs) w (.returned (.tuple #[.string ⟨#[]⟩, .int .i64 0, .int .i64 4])) w) := hidI (by
      unfold unpackF; rw [if_pos h0]; exact ⟨rfl, Below.refl _ _⟩)
    have e0 : ((xs.length : Int) == 0) = true := by rw [h0]; rfl
    clear h0 hC
    go_enter Try.func14, Try.ntmps14
    go_wp2
    apply wp_scope_straight
    go_wp2
    rw [Exit.noGoto_ret]
    go_ret3
    exact hfin.out
  · by_cases h1 : number < 0
    · have hfin : Hid (UnpP (unpackF number xs) w (.returned (.tuple #[.string ⟨#[]⟩, .int .i64 0, .int .i64 1])) w) := hidI (by
        unfold unpackF; rw [if_neg h0, if_pos (.inl h1)]; exact ⟨rfl, Below.refl _ _⟩)
      have e0 : ((xs.length : Int) == 0) = false := beq_eq_false_iff_ne.mpr (by omega)
      have e1 : decide (number < 0) = true := decide_eq_true h1
      clear hC
      go_enter Try.func14, Try.ntmps14
      go_wp2
      apply wp_scope_straight
      go_wp2
      rw [Exit.noGoto_ret]
      go_ret3
      exact hfin.out
    · by_cases h2 : 4294967295 ≤ number
      · have hfin : Hid (UnpP (unpackF number xs) w (.returned (.tuple #[.string ⟨#[]⟩, .int .i64 0, .int .i64 1])) w) := hidI (by
          unfold unpackF; rw [if_neg h0, if_pos (.inr h2)]; exact ⟨rfl, Below.refl _ _⟩)
        have e0 : ((xs.length : Int) == 0) = false := beq_eq_false_iff_ne.mpr (by omega)
        have e1 : decide (number < 0) = false := decide_eq_false h1
        have e2 : decide (4294967295 ≤ number) = true := decide_eq_true h2
        clear hC
        go_enter Try.func14, Try.ntmps14
        go_wp2
        apply wp_scope_straight
        go_wp2
        rw [Exit.noGoto_ret]
        go_ret3
        exact hfin.out
      · have h := unp_any number A c xs w hC (by omega) (by omega) hcc hl (by omega)
        unfold unpackF
        rw [if_neg h0, if_neg (by omega)]
        exact h
def block_Unpack.f (a0 : Int) (l1 : List ByteArray) : Option (ByteArray × Int × Int) := if l1.length ≤ 10000000000000 then some (unpackF a0 l1) else none
theorem block_Unpack.calls (a0 : Int) (A1 : Option Addr) (c1 : Nat) (l1 : List ByteArray) (r1 : ByteArray) (r2 r3 : Int) (w : World) (hr1 : Kd.C Kd.string w A1 l1.length l1) (hc1 : l1.length ≤ c1) (h : block_Unpack.f a0 l1 = some (r1, r2, r3)) :
    Calls Try.prog 14 #[.int .i64 a0, .slice A1 l1.length c1] w fun e w' => e = .returned (.tuple #[.string r1, .int .i64 r2, .int .i64 r3]) ∧ Below w.heap.size w w' := by
  unfold block_Unpack.f at h
  split at h
  · rename_i hl
    have := Option.some.inj h
    have hh := unp_all a0 A1 c1 l1 w hr1 hc1 hl
    rw [this] at hh
    exact hh.mono fun e w' h => h
  · cases h
end Go.Proofs.Ytckfkbmefdmedaa
namespace Go.Proofs.Ytckfkbmefdmedaa
open Go.RowKit Go.Proofs.Kq Go.Proofs.Ytckfkbmefdmedaa.Q
open Go.Proofs.YtckfkbmefdmedaaW.PrintWords (pw_cell_below Kd Kd.C Kd.C_below Kd.R bt rdOf)
set_option linter.unusedVariables false
set_option linter.unusedSimpArgs false
theorem ba_tl {s t : ByteArray} : s.toList = t.toList ↔ s = t :=
  ⟨fun e => ByteArray.ext (Array.ext' (by rw [ByteArray.toList_eq, ByteArray.toList_eq] at e; exact e)), fun e => by rw [e]⟩
theorem eqb_loop (a b : List ByteArray) (hab : a.length = b.length) (hl : a.length ≤ 1000000) : ∀ r i : Nat, i + r = a.length → EvT (fun k => soukref03_equal.l0 k a b i) (decide (a.drop i = b.drop i))
  | 0, i, hi => by
    refine EvT.done (fun k => ?_)
    rw [soukref03_equal.l0, if_neg (by omega), List.drop_eq_nil_of_le (by omega), List.drop_eq_nil_of_le (by omega), hab]; simp
  | r + 1, i, hi => by
    have ih := eqb_loop a b hab hl r (i + 1) (by omega)
    have ha : i < a.length := by omega
    have hb : i < b.length := by omega
    have hra : rdOf ByteArray.empty a (i : Int) = a[i] := by simp [rdOf, ha]
    have hrb : rdOf ByteArray.empty b (i : Int) = b[i] := by simp [rdOf, hb]
    have e : (a.drop i = b.drop i) ↔ (a[i] = b[i] ∧ a.drop (i + 1) = b.drop (i + 1)) := by
      rw [List.drop_eq_getElem_cons ha, List.drop_eq_getElem_cons hb, List.cons.injEq]
    by_cases hq : a[i] = b[i]
    · refine EvT.step (fun k => ?_) (show EvT (fun k => soukref03_equal.l0 k a b ((i + 1 : Nat) : Int)) _ by
        rw [show decide (a.drop i = b.drop i) = decide (a.drop (i + 1) = b.drop (i + 1)) by rw [decide_eq_decide, e]; simp only [hq, true_and]]; exact ih)
      rw [soukref03_equal.l0, if_pos (by omega), if_pos (by omega), if_pos (by omega), hra, hrb, if_pos (by rw [hq]), nx i (by omega)]
    · rw [show decide (a.drop i = b.drop i) = false from decide_eq_false (by rw [e]; exact fun h => hq h.1)]
      refine EvT.done (fun k => ?_)
      rw [soukref03_equal.l0, if_pos (by omega), if_pos (by omega), if_pos (by omega), hra, hrb, if_neg (by rw [ba_tl]; exact hq)]
theorem eqb_ok (a b : List ByteArray) (hab : a.length = b.length) (hl : a.length ≤ 1000000) : ∃ K, soukref03_equal.f K a b = some (decide (a = b)) := by
  have h := eqb_loop a b hab hl a.length 0 (by omega)
  exact EvT.one (f := fun k => soukref03_equal.f k a b) h
def partB (s : ByteArray) : ByteArray := s.extract 7 (7 + min (lenB s) 49)
def recB (number : Int) (all : List ByteArray) (n : Nat) (out : ByteArray) : Bool := (blocksF number (bl out)).2 && (decide ((blocksF number (bl out)).1.length = n) && decide ((blocksF number (bl out)).1 = all.take n))
def payF (number : Int) (all : List ByteArray) : Nat → Nat → ByteArray → ByteArray × Int
  | 0, _, _ => (⟨#[]⟩, 0)
  | d + 1, i, out =>
    let s := all.getD i ByteArray.empty
    if i + 1 ≤ 255 then
      (if s.size = 64 then
        (if recB number all (i + 1) (out ++ partB s) = true then (out ++ partB s, ((i + 1 : Nat) : Int))
         else payF number all d (i + 1) (out ++ partB s))
       else (⟨#[]⟩, 0))
    else (⟨#[]⟩, 0)
theorem payF_size (number : Int) (all : List ByteArray) (k : Nat) (out : ByteArray) (h : k < all.length) (hs : ¬ all[k].size = 64) : payF number all (all.length - k) k out = (⟨#[]⟩, 0) := by
  rw [show all.length - k = (all.length - (k + 1)) + 1 by omega, payF]
  simp only [List.getD_eq_getElem?_getD, List.getElem?_eq_getElem h, Option.getD_some]
  split
  · first | rfl | rw [if_neg hs]
  · rfl
theorem payF_full (number : Int) (all : List ByteArray) (k d : Nat) (out : ByteArray) (h : 255 < k + 1) : payF number all d k out = (⟨#[]⟩, 0) := by
  cases d
  · rfl
  · rw [payF, if_neg (by omega)]
theorem payF_rec (number : Int) (all : List ByteArray) (k : Nat) (out : ByteArray) (h : k < all.length) (h5 : k + 1 ≤ 255) (hs : all[k].size = 64) : payF number all (all.length - k) k out = if recB number all (k + 1) (out ++ partB all[k]) = true then (out ++ partB all[k], ((k + 1 : Nat) : Int)) else payF number all (all.length - (k + 1)) (k + 1) (out ++ partB all[k]) := by
  rw [show all.length - k = (all.length - (k + 1)) + 1 by omega, payF]
  simp only [List.getD_eq_getElem?_getD, List.getElem?_eq_getElem h, Option.getD_some]
  rw [if_pos h5, if_pos hs]
def PayP (r : ByteArray × Int) (w : World) (e : Ending) (w' : World) : Prop := e = .returned (.tuple #[.string r.1, .int .i64 r.2]) ∧ Below w.heap.size w w'
theorem partB_size (s : ByteArray) (h : s.size = 64) : (partB s).size = min (lenB s) 49 := by
  unfold partB; rw [ByteArray.size_extract]; omega
set_option maxRecDepth 100000 in
set_option maxHeartbeats 4000000 in
theorem pay_any (number : Int) (A : Option Addr) (c : Nat) (xs : List ByteArray) (w : World) (hC : Kd.C Kd.string w A xs.length xs) (hcc : xs.length ≤ c) (hl : xs.length ≤ 10000000000000) (h0 : 0 < xs.length) :
    Calls Try.prog 15 #[.int .i64 number, .slice A xs.length c] w (PayP (payF number xs xs.length 0 ⟨#[]⟩) w) := by
  have HC0 := hidI hC
  obtain ⟨ad, rfl, hx⟩ := (Kd.reads_of_C (d := ByteArray.empty) hC).2.2 h0
  have hsp : ad.spot = none := by
    have h1 := Rk.spot_none (hx 0 h0)
    simpa [Addr.add] using h1
  obtain ⟨b, off, rfl⟩ : ∃ b off, ad = ⟨b, off, none⟩ := ⟨ad.block, ad.off, by rw [← Kp.addr_eta hsp]⟩
  have HX : Hid (∀ (i : Nat) (hi : i < xs.length), w.cell? ⟨b, off + i, none⟩ = some (.string xs[i])) := hidI fun i hi => by
    have := hx i hi
    rw [Kp.add_plain', List.getD_eq_getElem?_getD, List.getElem?_eq_getElem hi] at this
    simpa using this
  clear hx hC
  go_enter Try.func15, Try.ntmps15
  go_wp2
  obtain ⟨R, hR⟩ : ∃ R, payF number xs xs.length 0 ⟨#[]⟩ = R := ⟨_, rfl⟩
  rw [hR]
  have HR := hidI hR
  clear hR
  go_loopw [6, 7] (fun o i wr => ∃ k : Nat, k ≤ xs.length ∧ k ≤ 255 ∧ i = .int .i64 ((k : Int) + 1) ∧ ∃ out : ByteArray, o = .string out ∧ out.size ≤ k * 49 ∧ Hid (Below w.heap.size w wr ∧ payF number xs (xs.length - k) k out = R)) (fun _ i _ => xs.length + 1 - (intOf i).toNat)
  case atStart => exact ⟨0, Nat.zero_le _, by omega, rfl, ⟨#[]⟩, rfl, by decide, hidI ⟨Below.refl _ _, HR.out⟩⟩
  case round =>
    obtain ⟨k, hk, hk5, rfl, out, rfl, hout, hI⟩ := hrel
    by_cases hlt : k < xs.length
    · by_cases hk6 : k + 1 ≤ 255
      · obtain ⟨s, hs⟩ : ∃ s, s = xs[k] := ⟨_, rfl⟩
        have q0 : wr.cell? ⟨b, off + k, none⟩ = some (.string s) := by rw [hs]; exact pw_cell_below hI.out.1 (HX.out k hlt)
        have HS := hidI hs
        have HK := hidI hlt
        clear hs
        have h1 : decide ((k : Int) + 1 ≤ xs.length) = true := decide_eq_true (by omega)
        have h2 : decide ((k : Int) + 1 ≤ 255) = true := decide_eq_true (by omega)
        by_cases h64 : s.size = 64
        · have p6 : 6 < s.size := by omega
          have e6 : (s[6]'p6).toNat = lenB s := by simp [lenB, Array.getD, p6]; rfl
          have l6 : lenB s < 256 := by rw [← e6]; exact UInt8.toNat_lt _
          have hps := partB_size s h64
          have hpe : s.extract 7 (7 + min (lenB s : Int) 49).toNat = partB s := by unfold partB; congr 1; omega
          go_wp2_with fail
          try clear hpe
          have hz : (out ++ partB s).size ≤ (k + 1) * 49 := by rw [ByteArray.size_append, hps]; omega
          obtain ⟨K, hK⟩ := EvT.one (blocks_ok number (out ++ partB s) (by omega))
          have hRr := payF_rec number xs k out HK.out hk6 (by rw [← HS.out]; exact h64)
          rw [← HS.out] at hRr
          have HRr := hidI hRr
          clear hRr
          obtain ⟨y, hy⟩ : ∃ y, y = out ++ partB s := ⟨_, rfl⟩
          rw [← hy] at hz HRr hK ⊢
          clear hy
          rcases hbf : blocksF number (bl y) with ⟨bl1, bo⟩
          rw [hbf] at hK
          with_reducible refine (soukref03_Blocks.calls K number y bl1 bo wr hK).mono ?_
          rintro e w1 ⟨v0, rfl, hv0, hb1⟩
          obtain ⟨A1, c1, rfl, hc1, hC1⟩ := Go.Proofs.YtckfkbmefdmedaaW.PrintWords.Kd.R_reads hv0
          have HBF := hidI hbf
          have hW1 := hidI (below_step hI.out.1 hb1)
          clear hbf hK hv0
          simp only []
          have hrec : Hid (recB number xs (k + 1) y = (bo && (decide (bl1.length = k + 1) && decide (bl1 = xs.take (k + 1))))) := hidI (by unfold recB; rw [HBF.out])
          cases bo
          · have hnext : Hid (payF number xs (xs.length - (k + 1)) (k + 1) y = R) := hidI (by
              rw [← hI.out.2, HRr.out, hrec.out]; rfl)
            go_wp2_with fail
            go_roundw
            · exact ⟨k + 1, by omega, by omega, by simp, y, rfl, hz, hidI ⟨hW1.out, hnext.out⟩⟩
            · simp [intOf]; omega
          · by_cases hl1 : bl1.length = k + 1
            · have hl2 : ((bl1.length : Int) == (k : Int) + 1) = true := by rw [hl1]; simp
              have hl3 : (bl1.length : Int) = (k : Int) + 1 := by omega
              have hk1 : k + 1 ≤ c := by omega
              have hlt' : (xs.take (k + 1)).length = k + 1 := by rw [List.length_take]; omega
              obtain ⟨K2, hK2⟩ := eqb_ok bl1 (xs.take (k + 1)) (by omega) (by omega)
              have hCe := soukref03_equal.calls K2 A1 c1 bl1 (some ⟨b, off, none⟩) c (xs.take (k + 1)) _ w1 hC1 hc1 (by
                have := Go.Proofs.YtckfkbmefdmedaaW.PrintWords.Kd.C_take (Kd.C_below HC0.out hW1.out) (m := k + 1) (by omega)
                exact this) (by rw [hlt']; exact hk1) hK2
              rw [hlt'] at hCe
              have hrec2 : Hid (recB number xs (k + 1) y = decide (bl1 = xs.take (k + 1))) := hidI (by rw [hrec.out, hl1]; simp)
              clear hlt' hK2 hl1 hl3
              go_wp2_with fail
              with_reducible refine hCe.mono ?_
              rintro e w2 ⟨rfl, hd2⟩
              obtain ⟨m2, rfl⟩ := hd2
              simp only []
              generalize decide (bl1 = xs.take (k + 1)) = tt at *
              cases tt
              · have hnext : Hid (payF number xs (xs.length - (k + 1)) (k + 1) y = R) := hidI (by
                  rw [← hI.out.2, HRr.out, hrec2.out]; rfl)
                go_wp2_with fail
                go_roundw
                · exact ⟨k + 1, by omega, by omega, by simp, y, rfl, hz, hidI ⟨below_drewN hW1.out m2, hnext.out⟩⟩
                · simp [intOf]; omega
              · have hfin : Hid (PayP R w (.returned (.tuple #[.string y, .int .i64 ((k : Int) + 1)])) (w1.drewN m2)) := hidI (by
                  rw [← hI.out.2, HRr.out, hrec2.out]; exact ⟨rfl, below_drewN hW1.out m2⟩)
                go_wp2_with fail
                go_ret2
                first | exact hfin.out | (rw [HR.out]; exact hfin.out)
            · have hl2 : ((bl1.length : Int) == (k : Int) + 1) = false := beq_eq_false_iff_ne.mpr (by omega)
              have hnext : Hid (payF number xs (xs.length - (k + 1)) (k + 1) y = R) := hidI (by
                rw [← hI.out.2, HRr.out, hrec.out, decide_eq_false hl1]; rfl)
              go_wp2_with fail
              go_roundw
              · exact ⟨k + 1, by omega, by omega, by simp, y, rfl, hz, hidI ⟨hW1.out, hnext.out⟩⟩
              · simp [intOf]; omega
        · have hR : R = (⟨#[]⟩, 0) := by
            rw [← hI.out.2]; exact payF_size number xs k out HK.out (by rw [← HS.out]; exact h64)
          have hfin : Hid (PayP R w (.returned (.tuple #[.string ⟨#[]⟩, .int .i64 0])) wr) := hidI (by
            rw [hR]; exact ⟨rfl, hI.out.1⟩)
          clear hR
          have h3 : ((s.size : Int) == 64) = false := beq_eq_false_iff_ne.mpr (by omega)
          go_wp2_with fail
          go_ret2
          first | exact hfin.out | (rw [HR.out]; exact hfin.out)
      · have hR : R = (⟨#[]⟩, 0) := by
          rw [← hI.out.2]; exact payF_full number xs k _ out (by omega)
        have hfin : Hid (PayP R w (.returned (.tuple #[.string ⟨#[]⟩, .int .i64 0])) wr) := hidI (by
          rw [hR]; exact ⟨rfl, hI.out.1⟩)
        clear hR
        have h1 : decide ((k : Int) + 1 ≤ xs.length) = true := decide_eq_true (by omega)
        have h2 : decide ((k : Int) + 1 ≤ 255) = false := decide_eq_false (by omega)
        go_wp2_with fail
        go_ret2
        first | exact hfin.out | (rw [HR.out]; exact hfin.out)
    · have hR : R = (⟨#[]⟩, 0) := by
        rw [← hI.out.2, show xs.length - k = 0 by omega]; rfl
      have hfin : Hid (PayP R w (.returned (.tuple #[.string ⟨#[]⟩, .int .i64 0])) wr) := hidI (by
        rw [hR]; exact ⟨rfl, hI.out.1⟩)
      clear hR
      have h1 : decide ((k : Int) + 1 ≤ xs.length) = false := decide_eq_false (by omega)
      go_wp2_with fail
      go_ret2
      first | exact hfin.out | (rw [HR.out]; exact hfin.out)
def soukref03_Payload.f (a0 : Int) (l1 : List ByteArray) : Option (ByteArray × Int) := if 0 < l1.length ∧ l1.length ≤ 10000000000000 then some (payF a0 l1 l1.length 0 ⟨#[]⟩) else none
theorem soukref03_Payload.calls (a0 : Int) (A1 : Option Addr) (c1 : Nat) (l1 : List ByteArray) (r1 : ByteArray) (r2 : Int) (w : World) (hr1 : Kd.C Kd.string w A1 l1.length l1) (hc1 : l1.length ≤ c1) (h : soukref03_Payload.f a0 l1 = some (r1, r2)) :
    Calls Try.prog 15 #[.int .i64 a0, .slice A1 l1.length c1] w fun e w' => e = .returned (.tuple #[.string r1, .int .i64 r2]) ∧ Below w.heap.size w w' := by
  unfold soukref03_Payload.f at h
  split at h
  · rename_i hl
    have := Option.some.inj h
    have hh := pay_any a0 A1 c1 l1 w hr1 hc1 hl.2 hl.1
    rw [this] at hh
    exact hh.mono fun e w' h => h
  · cases h
end Go.Proofs.Ytckfkbmefdmedaa
namespace Go.Proofs.Ytckfkbmefdmedaa
open Go.RowKit Go.Proofs.Kq Go.Proofs.Ytckfkbmefdmedaa.Q Go.Proofs.YtckfkbmefdmedaaW.PrintWords Go
set_option linter.unusedVariables false
set_option linter.unusedSimpArgs false
theorem bl_append (a b : ByteArray) : bl (a ++ b) = bl a ++ bl b := by simp [bl]
def tagL (z : Int) : List UInt8 := bl (strOfNums (lowI 4 z))
theorem tagL_len (z : Int) : (tagL z).length = 4 := rfl
theorem one_bl (n i c : Int) (d : ByteArray) : ∃ C : List UInt8, C.length = 4 ∧ bl (oneF n i c d) = tagL ((n + 1) % 4294967296) ++ (bl (strOfNums [i % 256, c % 256, (d.size : Int) % 256]) ++ (bl d ++ (Lib.repeatL [0] (49 - d.size) ++ (C ++ tagL ((n + 1) % 4294967296))))) := by
  refine ⟨tagL (crcF (headF n i c d)), rfl, ?_⟩
  unfold oneF
  generalize crcF (headF n i c d) = z
  unfold headF tagL
  simp only [bl_append, List.append_assoc]
  rfl
theorem lenB_bl (s : ByteArray) : lenB s = ((bl s).getD 6 0).toNat := by simp [lenB, bl, Array.getD_eq_getD_getElem?]
theorem cntB_bl (s : ByteArray) : cntB s = ((bl s).getD 5 0).toNat := by simp [cntB, bl, Array.getD_eq_getD_getElem?]
theorem one_len (n i c : Int) (d : ByteArray) (hd : d.size ≤ 49) : lenB (oneF n i c d) = d.size := by
  obtain ⟨C, hC, e⟩ := one_bl n i c d
  rw [lenB_bl, e]
  show (UInt8.ofNat ((d.size : Int) % 256).toNat).toNat = _
  rw [UInt8.toNat_ofNat']; omega
theorem one_cnt (n i : Int) (c : Nat) (d : ByteArray) (hc : c < 256) : cntB (oneF n i c d) = c := by
  obtain ⟨C, hC, e⟩ := one_bl n i c d
  rw [cntB_bl, e]
  show (UInt8.ofNat ((c : Int) % 256).toNat).toNat = _
  rw [UInt8.toNat_ofNat']; omega
theorem one_size (n i c : Int) (d : ByteArray) (hd : d.size ≤ 49) : (oneF n i c d).size = 64 := by
  obtain ⟨C, hC, e⟩ := one_bl n i c d
  rw [ba_size, e]
  simp only [List.length_append, tagL_len, hC, Lib.repeatL_length, ← ba_size, sn_size]
  simp; omega
theorem one_dat (n i c : Int) (d : ByteArray) (hd : d.size ≤ 49) : datB (oneF n i c d) = d := by
  obtain ⟨C, hC, e⟩ := one_bl n i c d
  apply ba_ext
  unfold datB
  rw [bl_extract, one_len n i c d hd, e]
  show List.take _ (bl d ++ _) = _
  rw [show 7 + d.size - 7 = (bl d).length by rw [← ba_size]; omega, List.take_left]
theorem one_tail (n i c : Int) (d : ByteArray) (hd : d.size ≤ 49) : (bl (oneF n i c d)).drop 60 = tagL ((n + 1) % 4294967296) := by
  obtain ⟨C, hC, e⟩ := one_bl n i c d
  rw [e]
  rw [← List.append_assoc, ← List.append_assoc, ← List.append_assoc, ← List.append_assoc]
  rw [show 60 = ((((tagL ((n + 1) % 4294967296) ++ bl (strOfNums [i % 256, c % 256, (d.size : Int) % 256])) ++ bl d) ++ Lib.repeatL [0] (49 - d.size)) ++ C).length by
    simp only [List.length_append, tagL_len, hC, Lib.repeatL_length, ← ba_size, sn_size]; simp; omega, List.drop_left]
theorem tagL_inj (a b : Int) (ha : 0 ≤ a) (ha2 : a < 4294967296) (hb : 0 ≤ b) (hb2 : b < 4294967296) (h : tagL a = tagL b) : a = b := by
  have e : strOfNums (lowI 4 a) = strOfNums (lowI 4 b) := ba_ext h
  have e2 := congrArg bn e
  rw [bn_sn (lowI_mem 4 a), bn_sn (lowI_mem 4 b)] at e2
  have := congrArg vI e2
  rw [vI_low 4 a ha (by omega), vI_low 4 b hb (by omega)] at this
  exact this
end Go.Proofs.Ytckfkbmefdmedaa
namespace Go.Proofs.Ytckfkbmefdmedaa
open Go.RowKit Go.Proofs.Kq Go.Proofs.Ytckfkbmefdmedaa.Q Go.Proofs.YtckfkbmefdmedaaW.PrintWords Go
set_option linter.unusedVariables false
set_option linter.unusedSimpArgs false
def Rec (number : Int) (l : List ByteArray) (p : ByteArray) (n : Nat) : Prop := 0 < n ∧ n ≤ 255 ∧ n ≤ l.length ∧ cntL (bl p).length = n ∧ l.take n = blkR number (bl p) n 0 n
theorem Rec.at_ {number : Int} {l : List ByteArray} {p : ByteArray} {n : Nat} (h : Rec number l p n) (i : Nat) (hi : i < n) (hl : i < l.length) : l[i] = oneF number i n (chunk (bl p) i) := by
  have h1 := h.2.2.2.2
  have h2 : (l.take n)[i]'(by rw [List.length_take]; omega) = l[i] := List.getElem_take
  rw [← h2]
  have h3 := blkR_get number (bl p) n n 0 i hi
  rw [Nat.zero_add] at h3
  rw [← h3]
  congr 1
theorem chunk_le (L : List UInt8) (i : Nat) : (chunk L i).size ≤ 49 := by rw [chunk_size]; omega
theorem bl_chunk (L : List UInt8) (i : Nat) : bl (chunk L i) = (L.drop (49 * i)).take 49 := by simp [chunk, bl]
theorem take_chunk (L : List UInt8) (i : Nat) : L.take (49 * i) ++ bl (chunk L i) = L.take (49 * (i + 1)) := by
  rw [bl_chunk, Nat.mul_succ, List.take_add]
theorem rec_ok {number : Int} {l : List ByteArray} {p : ByteArray} {n : Nat} (h : Rec number l p n) (i : Nat) (hi : i < n) (hl : i < l.length) : okB number i l[i] = true ∧ cntB l[i] = n ∧ datB l[i] = chunk (bl p) i := by
  have e := h.at_ i hi hl
  have hc := chunk_le (bl p) i
  have hn : n < 256 := by have := h.2.1; omega
  have e1 : cntB l[i] = n := by rw [e]; exact one_cnt _ _ _ _ hn
  have e2 : datB l[i] = chunk (bl p) i := by rw [e]; exact one_dat _ _ _ _ hc
  have e3 : lenB l[i] = (chunk (bl p) i).size := by rw [e]; exact one_len _ _ _ _ hc
  have e4 : l[i].size = 64 := by rw [e]; exact one_size _ _ _ _ hc
  have hcn := h.2.2.2.1
  unfold cntL at hcn
  have e5 : (chunk (bl p) i).size = min 49 ((bl p).length - 49 * i) := chunk_size _ _
  refine ⟨?_, e1, e2⟩
  unfold okB
  rw [e1, e2, e3, e4, ← e]
  simp only [Bool.and_eq_true, decide_eq_true_eq, Bool.not_eq_true', Bool.and_eq_false_iff, decide_eq_false_iff_not]
  refine ⟨⟨⟨⟨⟨trivial, hc⟩, by omega⟩, trivial⟩, hi⟩, by omega⟩
theorem unp_rec {number : Int} {l : List ByteArray} {p : ByteArray} {n : Nat} (h : Rec number l p n) : ∀ r i, i + r = n → 0 < r → unpF number l (l.length - i) i ((bl p).take (49 * i)) = (p, (n : Int), 0)
  | 0, i, hi, h0 => absurd h0 (by omega)
  | r + 1, i, hi, _ => by
    have hl : i < l.length := by have := h.2.2.1; omega
    obtain ⟨h1, h2, h3⟩ := rec_ok h i (by omega) hl
    have e3 : (bl p).take (49 * i) ++ (datB l[i]).data.toList = (bl p).take (49 * (i + 1)) := by rw [h3]; exact take_chunk _ _
    by_cases hr : r = 0
    · have hn : n = i + 1 := by omega
      rw [unpF_end number l i _ hl h1 (by omega), if_pos, e3]
      · have hcn := h.2.2.2.1
        unfold cntL at hcn
        rw [List.take_of_length_le (by omega), hn, ← ba_of]
      · unfold wholeB
        rw [List.all_eq_true]
        intro x hx
        obtain ⟨j, hj, rfl⟩ := List.getElem_of_mem hx
        rw [List.length_take] at hj
        rw [List.getElem_take, decide_eq_true_eq, (rec_ok h j (by omega) (by omega)).2.1, hn]
    · rw [unpF_next number l i _ hl h1 (by omega) (by have := h.2.1; omega), e3]
      exact unp_rec h r (i + 1) (by omega) (by omega)
theorem chunk_app (L M : List UInt8) (j : Nat) (h : 49 * (j + 1) ≤ L.length) : chunk (L ++ M) j = chunk L j := by
  unfold chunk
  rw [List.drop_append_of_le_length (by omega), List.take_append_of_le_length (by rw [List.length_drop]; omega)]
theorem chunk_end (L M : List UInt8) (i : Nat) (h : L.length = 49 * i) (hM : M.length ≤ 49) : chunk (L ++ M) i = ⟨M.toArray⟩ := by
  unfold chunk
  rw [← h, List.drop_left, List.take_of_length_le hM]
theorem okB_parts {number : Int} {i : Nat} {s : ByteArray} (h : okB number i s = true) : s.size = 64 ∧ lenB s ≤ 49 ∧ 0 < lenB s ∧ oneF number i (cntB s) (datB s) = s ∧ i < cntB s ∧ ¬ (i + 1 < cntB s ∧ lenB s < 49) := by
  unfold okB at h
  simp only [Bool.and_eq_true, decide_eq_true_eq, Bool.not_eq_true', Bool.and_eq_false_iff, decide_eq_false_iff_not] at h
  obtain ⟨⟨⟨⟨⟨a, b⟩, c⟩, d⟩, e⟩, f⟩ := h
  exact ⟨a, b, c, d, e, by omega⟩
theorem datB_size {s : ByteArray} (h : s.size = 64) (hl : lenB s ≤ 49) : (datB s).size = lenB s := by unfold datB; rw [ByteArray.size_extract]; omega
theorem cntB_lt (s : ByteArray) : cntB s < 256 := by unfold cntB; exact UInt8.toNat_lt _
theorem unp_norec (number : Int) (l : List ByteArray) (hno : ∀ p n, ¬ Rec number l p n) : ∀ d i (out : List UInt8), i + d = l.length → out.length = 49 * i → (∀ j (hj : j < l.length), j < i → okB number j l[j] = true ∧ chunk out j = datB l[j]) → unpF number l d i out = badU
  | 0, i, out, hi, ho, hI => rfl
  | d + 1, i, out, hi, ho, hI => by
    have hl : i < l.length := by omega
    have ed : d + 1 = l.length - i := by omega
    by_cases hok : okB number i l[i] = true
    · obtain ⟨h64, hl49, hl0, hone, hc, hm⟩ := okB_parts hok
      have hds := datB_size h64 hl49
      have hdl : (datB l[i]).data.toList.length = lenB l[i] := by rw [← hds, ba_size]; rfl
      by_cases hq : cntB l[i] = i + 1
      · rw [ed, unpF_end number l i out hl hok hq]
        by_cases hw : wholeB (l.take (i + 1)) (i + 1) = true
        · exfalso
          refine hno ⟨(out ++ (datB l[i]).data.toList).toArray⟩ (i + 1) ⟨by omega, by have := cntB_lt l[i]; omega, by omega, ?_, ?_⟩
          · unfold cntL bl; simp only [List.length_append, hdl]; omega
          · have hbl : bl ⟨(out ++ (datB l[i]).data.toList).toArray⟩ = out ++ (datB l[i]).data.toList := by simp [bl]
            rw [hbl]
            refine List.ext_getElem (by rw [blkR_len, List.length_take]; omega) ?_
            intro j hj1 hj2
            rw [blkR_len] at hj2
            rw [blkR_get number _ (i + 1) (i + 1) 0 j hj2, List.getElem_take, Nat.zero_add]
            have hcj : cntB l[j] = i + 1 := by
              unfold wholeB at hw
              rw [List.all_eq_true] at hw
              have := hw l[j] (by
                have hm2 := List.getElem_mem (l := l.take (i + 1)) (n := j) hj1
                rwa [List.getElem_take] at hm2)
              simpa using this
            by_cases hji : j = i
            · subst hji
              rw [chunk_end _ _ _ ho (by omega)]
              conv => lhs; rw [← hone]
              rw [hq]
            · obtain ⟨g1, g2⟩ := hI j (by omega) (by omega)
              rw [chunk_app _ _ _ (by omega), g2]
              have := (okB_parts g1).2.2.2.1
              conv => lhs; rw [← this]
              rw [hcj]
        · rw [if_neg hw]
      · by_cases h5 : i + 1 = 255
        · rw [ed]; exact unpF_full number l i out hl hq h5
        · rw [ed, unpF_next number l i out hl hok hq h5, show l.length - (i + 1) = d by omega]
          refine unp_norec number l hno d (i + 1) _ (by omega) (by rw [List.length_append, hdl]; omega) ?_
          intro j hj hji
          by_cases e : j = i
          · subst e
            refine ⟨hok, ?_⟩
            rw [chunk_end _ _ _ ho (by omega)]
          · obtain ⟨g1, g2⟩ := hI j hj (by omega)
            exact ⟨g1, by rw [chunk_app _ _ _ (by omega)]; exact g2⟩
    · rw [ed]; exact unpF_bad number l i out hl (by simpa using hok)
theorem unp_ok {number : Int} {l : List ByteArray} {p : ByteArray} {n : Nat} (h : Rec number l p n) : unpF number l l.length 0 [] = (p, (n : Int), 0) := by
  have := unp_rec h n 0 (by omega) h.1
  simpa using this
theorem unp_none (number : Int) (l : List ByteArray) (hno : ∀ p n, ¬ Rec number l p n) : unpF number l l.length 0 [] = badU :=
  unp_norec number l hno l.length 0 [] (by omega) (by simp) (fun j _ h => absurd h (by omega))
theorem recB_rec {number : Int} {l : List ByteArray} {i : Nat} {y : ByteArray} (hi : i < l.length) (h5 : i + 1 ≤ 255) (h : recB number l (i + 1) y = true) : Rec number l y (i + 1) := by
  unfold recB blocksF at h
  split at h
  · simp at h
  · simp only [Bool.and_eq_true, decide_eq_true_eq, blkR_len, true_and] at h
    obtain ⟨h1, h2⟩ := h
    rw [h1] at h2
    exact ⟨by omega, h5, by omega, h1, h2.symm⟩
theorem pay_none (number : Int) (l : List ByteArray) (hno : ∀ p n, ¬ Rec number l p n) : ∀ d i (out : ByteArray), i + d = l.length → payF number l d i out = (⟨#[]⟩, 0)
  | 0, i, out, hi => rfl
  | d + 1, i, out, hi => by
    have hl : i < l.length := by omega
    have ed : d + 1 = l.length - i := by omega
    by_cases h5 : i + 1 ≤ 255
    · by_cases h64 : l[i].size = 64
      · rw [ed, payF_rec number l i out hl h5 h64, if_neg (fun h => hno _ _ (recB_rec hl h5 h)), show l.length - (i + 1) = d by omega]
        exact pay_none number l hno d (i + 1) _ (by omega)
      · rw [ed]; exact payF_size number l i out hl h64
    · exact payF_full number l i _ out (by omega)
theorem pay_rec {number : Int} {l : List ByteArray} {p : ByteArray} {n : Nat} (hn0 : 0 ≤ number) (hn1 : number < 4294967295) (h : Rec number l p n) : ∀ r i (out : ByteArray), i + r = n → 0 < r → bl out = (bl p).take (49 * i) → payF number l (l.length - i) i out = (p, (n : Int))
  | 0, i, out, hi, h0, ho => absurd h0 (by omega)
  | r + 1, i, out, hi, _, ho => by
    have hl : i < l.length := by have := h.2.2.1; omega
    have hn255 := h.2.1
    obtain ⟨h1, h2, h3⟩ := rec_ok h i (by omega) hl
    obtain ⟨h64, hl49, hl0, hone, hc, hm⟩ := okB_parts h1
    have hpd : partB l[i] = datB l[i] := by unfold partB datB; rw [Nat.min_eq_left hl49]
    have e3 : bl (out ++ partB l[i]) = (bl p).take (49 * (i + 1)) := by rw [bl_append, ho, hpd, h3]; exact take_chunk _ _
    have hcn := h.2.2.2.1
    rw [payF_rec number l i out hl (by omega) h64]
    by_cases hr : r = 0
    · have hn : n = i + 1 := by omega
      have e4 : out ++ partB l[i] = p := by
        apply ba_ext
        rw [e3, List.take_of_length_le (by unfold cntL at hcn; omega)]
      rw [e4, if_pos]
      · rw [hn]
      · unfold recB blocksF
        rw [hcn, if_neg (by omega), hn, ← hn]
        simp only [Bool.true_and, blkR_len, decide_true]
        exact decide_eq_true h.2.2.2.2.symm
    · rw [if_neg]
      · exact pay_rec hn0 hn1 h r (i + 1) _ (by omega) (by omega) e3
      · intro hb
        have hR := recB_rec hl (by omega) hb
        have g1 := (rec_ok h 0 (by omega) (by omega)).2.1
        have g2 := (rec_ok hR 0 (by omega) (by omega)).2.1
        omega
theorem pay_ok {number : Int} {l : List ByteArray} {p : ByteArray} {n : Nat} (hn0 : 0 ≤ number) (hn1 : number < 4294967295) (h : Rec number l p n) : payF number l l.length 0 ⟨#[]⟩ = (p, (n : Int)) := by
  have := pay_rec hn0 hn1 h n 0 ⟨#[]⟩ (by omega) h.1 rfl
  simpa using this
end Go.Proofs.Ytckfkbmefdmedaa
namespace Go.Proofs.Ytckfkbmefdmedaa
open Go.RowKit Go.Proofs.Kq Go.Proofs.Ytckfkbmefdmedaa.Q Go.Proofs.YtckfkbmefdmedaaW.PrintWords Go
set_option linter.unusedVariables false
set_option linter.unusedSimpArgs false
theorem packs_rec (number : Int) (p : ByteArray) (c : Nat) (hc : cntL (bl p).length = c) (h1 : 0 < c) (h2 : c ≤ 255) (more : List ByteArray) : Rec number (blkR number (bl p) c 0 c ++ more) p c :=
  ⟨h1, h2, by rw [List.length_append, blkR_len]; omega, hc, by rw [List.take_left' (blkR_len _ _ _ _ _)]⟩
end Go.Proofs.Ytckfkbmefdmedaa
namespace Go.Proofs.Ytckfkbmefdmedaa
open Go.RowKit Go.Proofs.Kq Go.Proofs.Ytckfkbmefdmedaa.Q Go.Proofs.YtckfkbmefdmedaaW.PrintWords Go
set_option linter.unusedVariables false
set_option linter.unusedSimpArgs false
def Far (number : Int) (u : ByteArray) : Prop := u.size = 64 ∧ (bl u).drop 60 ≠ tagL ((number + 1) % 4294967296)
def z64 : ByteArray := ⟨(Lib.repeatL [0] 64).toArray⟩
theorem far_zero (number : Int) (ha : 0 ≤ number) (ha2 : number < 4294967295) : Far number z64 := by
  have hb : bl z64 = List.replicate 64 0 := by
    unfold z64 bl
    have := Lib.repeatL_replicate 0 1 64
    simpa using this
  refine ⟨by rw [ba_size, hb]; simp, ?_⟩
  rw [hb, List.drop_replicate]
  intro h
  have h0 : tagL 0 = List.replicate 4 0 := rfl
  have := tagL_inj ((number + 1) % 4294967296) 0 (by omega) (by omega) (by omega) (by omega) (by rw [h0]; exact h.symm)
  omega
end Go.Proofs.Ytckfkbmefdmedaa
namespace Go.Proofs.Ytckfkbmefdmedaa.Q
open Go.RowKit Go.Proofs.YtckfkbmefdmedaaW.PrintWords Go.Proofs.YtckfkbmefdmedaaW.PrintLast Go.Proofs.YtckfkbmefdmedaaW.PrintMore
attribute [local go_sem] max2_int min2_int max_two min_two max_three min_three max_four min_four   -- for this text's walks alone
set_option linter.unusedVariables false
set_option linter.unusedSimpArgs false
def journal_Records.l0 : Nat → List ByteArray → List ByteArray → Int → Option (List ByteArray × Int)
 | 0, _, _, _ => none
 | k + 1, x0, x4, x5 => if x5 < (x0.length : Int) then (if (wrap64 (x5 + 255)) < (x0.length : Int) then (if 0 ≤ x5 then (if x5 ≤ (wrap64 (x5 + 255)) then (if (wrap64 (x5 + 255)) ≤ (x0.length : Int) then ((block_Unpack.f (x4.length : Int) ((x0.take ((wrap64 (x5 + 255)) : Int).toNat).drop (x5 : Int).toNat)).bind fun bt200 => (if bt200.2.2 = 0 then (if x4.length < 8796093022208 then (journal_Records.l0 k x0 (x4 ++ [bt200.1]) (wrap64 (x5 + bt200.2.1))) else (none)) else (some (x4, x5)))) else (none)) else (none)) else (none)) else (if 0 ≤ x5 then (if x5 ≤ (x0.length : Int) then (if (x0.length : Int) ≤ (x0.length : Int) then ((block_Unpack.f (x4.length : Int) ((x0.take ((x0.length : Int) : Int).toNat).drop (x5 : Int).toNat)).bind fun bt207 => (if bt207.2.2 = 0 then (if x4.length < 8796093022208 then (journal_Records.l0 k x0 (x4 ++ [bt207.1]) (wrap64 (x5 + bt207.2.1))) else (none)) else (some (x4, x5)))) else (none)) else (none)) else (none))) else (some (x4, x5))
def journal_Records.f (k : Nat) (l0 : List ByteArray) : Option (List ByteArray × Int) := journal_Records.l0 k l0 ([] : List ByteArray) 0
set_option maxHeartbeats 8000000 in
set_option maxRecDepth 100000 in
theorem journal_Records.calls (k : Nat) (A0 : Option Addr) (c0 : Nat) (l0 : List ByteArray) (r1 : List ByteArray) (r2 : Int) (w : World) (hr0 : Kd.C Kd.string w A0 l0.length l0) (hc0 : l0.length ≤ c0) (h : journal_Records.f k l0 = some (r1, r2)) :
  Calls Try.prog 49 #[.slice A0 l0.length c0] w fun e w' => ∃ v0_ : Value, e = .returned (.tuple #[v0_, .int .i64 r2]) ∧ Kd.R Kd.string 9 w' w.heap.size (fun _ => True) v0_ r1 ∧ Below w.heap.size w w' := by
 have HR0 := Aside0.mk hr0
 have HC0 := Aside0.mk hc0
 clear hr0 hc0
 have HB := Aside0.mk (Below.refl w.heap.size w)
 have H : (journal_Records.l0 k l0 ([] : List ByteArray) 0) = some (r1, r2) := h
 clear h
 have H' := Aside0.mk H
 clear H
 go_enter Try.func49, Try.ntmps49
 go_wp2
 go_loopg [4, 5] k (fun kq v4 v5 w' => ∃ (x4_1 : List ByteArray) (x5_1 : Int), v5 = .int .i64 x5_1 ∧ Aside0 (journal_Records.l0 kq l0 x4_1 x5_1 = some (r1, r2)) ∧ Aside0 (kq ≤ k) ∧ Aside0 (Kd.R Kd.string 9 w' w.heap.size (fun _ => True) v4 x4_1) ∧ Aside0 (Below w.heap.size w w'))
 case atStart => exact ⟨(([] : List ByteArray)), (0), (by first | rfl | (simp; done) | (simp [*]; done)), H', ⟨Nat.le_refl _⟩, ⟨by first | exact Kd.R_nil _ _ _ _ _ | exact Kd.N_nil _ _ _ _ _ | exact Kd.V_nil _ _ _ _ _ | exact Kd.Q_nil _ _ _ _ _ | exact Kd.S_nil _ _ _ _ _⟩, ⟨by repeat (first | (with_reducible first | exact HB.out | apply below_alloc | apply pw_below_drewN | apply below_drew1) | exact HB.out)⟩⟩
 case round =>
  clear H'
  obtain ⟨x4_1, x5_1, rfl, HA, HK1, HO_4, HB⟩ := hrel
  cases gk with
  | zero => exact absurd HA.out (by simp [journal_Records.l0])
  | succ k1 =>
   have H := HA.out
   clear HA
   simp only [journal_Records.l0] at H
   by_cases c2 : x5_1 < (l0.length : Int)
   ·rw [if_pos c2] at H
    have c2b0 : decide (x5_1 < (l0.length : Int)) = true := decide_eq_true c2
    clear c2
    by_cases c3 : (wrap64 (x5_1 + 255)) < (l0.length : Int)
    ·rw [if_pos c3] at H
     have c3i := eq_true c3
     have c3b0 : decide ((wrap64 (x5_1 + 255)) < (l0.length : Int)) = true := decide_eq_true c3
     clear c3
     by_cases c4 : 0 ≤ x5_1
     ·rw [if_pos c4] at H
      have c4b0 := eq_true c4
      have c4b1 : decide (0 ≤ x5_1) = true := decide_eq_true c4
      clear c4
      by_cases c5 : x5_1 ≤ (wrap64 (x5_1 + 255))
      ·rw [if_pos c5] at H
       have c5b0 := eq_true c5
       have c5b1 : decide (x5_1 ≤ (wrap64 (x5_1 + 255))) = true := decide_eq_true c5
       by_cases c6 : (wrap64 (x5_1 + 255)) ≤ (l0.length : Int)
       ·rw [if_pos c6] at H
        have c6b0 := eq_true c6
        have c6b1 : decide ((wrap64 (x5_1 + 255)) ≤ (l0.length : Int)) = true := decide_eq_true c6
        replace H := Option.bind_eq_some_iff.mp H
        obtain ⟨⟨t200, t201, t202⟩, A70, H⟩ := H
        replace H : (if t202 = 0 then (if x4_1.length < 8796093022208 then (journal_Records.l0 k1 l0 (x4_1 ++ [t200]) (wrap64 (x5_1 + t201))) else (none)) else (some (x4_1, x5_1))) = some (r1, r2) := H
        have A7 := Aside0.mk A70
        clear A70
        by_cases c8 : t202 = 0
        ·rw [if_pos c8] at H
         have c8b0 : (t202 == 0) = true := beq_iff_eq.mpr c8
         have c8b1 : (t202 != 0) = false := bne_eq_false_iff_eq.mpr c8
         clear c8
         by_cases c9 : x4_1.length < 8796093022208
         ·rw [if_pos c9] at H
          have LMc9 := Aside0.mk c9
          clear c9
          obtain ⟨y203, hy203⟩ : ∃ y_ : List ByteArray, y_ = (x4_1 ++ [t200]) := ⟨_, rfl⟩
          replace H : (journal_Records.l0 k1 l0 y203 (wrap64 (x5_1 + t201))) = some (r1, r2) := by first | (rw [hy203]; with_reducible exact H) | (have H2_ := (Option.bind_some _ _).symm.trans H; rw [hy203]; with_reducible exact H2_) | (have H2_ := (Option.bind_some _ _).symm.trans H; with_reducible exact H2_) | with_reducible exact H | (rw [hy203]; exact H) | exact H
          have Ny203 := Aside0.mk hy203
          clear hy203
          have H' := Aside0.mk H
          clear H
          obtain ⟨Ao10, co10, eo10⟩ := Kd.R_slice HO_4.out
          subst eo10
          obtain ⟨i011, hi011, _, hsz11, _⟩ := info_parts info9
          obtain ⟨A11, hcut11, hA11, hC11⟩ := print_mid_of (P := Try.prog) Value.string (⟨#[]⟩ : ByteArray) 22 9 .i64 .i64 Try.underlying22 hi011 hsz11 A0 c0 l0 x5_1 (wrap64 (x5_1 + 255)) (of_decide_eq_true (by first | (with_reducible assumption) | assumption)) (by first | omega | exact of_decide_eq_true (by first | (with_reducible assumption) | assumption)) (of_decide_eq_true (by first | (with_reducible assumption) | assumption)) HC0.out
          have HR199 := Aside0.mk (Kd.C_of_reads (h1 := fun _ => rfl) (hA11 _ (Kd.reads_of_C HR0.out)))
          have HC199 := Aside0.mk hC11
          clear hA11 hC11 hi011 hsz11
          go_wp2_with (first | ((with_reducible refine gate_callee (f := 14) rfl ?_); refine goesL_ (some 24) rfl rfl Try.func14 (by kernel_rfl) rfl #[.int .i64 (x4_1.length : Int), .slice A11 ((l0.take ((wrap64 (x5_1 + 255)) : Int).toNat).drop (x5_1 : Int).toNat).length (c0 - x5_1.toNat)] rfl (by (try simp only [List.map_toArray, List.map_cons, List.map_nil]); first | done | (rw [show ((l0.take ((wrap64 (x5_1 + 255)) : Int).toNat).drop (x5_1 : Int).toNat).length = ((wrap64 (x5_1 + 255)).toNat - x5_1.toNat) from (by rw [List.length_drop, List.length_take]; have h_ : ((wrap64 (x5_1 + 255)) : Int) ≤ (l0.length : Int) := of_decide_eq_true (by first | (with_reducible assumption) | assumption); omega)] <;> rfl) | rfl | (simp only [List.length_drop, List.length_take]; rfl)) ?_; (with_reducible refine (block_Unpack.calls (x4_1.length : Int) _ _ ((l0.take ((wrap64 (x5_1 + 255)) : Int).toNat).drop (x5_1 : Int).toNat) t200 t201 t202 _ ?side1 ?side2 A7.out).mono ?_); (case side1 => repeat (first | exact (Kd.C_below HR199.out HB.out) | (with_reducible refine Kd.C_alloc ?_ _) | (with_reducible refine Kd.C_drewN ?_ _) | (with_reducible refine Kd.C_drew ?_))); (case side2 => exact HC199.out); rintro e w12 ⟨rfl, hb⟩; refine ⟨_, rfl, ?_⟩; have n0_ := Aside0.mk (Kd.R_below (by (with_reducible repeat (first | apply Kd.R_alloc | apply Kd.R_drewN | apply Kd.R_drew)); exact HO_4.out) hb); have n1_ := Aside0.mk (below_step (by repeat (first | (with_reducible first | exact HB.out | apply below_alloc | apply pw_below_drewN | apply below_drew1) | exact HB.out)) hb); clear HO_4; clear HB; have HO_4 := n0_; have HB := n1_; clear n0_ n1_; (try clear hb); (try clear hb2); (try clear hk); (try clear hi)) | ((with_reducible refine gate_builtin (b := .append) (xs := #[.tmp 30, .tmp 32]) rfl ?_); at_builtin; refine Kd.R_append Kd.string (w0 := w) w.heap.size rfl (.tmp 30) (.tmp 32) 22 9 (.string ⟨#[]⟩) 16 rfl Try.underlying22 info9 rfl (by decide) (by omega) (.slice Ao10 x4_1.length co10) x4_1 t200 [.string t200] (fun _ => True) (fun _ => False) rfl rfl ?aP (fun _ hk => hk.elim) ?aF ?aO ?aB ?aS ?aL ?_; (case aP => exact rfl); (case aB => exact (by repeat (first | (with_reducible first | exact HB.out | apply below_alloc | apply pw_below_drewN | apply below_drew1) | exact HB.out))); (case aF => exact (fun _ _ => trivial)); (case aO => exact (by (with_reducible repeat (first | apply Kd.R_alloc | apply Kd.R_drewN | apply Kd.R_drew)); exact HO_4.out)); (case aS => exact (below_size (by repeat (first | (with_reducible first | exact HB.out | apply below_alloc | apply pw_below_drewN | apply below_drew1) | exact HB.out)))); (case aL => have := LMc9.out; omega); intro v204 w13 ho hb hg hat; rw [← Ny203.out] at ho; have n0_ := Aside0.mk (hb); have n1_ := Aside0.mk (ho); clear HB; clear HO_4; have HB := n0_; have HO205 := n1_; clear n0_ n1_; clear ho hb hg hat))
          go_roundg k1
          case measure => have := HK1.out; omega
          case rel => exact ⟨(y203), (wrap64 (x5_1 + t201)), (by first | rfl | (simp; done) | (simp [*]; done)), H', ⟨by have := HK1.out; omega⟩, ⟨by (with_reducible repeat (first | apply Kd.R_alloc | apply Kd.R_drewN | apply Kd.R_drew)); exact HO205.out⟩, ⟨by repeat (first | (with_reducible first | exact HB.out | apply below_alloc | apply pw_below_drewN | apply below_drew1) | exact HB.out)⟩⟩
         ·rw [if_neg c9] at H
          exact absurd H (by simp)
        ·rw [if_neg c8] at H
         have c8b0 : (t202 == 0) = false := beq_eq_false_iff_ne.mpr c8
         have c8b1 : (t202 != 0) = true := bne_iff_ne.mpr c8
         simp only [Option.some.injEq, Prod.mk.injEq] at H
         obtain ⟨rfl, rfl⟩ := H
         obtain ⟨Ao14, co14, eo14⟩ := Kd.R_slice HO_4.out
         subst eo14
         obtain ⟨i015, hi015, _, hsz15, _⟩ := info_parts info9
         obtain ⟨A15, hcut15, hA15, hC15⟩ := print_mid_of (P := Try.prog) Value.string (⟨#[]⟩ : ByteArray) 22 9 .i64 .i64 Try.underlying22 hi015 hsz15 A0 c0 l0 x5_1 (wrap64 (x5_1 + 255)) (of_decide_eq_true (by first | (with_reducible assumption) | assumption)) (by first | omega | exact of_decide_eq_true (by first | (with_reducible assumption) | assumption)) (of_decide_eq_true (by first | (with_reducible assumption) | assumption)) HC0.out
         have HR199 := Aside0.mk (Kd.C_of_reads (h1 := fun _ => rfl) (hA15 _ (Kd.reads_of_C HR0.out)))
         have HC199 := Aside0.mk hC15
         clear hA15 hC15 hi015 hsz15
         go_wp2_with (first | ((with_reducible refine gate_callee (f := 14) rfl ?_); refine goesL_ (some 24) rfl rfl Try.func14 (by kernel_rfl) rfl #[.int .i64 (x4_1.length : Int), .slice A15 ((l0.take ((wrap64 (x5_1 + 255)) : Int).toNat).drop (x5_1 : Int).toNat).length (c0 - x5_1.toNat)] rfl (by (try simp only [List.map_toArray, List.map_cons, List.map_nil]); first | done | (rw [show ((l0.take ((wrap64 (x5_1 + 255)) : Int).toNat).drop (x5_1 : Int).toNat).length = ((wrap64 (x5_1 + 255)).toNat - x5_1.toNat) from (by rw [List.length_drop, List.length_take]; have h_ : ((wrap64 (x5_1 + 255)) : Int) ≤ (l0.length : Int) := of_decide_eq_true (by first | (with_reducible assumption) | assumption); omega)] <;> rfl) | rfl | (simp only [List.length_drop, List.length_take]; rfl)) ?_; (with_reducible refine (block_Unpack.calls (x4_1.length : Int) _ _ ((l0.take ((wrap64 (x5_1 + 255)) : Int).toNat).drop (x5_1 : Int).toNat) t200 t201 t202 _ ?side1 ?side2 A7.out).mono ?_); (case side1 => repeat (first | exact (Kd.C_below HR199.out HB.out) | (with_reducible refine Kd.C_alloc ?_ _) | (with_reducible refine Kd.C_drewN ?_ _) | (with_reducible refine Kd.C_drew ?_))); (case side2 => exact HC199.out); rintro e w16 ⟨rfl, hb⟩; refine ⟨_, rfl, ?_⟩; have n0_ := Aside0.mk (Kd.R_below (by (with_reducible repeat (first | apply Kd.R_alloc | apply Kd.R_drewN | apply Kd.R_drew)); exact HO_4.out) hb); have n1_ := Aside0.mk (below_step (by repeat (first | (with_reducible first | exact HB.out | apply below_alloc | apply pw_below_drewN | apply below_drew1) | exact HB.out)) hb); clear HO_4; clear HB; have HO_4 := n0_; have HB := n1_; clear n0_ n1_; (try clear hb); (try clear hb2); (try clear hk); (try clear hi)))
         go_ret2
         exact ⟨_, by first | rfl | (simp [errW_none, errW_some] <;> rfl) | (simp [*, errW_none, errW_some] <;> rfl), by (with_reducible repeat (first | apply Kd.R_alloc | apply Kd.R_drewN | apply Kd.R_drew)); exact HO_4.out, by repeat (first | (with_reducible first | exact HB.out | apply below_alloc | apply pw_below_drewN | apply below_drew1) | exact HB.out)⟩
       ·rw [if_neg c6] at H
        exact absurd H (by simp)
      ·rw [if_neg c5] at H
       exact absurd H (by simp)
     ·rw [if_neg c4] at H
      exact absurd H (by simp)
    ·rw [if_neg c3] at H
     have c3i := eq_false c3
     have c3b0 : decide ((wrap64 (x5_1 + 255)) < (l0.length : Int)) = false := decide_eq_false c3
     clear c3
     by_cases c17 : 0 ≤ x5_1
     ·rw [if_pos c17] at H
      have c17b0 := eq_true c17
      have c17b1 : decide (0 ≤ x5_1) = true := decide_eq_true c17
      clear c17
      by_cases c18 : x5_1 ≤ (l0.length : Int)
      ·rw [if_pos c18] at H
       have c18b0 := eq_true c18
       have c18b1 : decide (x5_1 ≤ (l0.length : Int)) = true := decide_eq_true c18
       clear c18
       by_cases c19 : (l0.length : Int) ≤ (l0.length : Int)
       ·rw [if_pos c19] at H
        have c19b0 := eq_true c19
        have c19b1 : decide ((l0.length : Int) ≤ (l0.length : Int)) = true := decide_eq_true c19
        clear c19
        replace H := Option.bind_eq_some_iff.mp H
        obtain ⟨⟨t207, t208, t209⟩, A200, H⟩ := H
        replace H : (if t209 = 0 then (if x4_1.length < 8796093022208 then (journal_Records.l0 k1 l0 (x4_1 ++ [t207]) (wrap64 (x5_1 + t208))) else (none)) else (some (x4_1, x5_1))) = some (r1, r2) := H
        have A20 := Aside0.mk A200
        clear A200
        by_cases c21 : t209 = 0
        ·rw [if_pos c21] at H
         have c21b0 : (t209 == 0) = true := beq_iff_eq.mpr c21
         have c21b1 : (t209 != 0) = false := bne_eq_false_iff_eq.mpr c21
         clear c21
         by_cases c22 : x4_1.length < 8796093022208
         ·rw [if_pos c22] at H
          have LMc22 := Aside0.mk c22
          clear c22
          obtain ⟨y210, hy210⟩ : ∃ y_ : List ByteArray, y_ = (x4_1 ++ [t207]) := ⟨_, rfl⟩
          replace H : (journal_Records.l0 k1 l0 y210 (wrap64 (x5_1 + t208))) = some (r1, r2) := by first | (rw [hy210]; with_reducible exact H) | (have H2_ := (Option.bind_some _ _).symm.trans H; rw [hy210]; with_reducible exact H2_) | (have H2_ := (Option.bind_some _ _).symm.trans H; with_reducible exact H2_) | with_reducible exact H | (rw [hy210]; exact H) | exact H
          have Ny210 := Aside0.mk hy210
          clear hy210
          have H' := Aside0.mk H
          clear H
          obtain ⟨Ao23, co23, eo23⟩ := Kd.R_slice HO_4.out
          subst eo23
          obtain ⟨i024, hi024, _, hsz24, _⟩ := info_parts info9
          obtain ⟨A24, hcut24, hA24, hC24⟩ := print_mid_of (P := Try.prog) Value.string (⟨#[]⟩ : ByteArray) 22 9 .i64 .i64 Try.underlying22 hi024 hsz24 A0 c0 l0 x5_1 (l0.length : Int) (of_decide_eq_true (by first | (with_reducible assumption) | assumption)) (by first | omega | exact of_decide_eq_true (by first | (with_reducible assumption) | assumption)) (of_decide_eq_true (by first | (with_reducible assumption) | assumption)) HC0.out
          have HR206 := Aside0.mk (Kd.C_of_reads (h1 := fun _ => rfl) (hA24 _ (Kd.reads_of_C HR0.out)))
          have HC206 := Aside0.mk hC24
          clear hA24 hC24 hi024 hsz24
          go_wp2_with (first | ((with_reducible refine gate_callee (f := 14) rfl ?_); refine goesL_ (some 24) rfl rfl Try.func14 (by kernel_rfl) rfl #[.int .i64 (x4_1.length : Int), .slice A24 ((l0.take ((l0.length : Int) : Int).toNat).drop (x5_1 : Int).toNat).length (c0 - x5_1.toNat)] rfl (by (try simp only [List.map_toArray, List.map_cons, List.map_nil]); first | done | (rw [show ((l0.take ((l0.length : Int) : Int).toNat).drop (x5_1 : Int).toNat).length = ((l0.length : Int).toNat - x5_1.toNat) from (by rw [List.length_drop, List.length_take]; have h_ : ((l0.length : Int) : Int) ≤ (l0.length : Int) := of_decide_eq_true (by first | (with_reducible assumption) | assumption); omega)] <;> rfl) | rfl | (simp only [List.length_drop, List.length_take]; rfl)) ?_; (with_reducible refine (block_Unpack.calls (x4_1.length : Int) _ _ ((l0.take ((l0.length : Int) : Int).toNat).drop (x5_1 : Int).toNat) t207 t208 t209 _ ?side1 ?side2 A20.out).mono ?_); (case side1 => repeat (first | exact (Kd.C_below HR206.out HB.out) | (with_reducible refine Kd.C_alloc ?_ _) | (with_reducible refine Kd.C_drewN ?_ _) | (with_reducible refine Kd.C_drew ?_))); (case side2 => exact HC206.out); rintro e w25 ⟨rfl, hb⟩; refine ⟨_, rfl, ?_⟩; have n0_ := Aside0.mk (Kd.R_below (by (with_reducible repeat (first | apply Kd.R_alloc | apply Kd.R_drewN | apply Kd.R_drew)); exact HO_4.out) hb); have n1_ := Aside0.mk (below_step (by repeat (first | (with_reducible first | exact HB.out | apply below_alloc | apply pw_below_drewN | apply below_drew1) | exact HB.out)) hb); clear HO_4; clear HB; have HO_4 := n0_; have HB := n1_; clear n0_ n1_; (try clear hb); (try clear hb2); (try clear hk); (try clear hi)) | ((with_reducible refine gate_builtin (b := .append) (xs := #[.tmp 30, .tmp 32]) rfl ?_); at_builtin; refine Kd.R_append Kd.string (w0 := w) w.heap.size rfl (.tmp 30) (.tmp 32) 22 9 (.string ⟨#[]⟩) 16 rfl Try.underlying22 info9 rfl (by decide) (by omega) (.slice Ao23 x4_1.length co23) x4_1 t207 [.string t207] (fun _ => True) (fun _ => False) rfl rfl ?aP (fun _ hk => hk.elim) ?aF ?aO ?aB ?aS ?aL ?_; (case aP => exact rfl); (case aB => exact (by repeat (first | (with_reducible first | exact HB.out | apply below_alloc | apply pw_below_drewN | apply below_drew1) | exact HB.out))); (case aF => exact (fun _ _ => trivial)); (case aO => exact (by (with_reducible repeat (first | apply Kd.R_alloc | apply Kd.R_drewN | apply Kd.R_drew)); exact HO_4.out)); (case aS => exact (below_size (by repeat (first | (with_reducible first | exact HB.out | apply below_alloc | apply pw_below_drewN | apply below_drew1) | exact HB.out)))); (case aL => have := LMc22.out; omega); intro v211 w26 ho hb hg hat; rw [← Ny210.out] at ho; have n0_ := Aside0.mk (hb); have n1_ := Aside0.mk (ho); clear HB; clear HO_4; have HB := n0_; have HO212 := n1_; clear n0_ n1_; clear ho hb hg hat))
          go_roundg k1
          case measure => have := HK1.out; omega
          case rel => exact ⟨(y210), (wrap64 (x5_1 + t208)), (by first | rfl | (simp; done) | (simp [*]; done)), H', ⟨by have := HK1.out; omega⟩, ⟨by (with_reducible repeat (first | apply Kd.R_alloc | apply Kd.R_drewN | apply Kd.R_drew)); exact HO212.out⟩, ⟨by repeat (first | (with_reducible first | exact HB.out | apply below_alloc | apply pw_below_drewN | apply below_drew1) | exact HB.out)⟩⟩
         ·rw [if_neg c22] at H
          exact absurd H (by simp)
        ·rw [if_neg c21] at H
         have c21b0 : (t209 == 0) = false := beq_eq_false_iff_ne.mpr c21
         have c21b1 : (t209 != 0) = true := bne_iff_ne.mpr c21
         simp only [Option.some.injEq, Prod.mk.injEq] at H
         obtain ⟨rfl, rfl⟩ := H
         obtain ⟨Ao27, co27, eo27⟩ := Kd.R_slice HO_4.out
         subst eo27
         obtain ⟨i028, hi028, _, hsz28, _⟩ := info_parts info9
         obtain ⟨A28, hcut28, hA28, hC28⟩ := print_mid_of (P := Try.prog) Value.string (⟨#[]⟩ : ByteArray) 22 9 .i64 .i64 Try.underlying22 hi028 hsz28 A0 c0 l0 x5_1 (l0.length : Int) (of_decide_eq_true (by first | (with_reducible assumption) | assumption)) (by first | omega | exact of_decide_eq_true (by first | (with_reducible assumption) | assumption)) (of_decide_eq_true (by first | (with_reducible assumption) | assumption)) HC0.out
         have HR206 := Aside0.mk (Kd.C_of_reads (h1 := fun _ => rfl) (hA28 _ (Kd.reads_of_C HR0.out)))
         have HC206 := Aside0.mk hC28
         clear hA28 hC28 hi028 hsz28
         go_wp2_with (first | ((with_reducible refine gate_callee (f := 14) rfl ?_); refine goesL_ (some 24) rfl rfl Try.func14 (by kernel_rfl) rfl #[.int .i64 (x4_1.length : Int), .slice A28 ((l0.take ((l0.length : Int) : Int).toNat).drop (x5_1 : Int).toNat).length (c0 - x5_1.toNat)] rfl (by (try simp only [List.map_toArray, List.map_cons, List.map_nil]); first | done | (rw [show ((l0.take ((l0.length : Int) : Int).toNat).drop (x5_1 : Int).toNat).length = ((l0.length : Int).toNat - x5_1.toNat) from (by rw [List.length_drop, List.length_take]; have h_ : ((l0.length : Int) : Int) ≤ (l0.length : Int) := of_decide_eq_true (by first | (with_reducible assumption) | assumption); omega)] <;> rfl) | rfl | (simp only [List.length_drop, List.length_take]; rfl)) ?_; (with_reducible refine (block_Unpack.calls (x4_1.length : Int) _ _ ((l0.take ((l0.length : Int) : Int).toNat).drop (x5_1 : Int).toNat) t207 t208 t209 _ ?side1 ?side2 A20.out).mono ?_); (case side1 => repeat (first | exact (Kd.C_below HR206.out HB.out) | (with_reducible refine Kd.C_alloc ?_ _) | (with_reducible refine Kd.C_drewN ?_ _) | (with_reducible refine Kd.C_drew ?_))); (case side2 => exact HC206.out); rintro e w29 ⟨rfl, hb⟩; refine ⟨_, rfl, ?_⟩; have n0_ := Aside0.mk (Kd.R_below (by (with_reducible repeat (first | apply Kd.R_alloc | apply Kd.R_drewN | apply Kd.R_drew)); exact HO_4.out) hb); have n1_ := Aside0.mk (below_step (by repeat (first | (with_reducible first | exact HB.out | apply below_alloc | apply pw_below_drewN | apply below_drew1) | exact HB.out)) hb); clear HO_4; clear HB; have HO_4 := n0_; have HB := n1_; clear n0_ n1_; (try clear hb); (try clear hb2); (try clear hk); (try clear hi)))
         go_ret2
         exact ⟨_, by first | rfl | (simp [errW_none, errW_some] <;> rfl) | (simp [*, errW_none, errW_some] <;> rfl), by (with_reducible repeat (first | apply Kd.R_alloc | apply Kd.R_drewN | apply Kd.R_drew)); exact HO_4.out, by repeat (first | (with_reducible first | exact HB.out | apply below_alloc | apply pw_below_drewN | apply below_drew1) | exact HB.out)⟩
       ·rw [if_neg c19] at H
        exact absurd H (by simp)
      ·rw [if_neg c18] at H
       exact absurd H (by simp)
     ·rw [if_neg c17] at H
      exact absurd H (by simp)
   ·rw [if_neg c2] at H
    have c2b0 : decide (x5_1 < (l0.length : Int)) = false := decide_eq_false c2
    clear c2
    simp only [Option.some.injEq, Prod.mk.injEq] at H
    obtain ⟨rfl, rfl⟩ := H
    go_wp2
    go_ret2
    exact ⟨_, by first | rfl | (simp [errW_none, errW_some] <;> rfl) | (simp [*, errW_none, errW_some] <;> rfl), by (with_reducible repeat (first | apply Kd.R_alloc | apply Kd.R_drewN | apply Kd.R_drew)); exact HO_4.out, by repeat (first | (with_reducible first | exact HB.out | apply below_alloc | apply pw_below_drewN | apply below_drew1) | exact HB.out)⟩
end Go.Proofs.Ytckfkbmefdmedaa.Q
namespace Go.Proofs.Ytckfkbmefdmedaa.Q
open Go.RowKit Go.Proofs.YtckfkbmefdmedaaW.PrintWords Go.Proofs.YtckfkbmefdmedaaW.PrintLast Go.Proofs.YtckfkbmefdmedaaW.PrintMore
attribute [local go_sem] max2_int min2_int max_two min_two max_three min_three max_four min_four   -- for this text's walks alone
set_option linter.unusedVariables false
set_option linter.unusedSimpArgs false
def soukref05_Records.l0 : Nat → List ByteArray → List ByteArray → Int → Option (List ByteArray × Int)
 | 0, _, _, _ => none
 | k + 1, x0, x4, x5 => if x5 < (x0.length : Int) then (if 0 ≤ x5 then (if x5 ≤ (x0.length : Int) then ((soukref03_Payload.f (x4.length : Int) (x0.drop (x5 : Int).toNat)).bind fun bt215 => (if bt215.2 = 0 then (some (x4, x5)) else (if x4.length < 8796093022208 then (soukref05_Records.l0 k x0 (x4 ++ [bt215.1]) (wrap64 (x5 + bt215.2))) else (none)))) else (none)) else (none)) else (some (x4, x5))
def soukref05_Records.f (k : Nat) (l0 : List ByteArray) : Option (List ByteArray × Int) := soukref05_Records.l0 k l0 ([] : List ByteArray) 0
set_option maxHeartbeats 8000000 in
set_option maxRecDepth 100000 in
theorem soukref05_Records.calls (k : Nat) (A0 : Option Addr) (c0 : Nat) (l0 : List ByteArray) (r1 : List ByteArray) (r2 : Int) (w : World) (hr0 : Kd.C Kd.string w A0 l0.length l0) (hc0 : l0.length ≤ c0) (h : soukref05_Records.f k l0 = some (r1, r2)) :
  Calls Try.prog 50 #[.slice A0 l0.length c0] w fun e w' => ∃ v0_ : Value, e = .returned (.tuple #[v0_, .int .i64 r2]) ∧ Kd.R Kd.string 9 w' w.heap.size (fun _ => True) v0_ r1 ∧ Below w.heap.size w w' := by
 have HR0 := Aside0.mk hr0
 have HC0 := Aside0.mk hc0
 clear hr0 hc0
 have HB := Aside0.mk (Below.refl w.heap.size w)
 have H : (soukref05_Records.l0 k l0 ([] : List ByteArray) 0) = some (r1, r2) := h
 clear h
 have H' := Aside0.mk H
 clear H
 go_enter Try.func50, Try.ntmps50
 go_wp2
 go_loopg [4, 5] k (fun kq v4 v5 w' => ∃ (x4_1 : List ByteArray) (x5_1 : Int), v5 = .int .i64 x5_1 ∧ Aside0 (soukref05_Records.l0 kq l0 x4_1 x5_1 = some (r1, r2)) ∧ Aside0 (kq ≤ k) ∧ Aside0 (Kd.R Kd.string 9 w' w.heap.size (fun _ => True) v4 x4_1) ∧ Aside0 (Below w.heap.size w w'))
 case atStart => exact ⟨(([] : List ByteArray)), (0), (by first | rfl | (simp; done) | (simp [*]; done)), H', ⟨Nat.le_refl _⟩, ⟨by first | exact Kd.R_nil _ _ _ _ _ | exact Kd.N_nil _ _ _ _ _ | exact Kd.V_nil _ _ _ _ _ | exact Kd.Q_nil _ _ _ _ _ | exact Kd.S_nil _ _ _ _ _⟩, ⟨by repeat (first | (with_reducible first | exact HB.out | apply below_alloc | apply pw_below_drewN | apply below_drew1) | exact HB.out)⟩⟩
 case round =>
  clear H'
  obtain ⟨x4_1, x5_1, rfl, HA, HK1, HO_4, HB⟩ := hrel
  cases gk with
  | zero => exact absurd HA.out (by simp [soukref05_Records.l0])
  | succ k1 =>
   have H := HA.out
   clear HA
   simp only [soukref05_Records.l0] at H
   by_cases c2 : x5_1 < (l0.length : Int)
   ·rw [if_pos c2] at H
    have c2b0 : decide (x5_1 < (l0.length : Int)) = true := decide_eq_true c2
    clear c2
    by_cases c3 : 0 ≤ x5_1
    ·rw [if_pos c3] at H
     have c3b0 := eq_true c3
     have c3b1 : decide (0 ≤ x5_1) = true := decide_eq_true c3
     clear c3
     by_cases c4 : x5_1 ≤ (l0.length : Int)
     ·rw [if_pos c4] at H
      have c4b0 := eq_true c4
      have c4b1 : decide (x5_1 ≤ (l0.length : Int)) = true := decide_eq_true c4
      clear c4
      replace H := Option.bind_eq_some_iff.mp H
      obtain ⟨⟨t215, t216⟩, A50, H⟩ := H
      replace H : (if t216 = 0 then (some (x4_1, x5_1)) else (if x4_1.length < 8796093022208 then (soukref05_Records.l0 k1 l0 (x4_1 ++ [t215]) (wrap64 (x5_1 + t216))) else (none))) = some (r1, r2) := H
      have A5 := Aside0.mk A50
      clear A50
      by_cases c6 : t216 = 0
      ·rw [if_pos c6] at H
       have c6b0 : (t216 == 0) = true := beq_iff_eq.mpr c6
       have c6b1 : (t216 != 0) = false := bne_eq_false_iff_eq.mpr c6
       clear c6
       simp only [Option.some.injEq, Prod.mk.injEq] at H
       obtain ⟨rfl, rfl⟩ := H
       obtain ⟨Ao7, co7, eo7⟩ := Kd.R_slice HO_4.out
       subst eo7
       obtain ⟨i08, hi08, _, hsz8, _⟩ := info_parts info9
       obtain ⟨A8, hcut8, hA8, hC8⟩ := print_drop_of (P := Try.prog) Value.string (⟨#[]⟩ : ByteArray) 22 9 .i64 Try.underlying22 hi08 hsz8 A0 c0 l0 x5_1 (of_decide_eq_true (by first | (with_reducible assumption) | assumption)) (of_decide_eq_true (by first | (with_reducible assumption) | assumption)) HC0.out
       have HR214 := Aside0.mk (Kd.C_of_reads (h1 := fun _ => rfl) (hA8 _ (Kd.reads_of_C HR0.out)))
       have HC214 := Aside0.mk hC8
       clear hA8 hC8 hi08 hsz8
       go_wp2_with (first | ((with_reducible refine gate_callee (f := 15) rfl ?_); refine goesL_ (some 18) rfl rfl Try.func15 (by kernel_rfl) rfl #[.int .i64 (x4_1.length : Int), .slice A8 (l0.drop (x5_1 : Int).toNat).length (c0 - x5_1.toNat)] rfl (by (try simp only [List.map_toArray, List.map_cons, List.map_nil]); first | done | (rw [show (l0.drop (x5_1 : Int).toNat).length = (l0.length - x5_1.toNat) from List.length_drop] <;> rfl) | rfl | (simp only [List.length_drop, List.length_take]; rfl)) ?_; (with_reducible refine (soukref03_Payload.calls (x4_1.length : Int) _ _ (l0.drop (x5_1 : Int).toNat) t215 t216 _ ?side1 ?side2 A5.out).mono ?_); (case side1 => repeat (first | exact (Kd.C_below HR214.out HB.out) | (with_reducible refine Kd.C_alloc ?_ _) | (with_reducible refine Kd.C_drewN ?_ _) | (with_reducible refine Kd.C_drew ?_))); (case side2 => exact HC214.out); rintro e w9 ⟨rfl, hb⟩; refine ⟨_, rfl, ?_⟩; have n0_ := Aside0.mk (Kd.R_below (by (with_reducible repeat (first | apply Kd.R_alloc | apply Kd.R_drewN | apply Kd.R_drew)); exact HO_4.out) hb); have n1_ := Aside0.mk (below_step (by repeat (first | (with_reducible first | exact HB.out | apply below_alloc | apply pw_below_drewN | apply below_drew1) | exact HB.out)) hb); clear HO_4; clear HB; have HO_4 := n0_; have HB := n1_; clear n0_ n1_; (try clear hb); (try clear hb2); (try clear hk); (try clear hi)))
       go_ret2
       exact ⟨_, by first | rfl | (simp [errW_none, errW_some] <;> rfl) | (simp [*, errW_none, errW_some] <;> rfl), by (with_reducible repeat (first | apply Kd.R_alloc | apply Kd.R_drewN | apply Kd.R_drew)); exact HO_4.out, by repeat (first | (with_reducible first | exact HB.out | apply below_alloc | apply pw_below_drewN | apply below_drew1) | exact HB.out)⟩
      ·rw [if_neg c6] at H
       have c6b0 : (t216 == 0) = false := beq_eq_false_iff_ne.mpr c6
       have c6b1 : (t216 != 0) = true := bne_iff_ne.mpr c6
       by_cases c10 : x4_1.length < 8796093022208
       ·rw [if_pos c10] at H
        have LMc10 := Aside0.mk c10
        clear c10
        obtain ⟨y217, hy217⟩ : ∃ y_ : List ByteArray, y_ = (x4_1 ++ [t215]) := ⟨_, rfl⟩
        replace H : (soukref05_Records.l0 k1 l0 y217 (wrap64 (x5_1 + t216))) = some (r1, r2) := by first | (rw [hy217]; with_reducible exact H) | (have H2_ := (Option.bind_some _ _).symm.trans H; rw [hy217]; with_reducible exact H2_) | (have H2_ := (Option.bind_some _ _).symm.trans H; with_reducible exact H2_) | with_reducible exact H | (rw [hy217]; exact H) | exact H
        have Ny217 := Aside0.mk hy217
        clear hy217
        have H' := Aside0.mk H
        clear H
        obtain ⟨Ao11, co11, eo11⟩ := Kd.R_slice HO_4.out
        subst eo11
        obtain ⟨i012, hi012, _, hsz12, _⟩ := info_parts info9
        obtain ⟨A12, hcut12, hA12, hC12⟩ := print_drop_of (P := Try.prog) Value.string (⟨#[]⟩ : ByteArray) 22 9 .i64 Try.underlying22 hi012 hsz12 A0 c0 l0 x5_1 (of_decide_eq_true (by first | (with_reducible assumption) | assumption)) (of_decide_eq_true (by first | (with_reducible assumption) | assumption)) HC0.out
        have HR214 := Aside0.mk (Kd.C_of_reads (h1 := fun _ => rfl) (hA12 _ (Kd.reads_of_C HR0.out)))
        have HC214 := Aside0.mk hC12
        clear hA12 hC12 hi012 hsz12
        go_wp2_with (first | ((with_reducible refine gate_callee (f := 15) rfl ?_); refine goesL_ (some 18) rfl rfl Try.func15 (by kernel_rfl) rfl #[.int .i64 (x4_1.length : Int), .slice A12 (l0.drop (x5_1 : Int).toNat).length (c0 - x5_1.toNat)] rfl (by (try simp only [List.map_toArray, List.map_cons, List.map_nil]); first | done | (rw [show (l0.drop (x5_1 : Int).toNat).length = (l0.length - x5_1.toNat) from List.length_drop] <;> rfl) | rfl | (simp only [List.length_drop, List.length_take]; rfl)) ?_; (with_reducible refine (soukref03_Payload.calls (x4_1.length : Int) _ _ (l0.drop (x5_1 : Int).toNat) t215 t216 _ ?side1 ?side2 A5.out).mono ?_); (case side1 => repeat (first | exact (Kd.C_below HR214.out HB.out) | (with_reducible refine Kd.C_alloc ?_ _) | (with_reducible refine Kd.C_drewN ?_ _) | (with_reducible refine Kd.C_drew ?_))); (case side2 => exact HC214.out); rintro e w13 ⟨rfl, hb⟩; refine ⟨_, rfl, ?_⟩; have n0_ := Aside0.mk (Kd.R_below (by (with_reducible repeat (first | apply Kd.R_alloc | apply Kd.R_drewN | apply Kd.R_drew)); exact HO_4.out) hb); have n1_ := Aside0.mk (below_step (by repeat (first | (with_reducible first | exact HB.out | apply below_alloc | apply pw_below_drewN | apply below_drew1) | exact HB.out)) hb); clear HO_4; clear HB; have HO_4 := n0_; have HB := n1_; clear n0_ n1_; (try clear hb); (try clear hb2); (try clear hk); (try clear hi)) | ((with_reducible refine gate_builtin (b := .append) (xs := #[.tmp 23, .tmp 25]) rfl ?_); at_builtin; refine Kd.R_append Kd.string (w0 := w) w.heap.size rfl (.tmp 23) (.tmp 25) 22 9 (.string ⟨#[]⟩) 16 rfl Try.underlying22 info9 rfl (by decide) (by omega) (.slice Ao11 x4_1.length co11) x4_1 t215 [.string t215] (fun _ => True) (fun _ => False) rfl rfl ?aP (fun _ hk => hk.elim) ?aF ?aO ?aB ?aS ?aL ?_; (case aP => exact rfl); (case aB => exact (by repeat (first | (with_reducible first | exact HB.out | apply below_alloc | apply pw_below_drewN | apply below_drew1) | exact HB.out))); (case aF => exact (fun _ _ => trivial)); (case aO => exact (by (with_reducible repeat (first | apply Kd.R_alloc | apply Kd.R_drewN | apply Kd.R_drew)); exact HO_4.out)); (case aS => exact (below_size (by repeat (first | (with_reducible first | exact HB.out | apply below_alloc | apply pw_below_drewN | apply below_drew1) | exact HB.out)))); (case aL => have := LMc10.out; omega); intro v218 w14 ho hb hg hat; rw [← Ny217.out] at ho; have n0_ := Aside0.mk (hb); have n1_ := Aside0.mk (ho); clear HB; clear HO_4; have HB := n0_; have HO219 := n1_; clear n0_ n1_; clear ho hb hg hat))
        go_roundg k1
        case measure => have := HK1.out; omega
        case rel => exact ⟨(y217), (wrap64 (x5_1 + t216)), (by first | rfl | (simp; done) | (simp [*]; done)), H', ⟨by have := HK1.out; omega⟩, ⟨by (with_reducible repeat (first | apply Kd.R_alloc | apply Kd.R_drewN | apply Kd.R_drew)); exact HO219.out⟩, ⟨by repeat (first | (with_reducible first | exact HB.out | apply below_alloc | apply pw_below_drewN | apply below_drew1) | exact HB.out)⟩⟩
       ·rw [if_neg c10] at H
        exact absurd H (by simp)
     ·rw [if_neg c4] at H
      exact absurd H (by simp)
    ·rw [if_neg c3] at H
     exact absurd H (by simp)
   ·rw [if_neg c2] at H
    have c2b0 : decide (x5_1 < (l0.length : Int)) = false := decide_eq_false c2
    clear c2
    simp only [Option.some.injEq, Prod.mk.injEq] at H
    obtain ⟨rfl, rfl⟩ := H
    go_wp2
    go_ret2
    exact ⟨_, by first | rfl | (simp [errW_none, errW_some] <;> rfl) | (simp [*, errW_none, errW_some] <;> rfl), by (with_reducible repeat (first | apply Kd.R_alloc | apply Kd.R_drewN | apply Kd.R_drew)); exact HO_4.out, by repeat (first | (with_reducible first | exact HB.out | apply below_alloc | apply pw_below_drewN | apply below_drew1) | exact HB.out)⟩
end Go.Proofs.Ytckfkbmefdmedaa.Q
namespace Go.Proofs.Ytckfkbmefdmedaa
open Go.RowKit Go.Proofs.YtckfkbmefdmedaaW.PrintWords Go.Proofs.YtckfkbmefdmedaaW.PrintLast
set_option linter.unusedVariables false
set_option linter.unusedSimpArgs false
open Go.Proofs.Kq (Reads wpList_append_any)
theorem info9s : (Try.prog.info? 9).map (fun i => (i.zero, i.size, i.bytes)) = some (some (.string ⟨#[]⟩), 1, 16) := by kernel_rfl
end Go.Proofs.Ytckfkbmefdmedaa
namespace Go.Proofs.Ytckfkbmefdmedaa
open Go.RowKit Go.Proofs.Kq Go.Proofs.YtckfkbmefdmedaaW.PrintLast
open Go.Proofs.YtckfkbmefdmedaaW.PrintWords (pw_cell_below Kd Kd.C Kd.C_below Kd.R Kd.R_of_own Kd.R_reads encs encs_length)
set_option linter.unusedVariables false
set_option linter.unusedSimpArgs false
def OwnS (w : World) (base : Nat) (v : Value) (xs : List ByteArray) : Prop := w.ownsRow base 9 1 v xs.length (encs Value.string xs)
theorem own_base {w : World} {base : Nat} {v : Value} {xs : List ByteArray} (h : OwnS w base v xs) {k : Nat} (hk : v.ownBlock = some k) : base ≤ k := by
  rcases h.2 with ⟨rfl, _⟩ | ⟨g, cap, cur, rfl, hg, _⟩
  · cases hk
  · cases hk; exact hg
end Go.Proofs.Ytckfkbmefdmedaa
namespace Go.Proofs.Ytckfkbmefdmedaa
open Go.RowKit Go.Proofs.Kq
open Go.Proofs.YtckfkbmefdmedaaW.PrintWords (pw_cell_below Kd Kd.C Kd.C_below)
set_option linter.unusedVariables false
set_option linter.unusedSimpArgs false
structure Wr where
  at_ : Int
  data : ByteArray
def Wr.l (p : Wr) : List Value := [.int .i64 p.at_, .string p.data]
def sl (s : ByteArray) : List Value := [.string s]
theorem sl_len (s : ByteArray) : (sl s).length = 1 := rfl
theorem sl_one (s : ByteArray) : ∀ u ∈ sl s, u.oneCell' = true := by intro u hu; rcases List.mem_singleton.1 hu with rfl; rfl
theorem wr_len (p : Wr) : p.l.length = 2 := rfl
abbrev Strs (w : World) (base : Nat) (v : Value) (bs : List ByteArray) : Prop := Go.Proofs.Kq.Own sl 1 9 w base v bs
abbrev Wrs (w : World) (base : Nat) (v : Value) (ps : List Wr) : Prop := Go.Proofs.Kq.Own Wr.l 2 135 w base v ps
structure Dt (w : World) (base d : Nat) (v1 v2 : Value) (bs : List ByteArray) (ps : List Wr) (fuse : Int) (dead : Bool) : Prop where
  blk : Blk w d #[v1, v2, .int .i64 fuse, .bool dead] 132
  own : Strs w base v1 bs
  pend : Wrs w base v2 ps
theorem Dt.below {w w1 : World} {base d : Nat} {v1 v2 : Value} {bs : List ByteArray} {ps : List Wr} {fuse : Int} {dead : Bool} (h : Dt w base d v1 v2 bs ps fuse dead) (hb : Below w.heap.size w w1) : Dt w1 base d v1 v2 bs ps fuse dead :=
  ⟨h.blk.be hb, h.own.below hb, h.pend.below hb⟩
def DS (d : Nat) (v1 v2 : Value) : Nat → Prop := fun k => k = d ∨ v1.ownBlock = some k ∨ v2.ownBlock = some k
theorem Dt.fr {S : Nat → Prop} {w w1 : World} {base d : Nat} {v1 v2 : Value} {bs : List ByteArray} {ps : List Wr} {fuse : Int} {dead : Bool} (h : Dt w base d v1 v2 bs ps fuse dead) (hf : Fr S w w1) (hS : ∀ k, DS d v1 v2 k → ¬ S k) : Dt w1 base d v1 v2 bs ps fuse dead :=
  ⟨hf.blk h.blk (hS d (.inl rfl)), h.own.fr hf (fun k hk => hS k (.inr (.inl hk))), h.pend.fr hf (fun k hk => hS k (.inr (.inr hk)))⟩
def usF (n : Nat) (dead : Bool) (at_ : Int) : Int := if dead = true then 7 else if at_ < 0 ∨ (n : Int) ≤ at_ then 8 else 0
def UsP (n : Nat) (dead : Bool) (at_ : Int) (w : World) (e : Ending) (w' : World) : Prop := e = .returned (.int .i64 (usF n dead at_)) ∧ w' = w
set_option maxHeartbeats 1000000 in
theorem usable_any (base d : Nat) (v1 v2 : Value) (bs : List ByteArray) (ps : List Wr) (fuse : Int) (dead : Bool) (at_ : Int) (w : World) (h : Dt w base d v1 v2 bs ps fuse dead) :
    Calls Try.prog 78 #[.pointer (some ⟨d, 0, none⟩), .int .i64 at_] w (UsP bs.length dead at_ w) := by
  obtain ⟨A, c, rfl, _⟩ := h.own.slice_
  have c0 := h.blk.c; have l0 := h.blk.lt; have f0 := h.blk.f
  cases dead
  · have hfin : Hid (UsP bs.length false at_ w (.returned (.int .i64 (if at_ < 0 ∨ (bs.length : Int) ≤ at_ then 8 else 0))) w) := hidI ⟨rfl, rfl⟩
    clear h
    by_cases h1 : at_ < 0
    · rw [if_pos (.inl h1)] at hfin
      have g1 : decide (at_ < 0) = true := decide_eq_true h1
      go_enter Try.func78, Try.ntmps78
      go_wp2
      go_ret
      exact hfin.out
    · have g1 : decide (at_ < 0) = false := decide_eq_false h1
      by_cases h2 : (bs.length : Int) ≤ at_
      · rw [if_pos (.inr h2)] at hfin
        have g2 : decide ((bs.length : Int) ≤ at_) = true := decide_eq_true h2
        go_enter Try.func78, Try.ntmps78
        go_wp2
        go_ret
        exact hfin.out
      · rw [if_neg (by omega)] at hfin
        have g2 : decide ((bs.length : Int) ≤ at_) = false := decide_eq_false h2
        go_enter Try.func78, Try.ntmps78
        go_wp2
        go_ret
        exact hfin.out
  · have hfin : Hid (UsP bs.length true at_ w (.returned (.int .i64 7)) w) := hidI ⟨rfl, rfl⟩
    clear h
    go_enter Try.func78, Try.ntmps78
    go_wp2
    go_ret
    exact hfin.out
def thF (fuse : Int) (dead : Bool) : Bool := !(decide (fuse = 0) || dead)
def thN (fuse : Int) : Int := if 0 < fuse then fuse - 1 else fuse
def ThP (base d : Nat) (v1 v2 : Value) (bs : List ByteArray) (ps : List Wr) (fuse : Int) (dead : Bool) (w : World) (e : Ending) (w' : World) : Prop :=
  e = .returned (.bool (thF fuse dead)) ∧ Dt w' base d v1 v2 bs ps (thN fuse) (decide (fuse = 0) || dead) ∧ Fr (fun k => k = d) w w'
theorem Dt.st {w : World} {base d : Nat} {v1 v2 : Value} {bs : List ByteArray} {ps : List Wr} {fuse : Int} {dead : Bool} (h : Dt w base d v1 v2 bs ps fuse dead) :
    (∀ f2 : Int, Dt (w.setCell ⟨d, 2, none⟩ (.int .i64 f2)) base d v1 v2 bs ps f2 dead) ∧ (∀ b2 : Bool, Dt (w.setCell ⟨d, 3, none⟩ (.bool b2)) base d v1 v2 bs ps fuse b2) := by
  have n1 : v1.ownBlock ≠ some d := h.own.ne h.blk (by decide)
  have n2 : v2.ownBlock ≠ some d := h.pend.ne h.blk (by decide)
  exact ⟨fun f2 => ⟨h.blk.st 2 _, h.own.far (p := ⟨d, 2, none⟩) n1 _, h.pend.far (p := ⟨d, 2, none⟩) n2 _⟩, fun b2 => ⟨h.blk.st 3 _, h.own.far (p := ⟨d, 3, none⟩) n1 _, h.pend.far (p := ⟨d, 3, none⟩) n2 _⟩⟩
set_option maxHeartbeats 1000000 in
theorem thing_any (base d : Nat) (v1 v2 : Value) (bs : List ByteArray) (ps : List Wr) (fuse : Int) (dead : Bool) (w : World) (h : Dt w base d v1 v2 bs ps fuse dead) (hf : -9223372036854775808 ≤ fuse ∧ fuse ≤ 9223372036854775807) :
    Calls Try.prog 79 #[.pointer (some ⟨d, 0, none⟩)] w (ThP base d v1 v2 bs ps fuse dead w) := by
  have c0 := h.blk.c; have l0 := h.blk.lt; have f0 := h.blk.f
  by_cases h0 : fuse = 0
  · have hfin : Hid (ThP base d v1 v2 bs ps fuse dead w (.returned (.bool false)) (w.setCell ⟨d, 3, none⟩ (.bool true))) := hidI (by
      subst h0
      exact ⟨rfl, h.st.2 true, (Fr.refl (fun k => k = d) w).setCell (fun _ => rfl) _⟩)
    subst h0
    clear h
    go_enter Try.func79, Try.ntmps79
    go_wp2
    go_ret
    exact hfin.out
  · have g0 : (fuse == 0) = false := beq_eq_false_iff_ne.mpr h0
    by_cases h1 : 0 < fuse
    · have g1 : decide (0 < fuse) = true := decide_eq_true h1
      have hfin : Hid (ThP base d v1 v2 bs ps fuse dead w (.returned (.bool (!dead))) (w.setCell ⟨d, 2, none⟩ (.int .i64 (fuse - 1)))) := hidI (by
        refine ⟨by unfold thF; rw [decide_eq_false h0, Bool.false_or], ?_, (Fr.refl (fun k => k = d) w).setCell (fun _ => rfl) _⟩
        rw [decide_eq_false h0, Bool.false_or]
        unfold thN
        rw [if_pos h1]
        exact h.st.1 (fuse - 1))
      clear h
      go_enter Try.func79, Try.ntmps79
      go_wp2
      go_ret
      exact hfin.out
    · have g1 : decide (0 < fuse) = false := decide_eq_false h1
      have hfin : Hid (ThP base d v1 v2 bs ps fuse dead w (.returned (.bool (!dead))) w) := hidI (by
        refine ⟨by unfold thF; rw [decide_eq_false h0, Bool.false_or], ?_, Fr.refl _ _⟩
        rw [decide_eq_false h0, Bool.false_or]
        unfold thN
        rw [if_neg h1]
        exact h)
      clear h
      go_enter Try.func79, Try.ntmps79
      go_wp2
      go_ret
      exact hfin.out
end Go.Proofs.Ytckfkbmefdmedaa
namespace Go.Proofs.Ytckfkbmefdmedaa
open Go.RowKit Go.Proofs.Kq
open Go.Proofs.YtckfkbmefdmedaaW.PrintWords (pw_cell_below Kd Kd.C Kd.C_below)
set_option linter.unusedVariables false
set_option linter.unusedSimpArgs false
structure DkS where
  bs : List ByteArray
  ps : List Wr
  fuse : Int
  dead : Bool
abbrev DT (w : World) (base d : Nat) (v1 v2 : Value) (s : DkS) : Prop := Dt w base d v1 v2 s.bs s.ps s.fuse s.dead
def MuP (base d : Nat) (v1 v2 : Value) (r : Ending) (s : DkS) (w : World) (e : Ending) (w' : World) : Prop :=
  e = r ∧ ∃ v2', DT w' base d v1 v2' s ∧ Fr (DS d v1 v2) w w' ∧ ∀ k, DS d v1 v2' k → DS d v1 v2 k ∨ w.heap.size ≤ k
def wrS (s : DkS) (at_ : Int) (data : ByteArray) : Int × DkS :=
  if usF s.bs.length s.dead at_ = 0 then
    (if data.size = 64 then (if thF s.fuse s.dead = true then 0 else 7, ⟨s.bs, s.ps ++ [⟨at_, data⟩], thN s.fuse, decide (s.fuse = 0) || s.dead⟩) else (1, s))
  else (usF s.bs.length s.dead at_, s)
theorem info135 : (Try.prog.info? 135).map (fun i => (i.zero, i.size, i.bytes)) = some (some (.agg #[.int .i64 0, .string ⟨#[]⟩]), 2, 24) := by kernel_rfl
theorem MuP.same {base d : Nat} {v1 v2 : Value} {r : Ending} {s : DkS} {w : World} (h : DT w base d v1 v2 s) : MuP base d v1 v2 r s w r w := ⟨rfl, v2, h, Fr.refl _ _, fun k hk => .inl hk⟩
set_option maxHeartbeats 2000000 in
set_option maxRecDepth 100000 in
theorem write_any (base d : Nat) (v1 v2 : Value) (s : DkS) (at_ : Int) (data : ByteArray) (w : World) (h : DT w base d v1 v2 s) (hb : base ≤ w.heap.size) (hf : -9223372036854775808 ≤ s.fuse ∧ s.fuse ≤ 9223372036854775807) (hl : s.ps.length ≤ 5000000000000) :
    Calls Try.prog 26 #[.pointer (some ⟨d, 0, none⟩), .int .i64 at_, .string data] w (MuP base d v1 v2 (.returned (.int .i64 (wrS s at_ data).1)) (wrS s at_ data).2 w) := by
  obtain ⟨bs, ps, fuse, dead⟩ := s
  have hU := usable_any base d v1 v2 bs ps fuse dead at_ w h
  obtain ⟨R, hR⟩ : ∃ R, R = wrS ⟨bs, ps, fuse, dead⟩ at_ data := ⟨_, rfl⟩
  rw [← hR]
  have HR := hidI hR
  clear hR
  unfold UsP at hU
  by_cases hu : usF bs.length dead at_ = 0
  · by_cases h64 : data.size = 64
    · have hws : Hid (R = (if thF fuse dead = true then 0 else 7, ⟨bs, ps ++ [⟨at_, data⟩], thN fuse, decide (fuse = 0) || dead⟩)) := hidI (by
        rw [HR.out]; unfold wrS; rw [if_pos hu, if_pos h64])
      obtain ⟨A2, c2, rfl, _⟩ := h.pend.slice_
      have c0 := h.blk.c; have l0 := h.blk.lt; have f0 := h.blk.f
      have HD := hidI h
      have g1 : ((data.size : Int) == 64) = true := by rw [h64]; rfl
      rw [hu] at hU
      clear hu h64 h
      go_enter Try.func26, Try.ntmps26
      go_wp2_with fail
      with_reducible refine hU.mono ?_
      rintro e w1 ⟨rfl, hw1⟩
      subst hw1
      clear hU
      simp only []
      obtain ⟨i0, hi0, hz0, hz1, hz2⟩ := info_parts info135
      have NE : some d ≠ (Value.slice A2 ps.length c2).ownBlock := Ne.symm (HD.out.pend.ne HD.out.blk (by decide))
      have hO := HD.out.pend.below (below_new (Below.refl w1.heap.size w1) (.cells #[.int .i64 at_, .string data] 135))
      have hRd : Reads (w1.alloc (.cells #[.int .i64 at_, .string data] 135)) (w1.heap.size + 1) 2 (some ⟨w1.heap.size, 0, none⟩) 1 [.int .i64 at_, .string data] := ⟨rfl, fun _ => ⟨_, rfl, Nat.lt_succ_self _, fun j q hj => by
        have h2 := Blk.c (Blk.new' (w := w1) (b := w1.heap.size) (cs := #[.int .i64 at_, .string data]) (T := 135) rfl)
        rw [Kp.add_plain', Nat.zero_add, h2]
        simpa using hj⟩⟩
      go_wp2_with (at_builtin; refine wpList_append_any _ rfl (.tmp 21) (.tmp 25) 130 rfl base 135 i0 (.agg #[.int .i64 0, .string ⟨#[]⟩]) 2 24 Try.underlying130 hi0 hz0 hz1 hz2 rfl (by decide) (.slice A2 ps.length c2) ps.length (ps.flatMap Wr.l) rfl hO (w1.heap.size + 1) (some ⟨w1.heap.size, 0, none⟩) 1 1 [.int .i64 at_, .string data] rfl hRd ?a1 ?aM ?aB ?aS ?_; (case a1 => intro q hq; simp only [List.mem_cons, List.not_mem_nil, or_false] at hq; rcases hq with rfl | rfl <;> rfl); (case aM => simp only [maxLen]; omega); (case aB => omega); (case aS => simp; omega); intro v5 w5 hown hg hat; have hO5 := Go.Proofs.Kq.Own.snoc (p := (⟨at_, data⟩ : Wr)) hown; obtain ⟨A5, c5, rfl, _⟩ := hO5.slice_; have hB5 := Blk.gb (HD.out.blk.al (.cells #[.int .i64 at_, .string data] 135)) hg NE; have c5' := hB5.c; have l5' := hB5.lt; have f5' := hB5.f; clear hown hO)
      have e1 : (ps ++ [(⟨at_, data⟩ : Wr)]).length = ps.length + 1 := by simp
      rw [e1] at hO5
      have hD6 : Dt (w5.setCell ⟨d, 1, none⟩ (.slice A5 (ps.length + 1) c5)) base d v1 (.slice A5 (ps.length + 1) c5) bs (ps ++ [⟨at_, data⟩]) fuse dead := by
        refine ⟨hB5.st 1 _, ?_, hO5.far (p := ⟨d, 1, none⟩) (hO5.ne hB5 (by decide)) _⟩
        refine Go.Proofs.Kq.Own.far (p := ⟨d, 1, none⟩) (v := v1) ?_ (HD.out.own.ne HD.out.blk (by decide)) _
        refine Go.Proofs.Kq.Own.kept (w := w1) HD.out.own (fun k hk => ?_)
        have hlt := HD.out.own.lt hk
        have h2 : (w1.alloc (.cells #[.int .i64 at_, .string data] 135)).heap[k]? = w1.heap[k]? := Below.heap_alloc w1 _ k hlt
        rw [← h2]
        exact hg.block k (by simp; omega) (fun e => HD.out.own.ne_own HD.out.pend (by decide) k hk e.symm)
      have hF6 : Fr (DS d v1 (.slice A2 ps.length c2)) w1 (w5.setCell ⟨d, 1, none⟩ (.slice A5 (ps.length + 1) c5)) :=
        (((Fr.refl _ w1).alloc _).grown hg (fun b e _ => .inr (.inr e))).setCell (fun _ => .inl rfl) _
      have hP6 : ∀ k, DS d v1 (.slice A5 (ps.length + 1) c5) k → DS d v1 (.slice A2 ps.length c2) k ∨ w1.heap.size ≤ k := by
        rintro k (h | h | h)
        · exact .inl (.inl h)
        · exact .inl (.inr (.inl h))
        · rcases hat with h2 | h2
          · exact .inl (.inr (.inr (by rw [← h2, e1]; exact h)))
          · right
            rw [e1] at h2
            rw [h2] at h
            have : k = w1.heap.size + 1 := by simpa using h.symm
            omega
      have HD6 := hidI hD6
      have HF6 := hidI hF6
      have HP6 := hidI hP6
      have hT := thing_any base d v1 _ bs _ fuse dead _ hD6 hf
      clear hD6 hF6 hP6 hO5 hB5 hat hg NE hRd c0 l0 f0 c5' l5' f5'
      generalize w5.setCell ⟨d, 1, none⟩ (.slice A5 (ps.length + 1) c5) = w6 at *
      with_reducible refine hT.mono ?_
      rintro e w7 ⟨rfl, hD7, hF7⟩
      have hfin0 : MuP base d v1 (.slice A2 ps.length c2) (.returned (.int .i64 R.1)) R.2 w1 (.returned (.int .i64 R.1)) w7 := by
        refine ⟨rfl, .slice A5 (ps.length + 1) c5, ?_, HF6.out.trans hF7 (fun b _ e => .inl e), HP6.out⟩
        rw [hws.out]; exact hD7
      clear hT hD7 hF7
      simp only []
      cases hth : thF fuse dead
      · rw [hws.out, hth] at hfin0
        have hfin : Hid (MuP base d v1 (.slice A2 ps.length c2) (.returned (.int .i64 R.1)) R.2 w1 (.returned (.int .i64 7)) w7) := hidI (by rw [hws.out, hth]; exact hfin0)
        clear hfin0 hth
        go_wp2_with fail
        go_ret
        exact hfin.out
      · rw [hws.out, hth] at hfin0
        have hfin : Hid (MuP base d v1 (.slice A2 ps.length c2) (.returned (.int .i64 R.1)) R.2 w1 (.returned (.int .i64 0)) w7) := hidI (by rw [hws.out, hth]; exact hfin0)
        clear hfin0 hth
        go_wp2_with fail
        go_ret
        exact hfin.out
    · have hws : Hid (R = (1, ⟨bs, ps, fuse, dead⟩)) := hidI (by
        rw [HR.out]; unfold wrS; rw [if_pos hu, if_neg h64])
      have g1 : ((data.size : Int) == 64) = false := beq_eq_false_iff_ne.mpr (by omega)
      rw [hu] at hU
      have hfin : Hid (MuP base d v1 v2 (.returned (.int .i64 R.1)) R.2 w (.returned (.int .i64 1)) w) := hidI (by rw [hws.out]; exact MuP.same h)
      clear hu h64 h
      go_enter Try.func26, Try.ntmps26
      go_wp2_with fail
      with_reducible refine hU.mono ?_
      rintro e w1 ⟨rfl, hw1⟩
      subst hw1
      clear hU
      simp only []
      go_wp2_with fail
      go_ret
      exact hfin.out
  · have hws : Hid (R = (usF bs.length dead at_, ⟨bs, ps, fuse, dead⟩)) := hidI (by
      rw [HR.out]; unfold wrS; rw [if_neg hu])
    have hfin : Hid (MuP base d v1 v2 (.returned (.int .i64 R.1)) R.2 w (.returned (.int .i64 (usF bs.length dead at_))) w) := hidI (by rw [hws.out]; exact MuP.same h)
    have g1 : (usF bs.length dead at_ == 0) = false := beq_eq_false_iff_ne.mpr hu
    generalize usF bs.length dead at_ = u at *
    clear hu h
    go_enter Try.func26, Try.ntmps26
    go_wp2_with fail
    with_reducible refine hU.mono ?_
    rintro e w1 ⟨rfl, hw1⟩
    subst hw1
    clear hU
    simp only []
    go_wp2_with fail
    go_ret
    exact hfin.out
end Go.Proofs.Ytckfkbmefdmedaa
namespace Go.Proofs.Ytckfkbmefdmedaa
open Go.RowKit Go.Proofs.Kq
open Go.Proofs.YtckfkbmefdmedaaW.PrintWords (pw_cell_below Kd Kd.C Kd.C_below)
set_option linter.unusedVariables false
set_option linter.unusedSimpArgs false
abbrev Wre (w : World) (base : Nat) (v : Value) (ps : List Wr) : Prop := Go.Proofs.Kq.Own Wr.l 2 140 w base v ps
structure Et (w : World) (base d : Nat) (v1 v2 : Value) (bs : List ByteArray) (ps : List Wr) (fuse : Int) (dead : Bool) : Prop where
  blk : Blk w d #[v1, v2, .int .i64 fuse, .bool dead] 65
  own : Strs w base v1 bs
  pend : Wre w base v2 ps
theorem Et.below {w w1 : World} {base d : Nat} {v1 v2 : Value} {bs : List ByteArray} {ps : List Wr} {fuse : Int} {dead : Bool} (h : Et w base d v1 v2 bs ps fuse dead) (hb : Below w.heap.size w w1) : Et w1 base d v1 v2 bs ps fuse dead :=
  ⟨h.blk.be hb, h.own.below hb, h.pend.below hb⟩
def ES (d : Nat) (v1 v2 : Value) : Nat → Prop := fun k => k = d ∨ v1.ownBlock = some k ∨ v2.ownBlock = some k
theorem Et.fr {S : Nat → Prop} {w w1 : World} {base d : Nat} {v1 v2 : Value} {bs : List ByteArray} {ps : List Wr} {fuse : Int} {dead : Bool} (h : Et w base d v1 v2 bs ps fuse dead) (hf : Fr S w w1) (hS : ∀ k, ES d v1 v2 k → ¬ S k) : Et w1 base d v1 v2 bs ps fuse dead :=
  ⟨hf.blk h.blk (hS d (.inl rfl)), h.own.fr hf (fun k hk => hS k (.inr (.inl hk))), h.pend.fr hf (fun k hk => hS k (.inr (.inr hk)))⟩
theorem Et.st {w : World} {base d : Nat} {v1 v2 : Value} {bs : List ByteArray} {ps : List Wr} {fuse : Int} {dead : Bool} (h : Et w base d v1 v2 bs ps fuse dead) :
    (∀ f2 : Int, Et (w.setCell ⟨d, 2, none⟩ (.int .i64 f2)) base d v1 v2 bs ps f2 dead) ∧ (∀ b2 : Bool, Et (w.setCell ⟨d, 3, none⟩ (.bool b2)) base d v1 v2 bs ps fuse b2) := by
  have n1 : v1.ownBlock ≠ some d := h.own.ne h.blk (by decide)
  have n2 : v2.ownBlock ≠ some d := h.pend.ne h.blk (by decide)
  exact ⟨fun f2 => ⟨h.blk.st 2 _, h.own.far (p := ⟨d, 2, none⟩) n1 _, h.pend.far (p := ⟨d, 2, none⟩) n2 _⟩, fun b2 => ⟨h.blk.st 3 _, h.own.far (p := ⟨d, 3, none⟩) n1 _, h.pend.far (p := ⟨d, 3, none⟩) n2 _⟩⟩
abbrev ET (w : World) (base d : Nat) (v1 v2 : Value) (s : DkS) : Prop := Et w base d v1 v2 s.bs s.ps s.fuse s.dead
def EhP (base d : Nat) (v1 v2 : Value) (bs : List ByteArray) (ps : List Wr) (fuse : Int) (dead : Bool) (w : World) (e : Ending) (w' : World) : Prop :=
  e = .returned (.bool (!decide (fuse = 0))) ∧ Et w' base d v1 v2 bs ps (thN fuse) (decide (fuse = 0) || dead) ∧ Fr (fun k => k = d) w w'
set_option maxHeartbeats 1000000 in
theorem rthing_any (base d : Nat) (v1 v2 : Value) (bs : List ByteArray) (ps : List Wr) (fuse : Int) (dead : Bool) (w : World) (h : Et w base d v1 v2 bs ps fuse dead) (hf : -9223372036854775808 ≤ fuse ∧ fuse ≤ 9223372036854775807) :
    Calls Try.prog 82 #[.pointer (some ⟨d, 0, none⟩)] w (EhP base d v1 v2 bs ps fuse dead w) := by
  have c0 := h.blk.c; have l0 := h.blk.lt; have f0 := h.blk.f
  by_cases h0 : fuse = 0
  · have hfin : Hid (EhP base d v1 v2 bs ps fuse dead w (.returned (.bool false)) (w.setCell ⟨d, 3, none⟩ (.bool true))) := hidI (by
      subst h0
      exact ⟨rfl, h.st.2 true, (Fr.refl (fun k => k = d) w).setCell (fun _ => rfl) _⟩)
    subst h0
    clear h
    go_enter Try.func82, Try.ntmps82
    go_wp2
    go_ret
    exact hfin.out
  · have g0 : (fuse == 0) = false := beq_eq_false_iff_ne.mpr h0
    by_cases h1 : 0 < fuse
    · have g1 : decide (0 < fuse) = true := decide_eq_true h1
      have hfin : Hid (EhP base d v1 v2 bs ps fuse dead w (.returned (.bool true)) (w.setCell ⟨d, 2, none⟩ (.int .i64 (fuse - 1)))) := hidI (by
        refine ⟨by rw [decide_eq_false h0]; rfl, ?_, (Fr.refl (fun k => k = d) w).setCell (fun _ => rfl) _⟩
        rw [decide_eq_false h0, Bool.false_or]
        unfold thN
        rw [if_pos h1]
        exact h.st.1 (fuse - 1))
      clear h
      go_enter Try.func82, Try.ntmps82
      go_wp2
      go_ret
      exact hfin.out
    · have g1 : decide (0 < fuse) = false := decide_eq_false h1
      have hfin : Hid (EhP base d v1 v2 bs ps fuse dead w (.returned (.bool true)) w) := hidI (by
        refine ⟨by rw [decide_eq_false h0]; rfl, ?_, Fr.refl _ _⟩
        rw [decide_eq_false h0, Bool.false_or]
        unfold thN
        rw [if_neg h1]
        exact h)
      clear h
      go_enter Try.func82, Try.ntmps82
      go_wp2
      go_ret
      exact hfin.out
end Go.Proofs.Ytckfkbmefdmedaa
namespace Go.Proofs.Ytckfkbmefdmedaa
open Go.RowKit Go.Proofs.Kq
open Go.Proofs.YtckfkbmefdmedaaW.PrintWords (pw_cell_below Kd Kd.C Kd.C_below)
set_option linter.unusedVariables false
set_option linter.unusedSimpArgs false
def RuP (base d : Nat) (v1 v2 : Value) (r : Ending) (s : DkS) (w : World) (e : Ending) (w' : World) : Prop :=
  e = r ∧ ∃ v2', ET w' base d v1 v2' s ∧ Fr (ES d v1 v2) w w' ∧ ∀ k, ES d v1 v2' k → ES d v1 v2 k ∨ w.heap.size ≤ k
theorem info140 : (Try.prog.info? 140).map (fun i => (i.zero, i.size, i.bytes)) = some (some (.agg #[.int .i64 0, .string ⟨#[]⟩]), 2, 24) := by kernel_rfl
theorem RuP.same {base d : Nat} {v1 v2 : Value} {r : Ending} {s : DkS} {w : World} (h : ET w base d v1 v2 s) : RuP base d v1 v2 r s w r w := ⟨rfl, v2, h, Fr.refl _ _, fun k hk => .inl hk⟩
set_option maxHeartbeats 2000000 in
set_option maxRecDepth 100000 in
theorem rwrite_any (base d : Nat) (v1 v2 : Value) (s : DkS) (at_ : Int) (data : ByteArray) (w : World) (h : ET w base d v1 v2 s) (hb : base ≤ w.heap.size) (hf : -9223372036854775808 ≤ s.fuse ∧ s.fuse ≤ 9223372036854775807) (hl : s.ps.length ≤ 5000000000000) :
    Calls Try.prog 37 #[.pointer (some ⟨d, 0, none⟩), .int .i64 at_, .string data] w (RuP base d v1 v2 (.returned (.int .i64 (wrS s at_ data).1)) (wrS s at_ data).2 w) := by
  obtain ⟨bs, ps, fuse, dead⟩ := s
  obtain ⟨R, hR⟩ : ∃ R, R = wrS ⟨bs, ps, fuse, dead⟩ at_ data := ⟨_, rfl⟩
  rw [← hR]
  have HR := hidI hR
  clear hR
  have c0 := h.blk.c; have l0 := h.blk.lt; have f0 := h.blk.f
  obtain ⟨A1, c1, rfl, _⟩ := h.own.slice_
  cases dead
  · by_cases hu : at_ < 0 ∨ (bs.length : Int) ≤ at_
    · have hws : Hid (R = (8, ⟨bs, ps, fuse, false⟩)) := hidI (by
        rw [HR.out]; unfold wrS usF; simp [hu])
      have hfin : Hid (RuP base d (.slice A1 bs.length c1) v2 (.returned (.int .i64 R.1)) R.2 w (.returned (.int .i64 8)) w) := hidI (by rw [hws.out]; exact RuP.same h)
      clear h
      by_cases h1 : at_ < 0
      · have g1 : decide (at_ < 0) = true := decide_eq_true h1
        go_enter Try.func37, Try.ntmps37
        go_wp2_with fail
        go_ret
        exact hfin.out
      · have g1 : decide (at_ < 0) = false := decide_eq_false h1
        have g2 : decide ((bs.length : Int) ≤ at_) = true := decide_eq_true (by omega)
        go_enter Try.func37, Try.ntmps37
        go_wp2_with fail
        go_ret
        exact hfin.out
    · have g1 : decide (at_ < 0) = false := decide_eq_false (by omega)
      have g2 : decide ((bs.length : Int) ≤ at_) = false := decide_eq_false (by omega)
      by_cases h64 : data.size = 64
      · have hws : Hid (R = (if thF fuse false = true then 0 else 7, ⟨bs, ps ++ [⟨at_, data⟩], thN fuse, decide (fuse = 0) || false⟩)) := hidI (by
          rw [HR.out]; unfold wrS usF; simp [hu, h64])
        obtain ⟨A2, c2, rfl, _⟩ := h.pend.slice_
        have HD := hidI h
        have g3 : ((data.size : Int) == 64) = true := by rw [h64]; rfl
        clear hu h64 h
        have hf : -9223372036854775808 ≤ fuse ∧ fuse ≤ 9223372036854775807 := hf
        have hl : ps.length ≤ 5000000000000 := hl
        go_enter Try.func37, Try.ntmps37
        obtain ⟨i0, hi0, hz0, hz1, hz2⟩ := info_parts info140
        have NE : some d ≠ (Value.slice A2 ps.length c2).ownBlock := Ne.symm (HD.out.pend.ne HD.out.blk (by decide))
        have hO := HD.out.pend.below (below_new (Below.refl w.heap.size w) (.cells #[.int .i64 at_, .string data] 140))
        have hRd : Reads (w.alloc (.cells #[.int .i64 at_, .string data] 140)) (w.heap.size + 1) 2 (some ⟨w.heap.size, 0, none⟩) 1 [.int .i64 at_, .string data] := ⟨rfl, fun _ => ⟨_, rfl, Nat.lt_succ_self _, fun j q hj => by
          have h2 := Blk.c (Blk.new' (w := w) (b := w.heap.size) (cs := #[.int .i64 at_, .string data]) (T := 140) rfl)
          rw [Kp.add_plain', Nat.zero_add, h2]
          simpa using hj⟩⟩
        go_wp2_with (at_builtin; refine wpList_append_any _ rfl (.tmp 30) (.tmp 34) 63 rfl base 140 i0 (.agg #[.int .i64 0, .string ⟨#[]⟩]) 2 24 Try.underlying63 hi0 hz0 hz1 hz2 rfl (by decide) (.slice A2 ps.length c2) ps.length (ps.flatMap Wr.l) rfl hO (w.heap.size + 1) (some ⟨w.heap.size, 0, none⟩) 1 1 [.int .i64 at_, .string data] rfl hRd ?a1 ?aM ?aB ?aS ?_; (case a1 => intro q hq; simp only [List.mem_cons, List.not_mem_nil, or_false] at hq; rcases hq with rfl | rfl <;> rfl); (case aM => simp only [maxLen]; omega); (case aB => omega); (case aS => simp; omega); intro v5 w5 hown hg hat; have hO5 := Go.Proofs.Kq.Own.snoc (p := (⟨at_, data⟩ : Wr)) hown; obtain ⟨A5, c5, rfl, _⟩ := hO5.slice_; have hB5 := Blk.gb (HD.out.blk.al (.cells #[.int .i64 at_, .string data] 140)) hg NE; have c5' := hB5.c; have l5' := hB5.lt; have f5' := hB5.f; clear hown hO)
        have e1 : (ps ++ [(⟨at_, data⟩ : Wr)]).length = ps.length + 1 := by simp
        rw [e1] at hO5
        have hD6 : Et (w5.setCell ⟨d, 1, none⟩ (.slice A5 (ps.length + 1) c5)) base d (.slice A1 bs.length c1) (.slice A5 (ps.length + 1) c5) bs (ps ++ [⟨at_, data⟩]) fuse false := by
          refine ⟨hB5.st 1 _, ?_, hO5.far (p := ⟨d, 1, none⟩) (hO5.ne hB5 (by decide)) _⟩
          refine Go.Proofs.Kq.Own.far (p := ⟨d, 1, none⟩) (v := .slice A1 bs.length c1) ?_ (HD.out.own.ne HD.out.blk (by decide)) _
          refine Go.Proofs.Kq.Own.kept (w := w) HD.out.own (fun k hk => ?_)
          have hlt := HD.out.own.lt hk
          have h2 : (w.alloc (.cells #[.int .i64 at_, .string data] 140)).heap[k]? = w.heap[k]? := Below.heap_alloc w _ k hlt
          rw [← h2]
          exact hg.block k (by simp; omega) (fun e => HD.out.own.ne_own HD.out.pend (by decide) k hk e.symm)
        have hF6 : Fr (ES d (.slice A1 bs.length c1) (.slice A2 ps.length c2)) w (w5.setCell ⟨d, 1, none⟩ (.slice A5 (ps.length + 1) c5)) :=
          (((Fr.refl _ w).alloc _).grown hg (fun b e _ => .inr (.inr e))).setCell (fun _ => .inl rfl) _
        have hP6 : ∀ k, ES d (.slice A1 bs.length c1) (.slice A5 (ps.length + 1) c5) k → ES d (.slice A1 bs.length c1) (.slice A2 ps.length c2) k ∨ w.heap.size ≤ k := by
          rintro k (h | h | h)
          · exact .inl (.inl h)
          · exact .inl (.inr (.inl h))
          · rcases hat with h2 | h2
            · exact .inl (.inr (.inr (by rw [← h2, e1]; exact h)))
            · right
              rw [e1] at h2
              rw [h2] at h
              have : k = w.heap.size + 1 := by simpa using h.symm
              omega
        have HD6 := hidI hD6
        have HF6 := hidI hF6
        have HP6 := hidI hP6
        have hT := rthing_any base d (.slice A1 bs.length c1) _ bs _ fuse false _ hD6 hf
        clear hD6 hF6 hP6 hO5 hB5 hat hg NE hRd c0 l0 f0 c5' l5' f5'
        generalize w5.setCell ⟨d, 1, none⟩ (.slice A5 (ps.length + 1) c5) = w6 at *
        with_reducible refine hT.mono ?_
        rintro e w7 ⟨rfl, hD7, hF7⟩
        have hfin0 : RuP base d (.slice A1 bs.length c1) (.slice A2 ps.length c2) (.returned (.int .i64 R.1)) R.2 w (.returned (.int .i64 R.1)) w7 := by
          refine ⟨rfl, .slice A5 (ps.length + 1) c5, ?_, HF6.out.trans hF7 (fun b _ e => .inl e), HP6.out⟩
          rw [hws.out]; exact hD7
        clear hT hD7 hF7
        simp only []
        cases hth : decide (fuse = 0)
        · have hfin : Hid (RuP base d (.slice A1 bs.length c1) (.slice A2 ps.length c2) (.returned (.int .i64 R.1)) R.2 w (.returned (.int .i64 0)) w7) := hidI (by
            have e : R.1 = 0 := by rw [hws.out]; unfold thF; rw [hth]; rfl
            rw [e] at hfin0 ⊢; exact hfin0)
          clear hfin0 hth
          go_wp2_with fail
          go_ret
          exact hfin.out
        · have hfin : Hid (RuP base d (.slice A1 bs.length c1) (.slice A2 ps.length c2) (.returned (.int .i64 R.1)) R.2 w (.returned (.int .i64 7)) w7) := hidI (by
            have e : R.1 = 7 := by rw [hws.out]; unfold thF; rw [hth]; rfl
            rw [e] at hfin0 ⊢; exact hfin0)
          clear hfin0 hth
          go_wp2_with fail
          go_ret
          exact hfin.out
      · have hws : Hid (R = (1, ⟨bs, ps, fuse, false⟩)) := hidI (by
          rw [HR.out]; unfold wrS usF; simp [hu, h64])
        have g3 : ((data.size : Int) == 64) = false := beq_eq_false_iff_ne.mpr (by omega)
        have hfin : Hid (RuP base d (.slice A1 bs.length c1) v2 (.returned (.int .i64 R.1)) R.2 w (.returned (.int .i64 1)) w) := hidI (by rw [hws.out]; exact RuP.same h)
        clear h
        go_enter Try.func37, Try.ntmps37
        go_wp2_with fail
        go_ret
        exact hfin.out
  · have hws : Hid (R = (7, ⟨bs, ps, fuse, true⟩)) := hidI (by rw [HR.out]; rfl)
    have hfin : Hid (RuP base d (.slice A1 bs.length c1) v2 (.returned (.int .i64 R.1)) R.2 w (.returned (.int .i64 7)) w) := hidI (by rw [hws.out]; exact RuP.same h)
    clear h
    go_enter Try.func37, Try.ntmps37
    go_wp2_with fail
    go_ret
    exact hfin.out
end Go.Proofs.Ytckfkbmefdmedaa
namespace Go.Proofs.Ytckfkbmefdmedaa
open Go.RowKit Go.Proofs.Kq
open Go.Proofs.YtckfkbmefdmedaaW.PrintWords (pw_cell_below Kd Kd.C Kd.C_below)
set_option linter.unusedVariables false
set_option linter.unusedSimpArgs false
theorem fail_any (base d : Nat) (v1 v2 : Value) (s : DkS) (n : Int) (w : World) (h : DT w base d v1 v2 s) :
    Calls Try.prog 30 #[.pointer (some ⟨d, 0, none⟩), .int .i64 n] w (MuP base d v1 v2 (.returned (.tuple #[])) ⟨s.bs, s.ps, n, s.dead⟩ w) := by
  have hfin : Hid (MuP base d v1 v2 (.returned (.tuple #[])) ⟨s.bs, s.ps, n, s.dead⟩ w (.returned (.tuple #[])) (w.setCell ⟨d, 2, none⟩ (.int .i64 n))) := hidI
    ⟨rfl, v2, h.st.1 n, (Fr.refl _ _).setCell (fun _ => .inl rfl) _, fun k hk => .inl hk⟩
  have c0 := h.blk.c; have l0 := h.blk.lt; have f0 := h.blk.f
  clear h
  go_enter Try.func30, Try.ntmps30
  go_wp2
  refine bodyPost_end (results_none rfl _ _ _) rfl ?_
  exact hfin.out
theorem len_any (base d : Nat) (v1 v2 : Value) (s : DkS) (w : World) (h : DT w base d v1 v2 s) :
    Calls Try.prog 33 #[.pointer (some ⟨d, 0, none⟩)] w fun e w' => e = .returned (.int .i64 s.bs.length) ∧ w' = w := by
  obtain ⟨A, c, rfl, _⟩ := h.own.slice_
  have c0 := h.blk.c; have l0 := h.blk.lt; have f0 := h.blk.f
  clear h
  go_enter Try.func33, Try.ntmps33
  go_wp2
  go_ret
  exact ⟨rfl, rfl⟩
theorem dead_any (base d : Nat) (v1 v2 : Value) (s : DkS) (w : World) (h : DT w base d v1 v2 s) :
    Calls Try.prog 34 #[.pointer (some ⟨d, 0, none⟩)] w fun e w' => e = .returned (.bool s.dead) ∧ w' = w := by
  have c0 := h.blk.c; have l0 := h.blk.lt; have f0 := h.blk.f
  clear h
  go_enter Try.func34, Try.ntmps34
  go_wp2
  go_ret
  exact ⟨rfl, rfl⟩
end Go.Proofs.Ytckfkbmefdmedaa
namespace Go.Proofs.Ytckfkbmefdmedaa
open Go.RowKit Go.Proofs.Kq
open Go.Proofs.YtckfkbmefdmedaaW.PrintWords (pw_cell_below Kd Kd.C Kd.C_below encs)
set_option linter.unusedVariables false
set_option linter.unusedSimpArgs false
theorem strs_encs (bs : List ByteArray) : bs.flatMap sl = encs Value.string bs := by
  unfold sl encs
  rw [List.map_eq_flatMap]
def ClP (bs : List ByteArray) (w : World) (e : Ending) (w' : World) : Prop := ∃ v, e = .returned v ∧ Strs w' w.heap.size v bs ∧ Below w.heap.size w w'
set_option maxRecDepth 100000 in
set_option maxHeartbeats 1000000 in
theorem clone_own (base : Nat) (v : Value) (bs : List ByteArray) (w : World) (h : Strs w base v bs) (hl : bs.length ≤ 1000000) : Calls Try.prog 18 #[v] w (ClP bs w) := by
  rcases h.cases_ with ⟨rfl, rfl⟩ | ⟨b, c, rfl, hc, hm, hb, hlt⟩
  · have he := fun w => Lib.run_eql_slice_nil (P := Try.prog) w 22 9 none 0 0 0 0 Try.underlying22
    have hfin : Hid (ClP [] w (.returned (.slice none 0 0)) w) := hidI ⟨_, rfl, Go.Proofs.Kq.Own.nil _ _ _ _ _, Below.refl _ _⟩
    clear h
    go_enter Try.func18, Try.ntmps18
    go_wp2
    go_ret
    exact hfin.out
  · obtain ⟨i0, hi, hz0, hz1, hz2⟩ := info_parts info9s
    have hR : Reads w w.heap.size 1 (some ⟨b, 0, none⟩) bs.length (bs.flatMap sl) := Reads.of_own h
    have he := fun w => Lib.run_eql_slice_nil (P := Try.prog) w 22 9 (some ⟨b, 0, none⟩) bs.length c 0 0 Try.underlying22
    clear h
    go_enter Try.func18, Try.ntmps18
    go_wp2_with (at_builtin; refine wpList_append_any _ rfl (.tmp 5) (.tmp 6) 22 rfl w.heap.size 9 i0 (.string ⟨#[]⟩) 1 16 Try.underlying22 hi hz0 hz1 hz2 rfl (by decide) (.slice (some ⟨w.heap.size, 0, none⟩) 0 0) 0 [] rfl ?aO w.heap.size (some ⟨b, 0, none⟩) bs.length c (bs.flatMap sl) rfl ?aR (flat_one sl_one bs) ?aM ?aB ?aS ?_; (case aO => exact ⟨rfl, .inr ⟨w.heap.size, 0, #[], rfl, Nat.le_refl _, by (show (w.heap.push _)[w.heap.size]? = _; simp), Nat.le_refl _, by decide, rfl, rfl⟩⟩); (case aR => exact hR.alloc (Nat.le_refl _) _); (case aM => simp only [maxLen]; omega); (case aB => omega); (case aS => simp); intro v1 w1 hown hg hat)
    go_ret
    exact ⟨_, rfl, by simpa [Go.Proofs.Kq.Own] using hown, (below_new (Below.refl _ _) _).grown hg (by simp) (fun k hk => by cases hk; exact Nat.le_refl _)⟩
theorem all_any (base d : Nat) (v1 v2 : Value) (s : DkS) (w : World) (h : DT w base d v1 v2 s) (hl : s.bs.length ≤ 1000000) :
    Calls Try.prog 28 #[.pointer (some ⟨d, 0, none⟩)] w (ClP s.bs w) := by
  have c0 := h.blk.c; have l0 := h.blk.lt; have f0 := h.blk.f
  have hc := clone_own base v1 s.bs w h.own hl
  clear h
  go_enter Try.func28, Try.ntmps28
  go_wp2_with fail
  with_reducible refine hc.mono ?_
  rintro e w1 ⟨v, rfl, hO, hb⟩
  have hfin : Hid (ClP s.bs w (.returned v) w1) := hidI ⟨v, rfl, hO, hb⟩
  clear hO hb hc
  simp only []
  go_wp2_with fail
  go_ret
  exact hfin.out
end Go.Proofs.Ytckfkbmefdmedaa
namespace Go.Proofs.Ytckfkbmefdmedaa
open Go.RowKit Go.Proofs.Kq
open Go.Proofs.YtckfkbmefdmedaaW.PrintWords (pw_cell_below Kd Kd.C Kd.C_below encs)
set_option linter.unusedVariables false
set_option linter.unusedSimpArgs false
def setAll (bs : List ByteArray) (l : List Wr) : List ByteArray := l.foldl (fun b p => b.set p.at_.toNat p.data) bs
theorem setAll_len : ∀ (l : List Wr) (bs : List ByteArray), (setAll bs l).length = bs.length
  | [], bs => rfl
  | p :: l, bs => by show (setAll (bs.set _ _) l).length = _; rw [setAll_len l]; simp
theorem setAll_snoc (bs : List ByteArray) (l : List Wr) (p : Wr) : setAll bs (l ++ [p]) = (setAll bs l).set p.at_.toNat p.data := by simp [setAll]
def inB (n : Nat) (ps : List Wr) : Prop := ∀ p ∈ ps, 0 ≤ p.at_ ∧ p.at_ < n
def syS (s : DkS) : Int × DkS :=
  if s.dead = true then (7, s)
  else if thF s.fuse s.dead = true then (0, ⟨setAll s.bs s.ps, [], thN s.fuse, decide (s.fuse = 0) || s.dead⟩)
  else (7, ⟨s.bs, s.ps, thN s.fuse, decide (s.fuse = 0) || s.dead⟩)
theorem wr_at {w : World} {base b c : Nat} {ps : List Wr} (h : Wrs w base (.slice (some ⟨b, 0, none⟩) ps.length c) ps) (k : Nat) (hk : k < ps.length) :
    w.cell? ⟨b, k * 2, none⟩ = some (.int .i64 ps[k].at_) ∧ w.cell? ⟨b, k * 2 + 1, none⟩ = some (.string ps[k].data) := by
  rcases h.2 with ⟨e, _⟩ | ⟨g, cap, cur, e, hg, hh, hn, hm, hcs, hcur⟩
  · cases e
  · cases e
    have gt : ∀ j u, (Wr.l ps[k])[j]? = some u → w.cell? ⟨b, k * 2 + j, none⟩ = some u := by
      intro j u hu
      have := Kp.flat_get wr_len hu ps k (List.getElem?_eq_getElem hk)
      rw [← hcur, List.getElem?_take] at this
      split at this
      · simp only [World.cell?, hh, Option.isSome_none, Bool.false_eq_true, if_false]
        rw [← Array.getElem?_toList]; exact this
      · cases this
    exact ⟨gt 0 _ rfl, gt 1 _ rfl⟩
theorem str_at {w : World} {base b c : Nat} {bs : List ByteArray} (h : Strs w base (.slice (some ⟨b, 0, none⟩) bs.length c) bs) (k : Nat) (hk : k < bs.length) :
    w.cell? ⟨b, k, none⟩ = some (.string bs[k]) ∧ w.frozen? ⟨b, k, none⟩ = false := by
  rcases h.2 with ⟨e, _⟩ | ⟨g, cap, cur, e, hg, hh, hn, hm, hcs, hcur⟩
  · cases e
  · cases e
    constructor
    · have := Kp.flat_get sl_len (i := 0) (u := .string bs[k]) rfl bs k (List.getElem?_eq_getElem hk)
      rw [← hcur, List.getElem?_take] at this
      split at this
      · simp only [World.cell?, hh, Option.isSome_none, Bool.false_eq_true, if_false]
        rw [← Array.getElem?_toList]; simpa using this
      · cases this
    · simp [World.frozen?, hh]
theorem str_set {w : World} {base b c : Nat} {bs : List ByteArray} (h : Strs w base (.slice (some ⟨b, 0, none⟩) bs.length c) bs) (k : Nat) (z : ByteArray) :
    Strs (w.setCell ⟨b, k, none⟩ (.string z)) base (.slice (some ⟨b, 0, none⟩) bs.length c) (bs.set k z) := by
  have h0 : w.ownsRow base 9 1 (.slice (some ⟨b, 0, none⟩) bs.length c) bs.length (encs Value.string bs) := by rw [← strs_encs]; exact h
  have h1 := (Go.Proofs.YtckfkbmefdmedaaW.PrintWords.Kd.R_put (enc := Value.string) (h1 := fun _ => rfl) (ok := fun _ => True) (Go.Proofs.YtckfkbmefdmedaaW.PrintWords.Kd.R_of_own h0 (fun _ _ => trivial)) (k : Int) z).1
  have h2 := Go.Proofs.YtckfkbmefdmedaaW.PrintWords.Kd.own_of_R h1
  rw [Int.toNat_natCast] at h2
  unfold Strs Go.Proofs.Kq.Own
  rw [strs_encs]
  exact h2
theorem Dt.put {w : World} {base d b c : Nat} {v2 : Value} {bs : List ByteArray} {ps : List Wr} {fuse : Int} {dead : Bool} (h : Dt w base d (.slice (some ⟨b, 0, none⟩) bs.length c) v2 bs ps fuse dead) (k : Nat) (z : ByteArray) :
    Dt (w.setCell ⟨b, k, none⟩ (.string z)) base d (.slice (some ⟨b, 0, none⟩) bs.length c) v2 (bs.set k z) ps fuse dead := by
  have n1 : d ≠ b := fun e => h.own.ne h.blk (by decide) (by rw [e]; rfl)
  have n2 : v2.ownBlock ≠ some b := fun e => h.own.ne_own h.pend (by decide) b rfl e
  exact ⟨h.blk.so n1, str_set h.own k z, h.pend.far (p := ⟨b, k, none⟩) n2 _⟩
set_option maxHeartbeats 2000000 in
set_option maxRecDepth 100000 in
theorem sync_any (base d : Nat) (v1 v2 : Value) (s : DkS) (w : World) (h : DT w base d v1 v2 s) (hf : -9223372036854775808 ≤ s.fuse ∧ s.fuse ≤ 9223372036854775807) (hl : s.ps.length ≤ 5000000000000) (hin : inB s.bs.length s.ps) :
    Calls Try.prog 27 #[.pointer (some ⟨d, 0, none⟩)] w (MuP base d v1 v2 (.returned (.int .i64 (syS s).1)) (syS s).2 w) := by
  obtain ⟨bs, ps, fuse, dead⟩ := s
  obtain ⟨R, hR⟩ : ∃ R, R = syS ⟨bs, ps, fuse, dead⟩ := ⟨_, rfl⟩
  rw [← hR]
  have HR := hidI hR
  clear hR
  have c0 := h.blk.c; have l0 := h.blk.lt; have f0 := h.blk.f
  cases dead
  · have hT := thing_any base d v1 v2 bs ps fuse false w h hf
    clear h
    go_enter Try.func27, Try.ntmps27
    go_wp2_with fail
    with_reducible refine hT.mono ?_
    rintro e w1 ⟨rfl, hD1, hF1⟩
    simp only []
    have HD1 := hidI hD1
    have HF1 := hidI hF1
    clear hT hD1 hF1 c0 l0 f0
    cases hth : thF fuse false
    · have hfin : Hid (MuP base d v1 v2 (.returned (.int .i64 R.1)) R.2 w (.returned (.int .i64 7)) w1) := hidI (by
        have e1 : R = (7, ⟨bs, ps, thN fuse, decide (fuse = 0) || false⟩) := by rw [HR.out]; unfold syS; simp [hth]
        rw [e1]
        exact ⟨rfl, v2, HD1.out, HF1.out.mono (fun b _ e => .inl e), fun k hk => .inl hk⟩)
      clear hth
      go_wp2_with fail
      go_ret
      exact hfin.out
    · have hRe : Hid (R = (0, ⟨setAll bs ps, [], thN fuse, decide (fuse = 0) || false⟩)) := hidI (by rw [HR.out]; unfold syS; simp [hth])
      clear hth
      generalize thN fuse = fuse2 at *
      generalize (decide (fuse = 0) || false) = dead2 at *
      have c1 := HD1.out.blk.c; have l1 := HD1.out.blk.lt; have f1 := HD1.out.blk.f
      obtain ⟨A2, c2, rfl, _⟩ := HD1.out.pend.slice_
      go_wp2_with fail
      go_loopw [23] (fun i wr => ∃ k : Nat, k ≤ ps.length ∧ i = .int .i64 k ∧ Hid (Dt wr base d v1 (.slice A2 ps.length c2) (setAll bs (ps.take k)) ps fuse2 dead2 ∧ Fr (DS d v1 (.slice A2 ps.length c2)) w wr)) (fun i _ => ps.length - (intOf i).toNat)
      case atStart => exact ⟨0, Nat.zero_le _, rfl, hidI ⟨HD1.out, HF1.out.mono (fun b _ e => .inl e)⟩⟩
      case round =>
        obtain ⟨k, hk, rfl, hI⟩ := hrel
        by_cases hlt : k < ps.length
        · have h0 : 0 < bs.length := by have := (hin ps[k] (List.getElem_mem hlt)); omega
          have hlt' : decide ((k : Int) < (ps.length : Int)) = true := decide_eq_true (by omega)
          obtain ⟨b2, rfl⟩ : ∃ b2, A2 = some ⟨b2, 0, none⟩ := by
            rcases hI.out.1.pend.cases_ with ⟨e, h⟩ | ⟨b, c, e, _⟩
            · rw [h] at hlt; simp at hlt
            · injection e with e1; exact ⟨b, e1⟩
          obtain ⟨q0, q1⟩ := wr_at hI.out.1.pend k hlt
          obtain ⟨m, hm⟩ : ∃ m : Nat, ps[k].at_ = (m : Int) := ⟨ps[k].at_.toNat, by have := (hin ps[k] (List.getElem_mem hlt)); omega⟩
          have hmb : m < bs.length := by have := (hin ps[k] (List.getElem_mem hlt)); omega
          obtain ⟨z, hz⟩ : ∃ z, z = ps[k].data := ⟨_, rfl⟩
          rw [hm] at q0
          rw [← hz] at q1
          have hst : Hid (setAll bs (ps.take (k + 1)) = (setAll bs (ps.take k)).set m z) := hidI (by
            rw [List.take_succ_eq_append_getElem hlt, setAll_snoc, hm, ← hz, Int.toNat_natCast])
          clear hm hz
          obtain ⟨b1, c3, rfl⟩ : ∃ b1 c3, v1 = .slice (some ⟨b1, 0, none⟩) bs.length c3 := by
            rcases HD1.out.own.cases_ with ⟨e, h⟩ | ⟨b, c, e, _⟩
            · rw [h] at h0; simp at h0
            · exact ⟨b, c, e⟩
          have hbw := below_new (Below.refl wr.heap.size wr) (.cells #[.int .i64 (m : Int), .string z] 135)
          have hD' := hI.out.1.below hbw
          have hF' : Fr (DS d (.slice (some ⟨b1, 0, none⟩) bs.length c3) (.slice (some ⟨b2, 0, none⟩) ps.length c2)) w _ := hI.out.2.below hbw
          have hsl : (setAll bs (ps.take k)).length = bs.length := setAll_len _ _
          rw [← hsl] at hD'
          have hat := str_at hD'.own m (by omega)
          obtain ⟨zo, qs⟩ : ∃ zo : ByteArray, (wr.alloc (.cells #[.int .i64 (m : Int), .string z] 135)).cell? ⟨b1, m, none⟩ = some (.string zo) := ⟨_, hat.1⟩
          have qf := hat.2
          have hput := hD'.put m z
          rw [← hst.out, hsl] at hput
          rw [hsl] at hD'
          have cd := hD'.blk.c; have ld := hD'.blk.lt; have fd := hD'.blk.f
          have hBn : Blk (wr.alloc (.cells #[.int .i64 (m : Int), .string z] 135)) wr.heap.size #[.int .i64 (m : Int), .string z] 135 := Blk.new' rfl
          have cn := hBn.c; have ln := hBn.lt; have fn := hBn.f
          have HN := hidI (And.intro hput (hF'.setCell (p := ⟨b1, m, none⟩) (fun _ => .inr (.inl rfl)) (.string z)))
          have hmb' : decide ((m : Int) < (bs.length : Int)) = true := decide_eq_true (by omega)
          clear hD' hF' hput hat hBn hsl hst hbw
          go_wp2_with fail
          generalize wr.alloc (.cells #[.int .i64 (m : Int), .string z] 135) = wx at *
          go_region
          go_wp2_with fail
          go_roundw
          · exact ⟨k + 1, by omega, by simp, hidI ⟨⟨HN.out.1.blk.dr, HN.out.1.own.drew, HN.out.1.pend.drew⟩, HN.out.2.drew⟩⟩
          · simp [intOf]; omega
        · have hlt' : decide ((k : Int) < (ps.length : Int)) = false := decide_eq_false (by omega)
          have hD := hI.out.1
          rw [List.take_of_length_le (by omega)] at hD
          have hfin : Hid (MuP base d v1 (.slice A2 ps.length c2) (.returned (.int .i64 R.1)) R.2 w (.returned (.int .i64 0)) (wr.setCell ⟨d, 1, none⟩ (.slice none 0 0))) := hidI (by
            rw [hRe.out]
            refine ⟨rfl, .slice none 0 0, ⟨hD.blk.st 1 _, hD.own.far (p := ⟨d, 1, none⟩) (hD.own.ne hD.blk (by decide)) _, Go.Proofs.Kq.Own.nil _ _ _ _ _⟩, hI.out.2.setCell (fun _ => .inl rfl) _, ?_⟩
            rintro q (h | h | h)
            · exact .inl (.inl h)
            · exact .inl (.inr (.inl h))
            · cases h)
          have cd := hD.blk.c; have ld := hD.blk.lt; have fd := hD.blk.f
          clear hD
          go_wp2_with fail
          go_ret
          exact hfin.out
  · have hfin : Hid (MuP base d v1 v2 (.returned (.int .i64 R.1)) R.2 w (.returned (.int .i64 7)) w) := hidI (by
      have e1 : R = (7, ⟨bs, ps, fuse, true⟩) := by rw [HR.out]; rfl
      rw [e1]; exact MuP.same h)
    clear h
    go_enter Try.func27, Try.ntmps27
    go_wp2
    go_ret
    exact hfin.out
end Go.Proofs.Ytckfkbmefdmedaa
namespace Go.Proofs.Ytckfkbmefdmedaa
open Go.RowKit Go.Proofs.Kq
open Go.Proofs.YtckfkbmefdmedaaW.PrintWords (pw_cell_below Kd Kd.C Kd.C_below encs)
set_option linter.unusedVariables false
set_option linter.unusedSimpArgs false
theorem wre_at {w : World} {base b c : Nat} {ps : List Wr} (h : Wre w base (.slice (some ⟨b, 0, none⟩) ps.length c) ps) (k : Nat) (hk : k < ps.length) :
    w.cell? ⟨b, k * 2, none⟩ = some (.int .i64 ps[k].at_) ∧ w.cell? ⟨b, k * 2 + 1, none⟩ = some (.string ps[k].data) := by
  rcases h.2 with ⟨e, _⟩ | ⟨g, cap, cur, e, hg, hh, hn, hm, hcs, hcur⟩
  · cases e
  · cases e
    have gt : ∀ j u, (Wr.l ps[k])[j]? = some u → w.cell? ⟨b, k * 2 + j, none⟩ = some u := by
      intro j u hu
      have := Kp.flat_get wr_len hu ps k (List.getElem?_eq_getElem hk)
      rw [← hcur, List.getElem?_take] at this
      split at this
      · simp only [World.cell?, hh, Option.isSome_none, Bool.false_eq_true, if_false]
        rw [← Array.getElem?_toList]; exact this
      · cases this
    exact ⟨gt 0 _ rfl, gt 1 _ rfl⟩
theorem Et.put {w : World} {base d b c : Nat} {v2 : Value} {bs : List ByteArray} {ps : List Wr} {fuse : Int} {dead : Bool} (h : Et w base d (.slice (some ⟨b, 0, none⟩) bs.length c) v2 bs ps fuse dead) (k : Nat) (z : ByteArray) :
    Et (w.setCell ⟨b, k, none⟩ (.string z)) base d (.slice (some ⟨b, 0, none⟩) bs.length c) v2 (bs.set k z) ps fuse dead := by
  have n1 : d ≠ b := fun e => h.own.ne h.blk (by decide) (by rw [e]; rfl)
  have n2 : v2.ownBlock ≠ some b := fun e => h.own.ne_own h.pend (by decide) b rfl e
  exact ⟨h.blk.so n1, str_set h.own k z, h.pend.far (p := ⟨b, k, none⟩) n2 _⟩
set_option maxHeartbeats 2000000 in
set_option maxRecDepth 100000 in
theorem rsync_any (base d : Nat) (v1 v2 : Value) (s : DkS) (w : World) (h : ET w base d v1 v2 s) (hf : -9223372036854775808 ≤ s.fuse ∧ s.fuse ≤ 9223372036854775807) (hl : s.ps.length ≤ 5000000000000) (hin : inB s.bs.length s.ps) :
    Calls Try.prog 38 #[.pointer (some ⟨d, 0, none⟩)] w (RuP base d v1 v2 (.returned (.int .i64 (syS s).1)) (syS s).2 w) := by
  obtain ⟨bs, ps, fuse, dead⟩ := s
  have hf : -9223372036854775808 ≤ fuse ∧ fuse ≤ 9223372036854775807 := hf
  have hl : ps.length ≤ 5000000000000 := hl
  have hin : inB bs.length ps := hin
  obtain ⟨R, hR⟩ : ∃ R, R = syS ⟨bs, ps, fuse, dead⟩ := ⟨_, rfl⟩
  rw [← hR]
  have HR := hidI hR
  clear hR
  have c0 := h.blk.c; have l0 := h.blk.lt; have f0 := h.blk.f
  cases dead
  · have hT := rthing_any base d v1 v2 bs ps fuse false w h hf
    clear h
    go_enter Try.func38, Try.ntmps38
    go_wp2_with fail
    with_reducible refine hT.mono ?_
    rintro e w1 ⟨rfl, hD1, hF1⟩
    simp only []
    have HD1 := hidI hD1
    have HF1 := hidI hF1
    clear hT hD1 hF1 c0 l0 f0
    cases hth : decide (fuse = 0)
    · have hRe : Hid (R = (0, ⟨setAll bs ps, [], thN fuse, false⟩)) := hidI (by rw [HR.out]; unfold syS thF; simp [hth])
      rw [hth] at HD1
      clear hth
      generalize thN fuse = fuse2 at *
      obtain ⟨A2, c2, rfl, _⟩ := HD1.out.pend.slice_
      go_wp2_with fail
      go_loopw [4] (fun i wr => ∃ k : Nat, k ≤ ps.length ∧ i = .int .i64 k ∧ Hid (Et wr base d v1 (.slice A2 ps.length c2) (setAll bs (ps.take k)) ps fuse2 false ∧ Fr (ES d v1 (.slice A2 ps.length c2)) w wr)) (fun i _ => ps.length - (intOf i).toNat)
      case atStart => exact ⟨0, Nat.zero_le _, rfl, hidI ⟨HD1.out, HF1.out.mono (fun b _ e => .inl e)⟩⟩
      case round =>
        obtain ⟨k, hk, rfl, hI⟩ := hrel
        have cd := hI.out.1.blk.c; have ld := hI.out.1.blk.lt; have fd := hI.out.1.blk.f
        by_cases hlt : k < ps.length
        · have hin1 := hin ps[k] (List.getElem_mem hlt)
          have h0 : 0 < bs.length := by omega
          have hlt' : decide ((k : Int) < (ps.length : Int)) = true := decide_eq_true (by omega)
          obtain ⟨b2, rfl⟩ : ∃ b2, A2 = some ⟨b2, 0, none⟩ := by
            rcases hI.out.1.pend.cases_ with ⟨e, h⟩ | ⟨b, c, e, _⟩
            · rw [h] at hlt; simp at hlt
            · injection e with e1; exact ⟨b, e1⟩
          obtain ⟨q0, q1⟩ := wre_at hI.out.1.pend k hlt
          obtain ⟨m, hm⟩ : ∃ m : Nat, ps[k].at_ = (m : Int) := ⟨ps[k].at_.toNat, by omega⟩
          have hmb : m < bs.length := by omega
          obtain ⟨z, hz⟩ : ∃ z, z = ps[k].data := ⟨_, rfl⟩
          rw [hm] at q0
          rw [← hz] at q1
          have hst : setAll bs (ps.take (k + 1)) = (setAll bs (ps.take k)).set m z := by
            rw [List.take_succ_eq_append_getElem hlt, setAll_snoc, hm, ← hz, Int.toNat_natCast]
          obtain ⟨b1, c3, rfl⟩ : ∃ b1 c3, v1 = .slice (some ⟨b1, 0, none⟩) bs.length c3 := by
            rcases HD1.out.own.cases_ with ⟨e, h⟩ | ⟨b, c, e, _⟩
            · have h : bs = [] := h
              rw [h] at h0; simp at h0
            · exact ⟨b, c, e⟩
          have hD' := hI.out.1
          have hsl : (setAll bs (ps.take k)).length = bs.length := setAll_len _ _
          rw [← hsl] at hD'
          have hat := str_at hD'.own m (by omega)
          obtain ⟨zo, qs⟩ : ∃ zo : ByteArray, wr.cell? ⟨b1, m, none⟩ = some (.string zo) := ⟨_, hat.1⟩
          have qf := hat.2
          have hput := hD'.put m z
          rw [← hst, hsl] at hput
          have HN := hidI (And.intro hput (hI.out.2.setCell (p := ⟨b1, m, none⟩) (fun _ => .inr (.inl rfl)) (.string z)))
          have hmb' : decide ((m : Int) < (bs.length : Int)) = true := decide_eq_true (by omega)
          clear hD' hput hat hst hsl hm hz hin1
          go_wp2_with fail
          go_region
          go_wp2_with fail
          go_roundw
          · exact ⟨k + 1, by omega, by simp, hidI ⟨⟨HN.out.1.blk.dr, HN.out.1.own.drew, HN.out.1.pend.drew⟩, HN.out.2.drew⟩⟩
          · simp [intOf]; omega
        · have hlt' : decide ((k : Int) < (ps.length : Int)) = false := decide_eq_false (by omega)
          have hD := hI.out.1
          rw [List.take_of_length_le (by omega)] at hD
          have hfin : Hid (RuP base d v1 (.slice A2 ps.length c2) (.returned (.int .i64 R.1)) R.2 w (.returned (.int .i64 0)) (wr.setCell ⟨d, 1, none⟩ (.slice none 0 0))) := hidI (by
            rw [hRe.out]
            refine ⟨rfl, .slice none 0 0, ⟨hD.blk.st 1 _, hD.own.far (p := ⟨d, 1, none⟩) (hD.own.ne hD.blk (by decide)) _, Go.Proofs.Kq.Own.nil _ _ _ _ _⟩, hI.out.2.setCell (fun _ => .inl rfl) _, ?_⟩
            rintro q (h | h | h)
            · exact .inl (.inl h)
            · exact .inl (.inr (.inl h))
            · cases h)
          clear hD
          go_wp2_with fail
          go_ret
          exact hfin.out
    · have hfin : Hid (RuP base d v1 v2 (.returned (.int .i64 R.1)) R.2 w (.returned (.int .i64 7)) w1) := hidI (by
        have e1 : R = (7, ⟨bs, ps, thN fuse, decide (fuse = 0) || false⟩) := by rw [HR.out]; unfold syS thF; simp [hth]
        rw [e1]
        exact ⟨rfl, v2, HD1.out, HF1.out.mono (fun b _ e => .inl e), fun k hk => .inl hk⟩)
      clear hth
      go_wp2_with fail
      go_ret
      exact hfin.out
  · have hfin : Hid (RuP base d v1 v2 (.returned (.int .i64 R.1)) R.2 w (.returned (.int .i64 7)) w) := hidI (by
      have e1 : R = (7, ⟨bs, ps, fuse, true⟩) := by rw [HR.out]; rfl
      rw [e1]; exact RuP.same h)
    clear h
    go_enter Try.func38, Try.ntmps38
    go_wp2
    go_ret
    exact hfin.out
end Go.Proofs.Ytckfkbmefdmedaa
namespace Go.Proofs.Ytckfkbmefdmedaa
open Go.RowKit Go.Proofs.Kq Go.Shelf
set_option linter.unusedVariables false
set_option linter.unusedSimpArgs false
attribute [local go_sem] Oper.semAt_some
def bwAt (ps : List Wr) (j : Nat) : Int × Wr := (((ps.length - 1 - j : Nat) : Int), ps.getD (ps.length - 1 - j) ⟨0, ⟨#[]⟩⟩)
def bwU (ps : List Wr) (k : Nat) : List (Int × Wr) := (List.range k).map (bwAt ps)
theorem bwU_succ (ps : List Wr) (k : Nat) : bwU ps (k + 1) = bwU ps k ++ [bwAt ps k] := by simp [bwU, List.range_succ]
theorem bwU_len (ps : List Wr) (k : Nat) : (bwU ps k).length = k := by simp [bwU]
def encW (x : Int × Wr) : Array Value := #[.int .i64 x.1, .agg #[.int .i64 x.2.at_, .string x.2.data]]
set_option maxRecDepth 100000 in
set_option maxHeartbeats 2000000 in
theorem back1_in (F : Fence) (n : Nat) (h106 : F.fn 106) (hro : F.round = none) (hn : 1 ≤ n) (l Bs n₀ b cap : Nat) (ps : List Wr) (hlen : ps.length ≤ 5000000000000) (hb : b < n₀) (hBn : Bs < n₀) (J Jx : List (Int × Wr) → World → Prop)
    (hY : ∀ pre x W, J pre W → pre.length < ps.length → YieldAt F (n - 1) Try.prog l (encW x) W fun e W' =>
      (e = .returned (.bool true) ∧ J (pre ++ [x]) W' ∧ Below n₀ W W') ∨ (e = .returned (.bool false) ∧ Jx (pre ++ [x]) W'))
    (W : World) (hBs : W.cell? ⟨Bs, 0, none⟩ = some (.slice (some ⟨b, 0, none⟩) ps.length cap))
    (hc : ∀ (j : Nat) (hj : j < ps.length), W.cell? ⟨b, j * 2, none⟩ = some (.int .i64 ps[j].at_) ∧ W.cell? ⟨b, j * 2 + 1, none⟩ = some (.string ps[j].data)) (h0 : J [] W) :
    CallsIn F n Try.prog 106 #[.func (.yield l) #[] #[], .pointer (some ⟨Bs, 0, none⟩)] W fun e W' => (∃ v, e = .returned v) ∧
      ((∃ ys, ys = bwU ps ps.length ∧ J ys W') ∨ (∃ pre, (∃ k, k < ps.length ∧ pre = bwU ps (k + 1)) ∧ Jx pre W')) := by
  refine callsIn_of_wp Try.func106 rfl h106 ?_ hro
  simp only [Try.ntmps106, List.size_toArray, List.length_cons, List.length_nil, Nat.reduceAdd, Nat.reduceSub, Array.replicate_succ, Array.replicate_zero, List.push_toArray, List.append_toArray, List.nil_append, List.cons_append]
  gi_wp2
  gi_loopw [3] (fun i wr => ∃ k : Nat, k ≤ ps.length ∧ i = .int .i64 ((ps.length : Int) - 1 - k) ∧ J (bwU ps k) wr ∧ Below n₀ W wr)
    (fun i _ => (intOf i + 1).toNat)
  case atStart => exact ⟨0, Nat.zero_le _, by simp, h0, Below.refl _ _⟩
  case round =>
    obtain ⟨k, hk, rfl, hJs, hnx⟩ := hrel
    by_cases hlt : k < ps.length
    · obtain ⟨j, hj⟩ : ∃ j, j = ps.length - 1 - k := ⟨_, rfl⟩
      have hjl : j < ps.length := by omega
      have hjk : (ps.length : Int) - 1 - (k : Int) = (j : Int) := by omega
      have hbx : bwAt ps k = ((j : Int), ps[j]) := by
        unfold bwAt; rw [← hj, List.getD_eq_getElem?_getD, List.getElem?_eq_getElem hjl]; rfl
      have q := (hnx.cell (p := ⟨Bs, 0, none⟩) hBn).trans hBs
      have q0 := (hnx.cell (p := ⟨b, j * 2, none⟩) hb).trans (hc j hjl).1
      have q1 := (hnx.cell (p := ⟨b, j * 2 + 1, none⟩) hb).trans (hc j hjl).2
      obtain ⟨fn, tmps, assign, body, hy, hR⟩ := hY _ (bwAt ps k) wr hJs (by rw [bwU_len]; exact hlt)
      rw [hbx] at hy
      dsimp only [encW] at hy
      rw [hjk]
      have HJ := hidI hj
      clear hj hjk hbx
      have hj0 : decide ((j : Int) ≥ 0) = true := decide_eq_true (by omega)
      have hjl' : decide ((j : Int) < (ps.length : Int)) = true := decide_eq_true (by omega)
      gi_wp2
      refine hR.mono ?_
      rintro e W3 (⟨rfl, hJ3, hk3⟩ | ⟨rfl, hJx3⟩)
      · gi_wp2
        go_roundw
        case rel => exact ⟨k + 1, by omega, by have := HJ.out; simp; omega, by rw [bwU_succ]; exact hJ3, hnx.trans hk3⟩
        case measure => simp [intOf]
      · gi_wp2
        refine bodyPost_ret (results_none rfl _ _ _) rfl ?_
        exact ⟨⟨_, rfl⟩, .inr ⟨_, ⟨k, by omega, rfl⟩, by rw [bwU_succ]; exact hJx3⟩⟩
    · obtain rfl : k = ps.length := by omega
      have e0 : (ps.length : Int) - 1 - (ps.length : Int) = -1 := by omega
      rw [e0]
      gi_wp2
      go_end0
      exact ⟨⟨_, rfl⟩, .inl ⟨_, rfl, hJs⟩⟩
set_option maxRecDepth 100000 in
set_option maxHeartbeats 1000000 in
theorem back1_nil_in (F : Fence) (n : Nat) (h106 : F.fn 106) (hro : F.round = none) (l Bs : Nat) (J : List (Int × Wr) → World → Prop) (W : World) (hBs : W.cell? ⟨Bs, 0, none⟩ = some (.slice none 0 0)) (h0 : J [] W) :
    CallsIn F n Try.prog 106 #[.func (.yield l) #[] #[], .pointer (some ⟨Bs, 0, none⟩)] W fun e W' => (∃ v, e = .returned v) ∧ J [] W' := by
  refine callsIn_of_wp Try.func106 rfl h106 ?_ hro
  simp only [Try.ntmps106, List.size_toArray, List.length_cons, List.length_nil, Nat.reduceAdd, Nat.reduceSub, Array.replicate_succ, Array.replicate_zero, List.push_toArray, List.append_toArray, List.nil_append, List.cons_append]
  gi_wp2
  gi_loopw [3] (fun i wr => i = .int .i64 (-1) ∧ J [] wr) (fun _ _ => 0)
  case atStart => exact ⟨rfl, h0⟩
  case round =>
    obtain ⟨rfl, hJs⟩ := hrel
    gi_wp2
    go_end0
    exact ⟨⟨_, rfl⟩, hJs⟩
set_option maxHeartbeats 1000000 in
theorem back_in (F : Fence) (n : Nat) (h80 : F.fn 80) (hro : F.round = none) (a : Option Addr) (len cap : Nat) (w : World) :
    CallsIn F n Try.prog 80 #[.slice a len cap] w fun e w' => e = .returned (.func (.func 106) #[] #[.pointer (some ⟨w.heap.size, 0, none⟩)]) ∧ w' = w.alloc (.cells #[.slice a len cap] 130) := by
  refine callsIn_of_wp Try.func80 rfl h80 ?_ hro
  simp only [Try.ntmps80, List.size_toArray, List.length_cons, List.length_nil, Nat.reduceAdd, Nat.reduceSub, Array.replicate_succ, Array.replicate_zero, List.push_toArray, List.append_toArray, List.nil_append, List.cons_append]
  gi_wp2
  go_ret
  exact ⟨rfl, rfl⟩
def WrsAt (n₀ : Nat) (W : World) (v : Value) (ps : List Wr) : Prop := (v = .slice none 0 0 ∧ ps = []) ∨ ∃ b cap, v = .slice (some ⟨b, 0, none⟩) ps.length cap ∧ b < n₀ ∧ ∀ (j : Nat) (hj : j < ps.length), W.cell? ⟨b, j * 2, none⟩ = some (.int .i64 ps[j].at_) ∧ W.cell? ⟨b, j * 2 + 1, none⟩ = some (.string ps[j].data)
theorem WrsAt.below {n₀ : Nat} {A B : World} {v : Value} {ps : List Wr} (hb : Below n₀ A B) : WrsAt n₀ A v ps → WrsAt n₀ B v ps
  | .inl e => .inl e
  | .inr ⟨b, cap, e, hlt, hc⟩ => .inr ⟨b, cap, e, hlt, fun j hj => ⟨(hb.cell (p := ⟨b, j * 2, none⟩) hlt).trans (hc j hj).1, (hb.cell (p := ⟨b, j * 2 + 1, none⟩) hlt).trans (hc j hj).2⟩⟩
theorem WrsAt.of {w : World} {base : Nat} {v : Value} {ps : List Wr} (h : Wrs w base v ps) : WrsAt w.heap.size w v ps := by
  rcases h.cases_ with ⟨rfl, rfl⟩ | ⟨b, c, rfl, _, _, _, hlt⟩
  · exact .inl ⟨rfl, rfl⟩
  · exact .inr ⟨b, c, rfl, hlt, fun j hj => wr_at h j hj⟩
theorem back_stops (F : Fence) (n : Nat) (h106 : F.fn 106) (hro : F.round = none) (hn : 1 ≤ n) (Bs n₀ : Nat) (v : Value) (ps : List Wr) (hlen : ps.length ≤ 5000000000000) (w : World) (hBs : Bs < n₀) (hn₀ : n₀ ≤ w.heap.size)
    (hc : w.cell? ⟨Bs, 0, none⟩ = some v) (hI : WrsAt n₀ w v ps) :
    SeqStopsK F n Try.prog 106 #[.pointer (some ⟨Bs, 0, none⟩)] encW (Below n₀) (fun ys => ys = bwU ps ps.length) (fun pre => ∃ k, k < ps.length ∧ pre = bwU ps (k + 1)) ps.length w := fun l J Jx W hW _ _ hY h0 => by
  have hc' := (hW.cell (p := ⟨Bs, 0, none⟩) (show Bs < w.heap.size by omega)).trans hc
  rcases hI.below (hW.mono hn₀) with ⟨rfl, rfl⟩ | ⟨b, cap, rfl, hb, hcs⟩
  · exact (back1_nil_in F n h106 hro l Bs J W hc' h0).mono fun e W' ⟨he, hj⟩ => ⟨he, .inl ⟨_, rfl, hj⟩⟩
  · refine (back1_in F n h106 hro hn l Bs n₀ b cap ps hlen hb hBs J Jx hY W hc' hcs h0).mono ?_
    rintro e W' ⟨he, h⟩
    exact ⟨he, h⟩
end Go.Proofs.Ytckfkbmefdmedaa
namespace Go.Proofs.Ytckfkbmefdmedaa
open Go.RowKit Go.Proofs.Kq Go.Shelf
open Go.Proofs.YtckfkbmefdmedaaW.PrintWords (pw_cell_below)
set_option linter.unusedVariables false
set_option linter.unusedSimpArgs false
attribute [local go_sem] Oper.semAt_some
theorem blk_own {β : Type} (B : Nat) (t : TypeId) (f : β → Array Value) : Go.Own (fun s W => Blk W B (f s) t) := fun s X Y row hs hg hrow => by
  have h1 : X.heap[B]? = some (.cells (f s) t (0, 0)) := hs
  refine (hg.block B hs.lt (fun e => ?_)).trans hs
  obtain ⟨o, ho, hc⟩ := hrow B e.symm
  rw [h1] at ho; cases ho; cases hc
def rdF (s : DkS) (at_ : Int) : ByteArray × Int :=
  if usF s.bs.length s.dead at_ = 0 then
    (match s.ps.reverse.find? (fun p => decide (p.at_ = at_)) with
    | some p => (p.data, 0)
    | none => (s.bs.getD at_.toNat ByteArray.empty, 0))
  else (⟨#[]⟩, usF s.bs.length s.dead at_)
def RdP (R : ByteArray × Int) (w : World) (e : Ending) (w' : World) : Prop := e = .returned (.tuple #[.string R.1, .int .i64 R.2]) ∧ Below w.heap.size w w'
theorem bwU_snd (ps : List Wr) : (bwU ps ps.length).map Prod.snd = ps.reverse := by
  apply List.ext_getElem
  · simp [bwU]
  · intro i h1 h2
    simp [bwU] at h1
    simp only [bwU, List.getElem_map, List.getElem_range, bwAt, List.getElem_reverse]
    rw [List.getD_eq_getElem?_getD, List.getElem?_eq_getElem (by omega), Option.getD_some]
theorem bwU_find (ps : List Wr) (at_ : Int) (k : Nat) (hk : k < ps.length) (h1 : ∀ y ∈ bwU ps k, y.2.at_ ≠ at_) (h2 : (bwAt ps k).2.at_ = at_) : ps.reverse.find? (fun p => decide (p.at_ = at_)) = some (bwAt ps k).2 := by
  rw [← bwU_snd]
  have hsplit : bwU ps ps.length = bwU ps k ++ (bwAt ps k :: (List.range' (k + 1) (ps.length - (k + 1))).map (bwAt ps)) := by
    unfold bwU
    rw [List.range_eq_range', List.range_eq_range', show ps.length = k + (1 + (ps.length - (k + 1))) by omega, ← List.range'_append, List.map_append]
    congr 1
    rw [Nat.one_mul, Nat.zero_add, Nat.add_comm 1, List.range'_succ, List.map_cons]
    congr 3
    omega
  rw [hsplit, List.map_append, List.find?_append]
  have hn : ((bwU ps k).map Prod.snd).find? (fun p => decide (p.at_ = at_)) = none := by
    rw [List.find?_eq_none]
    intro x hx
    obtain ⟨y, hy, rfl⟩ := List.mem_map.1 hx
    simpa using h1 y hy
  rw [hn, Option.none_or, List.map_cons, List.find?_cons_of_pos (by simpa using h2)]
theorem bwU_none (ps : List Wr) (at_ : Int) (h1 : ∀ y ∈ bwU ps ps.length, y.2.at_ ≠ at_) : ps.reverse.find? (fun p => decide (p.at_ = at_)) = none := by
  rw [← bwU_snd, List.find?_eq_none]
  intro x hx
  obtain ⟨y, hy, rfl⟩ := List.mem_map.1 hx
  simpa using h1 y hy
theorem res31 (tmps : Array Value) (w : World) (b1 b2 : Nat) (s : ByteArray) (e : Int) (h4 : tmps[4]? = some (.pointer (some ⟨b1, 0, none⟩))) (h5 : tmps[5]? = some (.pointer (some ⟨b2, 0, none⟩))) (c1 : w.cell? ⟨b1, 0, none⟩ = some (.string s)) (c2 : w.cell? ⟨b2, 0, none⟩ = some (.int .i64 e)) :
    (results Try.f31 tmps).run Try.prog w = .ok (.tuple #[.string s, .int .i64 e]) w := by
  simp [results, Try.results31, go_sem, h4, h5, c1, c2]
set_option maxRecDepth 100000 in
set_option maxHeartbeats 4000000 in
theorem read_any (base d : Nat) (v1 v2 : Value) (s : DkS) (at_ : Int) (w : World) (h : DT w base d v1 v2 s) (hlp : s.ps.length ≤ 5000000000000) (hu : usF s.bs.length s.dead at_ = 0) : Calls Try.prog 31 #[.pointer (some ⟨d, 0, none⟩), .int .i64 at_] w (RdP (rdF s at_) w) := by
  obtain ⟨W3, hW3⟩ : ∃ W3, ((w.alloc (.cells #[.int .i64 at_] 3)).alloc (.cells #[.string ⟨#[]⟩] 9)).alloc (.cells #[.int .i64 0] 24) = W3 := ⟨_, rfl⟩
  have hb3 : Below w.heap.size w W3 := by rw [← hW3]; exact below_new (below_new (below_new (Below.refl _ _) _) _) _
  have hD3 := h.below hb3
  have hU := usable_any base d v1 v2 s.bs s.ps s.fuse s.dead at_ W3 hD3
  unfold UsP at hU
  rw [hu] at hU
  obtain ⟨A2, c2, rfl, _⟩ := h.pend.slice_
  have c0 := hD3.blk.c; have l0 := hD3.blk.lt; have f0 := hD3.blk.f
  have B0 : Blk W3 w.heap.size #[.int .i64 at_] 3 := by rw [← hW3]; exact ((Blk.new' rfl).al _).al _
  have B1 : Blk W3 (w.heap.size + 1) #[.string ⟨#[]⟩] 9 := by rw [← hW3]; exact (Blk.new' (by simp)).al _
  have B2 : Blk W3 (w.heap.size + 1 + 1) #[.int .i64 0] 24 := by rw [← hW3]; exact Blk.new' (by simp)
  have hs3 : W3.heap.size = w.heap.size + 3 := by rw [← hW3]; simp
  have HD := hidI h
  have HU := hidI hu
  clear h hu
  refine (callsIn_wide (n := 6)).1 ?_
  refine callsIn_of_wp_marks Try.func31 rfl trivial ?_ rfl
  simp only [Try.ntmps31, List.size_toArray, List.length_cons, List.length_nil, Nat.reduceAdd, Nat.reduceSub, Array.replicate_succ, Array.replicate_zero, List.push_toArray, List.append_toArray, List.nil_append, List.cons_append]
  have cB0 := B0.c; have lB0 := B0.lt
  gi_wp2
  refine ⟨trivial, (callsIn_wide.2 hU).mono ?_⟩
  rintro e w' ⟨rfl, rfl⟩
  clear hU hW3
  gi_wp2
  refine ⟨trivial, (back_in Fence.wide _ trivial rfl _ _ _ _).mono ?_⟩
  rintro e w'' ⟨rfl, hw4⟩
  gi_wp2
  subst hw4
  have B0' := B0.al (.cells #[.slice A2 s.ps.length c2] 130)
  have B1' := B1.al (.cells #[.slice A2 s.ps.length c2] 130)
  have B2' := B2.al (.cells #[.slice A2 s.ps.length c2] 130)
  have B3' : Blk (w'.alloc (.cells #[.slice A2 s.ps.length c2] 130)) (w.heap.size + 3) #[.slice A2 s.ps.length c2] 130 := Blk.new' (by omega)
  have hb4 : Below w.heap.size w (w'.alloc (.cells #[.slice A2 s.ps.length c2] 130)) := below_new hb3 _
  have hD4 := hD3.below (below_new (Below.refl _ _) (.cells #[.slice A2 s.ps.length c2] 130))
  have hs4 : (w'.alloc (.cells #[.slice A2 s.ps.length c2] 130)).heap.size = w.heap.size + 4 := by simp; omega
  obtain ⟨W4, hW4⟩ : ∃ W4, w'.alloc (.cells #[.slice A2 s.ps.length c2] 130) = W4 := ⟨_, rfl⟩
  rw [hW4] at B0' B1' B2' B3' hb4 hD4 hs4 ⊢
  clear hW4 B0 B1 B2 hb3 hD3 cB0 lB0 c0 l0 f0 hs3
  have hWA : WrsAt W4.heap.size W4 (.slice A2 s.ps.length c2) s.ps := WrsAt.of hD4.pend
  refine wpIn_rangeFunc_ownH (α := Int × Wr) rfl (show 1 ≤ 6 by decide) (gf := 106) (lb := #[.pointer (some ⟨w.heap.size + 3, 0, none⟩)]) rfl trivial (enters_of Try.func106 (by kernel_rfl) rfl)
    (back_stops Fence.wide 5 trivial rfl (by decide) (w.heap.size + 3) W4.heap.size (.slice A2 s.ps.length c2) s.ps hlp W4 (by omega) (Nat.le_refl _) (B3'.c 0) hWA) belowK_t (belowK_b (Nat.le_refl _)) (Below.refl _ _) (fun _ => rfl)
    (fun pre W => (Blk W w.heap.size #[.int .i64 at_] 3 ∧ Blk W (w.heap.size + 1) #[.string ⟨#[]⟩] 9 ∧ Blk W (w.heap.size + 1 + 1) #[.int .i64 0] 24 ∧ (∀ y ∈ pre, y.2.at_ ≠ at_) ∧ W4.heap.size ≤ W.heap.size) ∧ Below w.heap.size w W)
    (fun c pre W => (c = .ret ∧ ∃ pre' x, pre = pre' ++ [x] ∧ (∀ y ∈ pre', y.2.at_ ≠ at_) ∧ x.2.at_ = at_ ∧ Blk W (w.heap.size + 1) #[.string x.2.data] 9 ∧ Blk W (w.heap.size + 1 + 1) #[.int .i64 0] 24) ∧ Below w.heap.size w W)
    (OwnFrom.and (fun s X Y row hs hg hr => ⟨blk_own _ 3 (fun (_ : Unit) => #[.int .i64 at_]) () X Y row hs.1 hg (fun r e => (hr r e).2), blk_own _ 9 (fun (_ : Unit) => #[.string ⟨#[]⟩]) () X Y row hs.2.1 hg (fun r e => (hr r e).2), blk_own _ 24 (fun (_ : Unit) => #[.int .i64 0]) () X Y row hs.2.2.1 hg (fun r e => (hr r e).2), hs.2.2.2.1, Nat.le_trans hs.2.2.2.2 hg.size⟩) (ownFrom_below (Nat.le_refl _) (by omega)))
    (fun c => OwnFrom.and (fun s X Y row hs hg hr => by
      obtain ⟨h1, pre', x, h2, h3, h4, h5, h6⟩ := hs
      exact ⟨h1, pre', x, h2, h3, h4, blk_own _ 9 (fun (_ : Unit) => #[.string x.2.data]) () X Y row h5 hg (fun r e => (hr r e).2), blk_own _ 24 (fun (_ : Unit) => #[.int .i64 0]) () X Y row h6 hg (fun r e => (hr r e).2)⟩) (ownFrom_below (Nat.le_refl _) (by omega)))
    ⟨⟨B0', B1', B2', fun y hy => by simp at hy, Nat.le_refl _⟩, hb4⟩
    (fun x a' W => ∃ Bx, w.heap.size + 3 < Bx ∧ Blk W Bx #[.int .i64 x.2.at_, .string x.2.data] 135 ∧ a' = ({ tmps := #[.pointer (some ⟨d, 0, none⟩), .int .i64 at_, undef, .pointer (some ⟨w.heap.size, 0, none⟩), .pointer (some ⟨w.heap.size + 1, 0, none⟩), .pointer (some ⟨w.heap.size + 1 + 1, 0, none⟩), .int .i64 0, undef, .pointer (some ⟨Bx, 0, none⟩), .pointer (some ⟨d, 0, none⟩), .int .i64 at_, .int .i64 0, .int .i64 0, .bool false, undef, .pointer (some ⟨d, 0, none⟩), .pointer (some ⟨d, 0, none⟩), .pointer (some ⟨d, 1, none⟩), .slice A2 s.ps.length c2, .func (.func 106) #[] #[.pointer (some ⟨w.heap.size + 3, 0, none⟩)], .int .i64 x.1, .agg #[.int .i64 x.2.at_, .string x.2.data], undef, undef, undef, undef, undef, undef, undef, undef, undef, undef, undef, undef, undef], defers := [] } : Act))
    (fun x a' _ X Y row hs hg hr => by obtain ⟨Bx, h1, h2, h3⟩ := hs; exact ⟨Bx, h1, blk_own Bx 135 (fun (_ : Unit) => #[.int .i64 x.2.at_, .string x.2.data]) () X Y row h2 hg (fun r e => (hr r e).2), h3⟩)
    ?assign ?body ?done ?stop
  case assign =>
    rintro l pre x W K ⟨⟨I0, I1, I2, I3, I4⟩, hB1⟩ hK
    simp only [encW]
    gi_wp2
    have hWs := hB1.size
    have l2 := I2.lt
    exact hK _ _ ((KeepsOthers.alloc _ _).from _) ((Below.refl _ W).alloc I4 _) ⟨⟨I0.al _, I1.al _, I2.al _, I3, by simp; omega⟩, hB1.alloc hB1.size _⟩ ⟨W.heap.size, by omega, Blk.new' rfl, rfl⟩
  case body =>
    rintro l pre x a' W hl ⟨r, hr⟩ ⟨⟨I0, I1, I2, I3, I4⟩, hB1⟩ ⟨Bx, hBx, bX, rfl⟩ hlt
    have c0 := I0.c; have l0 := I0.lt; have f0 := I0.f
    have c1 := I1.c; have l1 := I1.lt; have f1 := I1.f
    have c2 := I2.c; have l2 := I2.lt; have f2 := I2.f
    have cX := bX.c; have lX := bX.lt
    by_cases hxa : x.2.at_ = at_
    · have g1 : (x.2.at_ == at_) = true := beq_iff_eq.mpr hxa
      have HX := hidI hxa
      clear hxa
      gi_wp2
      exact ⟨((KeepsOthers.setCell _ _ _).trans (KeepsOthers.setCell _ _ _)).from _, ⟨⟨rfl, pre, x, rfl, I3, HX.out, (I1.st 0 (.string x.2.data)).so (by simp), (I2.so (by simp)).st 0 (.int .i64 0)⟩, (hB1.setCell (p := ⟨w.heap.size + 1, 0, none⟩) (by simp) _).setCell (p := ⟨w.heap.size + 1 + 1, 0, none⟩) (by simp; omega) _⟩⟩
    · have g1 : (x.2.at_ == at_) = false := beq_eq_false_iff_ne.mpr hxa
      gi_wp2
      exact ⟨KeepsFrom.refl _ _, Below.refl _ _, ⟨⟨I0, I1, I2, fun y hy => by
        rcases List.mem_append.1 hy with h | h
        · exact I3 y h
        · rcases List.mem_singleton.1 h with rfl; exact hxa, I4⟩, hB1⟩⟩
  case done =>
    rintro D zs W hD rfl ⟨⟨I0, I1, I2, I3, I4⟩, hB1⟩ hK
    have c0 := I0.c; have l0 := I0.lt; have f0 := I0.f
    have c1 := I1.c; have l1 := I1.lt; have f1 := I1.f
    have c2 := I2.c; have l2 := I2.lt; have f2 := I2.f
    have hDW := HD.out.below hB1
    have cd := hDW.blk.c; have ld := hDW.blk.lt; have fd := hDW.blk.f
    have hat : 0 ≤ at_ ∧ at_ < s.bs.length := by
      have := HU.out; unfold usF at this
      split at this
      · omega
      · split at this
        · omega
        · omega
    obtain ⟨m, rfl⟩ : ∃ m : Nat, at_ = (m : Int) := ⟨at_.toNat, by omega⟩
    have hm : m < s.bs.length := by omega
    obtain ⟨b1, c1', rfl⟩ : ∃ b1 c1', v1 = .slice (some ⟨b1, 0, none⟩) s.bs.length c1' := by
      rcases hDW.own.cases_ with ⟨e, h⟩ | ⟨b, c, e, _⟩
      · rw [h] at hm; simp at hm
      · exact ⟨b, c, e⟩
    have q := (str_at hDW.own m hm).1
    have hm' : decide ((m : Int) < (s.bs.length : Int)) = true := decide_eq_true (by omega)
    have hr : rdF s (m : Int) = (s.bs[m], 0) := by
      unfold rdF; rw [if_pos HU.out, bwU_none s.ps m I3]
      simp [hm]
    obtain ⟨z, hz⟩ : ∃ z, z = s.bs[m] := ⟨_, rfl⟩
    rw [← hz] at q hr
    have HR := hidI hr
    clear hz hr
    gi_wp2
    gi_region
    all_goals
      gi_wp2
      obtain ⟨WX, hWX⟩ : ∃ WX, WX = ((W.setCell ⟨w.heap.size + 1, 0, none⟩ (.string z)).setCell ⟨w.heap.size + 1 + 1, 0, none⟩ (.int .i64 0)).drew := ⟨_, rfl⟩
      rw [← hWX]
      have hKX : WX.heap[D]? = some (.deferred (some [])) := by
        rw [hWX]
        exact ((KeepsOthers.setCell W ⟨w.heap.size + 1, 0, none⟩ (.string z)).trans (KeepsOthers.setCell _ ⟨w.heap.size + 1 + 1, 0, none⟩ (.int .i64 0))).same D _ hK rfl
      have K1 : Blk WX (w.heap.size + 1) #[.string z] 9 := by rw [hWX]; exact ((I1.st 0 (.string z)).so (by simp)).dr
      have K2 : Blk WX (w.heap.size + 1 + 1) #[.int .i64 0] 24 := by rw [hWX]; exact ((I2.so (by simp)).st 0 (.int .i64 0)).dr
      have hbX : Below w.heap.size w WX := by rw [hWX]; exact ((hB1.setCell (p := ⟨w.heap.size + 1, 0, none⟩) (by simp) _).setCell (p := ⟨w.heap.size + 1 + 1, 0, none⟩) (by simp; omega) _).drew
      clear hWX
      have k1 := blk_own _ 9 (fun (_ : Unit) => #[.string z]) () WX _ (some D) K1 (grownBy_putObj' WX D (.deferred none)) (fun r e => by cases e; exact ⟨_, hKX, rfl⟩)
      have k2 := blk_own _ 24 (fun (_ : Unit) => #[.int .i64 0]) () WX _ (some D) K2 (grownBy_putObj' WX D (.deferred none)) (fun r e => by cases e; exact ⟨_, hKX, rfl⟩)
      refine ⟨by simp, .inl ⟨_, _, rfl, run_takeDeferred hKX, ?_⟩⟩
      exact ⟨_, res31 _ _ _ _ _ _ rfl rfl (k1.c 0) (k2.c 0), by rw [HR.out]; exact ⟨rfl, hbX.trans (belowK_b (w := w) (Nat.le_refl _) WX D _ _ (by omega) hKX rfl rfl)⟩⟩
  case stop =>
    rintro D c pre W hD ⟨k, hk, rfl⟩ ⟨⟨rfl, pre', x, hpre, hne, hx, J1, J2⟩, hB1⟩ hK
    rw [bwU_succ] at hpre
    obtain ⟨e1, e2⟩ := List.append_inj' hpre rfl
    injection e2 with e2
    have hr : rdF s at_ = (x.2.data, 0) := by
      unfold rdF
      rw [if_pos HU.out, bwU_find s.ps at_ k hk (by rw [e1]; exact hne) (by rw [e2]; exact hx), e2]
    have HR := hidI hr
    clear hr
    gi_wp2
    have k1 := blk_own _ 9 (fun (_ : Unit) => #[.string x.2.data]) () W _ (some D) J1 (grownBy_putObj' W D (.deferred none)) (fun r e => by cases e; exact ⟨_, hK, rfl⟩)
    have k2 := blk_own _ 24 (fun (_ : Unit) => #[.int .i64 0]) () W _ (some D) J2 (grownBy_putObj' W D (.deferred none)) (fun r e => by cases e; exact ⟨_, hK, rfl⟩)
    refine ⟨by simp, .inl ⟨_, _, rfl, run_takeDeferred hK, ?_⟩⟩
    exact ⟨_, res31 _ _ _ _ _ _ rfl rfl (k1.c 0) (k2.c 0), by rw [HR.out]; exact ⟨rfl, hB1.trans (belowK_b (w := w) (Nat.le_refl _) W D _ _ (by omega) hK rfl rfl)⟩⟩
end Go.Proofs.Ytckfkbmefdmedaa
namespace Go.Proofs.Ytckfkbmefdmedaa
open Go.RowKit Go.Proofs.Kq
set_option linter.unusedVariables false
set_option linter.unusedSimpArgs false
def lastW (b : ByteArray) (at_ : Int) (l : List Wr) : ByteArray := match l.reverse.find? (fun p => decide (p.at_ = at_)) with
  | some p => p.data
  | none => b
theorem lastW_snoc (b : ByteArray) (at_ : Int) (l : List Wr) (p : Wr) : lastW b at_ (l ++ [p]) = if p.at_ = at_ then p.data else lastW b at_ l := by
  unfold lastW
  rw [List.reverse_append, List.reverse_singleton, List.singleton_append, List.find?_cons]
  by_cases h : p.at_ = at_
  · rw [decide_eq_true h, if_pos h]
  · rw [decide_eq_false h, if_neg h]
def RrP (R : ByteArray × Int) (w : World) (e : Ending) (w' : World) : Prop := e = .returned (.tuple #[.string R.1, .int .i64 R.2]) ∧ w' = w
set_option maxHeartbeats 2000000 in
set_option maxRecDepth 100000 in
theorem rread_any (base d : Nat) (v1 v2 : Value) (s : DkS) (at_ : Int) (w : World) (h : ET w base d v1 v2 s) (hl : s.ps.length ≤ 5000000000000) :
    Calls Try.prog 39 #[.pointer (some ⟨d, 0, none⟩), .int .i64 at_] w (RrP (rdF s at_) w) := by
  obtain ⟨bs, ps, fuse, dead⟩ := s
  have hl : ps.length ≤ 5000000000000 := hl
  obtain ⟨R, hR⟩ : ∃ R, R = rdF ⟨bs, ps, fuse, dead⟩ at_ := ⟨_, rfl⟩
  rw [← hR]
  have HR := hidI hR
  clear hR
  have c0 := h.blk.c; have l0 := h.blk.lt; have f0 := h.blk.f
  obtain ⟨A1, c1, rfl, _⟩ := h.own.slice_
  cases dead
  · by_cases hu : at_ < 0 ∨ (bs.length : Int) ≤ at_
    · have hfin : Hid (RrP R w (.returned (.tuple #[.string ⟨#[]⟩, .int .i64 8])) w) := hidI (by
        have e : R = (⟨#[]⟩, 8) := by rw [HR.out]; unfold rdF usF; simp [hu]
        rw [e]; exact ⟨rfl, rfl⟩)
      clear h
      by_cases h1 : at_ < 0
      · have g1 : decide (at_ < 0) = true := decide_eq_true h1
        go_enter Try.func39, Try.ntmps39
        go_wp2_with fail
        go_ret2
        exact hfin.out
      · have g1 : decide (at_ < 0) = false := decide_eq_false h1
        have g2 : decide ((bs.length : Int) ≤ at_) = true := decide_eq_true (by omega)
        go_enter Try.func39, Try.ntmps39
        go_wp2_with fail
        go_ret2
        exact hfin.out
    · have hat : 0 ≤ at_ ∧ at_ < bs.length := by omega
      obtain ⟨m, rfl⟩ : ∃ m : Nat, at_ = (m : Int) := ⟨at_.toNat, by omega⟩
      have hm : m < bs.length := by omega
      have g1 : decide ((m : Int) < 0) = false := decide_eq_false (by omega)
      have g2 : decide ((bs.length : Int) ≤ (m : Int)) = false := decide_eq_false (by omega)
      have g3 : decide ((m : Int) < (bs.length : Int)) = true := decide_eq_true (by omega)
      obtain ⟨b1, rfl⟩ : ∃ b1, A1 = some ⟨b1, 0, none⟩ := by
        rcases h.own.cases_ with ⟨e, h⟩ | ⟨b, c, e, _⟩
        · have h : bs = [] := h
          rw [h] at hm; simp at hm
        · injection e with e1; exact ⟨b, e1⟩
      have q := (str_at h.own m hm).1
      obtain ⟨z, hz⟩ : ∃ z, z = bs[m] := ⟨_, rfl⟩
      rw [← hz] at q
      have hRe : R = (lastW z m ps, 0) := by
        have hus : usF bs.length false (m : Int) = 0 := by unfold usF; rw [if_neg (by decide), if_neg (by omega)]
        rw [HR.out]
        unfold rdF lastW
        show (if usF bs.length false (m : Int) = 0 then _ else _) = _
        rw [if_pos hus]
        split <;> rename_i hf
        · simp only [hf]
        · simp only [hf]; simp [hz, hm]
      have HRE := hidI hRe
      have HP := hidI h.pend
      obtain ⟨A2, c2, rfl, _⟩ := h.pend.slice_
      clear hz hRe h hu hat
      go_enter Try.func39, Try.ntmps39
      go_wp2_with fail
      go_loop [6, 7] (fun b i => ∃ k : Nat, k ≤ ps.length ∧ i = .int .i64 k ∧ ∃ x : ByteArray, b = .string x ∧ Hid (x = lastW z m (ps.take k))) (fun _ i => ps.length - (intOf i).toNat)
      case atStart => exact ⟨0, Nat.zero_le _, rfl, z, rfl, hidI rfl⟩
      case round =>
        obtain ⟨k, hk, rfl, x, rfl, hx⟩ := hrel
        by_cases hlt : k < ps.length
        · have hlt' : decide ((k : Int) < (ps.length : Int)) = true := decide_eq_true (by omega)
          obtain ⟨b2, rfl⟩ : ∃ b2, A2 = some ⟨b2, 0, none⟩ := by
            rcases HP.out.cases_ with ⟨e, h⟩ | ⟨b, c, e, _⟩
            · rw [h] at hlt; simp at hlt
            · injection e with e1; exact ⟨b, e1⟩
          obtain ⟨q0, q1⟩ := wre_at HP.out k hlt
          obtain ⟨pa, hpa⟩ : ∃ pa, pa = ps[k].at_ := ⟨_, rfl⟩
          obtain ⟨pd, hpd⟩ : ∃ pd, pd = ps[k].data := ⟨_, rfl⟩
          rw [← hpa] at q0
          rw [← hpd] at q1
          have hst : lastW z m (ps.take (k + 1)) = if pa = (m : Int) then pd else lastW z m (ps.take k) := by
            rw [List.take_succ_eq_append_getElem hlt, lastW_snoc, ← hpa, ← hpd]
          have HST := hidI hst
          clear hpa hpd hst
          by_cases hp : pa = (m : Int)
          · have g4 : (pa == (m : Int)) = true := beq_iff_eq.mpr hp
            have hnx : Hid (pd = lastW z m (ps.take (k + 1))) := hidI (by rw [HST.out, if_pos hp])
            clear hp
            go_wp2_with fail
            exact ⟨⟨k + 1, by omega, by simp, pd, rfl, hnx⟩, by simp [intOf]; omega⟩
          · have g4 : (pa == (m : Int)) = false := beq_eq_false_iff_ne.mpr hp
            have hnx : Hid (x = lastW z m (ps.take (k + 1))) := hidI (by rw [HST.out, if_neg hp]; exact hx.out)
            clear hp
            go_wp2_with fail
            exact ⟨⟨k + 1, by omega, by simp, x, rfl, hnx⟩, by simp [intOf]; omega⟩
        · have hlt' : decide ((k : Int) < (ps.length : Int)) = false := decide_eq_false (by omega)
          have hfin : Hid (RrP R w (.returned (.tuple #[.string x, .int .i64 0])) w) := hidI (by
            have e := hx.out
            rw [List.take_of_length_le (by omega)] at e
            rw [HRE.out, ← e]; exact ⟨rfl, rfl⟩)
          go_wp2_with fail
          go_ret2
          exact hfin.out
  · have hfin : Hid (RrP R w (.returned (.tuple #[.string ⟨#[]⟩, .int .i64 7])) w) := hidI (by
      have e : R = (⟨#[]⟩, 7) := by rw [HR.out]; rfl
      rw [e]; exact ⟨rfl, rfl⟩)
    clear h
    go_enter Try.func39, Try.ntmps39
    go_wp2_with fail
    go_ret2
    exact hfin.out
end Go.Proofs.Ytckfkbmefdmedaa
namespace Go.Proofs.Ytckfkbmefdmedaa
open Go.RowKit Go.Proofs.Kq
open Go.Proofs.YtckfkbmefdmedaaW.PrintWords (pw_cell_below Kd Kd.C Kd.C_below encs)
set_option linter.unusedVariables false
set_option linter.unusedSimpArgs false
def All64 (bs : List ByteArray) : Prop := ∀ b ∈ bs, b.size = 64
def Wr64 (ps : List Wr) : Prop := ∀ p ∈ ps, p.data.size = 64
theorem all64_set {bs : List ByteArray} (h : All64 bs) (k : Nat) {z : ByteArray} (hz : z.size = 64) : All64 (bs.set k z) := by
  intro b hb
  rcases List.mem_or_eq_of_mem_set hb with h1 | h1
  · exact h b h1
  · rw [h1]; exact hz
end Go.Proofs.Ytckfkbmefdmedaa
namespace Go.Proofs.Ytckfkbmefdmedaa
open Go.RowKit Go.Proofs.Kq
set_option linter.unusedVariables false
set_option linter.unusedSimpArgs false
structure Sim (s t : DkS) : Prop where
  bs : s.bs = t.bs
  ps : s.ps = t.ps
  dead : s.dead = t.dead
  fuse : s.fuse = t.fuse ∨ (s.fuse < 0 ∧ t.fuse < 0)
theorem Sim.refl (s : DkS) : Sim s s := ⟨rfl, rfl, rfl, .inl rfl⟩
end Go.Proofs.Ytckfkbmefdmedaa
namespace Go.Proofs.Ytckfkbmefdmedaa
open Go.RowKit Go.Proofs.Kq
open Go.Proofs.YtckfkbmefdmedaaW.PrintWords (pw_cell_below Kd Kd.C Kd.C_below encs)
set_option linter.unusedVariables false
set_option linter.unusedSimpArgs false
def rp (z : ByteArray) (m n : Nat) : List Value := List.replicate m (.string z) ++ List.replicate (n - m) (.string ⟨#[]⟩)
theorem rp_len (z : ByteArray) (m n : Nat) (h : m ≤ n) : (rp z m n).length = n := by simp [rp]; omega
theorem rp_zero (z : ByteArray) (n : Nat) : rp z 0 n = List.replicate n (.string ⟨#[]⟩) := by simp [rp]
theorem rp_full (z : ByteArray) (n : Nat) : rp z n n = List.replicate n (.string z) := by simp [rp]
theorem rp_splice (z : ByteArray) (m j n : Nat) (h : m + j ≤ n) : splice (rp z m n) m (List.replicate j (.string z)) = rp z (m + j) n := by
  unfold splice rp
  rw [List.take_left' (by simp), List.length_replicate, ← List.drop_drop, List.drop_left' (by simp), List.drop_replicate, ← List.append_assoc, List.replicate_append_replicate, Nat.sub_sub]
theorem made_strs (n : Nat) : madeCells (Value.string ⟨#[]⟩).cells (n * 1) = (List.replicate n (Value.string ⟨#[]⟩)).toArray := by
  apply Array.ext
  · rw [size_madeCells]; simp
  · intro i h1 h2
    rw [size_madeCells] at h1
    simp [madeCells, Value.cells, Nat.mod_one]
def RpP (z : ByteArray) (n : Nat) (w : World) (e : Ending) (w' : World) : Prop := ∃ v, e = .returned v ∧ Strs w' w.heap.size v (List.replicate n z) ∧ Below w.heap.size w w'
set_option maxHeartbeats 2000000 in
set_option maxRecDepth 100000 in
theorem repeat_any (z : ByteArray) (g n : Nat) (w : World) (h : Blk w g #[.string z] 9) (hn : n ≤ 1000000) :
    Calls Try.prog 77 #[.slice (some ⟨g, 0, none⟩) 1 1, .int .i64 n] w (RpP z n w) := by
  have hM : Calls Try.prog 70 #[.int .u64 1, .int .u64 n] w fun e w' => e = .returned (.tuple #[.int .u64 0, .int .u64 n]) ∧ w' = w := by
    have := Try.bits_Mul 1 n (by omega) (by omega) w
    rw [Nat.one_mul, Nat.div_eq_of_lt (by omega), Nat.mod_eq_of_lt (by omega)] at this
    exact this
  have c0 := h.c; have l0 := h.lt; have f0 := h.f
  have g1 : decide ((n : Int) < 0) = false := decide_eq_false (by omega)
  have g2 : decide ((9223372036854775807 : Int) < (n : Int)) = false := decide_eq_false (by omega)
  have HB := hidI h
  clear h
  go_enter Try.func77, Try.ntmps77
  go_wp2_with fail
  with_reducible refine hM.mono ?_
  rintro e w1 ⟨rfl, hw1⟩
  subst hw1
  clear hM
  simp only []
  obtain ⟨i0, hi0, hz0, hz1, hz2⟩ := info_parts info9s
  have hmk := run_make (P := Try.prog) w1 22 9 i0 (.string ⟨#[]⟩) Try.underlying22 hi0 hz0 .i64 .i64 n n (by omega) (by omega) (by rw [hz2]; omega) (by omega)
  rw [Int.toNat_natCast, hz1, made_strs, ← rp_zero z n] at hmk
  obtain ⟨m0, hm0⟩ : ∃ m0, m0 = min 1 n := ⟨_, rfl⟩
  have hm1 : m0 ≤ n := by omega
  have hm2 : 0 < n → 0 < m0 := by omega
  have hm3 : m0 = Nat.min 1 n := hm0
  have hm4 : m0 ≤ 1 := by omega
  clear hm0
  obtain ⟨cs, hcs⟩ : ∃ cs, cs = List.replicate m0 (Value.string z) := ⟨_, rfl⟩
  have hcl : cs.length = m0 := by rw [hcs]; simp
  have HCS := hidI hcs
  have HM3 := hidI hm3
  clear hcs hm3
  have hg0 : (w1.alloc (.cells (rp z 0 n).toArray 9)).heap[w1.heap.size]? = some (.cells (rp z 0 n).toArray 9 (0, 0)) := by show (w1.heap.push _)[w1.heap.size]? = _; simp
  have HG0 := hidI hg0
  clear hg0
  have hsz : (Try.prog.info? 9).map (·.size) = some 1 := by kernel_rfl
  have aP : 0 < cs.length → (some ⟨w1.heap.size, 0, none⟩ : Option Addr) = some ⟨w1.heap.size, 0, none⟩ ∧ ∃ ad, (some ⟨g, 0, none⟩ : Option Addr) = some ad ∧ ∀ j v, cs[j]? = some v → (w1.alloc (.cells (rp z 0 n).toArray 9)).cell? (ad.add j) = some v := by
    refine fun h => ⟨rfl, ⟨g, 0, none⟩, rfl, fun j v hj => ?_⟩
    rw [HCS.out, List.getElem?_replicate] at hj
    split at hj
    · cases hj
      obtain rfl : j = 0 := by omega
      have := Blk.c (HB.out.al (.cells (rp z 0 n).toArray 9)) 0
      simpa [Addr.add] using this
    · cases hj
  have aF : 0 + cs.length ≤ (rp z 0 n).length := by rw [rp_len z 0 n (Nat.zero_le _)]; omega
  have a1 : ∀ v ∈ cs, v.oneCell' = true := by intro v hv; rw [HCS.out] at hv; rw [List.eq_of_mem_replicate hv]; rfl
  go_wp2_with (refine wpList_copy_splice rfl (.tmp 31) (.tmp 32) 22 22 rfl 9 Try.underlying22 hsz (some ⟨w1.heap.size, 0, none⟩) (some ⟨g, 0, none⟩) n n 1 1 rfl rfl w1.heap.size 0 (rp z 0 n) 9 HG0.out cs (hcl.trans HM3.out) aP aF a1 w1.heap.size w1 (below_new (Below.refl _ _) _) (Nat.le_refl _) ?_; intro w4 hg4 hb4; rw [hcl])
  have hc4 : splice (rp z 0 n) 0 cs = rp z m0 n := by rw [HCS.out]; have := rp_splice z 0 m0 n (by omega); rwa [Nat.zero_add] at this
  have HW4 : Hid (w4.heap[w1.heap.size]? = some (.cells (rp z m0 n).toArray 9 (0, 0)) ∧ Below w1.heap.size w1 w4) := hidI ⟨by have := hg4.out; rwa [hc4] at this, hb4⟩
  clear hg4 hb4 hc4 aP aF a1 hcl HG0 HCS cs HM3 c0 l0 f0 HB hmk
  go_loopw [8] (fun i wr => ∃ m : Nat, m ≤ n ∧ (0 < n → 0 < m) ∧ i = .int .i64 m ∧ Hid (wr.heap[w1.heap.size]? = some (.cells (rp z m n).toArray 9 (0, 0)) ∧ Below w1.heap.size w1 wr)) (fun i _ => n - (intOf i).toNat)
  case atStart => exact ⟨m0, hm1, hm2, rfl, HW4⟩
  case round =>
    obtain ⟨m, hm, hmp, rfl, hI⟩ := hrel
    by_cases hlt : m < n
    · have hlt' : decide ((m : Int) < (n : Int)) = true := decide_eq_true (by omega)
      have hne : ¬ (n = m) := by omega
      have hle : (m : Int) ≤ (n : Int) := by omega
      obtain ⟨j, hj⟩ : ∃ j, j = Nat.min m (n - m) := ⟨_, rfl⟩
      have hj0 : 0 < j ∧ m + j ≤ n ∧ j ≤ m := by
        have e : Nat.min m (n - m) = min m (n - m) := rfl
        rw [e] at hj; omega
      obtain ⟨cs, hcs⟩ : ∃ cs, cs = List.replicate j (Value.string z) := ⟨_, rfl⟩
      have hcl : cs.length = j := by rw [hcs]; simp
      have aQ : ∀ q v, cs[q]? = some v → wr.drew.cell? ((⟨w1.heap.size, 0, none⟩ : Addr).add q) = some v := by
        intro q v hq
        rw [hcs, List.getElem?_replicate] at hq
        split at hq
        · cases hq
          have hh := hI.out.1
          rw [Kp.add_plain', Nat.zero_add]
          show wr.cell? _ = _
          simp only [World.cell?, hh, Option.isSome_none, Bool.false_eq_true, if_false]
          simp only [rp, List.getElem?_toArray]
          rw [List.getElem?_append_left (by simp; omega), List.getElem?_replicate, if_pos (by omega)]
        · cases hq
      have aF : m + cs.length ≤ (rp z m n).length := by rw [rp_len z m n hm]; omega
      have a1 : ∀ v ∈ cs, v.oneCell' = true := by intro v hv; rw [hcs] at hv; rw [List.eq_of_mem_replicate hv]; rfl
      have HCS := hidI hcs
      have HJ := hidI hj
      clear hcs hj
      have hgd : wr.drew.heap[w1.heap.size]? = some (.cells (rp z m n).toArray 9 (0, 0)) := hI.out.1
      have hbd : Below w1.heap.size w1 wr.drew := hI.out.2.drew
      have hcj : cs.length = Nat.min m (n - m) := hcl.trans HJ.out
      have HGD := hidI hgd
      have HAP := hidI aQ
      have HCJ := hidI hcj
      clear hgd aQ hcj
      go_wp2_with fail
      go_region_law (refine step_copy_splice rfl (.tmp 41) (.tmp 44) 22 22 rfl 9 Try.underlying22 hsz (some ⟨w1.heap.size, m, none⟩) (some ⟨w1.heap.size, 0, none⟩) (n - m) (n - m) m n (by simp [Act.eval, Act.put]) (by simp [Act.eval, Act.put]) w1.heap.size m (rp z m n) 9 HGD.out cs HCJ.out (fun _ => ⟨rfl, _, rfl, HAP.out⟩) aF a1 w1.heap.size w1 hbd (Nat.le_refl _) ?_; intro w5 hg5 hb5; rw [hcl])
      have hc5 : splice (rp z m n) m cs = rp z (m + j) n := by rw [HCS.out]; exact rp_splice z m j n hj0.2.1
      have HW5 : Hid (w5.heap[w1.heap.size]? = some (.cells (rp z (m + j) n).toArray 9 (0, 0)) ∧ Below w1.heap.size w1 w5) := hidI ⟨by have := hg5.out; rwa [hc5] at this, hb5⟩
      clear hc5 hg5 hb5
      simp only [Act.put, List.getElem_toArray, List.getElem_cons_succ, List.getElem_cons_zero, List.setIfInBounds_toArray, List.set_cons_zero, List.set_cons_succ]
      go_wp2_with fail
      have hwr : IntKind.i64.wrap ((m : Int) + (j : Int)) = ((m + j : Nat) : Int) := by
        rw [show IntKind.i64.wrap ((m : Int) + (j : Int)) = wrap64 ((m : Int) + (j : Int)) by unfold wrap64; exact IntKind.wrap_i64 _]; unfold wrap64; omega
      rw [hwr]
      go_roundw
      · exact ⟨m + j, by omega, by omega, rfl, HW5⟩
      · simp [intOf]; omega
    · have hlt' : decide ((m : Int) < (n : Int)) = false := decide_eq_false (by omega)
      obtain rfl : m = n := by omega
      have hfin : Hid (RpP z m w1 (.returned (.slice (some ⟨w1.heap.size, 0, none⟩) m m)) wr) := hidI (by
        refine ⟨_, rfl, ⟨by simp [sl], .inr ⟨w1.heap.size, m, _, by simp, Nat.le_refl _, hI.out.1, by simp, by simp only [maxLen]; omega, by simp [rp_len], ?_⟩⟩, hI.out.2⟩
        rw [rp_full]
        simp only [List.size_toArray, List.length_replicate, Nat.mul_one, List.toList_toArray, List.take_replicate, Nat.min_self]
        rw [strs_encs]; simp [encs])
      go_wp2_with fail
      go_ret
      exact hfin.out
end Go.Proofs.Ytckfkbmefdmedaa
namespace Go.Proofs.Ytckfkbmefdmedaa
open Go.RowKit Go.Proofs.Kq Go.Proofs.Ytckfkbmefdmedaa.Q
open Go.Proofs.YtckfkbmefdmedaaW.PrintWords (pw_cell_below Kd Kd.C Kd.C_below encs)
set_option linter.unusedVariables false
set_option linter.unusedSimpArgs false
def e64 : ByteArray := ⟨(Lib.repeatL [0] 64).toArray⟩
theorem e64_size : e64.size = 64 := by
  unfold e64; show (List.toArray _).size = 64; rw [List.size_toArray, Lib.repeatL_length]; rfl
theorem rep_e64 : strings_Repeat.f ⟨#[0]⟩ 64 = some e64 := by
  unfold strings_Repeat.f
  rw [if_pos ⟨by omega, by omega, by show 1 * _ ≤ _; omega⟩]
  have e1 : (64 : Int).toNat = 64 := rfl
  have e2 : (⟨#[0]⟩ : ByteArray).data.toList = [0] := rfl
  rw [e1, e2]; unfold e64; rfl
def EmP (w : World) (e : Ending) (w' : World) : Prop := e = .returned (.string e64) ∧ Below w.heap.size w w'
theorem empty_any (w : World) : Calls Try.prog 32 #[] w (EmP w) := by
  have hr := strings_Repeat.calls ⟨#[0]⟩ 64 e64 w rep_e64
  go_enter Try.func32, Try.ntmps32
  go_wp2_with fail
  with_reducible refine hr.mono ?_
  rintro e w1 ⟨rfl, hb⟩
  have hfin : Hid (EmP w (.returned (.string e64)) w1) := hidI ⟨rfl, hb⟩
  clear hr hb
  simp only []
  go_wp2_with fail
  go_ret
  exact hfin.out
def NwP (n : Nat) (w : World) (e : Ending) (w' : World) : Prop := ∃ d v1, e = .returned (.pointer (some ⟨d, 0, none⟩)) ∧ DT w' w.heap.size d v1 (.slice none 0 0) ⟨List.replicate n e64, [], -1, false⟩ ∧ w.heap.size ≤ d ∧ Below w.heap.size w w'
set_option maxRecDepth 100000 in
theorem new_any (n : Nat) (w : World) (hn : n ≤ 65536) : Calls Try.prog 23 #[.int .i64 n] w (NwP n w) := by
  have g1 : decide ((n : Int) < 0) = false := decide_eq_false (by omega)
  have g2 : decide ((65536 : Int) < (n : Int)) = false := decide_eq_false (by omega)
  go_enter Try.func23, Try.ntmps23
  go_wp2_with fail
  with_reducible refine (empty_any w).mono ?_
  rintro e w1 ⟨rfl, hb1⟩
  have HB1 := hidI hb1
  clear hb1
  simp only []
  go_wp2_with fail
  have hrep := repeat_any e64 w1.heap.size n (w1.alloc (.cells #[.string e64] 9)) (Blk.new' rfl) (by omega)
  with_reducible refine hrep.mono ?_
  rintro e w2 ⟨v, rfl, hO, hb2⟩
  simp only []
  have hb2' : Below w.heap.size w w2 := below_step (below_new HB1.out _) hb2
  have hO' : Strs w2 w.heap.size v (List.replicate n e64) := hO.lower (below_new HB1.out _).size
  have hfin : Hid (NwP n w (.returned (.pointer (some ⟨w2.heap.size, 0, none⟩))) (w2.alloc (.cells #[v, .slice none 0 0, .int .i64 (-1), .bool false] 132))) := hidI
    ⟨w2.heap.size, v, rfl, ⟨Blk.new' rfl, hO'.alloc _, Go.Proofs.Kq.Own.nil _ _ _ _ _⟩, hb2'.size, below_new hb2' _⟩
  obtain ⟨A, c, rfl, _⟩ := hO.slice_
  clear hO hO' hb2 hb2' hrep
  rw [List.length_replicate] at hfin
  go_wp2_with fail
  go_ret
  exact hfin.out
end Go.Proofs.Ytckfkbmefdmedaa
namespace Go.Proofs.Ytckfkbmefdmedaa
open Go.RowKit Go.Proofs.Kq Go.Proofs.Ytckfkbmefdmedaa.Q
open Go.Proofs.YtckfkbmefdmedaaW.PrintWords (pw_cell_below Kd Kd.C Kd.C_below Kd.R_of_own Kd.R_reads encs)
set_option linter.unusedVariables false
set_option linter.unusedSimpArgs false
theorem DS_lt {w : World} {base d : Nat} {v1 v2 : Value} {s : DkS} (h : DT w base d v1 v2 s) {k : Nat} (hk : DS d v1 v2 k) : k < w.heap.size := by
  rcases hk with rfl | hk | hk
  · exact h.blk.lt
  · exact h.own.lt hk
  · exact h.pend.lt hk
end Go.Proofs.Ytckfkbmefdmedaa
namespace Go.Proofs.Ytckfkbmefdmedaa
open Go.RowKit Go.Proofs.Kq Go.Proofs.Ytckfkbmefdmedaa.Q
open Go.Proofs.YtckfkbmefdmedaaW.PrintWords (pw_cell_below Kd Kd.C Kd.C_below)
set_option linter.unusedVariables false
set_option linter.unusedSimpArgs false
theorem Fr.toB {S : Nat → Prop} {w w1 : World} {B : Nat} (h : Fr S w w1) (hS : ∀ k, S k → B ≤ k) (hB : B ≤ w.heap.size) : Below B w w1 :=
  ⟨h.os, h.tape, h.output, h.size, fun k hk => h.block k (by omega) (fun s => by have := hS k s; omega)⟩
theorem DS_ge {w : World} {base d : Nat} {v1 v2 : Value} {s : DkS} (h : DT w base d v1 v2 s) (hd : base ≤ d) {k : Nat} (hk : DS d v1 v2 k) : base ≤ k := by
  rcases hk with rfl | hk | hk
  · exact hd
  · exact h.own.ge hk
  · exact h.pend.ge hk
end Go.Proofs.Ytckfkbmefdmedaa
namespace Go.Proofs.Ytckfkbmefdmedaa
open Go.RowKit Go.Proofs.Kq
set_option linter.unusedVariables false
set_option linter.unusedSimpArgs false
theorem setAll_64 : ∀ (l : List Wr) (bs : List ByteArray), All64 bs → Wr64 l → All64 (setAll bs l)
  | [], bs, h, _ => h
  | p :: l, bs, h, hw => setAll_64 l _ (all64_set h _ (hw p (by simp))) (fun q hq => hw q (by simp [hq]))
end Go.Proofs.Ytckfkbmefdmedaa
namespace Go.Proofs.Ytckfkbmefdmedaa
open Go.RowKit Go.Proofs.Kq
set_option linter.unusedVariables false
set_option linter.unusedSimpArgs false
structure Good (n m : Nat) (s : DkS) : Prop where
  len : s.bs.length = n
  b64 : All64 s.bs
  w64 : Wr64 s.ps
  ins : inB n s.ps
  few : s.ps.length ≤ m
  fuse : -9223372036854775808 ≤ s.fuse ∧ s.fuse ≤ 9223372036854775807
theorem thN_in {f : Int} (h : -9223372036854775808 ≤ f ∧ f ≤ 9223372036854775807) : -9223372036854775808 ≤ thN f ∧ thN f ≤ 9223372036854775807 := by
  unfold thN; split <;> omega
theorem us_in {n : Nat} {dead : Bool} {at_ : Int} (h : usF n dead at_ = 0) : dead = false ∧ 0 ≤ at_ ∧ at_ < n := by
  unfold usF at h
  cases dead
  · refine ⟨rfl, ?_⟩
    rw [if_neg (by decide)] at h
    split at h <;> omega
  · rw [if_pos rfl] at h; omega
theorem wrS_good {n m : Nat} {s : DkS} (h : Good n m s) (at_ : Int) (x : ByteArray) : Good n (m + 1) (wrS s at_ x).2 := by
  have hm : Good n (m + 1) s := ⟨h.len, h.b64, h.w64, h.ins, Nat.le_succ_of_le h.few, h.fuse⟩
  unfold wrS
  split
  · rename_i hu
    split
    · rename_i hx
      obtain ⟨_, h1, h2⟩ := us_in hu
      rw [h.len] at h2
      refine ⟨h.len, h.b64, ?_, ?_, ?_, thN_in h.fuse⟩
      · intro p hp
        rcases List.mem_append.1 hp with h3 | h3
        · exact h.w64 p h3
        · rcases List.mem_singleton.1 h3 with rfl; exact hx
      · intro p hp
        rcases List.mem_append.1 hp with h3 | h3
        · exact h.ins p h3
        · rcases List.mem_singleton.1 h3 with rfl; exact ⟨h1, h2⟩
      · show (s.ps ++ [_]).length ≤ m + 1
        have := h.few
        simp; omega
    · exact hm
  · exact hm
theorem syS_good {n m : Nat} {s : DkS} (h : Good n m s) : Good n m (syS s).2 := by
  unfold syS
  split
  · exact h
  · split
    · exact ⟨by show (setAll s.bs s.ps).length = n; rw [setAll_len, h.len], setAll_64 _ _ h.b64 h.w64, fun p hp => by simp at hp, fun p hp => by simp at hp, Nat.zero_le _, thN_in h.fuse⟩
    · exact ⟨h.len, h.b64, h.w64, h.ins, h.few, thN_in h.fuse⟩
end Go.Proofs.Ytckfkbmefdmedaa
namespace Go.Proofs.Ytckfkbmefdmedaa
open Go.RowKit Go.Proofs.Kq Go.Proofs.Ytckfkbmefdmedaa.Q
set_option linter.unusedVariables false
set_option linter.unusedSimpArgs false
def Recs (l : List ByteArray) : List ByteArray → Nat → Nat → Nat → Prop
  | [], _, a, b => a = b
  | p :: ps, num, a, b => ∃ n, Rec (num : Int) (l.drop a) p n ∧ Recs l ps (num + 1) (a + n) b
def RecsEnd (l : List ByteArray) (ps : List ByteArray) (num a b : Nat) : Prop := Recs l ps num a b ∧ ∀ p n, ¬ Rec ((num + ps.length : Nat) : Int) (l.drop b) p n
theorem Recs.le {l : List ByteArray} : ∀ {ps : List ByteArray} {num a b : Nat}, Recs l ps num a b → a ≤ l.length → a + ps.length ≤ b ∧ b ≤ l.length
  | [], num, a, b, h, ha => by obtain rfl : a = b := h; simp; exact ha
  | p :: ps, num, a, b, ⟨n, hR, h⟩, ha => by
    have h1 := hR.1
    have h2 := hR.2.2.1
    rw [List.length_drop] at h2
    have := Recs.le h (by omega)
    simp; omega
theorem recs_ex (l : List ByteArray) : ∀ (d a num : Nat), l.length - a ≤ d → a ≤ l.length → ∃ ps b, RecsEnd l ps num a b
  | d, a, num, hd, ha => by
    by_cases h : ∃ p n, Rec (num : Int) (l.drop a) p n
    · obtain ⟨p, n, h⟩ := h
      have h1 := h.1
      have h2 := h.2.2.1
      rw [List.length_drop] at h2
      match d, hd with
      | 0, hd => omega
      | d + 1, hd =>
        obtain ⟨ps, b, h3, h4⟩ := recs_ex l d (a + n) (num + 1) (by omega) (by omega)
        exact ⟨p :: ps, b, ⟨n, h, h3⟩, by rw [List.length_cons, show num + (ps.length + 1) = num + 1 + ps.length by omega]; exact h4⟩
    · exact ⟨[], a, rfl, fun p n h2 => h ⟨p, n, h2⟩⟩
theorem rec_take {number : Int} {l : List ByteArray} {p : ByteArray} {n m : Nat} (hm : 255 ≤ m) : Rec number (l.take m) p n ↔ Rec number l p n := by
  unfold Rec
  constructor
  · rintro ⟨h1, h2, h3, h4, h5⟩
    rw [List.length_take] at h3
    rw [List.take_take, Nat.min_eq_left (by omega)] at h5
    exact ⟨h1, h2, by omega, h4, h5⟩
  · rintro ⟨h1, h2, h3, h4, h5⟩
    refine ⟨h1, h2, by rw [List.length_take]; omega, h4, ?_⟩
    rw [List.take_take, Nat.min_eq_left (by omega)]; exact h5
theorem unpack_f (number : Nat) (l : List ByteArray) (hn : number < 4294967295) (hl : 0 < l.length) (hl2 : l.length ≤ 10000000000000) : block_Unpack.f (number : Int) l = some (unpF (number : Int) l l.length 0 []) := by
  unfold block_Unpack.f unpackF
  rw [if_pos hl2, if_neg (by omega), if_neg (by omega)]
theorem jrec_loop (l : List ByteArray) (hl : l.length ≤ 1000000) : ∀ (ps : List ByteArray) (num a b : Nat) (acc : List ByteArray), acc.length = num → num + l.length - a ≤ 1000000 → a ≤ l.length → RecsEnd l ps num a b → num ≤ a → EvT (fun k => journal_Records.l0 k l acc (a : Int)) (acc ++ ps, (b : Int))
  | ps, num, a, b, acc, hacc, hnum, ha, h, hna => by
    have ew : wrap64 ((a : Int) + 255) = ((a + 255 : Nat) : Int) := by unfold wrap64; omega
    by_cases hal : a < l.length
    · -- what Unpack tells here
      have hu : ∃ z : List ByteArray, z.length ≤ l.length ∧ 0 < z.length ∧ (∀ q n, Rec (num : Int) z q n ↔ Rec (num : Int) (l.drop a) q n) ∧
          (∀ k, journal_Records.l0 (k + 1) l acc (a : Int) = (block_Unpack.f (acc.length : Int) z).bind fun bt => if bt.2.2 = 0 then (if acc.length < 8796093022208 then (journal_Records.l0 k l (acc ++ [bt.1]) (wrap64 ((a : Int) + bt.2.1))) else none) else some (acc, (a : Int))) := by
        by_cases h5 : a + 255 < l.length
        · refine ⟨(l.take (a + 255)).drop a, by simp; omega, by simp; omega, fun q n => ?_, fun k => ?_⟩
          · rw [List.drop_take, show a + 255 - a = 255 by omega]; exact rec_take (Nat.le_refl _)
          · rw [journal_Records.l0, if_pos (by omega), ew, if_pos (by omega), if_pos (by omega), if_pos (by omega), if_pos (by omega)]
            simp only [Int.toNat_natCast]
        · refine ⟨l.drop a, by simp, by simp; omega, fun q n => Iff.rfl, fun k => ?_⟩
          rw [journal_Records.l0, if_pos (by omega), ew, if_neg (by omega), if_pos (by omega), if_pos (by omega), if_pos (by omega)]
          simp only [Int.toNat_natCast, List.take_length]
      obtain ⟨z, hz1, hz2, hz3, hz4⟩ := hu
      have hf := unpack_f num z (by omega) hz2 (by omega)
      rw [← hacc] at hf
      match ps, h with
      | [], h =>
        obtain ⟨h1, h2⟩ := h
        have h1 : a = b := h1
        subst h1
        have hno := unp_none (num : Int) z (fun q n hR => h2 q n ((hz3 q n).1 hR))
        refine EvT.done (fun k => ?_)
        rw [hz4, hf, Option.bind_some]
        rw [hacc, hno]
        unfold badU
        rw [if_neg (by decide), List.append_nil]
      | p :: ps, ⟨⟨n, hR, h1⟩, h2⟩ =>
        have hn1 := hR.1
        have hn2 := hR.2.2.1
        rw [List.length_drop] at hn2
        have hok := unp_ok ((hz3 p n).2 hR)
        rw [List.length_cons, show num + (ps.length + 1) = num + 1 + ps.length by omega] at h2
        have ih := jrec_loop l hl ps (num + 1) (a + n) b (acc ++ [p]) (by simp; omega) (by omega) (by omega) ⟨h1, h2⟩ (by omega)
        rw [List.append_assoc] at ih
        refine EvT.step (fun k => ?_) ih
        rw [hz4, hf, Option.bind_some]
        rw [hacc, hok, if_pos rfl, if_pos (by omega)]
        show journal_Records.l0 k l (acc ++ [p]) (wrap64 ((a : Int) + (n : Int))) = _
        rw [show wrap64 ((a : Int) + (n : Int)) = ((a + n : Nat) : Int) by unfold wrap64; omega]
    · match ps, h with
      | [], h =>
        have h1 : a = b := h.1
        subst h1
        refine EvT.done (fun k => ?_)
        rw [journal_Records.l0, if_neg (by omega), List.append_nil]
      | p :: ps, ⟨⟨n, hR, h1⟩, h2⟩ =>
        have hn1 := hR.1
        have hn2 := hR.2.2.1
        rw [List.length_drop] at hn2
        omega
  termination_by ps => ps.length
theorem jrec_ok {l ps : List ByteArray} {b : Nat} (hl : l.length ≤ 1000000) (h : RecsEnd l ps 0 0 b) : EvT (fun k => journal_Records.f k l) (ps, (b : Int)) :=
  jrec_loop l hl ps 0 0 b [] rfl (by omega) (Nat.zero_le _) h (Nat.le_refl _)
theorem rrec_loop (l : List ByteArray) (hl : l.length ≤ 1000000) : ∀ (ps : List ByteArray) (num a b : Nat) (acc : List ByteArray), acc.length = num → num + l.length - a ≤ 1000000 → a ≤ l.length → RecsEnd l ps num a b → num ≤ a → EvT (fun k => soukref05_Records.l0 k l acc (a : Int)) (acc ++ ps, (b : Int))
  | ps, num, a, b, acc, hacc, hnum, ha, h, hna => by
    by_cases hal : a < l.length
    · have hf : soukref03_Payload.f (acc.length : Int) (l.drop a) = some (payF (num : Int) (l.drop a) (l.drop a).length 0 ⟨#[]⟩) := by
        unfold soukref03_Payload.f; rw [if_pos ⟨by rw [List.length_drop]; omega, by rw [List.length_drop]; omega⟩, hacc]
      have hz4 : ∀ k, soukref05_Records.l0 (k + 1) l acc (a : Int) = (soukref03_Payload.f (acc.length : Int) (l.drop a)).bind fun bt => if bt.2 = 0 then some (acc, (a : Int)) else (if acc.length < 8796093022208 then (soukref05_Records.l0 k l (acc ++ [bt.1]) (wrap64 ((a : Int) + bt.2))) else none) := fun k => by
        rw [soukref05_Records.l0, if_pos (by omega), if_pos (by omega), if_pos (by omega), Int.toNat_natCast]
      match ps, h with
      | [], h =>
        obtain ⟨h1, h2⟩ := h
        have h1 : a = b := h1
        subst h1
        have hno := pay_none (num : Int) (l.drop a) h2 (l.drop a).length 0 ⟨#[]⟩ (by omega)
        refine EvT.done (fun k => ?_)
        rw [hz4, hf, Option.bind_some]
        rw [hno, if_pos rfl, List.append_nil]
      | p :: ps, ⟨⟨n, hR, h1⟩, h2⟩ =>
        have hn1 := hR.1
        have hn2 := hR.2.2.1
        rw [List.length_drop] at hn2
        have hok := pay_ok (by omega) (by omega) hR
        rw [List.length_cons, show num + (ps.length + 1) = num + 1 + ps.length by omega] at h2
        have ih := rrec_loop l hl ps (num + 1) (a + n) b (acc ++ [p]) (by simp; omega) (by omega) (by omega) ⟨h1, h2⟩ (by omega)
        rw [List.append_assoc] at ih
        refine EvT.step (fun k => ?_) ih
        rw [hz4, hf, Option.bind_some]
        rw [hok, if_neg (by show ¬ ((n : Int) = 0); omega), if_pos (by omega)]
        show soukref05_Records.l0 k l (acc ++ [p]) (wrap64 ((a : Int) + (n : Int))) = _
        rw [show wrap64 ((a : Int) + (n : Int)) = ((a + n : Nat) : Int) by unfold wrap64; omega]
    · match ps, h with
      | [], h =>
        have h1 : a = b := h.1
        subst h1
        refine EvT.done (fun k => ?_)
        rw [soukref05_Records.l0, if_neg (by omega), List.append_nil]
      | p :: ps, ⟨⟨n, hR, h1⟩, h2⟩ =>
        have hn1 := hR.1
        have hn2 := hR.2.2.1
        rw [List.length_drop] at hn2
        omega
  termination_by ps => ps.length
theorem rrec_ok {l ps : List ByteArray} {b : Nat} (hl : l.length ≤ 1000000) (h : RecsEnd l ps 0 0 b) : EvT (fun k => soukref05_Records.f k l) (ps, (b : Int)) :=
  rrec_loop l hl ps 0 0 b [] rfl (by omega) (Nat.zero_le _) h (Nat.le_refl _)
theorem rec_of_take {number : Int} {l l' : List ByteArray} {p : ByteArray} {n : Nat} (h : Rec number l p n) (he : l'.take n = l.take n) : Rec number l' p n := by
  obtain ⟨h1, h2, h3, h4, h5⟩ := h
  refine ⟨h1, h2, ?_, h4, by rw [he]; exact h5⟩
  have := congrArg List.length he
  rw [List.length_take, List.length_take] at this
  omega
theorem Recs.keep {l l' : List ByteArray} : ∀ {ps : List ByteArray} {num a b : Nat}, Recs l ps num a b → a ≤ l.length → l'.take b = l.take b → Recs l' ps num a b
  | [], num, a, b, h, ha, he => h
  | p :: ps, num, a, b, ⟨n, hR, h⟩, ha, he => by
    have h1 := hR.1
    have h2 := hR.2.2.1
    rw [List.length_drop] at h2
    have hb := Recs.le h (by omega)
    refine ⟨n, rec_of_take hR ?_, Recs.keep h (by omega) he⟩
    have e1 : ∀ m : List ByteArray, (m.drop a).take n = ((m.take b).drop a).take n := fun m => by
      rw [List.drop_take, List.take_take, Nat.min_eq_left (by omega)]
    rw [e1 l', e1 l, he]
theorem Recs.snoc {l : List ByteArray} {p : ByteArray} {n : Nat} : ∀ {ps : List ByteArray} {num a b : Nat}, Recs l ps num a b → Rec ((num + ps.length : Nat) : Int) (l.drop b) p n → Recs l (ps ++ [p]) num a (b + n)
  | [], num, a, b, h, hR => by
    have h : a = b := h
    subst h
    exact ⟨n, by simpa using hR, rfl⟩
  | q :: ps, num, a, b, ⟨m, hm, h⟩, hR => by
    refine ⟨m, hm, Recs.snoc h ?_⟩
    rw [List.length_cons, show num + (ps.length + 1) = num + 1 + ps.length by omega] at hR
    exact hR
theorem rec_zero (number : Nat) (hn : number < 4294967295) (l : List ByteArray) (h : ∀ h0 : 0 < l.length, l[0] = e64) : ∀ p n, ¬ Rec (number : Int) l p n := by
  intro p n hR
  have h0 : 0 < l.length := by have := hR.1; have := hR.2.2.1; omega
  have e := hR.at_ 0 hR.1 h0
  rw [h h0] at e
  have e2 := one_tail (number : Int) (0 : Nat) n (chunk (bl p) 0) (chunk_le _ _)
  rw [← e] at e2
  exact (far_zero (number : Int) (by omega) (by omega)).2 e2
structure Jn (bs R : List ByteArray) (at_ : Nat) : Prop where
  recs : Recs bs R 0 0 at_
  zero : ∀ i (h : i < bs.length), at_ ≤ i → bs[i] = e64
theorem Jn.le {bs R : List ByteArray} {at_ : Nat} (h : Jn bs R at_) : R.length ≤ at_ ∧ at_ ≤ bs.length := by have := h.recs.le (Nat.zero_le _); omega
theorem Jn.end_ {bs R : List ByteArray} {at_ : Nat} (h : Jn bs R at_) (hl : bs.length ≤ 1000000) : RecsEnd bs R 0 0 at_ := by
  have := h.le
  refine ⟨h.recs, rec_zero _ (by omega) _ (fun h0 => ?_)⟩
  rw [List.getElem_drop]
  exact h.zero _ _ (by omega)
theorem jn_new (n : Nat) : Jn (List.replicate n e64) [] 0 := ⟨rfl, fun i h _ => by simp⟩
end Go.Proofs.Ytckfkbmefdmedaa
namespace Go.Proofs.Ytckfkbmefdmedaa
open Go.RowKit Go.Proofs.Kq Go.Proofs.Ytckfkbmefdmedaa.Q
set_option linter.unusedVariables false
set_option linter.unusedSimpArgs false
def wrL (s : DkS) : Nat → List ByteArray → Int × DkS
  | _, [] => (0, s)
  | a, x :: l => if (wrS s a x).1 = 0 then wrL (wrS s a x).2 (a + 1) l else wrS s a x
def apF (s : DkS) (at_ cnt : Nat) (p : ByteArray) : Int × DkS :=
  if s.dead = true then (7, s)
  else if (packF cnt (bl p)).2 = 0 then
    (if s.bs.length < at_ + (packF cnt (bl p)).1.length then (6, s)
     else if (wrL s at_ (packF cnt (bl p)).1).1 = 0 then syS (wrL s at_ (packF cnt (bl p)).1).2 else wrL s at_ (packF cnt (bl p)).1)
  else (1, s)
def erL (s : DkS) : Nat → Bool → List ByteArray → Int × DkS
  | _, b, [] => if b = true then syS s else (0, s)
  | i, b, x :: l => if x = e64 then erL s (i + 1) b l else if (wrS s i e64).1 = 0 then erL (wrS s i e64).2 (i + 1) true l else wrS s i e64
theorem wrL_good {n : Nat} : ∀ (l : List ByteArray) (m : Nat) (s : DkS) (a : Nat), Good n m s → Good n (m + l.length) (wrL s a l).2
  | [], m, s, a, h => h
  | x :: l, m, s, a, h => by
    have h1 := wrS_good h a x
    unfold wrL
    split
    · have := wrL_good l (m + 1) _ (a + 1) h1
      rw [List.length_cons, show m + (l.length + 1) = m + 1 + l.length by omega]; exact this
    · exact ⟨h1.len, h1.b64, h1.w64, h1.ins, by have := h1.few; simp; omega, h1.fuse⟩
theorem Good.mono {n m m' : Nat} {s : DkS} (h : Good n m s) (hm : m ≤ m') : Good n m' s := ⟨h.len, h.b64, h.w64, h.ins, Nat.le_trans h.few hm, h.fuse⟩
theorem erL_good {n : Nat} : ∀ (l : List ByteArray) (m : Nat) (s : DkS) (i : Nat) (b : Bool), Good n m s → Good n (m + l.length) (erL s i b l).2
  | [], m, s, i, b, h => by
    unfold erL
    split
    · exact syS_good h
    · exact h
  | x :: l, m, s, i, b, h => by
    unfold erL
    split
    · exact (erL_good l m s (i + 1) b h).mono (by simp)
    · have h1 := wrS_good h i e64
      split
      · exact (erL_good l (m + 1) _ (i + 1) true h1).mono (by simp; omega)
      · exact h1.mono (by simp)
theorem apF_good {n m : Nat} {s : DkS} (h : Good n m s) (at_ cnt : Nat) (p : ByteArray) : Good n (m + (packF cnt (bl p)).1.length) (apF s at_ cnt p).2 := by
  have h0 : Good n (m + (packF cnt (bl p)).1.length) s := h.mono (by omega)
  have h1 := wrL_good (packF cnt (bl p)).1 m s at_ h
  unfold apF
  split
  · exact h0
  · split
    · split
      · exact h0
      · split
        · exact syS_good h1
        · exact h1
    · exact h0
theorem blkR_size (n : Int) (L : List UInt8) (c : Nat) : ∀ r i, ∀ x ∈ blkR n L c i r, x.size = 64
  | 0, i, x, h => by simp [blkR] at h
  | r + 1, i, x, h => by
    simp only [blkR, List.mem_cons] at h
    rcases h with rfl | h
    · exact one_size _ _ _ _ (chunk_le _ _)
    · exact blkR_size n L c r (i + 1) x h
theorem packF_size {n : Int} {L : List UInt8} : ∀ x ∈ (packF n L).1, x.size = 64 := by
  unfold packF
  split
  · intro x h; simp at h
  · exact blkR_size _ _ _ _ _
theorem packF_len {n : Int} {L : List UInt8} : (packF n L).1.length ≤ 255 := by
  unfold packF
  split
  · simp
  · rw [blkR_len]; omega
theorem wrS_ok (bs : List ByteArray) (ps : List Wr) (f : Int) (a : Nat) (x : ByteArray) (ha : a < bs.length) (hx : x.size = 64) : wrS ⟨bs, ps, f, false⟩ (a : Int) x = (if f = 0 then 7 else 0, ⟨bs, ps ++ [⟨a, x⟩], thN f, decide (f = 0)⟩) := by
  have hu : usF bs.length false (a : Int) = 0 := by
    unfold usF; rw [if_neg (by decide), if_neg (by omega)]
  unfold wrS
  rw [if_pos hu, if_pos hx]
  by_cases h : f = 0
  · subst h; rfl
  · simp [thF, h]
def wsL : Nat → List ByteArray → List Wr
  | _, [] => []
  | a, x :: l => ⟨(a : Int), x⟩ :: wsL (a + 1) l
theorem wsL_len : ∀ (a : Nat) (l : List ByteArray), (wsL a l).length = l.length
  | a, [] => rfl
  | a, x :: l => by simp [wsL, wsL_len]
theorem wrL_ok (bs : List ByteArray) (f : Int) (hf : f < 0) : ∀ (l : List ByteArray) (a : Nat) (ps : List Wr), a + l.length ≤ bs.length → (∀ x ∈ l, x.size = 64) → wrL ⟨bs, ps, f, false⟩ a l = (0, ⟨bs, ps ++ wsL a l, f, false⟩)
  | [], a, ps, h, hx => by simp [wrL, wsL]
  | x :: l, a, ps, h, hx => by
    rw [List.length_cons] at h
    have e := wrS_ok bs ps f a x (by omega) (hx x (by simp))
    have hn : thN f = f := by unfold thN; rw [if_neg (by omega)]
    rw [if_neg (by omega), hn, decide_eq_false (by omega)] at e
    unfold wrL
    rw [e, if_pos rfl]
    have := wrL_ok bs f hf l (a + 1) (ps ++ [⟨a, x⟩]) (by omega) (fun y hy => hx y (by simp [hy]))
    rw [this, wsL, List.append_assoc]; rfl
theorem syS_ok (bs : List ByteArray) (ps : List Wr) (f : Int) (hf : f < 0) : syS ⟨bs, ps, f, false⟩ = (0, ⟨setAll bs ps, [], f, false⟩) := by
  have hn : thN f = f := by unfold thN; rw [if_neg (by omega)]
  have h0 : f ≠ 0 := by omega
  unfold syS
  simp [thF, h0, hn]
theorem setAll_wsL : ∀ (l : List ByteArray) (a : Nat) (bs : List ByteArray), a + l.length ≤ bs.length → setAll bs (wsL a l) = bs.take a ++ l ++ bs.drop (a + l.length)
  | [], a, bs, h => by simp [wsL, setAll]
  | x :: l, a, bs, h => by
    rw [List.length_cons] at h
    have ih := setAll_wsL l (a + 1) (bs.set a x) (by rw [List.length_set]; omega)
    have e : setAll bs (wsL a (x :: l)) = setAll (bs.set a x) (wsL (a + 1) l) := by
      show setAll (bs.set ((a : Int)).toNat x) _ = _
      rw [Int.toNat_natCast]
    rw [e, ih, List.length_cons]
    have e1 : (bs.set a x).take (a + 1) = bs.take a ++ [x] := by
      rw [List.take_succ_eq_append_getElem (by rw [List.length_set]; omega), List.getElem_set_self, List.take_set_of_le (Nat.le_refl _)]
    have e2 : (bs.set a x).drop (a + 1 + l.length) = bs.drop (a + (l.length + 1)) := by
      rw [List.drop_set_of_lt (by omega), show a + 1 + l.length = a + (l.length + 1) by omega]
    rw [e1, e2]; simp
theorem Jn.more {bs R : List ByteArray} {at_ : Nat} (h : Jn bs R at_) (p : ByteArray) (l : List ByteArray) (hl : packF (R.length : Int) (bl p) = (l, 0)) (hn : at_ + l.length ≤ bs.length) : Jn (bs.take at_ ++ l ++ bs.drop (at_ + l.length)) (R ++ [p]) (at_ + l.length) := by
  have hle := h.le
  have hta : (bs.take at_ ++ l ++ bs.drop (at_ + l.length)).take at_ = bs.take at_ := by
    rw [List.append_assoc, List.take_append_of_le_length (by rw [List.length_take]; omega), List.take_take, Nat.min_self]
  have hda : (bs.take at_ ++ l ++ bs.drop (at_ + l.length)).drop at_ = l ++ bs.drop (at_ + l.length) := by
    rw [List.append_assoc, List.drop_append_of_le_length (by rw [List.length_take]; omega), List.drop_eq_nil_of_le (by rw [List.length_take]; omega), List.nil_append]
  refine ⟨Recs.snoc (h.recs.keep (Nat.zero_le _) hta) ?_, fun i hi hai => ?_⟩
  · rw [hda, Nat.zero_add]
    unfold packF at hl
    split at hl
    · simp at hl
    · injection hl with h1 _
      rw [← h1]
      rw [blkR_len]
      exact packs_rec (R.length : Int) p _ rfl (by omega) (by omega) _
  · simp only [List.length_append, List.length_take, List.length_drop] at hi
    rw [List.getElem_append_right (by simp; omega), List.getElem_drop]
    refine h.zero _ _ (by simp; omega)
theorem apF_ok {bs R : List ByteArray} {at_ : Nat} (h : Jn bs R at_) (f : Int) (hf : f < 0) (p : ByteArray) :
    apF ⟨bs, [], f, false⟩ at_ R.length p = if (packF (R.length : Int) (bl p)).2 = 0 then (if bs.length < at_ + (packF (R.length : Int) (bl p)).1.length then (6, ⟨bs, [], f, false⟩) else (0, ⟨bs.take at_ ++ (packF (R.length : Int) (bl p)).1 ++ bs.drop (at_ + (packF (R.length : Int) (bl p)).1.length), [], f, false⟩)) else (1, ⟨bs, [], f, false⟩) := by
  unfold apF
  rw [if_neg (show ¬ (false = true) by decide)]
  split
  · split
    · rfl
    · rename_i h1 h2
      have h3 : at_ + (packF (R.length : Int) (bl p)).1.length ≤ bs.length := by
        have : ¬ bs.length < at_ + (packF (R.length : Int) (bl p)).1.length := h2
        omega
      have e := wrL_ok bs f hf (packF (R.length : Int) (bl p)).1 at_ [] h3 packF_size
      rw [e, if_pos rfl, List.nil_append, syS_ok _ _ _ hf, setAll_wsL _ _ _ h3]
  · rfl
theorem erL_ok (f : Int) (hf : f < 0) : ∀ (l : List ByteArray) (bs : List ByteArray) (ps : List Wr) (i : Nat) (b : Bool), (b = false → ps = []) → i + l.length = bs.length → (setAll bs ps).drop i = l → (∀ p ∈ ps, 0 ≤ p.at_ ∧ p.at_ < i) →
    erL ⟨bs, ps, f, false⟩ i b l = (0, ⟨(setAll bs ps).take i ++ List.replicate l.length e64, [], f, false⟩)
  | [], bs, ps, i, b, hb, hi, hd, hp => by
    unfold erL
    have e0 : (setAll bs ps).take i = setAll bs ps := List.take_of_length_le (by rw [setAll_len]; simp at hi; omega)
    cases b
    · have := hb rfl
      subst this
      rw [if_neg (by decide), e0]; simp [setAll]
    · rw [if_pos rfl, syS_ok _ _ _ hf, e0]; simp
  | x :: l, bs, ps, i, b, hb, hi, hd, hp => by
    rw [List.length_cons] at hi
    have hil : i < (setAll bs ps).length := by rw [setAll_len]; omega
    have hx : (setAll bs ps)[i] = x := by
      have := congrArg (fun l => l[0]?) hd
      simp only [List.getElem?_drop, List.getElem?_cons_zero, Nat.add_zero, List.getElem?_eq_getElem hil] at this
      exact Option.some.inj this
    have hdl : (setAll bs ps).drop (i + 1) = l := by
      have := congrArg (List.drop 1) hd
      rw [List.drop_drop] at this
      simpa using this
    unfold erL
    split
    · rename_i h0
      rw [erL_ok f hf l bs ps (i + 1) b hb (by omega) hdl (fun p hp' => by have := hp p hp'; omega)]
      rw [List.take_succ_eq_append_getElem hil, hx, h0, List.length_cons, List.replicate_succ, List.append_assoc]; rfl
    · have e := wrS_ok bs ps f i e64 (by omega) e64_size
      have hn : thN f = f := by unfold thN; rw [if_neg (by omega)]
      rw [if_neg (by omega), hn, decide_eq_false (by omega)] at e
      rw [e, if_pos rfl]
      show erL ⟨bs, ps ++ [⟨i, e64⟩], f, false⟩ (i + 1) true l = _
      have es : setAll bs (ps ++ [(⟨(i : Int), e64⟩ : Wr)]) = (setAll bs ps).set i e64 := by rw [setAll_snoc]; simp
      rw [erL_ok f hf l bs (ps ++ [(⟨(i : Int), e64⟩ : Wr)]) (i + 1) true (fun h => by cases h) (by omega) (by rw [es, List.drop_set_of_lt (by omega)]; exact hdl) (fun p hp' => by
        rcases List.mem_append.1 hp' with h1 | h1
        · have := hp p h1; omega
        · rcases List.mem_singleton.1 h1 with rfl; exact ⟨by show 0 ≤ (i : Int); omega, by show (i : Int) < ((i + 1 : Nat) : Int); omega⟩)]
      rw [es, List.take_succ_eq_append_getElem (by rw [List.length_set]; exact hil), List.getElem_set_self, List.take_set_of_le (Nat.le_refl _), List.length_cons, List.replicate_succ, List.append_assoc]; rfl
theorem erL_new (f : Int) (hf : f < 0) (bs : List ByteArray) (a : Nat) (ha : a ≤ bs.length) : erL ⟨bs, [], f, false⟩ a false (bs.drop a) = (0, ⟨bs.take a ++ List.replicate (bs.length - a) e64, [], f, false⟩) := by
  rw [erL_ok f hf (bs.drop a) bs [] a false (fun _ => rfl) (by rw [List.length_drop]; omega) rfl (fun p hp => by simp at hp), List.length_drop]; rfl
theorem erL_same (s : DkS) : ∀ (l : List ByteArray) (i : Nat), (∀ x ∈ l, x = e64) → erL s i false l = (0, s)
  | [], i, h => rfl
  | x :: l, i, h => by
    unfold erL
    rw [if_pos (h x (by simp))]
    exact erL_same s l (i + 1) (fun y hy => h y (by simp [hy]))
theorem jn_cut {bs R : List ByteArray} {a : Nat} (h : Recs bs R 0 0 a) (ha : a ≤ bs.length) : Jn (bs.take a ++ List.replicate (bs.length - a) e64) R a := by
  refine ⟨h.keep (Nat.zero_le _) (by rw [List.take_append_of_le_length (by rw [List.length_take]; omega), List.take_take, Nat.min_self]), fun i hi hai => ?_⟩
  rw [List.getElem_append_right (by rw [List.length_take]; omega)]
  simp
end Go.Proofs.Ytckfkbmefdmedaa
namespace Go.Proofs.Ytckfkbmefdmedaa
open Go.RowKit Go.Proofs.Kq
open Go.Proofs.YtckfkbmefdmedaaW.PrintWords (pw_cell_below Kd Kd.C Kd.C_below encs)
set_option linter.unusedVariables false
set_option linter.unusedSimpArgs false
def zk (k : Nat) : ByteArray := ⟨(Lib.repeatL [0] k).toArray⟩
theorem zk_succ (k : Nat) : zk k ++ (⟨#[0]⟩ : ByteArray) = zk (k + 1) := by
  unfold zk
  rw [Lib.repeatL_add]
  apply ByteArray.ext
  simp [Lib.repeatL]
def REm (w : World) (e : Ending) (w' : World) : Prop := e = .returned (.string e64) ∧ w' = w
theorem rempty_any (w : World) : Calls Try.prog 81 #[] w (REm w) := by
  go_enter Try.func81, Try.ntmps81
  go_wp2_with fail
  go_loop [1, 2] (fun s i => ∃ k : Nat, k ≤ 64 ∧ i = .int .i64 k ∧ ∃ x : ByteArray, s = .string x ∧ x.size = k ∧ Hid (x = zk k)) (fun _ i => 64 - (intOf i).toNat)
  case atStart => exact ⟨0, by decide, rfl, ⟨#[]⟩, rfl, rfl, hidI rfl⟩
  case round =>
    obtain ⟨k, hk, rfl, x, rfl, hxs, hx⟩ := hrel
    by_cases hlt : k < 64
    · have g1 : decide ((k : Int) < 64) = true := decide_eq_true (by omega)
      have g2 : decide (k < 64) = true := decide_eq_true hlt
      have g3 : ¬ (9223372036854775807 < k + 1) := by omega
      have hnx : Hid (x ++ (⟨#[0]⟩ : ByteArray) = zk (k + 1)) := hidI (by rw [hx.out, zk_succ])
      go_wp2_with fail
      exact ⟨⟨k + 1, by omega, by simp, _, rfl, by rw [ByteArray.size_append, hxs]; rfl, hnx⟩, by simp [intOf]; omega⟩
    · have g1 : decide ((k : Int) < 64) = false := decide_eq_false (by omega)
      have g2 : decide (k < 64) = false := decide_eq_false hlt
      have hfin : Hid (REm w (.returned (.string x)) w) := hidI (by
        have e : x = e64 := by rw [hx.out, show k = 64 by omega]; rfl
        rw [e]; exact ⟨rfl, rfl⟩)
      clear hxs
      go_wp2_with fail
      go_ret
      exact hfin.out
def RNw (n : Nat) (w : World) (e : Ending) (w' : World) : Prop := ∃ v1, e = .returned (.pointer (some ⟨w.heap.size, 0, none⟩)) ∧ ET w' w.heap.size w.heap.size v1 (.slice none 0 0) ⟨List.replicate n e64, [], -1, false⟩ ∧ Below w.heap.size w w'
set_option maxRecDepth 100000 in
set_option maxHeartbeats 2000000 in
theorem rnew_any (n : Nat) (w : World) (hn : n ≤ 1000) : Calls Try.prog 36 #[.int .i64 n] w (RNw n w) := by
  go_enter Try.func36, Try.ntmps36
  go_wp2_with fail
  with_reducible refine (rempty_any _).mono ?_
  rintro e w1 ⟨rfl, hw1⟩
  have hB1 : Blk w1 w.heap.size #[.slice none 0 0, .slice none 0 0, .int .i64 (-1), .bool false] 65 := by rw [hw1]; exact Blk.new' rfl
  have hb1 : Below w.heap.size w w1 := by rw [hw1]; exact below_new (Below.refl _ _) _
  have HD1 : Hid (Et w1 w.heap.size w.heap.size (.slice none 0 0) (.slice none 0 0) [] [] (-1) false ∧ Below w.heap.size w w1) := hidI ⟨⟨hB1, Go.Proofs.Kq.Own.nil _ _ _ _ _, Go.Proofs.Kq.Own.nil _ _ _ _ _⟩, hb1⟩
  clear hB1 hb1
  subst hw1
  simp only []
  go_wp2_with fail
  obtain ⟨i0, hi0, hz0, hz1, hz2⟩ := info_parts info9s
  go_loopw [5] (fun i wr => ∃ k : Nat, k ≤ n ∧ i = .int .i64 k ∧ ∃ v1, Hid (Et wr w.heap.size w.heap.size v1 (.slice none 0 0) (List.replicate k e64) [] (-1) false ∧ Below w.heap.size w wr)) (fun i _ => n - (intOf i).toNat)
  case atStart => exact ⟨0, Nat.zero_le _, rfl, _, HD1⟩
  case round =>
    obtain ⟨k, hk, rfl, v1, hI⟩ := hrel
    by_cases hlt : k < n
    · have g1 : decide ((k : Int) < (n : Int)) = true := decide_eq_true (by omega)
      obtain ⟨A1, c1, rfl, _⟩ := hI.out.1.own.slice_
      have c0 := hI.out.1.blk.c; have l0 := hI.out.1.blk.lt; have f0 := hI.out.1.blk.f
      have NE : some w.heap.size ≠ (Value.slice A1 (List.replicate k e64).length c1).ownBlock := Ne.symm (hI.out.1.own.ne hI.out.1.blk (by decide))
      have hO := hI.out.1.own.below (below_new (Below.refl wr.heap.size wr) (.cells #[.string e64] 9))
      have hRd : Reads (wr.alloc (.cells #[.string e64] 9)) (wr.heap.size + 1) 1 (some ⟨wr.heap.size, 0, none⟩) 1 [.string e64] := ⟨rfl, fun _ => ⟨_, rfl, Nat.lt_succ_self _, fun j q hj => by
        have h2 := Blk.c (Blk.new' (w := wr) (b := wr.heap.size) (cs := #[.string e64]) (T := 9) rfl)
        rw [Kp.add_plain', Nat.zero_add, h2]
        simpa using hj⟩⟩
      have hbs := hI.out.2.size
      rw [List.length_replicate] at c0
      have hlr : (List.replicate k e64).length = k := List.length_replicate
      have HO := hidI hO
      have HRd := hidI hRd
      clear hO hRd
      go_wp2_with (at_builtin; refine wpList_append_any _ rfl (.tmp 18) (.tmp 20) 22 rfl w.heap.size 9 i0 (.string ⟨#[]⟩) 1 16 Try.underlying22 hi0 hz0 hz1 hz2 rfl (by decide) (.slice A1 k c1) (List.replicate k e64).length ((List.replicate k e64).flatMap sl) rfl ?aO (wr.heap.size + 1) (some ⟨wr.heap.size, 0, none⟩) 1 1 [.string e64] rfl HRd.out ?a1 ?aM ?aB ?aS ?_; (case aO => have := HO.out; rw [List.length_replicate] at this; exact this); (case a1 => intro q hq; rcases List.mem_singleton.1 hq with rfl; rfl); (case aM => simp only [maxLen]; omega); (case aB => omega); (case aS => simp; omega); intro v5 w5 hown hg hat; have hO5 := Go.Proofs.Kq.Own.snoc (l := sl) (p := e64) hown; obtain ⟨A5, c5, rfl, _⟩ := hO5.slice_; have hB5 := Blk.gb (hI.out.1.blk.al (.cells #[.string e64] 9)) hg (by rw [List.length_replicate] at NE; exact NE); have c5' := hB5.c; have l5' := hB5.lt; have f5' := hB5.f; clear hown)
      have e1 : (List.replicate k e64 ++ [e64]).length = k + 1 := by simp
      have e2 : List.replicate k e64 ++ [e64] = List.replicate (k + 1) e64 := by rw [List.replicate_succ']
      have hOn : Strs w5 w.heap.size (.slice A5 (k + 1) c5) (List.replicate (k + 1) e64) := by
        rw [e1] at hO5
        rw [← e2]; exact hO5
      have hEt : Et (w5.setCell ⟨w.heap.size, 0, none⟩ (.slice A5 (k + 1) c5)) w.heap.size w.heap.size (.slice A5 (k + 1) c5) (.slice none 0 0) (List.replicate (k + 1) e64) [] (-1) false :=
        ⟨hB5.st 0 _, hOn.far (p := ⟨w.heap.size, 0, none⟩) (hOn.ne hB5 (by decide)) _, Go.Proofs.Kq.Own.nil _ _ _ _ _⟩
      have hba : Below w.heap.size w (wr.alloc (.cells #[.string e64] 9)) := below_new hI.out.2 _
      have hbe : Below w.heap.size w (w5.setCell ⟨w.heap.size, 0, none⟩ (.slice A5 (k + 1) c5)) := (Below.grown hba hg hba.size (fun q hq => hI.out.1.own.ge (by rw [List.length_replicate]; exact hq))).setCell (p := ⟨w.heap.size, 0, none⟩) (Nat.le_refl _) _
      exact ⟨⟨k + 1, by omega, by simp, _, hidI ⟨hEt, hbe⟩⟩, by simp [intOf]; omega⟩
    · have g1 : decide ((k : Int) < (n : Int)) = false := decide_eq_false (by omega)
      obtain rfl : k = n := by omega
      have hfin : Hid (RNw k w (.returned (.pointer (some ⟨w.heap.size, 0, none⟩))) wr) := hidI ⟨v1, rfl, hI.out.1, hI.out.2⟩
      go_wp2_with fail
      go_ret
      exact hfin.out
end Go.Proofs.Ytckfkbmefdmedaa
