/- What the statement leans on, part 2: functions of the program and of the reference as Lean functions, their contracts, and plain laws. -/
import Derived.Laws.StructEq
import Derived.WalkMore
import Derived.Shelf.SlGeneric
import Derived.Shelf.Spec.SlicesGrow
import Derived.Ground.Names8Prog
import Derived.Test.YtckfkbmefdmedaaMP1
namespace Go.Proofs.Ytckfkbmefdmedaa.Q
open Go.RowKit Go.Proofs.YtckfkbmefdmedaaW.PrintWords Go.Proofs.YtckfkbmefdmedaaW.PrintLast Go.Proofs.YtckfkbmefdmedaaW.PrintMore
attribute [local go_sem] max2_int min2_int max_two min_two max_three min_three max_four min_four   -- for this text's walks alone
set_option linter.unusedVariables false
set_option linter.unusedSimpArgs false
mutual
def soukref03_Blocks.j0 : Nat → Int → ByteArray → Int → Bool → Option (List ByteArray × Bool)
 | 0, _, _, _, _ => none
 | k + 1, x0, x1, x6, x30 => if x30 = true then (some (([] : List ByteArray), false)) else ((soukref03_Low.f k (IntKind.u64.wrap ((IntKind.u64.wrap (x0)) + 1)) 4).bind fun t135 => (soukref03_Blocks.l0 k x1 x6 t135 ([] : List ByteArray) 0))
def soukref03_Blocks.l0 : Nat → ByteArray → Int → ByteArray → List ByteArray → Int → Option (List ByteArray × Bool)
 | 0, _, _, _, _, _ => none
 | k + 1, x1, x6, x7, x8, x9 => if x9 < x6 then (if (x1.size : Int) > 49 then (if 0 ≤ 49 then (if 49 ≤ (x1.size : Int) then (soukref03_Blocks.j2 k x1 x6 x7 x8 x9 (x1.extract 0 49)) else (none)) else (none)) else (soukref03_Blocks.j2 k x1 x6 x7 x8 x9 x1)) else (some (x8, true))
def soukref03_Blocks.j2 : Nat → ByteArray → Int → ByteArray → List ByteArray → Int → ByteArray → Option (List ByteArray × Bool)
 | 0, _, _, _, _, _, _ => none
 | k + 1, x1, x6, x7, x8, x9, x10 => if 0 ≤ (x10.size : Int) then (if (x10.size : Int) ≤ (x1.size : Int) then (soukref03_Blocks.l1 k (x1.extract ((x10.size : Int) : Int).toNat x1.size) x6 x7 x8 x9 x10 (x10.size : Int)) else (none)) else (none)
def soukref03_Blocks.l1 : Nat → ByteArray → Int → ByteArray → List ByteArray → Int → ByteArray → Int → Option (List ByteArray × Bool)
 | 0, _, _, _, _, _, _, _ => none
 | k + 1, x1, x6, x7, x8, x9, x10, x11 => if (x10.size : Int) < 49 then (if x10.size + 1 ≤ 9223372036854775807 then (soukref03_Blocks.l1 k x1 x6 x7 x8 x9 (x10 ++ (⟨#[0]⟩ : ByteArray)) x11) else (none)) else ((soukref03_Low.f k (IntKind.u64.wrap (x9)) 1).bind fun t136 => ((soukref03_Low.f k (IntKind.u64.wrap (x6)) 1).bind fun t137 => (if t136.size + t137.size ≤ 9223372036854775807 then ((soukref03_Low.f k (IntKind.u64.wrap (x11)) 1).bind fun t138 => (if (t136 ++ t137).size + t138.size ≤ 9223372036854775807 then (if ((t136 ++ t137) ++ t138).size + x10.size ≤ 9223372036854775807 then (if x7.size + (((t136 ++ t137) ++ t138) ++ x10).size ≤ 9223372036854775807 then ((soukref03_Sum.f k (x7 ++ (((t136 ++ t137) ++ t138) ++ x10))).bind fun t139 => ((soukref03_Low.f k (IntKind.u64.wrap (t139)) 4).bind fun t140 => (if (x7 ++ (((t136 ++ t137) ++ t138) ++ x10)).size + t140.size ≤ 9223372036854775807 then (if ((x7 ++ (((t136 ++ t137) ++ t138) ++ x10)) ++ t140).size + x7.size ≤ 9223372036854775807 then (if x8.length < 8796093022208 then (soukref03_Blocks.l0 k x1 x6 x7 (x8 ++ [((x7 ++ (((t136 ++ t137) ++ t138) ++ x10)) ++ t140) ++ x7]) (wrap64 (x9 + 1))) else (none)) else (none)) else (none)))) else (none)) else (none)) else (none))) else (none))))
end
def soukref03_Blocks.f (k : Nat) (a0 : Int) (a1 : ByteArray) : Option (List ByteArray × Bool) := if (wrap64 (Int.tdiv (wrap64 ((a1.size : Int) + 48)) 49)) = 0 then (soukref03_Blocks.j0 k a0 a1 (wrap64 (Int.tdiv (wrap64 ((a1.size : Int) + 48)) 49)) true) else (if (wrap64 (Int.tdiv (wrap64 ((a1.size : Int) + 48)) 49)) > 255 then (soukref03_Blocks.j0 k a0 a1 (wrap64 (Int.tdiv (wrap64 ((a1.size : Int) + 48)) 49)) true) else (if a0 < 0 then (soukref03_Blocks.j0 k a0 a1 (wrap64 (Int.tdiv (wrap64 ((a1.size : Int) + 48)) 49)) true) else (soukref03_Blocks.j0 k a0 a1 (wrap64 (Int.tdiv (wrap64 ((a1.size : Int) + 48)) 49)) (decide (a0 > 4294967294)))))
set_option maxHeartbeats 8000000 in
set_option maxRecDepth 100000 in
theorem soukref03_Blocks.calls (k : Nat) (a0 : Int) (a1 : ByteArray) (r1 : List ByteArray) (r2 : Bool) (w : World) (h : soukref03_Blocks.f k a0 a1 = some (r1, r2)) :
  Calls Try.prog 19 #[.int .i64 a0, .string a1] w fun e w' => ∃ v0_ : Value, e = .returned (.tuple #[v0_, .bool r2]) ∧ Kd.R Kd.string 9 w' w.heap.size (fun _ => True) v0_ r1 ∧ Below w.heap.size w w' := by
 have HB := Aside0.mk (Below.refl w.heap.size w)
 have H : (if (wrap64 (Int.tdiv (wrap64 ((a1.size : Int) + 48)) 49)) = 0 then (soukref03_Blocks.j0 k a0 a1 (wrap64 (Int.tdiv (wrap64 ((a1.size : Int) + 48)) 49)) true) else (if (wrap64 (Int.tdiv (wrap64 ((a1.size : Int) + 48)) 49)) > 255 then (soukref03_Blocks.j0 k a0 a1 (wrap64 (Int.tdiv (wrap64 ((a1.size : Int) + 48)) 49)) true) else (if a0 < 0 then (soukref03_Blocks.j0 k a0 a1 (wrap64 (Int.tdiv (wrap64 ((a1.size : Int) + 48)) 49)) true) else (soukref03_Blocks.j0 k a0 a1 (wrap64 (Int.tdiv (wrap64 ((a1.size : Int) + 48)) 49)) (decide (a0 > 4294967294)))))) = some (r1, r2) := h
 clear h
 have HC3 := Aside0.mk H
 clear H
 go_enter Try.func19, Try.ntmps19
 go_upto_region 2 with (fail)
 go_cut [30] (fun v30 wc => ∃ (kq : Nat) (x30_2 : Bool), v30 = .bool x30_2 ∧ Aside0 (soukref03_Blocks.j0 kq a0 a1 (wrap64 (Int.tdiv (wrap64 ((a1.size : Int) + 48)) 49)) x30_2 = some (r1, r2)) ∧ Aside0 (kq ≤ k) ∧ Aside0 (Below w.heap.size w wc))
 case first =>
  have H := HC3.out
  clear HC3
  by_cases c4 : (wrap64 (Int.tdiv (wrap64 ((a1.size : Int) + 48)) 49)) = 0
  ·rw [if_pos c4] at H
   have c4b0 : ((wrap64 (Int.tdiv (wrap64 ((a1.size : Int) + 48)) 49)) == 0) = true := beq_iff_eq.mpr c4
   have c4b1 : ((wrap64 (Int.tdiv (wrap64 ((a1.size : Int) + 48)) 49)) != 0) = false := bne_eq_false_iff_eq.mpr c4
   clear c4
   (first | rw [c4b0] | (simp only [i64_w, i32_w]; rw [c4b0]) | skip)
   have H' := Aside0.mk H
   clear H
   go_wp2
   go_meet
   case rel => exact ⟨_, (true), (by first | rfl | (simp; done) | (simp [*]; done)), H', ⟨by first | omega | exact Nat.le_refl _⟩, ⟨by repeat (first | (with_reducible first | exact HB.out | apply below_alloc | apply pw_below_drewN | apply below_drew1) | exact HB.out)⟩⟩
  ·rw [if_neg c4] at H
   have c4b0 : ((wrap64 (Int.tdiv (wrap64 ((a1.size : Int) + 48)) 49)) == 0) = false := beq_eq_false_iff_ne.mpr c4
   have c4b1 : ((wrap64 (Int.tdiv (wrap64 ((a1.size : Int) + 48)) 49)) != 0) = true := bne_iff_ne.mpr c4
   (first | rw [c4b0] | (simp only [i64_w, i32_w]; rw [c4b0]) | skip)
   by_cases c5 : (wrap64 (Int.tdiv (wrap64 ((a1.size : Int) + 48)) 49)) > 255
   ·rw [if_pos c5] at H
    have c5b0 : decide (255 < (wrap64 (Int.tdiv (wrap64 ((a1.size : Int) + 48)) 49))) = true := decide_eq_true c5
    clear c5
    have H' := Aside0.mk H
    clear H
    go_wp2
    go_meet
    case rel => exact ⟨_, (true), (by first | rfl | (simp; done) | (simp [*]; done)), H', ⟨by first | omega | exact Nat.le_refl _⟩, ⟨by repeat (first | (with_reducible first | exact HB.out | apply below_alloc | apply pw_below_drewN | apply below_drew1) | exact HB.out)⟩⟩
   ·rw [if_neg c5] at H
    have c5b0 : decide (255 < (wrap64 (Int.tdiv (wrap64 ((a1.size : Int) + 48)) 49))) = false := decide_eq_false c5
    clear c5
    by_cases c6 : a0 < 0
    ·rw [if_pos c6] at H
     have c6b0 : decide (a0 < 0) = true := decide_eq_true c6
     clear c6
     have H' := Aside0.mk H
     clear H
     go_wp2
     go_meet
     case rel => exact ⟨_, (true), (by first | rfl | (simp; done) | (simp [*]; done)), H', ⟨by first | omega | exact Nat.le_refl _⟩, ⟨by repeat (first | (with_reducible first | exact HB.out | apply below_alloc | apply pw_below_drewN | apply below_drew1) | exact HB.out)⟩⟩
    ·rw [if_neg c6] at H
     have c6b0 : decide (a0 < 0) = false := decide_eq_false c6
     clear c6
     have H' := Aside0.mk H
     clear H
     go_wp2
     go_meet
     case rel => exact ⟨_, (decide (a0 > 4294967294)), (by first | rfl | (simp; done) | (simp [*]; done)), H', ⟨by first | omega | exact Nat.le_refl _⟩, ⟨by repeat (first | (with_reducible first | exact HB.out | apply below_alloc | apply pw_below_drewN | apply below_drew1) | exact HB.out)⟩⟩
 case rest =>
  clear HC3
  try clear c1
  try clear p2
  try clear c4
  try clear c4b0
  try clear c4b1
  try clear c5
  try clear c5b0
  try clear c6
  try clear c6b0
  try clear p6
  obtain ⟨kq, x30_2, rfl, HA, HJ2, HB⟩ := hcut
  cases kq with
  | zero => exact absurd HA.out (by simp [soukref03_Blocks.j0])
  | succ kj2 =>
   have H := HA.out
   clear HA
   simp only [soukref03_Blocks.j0] at H
   by_cases c7 : x30_2 = true
   ·subst c7
    have H1 : (some (([] : List ByteArray), false)) = some (r1, r2) := by rw [if_pos rfl] at H; exact H
    clear H
    have H := H1
    clear H1
    simp only [Option.some.injEq, Prod.mk.injEq] at H
    obtain ⟨rfl, rfl⟩ := H
    go_wp2
    go_ret2
    exact ⟨_, by first | rfl | (simp [errW_none, errW_some] <;> rfl) | (simp [*, errW_none, errW_some] <;> rfl), by first | exact Kd.R_nil _ _ _ _ _ | exact Kd.N_nil _ _ _ _ _ | exact Kd.V_nil _ _ _ _ _ | exact Kd.Q_nil _ _ _ _ _ | exact Kd.S_nil _ _ _ _ _, by repeat (first | (with_reducible first | exact HB.out | apply below_alloc | apply pw_below_drewN | apply below_drew1) | exact HB.out)⟩
   ·replace c7 := Bool.eq_false_iff.mpr c7
    subst c7
    have H1 : ((soukref03_Low.f kj2 (IntKind.u64.wrap ((IntKind.u64.wrap (a0)) + 1)) 4).bind fun t135 => (soukref03_Blocks.l0 kj2 a1 (wrap64 (Int.tdiv (wrap64 ((a1.size : Int) + 48)) 49)) t135 ([] : List ByteArray) 0)) = some (r1, r2) := by rw [if_neg (show ¬ (false = true) by decide)] at H; exact H
    clear H
    have H := H1
    clear H1
    replace H := Option.bind_eq_some_iff.mp H
    obtain ⟨t135, A80, H⟩ := H
    replace H : (soukref03_Blocks.l0 kj2 a1 (wrap64 (Int.tdiv (wrap64 ((a1.size : Int) + 48)) 49)) t135 ([] : List ByteArray) 0) = some (r1, r2) := H
    have A8 := Aside0.mk A80
    clear A80
    have H' := Aside0.mk H
    clear H
    go_wp2_with (first | ((with_reducible refine gate_callee (f := 74) rfl ?_); refine goesL_ (some 34) rfl rfl Try.func74 (by kernel_rfl) rfl #[.int .u64 (IntKind.u64.wrap ((IntKind.u64.wrap (a0)) + 1)), .int .i64 4] rfl (by (try simp only [List.map_toArray, List.map_cons, List.map_nil]); first | done | rfl | (simp only [List.length_drop, List.length_take]; rfl)) ?_; (with_reducible refine (soukref03_Low.calls kj2 (IntKind.u64.wrap ((IntKind.u64.wrap (a0)) + 1)) 4 t135 _ A8.out).mono ?_); rintro e w9 ⟨rfl, hb⟩; refine ⟨_, rfl, ?_⟩; have n0_ := Aside0.mk (below_step (by repeat (first | (with_reducible first | exact HB.out | apply below_alloc | apply pw_below_drewN | apply below_drew1) | exact HB.out)) hb); clear HB; have HB := n0_; clear n0_; (try clear hb); (try clear hb2); (try clear hk); (try clear hi)))
    go_loopg [1, 8, 9] kj2 (fun kq v1 v8 v9 w' => ∃ (x1_2 : ByteArray) (x8_2 : List ByteArray) (x9_2 : Int), v1 = .string x1_2 ∧ v9 = .int .i64 x9_2 ∧ Aside0 (soukref03_Blocks.l0 kq x1_2 (wrap64 (Int.tdiv (wrap64 ((a1.size : Int) + 48)) 49)) t135 x8_2 x9_2 = some (r1, r2)) ∧ Aside0 (kq ≤ kj2) ∧ Aside0 (Kd.R Kd.string 9 w' w.heap.size (fun _ => True) v8 x8_2) ∧ Aside0 (Below w.heap.size w w'))
    case atStart => exact ⟨(a1), (([] : List ByteArray)), (0), (by first | rfl | (simp; done) | (simp [*]; done)), (by first | rfl | (simp; done) | (simp [*]; done)), H', ⟨Nat.le_refl _⟩, ⟨by first | exact Kd.R_nil _ _ _ _ _ | exact Kd.N_nil _ _ _ _ _ | exact Kd.V_nil _ _ _ _ _ | exact Kd.Q_nil _ _ _ _ _ | exact Kd.S_nil _ _ _ _ _⟩, ⟨by repeat (first | (with_reducible first | exact HB.out | apply below_alloc | apply pw_below_drewN | apply below_drew1) | exact HB.out)⟩⟩
    case round =>
     clear H'
     try clear c1
     try clear p2
     try clear c4
     try clear c4b0
     try clear c4b1
     try clear c5
     try clear c5b0
     try clear c6
     try clear c6b0
     try clear p6
     try clear c7
     try clear p2
     try clear p6
     obtain ⟨x1_2, x8_2, x9_2, rfl, rfl, HA, HK2, HO_8, HB⟩ := hrel
     cases gk with
     | zero => exact absurd HA.out (by simp [soukref03_Blocks.l0])
     | succ k2 =>
      have H := HA.out
      clear HA
      simp only [soukref03_Blocks.l0] at H
      by_cases c10 : x9_2 < (wrap64 (Int.tdiv (wrap64 ((a1.size : Int) + 48)) 49))
      ·rw [if_pos c10] at H
       have c10b0 : decide (x9_2 < (wrap64 (Int.tdiv (wrap64 ((a1.size : Int) + 48)) 49))) = true := decide_eq_true c10
       clear c10
       have HC11 := Aside0.mk H
       clear H
       go_upto_if 43 with (fail)
       go_cut [10] (fun v10 wc => ∃ (kq : Nat) (x10_10 : ByteArray), v10 = .string x10_10 ∧ Aside0 (soukref03_Blocks.j2 kq x1_2 (wrap64 (Int.tdiv (wrap64 ((a1.size : Int) + 48)) 49)) t135 x8_2 x9_2 x10_10 = some (r1, r2)) ∧ Aside0 (kq ≤ k2) ∧ Aside0 (Kd.R Kd.string 9 wc w.heap.size (fun _ => True) u8 x8_2) ∧ Aside0 (Below w.heap.size w wc))
       case first =>
        have H := HC11.out
        clear HC11
        by_cases c12 : (x1_2.size : Int) > 49
        ·rw [if_pos c12] at H
         have c12b0 : decide (49 < (x1_2.size : Int)) = true := decide_eq_true c12
         have c12b1 : decide (49 < x1_2.size) = true := decide_eq_true (by omega)
         clear c12
         (first | rw [c12b0] | (simp only [i64_w, i32_w]; rw [c12b0]) | skip)
         by_cases c13 : 0 ≤ 49
         ·rw [if_pos c13] at H
          have c13b0 := eq_true c13
          have c13b1 : decide (0 ≤ 49) = true := decide_eq_true c13
          clear c13
          by_cases c14 : 49 ≤ (x1_2.size : Int)
          ·rw [if_pos c14] at H
           have c14b0 := eq_true c14
           have c14b1 : decide (49 ≤ (x1_2.size : Int)) = true := decide_eq_true c14
           clear c14
           have H' := Aside0.mk H
           clear H
           go_wp2
           go_meet
           case rel => exact ⟨_, (x1_2.extract 0 49), (by first | rfl | (simp; done) | (simp [*]; done)), H', ⟨by have := HJ2.out; have := HK2.out; first | omega | exact Nat.le_refl _⟩, ⟨by (with_reducible repeat (first | apply Kd.R_alloc | apply Kd.R_drewN | apply Kd.R_drew)); exact HO_8.out⟩, ⟨by repeat (first | (with_reducible first | exact HB.out | apply below_alloc | apply pw_below_drewN | apply below_drew1) | exact HB.out)⟩⟩
          ·rw [if_neg c14] at H
           exact absurd H (by simp)
         ·rw [if_neg c13] at H
          exact absurd H (by simp)
        ·rw [if_neg c12] at H
         have c12b0 : decide (49 < (x1_2.size : Int)) = false := decide_eq_false c12
         have c12b1 : decide (49 < x1_2.size) = false := decide_eq_false (by omega)
         clear c12
         (first | rw [c12b0] | (simp only [i64_w, i32_w]; rw [c12b0]) | skip)
         have H' := Aside0.mk H
         clear H
         go_wp2
         go_meet
         case rel => exact ⟨_, (x1_2), (by first | rfl | (simp; done) | (simp [*]; done)), H', ⟨by have := HJ2.out; have := HK2.out; first | omega | exact Nat.le_refl _⟩, ⟨by (with_reducible repeat (first | apply Kd.R_alloc | apply Kd.R_drewN | apply Kd.R_drew)); exact HO_8.out⟩, ⟨by repeat (first | (with_reducible first | exact HB.out | apply below_alloc | apply pw_below_drewN | apply below_drew1) | exact HB.out)⟩⟩
       case rest =>
        clear HC11
        try clear c1
        try clear p2
        try clear c4
        try clear c4b0
        try clear c4b1
        try clear c5
        try clear c5b0
        try clear c6
        try clear c6b0
        try clear p6
        try clear c7
        try clear c10
        try clear c10b0
        try clear c12
        try clear c12b0
        try clear c12b1
        try clear c13
        try clear c13b0
        try clear c13b1
        try clear c14
        try clear c14b0
        try clear c14b1
        try clear p2
        try clear p6
        obtain ⟨kq, x10_10, rfl, HA, HJ10, HO_8, HB⟩ := hcut
        cases kq with
        | zero => exact absurd HA.out (by simp [soukref03_Blocks.j2])
        | succ kj10 =>
         have H := HA.out
         clear HA
         simp only [soukref03_Blocks.j2] at H
         by_cases c15 : 0 ≤ (x10_10.size : Int)
         ·rw [if_pos c15] at H
          have c15b0 := eq_true c15
          have c15b1 : decide (0 ≤ (x10_10.size : Int)) = true := decide_eq_true c15
          clear c15
          by_cases c16 : (x10_10.size : Int) ≤ (x1_2.size : Int)
          ·rw [if_pos c16] at H
           have c16b0 := eq_true c16
           have c16b1 : decide ((x10_10.size : Int) ≤ (x1_2.size : Int)) = true := decide_eq_true c16
           clear c16
           have H' := Aside0.mk H
           clear H
           go_wp2
           go_loopg [10] kj10 (fun kq v10 w' => ∃ (x10_4 : ByteArray), v10 = .string x10_4 ∧ Aside0 (soukref03_Blocks.l1 kq (x1_2.extract ((x10_10.size : Int) : Int).toNat x1_2.size) (wrap64 (Int.tdiv (wrap64 ((a1.size : Int) + 48)) 49)) t135 x8_2 x9_2 x10_4 (x10_10.size : Int) = some (r1, r2)) ∧ Aside0 (kq ≤ kj10) ∧ Aside0 (Kd.R Kd.string 9 w' w.heap.size (fun _ => True) u8 x8_2) ∧ Aside0 (Below w.heap.size w w'))
           case atStart => exact ⟨(x10_10), (by first | rfl | (simp; done) | (simp [*]; done)), H', ⟨Nat.le_refl _⟩, ⟨by (with_reducible repeat (first | apply Kd.R_alloc | apply Kd.R_drewN | apply Kd.R_drew)); exact HO_8.out⟩, ⟨by repeat (first | (with_reducible first | exact HB.out | apply below_alloc | apply pw_below_drewN | apply below_drew1) | exact HB.out)⟩⟩
           case round =>
            clear H'
            try clear c1
            try clear p2
            try clear c4
            try clear c4b0
            try clear c4b1
            try clear c5
            try clear c5b0
            try clear c6
            try clear c6b0
            try clear p6
            try clear c7
            try clear c10
            try clear c10b0
            try clear c12
            try clear c12b0
            try clear c12b1
            try clear c13
            try clear c13b0
            try clear c13b1
            try clear c14
            try clear c14b0
            try clear c14b1
            try clear c15
            try clear c15b0
            try clear c15b1
            try clear c16
            try clear c16b0
            try clear c16b1
            try clear p2
            try clear p6
            obtain ⟨x10_4, rfl, HA, HK4, HO_8, HB⟩ := hrel
            cases gk with
            | zero => exact absurd HA.out (by simp [soukref03_Blocks.l1])
            | succ k4 =>
             have H := HA.out
             clear HA
             simp only [soukref03_Blocks.l1] at H
             by_cases c17 : (x10_4.size : Int) < 49
             ·rw [if_pos c17] at H
              have c17b0 : decide ((x10_4.size : Int) < 49) = true := decide_eq_true c17
              have c17b1 : decide (x10_4.size < 49) = true := decide_eq_true (by omega)
              clear c17
              by_cases c18 : x10_4.size + 1 ≤ 9223372036854775807
              ·rw [if_pos c18] at H
               have c18b0 := eq_true c18
               have c18b1 : decide (x10_4.size + 1 ≤ 9223372036854775807) = true := decide_eq_true c18
               try have c18b2 : (9223372036854775807 < x10_4.size + 1) = False := eq_false (Nat.not_lt.2 c18)
               have H' := Aside0.mk H
               clear H
               go_wp2
               go_roundg k4
               case measure => have := HJ2.out; have := HK2.out; have := HJ10.out; have := HK4.out; omega
               case rel => exact ⟨(x10_4 ++ (⟨#[0]⟩ : ByteArray)), (by first | rfl | (simp; done) | (simp [*]; done)), H', ⟨by have := HJ2.out; have := HK2.out; have := HJ10.out; have := HK4.out; omega⟩, ⟨by (with_reducible repeat (first | apply Kd.R_alloc | apply Kd.R_drewN | apply Kd.R_drew)); exact HO_8.out⟩, ⟨by repeat (first | (with_reducible first | exact HB.out | apply below_alloc | apply pw_below_drewN | apply below_drew1) | exact HB.out)⟩⟩
              ·rw [if_neg c18] at H
               exact absurd H (by simp)
             ·rw [if_neg c17] at H
              have c17b0 : decide ((x10_4.size : Int) < 49) = false := decide_eq_false c17
              have c17b1 : decide (x10_4.size < 49) = false := decide_eq_false (by omega)
              clear c17
              replace H := Option.bind_eq_some_iff.mp H
              obtain ⟨t136, A190, H⟩ := H
              replace H : ((soukref03_Low.f k4 (IntKind.u64.wrap ((wrap64 (Int.tdiv (wrap64 ((a1.size : Int) + 48)) 49)))) 1).bind fun t137 => (if t136.size + t137.size ≤ 9223372036854775807 then ((soukref03_Low.f k4 (IntKind.u64.wrap ((x10_10.size : Int))) 1).bind fun t138 => (if (t136 ++ t137).size + t138.size ≤ 9223372036854775807 then (if ((t136 ++ t137) ++ t138).size + x10_4.size ≤ 9223372036854775807 then (if t135.size + (((t136 ++ t137) ++ t138) ++ x10_4).size ≤ 9223372036854775807 then ((soukref03_Sum.f k4 (t135 ++ (((t136 ++ t137) ++ t138) ++ x10_4))).bind fun t139 => ((soukref03_Low.f k4 (IntKind.u64.wrap (t139)) 4).bind fun t140 => (if (t135 ++ (((t136 ++ t137) ++ t138) ++ x10_4)).size + t140.size ≤ 9223372036854775807 then (if ((t135 ++ (((t136 ++ t137) ++ t138) ++ x10_4)) ++ t140).size + t135.size ≤ 9223372036854775807 then (if x8_2.length < 8796093022208 then (soukref03_Blocks.l0 k4 (x1_2.extract ((x10_10.size : Int) : Int).toNat x1_2.size) (wrap64 (Int.tdiv (wrap64 ((a1.size : Int) + 48)) 49)) t135 (x8_2 ++ [((t135 ++ (((t136 ++ t137) ++ t138) ++ x10_4)) ++ t140) ++ t135]) (wrap64 (x9_2 + 1))) else (none)) else (none)) else (none)))) else (none)) else (none)) else (none))) else (none))) = some (r1, r2) := H
              have A19 := Aside0.mk A190
              clear A190
              replace H := Option.bind_eq_some_iff.mp H
              obtain ⟨t137, A200, H⟩ := H
              replace H : (if t136.size + t137.size ≤ 9223372036854775807 then ((soukref03_Low.f k4 (IntKind.u64.wrap ((x10_10.size : Int))) 1).bind fun t138 => (if (t136 ++ t137).size + t138.size ≤ 9223372036854775807 then (if ((t136 ++ t137) ++ t138).size + x10_4.size ≤ 9223372036854775807 then (if t135.size + (((t136 ++ t137) ++ t138) ++ x10_4).size ≤ 9223372036854775807 then ((soukref03_Sum.f k4 (t135 ++ (((t136 ++ t137) ++ t138) ++ x10_4))).bind fun t139 => ((soukref03_Low.f k4 (IntKind.u64.wrap (t139)) 4).bind fun t140 => (if (t135 ++ (((t136 ++ t137) ++ t138) ++ x10_4)).size + t140.size ≤ 9223372036854775807 then (if ((t135 ++ (((t136 ++ t137) ++ t138) ++ x10_4)) ++ t140).size + t135.size ≤ 9223372036854775807 then (if x8_2.length < 8796093022208 then (soukref03_Blocks.l0 k4 (x1_2.extract ((x10_10.size : Int) : Int).toNat x1_2.size) (wrap64 (Int.tdiv (wrap64 ((a1.size : Int) + 48)) 49)) t135 (x8_2 ++ [((t135 ++ (((t136 ++ t137) ++ t138) ++ x10_4)) ++ t140) ++ t135]) (wrap64 (x9_2 + 1))) else (none)) else (none)) else (none)))) else (none)) else (none)) else (none))) else (none)) = some (r1, r2) := H
              have A20 := Aside0.mk A200
              clear A200
              by_cases c21 : t136.size + t137.size ≤ 9223372036854775807
              ·rw [if_pos c21] at H
               have c21b0 := eq_true c21
               have c21b1 : decide (t136.size + t137.size ≤ 9223372036854775807) = true := decide_eq_true c21
               try have c21b2 : (9223372036854775807 < t136.size + t137.size) = False := eq_false (Nat.not_lt.2 c21)
               replace H := Option.bind_eq_some_iff.mp H
               obtain ⟨t138, A220, H⟩ := H
               replace H : (if (t136 ++ t137).size + t138.size ≤ 9223372036854775807 then (if ((t136 ++ t137) ++ t138).size + x10_4.size ≤ 9223372036854775807 then (if t135.size + (((t136 ++ t137) ++ t138) ++ x10_4).size ≤ 9223372036854775807 then ((soukref03_Sum.f k4 (t135 ++ (((t136 ++ t137) ++ t138) ++ x10_4))).bind fun t139 => ((soukref03_Low.f k4 (IntKind.u64.wrap (t139)) 4).bind fun t140 => (if (t135 ++ (((t136 ++ t137) ++ t138) ++ x10_4)).size + t140.size ≤ 9223372036854775807 then (if ((t135 ++ (((t136 ++ t137) ++ t138) ++ x10_4)) ++ t140).size + t135.size ≤ 9223372036854775807 then (if x8_2.length < 8796093022208 then (soukref03_Blocks.l0 k4 (x1_2.extract ((x10_10.size : Int) : Int).toNat x1_2.size) (wrap64 (Int.tdiv (wrap64 ((a1.size : Int) + 48)) 49)) t135 (x8_2 ++ [((t135 ++ (((t136 ++ t137) ++ t138) ++ x10_4)) ++ t140) ++ t135]) (wrap64 (x9_2 + 1))) else (none)) else (none)) else (none)))) else (none)) else (none)) else (none)) = some (r1, r2) := H
               have A22 := Aside0.mk A220
               clear A220
               by_cases c23 : (t136 ++ t137).size + t138.size ≤ 9223372036854775807
               ·rw [if_pos c23] at H
                have c23b0 := eq_true c23
                have c23b1 : decide ((t136 ++ t137).size + t138.size ≤ 9223372036854775807) = true := decide_eq_true c23
                try have c23b2 : (9223372036854775807 < (t136 ++ t137).size + t138.size) = False := eq_false (Nat.not_lt.2 c23)
                try (have c23b3 := c23b2; simp only [ByteArray.size_append] at c23b3)
                by_cases c24 : ((t136 ++ t137) ++ t138).size + x10_4.size ≤ 9223372036854775807
                ·rw [if_pos c24] at H
                 have c24b0 := eq_true c24
                 have c24b1 : decide (((t136 ++ t137) ++ t138).size + x10_4.size ≤ 9223372036854775807) = true := decide_eq_true c24
                 try have c24b2 : (9223372036854775807 < ((t136 ++ t137) ++ t138).size + x10_4.size) = False := eq_false (Nat.not_lt.2 c24)
                 try (have c24b3 := c24b2; simp only [ByteArray.size_append] at c24b3)
                 by_cases c25 : t135.size + (((t136 ++ t137) ++ t138) ++ x10_4).size ≤ 9223372036854775807
                 ·rw [if_pos c25] at H
                  have c25b0 := eq_true c25
                  have c25b1 : decide (t135.size + (((t136 ++ t137) ++ t138) ++ x10_4).size ≤ 9223372036854775807) = true := decide_eq_true c25
                  try have c25b2 : (9223372036854775807 < t135.size + (((t136 ++ t137) ++ t138) ++ x10_4).size) = False := eq_false (Nat.not_lt.2 c25)
                  try (have c25b3 := c25b2; simp only [ByteArray.size_append] at c25b3)
                  replace H := Option.bind_eq_some_iff.mp H
                  obtain ⟨t139, A260, H⟩ := H
                  replace H : ((soukref03_Low.f k4 (IntKind.u64.wrap (t139)) 4).bind fun t140 => (if (t135 ++ (((t136 ++ t137) ++ t138) ++ x10_4)).size + t140.size ≤ 9223372036854775807 then (if ((t135 ++ (((t136 ++ t137) ++ t138) ++ x10_4)) ++ t140).size + t135.size ≤ 9223372036854775807 then (if x8_2.length < 8796093022208 then (soukref03_Blocks.l0 k4 (x1_2.extract ((x10_10.size : Int) : Int).toNat x1_2.size) (wrap64 (Int.tdiv (wrap64 ((a1.size : Int) + 48)) 49)) t135 (x8_2 ++ [((t135 ++ (((t136 ++ t137) ++ t138) ++ x10_4)) ++ t140) ++ t135]) (wrap64 (x9_2 + 1))) else (none)) else (none)) else (none))) = some (r1, r2) := H
                  have A26 := Aside0.mk A260
                  clear A260
                  replace H := Option.bind_eq_some_iff.mp H
                  obtain ⟨t140, A270, H⟩ := H
                  replace H : (if (t135 ++ (((t136 ++ t137) ++ t138) ++ x10_4)).size + t140.size ≤ 9223372036854775807 then (if ((t135 ++ (((t136 ++ t137) ++ t138) ++ x10_4)) ++ t140).size + t135.size ≤ 9223372036854775807 then (if x8_2.length < 8796093022208 then (soukref03_Blocks.l0 k4 (x1_2.extract ((x10_10.size : Int) : Int).toNat x1_2.size) (wrap64 (Int.tdiv (wrap64 ((a1.size : Int) + 48)) 49)) t135 (x8_2 ++ [((t135 ++ (((t136 ++ t137) ++ t138) ++ x10_4)) ++ t140) ++ t135]) (wrap64 (x9_2 + 1))) else (none)) else (none)) else (none)) = some (r1, r2) := H
                  have A27 := Aside0.mk A270
                  clear A270
                  by_cases c28 : (t135 ++ (((t136 ++ t137) ++ t138) ++ x10_4)).size + t140.size ≤ 9223372036854775807
                  ·rw [if_pos c28] at H
                   have c28b0 := eq_true c28
                   have c28b1 : decide ((t135 ++ (((t136 ++ t137) ++ t138) ++ x10_4)).size + t140.size ≤ 9223372036854775807) = true := decide_eq_true c28
                   try have c28b2 : (9223372036854775807 < (t135 ++ (((t136 ++ t137) ++ t138) ++ x10_4)).size + t140.size) = False := eq_false (Nat.not_lt.2 c28)
                   try (have c28b3 := c28b2; simp only [ByteArray.size_append] at c28b3)
                   by_cases c29 : ((t135 ++ (((t136 ++ t137) ++ t138) ++ x10_4)) ++ t140).size + t135.size ≤ 9223372036854775807
                   ·rw [if_pos c29] at H
                    have c29b0 := eq_true c29
                    have c29b1 : decide (((t135 ++ (((t136 ++ t137) ++ t138) ++ x10_4)) ++ t140).size + t135.size ≤ 9223372036854775807) = true := decide_eq_true c29
                    try have c29b2 : (9223372036854775807 < ((t135 ++ (((t136 ++ t137) ++ t138) ++ x10_4)) ++ t140).size + t135.size) = False := eq_false (Nat.not_lt.2 c29)
                    try (have c29b3 := c29b2; simp only [ByteArray.size_append] at c29b3)
                    by_cases c30 : x8_2.length < 8796093022208
                    ·rw [if_pos c30] at H
                     have LMc30 := Aside0.mk c30
                     clear c30
                     obtain ⟨y141, hy141⟩ : ∃ y_ : List ByteArray, y_ = (x8_2 ++ [((t135 ++ (((t136 ++ t137) ++ t138) ++ x10_4)) ++ t140) ++ t135]) := ⟨_, rfl⟩
                     replace H : (soukref03_Blocks.l0 k4 (x1_2.extract ((x10_10.size : Int) : Int).toNat x1_2.size) (wrap64 (Int.tdiv (wrap64 ((a1.size : Int) + 48)) 49)) t135 y141 (wrap64 (x9_2 + 1))) = some (r1, r2) := by first | (rw [hy141]; with_reducible exact H) | (have H2_ := (Option.bind_some _ _).symm.trans H; rw [hy141]; with_reducible exact H2_) | (have H2_ := (Option.bind_some _ _).symm.trans H; with_reducible exact H2_) | with_reducible exact H | (rw [hy141]; exact H) | exact H
                     have Ny141 := Aside0.mk hy141
                     clear hy141
                     have H' := Aside0.mk H
                     clear H
                     go_wp2_with (first | ((with_reducible refine gate_callee (f := 74) rfl ?_); refine goesL_ (some 59) rfl rfl Try.func74 (by kernel_rfl) rfl #[.int .u64 (IntKind.u64.wrap (x9_2)), .int .i64 1] rfl (by (try simp only [List.map_toArray, List.map_cons, List.map_nil]); first | done | rfl | (simp only [List.length_drop, List.length_take]; rfl)) ?_; (with_reducible refine (soukref03_Low.calls k4 (IntKind.u64.wrap (x9_2)) 1 t136 _ A19.out).mono ?_); rintro e w31 ⟨rfl, hb⟩; refine ⟨_, rfl, ?_⟩; have n0_ := Aside0.mk (Kd.R_below (by (with_reducible repeat (first | apply Kd.R_alloc | apply Kd.R_drewN | apply Kd.R_drew)); exact HO_8.out) hb); have n1_ := Aside0.mk (below_step (by repeat (first | (with_reducible first | exact HB.out | apply below_alloc | apply pw_below_drewN | apply below_drew1) | exact HB.out)) hb); clear HO_8; clear HB; have HO_8 := n0_; have HB := n1_; clear n0_ n1_; (try clear hb); (try clear hb2); (try clear hk); (try clear hi)) | ((with_reducible refine gate_callee (f := 74) rfl ?_); refine goesL_ (some 62) rfl rfl Try.func74 (by kernel_rfl) rfl #[.int .u64 (IntKind.u64.wrap ((wrap64 (Int.tdiv (wrap64 ((a1.size : Int) + 48)) 49)))), .int .i64 1] rfl (by (try simp only [List.map_toArray, List.map_cons, List.map_nil]); first | done | rfl | (simp only [List.length_drop, List.length_take]; rfl)) ?_; (with_reducible refine (soukref03_Low.calls k4 (IntKind.u64.wrap ((wrap64 (Int.tdiv (wrap64 ((a1.size : Int) + 48)) 49)))) 1 t137 _ A20.out).mono ?_); rintro e w32 ⟨rfl, hb⟩; refine ⟨_, rfl, ?_⟩; have n0_ := Aside0.mk (Kd.R_below (by (with_reducible repeat (first | apply Kd.R_alloc | apply Kd.R_drewN | apply Kd.R_drew)); exact HO_8.out) hb); have n1_ := Aside0.mk (below_step (by repeat (first | (with_reducible first | exact HB.out | apply below_alloc | apply pw_below_drewN | apply below_drew1) | exact HB.out)) hb); clear HO_8; clear HB; have HO_8 := n0_; have HB := n1_; clear n0_ n1_; (try clear hb); (try clear hb2); (try clear hk); (try clear hi)) | ((with_reducible refine gate_callee (f := 74) rfl ?_); refine goesL_ (some 66) rfl rfl Try.func74 (by kernel_rfl) rfl #[.int .u64 (IntKind.u64.wrap ((x10_10.size : Int))), .int .i64 1] rfl (by (try simp only [List.map_toArray, List.map_cons, List.map_nil]); first | done | rfl | (simp only [List.length_drop, List.length_take]; rfl)) ?_; (with_reducible refine (soukref03_Low.calls k4 (IntKind.u64.wrap ((x10_10.size : Int))) 1 t138 _ A22.out).mono ?_); rintro e w33 ⟨rfl, hb⟩; refine ⟨_, rfl, ?_⟩; have n0_ := Aside0.mk (Kd.R_below (by (with_reducible repeat (first | apply Kd.R_alloc | apply Kd.R_drewN | apply Kd.R_drew)); exact HO_8.out) hb); have n1_ := Aside0.mk (below_step (by repeat (first | (with_reducible first | exact HB.out | apply below_alloc | apply pw_below_drewN | apply below_drew1) | exact HB.out)) hb); clear HO_8; clear HB; have HO_8 := n0_; have HB := n1_; clear n0_ n1_; (try clear hb); (try clear hb2); (try clear hk); (try clear hi)) | ((with_reducible refine gate_callee (f := 75) rfl ?_); refine goesL_ (some 77) rfl rfl Try.func75 (by kernel_rfl) rfl #[.string (t135 ++ (((t136 ++ t137) ++ t138) ++ x10_4))] rfl (by (try simp only [List.map_toArray, List.map_cons, List.map_nil]); first | done | rfl | (simp only [List.length_drop, List.length_take]; rfl)) ?_; (with_reducible refine (soukref03_Sum.calls k4 (t135 ++ (((t136 ++ t137) ++ t138) ++ x10_4)) t139 _ A26.out).mono ?_); rintro e w' ⟨rfl, ⟨nd, rfl⟩⟩; refine ⟨_, rfl, ?_⟩) | ((with_reducible refine gate_callee (f := 74) rfl ?_); refine goesL_ (some 79) rfl rfl Try.func74 (by kernel_rfl) rfl #[.int .u64 (IntKind.u64.wrap (t139)), .int .i64 4] rfl (by (try simp only [List.map_toArray, List.map_cons, List.map_nil]); first | done | rfl | (simp only [List.length_drop, List.length_take]; rfl)) ?_; (with_reducible refine (soukref03_Low.calls k4 (IntKind.u64.wrap (t139)) 4 t140 _ A27.out).mono ?_); rintro e w34 ⟨rfl, hb⟩; refine ⟨_, rfl, ?_⟩; have n0_ := Aside0.mk (Kd.R_below (by (with_reducible repeat (first | apply Kd.R_alloc | apply Kd.R_drewN | apply Kd.R_drew)); exact HO_8.out) hb); have n1_ := Aside0.mk (below_step (by repeat (first | (with_reducible first | exact HB.out | apply below_alloc | apply pw_below_drewN | apply below_drew1) | exact HB.out)) hb); clear HO_8; clear HB; have HO_8 := n0_; have HB := n1_; clear n0_ n1_; (try clear hb); (try clear hb2); (try clear hk); (try clear hi)) | ((with_reducible refine gate_builtin (b := .append) (xs := #[.tmp 70, .tmp 83]) rfl ?_); at_builtin; refine Kd.R_append Kd.string (w0 := w) w.heap.size rfl (.tmp 70) (.tmp 83) 22 9 (.string ⟨#[]⟩) 16 rfl Try.underlying22 info9 rfl (by decide) (by omega) u8 x8_2 (((t135 ++ (((t136 ++ t137) ++ t138) ++ x10_4)) ++ t140) ++ t135) [.string (((t135 ++ (((t136 ++ t137) ++ t138) ++ x10_4)) ++ t140) ++ t135)] (fun _ => True) (fun _ => False) rfl rfl ?aP (fun _ hk => hk.elim) ?aF ?aO ?aB ?aS ?aL ?_; (case aP => exact rfl); (case aB => exact (by repeat (first | (with_reducible first | exact HB.out | apply below_alloc | apply pw_below_drewN | apply below_drew1) | exact HB.out))); (case aF => exact (fun _ _ => trivial)); (case aO => exact (by (with_reducible repeat (first | apply Kd.R_alloc | apply Kd.R_drewN | apply Kd.R_drew)); exact HO_8.out)); (case aS => exact (below_size (by repeat (first | (with_reducible first | exact HB.out | apply below_alloc | apply pw_below_drewN | apply below_drew1) | exact HB.out)))); (case aL => have := LMc30.out; omega); intro v142 w35 ho hb hg hat; rw [← Ny141.out] at ho; have n0_ := Aside0.mk (hb); have n1_ := Aside0.mk (ho); clear HB; clear HO_8; have HB := n0_; have HO143 := n1_; clear n0_ n1_; clear ho hb hg hat))
                     go_roundg k4
                     case measure => have := HJ2.out; have := HK2.out; have := HJ10.out; have := HK4.out; omega
                     case rel => exact ⟨((x1_2.extract ((x10_10.size : Int) : Int).toNat x1_2.size)), (y141), (wrap64 (x9_2 + 1)), (by first | rfl | (simp; done) | (simp [*]; done)), (by first | rfl | (simp; done) | (simp [*]; done)), H', ⟨by have := HJ2.out; have := HK2.out; have := HJ10.out; have := HK4.out; omega⟩, ⟨by (with_reducible repeat (first | apply Kd.R_alloc | apply Kd.R_drewN | apply Kd.R_drew)); exact HO143.out⟩, ⟨by repeat (first | (with_reducible first | exact HB.out | apply below_alloc | apply pw_below_drewN | apply below_drew1) | exact HB.out)⟩⟩
                    ·rw [if_neg c30] at H
                     exact absurd H (by simp)
                   ·rw [if_neg c29] at H
                    exact absurd H (by simp)
                  ·rw [if_neg c28] at H
                   exact absurd H (by simp)
                 ·rw [if_neg c25] at H
                  exact absurd H (by simp)
                ·rw [if_neg c24] at H
                 exact absurd H (by simp)
               ·rw [if_neg c23] at H
                exact absurd H (by simp)
              ·rw [if_neg c21] at H
               exact absurd H (by simp)
          ·rw [if_neg c16] at H
           exact absurd H (by simp)
         ·rw [if_neg c15] at H
          exact absurd H (by simp)
      ·rw [if_neg c10] at H
       have c10b0 : decide (x9_2 < (wrap64 (Int.tdiv (wrap64 ((a1.size : Int) + 48)) 49))) = false := decide_eq_false c10
       clear c10
       simp only [Option.some.injEq, Prod.mk.injEq] at H
       obtain ⟨rfl, rfl⟩ := H
       go_wp2
       go_ret2
       exact ⟨_, by first | rfl | (simp [errW_none, errW_some] <;> rfl) | (simp [*, errW_none, errW_some] <;> rfl), by (with_reducible repeat (first | apply Kd.R_alloc | apply Kd.R_drewN | apply Kd.R_drew)); exact HO_8.out, by repeat (first | (with_reducible first | exact HB.out | apply below_alloc | apply pw_below_drewN | apply below_drew1) | exact HB.out)⟩
end Go.Proofs.Ytckfkbmefdmedaa.Q
namespace Go.Proofs.Ytckfkbmefdmedaa
open Go.RowKit Go.Proofs.Kq Go.Proofs.Ytckfkbmefdmedaa.Q Go.Proofs.YtckfkbmefdmedaaW.PrintWords Go
set_option linter.unusedVariables false
set_option linter.unusedSimpArgs false
def bl (s : ByteArray) : List UInt8 := s.data.toList
def chunk (L : List UInt8) (i : Nat) : ByteArray := ⟨((L.drop (49 * i)).take 49).toArray⟩
def blkR (n : Int) (L : List UInt8) (c : Nat) : Nat → Nat → List ByteArray
  | _, 0 => []
  | i, r + 1 => oneF n i c (chunk L i) :: blkR n L c (i + 1) r
theorem blkR_len (n : Int) (L : List UInt8) (c : Nat) : ∀ r i, (blkR n L c i r).length = r
  | 0, i => rfl
  | r + 1, i => by simp [blkR, blkR_len n L c r]
theorem blkR_get (n : Int) (L : List UInt8) (c : Nat) : ∀ r i j, (h : j < r) → (blkR n L c i r)[j]'(by rw [blkR_len]; exact h) = oneF n ((i + j : Nat) : Int) c (chunk L (i + j))
  | 0, i, j, h => by omega
  | r + 1, i, 0, h => rfl
  | r + 1, i, j + 1, h => by
    have := blkR_get n L c r (i + 1) j (by omega)
    simp only [blkR, List.getElem_cons_succ]
    rw [this, show i + 1 + j = i + (j + 1) by omega]
theorem ba_size (s : ByteArray) : s.size = (bl s).length := by simp [bl]
theorem ba_of (s : ByteArray) : s = ⟨(bl s).toArray⟩ := by apply ByteArray.ext; simp [bl]
theorem bl_extract (s : ByteArray) (a b : Nat) : bl (s.extract a b) = ((bl s).drop a).take (b - a) := by
  simp [bl, List.extract]
theorem ba_ext {s t : ByteArray} (h : bl s = bl t) : s = t := by rw [ba_of s, ba_of t, h]
theorem chunk_size (L : List UInt8) (i : Nat) : (chunk L i).size = min 49 (L.length - 49 * i) := by rw [ba_size]; simp [chunk, bl]
theorem chunk_a (L : List UInt8) (i : Nat) (x : ByteArray) (hx : bl x = L.drop (49 * i)) : x.extract 0 49 = chunk L i := by
  apply ba_ext; rw [bl_extract, hx]; simp [chunk, bl]
theorem chunk_b (L : List UInt8) (i : Nat) (x : ByteArray) (hx : bl x = L.drop (49 * i)) (h : ¬ 49 < x.size) : x.extract 0 x.size = chunk L i := by
  have hl : (L.drop (49 * i)).length ≤ 49 := by rw [← hx, ← ba_size]; omega
  apply ba_ext; rw [bl_extract, hx, ba_size, hx]
  show _ = List.take 49 _
  rw [List.drop_zero, Nat.sub_zero, List.take_length, List.take_of_length_le hl]
theorem rest_a (L : List UInt8) (i : Nat) (x : ByteArray) (hx : bl x = L.drop (49 * i)) (d : ByteArray) (hd : d = chunk L i) : bl (x.extract d.size x.size) = L.drop (49 * (i + 1)) := by
  have h1 : x.size = L.length - 49 * i := by rw [ba_size, hx]; simp
  have h2 : d.size = min 49 (L.length - 49 * i) := by rw [hd, chunk_size]
  rw [bl_extract, hx, List.drop_drop, List.take_of_length_le (by simp; omega)]
  by_cases h : 49 ≤ L.length - 49 * i
  · rw [h2, Nat.min_eq_left h, Nat.mul_succ, Nat.add_comm]
  · rw [List.drop_eq_nil_of_le (by omega), List.drop_eq_nil_of_le (by omega)]
theorem pk_loop (n : Int) (L : List UInt8) (hL : L.length ≤ 1000000) (c : Nat) (hc : c ≤ 255) : ∀ (r i : Nat) (x : ByteArray) (acc : List ByteArray), i + r = c → bl x = L.drop (49 * i) → acc.length ≤ i →
    EvT (fun k => block_Pack.l0 k n x c acc c i) (acc ++ blkR (n % 4294967296) L c i r, 0)
  | 0, i, x, acc, hi, hx, ha => by
    refine EvT.done (fun k => ?_)
    simp only [block_Pack.l0, blkR, List.append_nil]
    rw [if_neg (by omega)]
  | r + 1, i, x, acc, hi, hx, ha => by
    have hd : (chunk L i).size ≤ 49 := by rw [chunk_size]; omega
    have h1 : x.size = L.length - 49 * i := by rw [ba_size, hx]; simp
    have hlen : acc.length < 8796093022208 := by omega
    by_cases h : 49 < x.size
    · have ih := pk_loop n L hL c hc r (i + 1) (x.extract 49 x.size) (acc ++ [oneF (n % 4294967296) i c (chunk L i)]) (by omega) (by
        have := rest_a L i x hx (chunk L i) rfl
        rwa [chunk_size, Nat.min_eq_left (by omega)] at this) (by simp; omega)
      rw [List.append_assoc] at ih
      refine EvT.step (fun k => ?_) ih
      simp only [block_Pack.l0]
      rw [if_pos (by omega), if_pos (by omega), if_pos (by omega), if_pos (by omega), chunk_a L i x hx, one_ok _ _ _ _ hd]
      simp only [Option.bind_some]
      rw [if_pos hlen, nx i (by omega)]
    · have ih := pk_loop n L hL c hc r (i + 1) (x.extract x.size x.size) (acc ++ [oneF (n % 4294967296) i c (chunk L i)]) (by omega) (by
        have := rest_a L i x hx (chunk L i) rfl
        rwa [show (chunk L i).size = x.size by rw [chunk_size]; omega] at this) (by simp; omega)
      rw [List.append_assoc] at ih
      refine EvT.step (fun k => ?_) ih
      simp only [block_Pack.l0]
      rw [if_pos (by omega), if_neg (by omega), if_pos (by omega), if_pos (by omega), Int.toNat_natCast, chunk_b L i x hx h, one_ok _ _ _ _ hd]
      simp only [Option.bind_some]
      rw [if_pos hlen, nx i (by omega)]
def cntL (n : Nat) : Nat := (n + 48) / 49
def packF (n : Int) (L : List UInt8) : List ByteArray × Int := if cntL L.length < 1 ∨ 255 < cntL L.length ∨ n < 0 ∨ 4294967295 ≤ n then ([], 1) else (blkR n L (cntL L.length) 0 (cntL L.length), 0)
theorem pack_ok (n : Int) (p : ByteArray) (hL : p.size ≤ 1000000) : EvT (fun k => block_Pack.f k n p) (packF n (bl p)) := by
  have e : wrap64 (Int.tdiv (wrap64 ((wrap64 ((p.size : Int) + 49)) - 1)) 49) = (cntL (bl p).length : Int) := by
    rw [← ba_size]
    have e1 : wrap64 ((wrap64 ((p.size : Int) + 49)) - 1) = ((p.size + 48 : Nat) : Int) := by unfold wrap64; omega
    rw [e1, Int.tdiv_eq_ediv_of_nonneg (by omega)]
    unfold cntL wrap64; omega
  have hs := ba_size p
  unfold block_Pack.f packF
  rw [e]
  by_cases h1 : cntL (bl p).length < 1
  · rw [if_pos (.inl h1)]
    refine EvT.congr (fun k => if_pos (by omega)) (EvT.done fun k => ?_)
    simp only [block_Pack.j0]; rw [if_pos trivial]
  by_cases h2 : 255 < cntL (bl p).length
  · rw [if_pos (.inr (.inl h2))]
    refine EvT.congr (fun k => (if_neg (by omega)).trans (if_pos (by omega))) (EvT.done fun k => ?_)
    simp only [block_Pack.j0]; rw [if_pos trivial]
  by_cases h3 : n < 0
  · rw [if_pos (.inr (.inr (.inl h3)))]
    refine EvT.congr (fun k => (if_neg (by omega)).trans ((if_neg (by omega)).trans (if_pos h3))) (EvT.done fun k => ?_)
    simp only [block_Pack.j0]; rw [if_pos trivial]
  by_cases h4 : 4294967295 ≤ n
  · rw [if_pos (.inr (.inr (.inr h4)))]
    refine EvT.congr (fun k => (if_neg (by omega)).trans ((if_neg (by omega)).trans (if_neg h3))) (EvT.done fun k => ?_)
    simp only [block_Pack.j0]; rw [if_pos (decide_eq_true h4)]
  · rw [if_neg (by omega)]
    have h := pk_loop n (bl p) (by omega) (cntL (bl p).length) (by omega) (cntL (bl p).length) 0 p [] (by omega) (by simp) (by simp)
    rw [show n % 4294967296 = n by omega, List.nil_append] at h
    refine EvT.congr (fun k => (if_neg (by omega)).trans ((if_neg (by omega)).trans (if_neg h3))) (EvT.step (fun k => ?_) h)
    simp only [block_Pack.j0]; rw [if_neg (by rw [decide_eq_false (by omega)]; decide)]; rfl
end Go.Proofs.Ytckfkbmefdmedaa
namespace Go.Proofs.Ytckfkbmefdmedaa
open Go.RowKit Go.Proofs.Kq Go.Proofs.Ytckfkbmefdmedaa.Q Go.Proofs.YtckfkbmefdmedaaW.PrintWords Go
set_option linter.unusedVariables false
set_option linter.unusedSimpArgs false
def zer (r : Nat) : ByteArray := ⟨(Lib.repeatL [0] r).toArray⟩
theorem zer_size (r : Nat) : (zer r).size = r := by
  show (List.toArray _).size = _
  simp [Lib.repeatL_length]
theorem pad_loop (x1 x7 : ByteArray) (x6 x9 x11 : Int) (x8 : List ByteArray) (v : List ByteArray × Bool) : ∀ (r : Nat) (d : ByteArray), d.size + r = 49 →
    EvT (fun k => soukref03_Blocks.l1 k x1 x6 x7 x8 x9 (d ++ zer r) x11) v → EvT (fun k => soukref03_Blocks.l1 k x1 x6 x7 x8 x9 d x11) v
  | 0, d, h, hv => by rw [show zer 0 = ⟨#[]⟩ from rfl, ba_nil] at hv; exact hv
  | r + 1, d, h, hv => by
    have e : d ++ zer (r + 1) = (d ++ (⟨#[0]⟩ : ByteArray)) ++ zer r := by
      rw [ba_assoc]; congr 1
    rw [e] at hv
    have hz : (⟨#[0]⟩ : ByteArray).size = 1 := rfl
    refine EvT.step (fun k => ?_) (pad_loop x1 x7 x6 x9 x11 x8 v r (d ++ (⟨#[0]⟩ : ByteArray)) (by rw [ByteArray.size_append, hz]; omega) hv)
    rw [soukref03_Blocks.l1, if_pos (by omega), if_pos (by omega)]
theorem u64w (i : Nat) (h : i < 1000000) : IntKind.u64.wrap (i : Int) = i := by
  show (i : Int) % 18446744073709551616 = _
  omega
theorem rb_end (x1 : ByteArray) (n : Int) (c i : Nat) (hc : c ≤ 255) (hi : i < c) (x8 : List ByteArray) (h8 : x8.length ≤ i) (d : ByteArray) (hd : d.size ≤ 49) (v : List ByteArray × Bool)
    (h : EvT (fun k => soukref03_Blocks.l0 k x1 c (strOfNums (lowI 4 ((n + 1) % 4294967296))) (x8 ++ [oneF n i c d]) (i + 1 : Nat)) v) :
    EvT (fun k => soukref03_Blocks.l1 k x1 c (strOfNums (lowI 4 ((n + 1) % 4294967296))) x8 i d d.size) v := by
  refine pad_loop _ _ _ _ _ _ _ (49 - d.size) d (by omega) ?_
  have hl1 : ∀ z : Int, lowI 1 z = [z % 256] := fun z => rfl
  obtain ⟨m1, h1⟩ := low_ok 1 (by decide) i (by omega) (by omega)
  obtain ⟨m2, h2⟩ := low_ok 1 (by decide) c (by omega) (by omega)
  obtain ⟨m3, h3⟩ := low_ok 1 (by decide) d.size (by omega) (by omega)
  rw [hl1] at h1 h2 h3
  have hs4 : ∀ z, (strOfNums (lowI 4 z)).size = 4 := fun z => by rw [sn_size, lowI_len]
  have eh : strOfNums (lowI 4 ((n + 1) % 4294967296)) ++ (((strOfNums [(i : Int) % 256] ++ strOfNums [(c : Int) % 256]) ++ strOfNums [(d.size : Int) % 256]) ++ (d ++ zer (49 - d.size))) = headF n i c d := by
    unfold headF
    rw [← sn_app, ← sn_app]
    simp only [ba_assoc]
    rfl
  have hh : (headF n i c d).size = 56 := by
    rw [← eh]
    simp only [ByteArray.size_append, hs4, zer_size, sn_size]; simp; omega
  obtain ⟨m4, h4⟩ := sum_ok (headF n i c d) (by omega)
  have hci := crcF_in (headF n i c d)
  obtain ⟨m5, h5⟩ := low_ok 4 (by decide) (crcF (headF n i c d)) hci.1 (by have := hci.2; omega)
  obtain ⟨m6, h6⟩ := h
  refine ⟨m1 + m2 + m3 + m4 + m5 + m6 + 1, fun k hk => ?_⟩
  obtain ⟨j, rfl⟩ : ∃ j, k = j + 1 := ⟨k - 1, by omega⟩
  show soukref03_Blocks.l1 (j + 1) _ _ _ _ _ _ _ = _
  rw [soukref03_Blocks.l1, if_neg (by rw [ByteArray.size_append, zer_size]; omega)]
  rw [u64w i (by omega), u64w c (by omega), u64w d.size (by omega)]
  have g1 := h1 j (by omega); have g2 := h2 j (by omega); have g3 := h3 j (by omega); have g4 := h4 j (by omega); have g5 := h5 j (by omega); have g6 := h6 j (by omega)
  simp only [Int.ofNat_eq_natCast] at g1 g2 g3 g5
  have k1 : soukref03_Low.f j (i : Int) 1 = some (strOfNums [(i : Int) % 256]) := g1
  have k2 : soukref03_Low.f j (c : Int) 1 = some (strOfNums [(c : Int) % 256]) := g2
  have k3 : soukref03_Low.f j (d.size : Int) 1 = some (strOfNums [(d.size : Int) % 256]) := g3
  have k5 : soukref03_Low.f j (crcF (headF n i c d)) 4 = some (strOfNums (lowI 4 (crcF (headF n i c d)))) := g5
  have k4 : soukref03_Sum.f j (headF n i c d) = some (crcF (headF n i c d)) := g4
  rw [k1]; simp only [Option.bind_some]
  rw [k2]; simp only [Option.bind_some]
  rw [if_pos (by simp only [sn_size]; simp), k3]; simp only [Option.bind_some]
  rw [if_pos (by simp only [ByteArray.size_append, sn_size]; simp), if_pos (by simp only [ByteArray.size_append, sn_size, zer_size]; simp; omega), if_pos (by simp only [ByteArray.size_append, sn_size, zer_size, lowI_len]; simp; omega)]
  rw [eh, k4]; simp only [Option.bind_some]
  rw [show IntKind.u64.wrap (crcF (headF n i c d)) = crcF (headF n i c d) by
    show (crcF (headF n i c d)) % 18446744073709551616 = _
    have := hci.1; have := hci.2; omega, k5]; simp only [Option.bind_some]
  rw [if_pos (by rw [hh, hs4]; omega), if_pos (by rw [ByteArray.size_append, hh, hs4, hs4]; omega), if_pos (by omega), nx i (by omega)]
  exact g6
theorem rb_loop (n : Int) (L : List UInt8) (hL : L.length ≤ 1000000) (c : Nat) (hc : c ≤ 255) : ∀ (r i : Nat) (x : ByteArray) (acc : List ByteArray), i + r = c → bl x = L.drop (49 * i) → acc.length ≤ i →
    EvT (fun k => soukref03_Blocks.l0 k x c (strOfNums (lowI 4 ((n + 1) % 4294967296))) acc i) (acc ++ blkR n L c i r, true)
  | 0, i, x, acc, hi, hx, ha => by
    refine EvT.done (fun k => ?_)
    simp only [soukref03_Blocks.l0, blkR, List.append_nil]
    rw [if_neg (by omega)]
  | r + 1, i, x, acc, hi, hx, ha => by
    have hd : (chunk L i).size ≤ 49 := by rw [chunk_size]; omega
    have h1 : x.size = L.length - 49 * i := by rw [ba_size, hx]; simp
    have ih := rb_loop n L hL c hc r (i + 1) (x.extract (chunk L i).size x.size) (acc ++ [oneF n i c (chunk L i)]) (by omega) (rest_a L i x hx (chunk L i) rfl) (by simp; omega)
    rw [List.append_assoc] at ih
    have h2 := rb_end _ n c i hc (by omega) acc ha (chunk L i) hd _ ih
    have h3 : EvT (fun k => soukref03_Blocks.j2 k x c (strOfNums (lowI 4 ((n + 1) % 4294967296))) acc i (chunk L i)) (acc ++ blkR n L c i (r + 1), true) := by
      refine EvT.step (fun k => ?_) h2
      rw [soukref03_Blocks.j2, if_pos (by omega), if_pos (by rw [chunk_size]; omega), Int.toNat_natCast]
    refine EvT.step (fun k => ?_) h3
    rw [soukref03_Blocks.l0, if_pos (by omega)]
    by_cases h : 49 < x.size
    · rw [if_pos (by omega), if_pos (by omega), if_pos (by omega), chunk_a L i x hx]
    · rw [if_neg (by omega)]
      have e := chunk_b L i x hx h
      rw [show x.extract 0 x.size = x by apply ba_ext; rw [bl_extract]; simp [ba_size]] at e
      rw [← e]
def blocksF (n : Int) (L : List UInt8) : List ByteArray × Bool := if cntL L.length < 1 ∨ 255 < cntL L.length ∨ n < 0 ∨ 4294967295 ≤ n then ([], false) else (blkR n L (cntL L.length) 0 (cntL L.length), true)
theorem blocks_ok (n : Int) (p : ByteArray) (hL : p.size ≤ 1000000) : EvT (fun k => soukref03_Blocks.f k n p) (blocksF n (bl p)) := by
  have e : wrap64 (Int.tdiv (wrap64 ((p.size : Int) + 48)) 49) = (cntL (bl p).length : Int) := by
    rw [← ba_size]
    have e1 : wrap64 ((p.size : Int) + 48) = ((p.size + 48 : Nat) : Int) := by unfold wrap64; omega
    rw [e1, Int.tdiv_eq_ediv_of_nonneg (by omega)]
    unfold cntL wrap64; omega
  have hs := ba_size p
  unfold soukref03_Blocks.f blocksF
  rw [e]
  by_cases h1 : cntL (bl p).length < 1
  · rw [if_pos (.inl h1)]
    refine EvT.congr (fun k => if_pos (by omega)) (EvT.done fun k => ?_)
    simp only [soukref03_Blocks.j0]; rw [if_pos trivial]
  by_cases h2 : 255 < cntL (bl p).length
  · rw [if_pos (.inr (.inl h2))]
    refine EvT.congr (fun k => (if_neg (by omega)).trans (if_pos (by omega))) (EvT.done fun k => ?_)
    simp only [soukref03_Blocks.j0]; rw [if_pos trivial]
  by_cases h3 : n < 0
  · rw [if_pos (.inr (.inr (.inl h3)))]
    refine EvT.congr (fun k => (if_neg (by omega)).trans ((if_neg (by omega)).trans (if_pos h3))) (EvT.done fun k => ?_)
    simp only [soukref03_Blocks.j0]; rw [if_pos trivial]
  by_cases h4 : 4294967295 ≤ n
  · rw [if_pos (.inr (.inr (.inr h4)))]
    refine EvT.congr (fun k => (if_neg (by omega)).trans ((if_neg (by omega)).trans (if_neg h3))) (EvT.done fun k => ?_)
    simp only [soukref03_Blocks.j0]; rw [if_pos (decide_eq_true (by omega))]
  · rw [if_neg (by omega)]
    have h := rb_loop n (bl p) (by omega) (cntL (bl p).length) (by omega) (cntL (bl p).length) 0 p [] (by omega) (by simp) (by simp)
    rw [List.nil_append] at h
    obtain ⟨m1, hm1⟩ := low_ok 4 (by decide) (n + 1) (by omega) (by omega)
    obtain ⟨m2, hm2⟩ := h
    refine EvT.congr (fun k => (if_neg (by omega)).trans ((if_neg (by omega)).trans (if_neg h3))) ?_
    refine ⟨m1 + m2 + 1, fun k hk => ?_⟩
    obtain ⟨j, rfl⟩ : ∃ j, k = j + 1 := ⟨k - 1, by omega⟩
    show soukref03_Blocks.j0 (j + 1) _ _ _ _ = _
    rw [soukref03_Blocks.j0, if_neg (by rw [decide_eq_false (by omega)]; decide)]
    have ew : IntKind.u64.wrap (IntKind.u64.wrap n + 1) = n + 1 := by
      show (n % 18446744073709551616 + 1) % 18446744073709551616 = _
      omega
    have g1 : soukref03_Low.f j (n + 1) 4 = some (strOfNums (lowI 4 (n + 1))) := hm1 j (by omega)
    rw [ew, g1]; simp only [Option.bind_some]
    have g2 := hm2 j (by omega)
    rw [show (n + 1) % 4294967296 = n + 1 by omega] at g2
    exact g2
end Go.Proofs.Ytckfkbmefdmedaa
namespace Go.Proofs.Ytckfkbmefdmedaa.Q
open Go.RowKit Go.Proofs.YtckfkbmefdmedaaW.PrintWords Go.Proofs.YtckfkbmefdmedaaW.PrintLast Go.Proofs.YtckfkbmefdmedaaW.PrintMore
attribute [local go_sem] max2_int min2_int max_two min_two max_three min_three max_four min_four   -- for this text's walks alone
set_option linter.unusedVariables false
set_option linter.unusedSimpArgs false
def block_whole.l0 : Nat → Int → List ByteArray → Int → Int → Option (Bool)
 | 0, _, _, _, _ => none
 | k + 1, x1, x7, x8, x9 => if x9 < x8 then (if 0 ≤ x9 then (if x9 < (x7.length : Int) then (if 5 < ((rdOf ByteArray.empty x7 x9).size : Int) then (if (wrap64 (bt (rdOf ByteArray.empty x7 x9) 5)) = x1 then (block_whole.l0 k x1 x7 x8 (wrap64 (x9 + 1))) else (some false)) else (none)) else (none)) else (none)) else (some true)
def block_whole.f (k : Nat) (l0 : List ByteArray) (a1 : Int) : Option (Bool) := block_whole.l0 k a1 l0 (l0.length : Int) 0
set_option maxHeartbeats 8000000 in
set_option maxRecDepth 100000 in
theorem block_whole.calls (k : Nat) (A0 : Option Addr) (c0 : Nat) (l0 : List ByteArray) (a1 : Int) (r : Bool) (w : World) (hr0 : Kd.C Kd.string w A0 l0.length l0) (hc0 : l0.length ≤ c0) (h : block_whole.f k l0 a1 = some r) :
  Calls Try.prog 67 #[.slice A0 l0.length c0, .int .i64 a1] w fun e w' => e = .returned (.bool r) ∧ Drawn0 w w' := by
 have HR0 := Aside0.mk hr0
 have HC0 := Aside0.mk hc0
 clear hr0 hc0
 have H : (block_whole.l0 k a1 l0 (l0.length : Int) 0) = some r := h
 clear h
 have H' := Aside0.mk H
 clear H
 go_enter Try.func67, Try.ntmps67
 go_wp2
 go_loopg [9] k (fun kq v9 w' => ∃ (x9_1 : Int), v9 = .int .i64 x9_1 ∧ Aside0 (block_whole.l0 kq a1 l0 (l0.length : Int) x9_1 = some r) ∧ Aside0 (kq ≤ k) ∧ Drawn0 w w')
 case atStart => exact ⟨(0), (by first | rfl | (simp; done) | (simp [*]; done)), H', ⟨Nat.le_refl _⟩, by repeat (first | exact Drawn0.refl _ | apply Drawn0.step)⟩
 case round =>
  clear H'
  try clear p2
  obtain ⟨x9_1, rfl, HA, HK1, ⟨m1, rfl⟩⟩ := hrel
  cases gk with
  | zero => exact absurd HA.out (by simp [block_whole.l0])
  | succ k1 =>
   have H := HA.out
   clear HA
   simp only [block_whole.l0] at H
   by_cases c3 : x9_1 < (l0.length : Int)
   ·rw [if_pos c3] at H
    have c3b0 : decide (x9_1 < (l0.length : Int)) = true := decide_eq_true c3
    clear c3
    by_cases c4 : 0 ≤ x9_1
    ·rw [if_pos c4] at H
     have c4b0 : decide (0 ≤ x9_1) = true := decide_eq_true c4
     clear c4
     by_cases c5 : x9_1 < (l0.length : Int)
     ·rw [if_pos c5] at H
      have c5b0 : decide (x9_1 < (l0.length : Int)) = true := decide_eq_true c5
      clear c5
      by_cases c6 : 5 < ((rdOf ByteArray.empty l0 x9_1).size : Int)
      ·rw [if_pos c6] at H
       have c6b0 : decide (5 < ((rdOf ByteArray.empty l0 x9_1).size : Int)) = true := decide_eq_true c6
       have c6b1 : decide (5 < (rdOf ByteArray.empty l0 x9_1).size) = true := decide_eq_true (by omega)
       clear c6
       by_cases c8 : (wrap64 (bt (rdOf ByteArray.empty l0 x9_1) 5)) = a1
       ·rw [if_pos c8] at H
        have c8b0 : ((wrap64 (bt (rdOf ByteArray.empty l0 x9_1) 5)) == a1) = true := beq_iff_eq.mpr c8
        have c8b1 : ((wrap64 (bt (rdOf ByteArray.empty l0 x9_1) 5)) != a1) = false := bne_eq_false_iff_eq.mpr c8
        clear c8
        have H' := Aside0.mk H
        clear H
        have p131 : 0 ≤ (x9_1 : Int) := of_decide_eq_true (by first | (with_reducible assumption) | assumption)
        have q131 : x9_1 < (l0.length : Int) := of_decide_eq_true (by first | (with_reducible assumption) | assumption)
        obtain ⟨ad131, e131, hx131_0⟩ := Kd.at_string HR0.out x9_1 p131 q131
        cases e131
        replace p131 := eq_true p131
        replace q131 := eq_true q131
        have p7 : 0 ≤ (5 : Int) := (by omega)
        have q7 : 5 < (rdOf ByteArray.empty l0 x9_1).size := (by have : (5 : Int) < ((rdOf ByteArray.empty l0 x9_1).size : Int) := of_decide_eq_true (by first | (with_reducible assumption) | assumption); omega)
        have hx7 : ∀ h : 5 < (rdOf ByteArray.empty l0 x9_1).size, (((rdOf ByteArray.empty l0 x9_1)[5]'h).toNat : Int) = bt (rdOf ByteArray.empty l0 x9_1) 5 := bt_at (rdOf ByteArray.empty l0 x9_1) 5
        clear p7
        have qi7 : (5 < ((rdOf ByteArray.empty l0 x9_1).size : Int)) = True := eq_true (of_decide_eq_true (by first | (with_reducible assumption) | assumption))
        replace q7 := eq_true q7
        go_wp2
        go_roundg k1
        case measure => have := HK1.out; omega
        case rel => exact ⟨(wrap64 (x9_1 + 1)), (by first | rfl | (simp; done) | (simp [*]; done)), H', ⟨by have := HK1.out; omega⟩, by repeat (first | exact Drawn0.refl _ | apply Drawn0.step)⟩
       ·rw [if_neg c8] at H
        have c8b0 : ((wrap64 (bt (rdOf ByteArray.empty l0 x9_1) 5)) == a1) = false := beq_eq_false_iff_ne.mpr c8
        have c8b1 : ((wrap64 (bt (rdOf ByteArray.empty l0 x9_1) 5)) != a1) = true := bne_iff_ne.mpr c8
        obtain rfl := Option.some.inj H
        have p131 : 0 ≤ (x9_1 : Int) := of_decide_eq_true (by first | (with_reducible assumption) | assumption)
        have q131 : x9_1 < (l0.length : Int) := of_decide_eq_true (by first | (with_reducible assumption) | assumption)
        obtain ⟨ad131, e131, hx131_0⟩ := Kd.at_string HR0.out x9_1 p131 q131
        cases e131
        replace p131 := eq_true p131
        replace q131 := eq_true q131
        have p7 : 0 ≤ (5 : Int) := (by omega)
        have q7 : 5 < (rdOf ByteArray.empty l0 x9_1).size := (by have : (5 : Int) < ((rdOf ByteArray.empty l0 x9_1).size : Int) := of_decide_eq_true (by first | (with_reducible assumption) | assumption); omega)
        have hx7 : ∀ h : 5 < (rdOf ByteArray.empty l0 x9_1).size, (((rdOf ByteArray.empty l0 x9_1)[5]'h).toNat : Int) = bt (rdOf ByteArray.empty l0 x9_1) 5 := bt_at (rdOf ByteArray.empty l0 x9_1) 5
        clear p7
        have qi7 : (5 < ((rdOf ByteArray.empty l0 x9_1).size : Int)) = True := eq_true (of_decide_eq_true (by first | (with_reducible assumption) | assumption))
        replace q7 := eq_true q7
        go_wp2
        go_ret
        exact ⟨by first | rfl | (simp; done) | (simp [*]; done), by repeat (first | exact Drawn0.refl _ | apply Drawn0.step)⟩
      ·rw [if_neg c6] at H
       exact absurd H (by simp)
     ·rw [if_neg c5] at H
      exact absurd H (by simp)
    ·rw [if_neg c4] at H
     exact absurd H (by simp)
   ·rw [if_neg c3] at H
    have c3b0 : decide (x9_1 < (l0.length : Int)) = false := decide_eq_false c3
    clear c3
    obtain rfl := Option.some.inj H
    go_wp2
    go_ret
    exact ⟨by first | rfl | (simp; done) | (simp [*]; done), by repeat (first | exact Drawn0.refl _ | apply Drawn0.step)⟩
end Go.Proofs.Ytckfkbmefdmedaa.Q
namespace Go.Proofs.Ytckfkbmefdmedaa
open Go.RowKit Go.Proofs.Kq
set_option linter.unusedVariables false
set_option linter.unusedSimpArgs false
def Bld (base b : Nat) (bs : List UInt8) (w : World) : Prop := Lib.IsBuilder 113 5 base b (Lib.byteCells bs) w
theorem builderAt_below {p : Value} {base b : Nat} {bs : List Value} {w w1 : World} (h : Lib.BuilderAt 113 5 base b p bs w) (hb : Below w.heap.size w w1) : Lib.BuilderAt 113 5 base b p bs w1 := by
  have hlt := h.lt
  obtain ⟨h0, v, h1, h2, h3⟩ := h
  have ho : Own (fun v : Value => [v]) 1 5 w base v bs := by simpa [Own] using h2
  have ho2 := ho.below hb
  exact ⟨h0, v, by rw [hb.block b hlt]; exact h1, by simpa [Own] using ho2, h3⟩
theorem Bld.below {base b : Nat} {bs : List UInt8} {w w1 : World} (h : Bld base b bs w) (hb : Below w.heap.size w w1) : Bld base b bs w1 :=
  h.imp (fun x => builderAt_below x hb) (fun x => builderAt_below x hb)
theorem Bld.new {w0 w : World} (hb : Below w0.heap.size w0 w) : Bld w0.heap.size w.heap.size [] (w.alloc (.cells #[.pointer none, .slice none 0 0] 113)) :=
  .inl ⟨hb.size, .slice none 0 0, by (show (w.heap.push _)[w.heap.size]? = _; simp), ⟨by simp [Lib.byteCells], .inl ⟨rfl, by simp [Lib.byteCells]⟩⟩, by simp [Value.ownBlock]⟩
theorem wstr_any (base b : Nat) (bs : List UInt8) (s : ByteArray) (w : World) (h : Bld base b bs w) (hl : bs.length + s.size ≤ 140737488355328) (hB : base ≤ w.heap.size) :
    Calls Try.prog 66 #[.pointer (some ⟨b, 0, none⟩), .string s] w fun e w' => e = .returned (.tuple #[.int .i64 s.size, .nilIface]) ∧ Bld base b (bs ++ s.data.toList) w' ∧ Below base w w' := by
  refine (Any.Builder_WriteString (P := Try.prog) (ρ := Try.lays105_ren) { Try.lays105 with } Try.Builder_Extra_105 base b (Lib.byteCells bs) s w h (by simpa [Lib.byteCells] using hl) hB).mono ?_
  rintro e w' ⟨rfl, h1, h2⟩
  refine ⟨rfl, .inr ?_, h2⟩
  have e : Lib.byteCells (bs ++ s.data.toList) = Lib.byteCells bs ++ Lib.strCells s := by simp [Lib.byteCells, Lib.strCells]
  rw [e]; exact h1
theorem bstr_any (base b : Nat) (bs : List UInt8) (w : World) (h : Bld base b bs w) (hB : base ≤ w.heap.size) :
    Calls Try.prog 68 #[.pointer (some ⟨b, 0, none⟩)] w fun e w' => e = .returned (.string ⟨bs.toArray⟩) ∧ Below base w w' :=
  Try.Builder_String_any base b bs w h hB
end Go.Proofs.Ytckfkbmefdmedaa
namespace Go.Proofs.Ytckfkbmefdmedaa
open Go.RowKit Go.Proofs.Kq Go.Proofs.Ytckfkbmefdmedaa.Q
open Go.Proofs.YtckfkbmefdmedaaW.PrintWords (pw_cell_below Kd Kd.C Kd.C_below bt rdOf)
set_option linter.unusedVariables false
set_option linter.unusedSimpArgs false
def lenB (s : ByteArray) : Nat := (s.data.getD 6 0).toNat
def cntB (s : ByteArray) : Nat := (s.data.getD 5 0).toNat
def datB (s : ByteArray) : ByteArray := s.extract 7 (7 + lenB s)
def badU : ByteArray × Int × Int := (⟨#[]⟩, 0, 5)
def okB (number : Int) (i : Nat) (s : ByteArray) : Bool :=
  decide (s.size = 64) && decide (lenB s ≤ 49) && decide (0 < lenB s) && decide (oneF number (i : Int) (cntB s : Int) (datB s) = s) && decide (i < cntB s) && !(decide (i + 1 < cntB s) && decide (lenB s < 49))
def wholeB (l : List ByteArray) (n : Nat) : Bool := l.all fun s => decide (cntB s = n)
def unpF (number : Int) (all : List ByteArray) : Nat → Nat → List UInt8 → ByteArray × Int × Int
  | 0, _, _ => badU
  | d + 1, i, out =>
    let s := all.getD i ByteArray.empty
    if okB number i s = true then
      (if cntB s = i + 1 then (if wholeB (all.take (i + 1)) (i + 1) = true then (⟨(out ++ (datB s).data.toList).toArray⟩, ((i + 1 : Nat) : Int), 0) else badU)
       else if i + 1 = 255 then badU else unpF number all d (i + 1) (out ++ (datB s).data.toList))
    else badU
def unpackF (number : Int) (l : List ByteArray) : ByteArray × Int × Int :=
  if l.length = 0 then (⟨#[]⟩, 0, 4) else if number < 0 ∨ 4294967295 ≤ number then (⟨#[]⟩, 0, 1) else unpF number l l.length 0 []
theorem unpF_bad (number : Int) (all : List ByteArray) (k : Nat) (out : List UInt8) (h : k < all.length) (hb : okB number k all[k] = false) : unpF number all (all.length - k) k out = badU := by
  rw [show all.length - k = (all.length - (k + 1)) + 1 by omega]
  simp only [unpF, List.getD_eq_getElem?_getD, List.getElem?_eq_getElem h, Option.getD_some, hb]
  rfl
theorem unpF_end (number : Int) (all : List ByteArray) (k : Nat) (out : List UInt8) (h : k < all.length) (hb : okB number k all[k] = true) (hc : cntB all[k] = k + 1) : unpF number all (all.length - k) k out = if wholeB (all.take (k + 1)) (k + 1) = true then (⟨(out ++ (datB all[k]).data.toList).toArray⟩, ((k + 1 : Nat) : Int), 0) else badU := by
  rw [show all.length - k = (all.length - (k + 1)) + 1 by omega]
  simp only [unpF, List.getD_eq_getElem?_getD, List.getElem?_eq_getElem h, Option.getD_some, hb, hc, if_true]
theorem unpF_full (number : Int) (all : List ByteArray) (k : Nat) (out : List UInt8) (h : k < all.length) (hc : ¬ cntB all[k] = k + 1) (h5 : k + 1 = 255) : unpF number all (all.length - k) k out = badU := by
  rw [show all.length - k = (all.length - (k + 1)) + 1 by omega]
  simp only [unpF, List.getD_eq_getElem?_getD, List.getElem?_eq_getElem h, Option.getD_some]
  split
  · first | rfl | rw [if_neg hc, if_pos h5]
  · rfl
theorem unpF_next (number : Int) (all : List ByteArray) (k : Nat) (out : List UInt8) (h : k < all.length) (hb : okB number k all[k] = true) (hc : ¬ cntB all[k] = k + 1) (h5 : ¬ k + 1 = 255) : unpF number all (all.length - k) k out = unpF number all (all.length - (k + 1)) (k + 1) (out ++ (datB all[k]).data.toList) := by
  rw [show all.length - k = (all.length - (k + 1)) + 1 by omega]
  rw [unpF]
  simp only [List.getD_eq_getElem?_getD, List.getElem?_eq_getElem h, Option.getD_some, hb, if_true]
  rw [if_neg hc, if_neg h5]
theorem whole_loop (l : List ByteArray) (n : Nat) (hn : n < 256) (h64 : ∀ s ∈ l, s.size = 64) (hl : l.length ≤ 1000000) : ∀ r i : Nat, i + r = l.length → EvT (fun k => block_whole.l0 k n l l.length i) (wholeB (l.drop i) n)
  | 0, i, hi => by
    refine EvT.done (fun k => ?_)
    simp only [block_whole.l0]
    rw [if_neg (by omega), List.drop_eq_nil_of_le (by omega)]; rfl
  | r + 1, i, hi => by
    have ih := whole_loop l n hn h64 hl r (i + 1) (by omega)
    have hlt : i < l.length := by omega
    have hs := h64 l[i] (List.getElem_mem hlt)
    have hrd : rdOf ByteArray.empty l (i : Int) = l[i] := by simp [rdOf, hlt]
    have hbt : wrap64 (bt l[i] 5) = (cntB l[i] : Int) := by
      have h5 : 5 < l[i].size := by omega
      have e5 : (l[i][5]'h5).toNat = cntB l[i] := by simp [cntB, Array.getD, h5]; rfl
      have := (l[i][5]'h5).toNat_lt
      rw [show bt l[i] 5 = ((l[i][5]'h5).toNat : Int) by simp [bt, h5]]
      unfold wrap64; omega
    rw [List.drop_eq_getElem_cons hlt]
    by_cases hq : cntB l[i] = n
    · refine EvT.step (fun k => ?_) (show EvT (fun k => block_whole.l0 k n l l.length ((i + 1 : Nat) : Int)) _ by
        have e : wholeB (l[i] :: l.drop (i + 1)) n = wholeB (l.drop (i + 1)) n := by unfold wholeB; rw [List.all_cons, decide_eq_true hq, Bool.true_and]
        rw [e]; exact ih)
      simp only [block_whole.l0]
      rw [if_pos (by omega), if_pos (by omega), if_pos (by omega), hrd, if_pos (by omega), hbt, if_pos (by omega), nx i (by omega)]
    · have e : wholeB (l[i] :: l.drop (i + 1)) n = false := by unfold wholeB; rw [List.all_cons, decide_eq_false hq, Bool.false_and]
      rw [e]
      refine EvT.done (fun k => ?_)
      simp only [block_whole.l0]
      rw [if_pos (by omega), if_pos (by omega), if_pos (by omega), hrd, if_pos (by omega), hbt, if_neg (by omega)]
theorem whole_ok (l : List ByteArray) (n : Nat) (hn : n < 256) (h64 : ∀ s ∈ l, s.size = 64) (hl : l.length ≤ 1000000) : ∃ K, block_whole.f K l n = some (wholeB l n) := by
  have h := whole_loop l n hn h64 hl l.length 0 (by omega)
  exact EvT.one (f := fun k => block_whole.f k l n) h
def UnpP (r : ByteArray × Int × Int) (w : World) (e : Ending) (w' : World) : Prop := e = .returned (.tuple #[.string r.1, .int .i64 r.2.1, .int .i64 r.2.2]) ∧ Below w.heap.size w w'
set_option maxRecDepth 100000 in
set_option maxHeartbeats 4000000 in
theorem unp_any (number : Int) (A : Option Addr) (c : Nat) (xs : List ByteArray) (w : World) (hC : Kd.C Kd.string w A xs.length xs) (hn0 : 0 ≤ number) (hn1 : number < 4294967295) (hcc : xs.length ≤ c) (hl : xs.length ≤ 10000000000000) (h0 : 0 < xs.length) :
    Calls Try.prog 14 #[.int .i64 number, .slice A xs.length c] w (UnpP (unpF number xs xs.length 0 []) w) := by
  obtain ⟨ad, rfl, hx⟩ := (Kd.reads_of_C (d := ByteArray.empty) hC).2.2 h0
  have hsp : ad.spot = none := by
    have h1 := Rk.spot_none (hx 0 h0)
    simpa [Addr.add] using h1
  obtain ⟨b, off, rfl⟩ : ∃ b off, ad = ⟨b, off, none⟩ := ⟨ad.block, ad.off, by rw [← Kp.addr_eta hsp]⟩
  have HX : Hid (∀ (i : Nat) (hi : i < xs.length), w.cell? ⟨b, off + i, none⟩ = some (.string xs[i])) := hidI fun i hi => by
    have := hx i hi
    rw [Kp.add_plain', List.getD_eq_getElem?_getD, List.getElem?_eq_getElem hi] at this
    simpa using this
  have HN := Bld.new (Below.refl w.heap.size w)
  have hne : ¬ (xs.length = 0) := by omega
  have hnd : decide ((xs.length : Int) = 0) = false := decide_eq_false (by omega)
  have hn2 : decide (number < 0) = false := decide_eq_false (by omega)
  have hn3 : decide (4294967295 ≤ number) = false := decide_eq_false (by omega)
  have HC := hidI hC
  clear hx hC
  go_enter Try.func14, Try.ntmps14
  go_wp2
  apply wp_scope_straight
  go_wp2
  apply wp_label
  go_wp2
  obtain ⟨R, hR⟩ : ∃ R, unpF number xs xs.length 0 [] = R := ⟨_, rfl⟩
  rw [hR]
  have HR := hidI hR
  clear hR
  go_loopw [23] (fun i wr => ∃ k : Nat, k ≤ xs.length ∧ k ≤ 254 ∧ i = .int .i64 k ∧ ∃ out : List UInt8, out.length ≤ k * 49 ∧ Hid (Bld w.heap.size w.heap.size out wr ∧ Below w.heap.size w wr ∧ unpF number xs (xs.length - k) k out = R ∧ ∀ (j : Nat) (hj : j < xs.length), j < k → xs[j].size = 64)) (fun i _ => xs.length - (intOf i).toNat)
  case atStart => exact ⟨0, Nat.zero_le _, Nat.zero_le _, rfl, [], by simp, hidI ⟨HN, below_new (Below.refl _ _) _, HR.out, fun j hj h => absurd h (by omega)⟩⟩
  case round =>
    obtain ⟨k, hk, hk254, rfl, out, hout, hI⟩ := hrel
    by_cases hlt : k < xs.length
    · obtain ⟨s, hs⟩ : ∃ s, s = xs[k] := ⟨_, rfl⟩
      have q0 : wr.cell? ⟨b, off + k, none⟩ = some (.string s) := by rw [hs]; exact pw_cell_below hI.out.2.1 (HX.out k hlt)
      have HS := hidI hs
      have HK := hidI hlt
      clear hs
      by_cases h64 : s.size = 64
      · have p5 : 5 < s.size := by omega
        have p6 : 6 < s.size := by omega
        have e6 : (s[6]'p6).toNat = lenB s := by simp [lenB, Array.getD, p6]; rfl
        have e5 : (s[5]'p5).toNat = cntB s := by simp [cntB, Array.getD, p5]; rfl
        have l5 : cntB s < 256 := by rw [← e5]; exact UInt8.toNat_lt _
        have l6 : lenB s < 256 := by rw [← e6]; exact UInt8.toNat_lt _
        have hbad : Hid (okB number k s = false → R = badU) := hidI fun h => by
          rw [← hI.out.2.2.1]; exact unpF_bad number xs k out HK.out (by rw [← HS.out]; exact h)
        by_cases g1 : 49 < lenB s ∨ lenB s = 0
        · have hR : R = badU := hbad.out (by rcases g1 with g | g <;> simp [okB, g]; omega)
          have hfin5 : ∀ w1, Below wr.heap.size wr w1 → UnpP (unpF number xs xs.length 0 []) w (.returned (.tuple #[.string ⟨#[]⟩, .int .i64 0, .int .i64 5])) w1 := fun w1 h => by
            rw [HR.out, hR]; exact ⟨rfl, below_step hI.out.2.1 h⟩
          have HF5 := hidI hfin5
          clear hfin5
          go_wp2_with fail
          go_region
          all_goals
            rcases g1 with g | g
            · have g4 : decide (49 < (lenB s : Int)) = true := decide_eq_true (by omega)
              go_wp2_with fail
              rw [Exit.noGoto_ret]
              go_ret3
              exact HF5.out _ (Below.refl _ wr).drew
            · have g4 : decide (49 < (lenB s : Int)) = false := decide_eq_false (by omega)
              have g5 : ((lenB s : Int) == 0) = true := by rw [g]; rfl
              clear g
              go_wp2_with fail
              rw [Exit.noGoto_ret]
              go_ret3
              exact HF5.out _ (Below.refl _ wr).drew
        · have g2 : ¬ 49 < lenB s := by omega
          have g3 : ¬ lenB s = 0 := by omega
          have g4 : decide (49 < (lenB s : Int)) = false := decide_eq_false (by omega)
          have g5 : ((lenB s : Int) == 0) = false := by simp; omega
          clear g1
          go_wp2_with fail
          go_region
          all_goals
            go_wp2_with fail
            refine (block_one.calls number (k : Int) (cntB s : Int) (s.extract 7 (7 + lenB s)) _ _ (one_ok _ _ _ _ (by simp; omega))).mono ?_
            rintro e w1 ⟨rfl, hb1⟩
            simp only []
            have hW1 : Below w.heap.size w w1 := below_step hI.out.2.1.drew hb1
            have hBw : Hid (w.heap.size ≤ w1.heap.size) := hidI hW1.size
            have HW1 := hidI hW1
            have hbd1 := (hI.out.1.below (Below.refl _ wr).drew).below hb1
            have HBD1 := hidI hbd1
            clear hW1 hbd1 hb1
            have hfin : Hid (R = badU → UnpP (unpF number xs xs.length 0 []) w (.returned (.tuple #[.string ⟨#[]⟩, .int .i64 0, .int .i64 5])) w1) := hidI fun h => by
              rw [HR.out, h]; exact ⟨rfl, HW1.out⟩
            by_cases hE : oneF number (k : Int) (cntB s : Int) (s.extract 7 (7 + lenB s)) = s
            · have hE1 : (s.toList == (oneF number (k : Int) (cntB s : Int) (s.extract 7 (7 + lenB s))).toList) = true := by rw [hE]; simp
              have HE := hidI hE
              clear hE
              by_cases hc : k < cntB s
              · have hc1 : decide ((cntB s : Int) ≤ (k : Int)) = false := decide_eq_false (by omega)
                have hc0 : ¬ cntB s ≤ k := by omega
                have hds : (s.extract 7 (7 + lenB s)).size = lenB s := by rw [ByteArray.size_extract]; omega
                have hbb : out.length + (s.extract 7 (7 + lenB s)).size ≤ 140737488355328 := by rw [hds]; omega
                by_cases hq : cntB s = k + 1
                · have hc3 : ¬ ((k : Int) + 1 < (cntB s : Int)) := by omega
                  have hc3' : decide ((k : Int) + 1 < (cntB s : Int)) = false := decide_eq_false hc3
                  have hc6 : ((cntB s : Int) == (k : Int) + 1) = true := by rw [hq]; simp
                  have HQ := hidI hq
                  clear hq
                  have hk1 : k + 1 ≤ c := by omega
                  have hok : Hid (okB number k s = true) := hidI (by simp only [okB, datB, HE.out, h64]; simp [hc]; omega)
                  go_wp2_with fail
                  with_reducible refine (wstr_any w.heap.size w.heap.size out (s.extract 7 (7 + lenB s)) w1 HBD1.out hbb hBw.out).mono ?_
                  rintro e w2 ⟨rfl, hB2, hb2⟩
                  simp only []
                  go_wp2_with fail
                  have h64s : ∀ t ∈ xs.take (k + 1), t.size = 64 := by
                    intro t ht
                    obtain ⟨j, hj, rfl⟩ := List.getElem_of_mem ht
                    rw [List.length_take] at hj
                    rw [List.getElem_take]
                    by_cases e : j = k
                    · subst e; rw [← HS.out]; exact h64
                    · exact hI.out.2.2.2 j (by omega) (by omega)
                  have hlt' : (xs.take (k + 1)).length = k + 1 := by rw [List.length_take]; omega
                  obtain ⟨K, hK⟩ := whole_ok (xs.take (k + 1)) (cntB s) l5 h64s (by omega)
                  have hCw := block_whole.calls K (some ⟨b, off, none⟩) c (xs.take (k + 1)) (cntB s : Int) _ w2 (by
                    rw [hlt']
                    have := Go.Proofs.YtckfkbmefdmedaaW.PrintWords.Kd.C_take (Kd.C_below HC.out (HW1.out.trans hb2)) (m := k + 1) (by omega)
                    rw [hlt'] at this; exact this) (by rw [hlt']; exact hk1) hK
                  rw [hlt'] at hCw
                  clear h64s hlt' hK
                  with_reducible refine hCw.mono ?_
                  rintro e w3 ⟨rfl, hd3⟩
                  obtain ⟨m3, rfl⟩ := hd3
                  simp only []
                  have hRe : R = if wholeB (xs.take (k + 1)) (cntB s) = true then (⟨(out ++ (s.extract 7 (7 + lenB s)).data.toList).toArray⟩, ((k + 1 : Nat) : Int), 0) else badU := by
                    rw [← hI.out.2.2.1, unpF_end number xs k out HK.out (by rw [← HS.out]; exact hok.out) (by rw [← HS.out]; exact HQ.out), ← HS.out, HQ.out]; rfl
                  have HRe := hidI hRe
                  clear hRe
                  generalize wholeB (xs.take (k + 1)) (cntB s) = wh at *
                  have hB3 := hB2.below (Below.refl w2.heap.size w2 |> fun h => below_drewN h m3)
                  cases wh
                  · have hfin3 : Hid (UnpP (unpF number xs xs.length 0 []) w (.returned (.tuple #[.string ⟨#[]⟩, .int .i64 0, .int .i64 5])) (w2.drewN m3)) := hidI (by
                      rw [HR.out, HRe.out]; exact ⟨rfl, below_drewN (HW1.out.trans hb2) m3⟩)
                    go_wp2_with fail
                    rw [Exit.noGoto_ret]
                    go_ret3
                    exact hfin3.out
                  · go_wp2_with fail
                    with_reducible refine (bstr_any w.heap.size w.heap.size (out ++ (s.extract 7 (7 + lenB s)).data.toList) (w2.drewN m3) hB3 (below_drewN (HW1.out.trans hb2) m3).size).mono ?_
                    rintro e w4 ⟨rfl, hb4⟩
                    have hfin4 : Hid (UnpP (unpF number xs xs.length 0 []) w (.returned (.tuple #[.string ⟨(out ++ (s.extract 7 (7 + lenB s)).data.toList).toArray⟩, .int .i64 (cntB s), .int .i64 0])) w4) := hidI (by
                      rw [HR.out, HRe.out, ← HQ.out]; exact ⟨rfl, (below_drewN (HW1.out.trans hb2) m3).trans hb4⟩)
                    simp only []
                    go_wp2_with fail
                    rw [Exit.noGoto_ret]
                    go_ret3
                    first | exact hfin4.out | (have q := hfin4.out; rw [HR.out] at q; exact q)
                · by_cases hc2 : lenB s < 49
                  · have hR : R = badU := hbad.out (by simp [okB, hc2]; omega)
                    have hc3 : ((k : Int) + 1 < (cntB s : Int)) := by omega
                    have hc4 : decide ((lenB s : Int) < 49) = true := decide_eq_true (by omega)
                    have hc3' : decide ((k : Int) + 1 < (cntB s : Int)) = true := decide_eq_true hc3
                    go_wp2_with fail
                    rw [Exit.noGoto_ret]
                    go_ret3
                    exact hfin.out hR
                  · have hc3 : ((k : Int) + 1 < (cntB s : Int)) := by omega
                    have hc4 : decide ((lenB s : Int) < 49) = false := decide_eq_false (by omega)
                    have hc3' : decide ((k : Int) + 1 < (cntB s : Int)) = true := decide_eq_true hc3
                    have hc5 : (49 : Int) ≤ (lenB s : Int) := by omega
                    have hc6 : ((cntB s : Int) == (k : Int) + 1) = false := by simp; omega
                    go_wp2_with fail
                    with_reducible refine (wstr_any w.heap.size w.heap.size out (s.extract 7 (7 + lenB s)) w1 HBD1.out hbb hBw.out).mono ?_
                    rintro e w2 ⟨rfl, hB2, hb2⟩
                    simp only []
                    have hok : Hid (okB number k s = true) := hidI (by simp only [okB, datB, HE.out, h64]; simp [hc, hc2]; omega)
                    by_cases hq5 : k + 1 = 255
                    · have hq6 : ((k : Int) + 1 == 255) = true := by simp; omega
                      have hR : R = badU := by
                        rw [← hI.out.2.2.1]; exact unpF_full number xs k out HK.out (by rw [← HS.out]; exact hq) hq5
                      clear hq5
                      have hfin2 : Hid (UnpP (unpF number xs xs.length 0 []) w (.returned (.tuple #[.string ⟨#[]⟩, .int .i64 0, .int .i64 5])) w2) := hidI (by
                        rw [HR.out, hR]; exact ⟨rfl, HW1.out.trans hb2⟩)
                      go_wp2_with fail
                      rw [Exit.noGoto_ret]
                      go_ret3
                      exact hfin2.out
                    · have hq6 : ((k : Int) + 1 == 255) = false := by simp; omega
                      have hI2 : Hid (Bld w.heap.size w.heap.size (out ++ (s.extract 7 (7 + lenB s)).data.toList) w2 ∧ Below w.heap.size w w2 ∧ unpF number xs (xs.length - (k + 1)) (k + 1) (out ++ (s.extract 7 (7 + lenB s)).data.toList) = R ∧ ∀ (j : Nat) (hj : j < xs.length), j < k + 1 → xs[j].size = 64) := hidI ⟨hB2, HW1.out.trans hb2, by
                        rw [← hI.out.2.2.1, unpF_next number xs k out HK.out (by rw [← HS.out]; exact hok.out) (by rw [← HS.out]; exact hq) hq5, ← HS.out]; rfl, by
                        intro j hj hjk
                        by_cases e : j = k
                        · subst e; rw [← HS.out]; exact h64
                        · exact hI.out.2.2.2 j hj (by omega)⟩
                      go_wp2_with fail
                      go_roundw
                      · exact ⟨k + 1, by omega, by omega, by simp, _, by simp; omega, hI2⟩
                      · simp [intOf]; omega
              · have hR : R = badU := hbad.out (by simp [okB, hc])
                have hc1 : decide ((cntB s : Int) ≤ (k : Int)) = true := decide_eq_true (by omega)
                go_wp2_with fail
                rw [Exit.noGoto_ret]
                go_ret3
                exact hfin.out hR
            · have hR : R = badU := hbad.out (by simp [okB, datB, hE])
              have hE1 : (s.toList == (oneF number (k : Int) (cntB s : Int) (s.extract 7 (7 + lenB s))).toList) = false := by
                rw [beq_eq_false_iff_ne]
                intro e
                exact hE (ByteArray.ext (Array.ext' (by rw [ByteArray.toList_eq, ByteArray.toList_eq] at e; exact e))).symm
              clear hE
              go_wp2_with fail
              rw [Exit.noGoto_ret]
              go_ret3
              exact hfin.out hR
      · have hR : R = badU := by
          rw [← hI.out.2.2.1]; exact unpF_bad number xs k out HK.out (by rw [← HS.out]; simp [okB, h64])
        have hfin6 : Hid (UnpP (unpF number xs xs.length 0 []) w (.returned (.tuple #[.string ⟨#[]⟩, .int .i64 0, .int .i64 5])) wr) := hidI (by
          rw [HR.out, hR]; exact ⟨rfl, hI.out.2.1⟩)
        have h64' : ((s.size : Int) == 64) = false := by simp; omega
        go_wp2_with fail
        rw [Exit.noGoto_ret]
        go_ret3
        exact hfin6.out
    · have hR : R = badU := by
        rw [← hI.out.2.2.1, show xs.length - k = 0 by omega]; rfl
      have hfin7 : Hid (UnpP (unpF number xs xs.length 0 []) w (.returned (.tuple #[.string ⟨#[]⟩, .int .i64 0, .int .i64 5])) wr) := hidI (by
        rw [HR.out, hR]; exact ⟨rfl, hI.out.2.1⟩)
      go_wp2_with fail
      rw [Exit.noGoto_ret]
      go_ret3
      exact hfin7.out
set_option maxRecDepth 100000 in
set_option maxHeartbeats 4000000 in
theorem unp_all (number : Int) (A : Option Addr) (c : Nat) (xs : List ByteArray) (w : World) (hC : Kd.C Kd.string w A xs.length xs) (hcc : xs.length ≤ c) (hl : xs.length ≤ 10000000000000) :
    Calls Try.prog 14 #[.int .i64 number, .slice A xs.length c] w (UnpP (unpackF number xs) w) := by
  by_cases h0 : xs.length = 0
  · have hfin : Hid (UnpP (unpackF number xs) w (.returned (.tuple #[.string ⟨#[]⟩, .int .i64 0, .int .i64 4])) w) := hidI (by
      unfold unpackF; rw [if_pos h0]; exact ⟨rfl, Below.refl _ _⟩)
    have e0 : ((xs.length : Int) == 0) = true := by rw [h0]; rfl
    clear h0 hC
    go_enter Try.func14, Try.ntmps14
    go_wp2
    apply wp_scope_straight
    go_wp2
    rw [Exit.noGoto_ret]
    go_ret3
    exact hfin.out
  · by_cases h1 : number < 0
    · have hfin : Hid (UnpP (unpackF number xs) w (.returned (.tuple #[.string ⟨#[]⟩, .int .i64 0, .int .i64 1])) w) := hidI (by
        unfold unpackF; rw [if_neg h0, if_pos (.inl h1)]; exact ⟨rfl, Below.refl _ _⟩)
      have e0 : ((xs.length : Int) == 0) = false := beq_eq_false_iff_ne.mpr (by omega)
      have e1 : decide (number < 0) = true := decide_eq_true h1
      clear hC
      go_enter Try.func14, Try.ntmps14
      go_wp2
      apply wp_scope_straight
      go_wp2
      rw [Exit.noGoto_ret]
      go_ret3
      exact hfin.out
    · by_cases h2 : 4294967295 ≤ number
      · have hfin : Hid (UnpP (unpackF number xs) w (.returned (.tuple #[.string ⟨#[]⟩, .int .i64 0, .int .i64 1])) w) := hidI (by
          unfold unpackF; rw [if_neg h0, if_pos (.inr h2)]; exact ⟨rfl, Below.refl _ _⟩)
        have e0 : ((xs.length : Int) == 0) = false := beq_eq_false_iff_ne.mpr (by omega)
        have e1 : decide (number < 0) = false := decide_eq_false h1
        have e2 : decide (4294967295 ≤ number) = true := decide_eq_true h2
        clear hC
        go_enter Try.func14, Try.ntmps14
        go_wp2
        apply wp_scope_straight
        go_wp2
        rw [Exit.noGoto_ret]
        go_ret3
        exact hfin.out
      · have h := unp_any number A c xs w hC (by omega) (by omega) hcc hl (by omega)
        unfold unpackF
        rw [if_neg h0, if_neg (by omega)]
        exact h
def block_Unpack.f (a0 : Int) (l1 : List ByteArray) : Option (ByteArray × Int × Int) := if l1.length ≤ 10000000000000 then some (unpackF a0 l1) else none
theorem block_Unpack.calls (a0 : Int) (A1 : Option Addr) (c1 : Nat) (l1 : List ByteArray) (r1 : ByteArray) (r2 r3 : Int) (w : World) (hr1 : Kd.C Kd.string w A1 l1.length l1) (hc1 : l1.length ≤ c1) (h : block_Unpack.f a0 l1 = some (r1, r2, r3)) :
    Calls Try.prog 14 #[.int .i64 a0, .slice A1 l1.length c1] w fun e w' => e = .returned (.tuple #[.string r1, .int .i64 r2, .int .i64 r3]) ∧ Below w.heap.size w w' := by
  unfold block_Unpack.f at h
  split at h
  · rename_i hl
    have := Option.some.inj h
    have hh := unp_all a0 A1 c1 l1 w hr1 hc1 hl
    rw [this] at hh
    exact hh.mono fun e w' h => h
  · cases h
end Go.Proofs.Ytckfkbmefdmedaa
namespace Go.Proofs.Ytckfkbmefdmedaa
open Go.RowKit Go.Proofs.Kq Go.Proofs.Ytckfkbmefdmedaa.Q Go.Proofs.YtckfkbmefdmedaaW.PrintWords Go
set_option linter.unusedVariables false
set_option linter.unusedSimpArgs false
theorem bl_append (a b : ByteArray) : bl (a ++ b) = bl a ++ bl b := by simp [bl]
def tagL (z : Int) : List UInt8 := bl (strOfNums (lowI 4 z))
theorem tagL_len (z : Int) : (tagL z).length = 4 := rfl
theorem one_bl (n i c : Int) (d : ByteArray) : ∃ C : List UInt8, C.length = 4 ∧ bl (oneF n i c d) = tagL ((n + 1) % 4294967296) ++ (bl (strOfNums [i % 256, c % 256, (d.size : Int) % 256]) ++ (bl d ++ (Lib.repeatL [0] (49 - d.size) ++ (C ++ tagL ((n + 1) % 4294967296))))) := by
  refine ⟨tagL (crcF (headF n i c d)), rfl, ?_⟩
  unfold oneF
  generalize crcF (headF n i c d) = z
  unfold headF tagL
  simp only [bl_append, List.append_assoc]
  rfl
theorem lenB_bl (s : ByteArray) : lenB s = ((bl s).getD 6 0).toNat := by simp [lenB, bl, Array.getD_eq_getD_getElem?]
theorem cntB_bl (s : ByteArray) : cntB s = ((bl s).getD 5 0).toNat := by simp [cntB, bl, Array.getD_eq_getD_getElem?]
theorem one_len (n i c : Int) (d : ByteArray) (hd : d.size ≤ 49) : lenB (oneF n i c d) = d.size := by
  obtain ⟨C, hC, e⟩ := one_bl n i c d
  rw [lenB_bl, e]
  show (UInt8.ofNat ((d.size : Int) % 256).toNat).toNat = _
  rw [UInt8.toNat_ofNat']; omega
theorem one_cnt (n i : Int) (c : Nat) (d : ByteArray) (hc : c < 256) : cntB (oneF n i c d) = c := by
  obtain ⟨C, hC, e⟩ := one_bl n i c d
  rw [cntB_bl, e]
  show (UInt8.ofNat ((c : Int) % 256).toNat).toNat = _
  rw [UInt8.toNat_ofNat']; omega
theorem one_size (n i c : Int) (d : ByteArray) (hd : d.size ≤ 49) : (oneF n i c d).size = 64 := by
  obtain ⟨C, hC, e⟩ := one_bl n i c d
  rw [ba_size, e]
  simp only [List.length_append, tagL_len, hC, Lib.repeatL_length, ← ba_size, sn_size]
  simp; omega
theorem one_dat (n i c : Int) (d : ByteArray) (hd : d.size ≤ 49) : datB (oneF n i c d) = d := by
  obtain ⟨C, hC, e⟩ := one_bl n i c d
  apply ba_ext
  unfold datB
  rw [bl_extract, one_len n i c d hd, e]
  show List.take _ (bl d ++ _) = _
  rw [show 7 + d.size - 7 = (bl d).length by rw [← ba_size]; omega, List.take_left]
theorem one_head (n i c : Int) (d : ByteArray) : (bl (oneF n i c d)).take 4 = tagL ((n + 1) % 4294967296) := by
  obtain ⟨C, hC, e⟩ := one_bl n i c d
  rw [e]; rfl
theorem tagL_inj (a b : Int) (ha : 0 ≤ a) (ha2 : a < 4294967296) (hb : 0 ≤ b) (hb2 : b < 4294967296) (h : tagL a = tagL b) : a = b := by
  have e : strOfNums (lowI 4 a) = strOfNums (lowI 4 b) := ba_ext h
  have e2 := congrArg bn e
  rw [bn_sn (lowI_mem 4 a), bn_sn (lowI_mem 4 b)] at e2
  have := congrArg vI e2
  rw [vI_low 4 a ha (by omega), vI_low 4 b hb (by omega)] at this
  exact this
end Go.Proofs.Ytckfkbmefdmedaa
namespace Go.Proofs.Ytckfkbmefdmedaa
open Go.RowKit Go.Proofs.Kq Go.Proofs.Ytckfkbmefdmedaa.Q Go.Proofs.YtckfkbmefdmedaaW.PrintWords Go
set_option linter.unusedVariables false
set_option linter.unusedSimpArgs false
def Rec (number : Int) (l : List ByteArray) (p : ByteArray) (n : Nat) : Prop := 0 < n ∧ n ≤ 255 ∧ n ≤ l.length ∧ cntL (bl p).length = n ∧ l.take n = blkR number (bl p) n 0 n
theorem Rec.at_ {number : Int} {l : List ByteArray} {p : ByteArray} {n : Nat} (h : Rec number l p n) (i : Nat) (hi : i < n) (hl : i < l.length) : l[i] = oneF number i n (chunk (bl p) i) := by
  have h1 := h.2.2.2.2
  have h2 : (l.take n)[i]'(by rw [List.length_take]; omega) = l[i] := List.getElem_take
  rw [← h2]
  have h3 := blkR_get number (bl p) n n 0 i hi
  rw [Nat.zero_add] at h3
  rw [← h3]
  congr 1
theorem chunk_le (L : List UInt8) (i : Nat) : (chunk L i).size ≤ 49 := by rw [chunk_size]; omega
theorem bl_chunk (L : List UInt8) (i : Nat) : bl (chunk L i) = (L.drop (49 * i)).take 49 := by simp [chunk, bl]
theorem take_chunk (L : List UInt8) (i : Nat) : L.take (49 * i) ++ bl (chunk L i) = L.take (49 * (i + 1)) := by
  rw [bl_chunk, Nat.mul_succ, List.take_add]
theorem rec_ok {number : Int} {l : List ByteArray} {p : ByteArray} {n : Nat} (h : Rec number l p n) (i : Nat) (hi : i < n) (hl : i < l.length) : okB number i l[i] = true ∧ cntB l[i] = n ∧ datB l[i] = chunk (bl p) i := by
  have e := h.at_ i hi hl
  have hc := chunk_le (bl p) i
  have hn : n < 256 := by have := h.2.1; omega
  have e1 : cntB l[i] = n := by rw [e]; exact one_cnt _ _ _ _ hn
  have e2 : datB l[i] = chunk (bl p) i := by rw [e]; exact one_dat _ _ _ _ hc
  have e3 : lenB l[i] = (chunk (bl p) i).size := by rw [e]; exact one_len _ _ _ _ hc
  have e4 : l[i].size = 64 := by rw [e]; exact one_size _ _ _ _ hc
  have hcn := h.2.2.2.1
  unfold cntL at hcn
  have e5 : (chunk (bl p) i).size = min 49 ((bl p).length - 49 * i) := chunk_size _ _
  refine ⟨?_, e1, e2⟩
  unfold okB
  rw [e1, e2, e3, e4, ← e]
  simp only [Bool.and_eq_true, decide_eq_true_eq, Bool.not_eq_true', Bool.and_eq_false_iff, decide_eq_false_iff_not]
  refine ⟨⟨⟨⟨⟨trivial, hc⟩, by omega⟩, trivial⟩, hi⟩, by omega⟩
theorem unp_rec {number : Int} {l : List ByteArray} {p : ByteArray} {n : Nat} (h : Rec number l p n) : ∀ r i, i + r = n → 0 < r → unpF number l (l.length - i) i ((bl p).take (49 * i)) = (p, (n : Int), 0)
  | 0, i, hi, h0 => absurd h0 (by omega)
  | r + 1, i, hi, _ => by
    have hl : i < l.length := by have := h.2.2.1; omega
    obtain ⟨h1, h2, h3⟩ := rec_ok h i (by omega) hl
    have e3 : (bl p).take (49 * i) ++ (datB l[i]).data.toList = (bl p).take (49 * (i + 1)) := by rw [h3]; exact take_chunk _ _
    by_cases hr : r = 0
    · have hn : n = i + 1 := by omega
      rw [unpF_end number l i _ hl h1 (by omega), if_pos, e3]
      · have hcn := h.2.2.2.1
        unfold cntL at hcn
        rw [List.take_of_length_le (by omega), hn, ← ba_of]
      · unfold wholeB
        rw [List.all_eq_true]
        intro x hx
        obtain ⟨j, hj, rfl⟩ := List.getElem_of_mem hx
        rw [List.length_take] at hj
        rw [List.getElem_take, decide_eq_true_eq, (rec_ok h j (by omega) (by omega)).2.1, hn]
    · rw [unpF_next number l i _ hl h1 (by omega) (by have := h.2.1; omega), e3]
      exact unp_rec h r (i + 1) (by omega) (by omega)
theorem chunk_app (L M : List UInt8) (j : Nat) (h : 49 * (j + 1) ≤ L.length) : chunk (L ++ M) j = chunk L j := by
  unfold chunk
  rw [List.drop_append_of_le_length (by omega), List.take_append_of_le_length (by rw [List.length_drop]; omega)]
theorem chunk_end (L M : List UInt8) (i : Nat) (h : L.length = 49 * i) (hM : M.length ≤ 49) : chunk (L ++ M) i = ⟨M.toArray⟩ := by
  unfold chunk
  rw [← h, List.drop_left, List.take_of_length_le hM]
theorem okB_parts {number : Int} {i : Nat} {s : ByteArray} (h : okB number i s = true) : s.size = 64 ∧ lenB s ≤ 49 ∧ 0 < lenB s ∧ oneF number i (cntB s) (datB s) = s ∧ i < cntB s ∧ ¬ (i + 1 < cntB s ∧ lenB s < 49) := by
  unfold okB at h
  simp only [Bool.and_eq_true, decide_eq_true_eq, Bool.not_eq_true', Bool.and_eq_false_iff, decide_eq_false_iff_not] at h
  obtain ⟨⟨⟨⟨⟨a, b⟩, c⟩, d⟩, e⟩, f⟩ := h
  exact ⟨a, b, c, d, e, by omega⟩
theorem datB_size {s : ByteArray} (h : s.size = 64) (hl : lenB s ≤ 49) : (datB s).size = lenB s := by unfold datB; rw [ByteArray.size_extract]; omega
theorem cntB_lt (s : ByteArray) : cntB s < 256 := by unfold cntB; exact UInt8.toNat_lt _
theorem unp_norec (number : Int) (l : List ByteArray) (hno : ∀ p n, ¬ Rec number l p n) : ∀ d i (out : List UInt8), i + d = l.length → out.length = 49 * i → (∀ j (hj : j < l.length), j < i → okB number j l[j] = true ∧ chunk out j = datB l[j]) → unpF number l d i out = badU
  | 0, i, out, hi, ho, hI => rfl
  | d + 1, i, out, hi, ho, hI => by
    have hl : i < l.length := by omega
    have ed : d + 1 = l.length - i := by omega
    by_cases hok : okB number i l[i] = true
    · obtain ⟨h64, hl49, hl0, hone, hc, hm⟩ := okB_parts hok
      have hds := datB_size h64 hl49
      have hdl : (datB l[i]).data.toList.length = lenB l[i] := by rw [← hds, ba_size]; rfl
      by_cases hq : cntB l[i] = i + 1
      · rw [ed, unpF_end number l i out hl hok hq]
        by_cases hw : wholeB (l.take (i + 1)) (i + 1) = true
        · exfalso
          refine hno ⟨(out ++ (datB l[i]).data.toList).toArray⟩ (i + 1) ⟨by omega, by have := cntB_lt l[i]; omega, by omega, ?_, ?_⟩
          · unfold cntL bl; simp only [List.length_append, hdl]; omega
          · have hbl : bl ⟨(out ++ (datB l[i]).data.toList).toArray⟩ = out ++ (datB l[i]).data.toList := by simp [bl]
            rw [hbl]
            refine List.ext_getElem (by rw [blkR_len, List.length_take]; omega) ?_
            intro j hj1 hj2
            rw [blkR_len] at hj2
            rw [blkR_get number _ (i + 1) (i + 1) 0 j hj2, List.getElem_take, Nat.zero_add]
            have hcj : cntB l[j] = i + 1 := by
              unfold wholeB at hw
              rw [List.all_eq_true] at hw
              have := hw l[j] (by
                have hm2 := List.getElem_mem (l := l.take (i + 1)) (n := j) hj1
                rwa [List.getElem_take] at hm2)
              simpa using this
            by_cases hji : j = i
            · subst hji
              rw [chunk_end _ _ _ ho (by omega)]
              conv => lhs; rw [← hone]
              rw [hq]
            · obtain ⟨g1, g2⟩ := hI j (by omega) (by omega)
              rw [chunk_app _ _ _ (by omega), g2]
              have := (okB_parts g1).2.2.2.1
              conv => lhs; rw [← this]
              rw [hcj]
        · rw [if_neg hw]
      · by_cases h5 : i + 1 = 255
        · rw [ed]; exact unpF_full number l i out hl hq h5
        · rw [ed, unpF_next number l i out hl hok hq h5, show l.length - (i + 1) = d by omega]
          refine unp_norec number l hno d (i + 1) _ (by omega) (by rw [List.length_append, hdl]; omega) ?_
          intro j hj hji
          by_cases e : j = i
          · subst e
            refine ⟨hok, ?_⟩
            rw [chunk_end _ _ _ ho (by omega)]
          · obtain ⟨g1, g2⟩ := hI j hj (by omega)
            exact ⟨g1, by rw [chunk_app _ _ _ (by omega)]; exact g2⟩
    · rw [ed]; exact unpF_bad number l i out hl (by simpa using hok)
theorem unp_ok {number : Int} {l : List ByteArray} {p : ByteArray} {n : Nat} (h : Rec number l p n) : unpF number l l.length 0 [] = (p, (n : Int), 0) := by
  have := unp_rec h n 0 (by omega) h.1
  simpa using this
theorem unp_none (number : Int) (l : List ByteArray) (hno : ∀ p n, ¬ Rec number l p n) : unpF number l l.length 0 [] = badU :=
  unp_norec number l hno l.length 0 [] (by omega) (by simp) (fun j _ h => absurd h (by omega))
end Go.Proofs.Ytckfkbmefdmedaa
namespace Go.Proofs.Ytckfkbmefdmedaa
open Go.RowKit Go.Proofs.Kq Go.Proofs.Ytckfkbmefdmedaa.Q Go.Proofs.YtckfkbmefdmedaaW.PrintWords Go
set_option linter.unusedVariables false
set_option linter.unusedSimpArgs false
theorem packs_rec (number : Int) (p : ByteArray) (c : Nat) (hc : cntL (bl p).length = c) (h1 : 0 < c) (h2 : c ≤ 255) (more : List ByteArray) : Rec number (blkR number (bl p) c 0 c ++ more) p c :=
  ⟨h1, h2, by rw [List.length_append, blkR_len]; omega, hc, by rw [List.take_left' (blkR_len _ _ _ _ _)]⟩
theorem tag_ne (a b : Int) (ha : 0 ≤ a) (ha2 : a < 4294967295) (hb : 0 ≤ b) (hb2 : b < 4294967295) (h : tagL ((a + 1) % 4294967296) = tagL ((b + 1) % 4294967296)) : a = b := by
  have := tagL_inj _ _ (by omega) (by omega) (by omega) (by omega) h
  omega
theorem packs_other (number other : Int) (ha : 0 ≤ number) (ha2 : number < 4294967295) (hb : 0 ≤ other) (hb2 : other < 4294967295) (hne : other ≠ number) (L : List UInt8) (c : Nat) (h1 : 0 < c) (more : List ByteArray) : ∀ p n, ¬ Rec other (blkR number L c 0 c ++ more) p n := by
  intro p n h
  have hl : 0 < (blkR number L c 0 c ++ more).length := by rw [List.length_append, blkR_len]; omega
  have e1 := h.at_ 0 h.1 hl
  have e2 : (blkR number L c 0 c ++ more)[0] = oneF number ((0 + 0 : Nat) : Int) c (chunk L (0 + 0)) := by
    rw [List.getElem_append_left (by rw [blkR_len]; omega)]
    exact blkR_get number L c c 0 0 h1
  rw [e2] at e1
  have e3 := congrArg (fun s => (bl s).take 4) e1
  simp only [one_head] at e3
  exact hne (tag_ne _ _ ha ha2 hb hb2 e3).symm
theorem unpack_at {number : Int} {l : List ByteArray} (h0 : 0 ≤ number) (h1 : number < 4294967295) (hl : 0 < l.length) : unpackF number l = unpF number l l.length 0 [] := by
  unfold unpackF; rw [if_neg (by omega), if_neg (by omega)]
end Go.Proofs.Ytckfkbmefdmedaa
namespace Go.Proofs.Ytckfkbmefdmedaa.Q
open Go.RowKit Go.Proofs.YtckfkbmefdmedaaW.PrintWords Go.Proofs.YtckfkbmefdmedaaW.PrintLast Go.Proofs.YtckfkbmefdmedaaW.PrintMore
attribute [local go_sem] max2_int min2_int max_two min_two max_three min_three max_four min_four   -- for this text's walks alone
set_option linter.unusedVariables false
set_option linter.unusedSimpArgs false
def souklaw04_lives.f (k : Nat)  : Option (Bool) := (strings_Repeat.f (⟨#[97]⟩ : ByteArray) 50).bind fun t123 => ((block_Pack.f k 7 t123).bind fun bt124 => (if bt124.2 = 0 then (if (bt124.1.length : Int) = 2 then (if 0 < (bt124.1.length : Int) then (if ((rdOf ByteArray.empty bt124.1 0).size : Int) = 64 then (if 6 < ((rdOf ByteArray.empty bt124.1 0).size : Int) then (if (bt (rdOf ByteArray.empty bt124.1 0) 6) = 49 then (if 1 < (bt124.1.length : Int) then (if 6 < ((rdOf ByteArray.empty bt124.1 1).size : Int) then (if (bt (rdOf ByteArray.empty bt124.1 1) 6) = 1 then (some true) else (some false)) else (none)) else (none)) else (some false)) else (none)) else (some false)) else (none)) else (some false)) else (some false)))
set_option maxHeartbeats 8000000 in
set_option maxRecDepth 100000 in
theorem souklaw04_lives.calls (k : Nat)  (r : Bool) (w : World) (h : souklaw04_lives.f k  = some r) :
  Calls Try.prog 13 #[] w fun e w' => e = .returned (.bool r) ∧ Below w.heap.size w w' := by
 have HB := Aside0.mk (Below.refl w.heap.size w)
 have H : ((strings_Repeat.f (⟨#[97]⟩ : ByteArray) 50).bind fun t123 => ((block_Pack.f k 7 t123).bind fun bt124 => (if bt124.2 = 0 then (if (bt124.1.length : Int) = 2 then (if 0 < (bt124.1.length : Int) then (if ((rdOf ByteArray.empty bt124.1 0).size : Int) = 64 then (if 6 < ((rdOf ByteArray.empty bt124.1 0).size : Int) then (if (bt (rdOf ByteArray.empty bt124.1 0) 6) = 49 then (if 1 < (bt124.1.length : Int) then (if 6 < ((rdOf ByteArray.empty bt124.1 1).size : Int) then (if (bt (rdOf ByteArray.empty bt124.1 1) 6) = 1 then (some true) else (some false)) else (none)) else (none)) else (some false)) else (none)) else (some false)) else (none)) else (some false)) else (some false)))) = some r := h
 clear h
 replace H := Option.bind_eq_some_iff.mp H
 obtain ⟨t123, A10, H⟩ := H
 replace H : ((block_Pack.f k 7 t123).bind fun bt124 => (if bt124.2 = 0 then (if (bt124.1.length : Int) = 2 then (if 0 < (bt124.1.length : Int) then (if ((rdOf ByteArray.empty bt124.1 0).size : Int) = 64 then (if 6 < ((rdOf ByteArray.empty bt124.1 0).size : Int) then (if (bt (rdOf ByteArray.empty bt124.1 0) 6) = 49 then (if 1 < (bt124.1.length : Int) then (if 6 < ((rdOf ByteArray.empty bt124.1 1).size : Int) then (if (bt (rdOf ByteArray.empty bt124.1 1) 6) = 1 then (some true) else (some false)) else (none)) else (none)) else (some false)) else (none)) else (some false)) else (none)) else (some false)) else (some false))) = some r := H
 have A1 := Aside0.mk A10
 clear A10
 replace H := Option.bind_eq_some_iff.mp H
 obtain ⟨⟨t124, t125⟩, A20, H⟩ := H
 replace H : (if t125 = 0 then (if (t124.length : Int) = 2 then (if 0 < (t124.length : Int) then (if ((rdOf ByteArray.empty t124 0).size : Int) = 64 then (if 6 < ((rdOf ByteArray.empty t124 0).size : Int) then (if (bt (rdOf ByteArray.empty t124 0) 6) = 49 then (if 1 < (t124.length : Int) then (if 6 < ((rdOf ByteArray.empty t124 1).size : Int) then (if (bt (rdOf ByteArray.empty t124 1) 6) = 1 then (some true) else (some false)) else (none)) else (none)) else (some false)) else (none)) else (some false)) else (none)) else (some false)) else (some false)) = some r := H
 have A2 := Aside0.mk A20
 clear A20
 by_cases c3 : t125 = 0
 ·rw [if_pos c3] at H
  have c3b0 : (t125 == 0) = true := beq_iff_eq.mpr c3
  have c3b1 : (t125 != 0) = false := bne_eq_false_iff_eq.mpr c3
  clear c3
  by_cases c4 : (t124.length : Int) = 2
  ·rw [if_pos c4] at H
   have c4b0 : ((t124.length : Int) == 2) = true := beq_iff_eq.mpr c4
   have c4b1 : ((t124.length : Int) != 2) = false := bne_eq_false_iff_eq.mpr c4
   clear c4
   by_cases c5 : 0 < (t124.length : Int)
   ·rw [if_pos c5] at H
    have c5b0 : decide (0 < (t124.length : Int)) = true := decide_eq_true c5
    have c5b1 : decide (0 < t124.length) = true := decide_eq_true (by omega)
    clear c5
    by_cases c6 : ((rdOf ByteArray.empty t124 0).size : Int) = 64
    ·rw [if_pos c6] at H
     have c6b0 : (((rdOf ByteArray.empty t124 0).size : Int) == 64) = true := beq_iff_eq.mpr c6
     have c6b1 : (((rdOf ByteArray.empty t124 0).size : Int) != 64) = false := bne_eq_false_iff_eq.mpr c6
     clear c6
     by_cases c7 : 6 < ((rdOf ByteArray.empty t124 0).size : Int)
     ·rw [if_pos c7] at H
      have c7b0 : decide (6 < ((rdOf ByteArray.empty t124 0).size : Int)) = true := decide_eq_true c7
      have c7b1 : decide (6 < (rdOf ByteArray.empty t124 0).size) = true := decide_eq_true (by omega)
      clear c7
      by_cases c9 : (bt (rdOf ByteArray.empty t124 0) 6) = 49
      ·rw [if_pos c9] at H
       have c9b0 : ((bt (rdOf ByteArray.empty t124 0) 6) == 49) = true := beq_iff_eq.mpr c9
       have c9b1 : ((bt (rdOf ByteArray.empty t124 0) 6) != 49) = false := bne_eq_false_iff_eq.mpr c9
       clear c9
       by_cases c10 : 1 < (t124.length : Int)
       ·rw [if_pos c10] at H
        have c10b0 : decide (1 < (t124.length : Int)) = true := decide_eq_true c10
        have c10b1 : decide (1 < t124.length) = true := decide_eq_true (by omega)
        clear c10
        by_cases c11 : 6 < ((rdOf ByteArray.empty t124 1).size : Int)
        ·rw [if_pos c11] at H
         have c11b0 : decide (6 < ((rdOf ByteArray.empty t124 1).size : Int)) = true := decide_eq_true c11
         have c11b1 : decide (6 < (rdOf ByteArray.empty t124 1).size) = true := decide_eq_true (by omega)
         clear c11
         by_cases c13 : (bt (rdOf ByteArray.empty t124 1) 6) = 1
         ·rw [if_pos c13] at H
          have c13b0 : ((bt (rdOf ByteArray.empty t124 1) 6) == 1) = true := beq_iff_eq.mpr c13
          have c13b1 : ((bt (rdOf ByteArray.empty t124 1) 6) != 1) = false := bne_eq_false_iff_eq.mpr c13
          clear c13
          obtain rfl := Option.some.inj H
          go_enter Try.func13, Try.ntmps13
          go_wp2_with (first | ((with_reducible refine gate_callee (f := 17) rfl ?_); refine goesL_ (some 4) rfl rfl Try.func17 (by kernel_rfl) rfl #[.string (⟨#[97]⟩ : ByteArray), .int .i64 50] rfl (by (try simp only [List.map_toArray, List.map_cons, List.map_nil]); first | done | rfl | (simp only [List.length_drop, List.length_take]; rfl)) ?_; (with_reducible refine (strings_Repeat.calls (⟨#[97]⟩ : ByteArray) 50 t123 _ A1.out).mono ?_); rintro e w14 ⟨rfl, hb⟩; refine ⟨_, rfl, ?_⟩; have n0_ := Aside0.mk (below_step (by repeat (first | (with_reducible first | exact HB.out | apply below_alloc | apply pw_below_drewN | apply below_drew1) | exact HB.out)) hb); clear HB; have HB := n0_; clear n0_; (try clear hb); (try clear hb2); (try clear hk); (try clear hi)) | ((with_reducible refine gate_callee (f := 16) rfl ?_); refine goesL_ (some 5) rfl rfl Try.func16 (by kernel_rfl) rfl #[.int .i64 7, .string t123] rfl (by (try simp only [List.map_toArray, List.map_cons, List.map_nil]); first | done | rfl | (simp only [List.length_drop, List.length_take]; rfl)) ?_; (with_reducible refine (block_Pack.calls k 7 t123 t124 t125 _ A2.out).mono ?_); rintro e w15 ⟨v126, rfl, ho0, hb⟩; refine ⟨_, rfl, ?_⟩; have n0_ := Aside0.mk (Kd.R_lower ho0 (below_size (by repeat (first | (with_reducible first | exact HB.out | apply below_alloc | apply pw_below_drewN | apply below_drew1) | exact HB.out)))); have n1_ := Aside0.mk (below_step (by repeat (first | (with_reducible first | exact HB.out | apply below_alloc | apply pw_below_drewN | apply below_drew1) | exact HB.out)) hb); clear HB; have HO127 := n0_; have HB := n1_; clear n0_ n1_; (try clear hb); (try clear hb2); (try clear hk); (try clear hi); (try clear ho0); obtain ⟨Ao16, co16, eo16⟩ := Kd.R_slice HO127.out; subst eo16; have p128 : 0 ≤ (0 : Int) := (by omega); have q128 : 0 < (t124.length : Int) := of_decide_eq_true (by first | (with_reducible assumption) | assumption); obtain ⟨ad128, e128, hx128_0⟩ := Kd.at_string (Kd.R_reads' HO127.out).2.2 0 p128 q128; cases e128; have qi128 : (0 < t124.length) = True := eq_true (by omega); (try rw [show ((0 : Int)).toNat = 0 from rfl] at hx128_0); (try rw [Addr.add_zero'] at hx128_0); replace p128 := eq_true p128; replace q128 := eq_true q128; have p129 : 0 ≤ (0 : Int) := (by omega); have q129 : 0 < (t124.length : Int) := of_decide_eq_true (by first | (with_reducible assumption) | assumption); obtain ⟨ad129, e129, hx129_0⟩ := Kd.at_string (Kd.R_reads' HO127.out).2.2 0 p129 q129; obtain rfl : ad128 = ad129 := (by injection e129); have qi129 : (0 < t124.length) = True := eq_true (by omega); (try rw [show ((0 : Int)).toNat = 0 from rfl] at hx129_0); (try rw [Addr.add_zero'] at hx129_0); replace p129 := eq_true p129; replace q129 := eq_true q129; have p8 : 0 ≤ (6 : Int) := (by omega); have q8 : 6 < (rdOf ByteArray.empty t124 0).size := (by have : (6 : Int) < ((rdOf ByteArray.empty t124 0).size : Int) := of_decide_eq_true (by first | (with_reducible assumption) | assumption); omega); have hx8 : ∀ h : 6 < (rdOf ByteArray.empty t124 0).size, (((rdOf ByteArray.empty t124 0)[6]'h).toNat : Int) = bt (rdOf ByteArray.empty t124 0) 6 := bt_at (rdOf ByteArray.empty t124 0) 6; clear p8; have qi8 : (6 < ((rdOf ByteArray.empty t124 0).size : Int)) = True := eq_true (of_decide_eq_true (by first | (with_reducible assumption) | assumption)); replace q8 := eq_true q8; have p130 : 0 ≤ (1 : Int) := (by omega); have q130 : 1 < (t124.length : Int) := of_decide_eq_true (by first | (with_reducible assumption) | assumption); obtain ⟨ad130, e130, hx130_0⟩ := Kd.at_string (Kd.R_reads' HO127.out).2.2 1 p130 q130; obtain rfl : ad128 = ad130 := (by injection e130); (try simp only [show (1 : Int).toNat = 1 from rfl, Nat.reduceMul, Nat.reduceEqDiff, Go.Addr.add, ↓reduceIte] at hx130_0); have qi130 : (1 < t124.length) = True := eq_true (by omega); (try rw [show ((1 : Int)).toNat = 1 from rfl] at hx130_0); replace p130 := eq_true p130; replace q130 := eq_true q130; have p12 : 0 ≤ (6 : Int) := (by omega); have q12 : 6 < (rdOf ByteArray.empty t124 1).size := (by have : (6 : Int) < ((rdOf ByteArray.empty t124 1).size : Int) := of_decide_eq_true (by first | (with_reducible assumption) | assumption); omega); have hx12 : ∀ h : 6 < (rdOf ByteArray.empty t124 1).size, (((rdOf ByteArray.empty t124 1)[6]'h).toNat : Int) = bt (rdOf ByteArray.empty t124 1) 6 := bt_at (rdOf ByteArray.empty t124 1) 6; clear p12; have qi12 : (6 < ((rdOf ByteArray.empty t124 1).size : Int)) = True := eq_true (of_decide_eq_true (by first | (with_reducible assumption) | assumption)); replace q12 := eq_true q12))
          go_ret
          exact ⟨by first | rfl | (simp [errW_none, errW_some] <;> rfl) | (simp [*, errW_none, errW_some] <;> rfl), by repeat (first | (with_reducible first | exact HB.out | apply below_alloc | apply pw_below_drewN | apply below_drew1) | exact HB.out)⟩
         ·rw [if_neg c13] at H
          have c13b0 : ((bt (rdOf ByteArray.empty t124 1) 6) == 1) = false := beq_eq_false_iff_ne.mpr c13
          have c13b1 : ((bt (rdOf ByteArray.empty t124 1) 6) != 1) = true := bne_iff_ne.mpr c13
          obtain rfl := Option.some.inj H
          go_enter Try.func13, Try.ntmps13
          go_wp2_with (first | ((with_reducible refine gate_callee (f := 17) rfl ?_); refine goesL_ (some 4) rfl rfl Try.func17 (by kernel_rfl) rfl #[.string (⟨#[97]⟩ : ByteArray), .int .i64 50] rfl (by (try simp only [List.map_toArray, List.map_cons, List.map_nil]); first | done | rfl | (simp only [List.length_drop, List.length_take]; rfl)) ?_; (with_reducible refine (strings_Repeat.calls (⟨#[97]⟩ : ByteArray) 50 t123 _ A1.out).mono ?_); rintro e w17 ⟨rfl, hb⟩; refine ⟨_, rfl, ?_⟩; have n0_ := Aside0.mk (below_step (by repeat (first | (with_reducible first | exact HB.out | apply below_alloc | apply pw_below_drewN | apply below_drew1) | exact HB.out)) hb); clear HB; have HB := n0_; clear n0_; (try clear hb); (try clear hb2); (try clear hk); (try clear hi)) | ((with_reducible refine gate_callee (f := 16) rfl ?_); refine goesL_ (some 5) rfl rfl Try.func16 (by kernel_rfl) rfl #[.int .i64 7, .string t123] rfl (by (try simp only [List.map_toArray, List.map_cons, List.map_nil]); first | done | rfl | (simp only [List.length_drop, List.length_take]; rfl)) ?_; (with_reducible refine (block_Pack.calls k 7 t123 t124 t125 _ A2.out).mono ?_); rintro e w18 ⟨v126, rfl, ho0, hb⟩; refine ⟨_, rfl, ?_⟩; have n0_ := Aside0.mk (Kd.R_lower ho0 (below_size (by repeat (first | (with_reducible first | exact HB.out | apply below_alloc | apply pw_below_drewN | apply below_drew1) | exact HB.out)))); have n1_ := Aside0.mk (below_step (by repeat (first | (with_reducible first | exact HB.out | apply below_alloc | apply pw_below_drewN | apply below_drew1) | exact HB.out)) hb); clear HB; have HO127 := n0_; have HB := n1_; clear n0_ n1_; (try clear hb); (try clear hb2); (try clear hk); (try clear hi); (try clear ho0); obtain ⟨Ao19, co19, eo19⟩ := Kd.R_slice HO127.out; subst eo19; have p128 : 0 ≤ (0 : Int) := (by omega); have q128 : 0 < (t124.length : Int) := of_decide_eq_true (by first | (with_reducible assumption) | assumption); obtain ⟨ad128, e128, hx128_0⟩ := Kd.at_string (Kd.R_reads' HO127.out).2.2 0 p128 q128; cases e128; have qi128 : (0 < t124.length) = True := eq_true (by omega); (try rw [show ((0 : Int)).toNat = 0 from rfl] at hx128_0); (try rw [Addr.add_zero'] at hx128_0); replace p128 := eq_true p128; replace q128 := eq_true q128; have p129 : 0 ≤ (0 : Int) := (by omega); have q129 : 0 < (t124.length : Int) := of_decide_eq_true (by first | (with_reducible assumption) | assumption); obtain ⟨ad129, e129, hx129_0⟩ := Kd.at_string (Kd.R_reads' HO127.out).2.2 0 p129 q129; obtain rfl : ad128 = ad129 := (by injection e129); have qi129 : (0 < t124.length) = True := eq_true (by omega); (try rw [show ((0 : Int)).toNat = 0 from rfl] at hx129_0); (try rw [Addr.add_zero'] at hx129_0); replace p129 := eq_true p129; replace q129 := eq_true q129; have p8 : 0 ≤ (6 : Int) := (by omega); have q8 : 6 < (rdOf ByteArray.empty t124 0).size := (by have : (6 : Int) < ((rdOf ByteArray.empty t124 0).size : Int) := of_decide_eq_true (by first | (with_reducible assumption) | assumption); omega); have hx8 : ∀ h : 6 < (rdOf ByteArray.empty t124 0).size, (((rdOf ByteArray.empty t124 0)[6]'h).toNat : Int) = bt (rdOf ByteArray.empty t124 0) 6 := bt_at (rdOf ByteArray.empty t124 0) 6; clear p8; have qi8 : (6 < ((rdOf ByteArray.empty t124 0).size : Int)) = True := eq_true (of_decide_eq_true (by first | (with_reducible assumption) | assumption)); replace q8 := eq_true q8; have p130 : 0 ≤ (1 : Int) := (by omega); have q130 : 1 < (t124.length : Int) := of_decide_eq_true (by first | (with_reducible assumption) | assumption); obtain ⟨ad130, e130, hx130_0⟩ := Kd.at_string (Kd.R_reads' HO127.out).2.2 1 p130 q130; obtain rfl : ad128 = ad130 := (by injection e130); (try simp only [show (1 : Int).toNat = 1 from rfl, Nat.reduceMul, Nat.reduceEqDiff, Go.Addr.add, ↓reduceIte] at hx130_0); have qi130 : (1 < t124.length) = True := eq_true (by omega); (try rw [show ((1 : Int)).toNat = 1 from rfl] at hx130_0); replace p130 := eq_true p130; replace q130 := eq_true q130; have p12 : 0 ≤ (6 : Int) := (by omega); have q12 : 6 < (rdOf ByteArray.empty t124 1).size := (by have : (6 : Int) < ((rdOf ByteArray.empty t124 1).size : Int) := of_decide_eq_true (by first | (with_reducible assumption) | assumption); omega); have hx12 : ∀ h : 6 < (rdOf ByteArray.empty t124 1).size, (((rdOf ByteArray.empty t124 1)[6]'h).toNat : Int) = bt (rdOf ByteArray.empty t124 1) 6 := bt_at (rdOf ByteArray.empty t124 1) 6; clear p12; have qi12 : (6 < ((rdOf ByteArray.empty t124 1).size : Int)) = True := eq_true (of_decide_eq_true (by first | (with_reducible assumption) | assumption)); replace q12 := eq_true q12))
          go_ret
          exact ⟨by first | rfl | (simp [errW_none, errW_some] <;> rfl) | (simp [*, errW_none, errW_some] <;> rfl), by repeat (first | (with_reducible first | exact HB.out | apply below_alloc | apply pw_below_drewN | apply below_drew1) | exact HB.out)⟩
        ·rw [if_neg c11] at H
         exact absurd H (by simp)
       ·rw [if_neg c10] at H
        exact absurd H (by simp)
      ·rw [if_neg c9] at H
       have c9b0 : ((bt (rdOf ByteArray.empty t124 0) 6) == 49) = false := beq_eq_false_iff_ne.mpr c9
       have c9b1 : ((bt (rdOf ByteArray.empty t124 0) 6) != 49) = true := bne_iff_ne.mpr c9
       obtain rfl := Option.some.inj H
       go_enter Try.func13, Try.ntmps13
       go_wp2_with (first | ((with_reducible refine gate_callee (f := 17) rfl ?_); refine goesL_ (some 4) rfl rfl Try.func17 (by kernel_rfl) rfl #[.string (⟨#[97]⟩ : ByteArray), .int .i64 50] rfl (by (try simp only [List.map_toArray, List.map_cons, List.map_nil]); first | done | rfl | (simp only [List.length_drop, List.length_take]; rfl)) ?_; (with_reducible refine (strings_Repeat.calls (⟨#[97]⟩ : ByteArray) 50 t123 _ A1.out).mono ?_); rintro e w20 ⟨rfl, hb⟩; refine ⟨_, rfl, ?_⟩; have n0_ := Aside0.mk (below_step (by repeat (first | (with_reducible first | exact HB.out | apply below_alloc | apply pw_below_drewN | apply below_drew1) | exact HB.out)) hb); clear HB; have HB := n0_; clear n0_; (try clear hb); (try clear hb2); (try clear hk); (try clear hi)) | ((with_reducible refine gate_callee (f := 16) rfl ?_); refine goesL_ (some 5) rfl rfl Try.func16 (by kernel_rfl) rfl #[.int .i64 7, .string t123] rfl (by (try simp only [List.map_toArray, List.map_cons, List.map_nil]); first | done | rfl | (simp only [List.length_drop, List.length_take]; rfl)) ?_; (with_reducible refine (block_Pack.calls k 7 t123 t124 t125 _ A2.out).mono ?_); rintro e w21 ⟨v126, rfl, ho0, hb⟩; refine ⟨_, rfl, ?_⟩; have n0_ := Aside0.mk (Kd.R_lower ho0 (below_size (by repeat (first | (with_reducible first | exact HB.out | apply below_alloc | apply pw_below_drewN | apply below_drew1) | exact HB.out)))); have n1_ := Aside0.mk (below_step (by repeat (first | (with_reducible first | exact HB.out | apply below_alloc | apply pw_below_drewN | apply below_drew1) | exact HB.out)) hb); clear HB; have HO127 := n0_; have HB := n1_; clear n0_ n1_; (try clear hb); (try clear hb2); (try clear hk); (try clear hi); (try clear ho0); obtain ⟨Ao22, co22, eo22⟩ := Kd.R_slice HO127.out; subst eo22; have p128 : 0 ≤ (0 : Int) := (by omega); have q128 : 0 < (t124.length : Int) := of_decide_eq_true (by first | (with_reducible assumption) | assumption); obtain ⟨ad128, e128, hx128_0⟩ := Kd.at_string (Kd.R_reads' HO127.out).2.2 0 p128 q128; cases e128; have qi128 : (0 < t124.length) = True := eq_true (by omega); (try rw [show ((0 : Int)).toNat = 0 from rfl] at hx128_0); (try rw [Addr.add_zero'] at hx128_0); replace p128 := eq_true p128; replace q128 := eq_true q128; have p129 : 0 ≤ (0 : Int) := (by omega); have q129 : 0 < (t124.length : Int) := of_decide_eq_true (by first | (with_reducible assumption) | assumption); obtain ⟨ad129, e129, hx129_0⟩ := Kd.at_string (Kd.R_reads' HO127.out).2.2 0 p129 q129; obtain rfl : ad128 = ad129 := (by injection e129); have qi129 : (0 < t124.length) = True := eq_true (by omega); (try rw [show ((0 : Int)).toNat = 0 from rfl] at hx129_0); (try rw [Addr.add_zero'] at hx129_0); replace p129 := eq_true p129; replace q129 := eq_true q129; have p8 : 0 ≤ (6 : Int) := (by omega); have q8 : 6 < (rdOf ByteArray.empty t124 0).size := (by have : (6 : Int) < ((rdOf ByteArray.empty t124 0).size : Int) := of_decide_eq_true (by first | (with_reducible assumption) | assumption); omega); have hx8 : ∀ h : 6 < (rdOf ByteArray.empty t124 0).size, (((rdOf ByteArray.empty t124 0)[6]'h).toNat : Int) = bt (rdOf ByteArray.empty t124 0) 6 := bt_at (rdOf ByteArray.empty t124 0) 6; clear p8; have qi8 : (6 < ((rdOf ByteArray.empty t124 0).size : Int)) = True := eq_true (of_decide_eq_true (by first | (with_reducible assumption) | assumption)); replace q8 := eq_true q8))
       go_ret
       exact ⟨by first | rfl | (simp [errW_none, errW_some] <;> rfl) | (simp [*, errW_none, errW_some] <;> rfl), by repeat (first | (with_reducible first | exact HB.out | apply below_alloc | apply pw_below_drewN | apply below_drew1) | exact HB.out)⟩
     ·rw [if_neg c7] at H
      exact absurd H (by simp)
    ·rw [if_neg c6] at H
     have c6b0 : (((rdOf ByteArray.empty t124 0).size : Int) == 64) = false := beq_eq_false_iff_ne.mpr c6
     have c6b1 : (((rdOf ByteArray.empty t124 0).size : Int) != 64) = true := bne_iff_ne.mpr c6
     obtain rfl := Option.some.inj H
     go_enter Try.func13, Try.ntmps13
     go_wp2_with (first | ((with_reducible refine gate_callee (f := 17) rfl ?_); refine goesL_ (some 4) rfl rfl Try.func17 (by kernel_rfl) rfl #[.string (⟨#[97]⟩ : ByteArray), .int .i64 50] rfl (by (try simp only [List.map_toArray, List.map_cons, List.map_nil]); first | done | rfl | (simp only [List.length_drop, List.length_take]; rfl)) ?_; (with_reducible refine (strings_Repeat.calls (⟨#[97]⟩ : ByteArray) 50 t123 _ A1.out).mono ?_); rintro e w23 ⟨rfl, hb⟩; refine ⟨_, rfl, ?_⟩; have n0_ := Aside0.mk (below_step (by repeat (first | (with_reducible first | exact HB.out | apply below_alloc | apply pw_below_drewN | apply below_drew1) | exact HB.out)) hb); clear HB; have HB := n0_; clear n0_; (try clear hb); (try clear hb2); (try clear hk); (try clear hi)) | ((with_reducible refine gate_callee (f := 16) rfl ?_); refine goesL_ (some 5) rfl rfl Try.func16 (by kernel_rfl) rfl #[.int .i64 7, .string t123] rfl (by (try simp only [List.map_toArray, List.map_cons, List.map_nil]); first | done | rfl | (simp only [List.length_drop, List.length_take]; rfl)) ?_; (with_reducible refine (block_Pack.calls k 7 t123 t124 t125 _ A2.out).mono ?_); rintro e w24 ⟨v126, rfl, ho0, hb⟩; refine ⟨_, rfl, ?_⟩; have n0_ := Aside0.mk (Kd.R_lower ho0 (below_size (by repeat (first | (with_reducible first | exact HB.out | apply below_alloc | apply pw_below_drewN | apply below_drew1) | exact HB.out)))); have n1_ := Aside0.mk (below_step (by repeat (first | (with_reducible first | exact HB.out | apply below_alloc | apply pw_below_drewN | apply below_drew1) | exact HB.out)) hb); clear HB; have HO127 := n0_; have HB := n1_; clear n0_ n1_; (try clear hb); (try clear hb2); (try clear hk); (try clear hi); (try clear ho0); obtain ⟨Ao25, co25, eo25⟩ := Kd.R_slice HO127.out; subst eo25; have p128 : 0 ≤ (0 : Int) := (by omega); have q128 : 0 < (t124.length : Int) := of_decide_eq_true (by first | (with_reducible assumption) | assumption); obtain ⟨ad128, e128, hx128_0⟩ := Kd.at_string (Kd.R_reads' HO127.out).2.2 0 p128 q128; cases e128; have qi128 : (0 < t124.length) = True := eq_true (by omega); (try rw [show ((0 : Int)).toNat = 0 from rfl] at hx128_0); (try rw [Addr.add_zero'] at hx128_0); replace p128 := eq_true p128; replace q128 := eq_true q128))
     go_ret
     exact ⟨by first | rfl | (simp [errW_none, errW_some] <;> rfl) | (simp [*, errW_none, errW_some] <;> rfl), by repeat (first | (with_reducible first | exact HB.out | apply below_alloc | apply pw_below_drewN | apply below_drew1) | exact HB.out)⟩
   ·rw [if_neg c5] at H
    exact absurd H (by simp)
  ·rw [if_neg c4] at H
   have c4b0 : ((t124.length : Int) == 2) = false := beq_eq_false_iff_ne.mpr c4
   have c4b1 : ((t124.length : Int) != 2) = true := bne_iff_ne.mpr c4
   obtain rfl := Option.some.inj H
   go_enter Try.func13, Try.ntmps13
   go_wp2_with (first | ((with_reducible refine gate_callee (f := 17) rfl ?_); refine goesL_ (some 4) rfl rfl Try.func17 (by kernel_rfl) rfl #[.string (⟨#[97]⟩ : ByteArray), .int .i64 50] rfl (by (try simp only [List.map_toArray, List.map_cons, List.map_nil]); first | done | rfl | (simp only [List.length_drop, List.length_take]; rfl)) ?_; (with_reducible refine (strings_Repeat.calls (⟨#[97]⟩ : ByteArray) 50 t123 _ A1.out).mono ?_); rintro e w26 ⟨rfl, hb⟩; refine ⟨_, rfl, ?_⟩; have n0_ := Aside0.mk (below_step (by repeat (first | (with_reducible first | exact HB.out | apply below_alloc | apply pw_below_drewN | apply below_drew1) | exact HB.out)) hb); clear HB; have HB := n0_; clear n0_; (try clear hb); (try clear hb2); (try clear hk); (try clear hi)) | ((with_reducible refine gate_callee (f := 16) rfl ?_); refine goesL_ (some 5) rfl rfl Try.func16 (by kernel_rfl) rfl #[.int .i64 7, .string t123] rfl (by (try simp only [List.map_toArray, List.map_cons, List.map_nil]); first | done | rfl | (simp only [List.length_drop, List.length_take]; rfl)) ?_; (with_reducible refine (block_Pack.calls k 7 t123 t124 t125 _ A2.out).mono ?_); rintro e w27 ⟨v126, rfl, ho0, hb⟩; refine ⟨_, rfl, ?_⟩; have n0_ := Aside0.mk (Kd.R_lower ho0 (below_size (by repeat (first | (with_reducible first | exact HB.out | apply below_alloc | apply pw_below_drewN | apply below_drew1) | exact HB.out)))); have n1_ := Aside0.mk (below_step (by repeat (first | (with_reducible first | exact HB.out | apply below_alloc | apply pw_below_drewN | apply below_drew1) | exact HB.out)) hb); clear HB; have HO127 := n0_; have HB := n1_; clear n0_ n1_; (try clear hb); (try clear hb2); (try clear hk); (try clear hi); (try clear ho0); obtain ⟨Ao28, co28, eo28⟩ := Kd.R_slice HO127.out; subst eo28))
   go_ret
   exact ⟨by first | rfl | (simp [errW_none, errW_some] <;> rfl) | (simp [*, errW_none, errW_some] <;> rfl), by repeat (first | (with_reducible first | exact HB.out | apply below_alloc | apply pw_below_drewN | apply below_drew1) | exact HB.out)⟩
 ·rw [if_neg c3] at H
  have c3b0 : (t125 == 0) = false := beq_eq_false_iff_ne.mpr c3
  have c3b1 : (t125 != 0) = true := bne_iff_ne.mpr c3
  obtain rfl := Option.some.inj H
  go_enter Try.func13, Try.ntmps13
  go_wp2_with (first | ((with_reducible refine gate_callee (f := 17) rfl ?_); refine goesL_ (some 4) rfl rfl Try.func17 (by kernel_rfl) rfl #[.string (⟨#[97]⟩ : ByteArray), .int .i64 50] rfl (by (try simp only [List.map_toArray, List.map_cons, List.map_nil]); first | done | rfl | (simp only [List.length_drop, List.length_take]; rfl)) ?_; (with_reducible refine (strings_Repeat.calls (⟨#[97]⟩ : ByteArray) 50 t123 _ A1.out).mono ?_); rintro e w29 ⟨rfl, hb⟩; refine ⟨_, rfl, ?_⟩; have n0_ := Aside0.mk (below_step (by repeat (first | (with_reducible first | exact HB.out | apply below_alloc | apply pw_below_drewN | apply below_drew1) | exact HB.out)) hb); clear HB; have HB := n0_; clear n0_; (try clear hb); (try clear hb2); (try clear hk); (try clear hi)) | ((with_reducible refine gate_callee (f := 16) rfl ?_); refine goesL_ (some 5) rfl rfl Try.func16 (by kernel_rfl) rfl #[.int .i64 7, .string t123] rfl (by (try simp only [List.map_toArray, List.map_cons, List.map_nil]); first | done | rfl | (simp only [List.length_drop, List.length_take]; rfl)) ?_; (with_reducible refine (block_Pack.calls k 7 t123 t124 t125 _ A2.out).mono ?_); rintro e w30 ⟨v126, rfl, ho0, hb⟩; refine ⟨_, rfl, ?_⟩; have n0_ := Aside0.mk (Kd.R_lower ho0 (below_size (by repeat (first | (with_reducible first | exact HB.out | apply below_alloc | apply pw_below_drewN | apply below_drew1) | exact HB.out)))); have n1_ := Aside0.mk (below_step (by repeat (first | (with_reducible first | exact HB.out | apply below_alloc | apply pw_below_drewN | apply below_drew1) | exact HB.out)) hb); clear HB; have HO127 := n0_; have HB := n1_; clear n0_ n1_; (try clear hb); (try clear hb2); (try clear hk); (try clear hi); (try clear ho0)))
  go_ret
  exact ⟨by first | rfl | (simp [errW_none, errW_some] <;> rfl) | (simp [*, errW_none, errW_some] <;> rfl), by repeat (first | (with_reducible first | exact HB.out | apply below_alloc | apply pw_below_drewN | apply below_drew1) | exact HB.out)⟩
end Go.Proofs.Ytckfkbmefdmedaa.Q
namespace Go.Proofs.Ytckfkbmefdmedaa
open Go.RowKit Go.Proofs.Kq Go.Proofs.Ytckfkbmefdmedaa.Q Go.Proofs.YtckfkbmefdmedaaW.PrintWords Go
set_option linter.unusedVariables false
set_option linter.unusedSimpArgs false
theorem bt_len (s : ByteArray) (h : 6 < s.size) : bt s 6 = (lenB s : Int) := by
  rw [show bt s 6 = ((s[6]'h).toNat : Int) by simp [bt, h]]
  have e6 : (s[6]'h).toNat = lenB s := by simp [lenB, Array.getD, h]; rfl
  rw [e6]
def p50 : ByteArray := ⟨(Lib.repeatL [97] 50).toArray⟩
theorem p50_size : p50.size = 50 := by
  unfold p50; show (List.toArray _).size = 50; rw [List.size_toArray, Lib.repeatL_length]; rfl
theorem rep50 : strings_Repeat.f ⟨#[97]⟩ 50 = some p50 := by
  unfold strings_Repeat.f
  rw [if_pos ⟨by omega, by omega, by show 1 * _ ≤ _; omega⟩]
  have e1 : (50 : Int).toNat = 50 := rfl
  have e2 : (⟨#[97]⟩ : ByteArray).data.toList = [97] := rfl
  rw [e1, e2]; unfold p50; rfl
theorem lives_in (p : ByteArray) (hs : p.size = 50) (k : Nat) (hr : strings_Repeat.f ⟨#[97]⟩ 50 = some p) (h2 : block_Pack.f k 7 p = some (blkR 7 (bl p) 2 0 2, 0)) : souklaw04_lives.f k = some true := by
  have hl : (bl p).length = 50 := by rw [← ba_size, hs]
  unfold souklaw04_lives.f
  rw [hr, Option.bind_some, h2, Option.bind_some]
  have c0 := chunk_le (bl p) 0
  have c1 := chunk_le (bl p) 1
  have r0 : rdOf ByteArray.empty (blkR 7 (bl p) 2 0 2) 0 = oneF 7 0 2 (chunk (bl p) 0) := by simp [rdOf, blkR]
  have r1 : rdOf ByteArray.empty (blkR 7 (bl p) 2 0 2) 1 = oneF 7 1 2 (chunk (bl p) 1) := by simp [rdOf, blkR]
  have s0 := one_size 7 0 2 _ c0
  have s1 := one_size 7 1 2 _ c1
  have l0 := one_len 7 0 2 _ c0
  have l1 := one_len 7 1 2 _ c1
  rw [chunk_size, hl] at l0 l1
  rw [r0, r1, blkR_len]
  clear r0 r1 c0 c1 h2 hr
  generalize oneF 7 0 2 (chunk (bl p) 0) = z0 at *
  generalize oneF 7 1 2 (chunk (bl p) 1) = z1 at *
  have b0 := bt_len z0 (by omega)
  have b1 := bt_len z1 (by omega)
  rw [l0] at b0
  rw [l1] at b1
  rw [if_pos rfl, if_pos (by omega), if_pos (by omega), if_pos (by omega), if_pos (by omega), b0, if_pos (by omega), if_pos (by omega), if_pos (by omega), b1, if_pos (by omega)]
theorem lives04_ok : EvT (fun k => souklaw04_lives.f k) true := by
  obtain ⟨m, hm⟩ := pack_ok 7 p50 (by rw [p50_size]; omega)
  have hl : (bl p50).length = 50 := by rw [← ba_size, p50_size]
  have hpk : packF 7 (bl p50) = (blkR 7 (bl p50) 2 0 2, 0) := by
    unfold packF; rw [show cntL (bl p50).length = 2 by rw [hl]; rfl, if_neg (by omega)]
  rw [hpk] at hm
  exact ⟨m, fun k hk => lives_in p50 p50_size k rep50 (hm k hk)⟩
end Go.Proofs.Ytckfkbmefdmedaa
namespace Go.Proofs.Ytckfkbmefdmedaa
open Go.RowKit Go.Proofs.Rk Go.Proofs.YtckfkbmefdmedaaW.PrintWords
set_option linter.unusedVariables false
theorem C_strs_of {w : World} {A : Option Addr} {xs : List ByteArray} {cap : Nat} {ok : ByteArray → Prop} (h : RdSl w (fun s : ByteArray => [Value.string s]) ok 1 A xs cap) : Kd.C Kd.string w A xs.length xs := by
  have h := Kp.C_of_rd (l := fun s : ByteArray => [Value.string s]) (hl := fun _ => rfl) (h1 := fun _ u hu => by rcases List.mem_singleton.1 hu with rfl; rfl) (by decide) h
  obtain ⟨h1, h2, h3⟩ := h
  refine ⟨h1, h2, fun hn => ?_⟩
  obtain ⟨ad, e, hc⟩ := h3 hn
  refine ⟨ad, e, fun j q hj => ?_⟩
  obtain ⟨c, hc1, hc2, hc3⟩ := hc j q hj
  obtain rfl : c = [Value.string q] := hc2
  exact ⟨[Value.string q], rfl, rfl, hc3⟩
end Go.Proofs.Ytckfkbmefdmedaa
namespace Go.Proofs.Ytckfkbmefdmedaa
open Go.RowKit Go.Proofs.YtckfkbmefdmedaaW.PrintWords Go.Proofs.YtckfkbmefdmedaaW.PrintLast
set_option linter.unusedVariables false
set_option linter.unusedSimpArgs false
open Go.Proofs.Kq (Reads wpList_append_any)
theorem info9s : (Try.prog.info? 9).map (fun i => (i.zero, i.size, i.bytes)) = some (some (.string ⟨#[]⟩), 1, 16) := by kernel_rfl
theorem reads_strs {w : World} {A : Option Addr} {xs : List ByteArray} (h : Kd.C Kd.string w A xs.length xs) : Reads w w.heap.size 1 A xs.length (encs Value.string xs) := by
  refine ⟨by rw [encs_length]; omega, fun hn => ?_⟩
  obtain ⟨ad, e, hc⟩ := (Kd.reads_of_C (d := ByteArray.empty) h).2.2 hn
  refine ⟨ad, e, ?_, fun j u hu => ?_⟩
  · have := World.block_lt_of_cell? w _ (hc 0 hn)
    rwa [Kq.block_of_add] at this
  · obtain ⟨hj, hju⟩ := List.getElem?_eq_some_iff.1 hu
    rw [encs_length] at hj
    rw [hc j hj, List.getD_eq_getElem?_getD, List.getElem?_eq_getElem hj]
    simp [encs] at hju
    simp [hju]
theorem encs_ones (xs : List ByteArray) : ∀ u ∈ encs Value.string xs, u.oneCell' = true := by
  intro u hu; obtain ⟨z, _, rfl⟩ := List.mem_map.1 hu; rfl
end Go.Proofs.Ytckfkbmefdmedaa
namespace Go.Proofs
open Go.Shelf
def Try.grow_lays_ren : Go.Shelf.Ren := ⟨fun | 4 => 76 | n => n, fun | 22 => 22 | 25 => 9 | 3 => 3 | 4 => 4 | 9 => 9 | 20 => 20 | 0 => 0 | n => n, fun | n => n⟩
theorem Try.grow_lays : Go.Proofs.Lays8.n4 Try.prog Try.grow_lays_ren := {
  mixed := by kernel_rfl
  f4 := ⟨Try.f76.name, by decide, Try.func76.trans (congrArg some (by kernel_rfl))⟩
  t0 := Try.underlying0
  a0 := Try.isAgg0
  z0 := Try.sizeOf0
  v0 := Try.zeroValue0
  t3 := Try.underlying3
  a3 := Try.isAgg3
  z3 := Try.sizeOf3
  v3 := Try.zeroValue3
  t4 := Try.underlying4
  a4 := Try.isAgg4
  z4 := Try.sizeOf4
  v4 := Try.zeroValue4
  t9 := Try.underlying9
  a9 := Try.isAgg9
  z9 := Try.sizeOf9
  v9 := Try.zeroValue9
  t20 := Try.underlying20
  a20 := Try.isAgg20
  z20 := Try.sizeOf20
  v20 := Try.zeroValue20
  t22 := Try.underlying22
  a22 := Try.isAgg22
  z22 := Try.sizeOf22
  v22 := Try.zeroValue22 }
end Go.Proofs
namespace Go.Proofs.Ytckfkbmefdmedaa
open Go.RowKit Go.Proofs.Kq Go.Proofs.YtckfkbmefdmedaaW.PrintLast
open Go.Proofs.YtckfkbmefdmedaaW.PrintWords (pw_cell_below Kd Kd.C Kd.C_below Kd.R Kd.R_of_own Kd.R_reads encs encs_length)
set_option linter.unusedVariables false
set_option linter.unusedSimpArgs false
def OwnS (w : World) (base : Nat) (v : Value) (xs : List ByteArray) : Prop := w.ownsRow base 9 1 v xs.length (encs Value.string xs)
theorem own_base {w : World} {base : Nat} {v : Value} {xs : List ByteArray} (h : OwnS w base v xs) {k : Nat} (hk : v.ownBlock = some k) : base ≤ k := by
  rcases h.2 with ⟨rfl, _⟩ | ⟨g, cap, cur, rfl, hg, _⟩
  · cases hk
  · cases hk; exact hg
theorem own_fresh (w : World) (cap : Nat) (cur : Array Value) (h1 : cur.size = cap) (h2 : cap ≤ maxLen) : OwnS (w.drew.alloc (.cells cur 9)) w.heap.size (.slice (some ⟨w.heap.size, 0, none⟩) 0 cap) [] := by
  refine ⟨by simp [encs], .inr ⟨w.heap.size, cap, cur, rfl, Nat.le_refl _, ?_, Nat.zero_le _, h2, by omega, by simp [encs]⟩⟩
  show (w.heap.push _)[w.heap.size]? = _
  simp
theorem grow_any (n : Nat) (w : World) (h0 : 0 < n) (hn : n ≤ 1000000) : Calls Try.prog 76 #[.slice none 0 0, .int .i64 n] w fun e w' => ∃ v, e = .returned v ∧ OwnS w' w.heap.size v [] ∧ Below w.heap.size w w' := by
  obtain ⟨i0, hi, hz0, hz1, hz2⟩ := info_parts info9s
  have hL := Go.Proofs.Any8.slices_Grow_grow Go.Proofs.Try.grow_lays i0 (.string ⟨#[]⟩) hi hz0 (by omega) none 0 0 n [] w (Nat.le_refl _) (by omega) (by rw [hz2]; omega) (by omega) (by simp) (fun _ => rfl) (fun a h => by cases h)
  have hge : 0 + n ≤ grownCap w (0 + n) 0 9 := grownCap_ge w (0 + n) 0 9
  have hle : grownCap w (0 + n) 0 9 ≤ maxLen := grownCap_le_maxLen w (0 + n) 0 9 (by simp only [maxLen]; omega)
  have hcs : (((#[] : Array Value) ++ Builtin.zeroCells (Value.string ⟨#[]⟩).cells (0 + n - 0)) ++ Builtin.zeroCells (Value.string ⟨#[]⟩).cells (grownCap w (0 + n) 0 9 - (0 + n))).size = grownCap w (0 + n) 0 9 := by
    have e1 : (Value.string ⟨#[]⟩).cells.size = 1 := rfl
    rw [Array.size_append, Array.size_append, size_zeroCells, size_zeroCells, e1]
    simp only [List.size_toArray, List.length_nil]
    omega
  refine Calls.mono hL ?_
  rintro e w' ⟨rfl, rfl⟩
  exact ⟨_, rfl, own_fresh w _ _ hcs hle, (Below.refl _ _).drew.alloc (Nat.le_refl _) _⟩
def CatP (base : Nat) (w0 : World) (zs : List ByteArray) (e : Ending) (w' : World) : Prop := ∃ v, e = .returned v ∧ OwnS w' base v zs ∧ Below base w0 w'
set_option maxRecDepth 100000 in
set_option maxHeartbeats 2000000 in
theorem cat_any (b off : Nat) (A0 A1 : Option Addr) (c0 c1 cc : Nat) (xs ys : List ByteArray) (w : World) (q0 : w.cell? ⟨b, off, none⟩ = some (.slice A0 xs.length c0)) (q1 : w.cell? ⟨b, off + 1, none⟩ = some (.slice A1 ys.length c1))
    (hx : Kd.C Kd.string w A0 xs.length xs) (hy : Kd.C Kd.string w A1 ys.length ys) (hl : xs.length + ys.length ≤ 1000000) (h0 : 0 < xs.length) :
    Calls Try.prog 20 #[.slice (some ⟨b, off, none⟩) 2 cc] w (CatP w.heap.size w (xs ++ ys)) := by
  have HX := hidI hx
  have HY := hidI hy
  clear hx hy
  have hn1 : ¬ ((xs.length : Int) + (ys.length : Int) < 0) := by omega
  go_enter Try.func20, Try.ntmps20
  go_wp2
  go_loop [3, 11] (fun n i => ∃ k : Nat, k ≤ 2 ∧ i = .int .i64 k ∧ n = .int .i64 (if k = 0 then 0 else if k = 1 then (xs.length : Int) else (xs.length : Int) + (ys.length : Int))) (fun _ i => 2 - (intOf i).toNat)
  case atStart => exact ⟨0, by decide, rfl, rfl⟩
  case round =>
    obtain ⟨k, hk, rfl, rfl⟩ := hrel
    by_cases k0 : k = 0
    · subst k0
      go_wp2_with fail
      exact ⟨⟨1, by decide, rfl, rfl⟩, by decide⟩
    · by_cases k1 : k = 1
      · subst k1
        go_wp2_with fail
        exact ⟨⟨2, by decide, rfl, rfl⟩, by decide⟩
      · have k2 : k = 2 := by omega
        subst k2
        clear k0 k1
        have HLS := hidI (show (xs.length : Int) + (ys.length : Int) = ((xs.length + ys.length : Nat) : Int) by omega)
        go_wp2_with fail
        have hGr := grow_any (xs.length + ys.length) w (by omega) hl
        rw [← HLS.out] at hGr
        with_reducible refine hGr.mono ?_
        rintro e w1 ⟨v1, rfl, hO1, hb1⟩
        simp only []
        go_wp2_with fail
        have HO1 := hidI hO1
        have HB1 := hidI hb1
        clear hO1 hb1 hGr
        obtain ⟨i0, hi0, hz0, hz1, hz2⟩ := info_parts info9s
        go_loopw [6, 27] (fun v i wr => ∃ k : Nat, k ≤ 2 ∧ i = .int .i64 k ∧ Hid (OwnS wr w.heap.size v (if k = 0 then [] else if k = 1 then xs else xs ++ ys) ∧ Below w.heap.size w wr)) (fun _ i _ => 2 - (intOf i).toNat)
        case atStart => exact ⟨0, by decide, rfl, hidI ⟨HO1.out, HB1.out⟩⟩
        case round =>
          obtain ⟨k, hk, rfl, hI⟩ := hrel
          have g0 := pw_cell_below hI.out.2 q0
          have g1 := pw_cell_below hI.out.2 q1
          have hbs : Hid (w.heap.size ≤ wr.heap.size) := hidI hI.out.2.size
          have hRx := (reads_strs (Kd.C_below HX.out hI.out.2))
          have hRy := (reads_strs (Kd.C_below HY.out hI.out.2))
          by_cases k0 : k = 0
          · subst k0
            have hO : OwnS wr w.heap.size u6 [] := hI.out.1
            go_wp2_with (at_builtin; refine wpList_append_any _ rfl (.tmp 31) (.tmp 32) 22 rfl w.heap.size 9 i0 (.string ⟨#[]⟩) 1 16 Try.underlying22 hi0 hz0 hz1 hz2 rfl (by decide) u6 ([] : List ByteArray).length (encs Value.string []) rfl hO wr.heap.size A0 xs.length c0 (encs Value.string xs) rfl hRx (encs_ones xs) ?aM ?aB hbs.out ?_; (case aM => simp only [maxLen, List.length_nil]; omega); (case aB => simp only [List.length_nil]; omega); intro v1 w1 hown hg hat)
            have hO2 : OwnS w1 w.heap.size v1 xs := by unfold OwnS; simpa [encs] using hown
            have HI2 := hidI (And.intro hO2 (Below.grown hI.out.2 hg hbs.out (fun k hk => own_base hO hk)))
            clear hown hg hat hO2 hO
            exact ⟨⟨1, by decide, rfl, HI2⟩, by decide⟩
          · by_cases k1 : k = 1
            · subst k1
              have hO : OwnS wr w.heap.size u6 xs := hI.out.1
              go_wp2_with (at_builtin; refine wpList_append_any _ rfl (.tmp 31) (.tmp 32) 22 rfl w.heap.size 9 i0 (.string ⟨#[]⟩) 1 16 Try.underlying22 hi0 hz0 hz1 hz2 rfl (by decide) u6 xs.length (encs Value.string xs) rfl hO wr.heap.size A1 ys.length c1 (encs Value.string ys) rfl hRy (encs_ones ys) ?aM ?aB hbs.out ?_; (case aM => simp only [maxLen, List.length_nil]; omega); (case aB => omega); intro v1 w1 hown hg hat)
              have hO2 : OwnS w1 w.heap.size v1 (xs ++ ys) := by unfold OwnS; simpa [encs] using hown
              have HI2 := hidI (And.intro hO2 (Below.grown hI.out.2 hg hbs.out (fun k hk => own_base hO hk)))
              clear hown hg hat hO2 hO
              exact ⟨⟨2, by decide, rfl, HI2⟩, by decide⟩
            · have k2 : k = 2 := by omega
              subst k2
              have hfin : Hid (CatP w.heap.size w (xs ++ ys) (.returned u6) wr) := hidI ⟨_, rfl, hI.out.1, hI.out.2⟩
              clear k0 k1
              go_wp2_with fail
              go_ret
              exact hfin.out
end Go.Proofs.Ytckfkbmefdmedaa
namespace Go.Proofs.Ytckfkbmefdmedaa.Q
open Go.RowKit Go.Proofs.YtckfkbmefdmedaaW.PrintWords Go.Proofs.YtckfkbmefdmedaaW.PrintLast Go.Proofs.YtckfkbmefdmedaaW.PrintMore
attribute [local go_sem] max2_int min2_int max_two min_two max_three min_three max_four min_four   -- for this text's walks alone
set_option linter.unusedVariables false
set_option linter.unusedSimpArgs false
def slices_Equal_string_string.l0 : Nat → List ByteArray → List ByteArray → Int → Int → Option (Bool)
 | 0, _, _, _, _ => none
 | k + 1, x0, x1, x12, x13 => if x13 < x12 then (if 0 ≤ x13 then (if x13 < (x0.length : Int) then (if x13 < (x1.length : Int) then (if (rdOf ByteArray.empty x0 x13).toList = (rdOf ByteArray.empty x1 x13).toList then (slices_Equal_string_string.l0 k x0 x1 x12 (wrap64 (x13 + 1))) else (some false)) else (none)) else (none)) else (none)) else (some true)
def slices_Equal_string_string.f (k : Nat) (l0 : List ByteArray) (l1 : List ByteArray) : Option (Bool) := if (l0.length : Int) = (l1.length : Int) then (slices_Equal_string_string.l0 k l0 l1 (l0.length : Int) 0) else (some false)
set_option maxHeartbeats 8000000 in
set_option maxRecDepth 100000 in
theorem slices_Equal_string_string.calls (k : Nat) (A0 : Option Addr) (c0 : Nat) (l0 : List ByteArray) (A1 : Option Addr) (c1 : Nat) (l1 : List ByteArray) (r : Bool) (w : World) (hr0 : Kd.C Kd.string w A0 l0.length l0) (hc0 : l0.length ≤ c0) (hr1 : Kd.C Kd.string w A1 l1.length l1) (hc1 : l1.length ≤ c1) (h : slices_Equal_string_string.f k l0 l1 = some r) :
  Calls Try.prog 21 #[.slice A0 l0.length c0, .slice A1 l1.length c1] w fun e w' => e = .returned (.bool r) ∧ Drawn0 w w' := by
 have HR0 := Aside0.mk hr0
 have HC0 := Aside0.mk hc0
 clear hr0 hc0
 have HR1 := Aside0.mk hr1
 have HC1 := Aside0.mk hc1
 clear hr1 hc1
 have H : (if (l0.length : Int) = (l1.length : Int) then (slices_Equal_string_string.l0 k l0 l1 (l0.length : Int) 0) else (some false)) = some r := h
 clear h
 by_cases c3 : (l0.length : Int) = (l1.length : Int)
 ·rw [if_pos c3] at H
  have c3b0 : ((l0.length : Int) == (l1.length : Int)) = true := beq_iff_eq.mpr c3
  have c3b1 : ((l0.length : Int) != (l1.length : Int)) = false := bne_eq_false_iff_eq.mpr c3
  have c3b2 : (l0.length == l1.length) = true := by first | simpa using c3 | (simp at c3 ⊢; omega)
  clear c3
  have H' := Aside0.mk H
  clear H
  go_enter Try.func21, Try.ntmps21
  go_wp2
  repeat (go_quiet (fail); try go_wp2)
  go_loopg [13] k (fun kq v13 w' => ∃ (x13_1 : Int), v13 = .int .i64 x13_1 ∧ Aside0 (slices_Equal_string_string.l0 kq l0 l1 (l0.length : Int) x13_1 = some r) ∧ Aside0 (kq ≤ k) ∧ Drawn0 w w')
  case atStart => exact ⟨(0), (by first | rfl | (simp; done) | (simp [*]; done)), H', ⟨Nat.le_refl _⟩, by repeat (first | exact Drawn0.refl _ | apply Drawn0.step)⟩
  case round =>
   clear H'
   try clear c1
   try clear c2
   try clear p2
   try clear c3
   try clear c3b0
   try clear c3b1
   try clear c3b2
   obtain ⟨x13_1, rfl, HA, HK1, ⟨m1, rfl⟩⟩ := hrel
   cases gk with
   | zero => exact absurd HA.out (by simp [slices_Equal_string_string.l0])
   | succ k1 =>
    have H := HA.out
    clear HA
    simp only [slices_Equal_string_string.l0] at H
    by_cases c4 : x13_1 < (l0.length : Int)
    ·rw [if_pos c4] at H
     have c4b0 : decide (x13_1 < (l0.length : Int)) = true := decide_eq_true c4
     clear c4
     by_cases c5 : 0 ≤ x13_1
     ·rw [if_pos c5] at H
      have c5b0 : decide (0 ≤ x13_1) = true := decide_eq_true c5
      clear c5
      by_cases c6 : x13_1 < (l0.length : Int)
      ·rw [if_pos c6] at H
       have c6b0 : decide (x13_1 < (l0.length : Int)) = true := decide_eq_true c6
       clear c6
       by_cases c7 : x13_1 < (l1.length : Int)
       ·rw [if_pos c7] at H
        have c7b0 : decide (x13_1 < (l1.length : Int)) = true := decide_eq_true c7
        clear c7
        by_cases c8 : (rdOf ByteArray.empty l0 x13_1).toList = (rdOf ByteArray.empty l1 x13_1).toList
        ·rw [if_pos c8] at H
         have c8b0 : ((rdOf ByteArray.empty l0 x13_1).toList == (rdOf ByteArray.empty l1 x13_1).toList) = true := beq_iff_eq.mpr c8
         have c8b1 : ((rdOf ByteArray.empty l0 x13_1).toList != (rdOf ByteArray.empty l1 x13_1).toList) = false := bne_eq_false_iff_eq.mpr c8
         clear c8
         have H' := Aside0.mk H
         clear H
         have p155 : 0 ≤ (x13_1 : Int) := of_decide_eq_true (by first | (with_reducible assumption) | assumption)
         have q155 : x13_1 < (l0.length : Int) := of_decide_eq_true (by first | (with_reducible assumption) | assumption)
         obtain ⟨ad155, e155, hx155_0⟩ := Kd.at_string HR0.out x13_1 p155 q155
         cases e155
         replace p155 := eq_true p155
         replace q155 := eq_true q155
         have p156 : 0 ≤ (x13_1 : Int) := of_decide_eq_true (by first | (with_reducible assumption) | assumption)
         have q156 : x13_1 < (l1.length : Int) := of_decide_eq_true (by first | (with_reducible assumption) | assumption)
         obtain ⟨ad156, e156, hx156_0⟩ := Kd.at_string HR1.out x13_1 p156 q156
         cases e156
         replace p156 := eq_true p156
         replace q156 := eq_true q156
         go_wp2
         repeat (go_quiet (fail); try go_wp2)
         go_roundg k1
         case measure => have := HK1.out; omega
         case rel => exact ⟨(wrap64 (x13_1 + 1)), (by first | rfl | (simp; done) | (simp [*]; done)), H', ⟨by have := HK1.out; omega⟩, by repeat (first | exact Drawn0.refl _ | apply Drawn0.step)⟩
        ·rw [if_neg c8] at H
         have c8b0 : ((rdOf ByteArray.empty l0 x13_1).toList == (rdOf ByteArray.empty l1 x13_1).toList) = false := beq_eq_false_iff_ne.mpr c8
         have c8b1 : ((rdOf ByteArray.empty l0 x13_1).toList != (rdOf ByteArray.empty l1 x13_1).toList) = true := bne_iff_ne.mpr c8
         obtain rfl := Option.some.inj H
         have p155 : 0 ≤ (x13_1 : Int) := of_decide_eq_true (by first | (with_reducible assumption) | assumption)
         have q155 : x13_1 < (l0.length : Int) := of_decide_eq_true (by first | (with_reducible assumption) | assumption)
         obtain ⟨ad155, e155, hx155_0⟩ := Kd.at_string HR0.out x13_1 p155 q155
         cases e155
         replace p155 := eq_true p155
         replace q155 := eq_true q155
         have p156 : 0 ≤ (x13_1 : Int) := of_decide_eq_true (by first | (with_reducible assumption) | assumption)
         have q156 : x13_1 < (l1.length : Int) := of_decide_eq_true (by first | (with_reducible assumption) | assumption)
         obtain ⟨ad156, e156, hx156_0⟩ := Kd.at_string HR1.out x13_1 p156 q156
         cases e156
         replace p156 := eq_true p156
         replace q156 := eq_true q156
         go_wp2
         repeat (go_quiet (fail); try go_wp2)
         go_ret
         exact ⟨by first | rfl | (simp; done) | (simp [*]; done), by repeat (first | exact Drawn0.refl _ | apply Drawn0.step)⟩
       ·rw [if_neg c7] at H
        exact absurd H (by simp)
      ·rw [if_neg c6] at H
       exact absurd H (by simp)
     ·rw [if_neg c5] at H
      exact absurd H (by simp)
    ·rw [if_neg c4] at H
     have c4b0 : decide (x13_1 < (l0.length : Int)) = false := decide_eq_false c4
     clear c4
     obtain rfl := Option.some.inj H
     go_wp2
     repeat (go_quiet (fail); try go_wp2)
     go_ret
     exact ⟨by first | rfl | (simp; done) | (simp [*]; done), by repeat (first | exact Drawn0.refl _ | apply Drawn0.step)⟩
 ·rw [if_neg c3] at H
  have c3b0 : ((l0.length : Int) == (l1.length : Int)) = false := beq_eq_false_iff_ne.mpr c3
  have c3b1 : ((l0.length : Int) != (l1.length : Int)) = true := bne_iff_ne.mpr c3
  have c3b2 : (l0.length == l1.length) = false := by first | simpa using c3 | (simp at c3 ⊢; omega)
  obtain rfl := Option.some.inj H
  go_enter Try.func21, Try.ntmps21
  go_wp2
  repeat (go_quiet (fail); try go_wp2)
  go_ret
  exact ⟨by first | rfl | (simp; done) | (simp [*]; done), by repeat (first | exact Drawn0.refl _ | apply Drawn0.step)⟩
end Go.Proofs.Ytckfkbmefdmedaa.Q
namespace Go.Proofs.Ytckfkbmefdmedaa
open Go.RowKit Go.Proofs.Kq Go.Proofs.Ytckfkbmefdmedaa.Q
open Go.Proofs.YtckfkbmefdmedaaW.PrintWords (pw_cell_below Kd Kd.C Kd.C_below Kd.R Kd.R_of_own Kd.R_reads encs encs_length rdOf)
set_option linter.unusedVariables false
set_option linter.unusedSimpArgs false
theorem eqs_loop (a : List ByteArray) (hl : a.length ≤ 1000000) : ∀ r i : Nat, i + r = a.length → EvT (fun k => slices_Equal_string_string.l0 k a a a.length i) true
  | 0, i, hi => by
    refine EvT.done (fun k => ?_)
    rw [slices_Equal_string_string.l0, if_neg (by omega)]
  | r + 1, i, hi => by
    refine EvT.step (fun k => ?_) (eqs_loop a hl r (i + 1) (by omega))
    rw [slices_Equal_string_string.l0, if_pos (by omega), if_pos (by omega), if_pos (by omega), if_pos (by omega), if_pos rfl, nx i (by omega)]
theorem eqs_ok (a : List ByteArray) (hl : a.length ≤ 1000000) : ∃ K, slices_Equal_string_string.f K a a = some true := by
  refine EvT.one (f := fun k => slices_Equal_string_string.f k a a) (EvT.congr (fun k => ?_) (eqs_loop a hl a.length 0 (by omega)))
  unfold slices_Equal_string_string.f; rw [if_pos rfl]; rfl
theorem C_one (w : World) (s : ByteArray) : Kd.C Kd.string (w.alloc (.cells #[.string s] 9)) (some ⟨w.heap.size, 0, none⟩) 1 [s] := by
  have ho : OwnS (w.alloc (.cells #[.string s] 9)) w.heap.size (.slice (some ⟨w.heap.size, 0, none⟩) 1 1) [s] :=
    ⟨rfl, .inr ⟨w.heap.size, 1, #[.string s], rfl, Nat.le_refl _, by (show (w.heap.push _)[w.heap.size]? = _; simp), Nat.le_refl _, by decide, rfl, rfl⟩⟩
  obtain ⟨A, c, e, _, hC⟩ := Kd.R_reads (Kd.R_of_own (enc := Value.string) (h1 := fun _ => rfl) (ok := fun _ => True) ho (fun _ _ => trivial))
  injection e with e1
  subst e1
  exact hC
theorem OwnS.reads {w : World} {base : Nat} {v : Value} {xs : List ByteArray} (h : OwnS w base v xs) : ∃ A c, v = .slice A xs.length c ∧ xs.length ≤ c ∧ Kd.C Kd.string w A xs.length xs :=
  Kd.R_reads (Kd.R_of_own (enc := Value.string) (h1 := fun _ => rfl) (ok := fun _ => True) h (fun _ _ => trivial))
theorem two_cells (w : World) (a b : Value) (T : TypeId) : (w.alloc (.cells #[a, b] T)).cell? ⟨w.heap.size, 0, none⟩ = some a ∧ (w.alloc (.cells #[a, b] T)).cell? ⟨w.heap.size, 0 + 1, none⟩ = some b := by
  have hh : (w.alloc (.cells #[a, b] T)).heap[w.heap.size]? = some (.cells #[a, b] T) := by show (w.heap.push _)[w.heap.size]? = _; simp
  constructor <;> simp only [World.cell?, hh, Option.isSome_none, Bool.false_eq_true, if_false] <;> rfl
theorem lives04_calls (w : World) : Calls Try.prog 13 #[] w fun e w' => e = .returned (.bool true) ∧ Below w.heap.size w w' := by
  obtain ⟨K, hK⟩ := EvT.one lives04_ok
  exact souklaw04_lives.calls K true w hK
def TrueP (w : World) (e : Ending) (w' : World) : Prop := e = .returned (.bool true) ∧ Below w.heap.size w w'
theorem pack_calls (number : Int) (p : ByteArray) (l : List ByteArray) (r : Int) (w : World) (hp : p.size ≤ 1000000) (h : packF number (bl p) = (l, r)) : Calls Try.prog 16 #[.int .i64 number, .string p] w fun e w' => ∃ A c, e = .returned (.tuple #[.slice A l.length c, .int .i64 r]) ∧ l.length ≤ c ∧ Kd.C Kd.string w' A l.length l ∧ Below w.heap.size w w' := by
  obtain ⟨K, hK⟩ := EvT.one (pack_ok number p hp)
  refine (block_Pack.calls K number p l r w (by rw [hK, h])).mono ?_
  rintro e w' ⟨v, rfl, hR, hb⟩
  obtain ⟨A, c, rfl, hc, hC⟩ := Kd.R_reads hR
  exact ⟨A, c, rfl, hc, hC, hb⟩
theorem blocks_calls (number : Int) (p : ByteArray) (l : List ByteArray) (r : Bool) (w : World) (hp : p.size ≤ 1000000) (h : blocksF number (bl p) = (l, r)) : Calls Try.prog 19 #[.int .i64 number, .string p] w fun e w' => ∃ A c, e = .returned (.tuple #[.slice A l.length c, .bool r]) ∧ l.length ≤ c ∧ Kd.C Kd.string w' A l.length l ∧ Below w.heap.size w w' := by
  obtain ⟨K, hK⟩ := EvT.one (blocks_ok number p hp)
  refine (soukref03_Blocks.calls K number p l r w (by rw [hK, h])).mono ?_
  rintro e w' ⟨v, rfl, hR, hb⟩
  obtain ⟨A, c, rfl, hc, hC⟩ := Kd.R_reads hR
  exact ⟨A, c, rfl, hc, hC, hb⟩
theorem unpack_calls (number : Int) (A : Option Addr) (c : Nat) (l : List ByteArray) (r1 : ByteArray) (r2 r3 : Int) (w : World) (hC : Kd.C Kd.string w A l.length l) (hc : l.length ≤ c) (hl : l.length ≤ 1000000) (h : unpackF number l = (r1, r2, r3)) : Calls Try.prog 14 #[.int .i64 number, .slice A l.length c] w fun e w' => e = .returned (.tuple #[.string r1, .int .i64 r2, .int .i64 r3]) ∧ Below w.heap.size w w' :=
  block_Unpack.calls number A c l r1 r2 r3 w hC hc (by unfold block_Unpack.f; rw [if_pos (by omega), h])
set_option maxRecDepth 100000 in
set_option maxHeartbeats 4000000 in
theorem packs_any (number : Int) (p : ByteArray) (A : Option Addr) (c : Nat) (ys : List ByteArray) (w : World) (hC : Kd.C Kd.string w A ys.length ys) (hc : ys.length ≤ c) (hn : -9223372036854775808 ≤ number ∧ number ≤ 9223372036854775807) :
    Calls Try.prog 5 #[.int .i64 number, .string p, .slice A ys.length c] w (TrueP w) := by
  have HC := hidI hC
  clear hC
  by_cases hbig : 14000 < p.size ∨ 20 < ys.length
  · go_enter Try.func5, Try.ntmps5
    go_wp2_with fail
    with_reducible refine (lives04_calls w).mono ?_
    rintro e w1 ⟨rfl, hb1⟩
    simp only []
    have HB1 := hidI hb1
    clear hb1
    rcases hbig with h | h
    · have h1 : decide (14000 < (p.size : Int)) = true := decide_eq_true (by omega)
      go_wp2_with fail
      with_reducible refine (lives04_calls w1).mono ?_
      rintro e w2 ⟨rfl, hb2⟩
      simp only []
      have hfin : Hid (TrueP w (.returned (.bool true)) w2) := hidI ⟨rfl, below_step HB1.out hb2⟩
      clear hb2
      go_wp2_with fail
      go_ret
      exact hfin.out
    · by_cases h2 : 14000 < p.size
      · have h1 : decide (14000 < (p.size : Int)) = true := decide_eq_true (by omega)
        go_wp2_with fail
        with_reducible refine (lives04_calls w1).mono ?_
        rintro e w2 ⟨rfl, hb2⟩
        simp only []
        have hfin : Hid (TrueP w (.returned (.bool true)) w2) := hidI ⟨rfl, below_step HB1.out hb2⟩
        clear hb2
        go_wp2_with fail
        go_ret
        exact hfin.out
      · have h1 : decide (14000 < (p.size : Int)) = false := decide_eq_false (by omega)
        have h3 : decide (20 < (ys.length : Int)) = true := decide_eq_true (by omega)
        go_wp2_with fail
        with_reducible refine (lives04_calls w1).mono ?_
        rintro e w2 ⟨rfl, hb2⟩
        simp only []
        have hfin : Hid (TrueP w (.returned (.bool true)) w2) := hidI ⟨rfl, below_step HB1.out hb2⟩
        clear hb2
        go_wp2_with fail
        go_ret
        exact hfin.out
  · have hps : p.size ≤ 14000 := by omega
    have hys : ys.length ≤ 20 := by omega
    have h1 : decide (14000 < (p.size : Int)) = false := decide_eq_false (by omega)
    have h3 : decide (20 < (ys.length : Int)) = false := decide_eq_false (by omega)
    clear hbig
    go_enter Try.func5, Try.ntmps5
    go_wp2_with fail
    with_reducible refine (lives04_calls w).mono ?_
    rintro e w1 ⟨rfl, hb1⟩
    simp only []
    have HB1 := hidI hb1
    clear hb1
    go_wp2_with fail
    rcases hpk : packF number (bl p) with ⟨l, r⟩
    with_reducible refine (pack_calls number p l r w1 (by omega) hpk).mono ?_
    rintro e w2 ⟨A2, c2, rfl, hc2, hC2, hb2⟩
    simp only []
    have HB2 := hidI (below_step HB1.out hb2)
    have HC2 := hidI hC2
    have HPK := hidI hpk
    clear hb2 hC2 hpk
    by_cases hr : number < 0 ∨ 4294967294 < number
    · obtain ⟨rfl, rfl⟩ : l = [] ∧ r = 1 := by
        have := HPK.out
        unfold packF at this
        rw [if_pos (by rcases hr with h | h <;> omega)] at this
        exact ⟨(congrArg Prod.fst this).symm, (congrArg Prod.snd this).symm⟩
      have hU : unpackF number [⟨#[120]⟩] = (⟨#[]⟩, 0, 1) := by
        unfold unpackF; rw [if_neg (by simp), if_pos (by omega)]
      have HU := hidI hU
      clear hU
      rcases hr with h | h
      · have g1 : decide (number < 0) = true := decide_eq_true h
        go_wp2_with fail
        have hcu : Calls Try.prog 14 #[.int .i64 number, .slice (some ⟨w2.heap.size, 0, none⟩) 1 1] (w2.alloc (.cells #[.string ⟨#[120]⟩] 9)) _ := unpack_calls number (some ⟨w2.heap.size, 0, none⟩) 1 [⟨#[120]⟩] ⟨#[]⟩ 0 1 _ (C_one w2 _) (Nat.le_refl _) (by decide) HU.out
        with_reducible refine hcu.mono ?_
        rintro e w3 ⟨rfl, hb3⟩
        have hfin : Hid (TrueP w (.returned (.bool true)) w3) := hidI ⟨rfl, below_step (below_new HB2.out _) hb3⟩
        clear hb3
        simp only []
        go_wp2_with fail
        go_ret
        exact hfin.out
      · have g1 : decide (number < 0) = false := decide_eq_false (by omega)
        have g2 : decide (4294967294 < number) = true := decide_eq_true h
        go_wp2_with fail
        have hcu : Calls Try.prog 14 #[.int .i64 number, .slice (some ⟨w2.heap.size, 0, none⟩) 1 1] (w2.alloc (.cells #[.string ⟨#[120]⟩] 9)) _ := unpack_calls number (some ⟨w2.heap.size, 0, none⟩) 1 [⟨#[120]⟩] ⟨#[]⟩ 0 1 _ (C_one w2 _) (Nat.le_refl _) (by decide) HU.out
        with_reducible refine hcu.mono ?_
        rintro e w3 ⟨rfl, hb3⟩
        have hfin : Hid (TrueP w (.returned (.bool true)) w3) := hidI ⟨rfl, below_step (below_new HB2.out _) hb3⟩
        clear hb3
        simp only []
        go_wp2_with fail
        go_ret
        exact hfin.out
    · have g1 : decide (number < 0) = false := decide_eq_false (by omega)
      have g2 : decide (4294967294 < number) = false := decide_eq_false (by omega)
      have hn0 : 0 ≤ number := by omega
      have hn1 : number < 4294967295 := by omega
      clear hr
      go_wp2_with fail
      rcases hbk : blocksF number (bl p) with ⟨wt, ok⟩
      with_reducible refine (blocks_calls number p wt ok w2 (by omega) hbk).mono ?_
      rintro e w3 ⟨A3, c3, rfl, hc3, hC3, hb3⟩
      simp only []
      have HB3 := hidI (below_step HB2.out hb3)
      have HC3 := hidI hC3
      have HC2' := hidI (Kd.C_below HC2.out hb3)
      have HBK := hidI hbk
      clear hb3 hC3 hbk
      by_cases hz : cntL (bl p).length < 1 ∨ 255 < cntL (bl p).length
      · obtain ⟨rfl, rfl⟩ : l = [] ∧ r = 1 := by
          have := HPK.out
          unfold packF at this
          rw [if_pos (by rcases hz with h | h <;> omega)] at this
          exact ⟨(congrArg Prod.fst this).symm, (congrArg Prod.snd this).symm⟩
        obtain ⟨rfl, rfl⟩ : wt = [] ∧ ok = false := by
          have := HBK.out
          unfold blocksF at this
          rw [if_pos (by rcases hz with h | h <;> omega)] at this
          exact ⟨(congrArg Prod.fst this).symm, (congrArg Prod.snd this).symm⟩
        have hfin : Hid (TrueP w (.returned (.bool true)) w3) := hidI ⟨rfl, HB3.out⟩
        clear hz
        go_wp2_with fail
        go_ret
        exact hfin.out
      · obtain ⟨n, hnn⟩ : ∃ n, n = cntL (bl p).length := ⟨_, rfl⟩
        obtain ⟨hl, rfl⟩ : l = blkR number (bl p) n 0 n ∧ r = 0 := by
          have := HPK.out
          unfold packF at this
          rw [if_neg (by omega), ← hnn] at this
          exact ⟨(congrArg Prod.fst this).symm, (congrArg Prod.snd this).symm⟩
        obtain ⟨hw, rfl⟩ : wt = blkR number (bl p) n 0 n ∧ ok = true := by
          have := HBK.out
          unfold blocksF at this
          rw [if_neg (by omega), ← hnn] at this
          exact ⟨(congrArg Prod.fst this).symm, (congrArg Prod.snd this).symm⟩
        obtain rfl : wt = l := by rw [hw, hl]
        have hln : wt.length = n := by rw [hw, blkR_len]
        have hR := packs_rec number p n hnn.symm (by omega) (by omega) ys
        have hU1 : unpackF number (wt ++ ys) = (p, (wt.length : Int), 0) := by
          rw [unpack_at hn0 hn1 (by rw [List.length_append]; omega), hln, hw]; exact unp_ok hR
        have hm : 0 ≤ (number + 1) % 4294967295 ∧ (number + 1) % 4294967295 < 4294967295 ∧ (number + 1) % 4294967295 ≠ number := by omega
        have hU2 : unpackF ((number + 1) % 4294967295) wt = (⟨#[]⟩, 0, 5) := by
          rw [unpack_at hm.1 hm.2.1 (by omega)]
          refine unp_none _ _ ?_
          have := packs_other number ((number + 1) % 4294967295) hn0 hn1 hm.1 hm.2.1 hm.2.2 (bl p) n (by omega) []
          rwa [List.append_nil, ← hw] at this
        have hU3 : unpackF number [] = (⟨#[]⟩, 0, 4) := rfl
        have HU1 := hidI hU1
        have HU2 := hidI hU2
        have HU3 := hidI hU3
        have h0 : 0 < wt.length := by omega
        have hl255 : wt.length ≤ 255 := by omega
        clear hU1 hU2 hU3 hR hl hw hln hnn hz hm
        go_wp2_with fail
        obtain ⟨wo, hwo⟩ : ∃ wo, wo = w3.alloc (.cells #[.slice A2 wt.length c2, .slice A ys.length c] 22) := ⟨_, rfl⟩
        have hq0 : wo.cell? ⟨w3.heap.size, 0, none⟩ = some (.slice A2 wt.length c2) := by rw [hwo]; exact (two_cells w3 _ _ 22).1
        have hq1 : wo.cell? ⟨w3.heap.size, 0 + 1, none⟩ = some (.slice A ys.length c) := by rw [hwo]; exact (two_cells w3 _ _ 22).2
        have hbo : Below w3.heap.size w3 wo := by rw [hwo]; exact below_new (Below.refl _ _) _
        have hcat := cat_any w3.heap.size 0 A2 A c2 c 2 wt ys wo hq0 hq1 (Kd.C_below HC2'.out hbo) (Kd.C_below HC.out (below_step HB3.out hbo)) (by omega) h0
        rw [← hwo]
        have HB4 := hidI (below_step HB3.out hbo)
        have HC24 := hidI (Kd.C_below HC2'.out hbo)
        have HC34 := hidI (Kd.C_below HC3.out hbo)
        clear hwo hq0 hq1 hbo
        with_reducible refine hcat.mono ?_
        rintro e w5 ⟨v, rfl, hO5, hb5⟩
        obtain ⟨A5, c5, rfl, hc5, hC5⟩ := hO5.reads
        have HB5 := hidI (below_step HB4.out hb5)
        have HC25 := hidI (Kd.C_below HC24.out hb5)
        have HC35 := hidI (Kd.C_below HC34.out hb5)
        clear hcat hO5 hb5
        simp only []
        go_wp2_with fail
        have hu5 := unpack_calls number A5 c5 (wt ++ ys) p (wt.length : Int) 0 w5 hC5 hc5 (by rw [List.length_append]; omega) HU1.out
        rw [List.length_append] at hu5
        with_reducible refine hu5.mono ?_
        clear hu5
        rintro e w6 ⟨rfl, hb6⟩
        have HB6 := hidI (below_step HB5.out hb6)
        have HC26 := hidI (Kd.C_below HC25.out hb6)
        have HC36 := hidI (Kd.C_below HC35.out hb6)
        clear hb6 hC5
        simp only []
        go_wp2_with fail
        with_reducible refine (unpack_calls ((number + 1) % 4294967295) A2 c2 wt ⟨#[]⟩ 0 5 w6 HC26.out hc2 (by omega) HU2.out).mono ?_
        rintro e w7 ⟨rfl, hb7⟩
        have HB7 := hidI (below_step HB6.out hb7)
        have HC27 := hidI (Kd.C_below HC26.out hb7)
        have HC37 := hidI (Kd.C_below HC36.out hb7)
        clear hb7
        simp only []
        go_wp2_with fail
        have hcn : Calls Try.prog 14 #[.int .i64 number, .slice none 0 0] w7 _ := unpack_calls number none 0 [] ⟨#[]⟩ 0 4 w7 ⟨rfl, by simp, fun h => absurd h (by simp)⟩ (Nat.le_refl _) (by simp) HU3.out
        with_reducible refine hcn.mono ?_
        rintro e w8 ⟨rfl, hb8⟩
        have HB8 := hidI (below_step HB7.out hb8)
        have HC28 := hidI (Kd.C_below HC27.out hb8)
        have HC38 := hidI (Kd.C_below HC37.out hb8)
        clear hb8 hcn
        simp only []
        go_wp2_with fail
        obtain ⟨K, hK⟩ := eqs_ok wt (by omega)
        with_reducible refine (slices_Equal_string_string.calls K A2 c2 wt A3 c3 wt true w8 HC28.out hc2 HC38.out hc3 hK).mono ?_
        rintro e w9 ⟨rfl, hd9⟩
        obtain ⟨m9, rfl⟩ := hd9
        have hfin : Hid (TrueP w (.returned (.bool true)) (w8.drewN m9)) := hidI ⟨rfl, below_drewN HB8.out m9⟩
        clear hK
        simp only []
        go_wp2_with fail
        go_ret
        exact hfin.out
theorem walk5 (number : Int) (p : ByteArray) (ad : Option Addr) (xs : List ByteArray) (cap : Nat) (w : World) (ha : (Lit.int .i64 number).wf = true) (hp : p.size ≤ 140737488351232) (h : Go.Proofs.Rk.RdSl w (Go.Proofs.Rk.Kn.str Try.underlying9).cells (Go.Proofs.Rk.Kn.str Try.underlying9).ok 1 ad xs cap) (hs : xs.length * 16 ≤ 140737488351232) :
    Calls Try.prog 5 #[.int .i64 number, .string p, .slice ad xs.length cap] w fun e w' => e = .returned (.bool true) ∧ Below w.heap.size w w' :=
  packs_any number p ad cap xs w (C_strs_of h) (Kp.cap_of_rd h) (bounds_i64 ha)
end Go.Proofs.Ytckfkbmefdmedaa
