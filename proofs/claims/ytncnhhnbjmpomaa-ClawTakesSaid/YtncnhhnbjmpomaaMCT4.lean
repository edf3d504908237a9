/- What the statement leans on, part 4: functions of the program and of the reference as Lean functions, their contracts, and plain laws. -/
import Derived.Laws.StructEq
import Derived.Shelf.SlGeneric
import Derived.Shelf.SlSortCmp.InsertionK
import Derived.Ground.SlsfProg
import Derived.Test.YtncnhhnbjmpomaaMCT3
namespace Go.Proofs.Ytncnhhnbjmpomaa.Q
open Go.RowKit Go.Proofs.YtncnhhnbjmpomaaW.PrintWords Go.Proofs.YtncnhhnbjmpomaaW.PrintLast Go.Proofs.YtncnhhnbjmpomaaW.PrintMore
attribute [local go_sem] max2_int min2_int max_two min_two max_three min_three max_four min_four   -- for this text's walks alone
set_option linter.unusedVariables false
set_option linter.unusedSimpArgs false
def soukref01_minus.l0 : Nat → List Bool → List Bool → List Bool → Bool → Int → Option (List Bool)
 | 0, _, _, _, _, _ => none
 | k + 1, x0, x1, x5, x6, x7 => if x7 < (x0.length : Int) then ((soukref01_Wide_at.f x0 x7).bind fun t207 => ((soukref01_Wide_at.f x1 x7).bind fun t208 => (if t207 = true then (if t208 = true then (if x6 = true then (if x5.length < 140737488355328 then (soukref01_minus.l0 k x0 x1 (x5 ++ [true]) x6 (wrap64 (x7 + 1))) else (none)) else (if x5.length < 140737488355328 then (soukref01_minus.l0 k x0 x1 (x5 ++ [false]) x6 (wrap64 (x7 + 1))) else (none))) else (if x6 = true then (if x5.length < 140737488355328 then (soukref01_minus.l0 k x0 x1 (x5 ++ [false]) false (wrap64 (x7 + 1))) else (none)) else (if x5.length < 140737488355328 then (soukref01_minus.l0 k x0 x1 (x5 ++ [true]) false (wrap64 (x7 + 1))) else (none)))) else (if t208 = true then (if x6 = true then (if x5.length < 140737488355328 then (soukref01_minus.l0 k x0 x1 (x5 ++ [false]) true (wrap64 (x7 + 1))) else (none)) else (if x5.length < 140737488355328 then (soukref01_minus.l0 k x0 x1 (x5 ++ [true]) true (wrap64 (x7 + 1))) else (none))) else (if x6 = true then (if x5.length < 140737488355328 then (soukref01_minus.l0 k x0 x1 (x5 ++ [true]) true (wrap64 (x7 + 1))) else (none)) else (if x5.length < 140737488355328 then (soukref01_minus.l0 k x0 x1 (x5 ++ [false]) false (wrap64 (x7 + 1))) else (none))))))) else ((soukref01_trim.f k x5).bind fun t233 => (some t233))
def soukref01_minus.f (k : Nat) (l0 : List Bool) (l1 : List Bool) : Option (List Bool) := soukref01_minus.l0 k l0 l1 ([] : List Bool) false 0
set_option maxHeartbeats 8000000 in
set_option maxRecDepth 100000 in
theorem soukref01_minus.calls (k : Nat) (A0 : Option Addr) (c0 : Nat) (l0 : List Bool) (A1 : Option Addr) (c1 : Nat) (l1 : List Bool) (r : List Bool) (w : World) (hr0 : Kd.C Kd.bool w A0 l0.length l0) (hc0 : l0.length ≤ c0) (hr1 : Kd.C Kd.bool w A1 l1.length l1) (hc1 : l1.length ≤ c1) (h : soukref01_minus.f k l0 l1 = some r) :
  Calls Try.prog 65 #[.slice A0 l0.length c0, .slice A1 l1.length c1] w fun e w' => ∃ v0_ : Value, e = .returned (v0_) ∧ Kd.R Kd.bool 4 w' w.heap.size (fun _ => True) v0_ r ∧ Below w.heap.size w w' := by
 have HR0 := Aside0.mk hr0
 have HC0 := Aside0.mk hc0
 clear hr0 hc0
 have HR1 := Aside0.mk hr1
 have HC1 := Aside0.mk hc1
 clear hr1 hc1
 have HB := Aside0.mk (Below.refl w.heap.size w)
 have H : (soukref01_minus.l0 k l0 l1 ([] : List Bool) false 0) = some r := h
 clear h
 have H' := Aside0.mk H
 clear H
 go_enter Try.func65, Try.ntmps65
 go_wp2
 go_loopg [5, 6, 7] k (fun kq v5 v6 v7 w' => ∃ (x5_1 : List Bool) (x6_1 : Bool) (x7_1 : Int), v6 = .bool x6_1 ∧ v7 = .int .i64 x7_1 ∧ Aside0 (soukref01_minus.l0 kq l0 l1 x5_1 x6_1 x7_1 = some r) ∧ Aside0 (kq ≤ k) ∧ Aside0 (Kd.R Kd.bool 4 w' w.heap.size (fun _ => True) v5 x5_1) ∧ Aside0 (Below w.heap.size w w'))
 case atStart => exact ⟨(([] : List Bool)), (false), (0), (by first | rfl | (simp; done) | (simp [*]; done)), (by first | rfl | (simp; done) | (simp [*]; done)), H', ⟨Nat.le_refl _⟩, ⟨by first | exact Kd.R_nil _ _ _ _ _ | exact Kd.N_nil _ _ _ _ _ | exact Kd.V_nil _ _ _ _ _ | exact Kd.Q_nil _ _ _ _ _ | exact Kd.S_nil _ _ _ _ _⟩, ⟨by repeat (first | (with_reducible first | exact HB.out | apply below_alloc | apply pw_below_drewN | apply below_drew1) | exact HB.out)⟩⟩
 case round =>
  clear H'
  try clear c1
  try clear p2
  obtain ⟨x5_1, x6_1, x7_1, rfl, rfl, HA, HK1, HO_5, HB⟩ := hrel
  cases gk with
  | zero => exact absurd HA.out (by simp [soukref01_minus.l0])
  | succ k1 =>
   have H := HA.out
   clear HA
   simp only [soukref01_minus.l0] at H
   by_cases c3 : x7_1 < (l0.length : Int)
   ·rw [if_pos c3] at H
    have c3b0 : decide (x7_1 < (l0.length : Int)) = true := decide_eq_true c3
    clear c3
    replace H := Option.bind_eq_some_iff.mp H
    obtain ⟨t207, A40, H⟩ := H
    replace H : ((soukref01_Wide_at.f l1 x7_1).bind fun t208 => (if t207 = true then (if t208 = true then (if x6_1 = true then (if x5_1.length < 140737488355328 then (soukref01_minus.l0 k1 l0 l1 (x5_1 ++ [true]) x6_1 (wrap64 (x7_1 + 1))) else (none)) else (if x5_1.length < 140737488355328 then (soukref01_minus.l0 k1 l0 l1 (x5_1 ++ [false]) x6_1 (wrap64 (x7_1 + 1))) else (none))) else (if x6_1 = true then (if x5_1.length < 140737488355328 then (soukref01_minus.l0 k1 l0 l1 (x5_1 ++ [false]) false (wrap64 (x7_1 + 1))) else (none)) else (if x5_1.length < 140737488355328 then (soukref01_minus.l0 k1 l0 l1 (x5_1 ++ [true]) false (wrap64 (x7_1 + 1))) else (none)))) else (if t208 = true then (if x6_1 = true then (if x5_1.length < 140737488355328 then (soukref01_minus.l0 k1 l0 l1 (x5_1 ++ [false]) true (wrap64 (x7_1 + 1))) else (none)) else (if x5_1.length < 140737488355328 then (soukref01_minus.l0 k1 l0 l1 (x5_1 ++ [true]) true (wrap64 (x7_1 + 1))) else (none))) else (if x6_1 = true then (if x5_1.length < 140737488355328 then (soukref01_minus.l0 k1 l0 l1 (x5_1 ++ [true]) true (wrap64 (x7_1 + 1))) else (none)) else (if x5_1.length < 140737488355328 then (soukref01_minus.l0 k1 l0 l1 (x5_1 ++ [false]) false (wrap64 (x7_1 + 1))) else (none)))))) = some r := H
    have A4 := Aside0.mk A40
    clear A40
    replace H := Option.bind_eq_some_iff.mp H
    obtain ⟨t208, A50, H⟩ := H
    replace H : (if t207 = true then (if t208 = true then (if x6_1 = true then (if x5_1.length < 140737488355328 then (soukref01_minus.l0 k1 l0 l1 (x5_1 ++ [true]) x6_1 (wrap64 (x7_1 + 1))) else (none)) else (if x5_1.length < 140737488355328 then (soukref01_minus.l0 k1 l0 l1 (x5_1 ++ [false]) x6_1 (wrap64 (x7_1 + 1))) else (none))) else (if x6_1 = true then (if x5_1.length < 140737488355328 then (soukref01_minus.l0 k1 l0 l1 (x5_1 ++ [false]) false (wrap64 (x7_1 + 1))) else (none)) else (if x5_1.length < 140737488355328 then (soukref01_minus.l0 k1 l0 l1 (x5_1 ++ [true]) false (wrap64 (x7_1 + 1))) else (none)))) else (if t208 = true then (if x6_1 = true then (if x5_1.length < 140737488355328 then (soukref01_minus.l0 k1 l0 l1 (x5_1 ++ [false]) true (wrap64 (x7_1 + 1))) else (none)) else (if x5_1.length < 140737488355328 then (soukref01_minus.l0 k1 l0 l1 (x5_1 ++ [true]) true (wrap64 (x7_1 + 1))) else (none))) else (if x6_1 = true then (if x5_1.length < 140737488355328 then (soukref01_minus.l0 k1 l0 l1 (x5_1 ++ [true]) true (wrap64 (x7_1 + 1))) else (none)) else (if x5_1.length < 140737488355328 then (soukref01_minus.l0 k1 l0 l1 (x5_1 ++ [false]) false (wrap64 (x7_1 + 1))) else (none))))) = some r := H
    have A5 := Aside0.mk A50
    clear A50
    by_cases c6 : t207 = true
    ·subst c6
     have H1 : (if t208 = true then (if x6_1 = true then (if x5_1.length < 140737488355328 then (soukref01_minus.l0 k1 l0 l1 (x5_1 ++ [true]) x6_1 (wrap64 (x7_1 + 1))) else (none)) else (if x5_1.length < 140737488355328 then (soukref01_minus.l0 k1 l0 l1 (x5_1 ++ [false]) x6_1 (wrap64 (x7_1 + 1))) else (none))) else (if x6_1 = true then (if x5_1.length < 140737488355328 then (soukref01_minus.l0 k1 l0 l1 (x5_1 ++ [false]) false (wrap64 (x7_1 + 1))) else (none)) else (if x5_1.length < 140737488355328 then (soukref01_minus.l0 k1 l0 l1 (x5_1 ++ [true]) false (wrap64 (x7_1 + 1))) else (none)))) = some r := by rw [if_pos rfl] at H; exact H
     clear H
     have H := H1
     clear H1
     by_cases c7 : t208 = true
     ·subst c7
      have H1 : (if x6_1 = true then (if x5_1.length < 140737488355328 then (soukref01_minus.l0 k1 l0 l1 (x5_1 ++ [true]) x6_1 (wrap64 (x7_1 + 1))) else (none)) else (if x5_1.length < 140737488355328 then (soukref01_minus.l0 k1 l0 l1 (x5_1 ++ [false]) x6_1 (wrap64 (x7_1 + 1))) else (none))) = some r := by rw [if_pos rfl] at H; exact H
      clear H
      have H := H1
      clear H1
      by_cases c8 : x6_1 = true
      ·subst c8
       have H1 : (if x5_1.length < 140737488355328 then (soukref01_minus.l0 k1 l0 l1 (x5_1 ++ [true]) true (wrap64 (x7_1 + 1))) else (none)) = some r := by rw [if_pos rfl] at H; exact H
       clear H
       have H := H1
       clear H1
       by_cases c9 : x5_1.length < 140737488355328
       ·rw [if_pos c9] at H
        have LMc9 := Aside0.mk c9
        clear c9
        obtain ⟨y209, hy209⟩ : ∃ y_ : List Bool, y_ = (x5_1 ++ [true]) := ⟨_, rfl⟩
        replace H : (soukref01_minus.l0 k1 l0 l1 y209 true (wrap64 (x7_1 + 1))) = some r := by first | (rw [hy209]; with_reducible exact H) | (have H2_ := (Option.bind_some _ _).symm.trans H; rw [hy209]; with_reducible exact H2_) | (have H2_ := (Option.bind_some _ _).symm.trans H; with_reducible exact H2_) | with_reducible exact H | (rw [hy209]; exact H) | exact H
        have Ny209 := Aside0.mk hy209
        clear hy209
        have H' := Aside0.mk H
        clear H
        go_wp2_with (first | ((with_reducible refine gate_callee (f := 48) rfl ?_); refine goesL_ (some 18) rfl rfl Try.func48 (by kernel_rfl) rfl #[.slice A0 l0.length c0, .int .i64 x7_1] rfl (by (try simp only [List.map_toArray, List.map_cons, List.map_nil]); first | done | rfl | (simp only [List.length_drop, List.length_take]; rfl)) ?_; (with_reducible refine (soukref01_Wide_at.calls _ _ l0 x7_1 true _ ?side1 ?side2 A4.out).mono ?_); (case side1 => repeat (first | exact (Kd.C_below HR0.out HB.out) | (with_reducible refine Kd.C_alloc ?_ _) | (with_reducible refine Kd.C_drewN ?_ _) | (with_reducible refine Kd.C_drew ?_))); (case side2 => exact HC0.out); rintro e w' ⟨rfl, ⟨nd, rfl⟩⟩; refine ⟨_, rfl, ?_⟩) | ((with_reducible refine gate_callee (f := 48) rfl ?_); refine goesL_ (some 21) rfl rfl Try.func48 (by kernel_rfl) rfl #[.slice A1 l1.length c1, .int .i64 x7_1] rfl (by (try simp only [List.map_toArray, List.map_cons, List.map_nil]); first | done | rfl | (simp only [List.length_drop, List.length_take]; rfl)) ?_; (with_reducible refine (soukref01_Wide_at.calls _ _ l1 x7_1 true _ ?side1 ?side2 A5.out).mono ?_); (case side1 => repeat (first | exact (Kd.C_below HR1.out (by repeat (first | (with_reducible first | exact HB.out | apply below_alloc | apply pw_below_drewN | apply below_drew1) | exact HB.out))) | (with_reducible refine Kd.C_alloc ?_ _) | (with_reducible refine Kd.C_drewN ?_ _) | (with_reducible refine Kd.C_drew ?_))); (case side2 => exact HC1.out); rintro e w' ⟨rfl, ⟨nd, rfl⟩⟩; refine ⟨_, rfl, ?_⟩) | ((with_reducible refine gate_builtin (b := .append) (xs := #[.tmp 22, .tmp 28]) rfl ?_); at_builtin; refine Kd.R_append Kd.bool (w0 := w) w.heap.size rfl (.tmp 22) (.tmp 28) 87 4 (.bool false) 1 rfl Try.underlying87 info4 rfl (by decide) (by omega) u5 x5_1 true [.bool true] (fun _ => True) (fun _ => False) rfl rfl ?aP (fun _ hk => hk.elim) ?aF ?aO ?aB ?aS ?aL ?_; (case aP => exact rfl); (case aB => exact (by repeat (first | (with_reducible first | exact HB.out | apply below_alloc | apply pw_below_drewN | apply below_drew1) | exact HB.out))); (case aF => exact (fun _ _ => trivial)); (case aO => exact (by (with_reducible repeat (first | apply Kd.R_alloc | apply Kd.R_drewN | apply Kd.R_drew)); exact HO_5.out)); (case aS => exact (below_size (by repeat (first | (with_reducible first | exact HB.out | apply below_alloc | apply pw_below_drewN | apply below_drew1) | exact HB.out)))); (case aL => have := LMc9.out; omega); intro v210 w10 ho hb hg hat; rw [← Ny209.out] at ho; have n0_ := Aside0.mk (hb); have n1_ := Aside0.mk (ho); clear HB; clear HO_5; have HB := n0_; have HO211 := n1_; clear n0_ n1_; clear ho hb hg hat))
        go_roundg k1
        case measure => have := HK1.out; omega
        case rel => exact ⟨(y209), (true), (wrap64 (x7_1 + 1)), (by first | rfl | (simp; done) | (simp [*]; done)), (by first | rfl | (simp; done) | (simp [*]; done)), H', ⟨by have := HK1.out; omega⟩, ⟨by (with_reducible repeat (first | apply Kd.R_alloc | apply Kd.R_drewN | apply Kd.R_drew)); exact HO211.out⟩, ⟨by repeat (first | (with_reducible first | exact HB.out | apply below_alloc | apply pw_below_drewN | apply below_drew1) | exact HB.out)⟩⟩
       ·rw [if_neg c9] at H
        exact absurd H (by simp)
      ·replace c8 := Bool.eq_false_iff.mpr c8
       subst c8
       have H1 : (if x5_1.length < 140737488355328 then (soukref01_minus.l0 k1 l0 l1 (x5_1 ++ [false]) false (wrap64 (x7_1 + 1))) else (none)) = some r := by rw [if_neg (show ¬ (false = true) by decide)] at H; exact H
       clear H
       have H := H1
       clear H1
       by_cases c11 : x5_1.length < 140737488355328
       ·rw [if_pos c11] at H
        have LMc11 := Aside0.mk c11
        clear c11
        obtain ⟨y212, hy212⟩ : ∃ y_ : List Bool, y_ = (x5_1 ++ [false]) := ⟨_, rfl⟩
        replace H : (soukref01_minus.l0 k1 l0 l1 y212 false (wrap64 (x7_1 + 1))) = some r := by first | (rw [hy212]; with_reducible exact H) | (have H2_ := (Option.bind_some _ _).symm.trans H; rw [hy212]; with_reducible exact H2_) | (have H2_ := (Option.bind_some _ _).symm.trans H; with_reducible exact H2_) | with_reducible exact H | (rw [hy212]; exact H) | exact H
        have Ny212 := Aside0.mk hy212
        clear hy212
        have H' := Aside0.mk H
        clear H
        go_wp2_with (first | ((with_reducible refine gate_callee (f := 48) rfl ?_); refine goesL_ (some 18) rfl rfl Try.func48 (by kernel_rfl) rfl #[.slice A0 l0.length c0, .int .i64 x7_1] rfl (by (try simp only [List.map_toArray, List.map_cons, List.map_nil]); first | done | rfl | (simp only [List.length_drop, List.length_take]; rfl)) ?_; (with_reducible refine (soukref01_Wide_at.calls _ _ l0 x7_1 true _ ?side1 ?side2 A4.out).mono ?_); (case side1 => repeat (first | exact (Kd.C_below HR0.out HB.out) | (with_reducible refine Kd.C_alloc ?_ _) | (with_reducible refine Kd.C_drewN ?_ _) | (with_reducible refine Kd.C_drew ?_))); (case side2 => exact HC0.out); rintro e w' ⟨rfl, ⟨nd, rfl⟩⟩; refine ⟨_, rfl, ?_⟩) | ((with_reducible refine gate_callee (f := 48) rfl ?_); refine goesL_ (some 21) rfl rfl Try.func48 (by kernel_rfl) rfl #[.slice A1 l1.length c1, .int .i64 x7_1] rfl (by (try simp only [List.map_toArray, List.map_cons, List.map_nil]); first | done | rfl | (simp only [List.length_drop, List.length_take]; rfl)) ?_; (with_reducible refine (soukref01_Wide_at.calls _ _ l1 x7_1 true _ ?side1 ?side2 A5.out).mono ?_); (case side1 => repeat (first | exact (Kd.C_below HR1.out (by repeat (first | (with_reducible first | exact HB.out | apply below_alloc | apply pw_below_drewN | apply below_drew1) | exact HB.out))) | (with_reducible refine Kd.C_alloc ?_ _) | (with_reducible refine Kd.C_drewN ?_ _) | (with_reducible refine Kd.C_drew ?_))); (case side2 => exact HC1.out); rintro e w' ⟨rfl, ⟨nd, rfl⟩⟩; refine ⟨_, rfl, ?_⟩) | ((with_reducible refine gate_builtin (b := .append) (xs := #[.tmp 22, .tmp 28]) rfl ?_); at_builtin; refine Kd.R_append Kd.bool (w0 := w) w.heap.size rfl (.tmp 22) (.tmp 28) 87 4 (.bool false) 1 rfl Try.underlying87 info4 rfl (by decide) (by omega) u5 x5_1 false [.bool false] (fun _ => True) (fun _ => False) rfl rfl ?aP (fun _ hk => hk.elim) ?aF ?aO ?aB ?aS ?aL ?_; (case aP => exact rfl); (case aB => exact (by repeat (first | (with_reducible first | exact HB.out | apply below_alloc | apply pw_below_drewN | apply below_drew1) | exact HB.out))); (case aF => exact (fun _ _ => trivial)); (case aO => exact (by (with_reducible repeat (first | apply Kd.R_alloc | apply Kd.R_drewN | apply Kd.R_drew)); exact HO_5.out)); (case aS => exact (below_size (by repeat (first | (with_reducible first | exact HB.out | apply below_alloc | apply pw_below_drewN | apply below_drew1) | exact HB.out)))); (case aL => have := LMc11.out; omega); intro v213 w12 ho hb hg hat; rw [← Ny212.out] at ho; have n0_ := Aside0.mk (hb); have n1_ := Aside0.mk (ho); clear HB; clear HO_5; have HB := n0_; have HO214 := n1_; clear n0_ n1_; clear ho hb hg hat))
        go_roundg k1
        case measure => have := HK1.out; omega
        case rel => exact ⟨(y212), (false), (wrap64 (x7_1 + 1)), (by first | rfl | (simp; done) | (simp [*]; done)), (by first | rfl | (simp; done) | (simp [*]; done)), H', ⟨by have := HK1.out; omega⟩, ⟨by (with_reducible repeat (first | apply Kd.R_alloc | apply Kd.R_drewN | apply Kd.R_drew)); exact HO214.out⟩, ⟨by repeat (first | (with_reducible first | exact HB.out | apply below_alloc | apply pw_below_drewN | apply below_drew1) | exact HB.out)⟩⟩
       ·rw [if_neg c11] at H
        exact absurd H (by simp)
     ·replace c7 := Bool.eq_false_iff.mpr c7
      subst c7
      have H1 : (if x6_1 = true then (if x5_1.length < 140737488355328 then (soukref01_minus.l0 k1 l0 l1 (x5_1 ++ [false]) false (wrap64 (x7_1 + 1))) else (none)) else (if x5_1.length < 140737488355328 then (soukref01_minus.l0 k1 l0 l1 (x5_1 ++ [true]) false (wrap64 (x7_1 + 1))) else (none))) = some r := by rw [if_neg (show ¬ (false = true) by decide)] at H; exact H
      clear H
      have H := H1
      clear H1
      by_cases c13 : x6_1 = true
      ·subst c13
       have H1 : (if x5_1.length < 140737488355328 then (soukref01_minus.l0 k1 l0 l1 (x5_1 ++ [false]) false (wrap64 (x7_1 + 1))) else (none)) = some r := by rw [if_pos rfl] at H; exact H
       clear H
       have H := H1
       clear H1
       by_cases c14 : x5_1.length < 140737488355328
       ·rw [if_pos c14] at H
        have LMc14 := Aside0.mk c14
        clear c14
        obtain ⟨y215, hy215⟩ : ∃ y_ : List Bool, y_ = (x5_1 ++ [false]) := ⟨_, rfl⟩
        replace H : (soukref01_minus.l0 k1 l0 l1 y215 false (wrap64 (x7_1 + 1))) = some r := by first | (rw [hy215]; with_reducible exact H) | (have H2_ := (Option.bind_some _ _).symm.trans H; rw [hy215]; with_reducible exact H2_) | (have H2_ := (Option.bind_some _ _).symm.trans H; with_reducible exact H2_) | with_reducible exact H | (rw [hy215]; exact H) | exact H
        have Ny215 := Aside0.mk hy215
        clear hy215
        have H' := Aside0.mk H
        clear H
        go_wp2_with (first | ((with_reducible refine gate_callee (f := 48) rfl ?_); refine goesL_ (some 18) rfl rfl Try.func48 (by kernel_rfl) rfl #[.slice A0 l0.length c0, .int .i64 x7_1] rfl (by (try simp only [List.map_toArray, List.map_cons, List.map_nil]); first | done | rfl | (simp only [List.length_drop, List.length_take]; rfl)) ?_; (with_reducible refine (soukref01_Wide_at.calls _ _ l0 x7_1 true _ ?side1 ?side2 A4.out).mono ?_); (case side1 => repeat (first | exact (Kd.C_below HR0.out HB.out) | (with_reducible refine Kd.C_alloc ?_ _) | (with_reducible refine Kd.C_drewN ?_ _) | (with_reducible refine Kd.C_drew ?_))); (case side2 => exact HC0.out); rintro e w' ⟨rfl, ⟨nd, rfl⟩⟩; refine ⟨_, rfl, ?_⟩) | ((with_reducible refine gate_callee (f := 48) rfl ?_); refine goesL_ (some 21) rfl rfl Try.func48 (by kernel_rfl) rfl #[.slice A1 l1.length c1, .int .i64 x7_1] rfl (by (try simp only [List.map_toArray, List.map_cons, List.map_nil]); first | done | rfl | (simp only [List.length_drop, List.length_take]; rfl)) ?_; (with_reducible refine (soukref01_Wide_at.calls _ _ l1 x7_1 false _ ?side1 ?side2 A5.out).mono ?_); (case side1 => repeat (first | exact (Kd.C_below HR1.out (by repeat (first | (with_reducible first | exact HB.out | apply below_alloc | apply pw_below_drewN | apply below_drew1) | exact HB.out))) | (with_reducible refine Kd.C_alloc ?_ _) | (with_reducible refine Kd.C_drewN ?_ _) | (with_reducible refine Kd.C_drew ?_))); (case side2 => exact HC1.out); rintro e w' ⟨rfl, ⟨nd, rfl⟩⟩; refine ⟨_, rfl, ?_⟩) | ((with_reducible refine gate_builtin (b := .append) (xs := #[.tmp 22, .tmp 28]) rfl ?_); at_builtin; refine Kd.R_append Kd.bool (w0 := w) w.heap.size rfl (.tmp 22) (.tmp 28) 87 4 (.bool false) 1 rfl Try.underlying87 info4 rfl (by decide) (by omega) u5 x5_1 false [.bool false] (fun _ => True) (fun _ => False) rfl rfl ?aP (fun _ hk => hk.elim) ?aF ?aO ?aB ?aS ?aL ?_; (case aP => exact rfl); (case aB => exact (by repeat (first | (with_reducible first | exact HB.out | apply below_alloc | apply pw_below_drewN | apply below_drew1) | exact HB.out))); (case aF => exact (fun _ _ => trivial)); (case aO => exact (by (with_reducible repeat (first | apply Kd.R_alloc | apply Kd.R_drewN | apply Kd.R_drew)); exact HO_5.out)); (case aS => exact (below_size (by repeat (first | (with_reducible first | exact HB.out | apply below_alloc | apply pw_below_drewN | apply below_drew1) | exact HB.out)))); (case aL => have := LMc14.out; omega); intro v216 w15 ho hb hg hat; rw [← Ny215.out] at ho; have n0_ := Aside0.mk (hb); have n1_ := Aside0.mk (ho); clear HB; clear HO_5; have HB := n0_; have HO217 := n1_; clear n0_ n1_; clear ho hb hg hat))
        go_roundg k1
        case measure => have := HK1.out; omega
        case rel => exact ⟨(y215), (false), (wrap64 (x7_1 + 1)), (by first | rfl | (simp; done) | (simp [*]; done)), (by first | rfl | (simp; done) | (simp [*]; done)), H', ⟨by have := HK1.out; omega⟩, ⟨by (with_reducible repeat (first | apply Kd.R_alloc | apply Kd.R_drewN | apply Kd.R_drew)); exact HO217.out⟩, ⟨by repeat (first | (with_reducible first | exact HB.out | apply below_alloc | apply pw_below_drewN | apply below_drew1) | exact HB.out)⟩⟩
       ·rw [if_neg c14] at H
        exact absurd H (by simp)
      ·replace c13 := Bool.eq_false_iff.mpr c13
       subst c13
       have H1 : (if x5_1.length < 140737488355328 then (soukref01_minus.l0 k1 l0 l1 (x5_1 ++ [true]) false (wrap64 (x7_1 + 1))) else (none)) = some r := by rw [if_neg (show ¬ (false = true) by decide)] at H; exact H
       clear H
       have H := H1
       clear H1
       by_cases c16 : x5_1.length < 140737488355328
       ·rw [if_pos c16] at H
        have LMc16 := Aside0.mk c16
        clear c16
        obtain ⟨y218, hy218⟩ : ∃ y_ : List Bool, y_ = (x5_1 ++ [true]) := ⟨_, rfl⟩
        replace H : (soukref01_minus.l0 k1 l0 l1 y218 false (wrap64 (x7_1 + 1))) = some r := by first | (rw [hy218]; with_reducible exact H) | (have H2_ := (Option.bind_some _ _).symm.trans H; rw [hy218]; with_reducible exact H2_) | (have H2_ := (Option.bind_some _ _).symm.trans H; with_reducible exact H2_) | with_reducible exact H | (rw [hy218]; exact H) | exact H
        have Ny218 := Aside0.mk hy218
        clear hy218
        have H' := Aside0.mk H
        clear H
        go_wp2_with (first | ((with_reducible refine gate_callee (f := 48) rfl ?_); refine goesL_ (some 18) rfl rfl Try.func48 (by kernel_rfl) rfl #[.slice A0 l0.length c0, .int .i64 x7_1] rfl (by (try simp only [List.map_toArray, List.map_cons, List.map_nil]); first | done | rfl | (simp only [List.length_drop, List.length_take]; rfl)) ?_; (with_reducible refine (soukref01_Wide_at.calls _ _ l0 x7_1 true _ ?side1 ?side2 A4.out).mono ?_); (case side1 => repeat (first | exact (Kd.C_below HR0.out HB.out) | (with_reducible refine Kd.C_alloc ?_ _) | (with_reducible refine Kd.C_drewN ?_ _) | (with_reducible refine Kd.C_drew ?_))); (case side2 => exact HC0.out); rintro e w' ⟨rfl, ⟨nd, rfl⟩⟩; refine ⟨_, rfl, ?_⟩) | ((with_reducible refine gate_callee (f := 48) rfl ?_); refine goesL_ (some 21) rfl rfl Try.func48 (by kernel_rfl) rfl #[.slice A1 l1.length c1, .int .i64 x7_1] rfl (by (try simp only [List.map_toArray, List.map_cons, List.map_nil]); first | done | rfl | (simp only [List.length_drop, List.length_take]; rfl)) ?_; (with_reducible refine (soukref01_Wide_at.calls _ _ l1 x7_1 false _ ?side1 ?side2 A5.out).mono ?_); (case side1 => repeat (first | exact (Kd.C_below HR1.out (by repeat (first | (with_reducible first | exact HB.out | apply below_alloc | apply pw_below_drewN | apply below_drew1) | exact HB.out))) | (with_reducible refine Kd.C_alloc ?_ _) | (with_reducible refine Kd.C_drewN ?_ _) | (with_reducible refine Kd.C_drew ?_))); (case side2 => exact HC1.out); rintro e w' ⟨rfl, ⟨nd, rfl⟩⟩; refine ⟨_, rfl, ?_⟩) | ((with_reducible refine gate_builtin (b := .append) (xs := #[.tmp 22, .tmp 28]) rfl ?_); at_builtin; refine Kd.R_append Kd.bool (w0 := w) w.heap.size rfl (.tmp 22) (.tmp 28) 87 4 (.bool false) 1 rfl Try.underlying87 info4 rfl (by decide) (by omega) u5 x5_1 true [.bool true] (fun _ => True) (fun _ => False) rfl rfl ?aP (fun _ hk => hk.elim) ?aF ?aO ?aB ?aS ?aL ?_; (case aP => exact rfl); (case aB => exact (by repeat (first | (with_reducible first | exact HB.out | apply below_alloc | apply pw_below_drewN | apply below_drew1) | exact HB.out))); (case aF => exact (fun _ _ => trivial)); (case aO => exact (by (with_reducible repeat (first | apply Kd.R_alloc | apply Kd.R_drewN | apply Kd.R_drew)); exact HO_5.out)); (case aS => exact (below_size (by repeat (first | (with_reducible first | exact HB.out | apply below_alloc | apply pw_below_drewN | apply below_drew1) | exact HB.out)))); (case aL => have := LMc16.out; omega); intro v219 w17 ho hb hg hat; rw [← Ny218.out] at ho; have n0_ := Aside0.mk (hb); have n1_ := Aside0.mk (ho); clear HB; clear HO_5; have HB := n0_; have HO220 := n1_; clear n0_ n1_; clear ho hb hg hat))
        go_roundg k1
        case measure => have := HK1.out; omega
        case rel => exact ⟨(y218), (false), (wrap64 (x7_1 + 1)), (by first | rfl | (simp; done) | (simp [*]; done)), (by first | rfl | (simp; done) | (simp [*]; done)), H', ⟨by have := HK1.out; omega⟩, ⟨by (with_reducible repeat (first | apply Kd.R_alloc | apply Kd.R_drewN | apply Kd.R_drew)); exact HO220.out⟩, ⟨by repeat (first | (with_reducible first | exact HB.out | apply below_alloc | apply pw_below_drewN | apply below_drew1) | exact HB.out)⟩⟩
       ·rw [if_neg c16] at H
        exact absurd H (by simp)
    ·replace c6 := Bool.eq_false_iff.mpr c6
     subst c6
     have H1 : (if t208 = true then (if x6_1 = true then (if x5_1.length < 140737488355328 then (soukref01_minus.l0 k1 l0 l1 (x5_1 ++ [false]) true (wrap64 (x7_1 + 1))) else (none)) else (if x5_1.length < 140737488355328 then (soukref01_minus.l0 k1 l0 l1 (x5_1 ++ [true]) true (wrap64 (x7_1 + 1))) else (none))) else (if x6_1 = true then (if x5_1.length < 140737488355328 then (soukref01_minus.l0 k1 l0 l1 (x5_1 ++ [true]) true (wrap64 (x7_1 + 1))) else (none)) else (if x5_1.length < 140737488355328 then (soukref01_minus.l0 k1 l0 l1 (x5_1 ++ [false]) false (wrap64 (x7_1 + 1))) else (none)))) = some r := by rw [if_neg (show ¬ (false = true) by decide)] at H; exact H
     clear H
     have H := H1
     clear H1
     by_cases c18 : t208 = true
     ·subst c18
      have H1 : (if x6_1 = true then (if x5_1.length < 140737488355328 then (soukref01_minus.l0 k1 l0 l1 (x5_1 ++ [false]) true (wrap64 (x7_1 + 1))) else (none)) else (if x5_1.length < 140737488355328 then (soukref01_minus.l0 k1 l0 l1 (x5_1 ++ [true]) true (wrap64 (x7_1 + 1))) else (none))) = some r := by rw [if_pos rfl] at H; exact H
      clear H
      have H := H1
      clear H1
      by_cases c19 : x6_1 = true
      ·subst c19
       have H1 : (if x5_1.length < 140737488355328 then (soukref01_minus.l0 k1 l0 l1 (x5_1 ++ [false]) true (wrap64 (x7_1 + 1))) else (none)) = some r := by rw [if_pos rfl] at H; exact H
       clear H
       have H := H1
       clear H1
       by_cases c20 : x5_1.length < 140737488355328
       ·rw [if_pos c20] at H
        have LMc20 := Aside0.mk c20
        clear c20
        obtain ⟨y221, hy221⟩ : ∃ y_ : List Bool, y_ = (x5_1 ++ [false]) := ⟨_, rfl⟩
        replace H : (soukref01_minus.l0 k1 l0 l1 y221 true (wrap64 (x7_1 + 1))) = some r := by first | (rw [hy221]; with_reducible exact H) | (have H2_ := (Option.bind_some _ _).symm.trans H; rw [hy221]; with_reducible exact H2_) | (have H2_ := (Option.bind_some _ _).symm.trans H; with_reducible exact H2_) | with_reducible exact H | (rw [hy221]; exact H) | exact H
        have Ny221 := Aside0.mk hy221
        clear hy221
        have H' := Aside0.mk H
        clear H
        go_wp2_with (first | ((with_reducible refine gate_callee (f := 48) rfl ?_); refine goesL_ (some 18) rfl rfl Try.func48 (by kernel_rfl) rfl #[.slice A0 l0.length c0, .int .i64 x7_1] rfl (by (try simp only [List.map_toArray, List.map_cons, List.map_nil]); first | done | rfl | (simp only [List.length_drop, List.length_take]; rfl)) ?_; (with_reducible refine (soukref01_Wide_at.calls _ _ l0 x7_1 false _ ?side1 ?side2 A4.out).mono ?_); (case side1 => repeat (first | exact (Kd.C_below HR0.out HB.out) | (with_reducible refine Kd.C_alloc ?_ _) | (with_reducible refine Kd.C_drewN ?_ _) | (with_reducible refine Kd.C_drew ?_))); (case side2 => exact HC0.out); rintro e w' ⟨rfl, ⟨nd, rfl⟩⟩; refine ⟨_, rfl, ?_⟩) | ((with_reducible refine gate_callee (f := 48) rfl ?_); refine goesL_ (some 21) rfl rfl Try.func48 (by kernel_rfl) rfl #[.slice A1 l1.length c1, .int .i64 x7_1] rfl (by (try simp only [List.map_toArray, List.map_cons, List.map_nil]); first | done | rfl | (simp only [List.length_drop, List.length_take]; rfl)) ?_; (with_reducible refine (soukref01_Wide_at.calls _ _ l1 x7_1 true _ ?side1 ?side2 A5.out).mono ?_); (case side1 => repeat (first | exact (Kd.C_below HR1.out (by repeat (first | (with_reducible first | exact HB.out | apply below_alloc | apply pw_below_drewN | apply below_drew1) | exact HB.out))) | (with_reducible refine Kd.C_alloc ?_ _) | (with_reducible refine Kd.C_drewN ?_ _) | (with_reducible refine Kd.C_drew ?_))); (case side2 => exact HC1.out); rintro e w' ⟨rfl, ⟨nd, rfl⟩⟩; refine ⟨_, rfl, ?_⟩) | ((with_reducible refine gate_builtin (b := .append) (xs := #[.tmp 22, .tmp 28]) rfl ?_); at_builtin; refine Kd.R_append Kd.bool (w0 := w) w.heap.size rfl (.tmp 22) (.tmp 28) 87 4 (.bool false) 1 rfl Try.underlying87 info4 rfl (by decide) (by omega) u5 x5_1 false [.bool false] (fun _ => True) (fun _ => False) rfl rfl ?aP (fun _ hk => hk.elim) ?aF ?aO ?aB ?aS ?aL ?_; (case aP => exact rfl); (case aB => exact (by repeat (first | (with_reducible first | exact HB.out | apply below_alloc | apply pw_below_drewN | apply below_drew1) | exact HB.out))); (case aF => exact (fun _ _ => trivial)); (case aO => exact (by (with_reducible repeat (first | apply Kd.R_alloc | apply Kd.R_drewN | apply Kd.R_drew)); exact HO_5.out)); (case aS => exact (below_size (by repeat (first | (with_reducible first | exact HB.out | apply below_alloc | apply pw_below_drewN | apply below_drew1) | exact HB.out)))); (case aL => have := LMc20.out; omega); intro v222 w21 ho hb hg hat; rw [← Ny221.out] at ho; have n0_ := Aside0.mk (hb); have n1_ := Aside0.mk (ho); clear HB; clear HO_5; have HB := n0_; have HO223 := n1_; clear n0_ n1_; clear ho hb hg hat))
        go_roundg k1
        case measure => have := HK1.out; omega
        case rel => exact ⟨(y221), (true), (wrap64 (x7_1 + 1)), (by first | rfl | (simp; done) | (simp [*]; done)), (by first | rfl | (simp; done) | (simp [*]; done)), H', ⟨by have := HK1.out; omega⟩, ⟨by (with_reducible repeat (first | apply Kd.R_alloc | apply Kd.R_drewN | apply Kd.R_drew)); exact HO223.out⟩, ⟨by repeat (first | (with_reducible first | exact HB.out | apply below_alloc | apply pw_below_drewN | apply below_drew1) | exact HB.out)⟩⟩
       ·rw [if_neg c20] at H
        exact absurd H (by simp)
      ·replace c19 := Bool.eq_false_iff.mpr c19
       subst c19
       have H1 : (if x5_1.length < 140737488355328 then (soukref01_minus.l0 k1 l0 l1 (x5_1 ++ [true]) true (wrap64 (x7_1 + 1))) else (none)) = some r := by rw [if_neg (show ¬ (false = true) by decide)] at H; exact H
       clear H
       have H := H1
       clear H1
       by_cases c22 : x5_1.length < 140737488355328
       ·rw [if_pos c22] at H
        have LMc22 := Aside0.mk c22
        clear c22
        obtain ⟨y224, hy224⟩ : ∃ y_ : List Bool, y_ = (x5_1 ++ [true]) := ⟨_, rfl⟩
        replace H : (soukref01_minus.l0 k1 l0 l1 y224 true (wrap64 (x7_1 + 1))) = some r := by first | (rw [hy224]; with_reducible exact H) | (have H2_ := (Option.bind_some _ _).symm.trans H; rw [hy224]; with_reducible exact H2_) | (have H2_ := (Option.bind_some _ _).symm.trans H; with_reducible exact H2_) | with_reducible exact H | (rw [hy224]; exact H) | exact H
        have Ny224 := Aside0.mk hy224
        clear hy224
        have H' := Aside0.mk H
        clear H
        go_wp2_with (first | ((with_reducible refine gate_callee (f := 48) rfl ?_); refine goesL_ (some 18) rfl rfl Try.func48 (by kernel_rfl) rfl #[.slice A0 l0.length c0, .int .i64 x7_1] rfl (by (try simp only [List.map_toArray, List.map_cons, List.map_nil]); first | done | rfl | (simp only [List.length_drop, List.length_take]; rfl)) ?_; (with_reducible refine (soukref01_Wide_at.calls _ _ l0 x7_1 false _ ?side1 ?side2 A4.out).mono ?_); (case side1 => repeat (first | exact (Kd.C_below HR0.out HB.out) | (with_reducible refine Kd.C_alloc ?_ _) | (with_reducible refine Kd.C_drewN ?_ _) | (with_reducible refine Kd.C_drew ?_))); (case side2 => exact HC0.out); rintro e w' ⟨rfl, ⟨nd, rfl⟩⟩; refine ⟨_, rfl, ?_⟩) | ((with_reducible refine gate_callee (f := 48) rfl ?_); refine goesL_ (some 21) rfl rfl Try.func48 (by kernel_rfl) rfl #[.slice A1 l1.length c1, .int .i64 x7_1] rfl (by (try simp only [List.map_toArray, List.map_cons, List.map_nil]); first | done | rfl | (simp only [List.length_drop, List.length_take]; rfl)) ?_; (with_reducible refine (soukref01_Wide_at.calls _ _ l1 x7_1 true _ ?side1 ?side2 A5.out).mono ?_); (case side1 => repeat (first | exact (Kd.C_below HR1.out (by repeat (first | (with_reducible first | exact HB.out | apply below_alloc | apply pw_below_drewN | apply below_drew1) | exact HB.out))) | (with_reducible refine Kd.C_alloc ?_ _) | (with_reducible refine Kd.C_drewN ?_ _) | (with_reducible refine Kd.C_drew ?_))); (case side2 => exact HC1.out); rintro e w' ⟨rfl, ⟨nd, rfl⟩⟩; refine ⟨_, rfl, ?_⟩) | ((with_reducible refine gate_builtin (b := .append) (xs := #[.tmp 22, .tmp 28]) rfl ?_); at_builtin; refine Kd.R_append Kd.bool (w0 := w) w.heap.size rfl (.tmp 22) (.tmp 28) 87 4 (.bool false) 1 rfl Try.underlying87 info4 rfl (by decide) (by omega) u5 x5_1 true [.bool true] (fun _ => True) (fun _ => False) rfl rfl ?aP (fun _ hk => hk.elim) ?aF ?aO ?aB ?aS ?aL ?_; (case aP => exact rfl); (case aB => exact (by repeat (first | (with_reducible first | exact HB.out | apply below_alloc | apply pw_below_drewN | apply below_drew1) | exact HB.out))); (case aF => exact (fun _ _ => trivial)); (case aO => exact (by (with_reducible repeat (first | apply Kd.R_alloc | apply Kd.R_drewN | apply Kd.R_drew)); exact HO_5.out)); (case aS => exact (below_size (by repeat (first | (with_reducible first | exact HB.out | apply below_alloc | apply pw_below_drewN | apply below_drew1) | exact HB.out)))); (case aL => have := LMc22.out; omega); intro v225 w23 ho hb hg hat; rw [← Ny224.out] at ho; have n0_ := Aside0.mk (hb); have n1_ := Aside0.mk (ho); clear HB; clear HO_5; have HB := n0_; have HO226 := n1_; clear n0_ n1_; clear ho hb hg hat))
        go_roundg k1
        case measure => have := HK1.out; omega
        case rel => exact ⟨(y224), (true), (wrap64 (x7_1 + 1)), (by first | rfl | (simp; done) | (simp [*]; done)), (by first | rfl | (simp; done) | (simp [*]; done)), H', ⟨by have := HK1.out; omega⟩, ⟨by (with_reducible repeat (first | apply Kd.R_alloc | apply Kd.R_drewN | apply Kd.R_drew)); exact HO226.out⟩, ⟨by repeat (first | (with_reducible first | exact HB.out | apply below_alloc | apply pw_below_drewN | apply below_drew1) | exact HB.out)⟩⟩
       ·rw [if_neg c22] at H
        exact absurd H (by simp)
     ·replace c18 := Bool.eq_false_iff.mpr c18
      subst c18
      have H1 : (if x6_1 = true then (if x5_1.length < 140737488355328 then (soukref01_minus.l0 k1 l0 l1 (x5_1 ++ [true]) true (wrap64 (x7_1 + 1))) else (none)) else (if x5_1.length < 140737488355328 then (soukref01_minus.l0 k1 l0 l1 (x5_1 ++ [false]) false (wrap64 (x7_1 + 1))) else (none))) = some r := by rw [if_neg (show ¬ (false = true) by decide)] at H; exact H
      clear H
      have H := H1
      clear H1
      by_cases c24 : x6_1 = true
      ·subst c24
       have H1 : (if x5_1.length < 140737488355328 then (soukref01_minus.l0 k1 l0 l1 (x5_1 ++ [true]) true (wrap64 (x7_1 + 1))) else (none)) = some r := by rw [if_pos rfl] at H; exact H
       clear H
       have H := H1
       clear H1
       by_cases c25 : x5_1.length < 140737488355328
       ·rw [if_pos c25] at H
        have LMc25 := Aside0.mk c25
        clear c25
        obtain ⟨y227, hy227⟩ : ∃ y_ : List Bool, y_ = (x5_1 ++ [true]) := ⟨_, rfl⟩
        replace H : (soukref01_minus.l0 k1 l0 l1 y227 true (wrap64 (x7_1 + 1))) = some r := by first | (rw [hy227]; with_reducible exact H) | (have H2_ := (Option.bind_some _ _).symm.trans H; rw [hy227]; with_reducible exact H2_) | (have H2_ := (Option.bind_some _ _).symm.trans H; with_reducible exact H2_) | with_reducible exact H | (rw [hy227]; exact H) | exact H
        have Ny227 := Aside0.mk hy227
        clear hy227
        have H' := Aside0.mk H
        clear H
        go_wp2_with (first | ((with_reducible refine gate_callee (f := 48) rfl ?_); refine goesL_ (some 18) rfl rfl Try.func48 (by kernel_rfl) rfl #[.slice A0 l0.length c0, .int .i64 x7_1] rfl (by (try simp only [List.map_toArray, List.map_cons, List.map_nil]); first | done | rfl | (simp only [List.length_drop, List.length_take]; rfl)) ?_; (with_reducible refine (soukref01_Wide_at.calls _ _ l0 x7_1 false _ ?side1 ?side2 A4.out).mono ?_); (case side1 => repeat (first | exact (Kd.C_below HR0.out HB.out) | (with_reducible refine Kd.C_alloc ?_ _) | (with_reducible refine Kd.C_drewN ?_ _) | (with_reducible refine Kd.C_drew ?_))); (case side2 => exact HC0.out); rintro e w' ⟨rfl, ⟨nd, rfl⟩⟩; refine ⟨_, rfl, ?_⟩) | ((with_reducible refine gate_callee (f := 48) rfl ?_); refine goesL_ (some 21) rfl rfl Try.func48 (by kernel_rfl) rfl #[.slice A1 l1.length c1, .int .i64 x7_1] rfl (by (try simp only [List.map_toArray, List.map_cons, List.map_nil]); first | done | rfl | (simp only [List.length_drop, List.length_take]; rfl)) ?_; (with_reducible refine (soukref01_Wide_at.calls _ _ l1 x7_1 false _ ?side1 ?side2 A5.out).mono ?_); (case side1 => repeat (first | exact (Kd.C_below HR1.out (by repeat (first | (with_reducible first | exact HB.out | apply below_alloc | apply pw_below_drewN | apply below_drew1) | exact HB.out))) | (with_reducible refine Kd.C_alloc ?_ _) | (with_reducible refine Kd.C_drewN ?_ _) | (with_reducible refine Kd.C_drew ?_))); (case side2 => exact HC1.out); rintro e w' ⟨rfl, ⟨nd, rfl⟩⟩; refine ⟨_, rfl, ?_⟩) | ((with_reducible refine gate_builtin (b := .append) (xs := #[.tmp 22, .tmp 28]) rfl ?_); at_builtin; refine Kd.R_append Kd.bool (w0 := w) w.heap.size rfl (.tmp 22) (.tmp 28) 87 4 (.bool false) 1 rfl Try.underlying87 info4 rfl (by decide) (by omega) u5 x5_1 true [.bool true] (fun _ => True) (fun _ => False) rfl rfl ?aP (fun _ hk => hk.elim) ?aF ?aO ?aB ?aS ?aL ?_; (case aP => exact rfl); (case aB => exact (by repeat (first | (with_reducible first | exact HB.out | apply below_alloc | apply pw_below_drewN | apply below_drew1) | exact HB.out))); (case aF => exact (fun _ _ => trivial)); (case aO => exact (by (with_reducible repeat (first | apply Kd.R_alloc | apply Kd.R_drewN | apply Kd.R_drew)); exact HO_5.out)); (case aS => exact (below_size (by repeat (first | (with_reducible first | exact HB.out | apply below_alloc | apply pw_below_drewN | apply below_drew1) | exact HB.out)))); (case aL => have := LMc25.out; omega); intro v228 w26 ho hb hg hat; rw [← Ny227.out] at ho; have n0_ := Aside0.mk (hb); have n1_ := Aside0.mk (ho); clear HB; clear HO_5; have HB := n0_; have HO229 := n1_; clear n0_ n1_; clear ho hb hg hat))
        go_roundg k1
        case measure => have := HK1.out; omega
        case rel => exact ⟨(y227), (true), (wrap64 (x7_1 + 1)), (by first | rfl | (simp; done) | (simp [*]; done)), (by first | rfl | (simp; done) | (simp [*]; done)), H', ⟨by have := HK1.out; omega⟩, ⟨by (with_reducible repeat (first | apply Kd.R_alloc | apply Kd.R_drewN | apply Kd.R_drew)); exact HO229.out⟩, ⟨by repeat (first | (with_reducible first | exact HB.out | apply below_alloc | apply pw_below_drewN | apply below_drew1) | exact HB.out)⟩⟩
       ·rw [if_neg c25] at H
        exact absurd H (by simp)
      ·replace c24 := Bool.eq_false_iff.mpr c24
       subst c24
       have H1 : (if x5_1.length < 140737488355328 then (soukref01_minus.l0 k1 l0 l1 (x5_1 ++ [false]) false (wrap64 (x7_1 + 1))) else (none)) = some r := by rw [if_neg (show ¬ (false = true) by decide)] at H; exact H
       clear H
       have H := H1
       clear H1
       by_cases c27 : x5_1.length < 140737488355328
       ·rw [if_pos c27] at H
        have LMc27 := Aside0.mk c27
        clear c27
        obtain ⟨y230, hy230⟩ : ∃ y_ : List Bool, y_ = (x5_1 ++ [false]) := ⟨_, rfl⟩
        replace H : (soukref01_minus.l0 k1 l0 l1 y230 false (wrap64 (x7_1 + 1))) = some r := by first | (rw [hy230]; with_reducible exact H) | (have H2_ := (Option.bind_some _ _).symm.trans H; rw [hy230]; with_reducible exact H2_) | (have H2_ := (Option.bind_some _ _).symm.trans H; with_reducible exact H2_) | with_reducible exact H | (rw [hy230]; exact H) | exact H
        have Ny230 := Aside0.mk hy230
        clear hy230
        have H' := Aside0.mk H
        clear H
        go_wp2_with (first | ((with_reducible refine gate_callee (f := 48) rfl ?_); refine goesL_ (some 18) rfl rfl Try.func48 (by kernel_rfl) rfl #[.slice A0 l0.length c0, .int .i64 x7_1] rfl (by (try simp only [List.map_toArray, List.map_cons, List.map_nil]); first | done | rfl | (simp only [List.length_drop, List.length_take]; rfl)) ?_; (with_reducible refine (soukref01_Wide_at.calls _ _ l0 x7_1 false _ ?side1 ?side2 A4.out).mono ?_); (case side1 => repeat (first | exact (Kd.C_below HR0.out HB.out) | (with_reducible refine Kd.C_alloc ?_ _) | (with_reducible refine Kd.C_drewN ?_ _) | (with_reducible refine Kd.C_drew ?_))); (case side2 => exact HC0.out); rintro e w' ⟨rfl, ⟨nd, rfl⟩⟩; refine ⟨_, rfl, ?_⟩) | ((with_reducible refine gate_callee (f := 48) rfl ?_); refine goesL_ (some 21) rfl rfl Try.func48 (by kernel_rfl) rfl #[.slice A1 l1.length c1, .int .i64 x7_1] rfl (by (try simp only [List.map_toArray, List.map_cons, List.map_nil]); first | done | rfl | (simp only [List.length_drop, List.length_take]; rfl)) ?_; (with_reducible refine (soukref01_Wide_at.calls _ _ l1 x7_1 false _ ?side1 ?side2 A5.out).mono ?_); (case side1 => repeat (first | exact (Kd.C_below HR1.out (by repeat (first | (with_reducible first | exact HB.out | apply below_alloc | apply pw_below_drewN | apply below_drew1) | exact HB.out))) | (with_reducible refine Kd.C_alloc ?_ _) | (with_reducible refine Kd.C_drewN ?_ _) | (with_reducible refine Kd.C_drew ?_))); (case side2 => exact HC1.out); rintro e w' ⟨rfl, ⟨nd, rfl⟩⟩; refine ⟨_, rfl, ?_⟩) | ((with_reducible refine gate_builtin (b := .append) (xs := #[.tmp 22, .tmp 28]) rfl ?_); at_builtin; refine Kd.R_append Kd.bool (w0 := w) w.heap.size rfl (.tmp 22) (.tmp 28) 87 4 (.bool false) 1 rfl Try.underlying87 info4 rfl (by decide) (by omega) u5 x5_1 false [.bool false] (fun _ => True) (fun _ => False) rfl rfl ?aP (fun _ hk => hk.elim) ?aF ?aO ?aB ?aS ?aL ?_; (case aP => exact rfl); (case aB => exact (by repeat (first | (with_reducible first | exact HB.out | apply below_alloc | apply pw_below_drewN | apply below_drew1) | exact HB.out))); (case aF => exact (fun _ _ => trivial)); (case aO => exact (by (with_reducible repeat (first | apply Kd.R_alloc | apply Kd.R_drewN | apply Kd.R_drew)); exact HO_5.out)); (case aS => exact (below_size (by repeat (first | (with_reducible first | exact HB.out | apply below_alloc | apply pw_below_drewN | apply below_drew1) | exact HB.out)))); (case aL => have := LMc27.out; omega); intro v231 w28 ho hb hg hat; rw [← Ny230.out] at ho; have n0_ := Aside0.mk (hb); have n1_ := Aside0.mk (ho); clear HB; clear HO_5; have HB := n0_; have HO232 := n1_; clear n0_ n1_; clear ho hb hg hat))
        go_roundg k1
        case measure => have := HK1.out; omega
        case rel => exact ⟨(y230), (false), (wrap64 (x7_1 + 1)), (by first | rfl | (simp; done) | (simp [*]; done)), (by first | rfl | (simp; done) | (simp [*]; done)), H', ⟨by have := HK1.out; omega⟩, ⟨by (with_reducible repeat (first | apply Kd.R_alloc | apply Kd.R_drewN | apply Kd.R_drew)); exact HO232.out⟩, ⟨by repeat (first | (with_reducible first | exact HB.out | apply below_alloc | apply pw_below_drewN | apply below_drew1) | exact HB.out)⟩⟩
       ·rw [if_neg c27] at H
        exact absurd H (by simp)
   ·rw [if_neg c3] at H
    have c3b0 : decide (x7_1 < (l0.length : Int)) = false := decide_eq_false c3
    clear c3
    replace H := Option.bind_eq_some_iff.mp H
    obtain ⟨t233, A290, H⟩ := H
    replace H : (some t233) = some r := H
    have A29 := Aside0.mk A290
    clear A290
    obtain rfl := Option.some.inj H
    obtain ⟨Ao30, co30, eo30⟩ := Kd.R_slice HO_5.out
    subst eo30
    go_wp2_with (first | ((with_reducible refine gate_callee (f := 46) rfl ?_); refine goesL_ (some 45) rfl rfl Try.func46 (by kernel_rfl) rfl #[.slice Ao30 x5_1.length co30] rfl (by (try simp only [List.map_toArray, List.map_cons, List.map_nil]); first | done | rfl | (simp only [List.length_drop, List.length_take]; rfl)) ?_; (with_reducible refine (soukref01_trim.calls k1 (fun k_ => some k_ = (.slice Ao30 x5_1.length co30 : Value).ownBlock) (.slice Ao30 x5_1.length co30) x5_1 t233 w _ ?side1 ?side2 A29.out).mono ?_); (case side1 => repeat (first | (with_reducible first | exact HB.out | apply below_alloc | apply pw_below_drewN | apply below_drew1) | exact HB.out)); (case side2 => exact Kd.R_tight rfl HO_5.out); rintro e w31 ⟨v234, rfl, ho0, hb, hkp⟩; refine ⟨_, rfl, ?_⟩; have n0_ := Aside0.mk (Kd.R_mono (ok' := fun k_ => True) ho0 (fun k_ hk_ => trivial)); have n1_ := Aside0.mk (hb); clear HB; clear HO_5; have HO235 := n0_; have HB := n1_; clear n0_ n1_; (try clear hb); (try clear hkp); (try clear ho0)))
    go_ret
    exact ⟨_, by first | rfl | (simp [errW_none, errW_some] <;> rfl) | (simp [*, errW_none, errW_some] <;> rfl), by (with_reducible repeat (first | apply Kd.R_alloc | apply Kd.R_drewN | apply Kd.R_drew)); exact HO235.out, by repeat (first | (with_reducible first | exact HB.out | apply below_alloc | apply pw_below_drewN | apply below_drew1) | exact HB.out)⟩
end Go.Proofs.Ytncnhhnbjmpomaa.Q
namespace Go.Proofs.Ytncnhhnbjmpomaa.Q
open Go.RowKit Go.Proofs.YtncnhhnbjmpomaaW.PrintWords Go.Proofs.YtncnhhnbjmpomaaW.PrintLast Go.Proofs.YtncnhhnbjmpomaaW.PrintMore
attribute [local go_sem] max2_int min2_int max_two min_two max_three min_three max_four min_four   -- for this text's walks alone
set_option linter.unusedVariables false
set_option linter.unusedSimpArgs false
def soukref01_Div.l0 : Nat → List Bool → List Bool → List Bool → List Bool → Int → Option (List Bool × List Bool)
 | 0, _, _, _, _, _ => none
 | k + 1, x0, x1, x6, x7, x8 => if x8 ≥ 0 then (if 0 ≤ x8 then (if x8 < (x0.length : Int) then ((some (([rdOf false x0 x8] : List Bool) : List Bool)).bind fun y240 => (if y240.length + x7.length < 140737488355328 then ((soukref01_trim.f k (y240 ++ x7)).bind fun t246 => ((soukref01_less.f k t246 x1).bind fun t249 => ((some (([!t249] : List Bool) : List Bool)).bind fun y250 => (if y250.length + x6.length < 140737488355328 then ((some (y250 ++ x6 : List Bool)).bind fun y253 => (if t249 = true then (soukref01_Div.l0 k x0 x1 y253 t246 (wrap64 (x8 - 1))) else ((soukref01_minus.f k t246 x1).bind fun t256 => (soukref01_Div.l0 k x0 x1 y253 t256 (wrap64 (x8 - 1)))))) else (none))))) else (none))) else (none)) else (none)) else ((soukref01_trim.f k x6).bind fun t236 => (some (t236, x7)))
def soukref01_Div.f (k : Nat) (l0 : List Bool) (l1 : List Bool) : Option (List Bool × List Bool) := soukref01_Div.l0 k l0 l1 ([] : List Bool) ([] : List Bool) (wrap64 ((l0.length : Int) - 1))
set_option maxHeartbeats 8000000 in
set_option maxRecDepth 100000 in
theorem soukref01_Div.calls (k : Nat) (A0 : Option Addr) (c0 : Nat) (l0 : List Bool) (A1 : Option Addr) (c1 : Nat) (l1 : List Bool) (r1 : List Bool) (r2 : List Bool) (w : World) (hr0 : Kd.C Kd.bool w A0 l0.length l0) (hc0 : l0.length ≤ c0) (hr1 : Kd.C Kd.bool w A1 l1.length l1) (hc1 : l1.length ≤ c1) (h : soukref01_Div.f k l0 l1 = some (r1, r2)) :
  Calls Try.prog 42 #[.slice A0 l0.length c0, .slice A1 l1.length c1] w fun e w' => ∃ v0_ v1_ : Value, e = .returned (.tuple #[v0_, v1_]) ∧ Kd.R Kd.bool 4 w' w.heap.size (fun k_ => some k_ ≠ (v1_ : Value).ownBlock) v0_ r1 ∧ Kd.R Kd.bool 4 w' w.heap.size (fun k_ => some k_ ≠ (v0_ : Value).ownBlock) v1_ r2 ∧ Below w.heap.size w w' := by
 have HR0 := Aside0.mk hr0
 have HC0 := Aside0.mk hc0
 clear hr0 hc0
 have HR1 := Aside0.mk hr1
 have HC1 := Aside0.mk hc1
 clear hr1 hc1
 have HB := Aside0.mk (Below.refl w.heap.size w)
 have H : (soukref01_Div.l0 k l0 l1 ([] : List Bool) ([] : List Bool) (wrap64 ((l0.length : Int) - 1))) = some (r1, r2) := h
 clear h
 have H' := Aside0.mk H
 clear H
 go_enter Try.func42, Try.ntmps42
 go_wp2
 go_loopg [6, 7, 8] k (fun kq v6 v7 v8 w' => ∃ (x6_1 : List Bool) (x7_1 : List Bool) (x8_1 : Int), v8 = .int .i64 x8_1 ∧ Aside0 (soukref01_Div.l0 kq l0 l1 x6_1 x7_1 x8_1 = some (r1, r2)) ∧ Aside0 (kq ≤ k) ∧ Aside0 (Kd.R Kd.bool 4 w' w.heap.size (fun k_ => some k_ ≠ (v7 : Value).ownBlock) v6 x6_1) ∧ Aside0 (Kd.R Kd.bool 4 w' w.heap.size (fun k_ => some k_ ≠ (v6 : Value).ownBlock) v7 x7_1) ∧ Aside0 (Below w.heap.size w w'))
 case atStart => exact ⟨(([] : List Bool)), (([] : List Bool)), (wrap64 ((l0.length : Int) - 1)), (by first | rfl | (simp; done) | (simp [*]; done)), H', ⟨Nat.le_refl _⟩, ⟨by first | exact Kd.R_nil _ _ _ _ _ | exact Kd.N_nil _ _ _ _ _ | exact Kd.V_nil _ _ _ _ _ | exact Kd.Q_nil _ _ _ _ _ | exact Kd.S_nil _ _ _ _ _⟩, ⟨by first | exact Kd.R_nil _ _ _ _ _ | exact Kd.N_nil _ _ _ _ _ | exact Kd.V_nil _ _ _ _ _ | exact Kd.Q_nil _ _ _ _ _ | exact Kd.S_nil _ _ _ _ _⟩, ⟨by repeat (first | (with_reducible first | exact HB.out | apply below_alloc | apply pw_below_drewN | apply below_drew1) | exact HB.out)⟩⟩
 case round =>
  clear H'
  try clear c1
  try clear p2
  obtain ⟨x6_1, x7_1, x8_1, rfl, HA, HK1, HO_6, HO_7, HB⟩ := hrel
  cases gk with
  | zero => exact absurd HA.out (by simp [soukref01_Div.l0])
  | succ k1 =>
   have H := HA.out
   clear HA
   simp only [soukref01_Div.l0] at H
   by_cases c3 : x8_1 ≥ 0
   ·rw [if_pos c3] at H
    have c3b0 : decide (0 ≤ x8_1) = true := decide_eq_true c3
    clear c3
    by_cases c4 : 0 ≤ x8_1
    ·rw [if_pos c4] at H
     have c4b0 : decide (0 ≤ x8_1) = true := decide_eq_true c4
     clear c4
     by_cases c5 : x8_1 < (l0.length : Int)
     ·rw [if_pos c5] at H
      have c5b0 : decide (x8_1 < (l0.length : Int)) = true := decide_eq_true c5
      clear c5
      obtain ⟨y240, hy240⟩ : ∃ y_ : List Bool, y_ = (([rdOf false l0 x8_1] : List Bool)) := ⟨_, rfl⟩
      replace H : (if y240.length + x7_1.length < 140737488355328 then ((soukref01_trim.f k1 (y240 ++ x7_1)).bind fun t246 => ((soukref01_less.f k1 t246 l1).bind fun t249 => ((some (([!t249] : List Bool) : List Bool)).bind fun y250 => (if y250.length + x6_1.length < 140737488355328 then ((some (y250 ++ x6_1 : List Bool)).bind fun y253 => (if t249 = true then (soukref01_Div.l0 k1 l0 l1 y253 t246 (wrap64 (x8_1 - 1))) else ((soukref01_minus.f k1 t246 l1).bind fun t256 => (soukref01_Div.l0 k1 l0 l1 y253 t256 (wrap64 (x8_1 - 1)))))) else (none))))) else (none)) = some (r1, r2) := by first | (rw [hy240]; with_reducible exact H) | (have H2_ := (Option.bind_some _ _).symm.trans H; rw [hy240]; with_reducible exact H2_) | (have H2_ := (Option.bind_some _ _).symm.trans H; with_reducible exact H2_) | with_reducible exact H | (rw [hy240]; exact H) | exact H
      have Ny240 := Aside0.mk hy240
      clear hy240
      by_cases c6 : y240.length + x7_1.length < 140737488355328
      ·rw [if_pos c6] at H
       have LMc6 := Aside0.mk c6
       clear c6
       obtain ⟨y243, hy243⟩ : ∃ y_ : List Bool, y_ = (y240 ++ x7_1) := ⟨_, rfl⟩
       replace H : ((soukref01_trim.f k1 y243).bind fun t246 => ((soukref01_less.f k1 t246 l1).bind fun t249 => ((some (([!t249] : List Bool) : List Bool)).bind fun y250 => (if y250.length + x6_1.length < 140737488355328 then ((some (y250 ++ x6_1 : List Bool)).bind fun y253 => (if t249 = true then (soukref01_Div.l0 k1 l0 l1 y253 t246 (wrap64 (x8_1 - 1))) else ((soukref01_minus.f k1 t246 l1).bind fun t256 => (soukref01_Div.l0 k1 l0 l1 y253 t256 (wrap64 (x8_1 - 1)))))) else (none))))) = some (r1, r2) := by first | (rw [hy243]; with_reducible exact H) | (have H2_ := (Option.bind_some _ _).symm.trans H; rw [hy243]; with_reducible exact H2_) | (have H2_ := (Option.bind_some _ _).symm.trans H; with_reducible exact H2_) | with_reducible exact H | (rw [hy243]; exact H) | exact H
       have Ny243 := Aside0.mk hy243
       clear hy243
       replace H := Option.bind_eq_some_iff.mp H
       obtain ⟨t246, A70, H⟩ := H
       replace H : ((soukref01_less.f k1 t246 l1).bind fun t249 => ((some (([!t249] : List Bool) : List Bool)).bind fun y250 => (if y250.length + x6_1.length < 140737488355328 then ((some (y250 ++ x6_1 : List Bool)).bind fun y253 => (if t249 = true then (soukref01_Div.l0 k1 l0 l1 y253 t246 (wrap64 (x8_1 - 1))) else ((soukref01_minus.f k1 t246 l1).bind fun t256 => (soukref01_Div.l0 k1 l0 l1 y253 t256 (wrap64 (x8_1 - 1)))))) else (none)))) = some (r1, r2) := H
       have A7 := Aside0.mk A70
       clear A70
       replace H := Option.bind_eq_some_iff.mp H
       obtain ⟨t249, A80, H⟩ := H
       replace H : ((some (([!t249] : List Bool) : List Bool)).bind fun y250 => (if y250.length + x6_1.length < 140737488355328 then ((some (y250 ++ x6_1 : List Bool)).bind fun y253 => (if t249 = true then (soukref01_Div.l0 k1 l0 l1 y253 t246 (wrap64 (x8_1 - 1))) else ((soukref01_minus.f k1 t246 l1).bind fun t256 => (soukref01_Div.l0 k1 l0 l1 y253 t256 (wrap64 (x8_1 - 1)))))) else (none))) = some (r1, r2) := H
       have A8 := Aside0.mk A80
       clear A80
       obtain ⟨y250, hy250⟩ : ∃ y_ : List Bool, y_ = (([!t249] : List Bool)) := ⟨_, rfl⟩
       replace H : (if y250.length + x6_1.length < 140737488355328 then ((some (y250 ++ x6_1 : List Bool)).bind fun y253 => (if t249 = true then (soukref01_Div.l0 k1 l0 l1 y253 t246 (wrap64 (x8_1 - 1))) else ((soukref01_minus.f k1 t246 l1).bind fun t256 => (soukref01_Div.l0 k1 l0 l1 y253 t256 (wrap64 (x8_1 - 1)))))) else (none)) = some (r1, r2) := by first | (rw [hy250]; with_reducible exact H) | (have H2_ := (Option.bind_some _ _).symm.trans H; rw [hy250]; with_reducible exact H2_) | (have H2_ := (Option.bind_some _ _).symm.trans H; with_reducible exact H2_) | with_reducible exact H | (rw [hy250]; exact H) | exact H
       have Ny250 := Aside0.mk hy250
       clear hy250
       by_cases c9 : y250.length + x6_1.length < 140737488355328
       ·rw [if_pos c9] at H
        have LMc9 := Aside0.mk c9
        clear c9
        obtain ⟨y253, hy253⟩ : ∃ y_ : List Bool, y_ = (y250 ++ x6_1) := ⟨_, rfl⟩
        replace H : (if t249 = true then (soukref01_Div.l0 k1 l0 l1 y253 t246 (wrap64 (x8_1 - 1))) else ((soukref01_minus.f k1 t246 l1).bind fun t256 => (soukref01_Div.l0 k1 l0 l1 y253 t256 (wrap64 (x8_1 - 1))))) = some (r1, r2) := by first | (rw [hy253]; with_reducible exact H) | (have H2_ := (Option.bind_some _ _).symm.trans H; rw [hy253]; with_reducible exact H2_) | (have H2_ := (Option.bind_some _ _).symm.trans H; with_reducible exact H2_) | with_reducible exact H | (rw [hy253]; exact H) | exact H
        have Ny253 := Aside0.mk hy253
        clear hy253
        by_cases c10 : t249 = true
        ·subst c10
         have H1 : (soukref01_Div.l0 k1 l0 l1 y253 t246 (wrap64 (x8_1 - 1))) = some (r1, r2) := by rw [if_pos rfl] at H; exact H
         clear H
         have H := H1
         clear H1
         have H' := Aside0.mk H
         clear H
         have p239 : 0 ≤ (x8_1 : Int) := of_decide_eq_true (by first | (with_reducible assumption) | assumption)
         have q239 : x8_1 < (l0.length : Int) := of_decide_eq_true (by first | (with_reducible assumption) | assumption)
         obtain ⟨ad239, e239, hx239_0⟩ := Kd.at_bool HR0.out x8_1 p239 q239
         cases e239
         replace hx239_0 := (HB.out.cell (World.block_lt_of_cell? w _ hx239_0)).trans hx239_0
         replace p239 := eq_true p239
         replace q239 := eq_true q239
         go_wp2_with (first | ((with_reducible refine gate_dst (N := 21) rfl ?_); refine Kd.R_lit Kd.bool _ 4 ?hg (N := 21) ?hd (xs := ([rdOf false l0 x8_1] : List Bool)) (inner := [.bool (rdOf false l0 x8_1)]) (ok := fun _ => True) (okp := fun _ => True) ?hr ?hp (fun _ hk => hk) trivial (Below.refl _ _) (Nat.le_refl _) (by simp) ?_; (case hd => rfl); (case hg => rfl); (case hr => first | (go_simp; done) | (go_simp; rfl)); (case hp => exact (Reps.one (show Kd.M Kd.bool _ _ _ (rdOf false l0 x8_1) [.bool (rdOf false l0 x8_1)] from rfl) (Reps.none _ _))); intro v241 w11 ho12 hb hg_ hnew_; clear hg_ hnew_; (first | rw [← Ny240.out] at ho12 | (simp only [Int.reduceToNat] at ho12; rw [← Ny240.out] at ho12)); have n0_ := Aside0.mk (Kd.R_elder' (by (with_reducible repeat (first | apply Kd.R_alloc | apply Kd.R_drewN | apply Kd.R_drew)); exact HO_6.out) (Kd.R_base ho12) hb); have n1_ := Aside0.mk (Kd.R_elder' (by (with_reducible repeat (first | apply Kd.R_alloc | apply Kd.R_drewN | apply Kd.R_drew)); exact HO_7.out) (Kd.R_base ho12) hb); have n2_ := Aside0.mk (Kd.R_lower (Kd.R_new' (Kd.R_new' ho12 (Kd.R_lt (by (with_reducible repeat (first | apply Kd.R_alloc | apply Kd.R_drewN | apply Kd.R_drew)); exact HO_6.out))) (Kd.R_lt (by (with_reducible repeat (first | apply Kd.R_alloc | apply Kd.R_drewN | apply Kd.R_drew)); exact HO_7.out))) (below_size (by repeat (first | (with_reducible first | exact HB.out | apply below_alloc | apply pw_below_drewN | apply below_drew1) | exact HB.out)))); have n3_ := Aside0.mk (below_step (by repeat (first | (with_reducible first | exact HB.out | apply below_alloc | apply pw_below_drewN | apply below_drew1) | exact HB.out)) hb); clear HO_6; clear HO_7; clear HB; have HO_6 := n0_; have HO_7 := n1_; have HO242 := n2_; have HB := n3_; clear n0_ n1_ n2_ n3_; clear hb ho12; obtain ⟨Ao14, co14, eo14⟩ := Kd.R_slice HO_7.out; subst eo14) | ((with_reducible refine gate_builtin (b := .append) (xs := #[.tmp 21, .tmp 22]) rfl ?_); at_builtin; refine Kd.R_append_rows Kd.bool (w0 := w) w.heap.size rfl (.tmp 21) (.tmp 22) 87 4 (.bool false) 1 rfl Try.underlying87 info4 rfl (by decide) (by omega) v241 y240 x7_1 _ _ _ (fun k_ => some k_ ≠ (u6 : Value).ownBlock ∧ some k_ ≠ (.slice Ao14 x7_1.length co14 : Value).ownBlock) (fun _ => False) rfl rfl ?aO ?aR (fun _ _ h => h) (fun _ h => h.elim) ?aF ?aB ?aS ?aL ?_; (case aR => repeat (first | exact (Kd.R_reads' HO_7.out).2.2 | (with_reducible refine Kd.C_alloc ?_ _) | (with_reducible refine Kd.C_drewN ?_ _) | (with_reducible refine Kd.C_drew ?_))); (case aB => exact (by repeat (first | (with_reducible first | exact HB.out | apply below_alloc | apply pw_below_drewN | apply below_drew1) | exact HB.out))); (case aF => exact (fun k_ hk => ⟨Kd.fresh' (Kd.R_lt (by (with_reducible repeat (first | apply Kd.R_alloc | apply Kd.R_drewN | apply Kd.R_drew)); exact HO_6.out)) k_ hk, Kd.fresh' (Kd.R_lt (by (with_reducible repeat (first | apply Kd.R_alloc | apply Kd.R_drewN | apply Kd.R_drew)); exact HO_7.out)) k_ hk⟩)); (case aO => exact (by (with_reducible repeat (first | apply Kd.R_alloc | apply Kd.R_drewN | apply Kd.R_drew)); exact Kd.R_mono HO242.out (fun _ hk => ⟨hk.1.2, hk.2⟩))); (case aS => exact (below_size (by repeat (first | (with_reducible first | exact HB.out | apply below_alloc | apply pw_below_drewN | apply below_drew1) | exact HB.out)))); (case aL => have := LMc6.out; omega); intro v244 w13 ho hb hg hat; rw [← Ny243.out] at ho; have n0_ := Aside0.mk (Kd.R_after (ok := (fun k_ => some k_ ≠ (.slice Ao14 x7_1.length co14 : Value).ownBlock)) (by (with_reducible repeat (first | apply Kd.R_alloc | apply Kd.R_drewN | apply Kd.R_drew)); exact HO_6.out) hg hat); have n1_ := Aside0.mk (Kd.R_after (ok := (fun k_ => some k_ ≠ (u6 : Value).ownBlock)) (by (with_reducible repeat (first | apply Kd.R_alloc | apply Kd.R_drewN | apply Kd.R_drew)); exact HO_7.out) hg hat); have n2_ := Aside0.mk (hb); have n3_ := Aside0.mk (ho); clear HO_6; clear HO_7; clear HB; clear HO242; have HO_6 := n0_; have HO_7 := n1_; have HB := n2_; have HO245 := n3_; clear n0_ n1_ n2_ n3_; clear ho hb hg hat; obtain ⟨Ao15, co15, eo15⟩ := Kd.R_slice HO245.out; subst eo15) | ((with_reducible refine gate_callee (f := 46) rfl ?_); refine goesL_ (some 24) rfl rfl Try.func46 (by kernel_rfl) rfl #[.slice Ao15 y243.length co15] rfl (by (try simp only [List.map_toArray, List.map_cons, List.map_nil]); first | done | rfl | (simp only [List.length_drop, List.length_take]; rfl)) ?_; (with_reducible refine (soukref01_trim.calls k1 (fun k_ => some k_ = (.slice Ao15 y243.length co15 : Value).ownBlock) (.slice Ao15 y243.length co15) y243 t246 w _ ?side1 ?side2 A7.out).mono ?_); (case side1 => repeat (first | (with_reducible first | exact HB.out | apply below_alloc | apply pw_below_drewN | apply below_drew1) | exact HB.out)); (case side2 => exact Kd.R_tight rfl HO245.out); rintro e w16 ⟨v247, rfl, ho0, hb, hkp⟩; refine ⟨_, rfl, ?_⟩; have n0_ := Aside0.mk (Kd.R_mono (ok' := fun k_ => some k_ ≠ (.slice Ao14 x7_1.length co14 : Value).ownBlock ∧ some k_ ≠ (v247 : Value).ownBlock) (Kd.R_keptB (HO_6.out) hkp (fun k_ hk_ hs_ => (hk_.2) hs_)) (fun k_ hk_ => ⟨hk_.1.1, fun e_ => Or.elim (ho0.1 k_ e_.symm) (fun hs_ => hk_.2.1 hs_) (fun hn_ => Nat.not_le.2 hk_.2.2 hn_)⟩)); have n1_ := Aside0.mk (Kd.R_mono (ok' := fun k_ => some k_ ≠ (u6 : Value).ownBlock ∧ some k_ ≠ (v247 : Value).ownBlock) (Kd.R_keptB (HO_7.out) hkp (fun k_ hk_ hs_ => (hk_.2) hs_)) (fun k_ hk_ => ⟨hk_.1.1, fun e_ => Or.elim (ho0.1 k_ e_.symm) (fun hs_ => hk_.2.1 hs_) (fun hn_ => Nat.not_le.2 hk_.2.2 hn_)⟩)); have n2_ := Aside0.mk (Kd.R_mono (ok' := fun k_ => some k_ ≠ (u6 : Value).ownBlock ∧ some k_ ≠ (.slice Ao14 x7_1.length co14 : Value).ownBlock) ho0 (fun k_ hk_ => ⟨Or.elim hk_ (fun hs_ => fun e_ => (((HO_6.out).1 k_ e_.symm).2) hs_) (fun hn_ => (Kd.fresh' (Kd.R_lt (by (with_reducible repeat (first | apply Kd.R_alloc | apply Kd.R_drewN | apply Kd.R_drew)); exact HO_6.out)) k_ hn_)), Or.elim hk_ (fun hs_ => fun e_ => (((HO_7.out).1 k_ e_.symm).2) hs_) (fun hn_ => (Kd.fresh' (Kd.R_lt (by (with_reducible repeat (first | apply Kd.R_alloc | apply Kd.R_drewN | apply Kd.R_drew)); exact HO_7.out)) k_ hn_))⟩)); have n3_ := Aside0.mk (hb); clear HO_6; clear HO_7; clear HB; clear HO245; have HO_6 := n0_; have HO_7 := n1_; have HO248 := n2_; have HB := n3_; clear n0_ n1_ n2_ n3_; (try clear hb); (try clear hkp); (try clear ho0); obtain ⟨Ao17, co17, eo17⟩ := Kd.R_slice HO248.out; subst eo17) | ((with_reducible refine gate_callee (f := 47) rfl ?_); refine goesL_ (some 27) rfl rfl Try.func47 (by kernel_rfl) rfl #[.slice Ao17 t246.length co17, .slice A1 l1.length c1] rfl (by (try simp only [List.map_toArray, List.map_cons, List.map_nil]); first | done | rfl | (simp only [List.length_drop, List.length_take]; rfl)) ?_; (with_reducible refine (soukref01_less.calls k1 _ _ t246 _ _ l1 true _ ?side1 ?side2 ?side3 ?side4 A8.out).mono ?_); (case side1 => repeat (first | exact (Kd.R_reads' HO248.out).2.2 | (with_reducible refine Kd.C_alloc ?_ _) | (with_reducible refine Kd.C_drewN ?_ _) | (with_reducible refine Kd.C_drew ?_))); (case side2 => exact (Kd.R_reads' HO248.out).2.1); (case side3 => repeat (first | exact (Kd.C_below HR1.out HB.out) | (with_reducible refine Kd.C_alloc ?_ _) | (with_reducible refine Kd.C_drewN ?_ _) | (with_reducible refine Kd.C_drew ?_))); (case side4 => exact HC1.out); rintro e w18 ⟨rfl, hb⟩; refine ⟨_, rfl, ?_⟩; have n0_ := Aside0.mk (Kd.R_below (by (with_reducible repeat (first | apply Kd.R_alloc | apply Kd.R_drewN | apply Kd.R_drew)); exact HO_6.out) hb); have n1_ := Aside0.mk (Kd.R_below (by (with_reducible repeat (first | apply Kd.R_alloc | apply Kd.R_drewN | apply Kd.R_drew)); exact HO_7.out) hb); have n2_ := Aside0.mk (Kd.R_below (by (with_reducible repeat (first | apply Kd.R_alloc | apply Kd.R_drewN | apply Kd.R_drew)); exact HO248.out) hb); have n3_ := Aside0.mk (below_step (by repeat (first | (with_reducible first | exact HB.out | apply below_alloc | apply pw_below_drewN | apply below_drew1) | exact HB.out)) hb); clear HO_6; clear HO_7; clear HO248; clear HB; have HO_6 := n0_; have HO_7 := n1_; have HO248 := n2_; have HB := n3_; clear n0_ n1_ n2_ n3_; (try clear hb); (try clear hb2); (try clear hk); (try clear hi)) | ((with_reducible refine gate_dst (N := 30) rfl ?_); refine Kd.R_lit Kd.bool _ 4 ?hg (N := 30) ?hd (xs := ([!true] : List Bool)) (inner := [.bool (!true)]) (ok := fun _ => True) (okp := fun _ => True) ?hr ?hp (fun _ hk => hk) trivial (Below.refl _ _) (Nat.le_refl _) (by simp) ?_; (case hd => rfl); (case hg => rfl); (case hr => first | (go_simp; done) | (go_simp; rfl)); (case hp => exact (Reps.one (show Kd.M Kd.bool _ _ _ (!true) [.bool (!true)] from rfl) (Reps.none _ _))); intro v251 w19 ho20 hb hg_ hnew_; clear hg_ hnew_; (first | rw [← Ny250.out] at ho20 | (simp only [Int.reduceToNat] at ho20; rw [← Ny250.out] at ho20)); have n0_ := Aside0.mk (Kd.R_elder' (by (with_reducible repeat (first | apply Kd.R_alloc | apply Kd.R_drewN | apply Kd.R_drew)); exact HO_6.out) (Kd.R_base ho20) hb); have n1_ := Aside0.mk (Kd.R_elder' (by (with_reducible repeat (first | apply Kd.R_alloc | apply Kd.R_drewN | apply Kd.R_drew)); exact HO_7.out) (Kd.R_base ho20) hb); have n2_ := Aside0.mk (Kd.R_elder' (by (with_reducible repeat (first | apply Kd.R_alloc | apply Kd.R_drewN | apply Kd.R_drew)); exact HO248.out) (Kd.R_base ho20) hb); have n3_ := Aside0.mk (Kd.R_lower (Kd.R_new' (Kd.R_new' (Kd.R_new' ho20 (Kd.R_lt (by (with_reducible repeat (first | apply Kd.R_alloc | apply Kd.R_drewN | apply Kd.R_drew)); exact HO_6.out))) (Kd.R_lt (by (with_reducible repeat (first | apply Kd.R_alloc | apply Kd.R_drewN | apply Kd.R_drew)); exact HO_7.out))) (Kd.R_lt (by (with_reducible repeat (first | apply Kd.R_alloc | apply Kd.R_drewN | apply Kd.R_drew)); exact HO248.out))) (below_size (by repeat (first | (with_reducible first | exact HB.out | apply below_alloc | apply pw_below_drewN | apply below_drew1) | exact HB.out)))); have n4_ := Aside0.mk (below_step (by repeat (first | (with_reducible first | exact HB.out | apply below_alloc | apply pw_below_drewN | apply below_drew1) | exact HB.out)) hb); clear HO_6; clear HO_7; clear HO248; clear HB; have HO_6 := n0_; have HO_7 := n1_; have HO248 := n2_; have HO252 := n3_; have HB := n4_; clear n0_ n1_ n2_ n3_ n4_; clear hb ho20; obtain ⟨Ao22, co22, eo22⟩ := Kd.R_slice HO_6.out; subst eo22) | ((with_reducible refine gate_builtin (b := .append) (xs := #[.tmp 30, .tmp 31]) rfl ?_); at_builtin; refine Kd.R_append_rows Kd.bool (w0 := w) w.heap.size rfl (.tmp 30) (.tmp 31) 87 4 (.bool false) 1 rfl Try.underlying87 info4 rfl (by decide) (by omega) v251 y250 x6_1 _ _ _ (fun k_ => some k_ ≠ (.slice Ao22 x6_1.length co22 : Value).ownBlock ∧ some k_ ≠ (.slice Ao14 x7_1.length co14 : Value).ownBlock ∧ some k_ ≠ (.slice Ao17 t246.length co17 : Value).ownBlock) (fun _ => False) rfl rfl ?aO ?aR (fun _ _ h => h) (fun _ h => h.elim) ?aF ?aB ?aS ?aL ?_; (case aR => repeat (first | exact (Kd.R_reads' HO_6.out).2.2 | (with_reducible refine Kd.C_alloc ?_ _) | (with_reducible refine Kd.C_drewN ?_ _) | (with_reducible refine Kd.C_drew ?_))); (case aB => exact (by repeat (first | (with_reducible first | exact HB.out | apply below_alloc | apply pw_below_drewN | apply below_drew1) | exact HB.out))); (case aF => exact (fun k_ hk => ⟨Kd.fresh' (Kd.R_lt (by (with_reducible repeat (first | apply Kd.R_alloc | apply Kd.R_drewN | apply Kd.R_drew)); exact HO_6.out)) k_ hk, Kd.fresh' (Kd.R_lt (by (with_reducible repeat (first | apply Kd.R_alloc | apply Kd.R_drewN | apply Kd.R_drew)); exact HO_7.out)) k_ hk, Kd.fresh' (Kd.R_lt (by (with_reducible repeat (first | apply Kd.R_alloc | apply Kd.R_drewN | apply Kd.R_drew)); exact HO248.out)) k_ hk⟩)); (case aO => exact (by (with_reducible repeat (first | apply Kd.R_alloc | apply Kd.R_drewN | apply Kd.R_drew)); exact Kd.R_mono HO252.out (fun _ hk => ⟨hk.1.1.2, ⟨hk.1.2, hk.2⟩⟩))); (case aS => exact (below_size (by repeat (first | (with_reducible first | exact HB.out | apply below_alloc | apply pw_below_drewN | apply below_drew1) | exact HB.out)))); (case aL => have := LMc9.out; omega); intro v254 w21 ho hb hg hat; rw [← Ny253.out] at ho; have n0_ := Aside0.mk (Kd.R_after (ok := (fun k_ => some k_ ≠ (.slice Ao14 x7_1.length co14 : Value).ownBlock ∧ some k_ ≠ (.slice Ao17 t246.length co17 : Value).ownBlock)) (by (with_reducible repeat (first | apply Kd.R_alloc | apply Kd.R_drewN | apply Kd.R_drew)); exact HO_6.out) hg hat); have n1_ := Aside0.mk (Kd.R_after (ok := (fun k_ => some k_ ≠ (.slice Ao22 x6_1.length co22 : Value).ownBlock ∧ some k_ ≠ (.slice Ao17 t246.length co17 : Value).ownBlock)) (by (with_reducible repeat (first | apply Kd.R_alloc | apply Kd.R_drewN | apply Kd.R_drew)); exact HO_7.out) hg hat); have n2_ := Aside0.mk (Kd.R_after (ok := (fun k_ => some k_ ≠ (.slice Ao22 x6_1.length co22 : Value).ownBlock ∧ some k_ ≠ (.slice Ao14 x7_1.length co14 : Value).ownBlock)) (by (with_reducible repeat (first | apply Kd.R_alloc | apply Kd.R_drewN | apply Kd.R_drew)); exact HO248.out) hg hat); have n3_ := Aside0.mk (hb); have n4_ := Aside0.mk (ho); clear HO_6; clear HO_7; clear HO248; clear HB; clear HO252; have HO_6 := n0_; have HO_7 := n1_; have HO248 := n2_; have HB := n3_; have HO255 := n4_; clear n0_ n1_ n2_ n3_ n4_; clear ho hb hg hat))
         go_roundg k1
         case measure => have := HK1.out; omega
         case rel => exact ⟨(y253), (t246), (wrap64 (x8_1 - 1)), (by first | rfl | (simp; done) | (simp [*]; done)), H', ⟨by have := HK1.out; omega⟩, ⟨by (with_reducible repeat (first | apply Kd.R_alloc | apply Kd.R_drewN | apply Kd.R_drew)); exact Kd.R_mono HO255.out (fun _ hk => hk.2.2)⟩, ⟨by (with_reducible repeat (first | apply Kd.R_alloc | apply Kd.R_drewN | apply Kd.R_drew)); exact Kd.R_mono HO248.out (fun _ hk => hk.2)⟩, ⟨by repeat (first | (with_reducible first | exact HB.out | apply below_alloc | apply pw_below_drewN | apply below_drew1) | exact HB.out)⟩⟩
        ·replace c10 := Bool.eq_false_iff.mpr c10
         subst c10
         have H1 : ((soukref01_minus.f k1 t246 l1).bind fun t256 => (soukref01_Div.l0 k1 l0 l1 y253 t256 (wrap64 (x8_1 - 1)))) = some (r1, r2) := by rw [if_neg (show ¬ (false = true) by decide)] at H; exact H
         clear H
         have H := H1
         clear H1
         replace H := Option.bind_eq_some_iff.mp H
         obtain ⟨t256, A230, H⟩ := H
         replace H : (soukref01_Div.l0 k1 l0 l1 y253 t256 (wrap64 (x8_1 - 1))) = some (r1, r2) := H
         have A23 := Aside0.mk A230
         clear A230
         have H' := Aside0.mk H
         clear H
         have p239 : 0 ≤ (x8_1 : Int) := of_decide_eq_true (by first | (with_reducible assumption) | assumption)
         have q239 : x8_1 < (l0.length : Int) := of_decide_eq_true (by first | (with_reducible assumption) | assumption)
         obtain ⟨ad239, e239, hx239_0⟩ := Kd.at_bool HR0.out x8_1 p239 q239
         cases e239
         replace hx239_0 := (HB.out.cell (World.block_lt_of_cell? w _ hx239_0)).trans hx239_0
         replace p239 := eq_true p239
         replace q239 := eq_true q239
         go_wp2_with (first | ((with_reducible refine gate_dst (N := 21) rfl ?_); refine Kd.R_lit Kd.bool _ 4 ?hg (N := 21) ?hd (xs := ([rdOf false l0 x8_1] : List Bool)) (inner := [.bool (rdOf false l0 x8_1)]) (ok := fun _ => True) (okp := fun _ => True) ?hr ?hp (fun _ hk => hk) trivial (Below.refl _ _) (Nat.le_refl _) (by simp) ?_; (case hd => rfl); (case hg => rfl); (case hr => first | (go_simp; done) | (go_simp; rfl)); (case hp => exact (Reps.one (show Kd.M Kd.bool _ _ _ (rdOf false l0 x8_1) [.bool (rdOf false l0 x8_1)] from rfl) (Reps.none _ _))); intro v241 w24 ho25 hb hg_ hnew_; clear hg_ hnew_; (first | rw [← Ny240.out] at ho25 | (simp only [Int.reduceToNat] at ho25; rw [← Ny240.out] at ho25)); have n0_ := Aside0.mk (Kd.R_elder' (by (with_reducible repeat (first | apply Kd.R_alloc | apply Kd.R_drewN | apply Kd.R_drew)); exact HO_6.out) (Kd.R_base ho25) hb); have n1_ := Aside0.mk (Kd.R_elder' (by (with_reducible repeat (first | apply Kd.R_alloc | apply Kd.R_drewN | apply Kd.R_drew)); exact HO_7.out) (Kd.R_base ho25) hb); have n2_ := Aside0.mk (Kd.R_lower (Kd.R_new' (Kd.R_new' ho25 (Kd.R_lt (by (with_reducible repeat (first | apply Kd.R_alloc | apply Kd.R_drewN | apply Kd.R_drew)); exact HO_6.out))) (Kd.R_lt (by (with_reducible repeat (first | apply Kd.R_alloc | apply Kd.R_drewN | apply Kd.R_drew)); exact HO_7.out))) (below_size (by repeat (first | (with_reducible first | exact HB.out | apply below_alloc | apply pw_below_drewN | apply below_drew1) | exact HB.out)))); have n3_ := Aside0.mk (below_step (by repeat (first | (with_reducible first | exact HB.out | apply below_alloc | apply pw_below_drewN | apply below_drew1) | exact HB.out)) hb); clear HO_6; clear HO_7; clear HB; have HO_6 := n0_; have HO_7 := n1_; have HO242 := n2_; have HB := n3_; clear n0_ n1_ n2_ n3_; clear hb ho25; obtain ⟨Ao27, co27, eo27⟩ := Kd.R_slice HO_7.out; subst eo27) | ((with_reducible refine gate_builtin (b := .append) (xs := #[.tmp 21, .tmp 22]) rfl ?_); at_builtin; refine Kd.R_append_rows Kd.bool (w0 := w) w.heap.size rfl (.tmp 21) (.tmp 22) 87 4 (.bool false) 1 rfl Try.underlying87 info4 rfl (by decide) (by omega) v241 y240 x7_1 _ _ _ (fun k_ => some k_ ≠ (u6 : Value).ownBlock ∧ some k_ ≠ (.slice Ao27 x7_1.length co27 : Value).ownBlock) (fun _ => False) rfl rfl ?aO ?aR (fun _ _ h => h) (fun _ h => h.elim) ?aF ?aB ?aS ?aL ?_; (case aR => repeat (first | exact (Kd.R_reads' HO_7.out).2.2 | (with_reducible refine Kd.C_alloc ?_ _) | (with_reducible refine Kd.C_drewN ?_ _) | (with_reducible refine Kd.C_drew ?_))); (case aB => exact (by repeat (first | (with_reducible first | exact HB.out | apply below_alloc | apply pw_below_drewN | apply below_drew1) | exact HB.out))); (case aF => exact (fun k_ hk => ⟨Kd.fresh' (Kd.R_lt (by (with_reducible repeat (first | apply Kd.R_alloc | apply Kd.R_drewN | apply Kd.R_drew)); exact HO_6.out)) k_ hk, Kd.fresh' (Kd.R_lt (by (with_reducible repeat (first | apply Kd.R_alloc | apply Kd.R_drewN | apply Kd.R_drew)); exact HO_7.out)) k_ hk⟩)); (case aO => exact (by (with_reducible repeat (first | apply Kd.R_alloc | apply Kd.R_drewN | apply Kd.R_drew)); exact Kd.R_mono HO242.out (fun _ hk => ⟨hk.1.2, hk.2⟩))); (case aS => exact (below_size (by repeat (first | (with_reducible first | exact HB.out | apply below_alloc | apply pw_below_drewN | apply below_drew1) | exact HB.out)))); (case aL => have := LMc6.out; omega); intro v244 w26 ho hb hg hat; rw [← Ny243.out] at ho; have n0_ := Aside0.mk (Kd.R_after (ok := (fun k_ => some k_ ≠ (.slice Ao27 x7_1.length co27 : Value).ownBlock)) (by (with_reducible repeat (first | apply Kd.R_alloc | apply Kd.R_drewN | apply Kd.R_drew)); exact HO_6.out) hg hat); have n1_ := Aside0.mk (Kd.R_after (ok := (fun k_ => some k_ ≠ (u6 : Value).ownBlock)) (by (with_reducible repeat (first | apply Kd.R_alloc | apply Kd.R_drewN | apply Kd.R_drew)); exact HO_7.out) hg hat); have n2_ := Aside0.mk (hb); have n3_ := Aside0.mk (ho); clear HO_6; clear HO_7; clear HB; clear HO242; have HO_6 := n0_; have HO_7 := n1_; have HB := n2_; have HO245 := n3_; clear n0_ n1_ n2_ n3_; clear ho hb hg hat; obtain ⟨Ao28, co28, eo28⟩ := Kd.R_slice HO245.out; subst eo28) | ((with_reducible refine gate_callee (f := 46) rfl ?_); refine goesL_ (some 24) rfl rfl Try.func46 (by kernel_rfl) rfl #[.slice Ao28 y243.length co28] rfl (by (try simp only [List.map_toArray, List.map_cons, List.map_nil]); first | done | rfl | (simp only [List.length_drop, List.length_take]; rfl)) ?_; (with_reducible refine (soukref01_trim.calls k1 (fun k_ => some k_ = (.slice Ao28 y243.length co28 : Value).ownBlock) (.slice Ao28 y243.length co28) y243 t246 w _ ?side1 ?side2 A7.out).mono ?_); (case side1 => repeat (first | (with_reducible first | exact HB.out | apply below_alloc | apply pw_below_drewN | apply below_drew1) | exact HB.out)); (case side2 => exact Kd.R_tight rfl HO245.out); rintro e w29 ⟨v247, rfl, ho0, hb, hkp⟩; refine ⟨_, rfl, ?_⟩; have n0_ := Aside0.mk (Kd.R_mono (ok' := fun k_ => some k_ ≠ (.slice Ao27 x7_1.length co27 : Value).ownBlock ∧ some k_ ≠ (v247 : Value).ownBlock) (Kd.R_keptB (HO_6.out) hkp (fun k_ hk_ hs_ => (hk_.2) hs_)) (fun k_ hk_ => ⟨hk_.1.1, fun e_ => Or.elim (ho0.1 k_ e_.symm) (fun hs_ => hk_.2.1 hs_) (fun hn_ => Nat.not_le.2 hk_.2.2 hn_)⟩)); have n1_ := Aside0.mk (Kd.R_mono (ok' := fun k_ => some k_ ≠ (u6 : Value).ownBlock ∧ some k_ ≠ (v247 : Value).ownBlock) (Kd.R_keptB (HO_7.out) hkp (fun k_ hk_ hs_ => (hk_.2) hs_)) (fun k_ hk_ => ⟨hk_.1.1, fun e_ => Or.elim (ho0.1 k_ e_.symm) (fun hs_ => hk_.2.1 hs_) (fun hn_ => Nat.not_le.2 hk_.2.2 hn_)⟩)); have n2_ := Aside0.mk (Kd.R_mono (ok' := fun k_ => some k_ ≠ (u6 : Value).ownBlock ∧ some k_ ≠ (.slice Ao27 x7_1.length co27 : Value).ownBlock) ho0 (fun k_ hk_ => ⟨Or.elim hk_ (fun hs_ => fun e_ => (((HO_6.out).1 k_ e_.symm).2) hs_) (fun hn_ => (Kd.fresh' (Kd.R_lt (by (with_reducible repeat (first | apply Kd.R_alloc | apply Kd.R_drewN | apply Kd.R_drew)); exact HO_6.out)) k_ hn_)), Or.elim hk_ (fun hs_ => fun e_ => (((HO_7.out).1 k_ e_.symm).2) hs_) (fun hn_ => (Kd.fresh' (Kd.R_lt (by (with_reducible repeat (first | apply Kd.R_alloc | apply Kd.R_drewN | apply Kd.R_drew)); exact HO_7.out)) k_ hn_))⟩)); have n3_ := Aside0.mk (hb); clear HO_6; clear HO_7; clear HB; clear HO245; have HO_6 := n0_; have HO_7 := n1_; have HO248 := n2_; have HB := n3_; clear n0_ n1_ n2_ n3_; (try clear hb); (try clear hkp); (try clear ho0); obtain ⟨Ao30, co30, eo30⟩ := Kd.R_slice HO248.out; subst eo30) | ((with_reducible refine gate_callee (f := 47) rfl ?_); refine goesL_ (some 27) rfl rfl Try.func47 (by kernel_rfl) rfl #[.slice Ao30 t246.length co30, .slice A1 l1.length c1] rfl (by (try simp only [List.map_toArray, List.map_cons, List.map_nil]); first | done | rfl | (simp only [List.length_drop, List.length_take]; rfl)) ?_; (with_reducible refine (soukref01_less.calls k1 _ _ t246 _ _ l1 false _ ?side1 ?side2 ?side3 ?side4 A8.out).mono ?_); (case side1 => repeat (first | exact (Kd.R_reads' HO248.out).2.2 | (with_reducible refine Kd.C_alloc ?_ _) | (with_reducible refine Kd.C_drewN ?_ _) | (with_reducible refine Kd.C_drew ?_))); (case side2 => exact (Kd.R_reads' HO248.out).2.1); (case side3 => repeat (first | exact (Kd.C_below HR1.out HB.out) | (with_reducible refine Kd.C_alloc ?_ _) | (with_reducible refine Kd.C_drewN ?_ _) | (with_reducible refine Kd.C_drew ?_))); (case side4 => exact HC1.out); rintro e w31 ⟨rfl, hb⟩; refine ⟨_, rfl, ?_⟩; have n0_ := Aside0.mk (Kd.R_below (by (with_reducible repeat (first | apply Kd.R_alloc | apply Kd.R_drewN | apply Kd.R_drew)); exact HO_6.out) hb); have n1_ := Aside0.mk (Kd.R_below (by (with_reducible repeat (first | apply Kd.R_alloc | apply Kd.R_drewN | apply Kd.R_drew)); exact HO_7.out) hb); have n2_ := Aside0.mk (Kd.R_below (by (with_reducible repeat (first | apply Kd.R_alloc | apply Kd.R_drewN | apply Kd.R_drew)); exact HO248.out) hb); have n3_ := Aside0.mk (below_step (by repeat (first | (with_reducible first | exact HB.out | apply below_alloc | apply pw_below_drewN | apply below_drew1) | exact HB.out)) hb); clear HO_6; clear HO_7; clear HO248; clear HB; have HO_6 := n0_; have HO_7 := n1_; have HO248 := n2_; have HB := n3_; clear n0_ n1_ n2_ n3_; (try clear hb); (try clear hb2); (try clear hk); (try clear hi)) | ((with_reducible refine gate_dst (N := 30) rfl ?_); refine Kd.R_lit Kd.bool _ 4 ?hg (N := 30) ?hd (xs := ([!false] : List Bool)) (inner := [.bool (!false)]) (ok := fun _ => True) (okp := fun _ => True) ?hr ?hp (fun _ hk => hk) trivial (Below.refl _ _) (Nat.le_refl _) (by simp) ?_; (case hd => rfl); (case hg => rfl); (case hr => first | (go_simp; done) | (go_simp; rfl)); (case hp => exact (Reps.one (show Kd.M Kd.bool _ _ _ (!false) [.bool (!false)] from rfl) (Reps.none _ _))); intro v251 w32 ho33 hb hg_ hnew_; clear hg_ hnew_; (first | rw [← Ny250.out] at ho33 | (simp only [Int.reduceToNat] at ho33; rw [← Ny250.out] at ho33)); have n0_ := Aside0.mk (Kd.R_elder' (by (with_reducible repeat (first | apply Kd.R_alloc | apply Kd.R_drewN | apply Kd.R_drew)); exact HO_6.out) (Kd.R_base ho33) hb); have n1_ := Aside0.mk (Kd.R_elder' (by (with_reducible repeat (first | apply Kd.R_alloc | apply Kd.R_drewN | apply Kd.R_drew)); exact HO_7.out) (Kd.R_base ho33) hb); have n2_ := Aside0.mk (Kd.R_elder' (by (with_reducible repeat (first | apply Kd.R_alloc | apply Kd.R_drewN | apply Kd.R_drew)); exact HO248.out) (Kd.R_base ho33) hb); have n3_ := Aside0.mk (Kd.R_lower (Kd.R_new' (Kd.R_new' (Kd.R_new' ho33 (Kd.R_lt (by (with_reducible repeat (first | apply Kd.R_alloc | apply Kd.R_drewN | apply Kd.R_drew)); exact HO_6.out))) (Kd.R_lt (by (with_reducible repeat (first | apply Kd.R_alloc | apply Kd.R_drewN | apply Kd.R_drew)); exact HO_7.out))) (Kd.R_lt (by (with_reducible repeat (first | apply Kd.R_alloc | apply Kd.R_drewN | apply Kd.R_drew)); exact HO248.out))) (below_size (by repeat (first | (with_reducible first | exact HB.out | apply below_alloc | apply pw_below_drewN | apply below_drew1) | exact HB.out)))); have n4_ := Aside0.mk (below_step (by repeat (first | (with_reducible first | exact HB.out | apply below_alloc | apply pw_below_drewN | apply below_drew1) | exact HB.out)) hb); clear HO_6; clear HO_7; clear HO248; clear HB; have HO_6 := n0_; have HO_7 := n1_; have HO248 := n2_; have HO252 := n3_; have HB := n4_; clear n0_ n1_ n2_ n3_ n4_; clear hb ho33; obtain ⟨Ao35, co35, eo35⟩ := Kd.R_slice HO_6.out; subst eo35) | ((with_reducible refine gate_builtin (b := .append) (xs := #[.tmp 30, .tmp 31]) rfl ?_); at_builtin; refine Kd.R_append_rows Kd.bool (w0 := w) w.heap.size rfl (.tmp 30) (.tmp 31) 87 4 (.bool false) 1 rfl Try.underlying87 info4 rfl (by decide) (by omega) v251 y250 x6_1 _ _ _ (fun k_ => some k_ ≠ (.slice Ao35 x6_1.length co35 : Value).ownBlock ∧ some k_ ≠ (.slice Ao27 x7_1.length co27 : Value).ownBlock ∧ some k_ ≠ (.slice Ao30 t246.length co30 : Value).ownBlock) (fun _ => False) rfl rfl ?aO ?aR (fun _ _ h => h) (fun _ h => h.elim) ?aF ?aB ?aS ?aL ?_; (case aR => repeat (first | exact (Kd.R_reads' HO_6.out).2.2 | (with_reducible refine Kd.C_alloc ?_ _) | (with_reducible refine Kd.C_drewN ?_ _) | (with_reducible refine Kd.C_drew ?_))); (case aB => exact (by repeat (first | (with_reducible first | exact HB.out | apply below_alloc | apply pw_below_drewN | apply below_drew1) | exact HB.out))); (case aF => exact (fun k_ hk => ⟨Kd.fresh' (Kd.R_lt (by (with_reducible repeat (first | apply Kd.R_alloc | apply Kd.R_drewN | apply Kd.R_drew)); exact HO_6.out)) k_ hk, Kd.fresh' (Kd.R_lt (by (with_reducible repeat (first | apply Kd.R_alloc | apply Kd.R_drewN | apply Kd.R_drew)); exact HO_7.out)) k_ hk, Kd.fresh' (Kd.R_lt (by (with_reducible repeat (first | apply Kd.R_alloc | apply Kd.R_drewN | apply Kd.R_drew)); exact HO248.out)) k_ hk⟩)); (case aO => exact (by (with_reducible repeat (first | apply Kd.R_alloc | apply Kd.R_drewN | apply Kd.R_drew)); exact Kd.R_mono HO252.out (fun _ hk => ⟨hk.1.1.2, ⟨hk.1.2, hk.2⟩⟩))); (case aS => exact (below_size (by repeat (first | (with_reducible first | exact HB.out | apply below_alloc | apply pw_below_drewN | apply below_drew1) | exact HB.out)))); (case aL => have := LMc9.out; omega); intro v254 w34 ho hb hg hat; rw [← Ny253.out] at ho; have n0_ := Aside0.mk (Kd.R_after (ok := (fun k_ => some k_ ≠ (.slice Ao27 x7_1.length co27 : Value).ownBlock ∧ some k_ ≠ (.slice Ao30 t246.length co30 : Value).ownBlock)) (by (with_reducible repeat (first | apply Kd.R_alloc | apply Kd.R_drewN | apply Kd.R_drew)); exact HO_6.out) hg hat); have n1_ := Aside0.mk (Kd.R_after (ok := (fun k_ => some k_ ≠ (.slice Ao35 x6_1.length co35 : Value).ownBlock ∧ some k_ ≠ (.slice Ao30 t246.length co30 : Value).ownBlock)) (by (with_reducible repeat (first | apply Kd.R_alloc | apply Kd.R_drewN | apply Kd.R_drew)); exact HO_7.out) hg hat); have n2_ := Aside0.mk (Kd.R_after (ok := (fun k_ => some k_ ≠ (.slice Ao35 x6_1.length co35 : Value).ownBlock ∧ some k_ ≠ (.slice Ao27 x7_1.length co27 : Value).ownBlock)) (by (with_reducible repeat (first | apply Kd.R_alloc | apply Kd.R_drewN | apply Kd.R_drew)); exact HO248.out) hg hat); have n3_ := Aside0.mk (hb); have n4_ := Aside0.mk (ho); clear HO_6; clear HO_7; clear HO248; clear HB; clear HO252; have HO_6 := n0_; have HO_7 := n1_; have HO248 := n2_; have HB := n3_; have HO255 := n4_; clear n0_ n1_ n2_ n3_ n4_; clear ho hb hg hat) | ((with_reducible refine gate_callee (f := 65) rfl ?_); refine goesL_ (some 36) rfl rfl Try.func65 (by kernel_rfl) rfl #[.slice Ao30 t246.length co30, .slice A1 l1.length c1] rfl (by (try simp only [List.map_toArray, List.map_cons, List.map_nil]); first | done | rfl | (simp only [List.length_drop, List.length_take]; rfl)) ?_; (with_reducible refine (soukref01_minus.calls k1 _ _ t246 _ _ l1 t256 _ ?side1 ?side2 ?side3 ?side4 A23.out).mono ?_); (case side1 => repeat (first | exact (Kd.R_reads' HO248.out).2.2 | (with_reducible refine Kd.C_alloc ?_ _) | (with_reducible refine Kd.C_drewN ?_ _) | (with_reducible refine Kd.C_drew ?_))); (case side2 => exact (Kd.R_reads' HO248.out).2.1); (case side3 => repeat (first | exact (Kd.C_below HR1.out HB.out) | (with_reducible refine Kd.C_alloc ?_ _) | (with_reducible refine Kd.C_drewN ?_ _) | (with_reducible refine Kd.C_drew ?_))); (case side4 => exact HC1.out); rintro e w36 ⟨v257, rfl, ho0, hb⟩; refine ⟨_, rfl, ?_⟩; have n0_ := Aside0.mk (Kd.R_elder' (by (with_reducible repeat (first | apply Kd.R_alloc | apply Kd.R_drewN | apply Kd.R_drew)); exact HO_6.out) (Kd.R_base ho0) hb); have n1_ := Aside0.mk (Kd.R_elder' (by (with_reducible repeat (first | apply Kd.R_alloc | apply Kd.R_drewN | apply Kd.R_drew)); exact HO_7.out) (Kd.R_base ho0) hb); have n2_ := Aside0.mk (Kd.R_elder' (by (with_reducible repeat (first | apply Kd.R_alloc | apply Kd.R_drewN | apply Kd.R_drew)); exact HO248.out) (Kd.R_base ho0) hb); have n3_ := Aside0.mk (Kd.R_elder' (by (with_reducible repeat (first | apply Kd.R_alloc | apply Kd.R_drewN | apply Kd.R_drew)); exact HO255.out) (Kd.R_base ho0) hb); have n4_ := Aside0.mk (Kd.R_lower (Kd.R_new' (Kd.R_new' (Kd.R_new' (Kd.R_new' ho0 (Kd.R_lt (by (with_reducible repeat (first | apply Kd.R_alloc | apply Kd.R_drewN | apply Kd.R_drew)); exact HO_6.out))) (Kd.R_lt (by (with_reducible repeat (first | apply Kd.R_alloc | apply Kd.R_drewN | apply Kd.R_drew)); exact HO_7.out))) (Kd.R_lt (by (with_reducible repeat (first | apply Kd.R_alloc | apply Kd.R_drewN | apply Kd.R_drew)); exact HO248.out))) (Kd.R_lt (by (with_reducible repeat (first | apply Kd.R_alloc | apply Kd.R_drewN | apply Kd.R_drew)); exact HO255.out))) (below_size (by repeat (first | (with_reducible first | exact HB.out | apply below_alloc | apply pw_below_drewN | apply below_drew1) | exact HB.out)))); have n5_ := Aside0.mk (below_step (by repeat (first | (with_reducible first | exact HB.out | apply below_alloc | apply pw_below_drewN | apply below_drew1) | exact HB.out)) hb); clear HO_6; clear HO_7; clear HO248; clear HO255; clear HB; have HO_6 := n0_; have HO_7 := n1_; have HO248 := n2_; have HO255 := n3_; have HO258 := n4_; have HB := n5_; clear n0_ n1_ n2_ n3_ n4_ n5_; (try clear hb); (try clear hb2); (try clear hk); (try clear hi); (try clear ho0)))
         go_roundg k1
         case measure => have := HK1.out; omega
         case rel => exact ⟨(y253), (t256), (wrap64 (x8_1 - 1)), (by first | rfl | (simp; done) | (simp [*]; done)), H', ⟨by have := HK1.out; omega⟩, ⟨by (with_reducible repeat (first | apply Kd.R_alloc | apply Kd.R_drewN | apply Kd.R_drew)); exact Kd.R_mono HO255.out (fun _ hk => hk.2)⟩, ⟨by (with_reducible repeat (first | apply Kd.R_alloc | apply Kd.R_drewN | apply Kd.R_drew)); exact Kd.R_mono HO258.out (fun _ hk => hk.2)⟩, ⟨by repeat (first | (with_reducible first | exact HB.out | apply below_alloc | apply pw_below_drewN | apply below_drew1) | exact HB.out)⟩⟩
       ·rw [if_neg c9] at H
        exact absurd H (by simp)
      ·rw [if_neg c6] at H
       exact absurd H (by simp)
     ·rw [if_neg c5] at H
      exact absurd H (by simp)
    ·rw [if_neg c4] at H
     exact absurd H (by simp)
   ·rw [if_neg c3] at H
    have c3b0 : decide (0 ≤ x8_1) = false := decide_eq_false c3
    clear c3
    replace H := Option.bind_eq_some_iff.mp H
    obtain ⟨t236, A370, H⟩ := H
    replace H : (some (t236, x7_1)) = some (r1, r2) := H
    have A37 := Aside0.mk A370
    clear A370
    simp only [Option.some.injEq, Prod.mk.injEq] at H
    obtain ⟨rfl, rfl⟩ := H
    obtain ⟨Ao38, co38, eo38⟩ := Kd.R_slice HO_6.out
    subst eo38
    go_wp2_with (first | ((with_reducible refine gate_callee (f := 46) rfl ?_); refine goesL_ (some 38) rfl rfl Try.func46 (by kernel_rfl) rfl #[.slice Ao38 x6_1.length co38] rfl (by (try simp only [List.map_toArray, List.map_cons, List.map_nil]); first | done | rfl | (simp only [List.length_drop, List.length_take]; rfl)) ?_; (with_reducible refine (soukref01_trim.calls k1 (fun k_ => some k_ = (.slice Ao38 x6_1.length co38 : Value).ownBlock) (.slice Ao38 x6_1.length co38) x6_1 t236 w _ ?side1 ?side2 A37.out).mono ?_); (case side1 => repeat (first | (with_reducible first | exact HB.out | apply below_alloc | apply pw_below_drewN | apply below_drew1) | exact HB.out)); (case side2 => exact Kd.R_tight rfl HO_6.out); rintro e w39 ⟨v237, rfl, ho0, hb, hkp⟩; refine ⟨_, rfl, ?_⟩; have n0_ := Aside0.mk (Kd.R_mono (ok' := fun k_ => some k_ ≠ (v237 : Value).ownBlock) (Kd.R_keptB (HO_7.out) hkp (fun k_ hk_ hs_ => (hk_) hs_)) (fun k_ hk_ => fun e_ => Or.elim (ho0.1 k_ e_.symm) (fun hs_ => hk_.2.1 hs_) (fun hn_ => Nat.not_le.2 hk_.2.2 hn_))); have n1_ := Aside0.mk (Kd.R_mono (ok' := fun k_ => some k_ ≠ (u7 : Value).ownBlock) ho0 (fun k_ hk_ => Or.elim hk_ (fun hs_ => fun e_ => (((HO_7.out).1 k_ e_.symm)) hs_) (fun hn_ => (Kd.fresh' (Kd.R_lt (by (with_reducible repeat (first | apply Kd.R_alloc | apply Kd.R_drewN | apply Kd.R_drew)); exact HO_7.out)) k_ hn_)))); have n2_ := Aside0.mk (hb); clear HO_7; clear HB; clear HO_6; have HO_7 := n0_; have HO238 := n1_; have HB := n2_; clear n0_ n1_ n2_; (try clear hb); (try clear hkp); (try clear ho0)))
    go_ret2
    exact ⟨_, _, by first | rfl | (simp [errW_none, errW_some] <;> rfl) | (simp [*, errW_none, errW_some] <;> rfl), by (with_reducible repeat (first | apply Kd.R_alloc | apply Kd.R_drewN | apply Kd.R_drew)); exact HO238.out, by (with_reducible repeat (first | apply Kd.R_alloc | apply Kd.R_drewN | apply Kd.R_drew)); exact HO_7.out, by repeat (first | (with_reducible first | exact HB.out | apply below_alloc | apply pw_below_drewN | apply below_drew1) | exact HB.out)⟩
end Go.Proofs.Ytncnhhnbjmpomaa.Q
namespace Go.Proofs.Ytncnhhnbjmpomaa.Q
open Go.RowKit Go.Proofs.YtncnhhnbjmpomaaW.PrintWords Go.Proofs.YtncnhhnbjmpomaaW.PrintLast Go.Proofs.YtncnhhnbjmpomaaW.PrintMore
attribute [local go_sem] max2_int min2_int max_two min_two max_three min_three max_four min_four   -- for this text's walks alone
set_option linter.unusedVariables false
set_option linter.unusedSimpArgs false
mutual
def soukref01_Plus.l0 : Nat → List Bool → List Bool → List Bool → Bool → Int → Option (List Bool)
 | 0, _, _, _, _, _ => none
 | k + 1, x0, x1, x5, x6, x7 => if x7 < (x0.length : Int) then (soukref01_Plus.j1 k x0 x1 x5 x6 x7 true) else (if x7 < (x1.length : Int) then (soukref01_Plus.j1 k x0 x1 x5 x6 x7 true) else (soukref01_Plus.j1 k x0 x1 x5 x6 x7 x6))
def soukref01_Plus.j1 : Nat → List Bool → List Bool → List Bool → Bool → Int → Bool → Option (List Bool)
 | 0, _, _, _, _, _, _ => none
 | k + 1, x0, x1, x5, x6, x7, x22 => if x22 = true then ((soukref01_Wide_at.f x0 x7).bind fun t259 => ((soukref01_Wide_at.f x1 x7).bind fun t260 => (if t259 = true then (if t260 = true then (if x6 = true then (if x5.length < 140737488355328 then (soukref01_Plus.l0 k x0 x1 (x5 ++ [true]) true (wrap64 (x7 + 1))) else (none)) else (if x5.length < 140737488355328 then (soukref01_Plus.l0 k x0 x1 (x5 ++ [false]) true (wrap64 (x7 + 1))) else (none))) else (if x6 = true then (if x5.length < 140737488355328 then (soukref01_Plus.l0 k x0 x1 (x5 ++ [false]) true (wrap64 (x7 + 1))) else (none)) else (if x5.length < 140737488355328 then (soukref01_Plus.l0 k x0 x1 (x5 ++ [true]) false (wrap64 (x7 + 1))) else (none)))) else (if t260 = true then (if x6 = true then (if x5.length < 140737488355328 then (soukref01_Plus.l0 k x0 x1 (x5 ++ [false]) x6 (wrap64 (x7 + 1))) else (none)) else (if x5.length < 140737488355328 then (soukref01_Plus.l0 k x0 x1 (x5 ++ [true]) x6 (wrap64 (x7 + 1))) else (none))) else (if x6 = true then (if x5.length < 140737488355328 then (soukref01_Plus.l0 k x0 x1 (x5 ++ [true]) false (wrap64 (x7 + 1))) else (none)) else (if x5.length < 140737488355328 then (soukref01_Plus.l0 k x0 x1 (x5 ++ [false]) false (wrap64 (x7 + 1))) else (none))))))) else (some x5)
end
def soukref01_Plus.f (k : Nat) (l0 : List Bool) (l1 : List Bool) : Option (List Bool) := soukref01_Plus.l0 k l0 l1 ([] : List Bool) false 0
set_option maxHeartbeats 8000000 in
set_option maxRecDepth 100000 in
theorem soukref01_Plus.calls (k : Nat) (A0 : Option Addr) (c0 : Nat) (l0 : List Bool) (A1 : Option Addr) (c1 : Nat) (l1 : List Bool) (r : List Bool) (w : World) (hr0 : Kd.C Kd.bool w A0 l0.length l0) (hc0 : l0.length ≤ c0) (hr1 : Kd.C Kd.bool w A1 l1.length l1) (hc1 : l1.length ≤ c1) (h : soukref01_Plus.f k l0 l1 = some r) :
  Calls Try.prog 45 #[.slice A0 l0.length c0, .slice A1 l1.length c1] w fun e w' => ∃ v0_ : Value, e = .returned (v0_) ∧ Kd.R Kd.bool 4 w' w.heap.size (fun _ => True) v0_ r ∧ Below w.heap.size w w' := by
 have HR0 := Aside0.mk hr0
 have HC0 := Aside0.mk hc0
 clear hr0 hc0
 have HR1 := Aside0.mk hr1
 have HC1 := Aside0.mk hc1
 clear hr1 hc1
 have HB := Aside0.mk (Below.refl w.heap.size w)
 have H : (soukref01_Plus.l0 k l0 l1 ([] : List Bool) false 0) = some r := h
 clear h
 have H' := Aside0.mk H
 clear H
 go_enter Try.func45, Try.ntmps45
 go_wp2
 go_loopg [5, 6, 7] k (fun kq v5 v6 v7 w' => ∃ (x5_1 : List Bool) (x6_1 : Bool) (x7_1 : Int), v6 = .bool x6_1 ∧ v7 = .int .i64 x7_1 ∧ Aside0 (soukref01_Plus.l0 kq l0 l1 x5_1 x6_1 x7_1 = some r) ∧ Aside0 (kq ≤ k) ∧ Aside0 (Kd.R Kd.bool 4 w' w.heap.size (fun _ => True) v5 x5_1) ∧ Aside0 (Below w.heap.size w w'))
 case atStart => exact ⟨(([] : List Bool)), (false), (0), (by first | rfl | (simp; done) | (simp [*]; done)), (by first | rfl | (simp; done) | (simp [*]; done)), H', ⟨Nat.le_refl _⟩, ⟨by first | exact Kd.R_nil _ _ _ _ _ | exact Kd.N_nil _ _ _ _ _ | exact Kd.V_nil _ _ _ _ _ | exact Kd.Q_nil _ _ _ _ _ | exact Kd.S_nil _ _ _ _ _⟩, ⟨by repeat (first | (with_reducible first | exact HB.out | apply below_alloc | apply pw_below_drewN | apply below_drew1) | exact HB.out)⟩⟩
 case round =>
  clear H'
  try clear c1
  try clear p2
  obtain ⟨x5_1, x6_1, x7_1, rfl, rfl, HA, HK1, HO_5, HB⟩ := hrel
  cases gk with
  | zero => exact absurd HA.out (by simp [soukref01_Plus.l0])
  | succ k1 =>
   have H := HA.out
   clear HA
   simp only [soukref01_Plus.l0] at H
   have HC3 := Aside0.mk H
   clear H
   go_upto_region 4 with (fail)
   go_cut [22] (fun v22 wc => ∃ (kq : Nat) (x22_2 : Bool), v22 = .bool x22_2 ∧ Aside0 (soukref01_Plus.j1 kq l0 l1 x5_1 x6_1 x7_1 x22_2 = some r) ∧ Aside0 (kq ≤ k1) ∧ Aside0 (Kd.R Kd.bool 4 wc w.heap.size (fun _ => True) u5 x5_1) ∧ Aside0 (Below w.heap.size w wc))
   case first =>
    have H := HC3.out
    clear HC3
    by_cases c4 : x7_1 < (l0.length : Int)
    ·rw [if_pos c4] at H
     have c4b0 : decide (x7_1 < (l0.length : Int)) = true := decide_eq_true c4
     clear c4
     (first | rw [c4b0] | (simp only [i64_w, i32_w]; rw [c4b0]) | skip)
     have H' := Aside0.mk H
     clear H
     go_wp2
     go_meet
     case rel => exact ⟨_, (true), (by first | rfl | (simp; done) | (simp [*]; done)), H', ⟨by have := HK1.out; first | omega | exact Nat.le_refl _⟩, ⟨by (with_reducible repeat (first | apply Kd.R_alloc | apply Kd.R_drewN | apply Kd.R_drew)); exact HO_5.out⟩, ⟨by repeat (first | (with_reducible first | exact HB.out | apply below_alloc | apply pw_below_drewN | apply below_drew1) | exact HB.out)⟩⟩
    ·rw [if_neg c4] at H
     have c4b0 : decide (x7_1 < (l0.length : Int)) = false := decide_eq_false c4
     clear c4
     (first | rw [c4b0] | (simp only [i64_w, i32_w]; rw [c4b0]) | skip)
     by_cases c5 : x7_1 < (l1.length : Int)
     ·rw [if_pos c5] at H
      have c5b0 : decide (x7_1 < (l1.length : Int)) = true := decide_eq_true c5
      clear c5
      have H' := Aside0.mk H
      clear H
      go_wp2
      go_meet
      case rel => exact ⟨_, (true), (by first | rfl | (simp; done) | (simp [*]; done)), H', ⟨by have := HK1.out; first | omega | exact Nat.le_refl _⟩, ⟨by (with_reducible repeat (first | apply Kd.R_alloc | apply Kd.R_drewN | apply Kd.R_drew)); exact HO_5.out⟩, ⟨by repeat (first | (with_reducible first | exact HB.out | apply below_alloc | apply pw_below_drewN | apply below_drew1) | exact HB.out)⟩⟩
     ·rw [if_neg c5] at H
      have c5b0 : decide (x7_1 < (l1.length : Int)) = false := decide_eq_false c5
      clear c5
      have H' := Aside0.mk H
      clear H
      go_wp2
      go_meet
      case rel => exact ⟨_, (x6_1), (by first | rfl | (simp; done) | (simp [*]; done)), H', ⟨by have := HK1.out; first | omega | exact Nat.le_refl _⟩, ⟨by (with_reducible repeat (first | apply Kd.R_alloc | apply Kd.R_drewN | apply Kd.R_drew)); exact HO_5.out⟩, ⟨by repeat (first | (with_reducible first | exact HB.out | apply below_alloc | apply pw_below_drewN | apply below_drew1) | exact HB.out)⟩⟩
   case rest =>
    clear HC3
    try clear c1
    try clear p2
    try clear c4
    try clear c4b0
    try clear c5
    try clear c5b0
    try clear p2
    obtain ⟨kq, x22_2, rfl, HA, HJ2, HO_5, HB⟩ := hcut
    cases kq with
    | zero => exact absurd HA.out (by simp [soukref01_Plus.j1])
    | succ kj2 =>
     have H := HA.out
     clear HA
     simp only [soukref01_Plus.j1] at H
     by_cases c6 : x22_2 = true
     ·subst c6
      have H1 : ((soukref01_Wide_at.f l0 x7_1).bind fun t259 => ((soukref01_Wide_at.f l1 x7_1).bind fun t260 => (if t259 = true then (if t260 = true then (if x6_1 = true then (if x5_1.length < 140737488355328 then (soukref01_Plus.l0 kj2 l0 l1 (x5_1 ++ [true]) true (wrap64 (x7_1 + 1))) else (none)) else (if x5_1.length < 140737488355328 then (soukref01_Plus.l0 kj2 l0 l1 (x5_1 ++ [false]) true (wrap64 (x7_1 + 1))) else (none))) else (if x6_1 = true then (if x5_1.length < 140737488355328 then (soukref01_Plus.l0 kj2 l0 l1 (x5_1 ++ [false]) true (wrap64 (x7_1 + 1))) else (none)) else (if x5_1.length < 140737488355328 then (soukref01_Plus.l0 kj2 l0 l1 (x5_1 ++ [true]) false (wrap64 (x7_1 + 1))) else (none)))) else (if t260 = true then (if x6_1 = true then (if x5_1.length < 140737488355328 then (soukref01_Plus.l0 kj2 l0 l1 (x5_1 ++ [false]) x6_1 (wrap64 (x7_1 + 1))) else (none)) else (if x5_1.length < 140737488355328 then (soukref01_Plus.l0 kj2 l0 l1 (x5_1 ++ [true]) x6_1 (wrap64 (x7_1 + 1))) else (none))) else (if x6_1 = true then (if x5_1.length < 140737488355328 then (soukref01_Plus.l0 kj2 l0 l1 (x5_1 ++ [true]) false (wrap64 (x7_1 + 1))) else (none)) else (if x5_1.length < 140737488355328 then (soukref01_Plus.l0 kj2 l0 l1 (x5_1 ++ [false]) false (wrap64 (x7_1 + 1))) else (none))))))) = some r := by rw [if_pos rfl] at H; exact H
      clear H
      have H := H1
      clear H1
      replace H := Option.bind_eq_some_iff.mp H
      obtain ⟨t259, A70, H⟩ := H
      replace H : ((soukref01_Wide_at.f l1 x7_1).bind fun t260 => (if t259 = true then (if t260 = true then (if x6_1 = true then (if x5_1.length < 140737488355328 then (soukref01_Plus.l0 kj2 l0 l1 (x5_1 ++ [true]) true (wrap64 (x7_1 + 1))) else (none)) else (if x5_1.length < 140737488355328 then (soukref01_Plus.l0 kj2 l0 l1 (x5_1 ++ [false]) true (wrap64 (x7_1 + 1))) else (none))) else (if x6_1 = true then (if x5_1.length < 140737488355328 then (soukref01_Plus.l0 kj2 l0 l1 (x5_1 ++ [false]) true (wrap64 (x7_1 + 1))) else (none)) else (if x5_1.length < 140737488355328 then (soukref01_Plus.l0 kj2 l0 l1 (x5_1 ++ [true]) false (wrap64 (x7_1 + 1))) else (none)))) else (if t260 = true then (if x6_1 = true then (if x5_1.length < 140737488355328 then (soukref01_Plus.l0 kj2 l0 l1 (x5_1 ++ [false]) x6_1 (wrap64 (x7_1 + 1))) else (none)) else (if x5_1.length < 140737488355328 then (soukref01_Plus.l0 kj2 l0 l1 (x5_1 ++ [true]) x6_1 (wrap64 (x7_1 + 1))) else (none))) else (if x6_1 = true then (if x5_1.length < 140737488355328 then (soukref01_Plus.l0 kj2 l0 l1 (x5_1 ++ [true]) false (wrap64 (x7_1 + 1))) else (none)) else (if x5_1.length < 140737488355328 then (soukref01_Plus.l0 kj2 l0 l1 (x5_1 ++ [false]) false (wrap64 (x7_1 + 1))) else (none)))))) = some r := H
      have A7 := Aside0.mk A70
      clear A70
      replace H := Option.bind_eq_some_iff.mp H
      obtain ⟨t260, A80, H⟩ := H
      replace H : (if t259 = true then (if t260 = true then (if x6_1 = true then (if x5_1.length < 140737488355328 then (soukref01_Plus.l0 kj2 l0 l1 (x5_1 ++ [true]) true (wrap64 (x7_1 + 1))) else (none)) else (if x5_1.length < 140737488355328 then (soukref01_Plus.l0 kj2 l0 l1 (x5_1 ++ [false]) true (wrap64 (x7_1 + 1))) else (none))) else (if x6_1 = true then (if x5_1.length < 140737488355328 then (soukref01_Plus.l0 kj2 l0 l1 (x5_1 ++ [false]) true (wrap64 (x7_1 + 1))) else (none)) else (if x5_1.length < 140737488355328 then (soukref01_Plus.l0 kj2 l0 l1 (x5_1 ++ [true]) false (wrap64 (x7_1 + 1))) else (none)))) else (if t260 = true then (if x6_1 = true then (if x5_1.length < 140737488355328 then (soukref01_Plus.l0 kj2 l0 l1 (x5_1 ++ [false]) x6_1 (wrap64 (x7_1 + 1))) else (none)) else (if x5_1.length < 140737488355328 then (soukref01_Plus.l0 kj2 l0 l1 (x5_1 ++ [true]) x6_1 (wrap64 (x7_1 + 1))) else (none))) else (if x6_1 = true then (if x5_1.length < 140737488355328 then (soukref01_Plus.l0 kj2 l0 l1 (x5_1 ++ [true]) false (wrap64 (x7_1 + 1))) else (none)) else (if x5_1.length < 140737488355328 then (soukref01_Plus.l0 kj2 l0 l1 (x5_1 ++ [false]) false (wrap64 (x7_1 + 1))) else (none))))) = some r := H
      have A8 := Aside0.mk A80
      clear A80
      by_cases c9 : t259 = true
      ·subst c9
       have H1 : (if t260 = true then (if x6_1 = true then (if x5_1.length < 140737488355328 then (soukref01_Plus.l0 kj2 l0 l1 (x5_1 ++ [true]) true (wrap64 (x7_1 + 1))) else (none)) else (if x5_1.length < 140737488355328 then (soukref01_Plus.l0 kj2 l0 l1 (x5_1 ++ [false]) true (wrap64 (x7_1 + 1))) else (none))) else (if x6_1 = true then (if x5_1.length < 140737488355328 then (soukref01_Plus.l0 kj2 l0 l1 (x5_1 ++ [false]) true (wrap64 (x7_1 + 1))) else (none)) else (if x5_1.length < 140737488355328 then (soukref01_Plus.l0 kj2 l0 l1 (x5_1 ++ [true]) false (wrap64 (x7_1 + 1))) else (none)))) = some r := by rw [if_pos rfl] at H; exact H
       clear H
       have H := H1
       clear H1
       by_cases c10 : t260 = true
       ·subst c10
        have H1 : (if x6_1 = true then (if x5_1.length < 140737488355328 then (soukref01_Plus.l0 kj2 l0 l1 (x5_1 ++ [true]) true (wrap64 (x7_1 + 1))) else (none)) else (if x5_1.length < 140737488355328 then (soukref01_Plus.l0 kj2 l0 l1 (x5_1 ++ [false]) true (wrap64 (x7_1 + 1))) else (none))) = some r := by rw [if_pos rfl] at H; exact H
        clear H
        have H := H1
        clear H1
        by_cases c11 : x6_1 = true
        ·subst c11
         have H1 : (if x5_1.length < 140737488355328 then (soukref01_Plus.l0 kj2 l0 l1 (x5_1 ++ [true]) true (wrap64 (x7_1 + 1))) else (none)) = some r := by rw [if_pos rfl] at H; exact H
         clear H
         have H := H1
         clear H1
         by_cases c12 : x5_1.length < 140737488355328
         ·rw [if_pos c12] at H
          have LMc12 := Aside0.mk c12
          clear c12
          obtain ⟨y261, hy261⟩ : ∃ y_ : List Bool, y_ = (x5_1 ++ [true]) := ⟨_, rfl⟩
          replace H : (soukref01_Plus.l0 kj2 l0 l1 y261 true (wrap64 (x7_1 + 1))) = some r := by first | (rw [hy261]; with_reducible exact H) | (have H2_ := (Option.bind_some _ _).symm.trans H; rw [hy261]; with_reducible exact H2_) | (have H2_ := (Option.bind_some _ _).symm.trans H; with_reducible exact H2_) | with_reducible exact H | (rw [hy261]; exact H) | exact H
          have Ny261 := Aside0.mk hy261
          clear hy261
          have H' := Aside0.mk H
          clear H
          go_wp2_with (first | ((with_reducible refine gate_callee (f := 48) rfl ?_); refine goesL_ (some 27) rfl rfl Try.func48 (by kernel_rfl) rfl #[.slice A0 l0.length c0, .int .i64 x7_1] rfl (by (try simp only [List.map_toArray, List.map_cons, List.map_nil]); first | done | rfl | (simp only [List.length_drop, List.length_take]; rfl)) ?_; (with_reducible refine (soukref01_Wide_at.calls _ _ l0 x7_1 true _ ?side1 ?side2 A7.out).mono ?_); (case side1 => repeat (first | exact (Kd.C_below HR0.out HB.out) | (with_reducible refine Kd.C_alloc ?_ _) | (with_reducible refine Kd.C_drewN ?_ _) | (with_reducible refine Kd.C_drew ?_))); (case side2 => exact HC0.out); rintro e w' ⟨rfl, ⟨nd, rfl⟩⟩; refine ⟨_, rfl, ?_⟩) | ((with_reducible refine gate_callee (f := 48) rfl ?_); refine goesL_ (some 30) rfl rfl Try.func48 (by kernel_rfl) rfl #[.slice A1 l1.length c1, .int .i64 x7_1] rfl (by (try simp only [List.map_toArray, List.map_cons, List.map_nil]); first | done | rfl | (simp only [List.length_drop, List.length_take]; rfl)) ?_; (with_reducible refine (soukref01_Wide_at.calls _ _ l1 x7_1 true _ ?side1 ?side2 A8.out).mono ?_); (case side1 => repeat (first | exact (Kd.C_below HR1.out (by repeat (first | (with_reducible first | exact HB.out | apply below_alloc | apply pw_below_drewN | apply below_drew1) | exact HB.out))) | (with_reducible refine Kd.C_alloc ?_ _) | (with_reducible refine Kd.C_drewN ?_ _) | (with_reducible refine Kd.C_drew ?_))); (case side2 => exact HC1.out); rintro e w' ⟨rfl, ⟨nd, rfl⟩⟩; refine ⟨_, rfl, ?_⟩) | ((with_reducible refine gate_builtin (b := .append) (xs := #[.tmp 31, .tmp 37]) rfl ?_); (try (refine gate_guard (by rfl) ?_; dsimp only)); at_builtin; refine Kd.R_append Kd.bool (w0 := w) w.heap.size rfl (.tmp 31) (.tmp 37) 87 4 (.bool false) 1 rfl Try.underlying87 info4 rfl (by decide) (by omega) u5 x5_1 true [.bool true] (fun _ => True) (fun _ => False) rfl rfl ?aP (fun _ hk => hk.elim) ?aF ?aO ?aB ?aS ?aL ?_; (case aP => exact rfl); (case aB => exact (by repeat (first | (with_reducible first | exact HB.out | apply below_alloc | apply pw_below_drewN | apply below_drew1) | exact HB.out))); (case aF => exact (fun _ _ => trivial)); (case aO => exact (by (with_reducible repeat (first | apply Kd.R_alloc | apply Kd.R_drewN | apply Kd.R_drew)); exact HO_5.out)); (case aS => exact (below_size (by repeat (first | (with_reducible first | exact HB.out | apply below_alloc | apply pw_below_drewN | apply below_drew1) | exact HB.out)))); (case aL => have := LMc12.out; omega); intro v262 w13 ho hb hg hat; rw [← Ny261.out] at ho; have n0_ := Aside0.mk (hb); have n1_ := Aside0.mk (ho); clear HB; clear HO_5; have HB := n0_; have HO263 := n1_; clear n0_ n1_; clear ho hb hg hat))
          go_roundg kj2
          case measure => have := HK1.out; have := HJ2.out; omega
          case rel => exact ⟨(y261), (true), (wrap64 (x7_1 + 1)), (by first | rfl | (simp; done) | (simp [*]; done)), (by first | rfl | (simp; done) | (simp [*]; done)), H', ⟨by have := HK1.out; have := HJ2.out; omega⟩, ⟨by (with_reducible repeat (first | apply Kd.R_alloc | apply Kd.R_drewN | apply Kd.R_drew)); exact HO263.out⟩, ⟨by repeat (first | (with_reducible first | exact HB.out | apply below_alloc | apply pw_below_drewN | apply below_drew1) | exact HB.out)⟩⟩
         ·rw [if_neg c12] at H
          exact absurd H (by simp)
        ·replace c11 := Bool.eq_false_iff.mpr c11
         subst c11
         have H1 : (if x5_1.length < 140737488355328 then (soukref01_Plus.l0 kj2 l0 l1 (x5_1 ++ [false]) true (wrap64 (x7_1 + 1))) else (none)) = some r := by rw [if_neg (show ¬ (false = true) by decide)] at H; exact H
         clear H
         have H := H1
         clear H1
         by_cases c14 : x5_1.length < 140737488355328
         ·rw [if_pos c14] at H
          have LMc14 := Aside0.mk c14
          clear c14
          obtain ⟨y264, hy264⟩ : ∃ y_ : List Bool, y_ = (x5_1 ++ [false]) := ⟨_, rfl⟩
          replace H : (soukref01_Plus.l0 kj2 l0 l1 y264 true (wrap64 (x7_1 + 1))) = some r := by first | (rw [hy264]; with_reducible exact H) | (have H2_ := (Option.bind_some _ _).symm.trans H; rw [hy264]; with_reducible exact H2_) | (have H2_ := (Option.bind_some _ _).symm.trans H; with_reducible exact H2_) | with_reducible exact H | (rw [hy264]; exact H) | exact H
          have Ny264 := Aside0.mk hy264
          clear hy264
          have H' := Aside0.mk H
          clear H
          go_wp2_with (first | ((with_reducible refine gate_callee (f := 48) rfl ?_); refine goesL_ (some 27) rfl rfl Try.func48 (by kernel_rfl) rfl #[.slice A0 l0.length c0, .int .i64 x7_1] rfl (by (try simp only [List.map_toArray, List.map_cons, List.map_nil]); first | done | rfl | (simp only [List.length_drop, List.length_take]; rfl)) ?_; (with_reducible refine (soukref01_Wide_at.calls _ _ l0 x7_1 true _ ?side1 ?side2 A7.out).mono ?_); (case side1 => repeat (first | exact (Kd.C_below HR0.out HB.out) | (with_reducible refine Kd.C_alloc ?_ _) | (with_reducible refine Kd.C_drewN ?_ _) | (with_reducible refine Kd.C_drew ?_))); (case side2 => exact HC0.out); rintro e w' ⟨rfl, ⟨nd, rfl⟩⟩; refine ⟨_, rfl, ?_⟩) | ((with_reducible refine gate_callee (f := 48) rfl ?_); refine goesL_ (some 30) rfl rfl Try.func48 (by kernel_rfl) rfl #[.slice A1 l1.length c1, .int .i64 x7_1] rfl (by (try simp only [List.map_toArray, List.map_cons, List.map_nil]); first | done | rfl | (simp only [List.length_drop, List.length_take]; rfl)) ?_; (with_reducible refine (soukref01_Wide_at.calls _ _ l1 x7_1 true _ ?side1 ?side2 A8.out).mono ?_); (case side1 => repeat (first | exact (Kd.C_below HR1.out (by repeat (first | (with_reducible first | exact HB.out | apply below_alloc | apply pw_below_drewN | apply below_drew1) | exact HB.out))) | (with_reducible refine Kd.C_alloc ?_ _) | (with_reducible refine Kd.C_drewN ?_ _) | (with_reducible refine Kd.C_drew ?_))); (case side2 => exact HC1.out); rintro e w' ⟨rfl, ⟨nd, rfl⟩⟩; refine ⟨_, rfl, ?_⟩) | ((with_reducible refine gate_builtin (b := .append) (xs := #[.tmp 31, .tmp 37]) rfl ?_); (try (refine gate_guard (by rfl) ?_; dsimp only)); at_builtin; refine Kd.R_append Kd.bool (w0 := w) w.heap.size rfl (.tmp 31) (.tmp 37) 87 4 (.bool false) 1 rfl Try.underlying87 info4 rfl (by decide) (by omega) u5 x5_1 false [.bool false] (fun _ => True) (fun _ => False) rfl rfl ?aP (fun _ hk => hk.elim) ?aF ?aO ?aB ?aS ?aL ?_; (case aP => exact rfl); (case aB => exact (by repeat (first | (with_reducible first | exact HB.out | apply below_alloc | apply pw_below_drewN | apply below_drew1) | exact HB.out))); (case aF => exact (fun _ _ => trivial)); (case aO => exact (by (with_reducible repeat (first | apply Kd.R_alloc | apply Kd.R_drewN | apply Kd.R_drew)); exact HO_5.out)); (case aS => exact (below_size (by repeat (first | (with_reducible first | exact HB.out | apply below_alloc | apply pw_below_drewN | apply below_drew1) | exact HB.out)))); (case aL => have := LMc14.out; omega); intro v265 w15 ho hb hg hat; rw [← Ny264.out] at ho; have n0_ := Aside0.mk (hb); have n1_ := Aside0.mk (ho); clear HB; clear HO_5; have HB := n0_; have HO266 := n1_; clear n0_ n1_; clear ho hb hg hat))
          go_roundg kj2
          case measure => have := HK1.out; have := HJ2.out; omega
          case rel => exact ⟨(y264), (true), (wrap64 (x7_1 + 1)), (by first | rfl | (simp; done) | (simp [*]; done)), (by first | rfl | (simp; done) | (simp [*]; done)), H', ⟨by have := HK1.out; have := HJ2.out; omega⟩, ⟨by (with_reducible repeat (first | apply Kd.R_alloc | apply Kd.R_drewN | apply Kd.R_drew)); exact HO266.out⟩, ⟨by repeat (first | (with_reducible first | exact HB.out | apply below_alloc | apply pw_below_drewN | apply below_drew1) | exact HB.out)⟩⟩
         ·rw [if_neg c14] at H
          exact absurd H (by simp)
       ·replace c10 := Bool.eq_false_iff.mpr c10
        subst c10
        have H1 : (if x6_1 = true then (if x5_1.length < 140737488355328 then (soukref01_Plus.l0 kj2 l0 l1 (x5_1 ++ [false]) true (wrap64 (x7_1 + 1))) else (none)) else (if x5_1.length < 140737488355328 then (soukref01_Plus.l0 kj2 l0 l1 (x5_1 ++ [true]) false (wrap64 (x7_1 + 1))) else (none))) = some r := by rw [if_neg (show ¬ (false = true) by decide)] at H; exact H
        clear H
        have H := H1
        clear H1
        by_cases c16 : x6_1 = true
        ·subst c16
         have H1 : (if x5_1.length < 140737488355328 then (soukref01_Plus.l0 kj2 l0 l1 (x5_1 ++ [false]) true (wrap64 (x7_1 + 1))) else (none)) = some r := by rw [if_pos rfl] at H; exact H
         clear H
         have H := H1
         clear H1
         by_cases c17 : x5_1.length < 140737488355328
         ·rw [if_pos c17] at H
          have LMc17 := Aside0.mk c17
          clear c17
          obtain ⟨y267, hy267⟩ : ∃ y_ : List Bool, y_ = (x5_1 ++ [false]) := ⟨_, rfl⟩
          replace H : (soukref01_Plus.l0 kj2 l0 l1 y267 true (wrap64 (x7_1 + 1))) = some r := by first | (rw [hy267]; with_reducible exact H) | (have H2_ := (Option.bind_some _ _).symm.trans H; rw [hy267]; with_reducible exact H2_) | (have H2_ := (Option.bind_some _ _).symm.trans H; with_reducible exact H2_) | with_reducible exact H | (rw [hy267]; exact H) | exact H
          have Ny267 := Aside0.mk hy267
          clear hy267
          have H' := Aside0.mk H
          clear H
          go_wp2_with (first | ((with_reducible refine gate_callee (f := 48) rfl ?_); refine goesL_ (some 27) rfl rfl Try.func48 (by kernel_rfl) rfl #[.slice A0 l0.length c0, .int .i64 x7_1] rfl (by (try simp only [List.map_toArray, List.map_cons, List.map_nil]); first | done | rfl | (simp only [List.length_drop, List.length_take]; rfl)) ?_; (with_reducible refine (soukref01_Wide_at.calls _ _ l0 x7_1 true _ ?side1 ?side2 A7.out).mono ?_); (case side1 => repeat (first | exact (Kd.C_below HR0.out HB.out) | (with_reducible refine Kd.C_alloc ?_ _) | (with_reducible refine Kd.C_drewN ?_ _) | (with_reducible refine Kd.C_drew ?_))); (case side2 => exact HC0.out); rintro e w' ⟨rfl, ⟨nd, rfl⟩⟩; refine ⟨_, rfl, ?_⟩) | ((with_reducible refine gate_callee (f := 48) rfl ?_); refine goesL_ (some 30) rfl rfl Try.func48 (by kernel_rfl) rfl #[.slice A1 l1.length c1, .int .i64 x7_1] rfl (by (try simp only [List.map_toArray, List.map_cons, List.map_nil]); first | done | rfl | (simp only [List.length_drop, List.length_take]; rfl)) ?_; (with_reducible refine (soukref01_Wide_at.calls _ _ l1 x7_1 false _ ?side1 ?side2 A8.out).mono ?_); (case side1 => repeat (first | exact (Kd.C_below HR1.out (by repeat (first | (with_reducible first | exact HB.out | apply below_alloc | apply pw_below_drewN | apply below_drew1) | exact HB.out))) | (with_reducible refine Kd.C_alloc ?_ _) | (with_reducible refine Kd.C_drewN ?_ _) | (with_reducible refine Kd.C_drew ?_))); (case side2 => exact HC1.out); rintro e w' ⟨rfl, ⟨nd, rfl⟩⟩; refine ⟨_, rfl, ?_⟩) | ((with_reducible refine gate_builtin (b := .append) (xs := #[.tmp 31, .tmp 37]) rfl ?_); (try (refine gate_guard (by rfl) ?_; dsimp only)); at_builtin; refine Kd.R_append Kd.bool (w0 := w) w.heap.size rfl (.tmp 31) (.tmp 37) 87 4 (.bool false) 1 rfl Try.underlying87 info4 rfl (by decide) (by omega) u5 x5_1 false [.bool false] (fun _ => True) (fun _ => False) rfl rfl ?aP (fun _ hk => hk.elim) ?aF ?aO ?aB ?aS ?aL ?_; (case aP => exact rfl); (case aB => exact (by repeat (first | (with_reducible first | exact HB.out | apply below_alloc | apply pw_below_drewN | apply below_drew1) | exact HB.out))); (case aF => exact (fun _ _ => trivial)); (case aO => exact (by (with_reducible repeat (first | apply Kd.R_alloc | apply Kd.R_drewN | apply Kd.R_drew)); exact HO_5.out)); (case aS => exact (below_size (by repeat (first | (with_reducible first | exact HB.out | apply below_alloc | apply pw_below_drewN | apply below_drew1) | exact HB.out)))); (case aL => have := LMc17.out; omega); intro v268 w18 ho hb hg hat; rw [← Ny267.out] at ho; have n0_ := Aside0.mk (hb); have n1_ := Aside0.mk (ho); clear HB; clear HO_5; have HB := n0_; have HO269 := n1_; clear n0_ n1_; clear ho hb hg hat))
          go_roundg kj2
          case measure => have := HK1.out; have := HJ2.out; omega
          case rel => exact ⟨(y267), (true), (wrap64 (x7_1 + 1)), (by first | rfl | (simp; done) | (simp [*]; done)), (by first | rfl | (simp; done) | (simp [*]; done)), H', ⟨by have := HK1.out; have := HJ2.out; omega⟩, ⟨by (with_reducible repeat (first | apply Kd.R_alloc | apply Kd.R_drewN | apply Kd.R_drew)); exact HO269.out⟩, ⟨by repeat (first | (with_reducible first | exact HB.out | apply below_alloc | apply pw_below_drewN | apply below_drew1) | exact HB.out)⟩⟩
         ·rw [if_neg c17] at H
          exact absurd H (by simp)
        ·replace c16 := Bool.eq_false_iff.mpr c16
         subst c16
         have H1 : (if x5_1.length < 140737488355328 then (soukref01_Plus.l0 kj2 l0 l1 (x5_1 ++ [true]) false (wrap64 (x7_1 + 1))) else (none)) = some r := by rw [if_neg (show ¬ (false = true) by decide)] at H; exact H
         clear H
         have H := H1
         clear H1
         by_cases c19 : x5_1.length < 140737488355328
         ·rw [if_pos c19] at H
          have LMc19 := Aside0.mk c19
          clear c19
          obtain ⟨y270, hy270⟩ : ∃ y_ : List Bool, y_ = (x5_1 ++ [true]) := ⟨_, rfl⟩
          replace H : (soukref01_Plus.l0 kj2 l0 l1 y270 false (wrap64 (x7_1 + 1))) = some r := by first | (rw [hy270]; with_reducible exact H) | (have H2_ := (Option.bind_some _ _).symm.trans H; rw [hy270]; with_reducible exact H2_) | (have H2_ := (Option.bind_some _ _).symm.trans H; with_reducible exact H2_) | with_reducible exact H | (rw [hy270]; exact H) | exact H
          have Ny270 := Aside0.mk hy270
          clear hy270
          have H' := Aside0.mk H
          clear H
          go_wp2_with (first | ((with_reducible refine gate_callee (f := 48) rfl ?_); refine goesL_ (some 27) rfl rfl Try.func48 (by kernel_rfl) rfl #[.slice A0 l0.length c0, .int .i64 x7_1] rfl (by (try simp only [List.map_toArray, List.map_cons, List.map_nil]); first | done | rfl | (simp only [List.length_drop, List.length_take]; rfl)) ?_; (with_reducible refine (soukref01_Wide_at.calls _ _ l0 x7_1 true _ ?side1 ?side2 A7.out).mono ?_); (case side1 => repeat (first | exact (Kd.C_below HR0.out HB.out) | (with_reducible refine Kd.C_alloc ?_ _) | (with_reducible refine Kd.C_drewN ?_ _) | (with_reducible refine Kd.C_drew ?_))); (case side2 => exact HC0.out); rintro e w' ⟨rfl, ⟨nd, rfl⟩⟩; refine ⟨_, rfl, ?_⟩) | ((with_reducible refine gate_callee (f := 48) rfl ?_); refine goesL_ (some 30) rfl rfl Try.func48 (by kernel_rfl) rfl #[.slice A1 l1.length c1, .int .i64 x7_1] rfl (by (try simp only [List.map_toArray, List.map_cons, List.map_nil]); first | done | rfl | (simp only [List.length_drop, List.length_take]; rfl)) ?_; (with_reducible refine (soukref01_Wide_at.calls _ _ l1 x7_1 false _ ?side1 ?side2 A8.out).mono ?_); (case side1 => repeat (first | exact (Kd.C_below HR1.out (by repeat (first | (with_reducible first | exact HB.out | apply below_alloc | apply pw_below_drewN | apply below_drew1) | exact HB.out))) | (with_reducible refine Kd.C_alloc ?_ _) | (with_reducible refine Kd.C_drewN ?_ _) | (with_reducible refine Kd.C_drew ?_))); (case side2 => exact HC1.out); rintro e w' ⟨rfl, ⟨nd, rfl⟩⟩; refine ⟨_, rfl, ?_⟩) | ((with_reducible refine gate_builtin (b := .append) (xs := #[.tmp 31, .tmp 37]) rfl ?_); (try (refine gate_guard (by rfl) ?_; dsimp only)); at_builtin; refine Kd.R_append Kd.bool (w0 := w) w.heap.size rfl (.tmp 31) (.tmp 37) 87 4 (.bool false) 1 rfl Try.underlying87 info4 rfl (by decide) (by omega) u5 x5_1 true [.bool true] (fun _ => True) (fun _ => False) rfl rfl ?aP (fun _ hk => hk.elim) ?aF ?aO ?aB ?aS ?aL ?_; (case aP => exact rfl); (case aB => exact (by repeat (first | (with_reducible first | exact HB.out | apply below_alloc | apply pw_below_drewN | apply below_drew1) | exact HB.out))); (case aF => exact (fun _ _ => trivial)); (case aO => exact (by (with_reducible repeat (first | apply Kd.R_alloc | apply Kd.R_drewN | apply Kd.R_drew)); exact HO_5.out)); (case aS => exact (below_size (by repeat (first | (with_reducible first | exact HB.out | apply below_alloc | apply pw_below_drewN | apply below_drew1) | exact HB.out)))); (case aL => have := LMc19.out; omega); intro v271 w20 ho hb hg hat; rw [← Ny270.out] at ho; have n0_ := Aside0.mk (hb); have n1_ := Aside0.mk (ho); clear HB; clear HO_5; have HB := n0_; have HO272 := n1_; clear n0_ n1_; clear ho hb hg hat))
          go_roundg kj2
          case measure => have := HK1.out; have := HJ2.out; omega
          case rel => exact ⟨(y270), (false), (wrap64 (x7_1 + 1)), (by first | rfl | (simp; done) | (simp [*]; done)), (by first | rfl | (simp; done) | (simp [*]; done)), H', ⟨by have := HK1.out; have := HJ2.out; omega⟩, ⟨by (with_reducible repeat (first | apply Kd.R_alloc | apply Kd.R_drewN | apply Kd.R_drew)); exact HO272.out⟩, ⟨by repeat (first | (with_reducible first | exact HB.out | apply below_alloc | apply pw_below_drewN | apply below_drew1) | exact HB.out)⟩⟩
         ·rw [if_neg c19] at H
          exact absurd H (by simp)
      ·replace c9 := Bool.eq_false_iff.mpr c9
       subst c9
       have H1 : (if t260 = true then (if x6_1 = true then (if x5_1.length < 140737488355328 then (soukref01_Plus.l0 kj2 l0 l1 (x5_1 ++ [false]) x6_1 (wrap64 (x7_1 + 1))) else (none)) else (if x5_1.length < 140737488355328 then (soukref01_Plus.l0 kj2 l0 l1 (x5_1 ++ [true]) x6_1 (wrap64 (x7_1 + 1))) else (none))) else (if x6_1 = true then (if x5_1.length < 140737488355328 then (soukref01_Plus.l0 kj2 l0 l1 (x5_1 ++ [true]) false (wrap64 (x7_1 + 1))) else (none)) else (if x5_1.length < 140737488355328 then (soukref01_Plus.l0 kj2 l0 l1 (x5_1 ++ [false]) false (wrap64 (x7_1 + 1))) else (none)))) = some r := by rw [if_neg (show ¬ (false = true) by decide)] at H; exact H
       clear H
       have H := H1
       clear H1
       by_cases c21 : t260 = true
       ·subst c21
        have H1 : (if x6_1 = true then (if x5_1.length < 140737488355328 then (soukref01_Plus.l0 kj2 l0 l1 (x5_1 ++ [false]) x6_1 (wrap64 (x7_1 + 1))) else (none)) else (if x5_1.length < 140737488355328 then (soukref01_Plus.l0 kj2 l0 l1 (x5_1 ++ [true]) x6_1 (wrap64 (x7_1 + 1))) else (none))) = some r := by rw [if_pos rfl] at H; exact H
        clear H
        have H := H1
        clear H1
        by_cases c22 : x6_1 = true
        ·subst c22
         have H1 : (if x5_1.length < 140737488355328 then (soukref01_Plus.l0 kj2 l0 l1 (x5_1 ++ [false]) true (wrap64 (x7_1 + 1))) else (none)) = some r := by rw [if_pos rfl] at H; exact H
         clear H
         have H := H1
         clear H1
         by_cases c23 : x5_1.length < 140737488355328
         ·rw [if_pos c23] at H
          have LMc23 := Aside0.mk c23
          clear c23
          obtain ⟨y273, hy273⟩ : ∃ y_ : List Bool, y_ = (x5_1 ++ [false]) := ⟨_, rfl⟩
          replace H : (soukref01_Plus.l0 kj2 l0 l1 y273 true (wrap64 (x7_1 + 1))) = some r := by first | (rw [hy273]; with_reducible exact H) | (have H2_ := (Option.bind_some _ _).symm.trans H; rw [hy273]; with_reducible exact H2_) | (have H2_ := (Option.bind_some _ _).symm.trans H; with_reducible exact H2_) | with_reducible exact H | (rw [hy273]; exact H) | exact H
          have Ny273 := Aside0.mk hy273
          clear hy273
          have H' := Aside0.mk H
          clear H
          go_wp2_with (first | ((with_reducible refine gate_callee (f := 48) rfl ?_); refine goesL_ (some 27) rfl rfl Try.func48 (by kernel_rfl) rfl #[.slice A0 l0.length c0, .int .i64 x7_1] rfl (by (try simp only [List.map_toArray, List.map_cons, List.map_nil]); first | done | rfl | (simp only [List.length_drop, List.length_take]; rfl)) ?_; (with_reducible refine (soukref01_Wide_at.calls _ _ l0 x7_1 false _ ?side1 ?side2 A7.out).mono ?_); (case side1 => repeat (first | exact (Kd.C_below HR0.out HB.out) | (with_reducible refine Kd.C_alloc ?_ _) | (with_reducible refine Kd.C_drewN ?_ _) | (with_reducible refine Kd.C_drew ?_))); (case side2 => exact HC0.out); rintro e w' ⟨rfl, ⟨nd, rfl⟩⟩; refine ⟨_, rfl, ?_⟩) | ((with_reducible refine gate_callee (f := 48) rfl ?_); refine goesL_ (some 30) rfl rfl Try.func48 (by kernel_rfl) rfl #[.slice A1 l1.length c1, .int .i64 x7_1] rfl (by (try simp only [List.map_toArray, List.map_cons, List.map_nil]); first | done | rfl | (simp only [List.length_drop, List.length_take]; rfl)) ?_; (with_reducible refine (soukref01_Wide_at.calls _ _ l1 x7_1 true _ ?side1 ?side2 A8.out).mono ?_); (case side1 => repeat (first | exact (Kd.C_below HR1.out (by repeat (first | (with_reducible first | exact HB.out | apply below_alloc | apply pw_below_drewN | apply below_drew1) | exact HB.out))) | (with_reducible refine Kd.C_alloc ?_ _) | (with_reducible refine Kd.C_drewN ?_ _) | (with_reducible refine Kd.C_drew ?_))); (case side2 => exact HC1.out); rintro e w' ⟨rfl, ⟨nd, rfl⟩⟩; refine ⟨_, rfl, ?_⟩) | ((with_reducible refine gate_builtin (b := .append) (xs := #[.tmp 31, .tmp 37]) rfl ?_); (try (refine gate_guard (by rfl) ?_; dsimp only)); at_builtin; refine Kd.R_append Kd.bool (w0 := w) w.heap.size rfl (.tmp 31) (.tmp 37) 87 4 (.bool false) 1 rfl Try.underlying87 info4 rfl (by decide) (by omega) u5 x5_1 false [.bool false] (fun _ => True) (fun _ => False) rfl rfl ?aP (fun _ hk => hk.elim) ?aF ?aO ?aB ?aS ?aL ?_; (case aP => exact rfl); (case aB => exact (by repeat (first | (with_reducible first | exact HB.out | apply below_alloc | apply pw_below_drewN | apply below_drew1) | exact HB.out))); (case aF => exact (fun _ _ => trivial)); (case aO => exact (by (with_reducible repeat (first | apply Kd.R_alloc | apply Kd.R_drewN | apply Kd.R_drew)); exact HO_5.out)); (case aS => exact (below_size (by repeat (first | (with_reducible first | exact HB.out | apply below_alloc | apply pw_below_drewN | apply below_drew1) | exact HB.out)))); (case aL => have := LMc23.out; omega); intro v274 w24 ho hb hg hat; rw [← Ny273.out] at ho; have n0_ := Aside0.mk (hb); have n1_ := Aside0.mk (ho); clear HB; clear HO_5; have HB := n0_; have HO275 := n1_; clear n0_ n1_; clear ho hb hg hat))
          go_roundg kj2
          case measure => have := HK1.out; have := HJ2.out; omega
          case rel => exact ⟨(y273), (true), (wrap64 (x7_1 + 1)), (by first | rfl | (simp; done) | (simp [*]; done)), (by first | rfl | (simp; done) | (simp [*]; done)), H', ⟨by have := HK1.out; have := HJ2.out; omega⟩, ⟨by (with_reducible repeat (first | apply Kd.R_alloc | apply Kd.R_drewN | apply Kd.R_drew)); exact HO275.out⟩, ⟨by repeat (first | (with_reducible first | exact HB.out | apply below_alloc | apply pw_below_drewN | apply below_drew1) | exact HB.out)⟩⟩
         ·rw [if_neg c23] at H
          exact absurd H (by simp)
        ·replace c22 := Bool.eq_false_iff.mpr c22
         subst c22
         have H1 : (if x5_1.length < 140737488355328 then (soukref01_Plus.l0 kj2 l0 l1 (x5_1 ++ [true]) false (wrap64 (x7_1 + 1))) else (none)) = some r := by rw [if_neg (show ¬ (false = true) by decide)] at H; exact H
         clear H
         have H := H1
         clear H1
         by_cases c25 : x5_1.length < 140737488355328
         ·rw [if_pos c25] at H
          have LMc25 := Aside0.mk c25
          clear c25
          obtain ⟨y276, hy276⟩ : ∃ y_ : List Bool, y_ = (x5_1 ++ [true]) := ⟨_, rfl⟩
          replace H : (soukref01_Plus.l0 kj2 l0 l1 y276 false (wrap64 (x7_1 + 1))) = some r := by first | (rw [hy276]; with_reducible exact H) | (have H2_ := (Option.bind_some _ _).symm.trans H; rw [hy276]; with_reducible exact H2_) | (have H2_ := (Option.bind_some _ _).symm.trans H; with_reducible exact H2_) | with_reducible exact H | (rw [hy276]; exact H) | exact H
          have Ny276 := Aside0.mk hy276
          clear hy276
          have H' := Aside0.mk H
          clear H
          go_wp2_with (first | ((with_reducible refine gate_callee (f := 48) rfl ?_); refine goesL_ (some 27) rfl rfl Try.func48 (by kernel_rfl) rfl #[.slice A0 l0.length c0, .int .i64 x7_1] rfl (by (try simp only [List.map_toArray, List.map_cons, List.map_nil]); first | done | rfl | (simp only [List.length_drop, List.length_take]; rfl)) ?_; (with_reducible refine (soukref01_Wide_at.calls _ _ l0 x7_1 false _ ?side1 ?side2 A7.out).mono ?_); (case side1 => repeat (first | exact (Kd.C_below HR0.out HB.out) | (with_reducible refine Kd.C_alloc ?_ _) | (with_reducible refine Kd.C_drewN ?_ _) | (with_reducible refine Kd.C_drew ?_))); (case side2 => exact HC0.out); rintro e w' ⟨rfl, ⟨nd, rfl⟩⟩; refine ⟨_, rfl, ?_⟩) | ((with_reducible refine gate_callee (f := 48) rfl ?_); refine goesL_ (some 30) rfl rfl Try.func48 (by kernel_rfl) rfl #[.slice A1 l1.length c1, .int .i64 x7_1] rfl (by (try simp only [List.map_toArray, List.map_cons, List.map_nil]); first | done | rfl | (simp only [List.length_drop, List.length_take]; rfl)) ?_; (with_reducible refine (soukref01_Wide_at.calls _ _ l1 x7_1 true _ ?side1 ?side2 A8.out).mono ?_); (case side1 => repeat (first | exact (Kd.C_below HR1.out (by repeat (first | (with_reducible first | exact HB.out | apply below_alloc | apply pw_below_drewN | apply below_drew1) | exact HB.out))) | (with_reducible refine Kd.C_alloc ?_ _) | (with_reducible refine Kd.C_drewN ?_ _) | (with_reducible refine Kd.C_drew ?_))); (case side2 => exact HC1.out); rintro e w' ⟨rfl, ⟨nd, rfl⟩⟩; refine ⟨_, rfl, ?_⟩) | ((with_reducible refine gate_builtin (b := .append) (xs := #[.tmp 31, .tmp 37]) rfl ?_); (try (refine gate_guard (by rfl) ?_; dsimp only)); at_builtin; refine Kd.R_append Kd.bool (w0 := w) w.heap.size rfl (.tmp 31) (.tmp 37) 87 4 (.bool false) 1 rfl Try.underlying87 info4 rfl (by decide) (by omega) u5 x5_1 true [.bool true] (fun _ => True) (fun _ => False) rfl rfl ?aP (fun _ hk => hk.elim) ?aF ?aO ?aB ?aS ?aL ?_; (case aP => exact rfl); (case aB => exact (by repeat (first | (with_reducible first | exact HB.out | apply below_alloc | apply pw_below_drewN | apply below_drew1) | exact HB.out))); (case aF => exact (fun _ _ => trivial)); (case aO => exact (by (with_reducible repeat (first | apply Kd.R_alloc | apply Kd.R_drewN | apply Kd.R_drew)); exact HO_5.out)); (case aS => exact (below_size (by repeat (first | (with_reducible first | exact HB.out | apply below_alloc | apply pw_below_drewN | apply below_drew1) | exact HB.out)))); (case aL => have := LMc25.out; omega); intro v277 w26 ho hb hg hat; rw [← Ny276.out] at ho; have n0_ := Aside0.mk (hb); have n1_ := Aside0.mk (ho); clear HB; clear HO_5; have HB := n0_; have HO278 := n1_; clear n0_ n1_; clear ho hb hg hat))
          go_roundg kj2
          case measure => have := HK1.out; have := HJ2.out; omega
          case rel => exact ⟨(y276), (false), (wrap64 (x7_1 + 1)), (by first | rfl | (simp; done) | (simp [*]; done)), (by first | rfl | (simp; done) | (simp [*]; done)), H', ⟨by have := HK1.out; have := HJ2.out; omega⟩, ⟨by (with_reducible repeat (first | apply Kd.R_alloc | apply Kd.R_drewN | apply Kd.R_drew)); exact HO278.out⟩, ⟨by repeat (first | (with_reducible first | exact HB.out | apply below_alloc | apply pw_below_drewN | apply below_drew1) | exact HB.out)⟩⟩
         ·rw [if_neg c25] at H
          exact absurd H (by simp)
       ·replace c21 := Bool.eq_false_iff.mpr c21
        subst c21
        have H1 : (if x6_1 = true then (if x5_1.length < 140737488355328 then (soukref01_Plus.l0 kj2 l0 l1 (x5_1 ++ [true]) false (wrap64 (x7_1 + 1))) else (none)) else (if x5_1.length < 140737488355328 then (soukref01_Plus.l0 kj2 l0 l1 (x5_1 ++ [false]) false (wrap64 (x7_1 + 1))) else (none))) = some r := by rw [if_neg (show ¬ (false = true) by decide)] at H; exact H
        clear H
        have H := H1
        clear H1
        by_cases c27 : x6_1 = true
        ·subst c27
         have H1 : (if x5_1.length < 140737488355328 then (soukref01_Plus.l0 kj2 l0 l1 (x5_1 ++ [true]) false (wrap64 (x7_1 + 1))) else (none)) = some r := by rw [if_pos rfl] at H; exact H
         clear H
         have H := H1
         clear H1
         by_cases c28 : x5_1.length < 140737488355328
         ·rw [if_pos c28] at H
          have LMc28 := Aside0.mk c28
          clear c28
          obtain ⟨y279, hy279⟩ : ∃ y_ : List Bool, y_ = (x5_1 ++ [true]) := ⟨_, rfl⟩
          replace H : (soukref01_Plus.l0 kj2 l0 l1 y279 false (wrap64 (x7_1 + 1))) = some r := by first | (rw [hy279]; with_reducible exact H) | (have H2_ := (Option.bind_some _ _).symm.trans H; rw [hy279]; with_reducible exact H2_) | (have H2_ := (Option.bind_some _ _).symm.trans H; with_reducible exact H2_) | with_reducible exact H | (rw [hy279]; exact H) | exact H
          have Ny279 := Aside0.mk hy279
          clear hy279
          have H' := Aside0.mk H
          clear H
          go_wp2_with (first | ((with_reducible refine gate_callee (f := 48) rfl ?_); refine goesL_ (some 27) rfl rfl Try.func48 (by kernel_rfl) rfl #[.slice A0 l0.length c0, .int .i64 x7_1] rfl (by (try simp only [List.map_toArray, List.map_cons, List.map_nil]); first | done | rfl | (simp only [List.length_drop, List.length_take]; rfl)) ?_; (with_reducible refine (soukref01_Wide_at.calls _ _ l0 x7_1 false _ ?side1 ?side2 A7.out).mono ?_); (case side1 => repeat (first | exact (Kd.C_below HR0.out HB.out) | (with_reducible refine Kd.C_alloc ?_ _) | (with_reducible refine Kd.C_drewN ?_ _) | (with_reducible refine Kd.C_drew ?_))); (case side2 => exact HC0.out); rintro e w' ⟨rfl, ⟨nd, rfl⟩⟩; refine ⟨_, rfl, ?_⟩) | ((with_reducible refine gate_callee (f := 48) rfl ?_); refine goesL_ (some 30) rfl rfl Try.func48 (by kernel_rfl) rfl #[.slice A1 l1.length c1, .int .i64 x7_1] rfl (by (try simp only [List.map_toArray, List.map_cons, List.map_nil]); first | done | rfl | (simp only [List.length_drop, List.length_take]; rfl)) ?_; (with_reducible refine (soukref01_Wide_at.calls _ _ l1 x7_1 false _ ?side1 ?side2 A8.out).mono ?_); (case side1 => repeat (first | exact (Kd.C_below HR1.out (by repeat (first | (with_reducible first | exact HB.out | apply below_alloc | apply pw_below_drewN | apply below_drew1) | exact HB.out))) | (with_reducible refine Kd.C_alloc ?_ _) | (with_reducible refine Kd.C_drewN ?_ _) | (with_reducible refine Kd.C_drew ?_))); (case side2 => exact HC1.out); rintro e w' ⟨rfl, ⟨nd, rfl⟩⟩; refine ⟨_, rfl, ?_⟩) | ((with_reducible refine gate_builtin (b := .append) (xs := #[.tmp 31, .tmp 37]) rfl ?_); (try (refine gate_guard (by rfl) ?_; dsimp only)); at_builtin; refine Kd.R_append Kd.bool (w0 := w) w.heap.size rfl (.tmp 31) (.tmp 37) 87 4 (.bool false) 1 rfl Try.underlying87 info4 rfl (by decide) (by omega) u5 x5_1 true [.bool true] (fun _ => True) (fun _ => False) rfl rfl ?aP (fun _ hk => hk.elim) ?aF ?aO ?aB ?aS ?aL ?_; (case aP => exact rfl); (case aB => exact (by repeat (first | (with_reducible first | exact HB.out | apply below_alloc | apply pw_below_drewN | apply below_drew1) | exact HB.out))); (case aF => exact (fun _ _ => trivial)); (case aO => exact (by (with_reducible repeat (first | apply Kd.R_alloc | apply Kd.R_drewN | apply Kd.R_drew)); exact HO_5.out)); (case aS => exact (below_size (by repeat (first | (with_reducible first | exact HB.out | apply below_alloc | apply pw_below_drewN | apply below_drew1) | exact HB.out)))); (case aL => have := LMc28.out; omega); intro v280 w29 ho hb hg hat; rw [← Ny279.out] at ho; have n0_ := Aside0.mk (hb); have n1_ := Aside0.mk (ho); clear HB; clear HO_5; have HB := n0_; have HO281 := n1_; clear n0_ n1_; clear ho hb hg hat))
          go_roundg kj2
          case measure => have := HK1.out; have := HJ2.out; omega
          case rel => exact ⟨(y279), (false), (wrap64 (x7_1 + 1)), (by first | rfl | (simp; done) | (simp [*]; done)), (by first | rfl | (simp; done) | (simp [*]; done)), H', ⟨by have := HK1.out; have := HJ2.out; omega⟩, ⟨by (with_reducible repeat (first | apply Kd.R_alloc | apply Kd.R_drewN | apply Kd.R_drew)); exact HO281.out⟩, ⟨by repeat (first | (with_reducible first | exact HB.out | apply below_alloc | apply pw_below_drewN | apply below_drew1) | exact HB.out)⟩⟩
         ·rw [if_neg c28] at H
          exact absurd H (by simp)
        ·replace c27 := Bool.eq_false_iff.mpr c27
         subst c27
         have H1 : (if x5_1.length < 140737488355328 then (soukref01_Plus.l0 kj2 l0 l1 (x5_1 ++ [false]) false (wrap64 (x7_1 + 1))) else (none)) = some r := by rw [if_neg (show ¬ (false = true) by decide)] at H; exact H
         clear H
         have H := H1
         clear H1
         by_cases c30 : x5_1.length < 140737488355328
         ·rw [if_pos c30] at H
          have LMc30 := Aside0.mk c30
          clear c30
          obtain ⟨y282, hy282⟩ : ∃ y_ : List Bool, y_ = (x5_1 ++ [false]) := ⟨_, rfl⟩
          replace H : (soukref01_Plus.l0 kj2 l0 l1 y282 false (wrap64 (x7_1 + 1))) = some r := by first | (rw [hy282]; with_reducible exact H) | (have H2_ := (Option.bind_some _ _).symm.trans H; rw [hy282]; with_reducible exact H2_) | (have H2_ := (Option.bind_some _ _).symm.trans H; with_reducible exact H2_) | with_reducible exact H | (rw [hy282]; exact H) | exact H
          have Ny282 := Aside0.mk hy282
          clear hy282
          have H' := Aside0.mk H
          clear H
          go_wp2_with (first | ((with_reducible refine gate_callee (f := 48) rfl ?_); refine goesL_ (some 27) rfl rfl Try.func48 (by kernel_rfl) rfl #[.slice A0 l0.length c0, .int .i64 x7_1] rfl (by (try simp only [List.map_toArray, List.map_cons, List.map_nil]); first | done | rfl | (simp only [List.length_drop, List.length_take]; rfl)) ?_; (with_reducible refine (soukref01_Wide_at.calls _ _ l0 x7_1 false _ ?side1 ?side2 A7.out).mono ?_); (case side1 => repeat (first | exact (Kd.C_below HR0.out HB.out) | (with_reducible refine Kd.C_alloc ?_ _) | (with_reducible refine Kd.C_drewN ?_ _) | (with_reducible refine Kd.C_drew ?_))); (case side2 => exact HC0.out); rintro e w' ⟨rfl, ⟨nd, rfl⟩⟩; refine ⟨_, rfl, ?_⟩) | ((with_reducible refine gate_callee (f := 48) rfl ?_); refine goesL_ (some 30) rfl rfl Try.func48 (by kernel_rfl) rfl #[.slice A1 l1.length c1, .int .i64 x7_1] rfl (by (try simp only [List.map_toArray, List.map_cons, List.map_nil]); first | done | rfl | (simp only [List.length_drop, List.length_take]; rfl)) ?_; (with_reducible refine (soukref01_Wide_at.calls _ _ l1 x7_1 false _ ?side1 ?side2 A8.out).mono ?_); (case side1 => repeat (first | exact (Kd.C_below HR1.out (by repeat (first | (with_reducible first | exact HB.out | apply below_alloc | apply pw_below_drewN | apply below_drew1) | exact HB.out))) | (with_reducible refine Kd.C_alloc ?_ _) | (with_reducible refine Kd.C_drewN ?_ _) | (with_reducible refine Kd.C_drew ?_))); (case side2 => exact HC1.out); rintro e w' ⟨rfl, ⟨nd, rfl⟩⟩; refine ⟨_, rfl, ?_⟩) | ((with_reducible refine gate_builtin (b := .append) (xs := #[.tmp 31, .tmp 37]) rfl ?_); (try (refine gate_guard (by rfl) ?_; dsimp only)); at_builtin; refine Kd.R_append Kd.bool (w0 := w) w.heap.size rfl (.tmp 31) (.tmp 37) 87 4 (.bool false) 1 rfl Try.underlying87 info4 rfl (by decide) (by omega) u5 x5_1 false [.bool false] (fun _ => True) (fun _ => False) rfl rfl ?aP (fun _ hk => hk.elim) ?aF ?aO ?aB ?aS ?aL ?_; (case aP => exact rfl); (case aB => exact (by repeat (first | (with_reducible first | exact HB.out | apply below_alloc | apply pw_below_drewN | apply below_drew1) | exact HB.out))); (case aF => exact (fun _ _ => trivial)); (case aO => exact (by (with_reducible repeat (first | apply Kd.R_alloc | apply Kd.R_drewN | apply Kd.R_drew)); exact HO_5.out)); (case aS => exact (below_size (by repeat (first | (with_reducible first | exact HB.out | apply below_alloc | apply pw_below_drewN | apply below_drew1) | exact HB.out)))); (case aL => have := LMc30.out; omega); intro v283 w31 ho hb hg hat; rw [← Ny282.out] at ho; have n0_ := Aside0.mk (hb); have n1_ := Aside0.mk (ho); clear HB; clear HO_5; have HB := n0_; have HO284 := n1_; clear n0_ n1_; clear ho hb hg hat))
          go_roundg kj2
          case measure => have := HK1.out; have := HJ2.out; omega
          case rel => exact ⟨(y282), (false), (wrap64 (x7_1 + 1)), (by first | rfl | (simp; done) | (simp [*]; done)), (by first | rfl | (simp; done) | (simp [*]; done)), H', ⟨by have := HK1.out; have := HJ2.out; omega⟩, ⟨by (with_reducible repeat (first | apply Kd.R_alloc | apply Kd.R_drewN | apply Kd.R_drew)); exact HO284.out⟩, ⟨by repeat (first | (with_reducible first | exact HB.out | apply below_alloc | apply pw_below_drewN | apply below_drew1) | exact HB.out)⟩⟩
         ·rw [if_neg c30] at H
          exact absurd H (by simp)
     ·replace c6 := Bool.eq_false_iff.mpr c6
      subst c6
      have H1 : (some x5_1) = some r := by rw [if_neg (show ¬ (false = true) by decide)] at H; exact H
      clear H
      have H := H1
      clear H1
      obtain rfl := Option.some.inj H
      go_wp2
      go_ret
      exact ⟨_, by first | rfl | (simp [errW_none, errW_some] <;> rfl) | (simp [*, errW_none, errW_some] <;> rfl), by (with_reducible repeat (first | apply Kd.R_alloc | apply Kd.R_drewN | apply Kd.R_drew)); exact HO_5.out, by repeat (first | (with_reducible first | exact HB.out | apply below_alloc | apply pw_below_drewN | apply below_drew1) | exact HB.out)⟩
end Go.Proofs.Ytncnhhnbjmpomaa.Q
namespace Go.Proofs.Ytncnhhnbjmpomaa.Q
open Go.RowKit Go.Proofs.YtncnhhnbjmpomaaW.PrintWords Go.Proofs.YtncnhhnbjmpomaaW.PrintLast Go.Proofs.YtncnhhnbjmpomaaW.PrintMore
attribute [local go_sem] max2_int min2_int max_two min_two max_three min_three max_four min_four   -- for this text's walks alone
set_option linter.unusedVariables false
set_option linter.unusedSimpArgs false
def soukref01_Times.l0 : Nat → List Bool → List Bool → List Bool → Int → Option (List Bool)
 | 0, _, _, _, _ => none
 | k + 1, x0, x1, x5, x6 => if x6 ≥ 0 then ((some (([false] : List Bool) : List Bool)).bind fun y285 => (if y285.length + x5.length < 140737488355328 then ((some (y285 ++ x5 : List Bool)).bind fun y288 => (if 0 ≤ x6 then (if x6 < (x1.length : Int) then (if rdOf false x1 x6 = true then ((soukref01_Plus.f k y288 x0).bind fun t292 => (soukref01_Times.l0 k x0 x1 t292 (wrap64 (x6 - 1)))) else (soukref01_Times.l0 k x0 x1 y288 (wrap64 (x6 - 1)))) else (none)) else (none))) else (none))) else ((soukref01_trim.f k x5).bind fun t295 => (some t295))
def soukref01_Times.f (k : Nat) (l0 : List Bool) (l1 : List Bool) : Option (List Bool) := soukref01_Times.l0 k l0 l1 ([] : List Bool) (wrap64 ((l1.length : Int) - 1))
set_option maxHeartbeats 8000000 in
set_option maxRecDepth 100000 in
theorem soukref01_Times.calls (k : Nat) (A0 : Option Addr) (c0 : Nat) (l0 : List Bool) (A1 : Option Addr) (c1 : Nat) (l1 : List Bool) (r : List Bool) (w : World) (hr0 : Kd.C Kd.bool w A0 l0.length l0) (hc0 : l0.length ≤ c0) (hr1 : Kd.C Kd.bool w A1 l1.length l1) (hc1 : l1.length ≤ c1) (h : soukref01_Times.f k l0 l1 = some r) :
  Calls Try.prog 43 #[.slice A0 l0.length c0, .slice A1 l1.length c1] w fun e w' => ∃ v0_ : Value, e = .returned (v0_) ∧ Kd.R Kd.bool 4 w' w.heap.size (fun _ => True) v0_ r ∧ Below w.heap.size w w' := by
 have HR0 := Aside0.mk hr0
 have HC0 := Aside0.mk hc0
 clear hr0 hc0
 have HR1 := Aside0.mk hr1
 have HC1 := Aside0.mk hc1
 clear hr1 hc1
 have HB := Aside0.mk (Below.refl w.heap.size w)
 have H : (soukref01_Times.l0 k l0 l1 ([] : List Bool) (wrap64 ((l1.length : Int) - 1))) = some r := h
 clear h
 have H' := Aside0.mk H
 clear H
 go_enter Try.func43, Try.ntmps43
 go_wp2
 go_loopg [5, 6] k (fun kq v5 v6 w' => ∃ (x5_1 : List Bool) (x6_1 : Int), v6 = .int .i64 x6_1 ∧ Aside0 (soukref01_Times.l0 kq l0 l1 x5_1 x6_1 = some r) ∧ Aside0 (kq ≤ k) ∧ Aside0 (Kd.R Kd.bool 4 w' w.heap.size (fun _ => True) v5 x5_1) ∧ Aside0 (Below w.heap.size w w'))
 case atStart => exact ⟨(([] : List Bool)), (wrap64 ((l1.length : Int) - 1)), (by first | rfl | (simp; done) | (simp [*]; done)), H', ⟨Nat.le_refl _⟩, ⟨by first | exact Kd.R_nil _ _ _ _ _ | exact Kd.N_nil _ _ _ _ _ | exact Kd.V_nil _ _ _ _ _ | exact Kd.Q_nil _ _ _ _ _ | exact Kd.S_nil _ _ _ _ _⟩, ⟨by repeat (first | (with_reducible first | exact HB.out | apply below_alloc | apply pw_below_drewN | apply below_drew1) | exact HB.out)⟩⟩
 case round =>
  clear H'
  try clear c1
  try clear p2
  obtain ⟨x5_1, x6_1, rfl, HA, HK1, HO_5, HB⟩ := hrel
  cases gk with
  | zero => exact absurd HA.out (by simp [soukref01_Times.l0])
  | succ k1 =>
   have H := HA.out
   clear HA
   simp only [soukref01_Times.l0] at H
   by_cases c3 : x6_1 ≥ 0
   ·rw [if_pos c3] at H
    have c3b0 : decide (0 ≤ x6_1) = true := decide_eq_true c3
    clear c3
    obtain ⟨y285, hy285⟩ : ∃ y_ : List Bool, y_ = (([false] : List Bool)) := ⟨_, rfl⟩
    replace H : (if y285.length + x5_1.length < 140737488355328 then ((some (y285 ++ x5_1 : List Bool)).bind fun y288 => (if 0 ≤ x6_1 then (if x6_1 < (l1.length : Int) then (if rdOf false l1 x6_1 = true then ((soukref01_Plus.f k1 y288 l0).bind fun t292 => (soukref01_Times.l0 k1 l0 l1 t292 (wrap64 (x6_1 - 1)))) else (soukref01_Times.l0 k1 l0 l1 y288 (wrap64 (x6_1 - 1)))) else (none)) else (none))) else (none)) = some r := by first | (rw [hy285]; with_reducible exact H) | (have H2_ := (Option.bind_some _ _).symm.trans H; rw [hy285]; with_reducible exact H2_) | (have H2_ := (Option.bind_some _ _).symm.trans H; with_reducible exact H2_) | with_reducible exact H | (rw [hy285]; exact H) | exact H
    have Ny285 := Aside0.mk hy285
    clear hy285
    by_cases c4 : y285.length + x5_1.length < 140737488355328
    ·rw [if_pos c4] at H
     have LMc4 := Aside0.mk c4
     clear c4
     obtain ⟨y288, hy288⟩ : ∃ y_ : List Bool, y_ = (y285 ++ x5_1) := ⟨_, rfl⟩
     replace H : (if 0 ≤ x6_1 then (if x6_1 < (l1.length : Int) then (if rdOf false l1 x6_1 = true then ((soukref01_Plus.f k1 y288 l0).bind fun t292 => (soukref01_Times.l0 k1 l0 l1 t292 (wrap64 (x6_1 - 1)))) else (soukref01_Times.l0 k1 l0 l1 y288 (wrap64 (x6_1 - 1)))) else (none)) else (none)) = some r := by first | (rw [hy288]; with_reducible exact H) | (have H2_ := (Option.bind_some _ _).symm.trans H; rw [hy288]; with_reducible exact H2_) | (have H2_ := (Option.bind_some _ _).symm.trans H; with_reducible exact H2_) | with_reducible exact H | (rw [hy288]; exact H) | exact H
     have Ny288 := Aside0.mk hy288
     clear hy288
     by_cases c5 : 0 ≤ x6_1
     ·rw [if_pos c5] at H
      have c5b0 : decide (0 ≤ x6_1) = true := decide_eq_true c5
      clear c5
      by_cases c6 : x6_1 < (l1.length : Int)
      ·rw [if_pos c6] at H
       have c6b0 : decide (x6_1 < (l1.length : Int)) = true := decide_eq_true c6
       clear c6
       obtain ⟨bq7, hbq7⟩ : ∃ b_ : Bool, b_ = (rdOf false l1 x6_1) := ⟨_, rfl⟩
       replace H : (if bq7 = true then ((soukref01_Plus.f k1 y288 l0).bind fun t292 => (soukref01_Times.l0 k1 l0 l1 t292 (wrap64 (x6_1 - 1)))) else (soukref01_Times.l0 k1 l0 l1 y288 (wrap64 (x6_1 - 1)))) = some r := by rw [← hbq7] at H; exact H
       have Nbq7 := Aside0.mk hbq7
       clear hbq7
       by_cases c8 : bq7 = true
       ·subst c8
        have H1 : ((soukref01_Plus.f k1 y288 l0).bind fun t292 => (soukref01_Times.l0 k1 l0 l1 t292 (wrap64 (x6_1 - 1)))) = some r := by rw [if_pos rfl] at H; exact H
        clear H
        have H := H1
        clear H1
        replace H := Option.bind_eq_some_iff.mp H
        obtain ⟨t292, A90, H⟩ := H
        replace H : (soukref01_Times.l0 k1 l0 l1 t292 (wrap64 (x6_1 - 1))) = some r := H
        have A9 := Aside0.mk A90
        clear A90
        have H' := Aside0.mk H
        clear H
        go_wp2_with (first | ((with_reducible refine gate_dst (N := 14) rfl ?_); refine Kd.R_lit Kd.bool _ 4 ?hg (N := 14) ?hd (xs := ([false] : List Bool)) (inner := [.bool false]) (ok := fun _ => True) (okp := fun _ => True) ?hr ?hp (fun _ hk => hk) trivial (Below.refl _ _) (Nat.le_refl _) (by simp) ?_; (case hd => rfl); (case hg => rfl); (case hr => first | (go_simp; done) | (go_simp; rfl)); (case hp => exact (Reps.one (show Kd.M Kd.bool _ _ _ false [.bool false] from rfl) (Reps.none _ _))); intro v286 w10 ho11 hb hg_ hnew_; clear hg_ hnew_; (first | rw [← Ny285.out] at ho11 | (simp only [Int.reduceToNat] at ho11; rw [← Ny285.out] at ho11)); have n0_ := Aside0.mk (Kd.R_elder' (by (with_reducible repeat (first | apply Kd.R_alloc | apply Kd.R_drewN | apply Kd.R_drew)); exact HO_5.out) (Kd.R_base ho11) hb); have n1_ := Aside0.mk (Kd.R_lower (Kd.R_new' ho11 (Kd.R_lt (by (with_reducible repeat (first | apply Kd.R_alloc | apply Kd.R_drewN | apply Kd.R_drew)); exact HO_5.out))) (below_size (by repeat (first | (with_reducible first | exact HB.out | apply below_alloc | apply pw_below_drewN | apply below_drew1) | exact HB.out)))); have n2_ := Aside0.mk (below_step (by repeat (first | (with_reducible first | exact HB.out | apply below_alloc | apply pw_below_drewN | apply below_drew1) | exact HB.out)) hb); clear HO_5; clear HB; have HO_5 := n0_; have HO287 := n1_; have HB := n2_; clear n0_ n1_ n2_; clear hb ho11; obtain ⟨Ao13, co13, eo13⟩ := Kd.R_slice HO_5.out; subst eo13) | ((with_reducible refine gate_builtin (b := .append) (xs := #[.tmp 14, .tmp 15]) rfl ?_); at_builtin; refine Kd.R_append_rows Kd.bool (w0 := w) w.heap.size rfl (.tmp 14) (.tmp 15) 87 4 (.bool false) 1 rfl Try.underlying87 info4 rfl (by decide) (by omega) v286 y285 x5_1 _ _ _ (fun k_ => some k_ ≠ (.slice Ao13 x5_1.length co13 : Value).ownBlock) (fun _ => False) rfl rfl ?aO ?aR (fun _ _ h => h) (fun _ h => h.elim) ?aF ?aB ?aS ?aL ?_; (case aR => repeat (first | exact (Kd.R_reads' HO_5.out).2.2 | (with_reducible refine Kd.C_alloc ?_ _) | (with_reducible refine Kd.C_drewN ?_ _) | (with_reducible refine Kd.C_drew ?_))); (case aB => exact (by repeat (first | (with_reducible first | exact HB.out | apply below_alloc | apply pw_below_drewN | apply below_drew1) | exact HB.out))); (case aF => exact (fun k_ hk => Kd.fresh' (Kd.R_lt (by (with_reducible repeat (first | apply Kd.R_alloc | apply Kd.R_drewN | apply Kd.R_drew)); exact HO_5.out)) k_ hk)); (case aO => exact (by (with_reducible repeat (first | apply Kd.R_alloc | apply Kd.R_drewN | apply Kd.R_drew)); exact Kd.R_mono HO287.out (fun _ hk => hk.2))); (case aS => exact (below_size (by repeat (first | (with_reducible first | exact HB.out | apply below_alloc | apply pw_below_drewN | apply below_drew1) | exact HB.out)))); (case aL => have := LMc4.out; omega); intro v289 w12 ho hb hg hat; rw [← Ny288.out] at ho; have n0_ := Aside0.mk (Kd.R_after (ok := (fun _ => True)) (by (with_reducible repeat (first | apply Kd.R_alloc | apply Kd.R_drewN | apply Kd.R_drew)); exact HO_5.out) hg hat); have n1_ := Aside0.mk (hb); have n2_ := Aside0.mk (ho); clear HO_5; clear HB; clear HO287; have HO_5 := n0_; have HB := n1_; have HO290 := n2_; clear n0_ n1_ n2_; clear ho hb hg hat; have p291 : 0 ≤ (x6_1 : Int) := of_decide_eq_true (by first | (with_reducible assumption) | assumption); have q291 : x6_1 < (l1.length : Int) := of_decide_eq_true (by first | (with_reducible assumption) | assumption); obtain ⟨ad291, e291, hx291_0⟩ := Kd.at_bool HR1.out x6_1 p291 q291; (try rw [← Nbq7.out] at hx291_0); cases e291; replace hx291_0 := (HB.out.cell (World.block_lt_of_cell? w _ hx291_0)).trans hx291_0; replace p291 := eq_true p291; replace q291 := eq_true q291; obtain ⟨Ao14, co14, eo14⟩ := Kd.R_slice HO290.out; subst eo14) | ((with_reducible refine gate_callee (f := 45) rfl ?_); refine goesL_ (some 23) rfl rfl Try.func45 (by kernel_rfl) rfl #[.slice Ao14 y288.length co14, .slice A0 l0.length c0] rfl (by (try simp only [List.map_toArray, List.map_cons, List.map_nil]); first | done | rfl | (simp only [List.length_drop, List.length_take]; rfl)) ?_; (with_reducible refine (soukref01_Plus.calls k1 _ _ y288 _ _ l0 t292 _ ?side1 ?side2 ?side3 ?side4 A9.out).mono ?_); (case side1 => repeat (first | exact (Kd.R_reads' HO290.out).2.2 | (with_reducible refine Kd.C_alloc ?_ _) | (with_reducible refine Kd.C_drewN ?_ _) | (with_reducible refine Kd.C_drew ?_))); (case side2 => exact (Kd.R_reads' HO290.out).2.1); (case side3 => repeat (first | exact (Kd.C_below HR0.out HB.out) | (with_reducible refine Kd.C_alloc ?_ _) | (with_reducible refine Kd.C_drewN ?_ _) | (with_reducible refine Kd.C_drew ?_))); (case side4 => exact HC0.out); rintro e w15 ⟨v293, rfl, ho0, hb⟩; refine ⟨_, rfl, ?_⟩; have n0_ := Aside0.mk (Kd.R_elder' (by (with_reducible repeat (first | apply Kd.R_alloc | apply Kd.R_drewN | apply Kd.R_drew)); exact HO_5.out) (Kd.R_base ho0) hb); have n1_ := Aside0.mk (Kd.R_elder' (by (with_reducible repeat (first | apply Kd.R_alloc | apply Kd.R_drewN | apply Kd.R_drew)); exact HO290.out) (Kd.R_base ho0) hb); have n2_ := Aside0.mk (Kd.R_lower (Kd.R_new' (Kd.R_new' ho0 (Kd.R_lt (by (with_reducible repeat (first | apply Kd.R_alloc | apply Kd.R_drewN | apply Kd.R_drew)); exact HO_5.out))) (Kd.R_lt (by (with_reducible repeat (first | apply Kd.R_alloc | apply Kd.R_drewN | apply Kd.R_drew)); exact HO290.out))) (below_size (by repeat (first | (with_reducible first | exact HB.out | apply below_alloc | apply pw_below_drewN | apply below_drew1) | exact HB.out)))); have n3_ := Aside0.mk (below_step (by repeat (first | (with_reducible first | exact HB.out | apply below_alloc | apply pw_below_drewN | apply below_drew1) | exact HB.out)) hb); clear HO_5; clear HO290; clear HB; have HO_5 := n0_; have HO290 := n1_; have HO294 := n2_; have HB := n3_; clear n0_ n1_ n2_ n3_; (try clear hb); (try clear hb2); (try clear hk); (try clear hi); (try clear ho0)))
        go_roundg k1
        case measure => have := HK1.out; omega
        case rel => exact ⟨(t292), (wrap64 (x6_1 - 1)), (by first | rfl | (simp; done) | (simp [*]; done)), H', ⟨by have := HK1.out; omega⟩, ⟨by (with_reducible repeat (first | apply Kd.R_alloc | apply Kd.R_drewN | apply Kd.R_drew)); exact Kd.R_mono HO294.out (fun _ hk => trivial)⟩, ⟨by repeat (first | (with_reducible first | exact HB.out | apply below_alloc | apply pw_below_drewN | apply below_drew1) | exact HB.out)⟩⟩
       ·replace c8 := Bool.eq_false_iff.mpr c8
        subst c8
        have H1 : (soukref01_Times.l0 k1 l0 l1 y288 (wrap64 (x6_1 - 1))) = some r := by rw [if_neg (show ¬ (false = true) by decide)] at H; exact H
        clear H
        have H := H1
        clear H1
        have H' := Aside0.mk H
        clear H
        go_wp2_with (first | ((with_reducible refine gate_dst (N := 14) rfl ?_); refine Kd.R_lit Kd.bool _ 4 ?hg (N := 14) ?hd (xs := ([false] : List Bool)) (inner := [.bool false]) (ok := fun _ => True) (okp := fun _ => True) ?hr ?hp (fun _ hk => hk) trivial (Below.refl _ _) (Nat.le_refl _) (by simp) ?_; (case hd => rfl); (case hg => rfl); (case hr => first | (go_simp; done) | (go_simp; rfl)); (case hp => exact (Reps.one (show Kd.M Kd.bool _ _ _ false [.bool false] from rfl) (Reps.none _ _))); intro v286 w16 ho17 hb hg_ hnew_; clear hg_ hnew_; (first | rw [← Ny285.out] at ho17 | (simp only [Int.reduceToNat] at ho17; rw [← Ny285.out] at ho17)); have n0_ := Aside0.mk (Kd.R_elder' (by (with_reducible repeat (first | apply Kd.R_alloc | apply Kd.R_drewN | apply Kd.R_drew)); exact HO_5.out) (Kd.R_base ho17) hb); have n1_ := Aside0.mk (Kd.R_lower (Kd.R_new' ho17 (Kd.R_lt (by (with_reducible repeat (first | apply Kd.R_alloc | apply Kd.R_drewN | apply Kd.R_drew)); exact HO_5.out))) (below_size (by repeat (first | (with_reducible first | exact HB.out | apply below_alloc | apply pw_below_drewN | apply below_drew1) | exact HB.out)))); have n2_ := Aside0.mk (below_step (by repeat (first | (with_reducible first | exact HB.out | apply below_alloc | apply pw_below_drewN | apply below_drew1) | exact HB.out)) hb); clear HO_5; clear HB; have HO_5 := n0_; have HO287 := n1_; have HB := n2_; clear n0_ n1_ n2_; clear hb ho17; obtain ⟨Ao19, co19, eo19⟩ := Kd.R_slice HO_5.out; subst eo19) | ((with_reducible refine gate_builtin (b := .append) (xs := #[.tmp 14, .tmp 15]) rfl ?_); at_builtin; refine Kd.R_append_rows Kd.bool (w0 := w) w.heap.size rfl (.tmp 14) (.tmp 15) 87 4 (.bool false) 1 rfl Try.underlying87 info4 rfl (by decide) (by omega) v286 y285 x5_1 _ _ _ (fun k_ => some k_ ≠ (.slice Ao19 x5_1.length co19 : Value).ownBlock) (fun _ => False) rfl rfl ?aO ?aR (fun _ _ h => h) (fun _ h => h.elim) ?aF ?aB ?aS ?aL ?_; (case aR => repeat (first | exact (Kd.R_reads' HO_5.out).2.2 | (with_reducible refine Kd.C_alloc ?_ _) | (with_reducible refine Kd.C_drewN ?_ _) | (with_reducible refine Kd.C_drew ?_))); (case aB => exact (by repeat (first | (with_reducible first | exact HB.out | apply below_alloc | apply pw_below_drewN | apply below_drew1) | exact HB.out))); (case aF => exact (fun k_ hk => Kd.fresh' (Kd.R_lt (by (with_reducible repeat (first | apply Kd.R_alloc | apply Kd.R_drewN | apply Kd.R_drew)); exact HO_5.out)) k_ hk)); (case aO => exact (by (with_reducible repeat (first | apply Kd.R_alloc | apply Kd.R_drewN | apply Kd.R_drew)); exact Kd.R_mono HO287.out (fun _ hk => hk.2))); (case aS => exact (below_size (by repeat (first | (with_reducible first | exact HB.out | apply below_alloc | apply pw_below_drewN | apply below_drew1) | exact HB.out)))); (case aL => have := LMc4.out; omega); intro v289 w18 ho hb hg hat; rw [← Ny288.out] at ho; have n0_ := Aside0.mk (Kd.R_after (ok := (fun _ => True)) (by (with_reducible repeat (first | apply Kd.R_alloc | apply Kd.R_drewN | apply Kd.R_drew)); exact HO_5.out) hg hat); have n1_ := Aside0.mk (hb); have n2_ := Aside0.mk (ho); clear HO_5; clear HB; clear HO287; have HO_5 := n0_; have HB := n1_; have HO290 := n2_; clear n0_ n1_ n2_; clear ho hb hg hat; have p291 : 0 ≤ (x6_1 : Int) := of_decide_eq_true (by first | (with_reducible assumption) | assumption); have q291 : x6_1 < (l1.length : Int) := of_decide_eq_true (by first | (with_reducible assumption) | assumption); obtain ⟨ad291, e291, hx291_0⟩ := Kd.at_bool HR1.out x6_1 p291 q291; (try rw [← Nbq7.out] at hx291_0); cases e291; replace hx291_0 := (HB.out.cell (World.block_lt_of_cell? w _ hx291_0)).trans hx291_0; replace p291 := eq_true p291; replace q291 := eq_true q291))
        go_roundg k1
        case measure => have := HK1.out; omega
        case rel => exact ⟨(y288), (wrap64 (x6_1 - 1)), (by first | rfl | (simp; done) | (simp [*]; done)), H', ⟨by have := HK1.out; omega⟩, ⟨by (with_reducible repeat (first | apply Kd.R_alloc | apply Kd.R_drewN | apply Kd.R_drew)); exact Kd.R_mono HO290.out (fun _ hk => trivial)⟩, ⟨by repeat (first | (with_reducible first | exact HB.out | apply below_alloc | apply pw_below_drewN | apply below_drew1) | exact HB.out)⟩⟩
      ·rw [if_neg c6] at H
       exact absurd H (by simp)
     ·rw [if_neg c5] at H
      exact absurd H (by simp)
    ·rw [if_neg c4] at H
     exact absurd H (by simp)
   ·rw [if_neg c3] at H
    have c3b0 : decide (0 ≤ x6_1) = false := decide_eq_false c3
    clear c3
    replace H := Option.bind_eq_some_iff.mp H
    obtain ⟨t295, A200, H⟩ := H
    replace H : (some t295) = some r := H
    have A20 := Aside0.mk A200
    clear A200
    obtain rfl := Option.some.inj H
    obtain ⟨Ao21, co21, eo21⟩ := Kd.R_slice HO_5.out
    subst eo21
    go_wp2_with (first | ((with_reducible refine gate_callee (f := 46) rfl ?_); refine goesL_ (some 25) rfl rfl Try.func46 (by kernel_rfl) rfl #[.slice Ao21 x5_1.length co21] rfl (by (try simp only [List.map_toArray, List.map_cons, List.map_nil]); first | done | rfl | (simp only [List.length_drop, List.length_take]; rfl)) ?_; (with_reducible refine (soukref01_trim.calls k1 (fun k_ => some k_ = (.slice Ao21 x5_1.length co21 : Value).ownBlock) (.slice Ao21 x5_1.length co21) x5_1 t295 w _ ?side1 ?side2 A20.out).mono ?_); (case side1 => repeat (first | (with_reducible first | exact HB.out | apply below_alloc | apply pw_below_drewN | apply below_drew1) | exact HB.out)); (case side2 => exact Kd.R_tight rfl HO_5.out); rintro e w22 ⟨v296, rfl, ho0, hb, hkp⟩; refine ⟨_, rfl, ?_⟩; have n0_ := Aside0.mk (Kd.R_mono (ok' := fun k_ => True) ho0 (fun k_ hk_ => trivial)); have n1_ := Aside0.mk (hb); clear HB; clear HO_5; have HO297 := n0_; have HB := n1_; clear n0_ n1_; (try clear hb); (try clear hkp); (try clear ho0)))
    go_ret
    exact ⟨_, by first | rfl | (simp [errW_none, errW_some] <;> rfl) | (simp [*, errW_none, errW_some] <;> rfl), by (with_reducible repeat (first | apply Kd.R_alloc | apply Kd.R_drewN | apply Kd.R_drew)); exact HO297.out, by repeat (first | (with_reducible first | exact HB.out | apply below_alloc | apply pw_below_drewN | apply below_drew1) | exact HB.out)⟩
end Go.Proofs.Ytncnhhnbjmpomaa.Q
namespace Go.Proofs.Ytncnhhnbjmpomaa.Q
open Go.RowKit Go.Proofs.YtncnhhnbjmpomaaW.PrintWords Go.Proofs.YtncnhhnbjmpomaaW.PrintLast Go.Proofs.YtncnhhnbjmpomaaW.PrintMore
attribute [local go_sem] max2_int min2_int max_two min_two max_three min_three max_four min_four   -- for this text's walks alone
set_option linter.unusedVariables false
set_option linter.unusedSimpArgs false
mutual
def soukref01_bits.j0 : Nat → List Bool → Int → Option (List Bool)
 | 0, _, _ => none
 | k + 1, x3, x4 => soukref01_bits.l0 k x3 x4
def soukref01_bits.l0 : Nat → List Bool → Int → Option (List Bool)
 | 0, _, _ => none
 | k + 1, x3, x4 => if x4 > 0 then (if x3.length < 140737488355328 then (soukref01_bits.l0 k (x3 ++ [((Go.bits .and .u64 x4 1) == 1)]) (x4 / 2)) else (none)) else (some x3)
end
def soukref01_bits.f (k : Nat) (a0 : Int) : Option (List Bool) := if a0 < 0 then (soukref01_bits.j0 k ([] : List Bool) (IntKind.u64.wrap (-(IntKind.u64.wrap (a0))))) else (soukref01_bits.j0 k ([] : List Bool) (IntKind.u64.wrap (a0)))
set_option maxHeartbeats 8000000 in
set_option maxRecDepth 100000 in
theorem soukref01_bits.calls (k : Nat) (a0 : Int) (r : List Bool) (w : World) (h : soukref01_bits.f k a0 = some r) :
  Calls Try.prog 44 #[.int .i64 a0] w fun e w' => ∃ v0_ : Value, e = .returned (v0_) ∧ Kd.R Kd.bool 4 w' w.heap.size (fun _ => True) v0_ r ∧ Below w.heap.size w w' := by
 have HB := Aside0.mk (Below.refl w.heap.size w)
 have H : (if a0 < 0 then (soukref01_bits.j0 k ([] : List Bool) (IntKind.u64.wrap (-(IntKind.u64.wrap (a0))))) else (soukref01_bits.j0 k ([] : List Bool) (IntKind.u64.wrap (a0)))) = some r := h
 clear h
 have HC2 := Aside0.mk H
 clear H
 go_enter Try.func44, Try.ntmps44
 go_upto_if 8 with (fail)
 go_cut [4] (fun v4 wc => ∃ (kq : Nat) (x4_1 : Int), v4 = .int .u64 x4_1 ∧ Aside0 (soukref01_bits.j0 kq ([] : List Bool) x4_1 = some r) ∧ Aside0 (kq ≤ k) ∧ Aside0 (Kd.R Kd.bool 4 wc w.heap.size (fun _ => True) (.slice none 0 0) ([] : List Bool)) ∧ Aside0 (Below w.heap.size w wc))
 case first =>
  have H := HC2.out
  clear HC2
  by_cases c3 : a0 < 0
  ·rw [if_pos c3] at H
   have c3b0 : decide (a0 < 0) = true := decide_eq_true c3
   clear c3
   (first | rw [c3b0] | (simp only [i64_w, i32_w]; rw [c3b0]) | skip)
   have H' := Aside0.mk H
   clear H
   go_wp2
   go_meet
   case rel => exact ⟨_, (IntKind.u64.wrap (-(IntKind.u64.wrap (a0)))), (by first | rfl | (simp; done) | (simp [*]; done)), H', ⟨by first | omega | exact Nat.le_refl _⟩, ⟨by first | exact Kd.R_nil _ _ _ _ _ | exact Kd.N_nil _ _ _ _ _ | exact Kd.V_nil _ _ _ _ _ | exact Kd.Q_nil _ _ _ _ _ | exact Kd.S_nil _ _ _ _ _⟩, ⟨by repeat (first | (with_reducible first | exact HB.out | apply below_alloc | apply pw_below_drewN | apply below_drew1) | exact HB.out)⟩⟩
  ·rw [if_neg c3] at H
   have c3b0 : decide (a0 < 0) = false := decide_eq_false c3
   clear c3
   (first | rw [c3b0] | (simp only [i64_w, i32_w]; rw [c3b0]) | skip)
   have H' := Aside0.mk H
   clear H
   go_wp2
   go_meet
   case rel => exact ⟨_, (IntKind.u64.wrap (a0)), (by first | rfl | (simp; done) | (simp [*]; done)), H', ⟨by first | omega | exact Nat.le_refl _⟩, ⟨by first | exact Kd.R_nil _ _ _ _ _ | exact Kd.N_nil _ _ _ _ _ | exact Kd.V_nil _ _ _ _ _ | exact Kd.Q_nil _ _ _ _ _ | exact Kd.S_nil _ _ _ _ _⟩, ⟨by repeat (first | (with_reducible first | exact HB.out | apply below_alloc | apply pw_below_drewN | apply below_drew1) | exact HB.out)⟩⟩
 case rest =>
  clear HC2
  try clear p2
  try clear c3
  try clear c3b0
  obtain ⟨kq, x4_1, rfl, HA, HJ1, HO_3, HB⟩ := hcut
  cases kq with
  | zero => exact absurd HA.out (by simp [soukref01_bits.j0])
  | succ kj1 =>
   have H := HA.out
   clear HA
   simp only [soukref01_bits.j0] at H
   have H' := Aside0.mk H
   clear H
   go_wp2
   go_loopg [3, 4] kj1 (fun kq v3 v4 w' => ∃ (x3_2 : List Bool) (x4_2 : Int), v4 = .int .u64 x4_2 ∧ Aside0 (soukref01_bits.l0 kq x3_2 x4_2 = some r) ∧ Aside0 (kq ≤ kj1) ∧ Aside0 (Kd.R Kd.bool 4 w' w.heap.size (fun _ => True) v3 x3_2) ∧ Aside0 (Below w.heap.size w w'))
   case atStart => exact ⟨(([] : List Bool)), (x4_1), (by first | rfl | (simp; done) | (simp [*]; done)), H', ⟨Nat.le_refl _⟩, ⟨by (with_reducible repeat (first | apply Kd.R_alloc | apply Kd.R_drewN | apply Kd.R_drew)); exact HO_3.out⟩, ⟨by repeat (first | (with_reducible first | exact HB.out | apply below_alloc | apply pw_below_drewN | apply below_drew1) | exact HB.out)⟩⟩
   case round =>
    clear H'
    try clear p2
    try clear c3
    try clear c3b0
    try clear p2
    obtain ⟨x3_2, x4_2, rfl, HA, HK2, HO_3, HB⟩ := hrel
    cases gk with
    | zero => exact absurd HA.out (by simp [soukref01_bits.l0])
    | succ k2 =>
     have H := HA.out
     clear HA
     simp only [soukref01_bits.l0] at H
     by_cases c4 : x4_2 > 0
     ·rw [if_pos c4] at H
      have c4b0 : decide (0 < x4_2) = true := decide_eq_true c4
      clear c4
      by_cases c5 : x3_2.length < 140737488355328
      ·rw [if_pos c5] at H
       have LMc5 := Aside0.mk c5
       clear c5
       obtain ⟨y298, hy298⟩ : ∃ y_ : List Bool, y_ = (x3_2 ++ [((Go.bits .and .u64 x4_2 1) == 1)]) := ⟨_, rfl⟩
       replace H : (soukref01_bits.l0 k2 y298 (x4_2 / 2)) = some r := by first | (rw [hy298]; with_reducible exact H) | (have H2_ := (Option.bind_some _ _).symm.trans H; rw [hy298]; with_reducible exact H2_) | (have H2_ := (Option.bind_some _ _).symm.trans H; with_reducible exact H2_) | with_reducible exact H | (rw [hy298]; exact H) | exact H
       have Ny298 := Aside0.mk hy298
       clear hy298
       have H' := Aside0.mk H
       clear H
       go_wp2_with (first | ((with_reducible refine gate_builtin (b := .append) (xs := #[.tmp 13, .tmp 17]) rfl ?_); at_builtin; refine Kd.R_append Kd.bool (w0 := w) w.heap.size rfl (.tmp 13) (.tmp 17) 87 4 (.bool false) 1 rfl Try.underlying87 info4 rfl (by decide) (by omega) u3 x3_2 ((Go.bits .and .u64 x4_2 1) == 1) [.bool ((Go.bits .and .u64 x4_2 1) == 1)] (fun _ => True) (fun _ => False) rfl rfl ?aP (fun _ hk => hk.elim) ?aF ?aO ?aB ?aS ?aL ?_; (case aP => exact rfl); (case aB => exact (by repeat (first | (with_reducible first | exact HB.out | apply below_alloc | apply pw_below_drewN | apply below_drew1) | exact HB.out))); (case aF => exact (fun _ _ => trivial)); (case aO => exact (by (with_reducible repeat (first | apply Kd.R_alloc | apply Kd.R_drewN | apply Kd.R_drew)); exact HO_3.out)); (case aS => exact (below_size (by repeat (first | (with_reducible first | exact HB.out | apply below_alloc | apply pw_below_drewN | apply below_drew1) | exact HB.out)))); (case aL => have := LMc5.out; omega); intro v299 w6 ho hb hg hat; rw [← Ny298.out] at ho; have n0_ := Aside0.mk (hb); have n1_ := Aside0.mk (ho); clear HB; clear HO_3; have HB := n0_; have HO300 := n1_; clear n0_ n1_; clear ho hb hg hat))
       go_roundg k2
       case measure => have := HJ1.out; have := HK2.out; omega
       case rel => exact ⟨(y298), (x4_2 / 2), (by first | rfl | (simp; done) | (simp [*]; done)), H', ⟨by have := HJ1.out; have := HK2.out; omega⟩, ⟨by (with_reducible repeat (first | apply Kd.R_alloc | apply Kd.R_drewN | apply Kd.R_drew)); exact HO300.out⟩, ⟨by repeat (first | (with_reducible first | exact HB.out | apply below_alloc | apply pw_below_drewN | apply below_drew1) | exact HB.out)⟩⟩
      ·rw [if_neg c5] at H
       exact absurd H (by simp)
     ·rw [if_neg c4] at H
      have c4b0 : decide (0 < x4_2) = false := decide_eq_false c4
      clear c4
      obtain rfl := Option.some.inj H
      go_wp2
      go_ret
      exact ⟨_, by first | rfl | (simp [errW_none, errW_some] <;> rfl) | (simp [*, errW_none, errW_some] <;> rfl), by (with_reducible repeat (first | apply Kd.R_alloc | apply Kd.R_drewN | apply Kd.R_drew)); exact HO_3.out, by repeat (first | (with_reducible first | exact HB.out | apply below_alloc | apply pw_below_drewN | apply below_drew1) | exact HB.out)⟩
end Go.Proofs.Ytncnhhnbjmpomaa.Q
namespace Go.Proofs.Ytncnhhnbjmpomaa.Q
open Go.RowKit Go.Proofs.YtncnhhnbjmpomaaW.PrintWords Go.Proofs.YtncnhhnbjmpomaaW.PrintLast Go.Proofs.YtncnhhnbjmpomaaW.PrintMore
attribute [local go_sem] max2_int min2_int max_two min_two max_three min_three max_four min_four   -- for this text's walks alone
set_option linter.unusedVariables false
set_option linter.unusedSimpArgs false
mutual
def soukref01_value.l0 : Nat → List Bool → Bool → Int → Int → Option (Int × Bool)
 | 0, _, _, _, _ => none
 | k + 1, x0, x1, x6, x7 => if x7 ≥ 0 then (if 0 ≤ x7 then (if x7 < (x0.length : Int) then (if rdOf false x0 x7 = true then (soukref01_value.l0 k x0 x1 (IntKind.u64.wrap ((IntKind.u64.wrap (x6 * 2)) + 1)) (wrap64 (x7 - 1))) else (soukref01_value.l0 k x0 x1 (IntKind.u64.wrap (x6 * 2)) (wrap64 (x7 - 1)))) else (none)) else (none)) else (if x1 = true then (soukref01_value.j1 k x1 x6 (decide (x6 ≤ 9223372036854775808))) else (soukref01_value.j1 k x1 x6 false))
def soukref01_value.j1 : Nat → Bool → Int → Bool → Option (Int × Bool)
 | 0, _, _, _ => none
 | k + 1, x1, x6, x32 => if x32 = true then (some (wrap64 (IntKind.u64.wrap (-x6)), true)) else (if x6 < 9223372036854775808 then (if x1 = true then (some (wrap64 (x6), (x6 == 0))) else (some (wrap64 (x6), true))) else (some (0, false)))
end
def soukref01_value.f (k : Nat) (l0 : List Bool) (a1 : Bool) : Option (Int × Bool) := (soukref01_trim.f k l0).bind fun t301 => (if (t301.length : Int) > 64 then (some (0, false)) else (soukref01_value.l0 k t301 a1 0 (wrap64 ((t301.length : Int) - 1))))
set_option maxHeartbeats 8000000 in
set_option maxRecDepth 100000 in
theorem soukref01_value.calls (k : Nat) (P0_ : Nat → Prop) (u9000_ : Value) (l0 : List Bool) (a1 : Bool) (r1 : Int) (r2 : Bool) (w0 w : World) (hB : Below w0.heap.size w0 w) (ho0 : Kd.R Kd.bool 4 w w0.heap.size P0_ u9000_ l0) (h : soukref01_value.f k l0 a1 = some (r1, r2)) :
  Calls Try.prog 49 #[u9000_, .bool a1] w fun e w' => e = .returned (.tuple #[.int .i64 r1, .bool r2]) ∧ Below w0.heap.size w0 w' ∧ Kept w w' (fun k_ => P0_ k_) := by
 have HO0 := Aside0.mk (show Kd.R Kd.bool 4 w w0.heap.size (fun k_ => (P0_ k_ ∨ w.heap.size ≤ k_)) u9000_ l0 from Kd.R_mono ho0 (fun k_ hk => (.inl hk)))
 have HK := Aside0.mk (Kept.refl w (fun k_ => P0_ k_))
 have HW0 := Aside0.mk hB.size
 have HB := Aside0.mk hB
 clear hB
 have H : ((soukref01_trim.f k l0).bind fun t301 => (if (t301.length : Int) > 64 then (some (0, false)) else (soukref01_value.l0 k t301 a1 0 (wrap64 ((t301.length : Int) - 1))))) = some (r1, r2) := h
 clear h
 replace H := Option.bind_eq_some_iff.mp H
 obtain ⟨t301, A30, H⟩ := H
 replace H : (if (t301.length : Int) > 64 then (some (0, false)) else (soukref01_value.l0 k t301 a1 0 (wrap64 ((t301.length : Int) - 1)))) = some (r1, r2) := H
 have A3 := Aside0.mk A30
 clear A30
 by_cases c4 : (t301.length : Int) > 64
 ·rw [if_pos c4] at H
  have c4b0 : decide (64 < (t301.length : Int)) = true := decide_eq_true c4
  have c4b1 : decide (64 < t301.length) = true := decide_eq_true (by omega)
  clear c4
  simp only [Option.some.injEq, Prod.mk.injEq] at H
  obtain ⟨rfl, rfl⟩ := H
  obtain ⟨Ao5, co5, eo5⟩ := Kd.R_slice HO0.out
  subst eo5
  go_enter Try.func49, Try.ntmps49
  go_wp2_with (first | ((with_reducible refine gate_callee (f := 46) rfl ?_); refine goesL_ (some 9) rfl rfl Try.func46 (by kernel_rfl) rfl #[.slice Ao5 l0.length co5] rfl (by (try simp only [List.map_toArray, List.map_cons, List.map_nil]); first | done | rfl | (simp only [List.length_drop, List.length_take]; rfl)) ?_; (with_reducible refine (soukref01_trim.calls k (fun k_ => some k_ = (.slice Ao5 l0.length co5 : Value).ownBlock) (.slice Ao5 l0.length co5) l0 t301 w0 _ ?side1 ?side2 A3.out).mono ?_); (case side1 => repeat (first | (with_reducible first | exact HB.out | apply below_alloc | apply pw_below_drewN | apply below_drew1) | exact HB.out)); (case side2 => exact Kd.R_tight rfl HO0.out); rintro e w6 ⟨v302, rfl, ho0, hb, hkp⟩; refine ⟨_, rfl, ?_⟩; have n0_ := Aside0.mk (Kd.R_mono (ok' := fun k_ => (P0_ k_ ∨ w.heap.size ≤ k_)) ho0 (fun k_ hk_ => Or.elim hk_ (fun hs_ => (HO0.out.1 k_ (hs_).symm)) (fun hn_ => (.inr (Nat.le_trans (by first | exact HK.out.1 | exact (show Kept w _ (fun k_ => P0_ k_) from by repeat (first | (with_reducible first | exact HK.out | apply Kept.alloc | apply Kept.drewN | apply Kept.drew) | exact HK.out)).1) hn_))))); have n1_ := Aside0.mk (Kept.then_ (S := (fun k_ => P0_ k_)) (by repeat (first | (with_reducible first | exact HK.out | apply Kept.alloc | apply Kept.drewN | apply Kept.drew) | exact HK.out)) hkp (fun k_ hs_ => (fun e_ => (HO0.out.1 k_ e_.symm)) hs_)); have n2_ := Aside0.mk (hb); clear HK; clear HB; clear HO0; have HO303 := n0_; have HK := n1_; have HB := n2_; clear n0_ n1_ n2_; (try clear hb); (try clear hkp); (try clear ho0); obtain ⟨Ao7, co7, eo7⟩ := Kd.R_slice HO303.out; subst eo7))
  go_ret2
  exact ⟨by first | rfl | (simp [errW_none, errW_some] <;> rfl) | (simp [*, errW_none, errW_some] <;> rfl), by repeat (first | (with_reducible first | exact HB.out | apply below_alloc | apply pw_below_drewN | apply below_drew1) | exact HB.out), by repeat (first | (with_reducible first | exact HK.out | apply Kept.alloc | apply Kept.drewN | apply Kept.drew) | exact HK.out)⟩
 ·rw [if_neg c4] at H
  have c4b0 : decide (64 < (t301.length : Int)) = false := decide_eq_false c4
  have c4b1 : decide (64 < t301.length) = false := decide_eq_false (by omega)
  clear c4
  have H' := Aside0.mk H
  clear H
  obtain ⟨Ao8, co8, eo8⟩ := Kd.R_slice HO0.out
  subst eo8
  go_enter Try.func49, Try.ntmps49
  go_wp2_with (first | ((with_reducible refine gate_callee (f := 46) rfl ?_); refine goesL_ (some 9) rfl rfl Try.func46 (by kernel_rfl) rfl #[.slice Ao8 l0.length co8] rfl (by (try simp only [List.map_toArray, List.map_cons, List.map_nil]); first | done | rfl | (simp only [List.length_drop, List.length_take]; rfl)) ?_; (with_reducible refine (soukref01_trim.calls k (fun k_ => some k_ = (.slice Ao8 l0.length co8 : Value).ownBlock) (.slice Ao8 l0.length co8) l0 t301 w0 _ ?side1 ?side2 A3.out).mono ?_); (case side1 => repeat (first | (with_reducible first | exact HB.out | apply below_alloc | apply pw_below_drewN | apply below_drew1) | exact HB.out)); (case side2 => exact Kd.R_tight rfl HO0.out); rintro e w9 ⟨v302, rfl, ho0, hb, hkp⟩; refine ⟨_, rfl, ?_⟩; have n0_ := Aside0.mk (Kd.R_mono (ok' := fun k_ => (P0_ k_ ∨ w.heap.size ≤ k_)) ho0 (fun k_ hk_ => Or.elim hk_ (fun hs_ => (HO0.out.1 k_ (hs_).symm)) (fun hn_ => (.inr (Nat.le_trans (by first | exact HK.out.1 | exact (show Kept w _ (fun k_ => P0_ k_) from by repeat (first | (with_reducible first | exact HK.out | apply Kept.alloc | apply Kept.drewN | apply Kept.drew) | exact HK.out)).1) hn_))))); have n1_ := Aside0.mk (Kept.then_ (S := (fun k_ => P0_ k_)) (by repeat (first | (with_reducible first | exact HK.out | apply Kept.alloc | apply Kept.drewN | apply Kept.drew) | exact HK.out)) hkp (fun k_ hs_ => (fun e_ => (HO0.out.1 k_ e_.symm)) hs_)); have n2_ := Aside0.mk (hb); clear HK; clear HB; clear HO0; have HO303 := n0_; have HK := n1_; have HB := n2_; clear n0_ n1_ n2_; (try clear hb); (try clear hkp); (try clear ho0); obtain ⟨Ao10, co10, eo10⟩ := Kd.R_slice HO303.out; subst eo10))
  go_loopg [6, 7] k (fun kq v6 v7 w' => ∃ (x6_1 : Int) (x7_1 : Int), v6 = .int .u64 x6_1 ∧ v7 = .int .i64 x7_1 ∧ Aside0 (soukref01_value.l0 kq t301 a1 x6_1 x7_1 = some (r1, r2)) ∧ Aside0 (kq ≤ k) ∧ Aside0 (Kd.R Kd.bool 4 w' w0.heap.size (fun k_ => (P0_ k_ ∨ w.heap.size ≤ k_)) (.slice Ao10 t301.length co10) t301) ∧ Aside0 (Kept w w' (fun k_ => P0_ k_)) ∧ Aside0 (Below w0.heap.size w0 w'))
  case atStart => exact ⟨(0), (wrap64 ((t301.length : Int) - 1)), (by first | rfl | (simp; done) | (simp [*]; done)), (by first | rfl | (simp; done) | (simp [*]; done)), H', ⟨Nat.le_refl _⟩, ⟨by (with_reducible repeat (first | apply Kd.R_alloc | apply Kd.R_drewN | apply Kd.R_drew)); exact HO303.out⟩, ⟨by repeat (first | (with_reducible first | exact HK.out | apply Kept.alloc | apply Kept.drewN | apply Kept.drew) | exact HK.out)⟩, ⟨by repeat (first | (with_reducible first | exact HB.out | apply below_alloc | apply pw_below_drewN | apply below_drew1) | exact HB.out)⟩⟩
  case round =>
   clear H'
   try clear p2
   try clear c4
   try clear c4b0
   try clear c4b1
   try clear p6
   obtain ⟨x6_1, x7_1, rfl, rfl, HA, HK1, HO_0, HK, HB⟩ := hrel
   cases gk with
   | zero => exact absurd HA.out (by simp [soukref01_value.l0])
   | succ k1 =>
    have H := HA.out
    clear HA
    simp only [soukref01_value.l0] at H
    by_cases c11 : x7_1 ≥ 0
    ·rw [if_pos c11] at H
     have c11b0 : decide (0 ≤ x7_1) = true := decide_eq_true c11
     clear c11
     by_cases c12 : 0 ≤ x7_1
     ·rw [if_pos c12] at H
      have c12b0 : decide (0 ≤ x7_1) = true := decide_eq_true c12
      clear c12
      by_cases c13 : x7_1 < (t301.length : Int)
      ·rw [if_pos c13] at H
       have c13b0 : decide (x7_1 < (t301.length : Int)) = true := decide_eq_true c13
       clear c13
       obtain ⟨bq14, hbq14⟩ : ∃ b_ : Bool, b_ = (rdOf false t301 x7_1) := ⟨_, rfl⟩
       replace H : (if bq14 = true then (soukref01_value.l0 k1 t301 a1 (IntKind.u64.wrap ((IntKind.u64.wrap (x6_1 * 2)) + 1)) (wrap64 (x7_1 - 1))) else (soukref01_value.l0 k1 t301 a1 (IntKind.u64.wrap (x6_1 * 2)) (wrap64 (x7_1 - 1)))) = some (r1, r2) := by rw [← hbq14] at H; exact H
       have Nbq14 := Aside0.mk hbq14
       clear hbq14
       by_cases c15 : bq14 = true
       ·subst c15
        have H1 : (soukref01_value.l0 k1 t301 a1 (IntKind.u64.wrap ((IntKind.u64.wrap (x6_1 * 2)) + 1)) (wrap64 (x7_1 - 1))) = some (r1, r2) := by rw [if_pos rfl] at H; exact H
        clear H
        have H := H1
        clear H1
        have H' := Aside0.mk H
        clear H
        have p304 : 0 ≤ (x7_1 : Int) := of_decide_eq_true (by first | (with_reducible assumption) | assumption)
        have q304 : x7_1 < (t301.length : Int) := of_decide_eq_true (by first | (with_reducible assumption) | assumption)
        obtain ⟨ad304, e304, hx304_0⟩ := Kd.at_bool (Kd.R_reads' HO_0.out).2.2 x7_1 p304 q304
        (try rw [← Nbq14.out] at hx304_0)
        cases e304
        replace p304 := eq_true p304
        replace q304 := eq_true q304
        go_wp2
        go_roundg k1
        case measure => have := HK1.out; omega
        case rel => exact ⟨(IntKind.u64.wrap ((IntKind.u64.wrap (x6_1 * 2)) + 1)), (wrap64 (x7_1 - 1)), (by first | rfl | (simp; done) | (simp [*]; done)), (by first | rfl | (simp; done) | (simp [*]; done)), H', ⟨by have := HK1.out; omega⟩, ⟨by (with_reducible repeat (first | apply Kd.R_alloc | apply Kd.R_drewN | apply Kd.R_drew)); exact HO_0.out⟩, ⟨by repeat (first | (with_reducible first | exact HK.out | apply Kept.alloc | apply Kept.drewN | apply Kept.drew) | exact HK.out)⟩, ⟨by repeat (first | (with_reducible first | exact HB.out | apply below_alloc | apply pw_below_drewN | apply below_drew1) | exact HB.out)⟩⟩
       ·replace c15 := Bool.eq_false_iff.mpr c15
        subst c15
        have H1 : (soukref01_value.l0 k1 t301 a1 (IntKind.u64.wrap (x6_1 * 2)) (wrap64 (x7_1 - 1))) = some (r1, r2) := by rw [if_neg (show ¬ (false = true) by decide)] at H; exact H
        clear H
        have H := H1
        clear H1
        have H' := Aside0.mk H
        clear H
        have p304 : 0 ≤ (x7_1 : Int) := of_decide_eq_true (by first | (with_reducible assumption) | assumption)
        have q304 : x7_1 < (t301.length : Int) := of_decide_eq_true (by first | (with_reducible assumption) | assumption)
        obtain ⟨ad304, e304, hx304_0⟩ := Kd.at_bool (Kd.R_reads' HO_0.out).2.2 x7_1 p304 q304
        (try rw [← Nbq14.out] at hx304_0)
        cases e304
        replace p304 := eq_true p304
        replace q304 := eq_true q304
        go_wp2
        go_roundg k1
        case measure => have := HK1.out; omega
        case rel => exact ⟨(IntKind.u64.wrap (x6_1 * 2)), (wrap64 (x7_1 - 1)), (by first | rfl | (simp; done) | (simp [*]; done)), (by first | rfl | (simp; done) | (simp [*]; done)), H', ⟨by have := HK1.out; omega⟩, ⟨by (with_reducible repeat (first | apply Kd.R_alloc | apply Kd.R_drewN | apply Kd.R_drew)); exact HO_0.out⟩, ⟨by repeat (first | (with_reducible first | exact HK.out | apply Kept.alloc | apply Kept.drewN | apply Kept.drew) | exact HK.out)⟩, ⟨by repeat (first | (with_reducible first | exact HB.out | apply below_alloc | apply pw_below_drewN | apply below_drew1) | exact HB.out)⟩⟩
      ·rw [if_neg c13] at H
       exact absurd H (by simp)
     ·rw [if_neg c12] at H
      exact absurd H (by simp)
    ·rw [if_neg c11] at H
     have c11b0 : decide (0 ≤ x7_1) = false := decide_eq_false c11
     clear c11
     have HC16 := Aside0.mk H
     clear H
     go_upto_region 11 with (fail)
     go_cut [32] (fun v32 wc => ∃ (kq : Nat) (x32_15 : Bool), v32 = .bool x32_15 ∧ Aside0 (soukref01_value.j1 kq a1 x6_1 x32_15 = some (r1, r2)) ∧ Aside0 (kq ≤ k1) ∧ Aside0 (Kept w wc (fun k_ => P0_ k_)) ∧ Aside0 (Below w0.heap.size w0 wc))
     case first =>
      have H := HC16.out
      clear HC16
      by_cases c17 : a1 = true
      ·subst c17
       have H1 : (soukref01_value.j1 k1 true x6_1 (decide (x6_1 ≤ 9223372036854775808))) = some (r1, r2) := by rw [if_pos rfl] at H; exact H
       clear H
       have H := H1
       clear H1
       have H' := Aside0.mk H
       clear H
       go_wp2
       go_meet
       case rel => exact ⟨_, (decide (x6_1 ≤ 9223372036854775808)), (by first | rfl | (simp; done) | (simp [*]; done)), H', ⟨by have := HK1.out; first | omega | exact Nat.le_refl _⟩, ⟨by repeat (first | (with_reducible first | exact HK.out | apply Kept.alloc | apply Kept.drewN | apply Kept.drew) | exact HK.out)⟩, ⟨by repeat (first | (with_reducible first | exact HB.out | apply below_alloc | apply pw_below_drewN | apply below_drew1) | exact HB.out)⟩⟩
      ·replace c17 := Bool.eq_false_iff.mpr c17
       subst c17
       have H1 : (soukref01_value.j1 k1 false x6_1 false) = some (r1, r2) := by rw [if_neg (show ¬ (false = true) by decide)] at H; exact H
       clear H
       have H := H1
       clear H1
       have H' := Aside0.mk H
       clear H
       go_wp2
       go_meet
       case rel => exact ⟨_, (false), (by first | rfl | (simp; done) | (simp [*]; done)), H', ⟨by have := HK1.out; first | omega | exact Nat.le_refl _⟩, ⟨by repeat (first | (with_reducible first | exact HK.out | apply Kept.alloc | apply Kept.drewN | apply Kept.drew) | exact HK.out)⟩, ⟨by repeat (first | (with_reducible first | exact HB.out | apply below_alloc | apply pw_below_drewN | apply below_drew1) | exact HB.out)⟩⟩
     case rest =>
      clear HC16
      try clear c1
      try clear q1
      try clear p2
      try clear p3
      try clear q3
      try clear hx3
      try clear c4
      try clear c4b0
      try clear c4b1
      try clear p6
      try clear c11
      try clear c11b0
      try clear c12
      try clear c12b0
      try clear c13
      try clear c13b0
      try clear q14
      try clear c15
      try clear c17
      try clear hx304_0
      try clear p2
      try clear p304
      try clear p6
      try clear q304
      obtain ⟨kq, x32_15, rfl, HA, HJ15, HK, HB⟩ := hcut
      cases kq with
      | zero => exact absurd HA.out (by simp [soukref01_value.j1])
      | succ kj15 =>
       have H := HA.out
       clear HA
       simp only [soukref01_value.j1] at H
       by_cases c18 : x32_15 = true
       ·subst c18
        have H1 : (some (wrap64 (IntKind.u64.wrap (-x6_1)), true)) = some (r1, r2) := by rw [if_pos rfl] at H; exact H
        clear H
        have H := H1
        clear H1
        simp only [Option.some.injEq, Prod.mk.injEq] at H
        obtain ⟨rfl, rfl⟩ := H
        go_wp2
        go_ret2
        exact ⟨by first | rfl | (simp [errW_none, errW_some] <;> rfl) | (simp [*, errW_none, errW_some] <;> rfl), by repeat (first | (with_reducible first | exact HB.out | apply below_alloc | apply pw_below_drewN | apply below_drew1) | exact HB.out), by repeat (first | (with_reducible first | exact HK.out | apply Kept.alloc | apply Kept.drewN | apply Kept.drew) | exact HK.out)⟩
       ·replace c18 := Bool.eq_false_iff.mpr c18
        subst c18
        have H1 : (if x6_1 < 9223372036854775808 then (if a1 = true then (some (wrap64 (x6_1), (x6_1 == 0))) else (some (wrap64 (x6_1), true))) else (some (0, false))) = some (r1, r2) := by rw [if_neg (show ¬ (false = true) by decide)] at H; exact H
        clear H
        have H := H1
        clear H1
        by_cases c19 : x6_1 < 9223372036854775808
        ·rw [if_pos c19] at H
         have c19b0 : decide (x6_1 < 9223372036854775808) = true := decide_eq_true c19
         clear c19
         by_cases c20 : a1 = true
         ·subst c20
          have H1 : (some (wrap64 (x6_1), (x6_1 == 0))) = some (r1, r2) := by rw [if_pos rfl] at H; exact H
          clear H
          have H := H1
          clear H1
          simp only [Option.some.injEq, Prod.mk.injEq] at H
          obtain ⟨rfl, rfl⟩ := H
          go_wp2
          go_ret2
          exact ⟨by first | rfl | (simp [errW_none, errW_some] <;> rfl) | (simp [*, errW_none, errW_some] <;> rfl), by repeat (first | (with_reducible first | exact HB.out | apply below_alloc | apply pw_below_drewN | apply below_drew1) | exact HB.out), by repeat (first | (with_reducible first | exact HK.out | apply Kept.alloc | apply Kept.drewN | apply Kept.drew) | exact HK.out)⟩
         ·replace c20 := Bool.eq_false_iff.mpr c20
          subst c20
          have H1 : (some (wrap64 (x6_1), true)) = some (r1, r2) := by rw [if_neg (show ¬ (false = true) by decide)] at H; exact H
          clear H
          have H := H1
          clear H1
          simp only [Option.some.injEq, Prod.mk.injEq] at H
          obtain ⟨rfl, rfl⟩ := H
          go_wp2
          go_ret2
          exact ⟨by first | rfl | (simp [errW_none, errW_some] <;> rfl) | (simp [*, errW_none, errW_some] <;> rfl), by repeat (first | (with_reducible first | exact HB.out | apply below_alloc | apply pw_below_drewN | apply below_drew1) | exact HB.out), by repeat (first | (with_reducible first | exact HK.out | apply Kept.alloc | apply Kept.drewN | apply Kept.drew) | exact HK.out)⟩
        ·rw [if_neg c19] at H
         have c19b0 : decide (x6_1 < 9223372036854775808) = false := decide_eq_false c19
         clear c19
         simp only [Option.some.injEq, Prod.mk.injEq] at H
         obtain ⟨rfl, rfl⟩ := H
         go_wp2
         go_ret2
         exact ⟨by first | rfl | (simp [errW_none, errW_some] <;> rfl) | (simp [*, errW_none, errW_some] <;> rfl), by repeat (first | (with_reducible first | exact HB.out | apply below_alloc | apply pw_below_drewN | apply below_drew1) | exact HB.out), by repeat (first | (with_reducible first | exact HK.out | apply Kept.alloc | apply Kept.drewN | apply Kept.drew) | exact HK.out)⟩
end Go.Proofs.Ytncnhhnbjmpomaa.Q
namespace Go.Proofs.Ytncnhhnbjmpomaa.Q
open Go.RowKit Go.Proofs.YtncnhhnbjmpomaaW.PrintWords Go.Proofs.YtncnhhnbjmpomaaW.PrintLast Go.Proofs.YtncnhhnbjmpomaaW.PrintMore
set_option linter.unusedVariables false
set_option linter.unusedSimpArgs false
def bv (b : Bool) : Nat := if b = true then 1 else 0
def val : List Bool → Nat
  | [] => 0
  | b :: l => bv b + 2 * val l
theorem bv_le (b : Bool) : bv b ≤ 1 := by cases b <;> decide
theorem val_lt : ∀ l : List Bool, val l < 2 ^ l.length
  | [] => by decide
  | b :: l => by
    have := val_lt l
    have := bv_le b
    simp only [val, List.length_cons, Nat.pow_succ]; omega
theorem val_snoc : ∀ (l : List Bool) (b : Bool), val (l ++ [b]) = val l + 2 ^ l.length * bv b
  | [], b => by simp [val]
  | c :: l, b => by
    simp only [List.cons_append, val, val_snoc l b, List.length_cons, Nat.pow_succ]
    rw [Nat.mul_add, Nat.mul_comm (2 ^ l.length) 2, Nat.mul_assoc]; omega
theorem val_app : ∀ (l r : List Bool), val (l ++ r) = val l + 2 ^ l.length * val r
  | [], r => by simp [val]
  | c :: l, r => by
    simp only [List.cons_append, val, val_app l r, List.length_cons, Nat.pow_succ]
    rw [Nat.mul_add, Nat.mul_comm (2 ^ l.length) 2, Nat.mul_assoc]; omega
def bat (a : List Bool) (i : Nat) : Bool := a.getD i false
theorem val_take_succ (a : List Bool) (i : Nat) : val (a.take (i + 1)) = val (a.take i) + 2 ^ i * bv (bat a i) := by
  by_cases h : i < a.length
  · rw [List.take_succ_eq_append_getElem h, val_snoc, List.length_take, Nat.min_eq_left (by omega)]
    unfold bat; rw [List.getD_eq_getElem?_getD, List.getElem?_eq_getElem h]; rfl
  · rw [List.take_of_length_le (by omega), List.take_of_length_le (by omega)]
    unfold bat; rw [List.getD_eq_getElem?_getD, List.getElem?_eq_none (by omega)]; simp [bv]
theorem val_take_all (a : List Bool) (i : Nat) (h : a.length ≤ i) : val (a.take i) = val a := by rw [List.take_of_length_le h]
theorem val_split (a : List Bool) (i : Nat) (h : i ≤ a.length) : val a = val (a.take i) + 2 ^ i * val (a.drop i) := by
  conv => lhs; rw [← List.take_append_drop i a, val_app]
  rw [List.length_take, Nat.min_eq_left h]
theorem at_ok (a : List Bool) (i : Nat) : soukref01_Wide_at.f a (i : Int) = some (bat a i) := by
  unfold soukref01_Wide_at.f bat
  by_cases h : i < a.length
  · rw [if_pos (by omega), if_pos (by omega)]
    unfold rdOf; rw [Int.toNat_natCast]
  · rw [if_neg (by omega), List.getD_eq_getElem?_getD, List.getElem?_eq_none (by omega)]; rfl
theorem rdOf_at (a : List Bool) (i : Nat) : rdOf false a (i : Int) = bat a i := by unfold rdOf bat; rw [Int.toNat_natCast]
def trimF : List Bool → List Bool
  | [] => []
  | b :: l => if b = false ∧ trimF l = [] then [] else b :: trimF l
theorem trimF_val : ∀ l : List Bool, val (trimF l) = val l
  | [] => rfl
  | b :: l => by
    have ih := trimF_val l
    unfold trimF
    split
    · rename_i h
      obtain ⟨rfl, h2⟩ := h
      rw [h2] at ih
      simp only [val] at ih ⊢
      rw [← ih]; rfl
    · simp only [val, ih]
theorem trimF_len : ∀ l : List Bool, (trimF l).length ≤ l.length
  | [] => Nat.le_refl _
  | b :: l => by
    have := trimF_len l
    unfold trimF
    split
    · simp
    · simp; omega
theorem trimF_pow : ∀ l : List Bool, trimF l ≠ [] → 2 ^ ((trimF l).length - 1) ≤ val l
  | [], h => absurd rfl h
  | b :: l, h => by
    unfold trimF at h ⊢
    split at h
    · exact absurd rfl h
    · rename_i hc
      rw [if_neg hc]
      simp only [List.length_cons, Nat.add_sub_cancel, val]
      by_cases hl : trimF l = []
      · rw [hl]
        cases b with
        | true => simp [bv]
        | false => exact absurd ⟨rfl, hl⟩ hc
      · have := trimF_pow l hl
        have hpos : 0 < (trimF l).length := List.length_pos_iff.2 hl
        obtain ⟨n, hn⟩ : ∃ n, (trimF l).length = n + 1 := ⟨(trimF l).length - 1, by omega⟩
        rw [hn] at this ⊢
        rw [Nat.pow_succ]
        simp at this; omega
theorem trimF_false : ∀ l : List Bool, trimF (l ++ [false]) = trimF l
  | [] => rfl
  | b :: l => by simp only [List.cons_append, trimF, trimF_false l]
theorem trimF_true : ∀ l : List Bool, trimF (l ++ [true]) = l ++ [true]
  | [] => rfl
  | b :: l => by
    simp only [List.cons_append, trimF, trimF_true l]
    rw [if_neg (by simp)]
theorem trim_from (a : List Bool) (ha : a.length ≤ 1000000) : ∀ j, j ≤ a.length → EvT (fun k => soukref01_trim.l0 k a (j : Int)) (trimF (a.take j))
  | 0, _ => by
    refine EvT.done (fun k => ?_)
    simp only [soukref01_trim.l0]
    rw [if_neg (by omega), if_pos (by omega), if_pos (by omega)]
    simp [trimF]
  | j + 1, hj => by
    have ih := trim_from a ha j (by omega)
    have hlt : j < a.length := by omega
    have ht : a.take (j + 1) = a.take j ++ [bat a j] := by
      rw [List.take_succ_eq_append_getElem hlt]; unfold bat; rw [List.getD_eq_getElem?_getD, List.getElem?_eq_getElem hlt]; rfl
    cases hb : bat a j with
    | true =>
      refine EvT.done (fun k => ?_)
      simp only [soukref01_trim.l0]
      rw [if_pos (by omega), pv j (by omega), if_pos (by omega), if_pos (by omega), rdOf_at, if_pos hb, if_pos (by omega), if_pos (by omega), Int.toNat_natCast, ht, hb, trimF_true]
    | false =>
      rw [ht, hb, trimF_false]
      refine EvT.step (fun k => ?_) ih
      simp only [soukref01_trim.l0]
      rw [if_pos (by omega), pv j (by omega), if_pos (by omega), if_pos (by omega), rdOf_at, if_neg (by rw [hb]; decide)]
theorem trim_ok (a : List Bool) (ha : a.length ≤ 1000000) : EvT (fun k => soukref01_trim.f k a) (trimF a) := by
  have := trim_from a ha a.length (Nat.le_refl _)
  rw [List.take_length] at this
  exact this
end Go.Proofs.Ytncnhhnbjmpomaa.Q
namespace Go.Proofs.Ytncnhhnbjmpomaa.Q
open Go.RowKit Go.Proofs.YtncnhhnbjmpomaaW.PrintWords Go.Proofs.YtncnhhnbjmpomaaW.PrintLast Go.Proofs.YtncnhhnbjmpomaaW.PrintMore
set_option linter.unusedVariables false
set_option linter.unusedSimpArgs false
def bitsN : Nat → List Bool
  | 0 => []
  | n + 1 => decide ((n + 1) % 2 = 1) :: bitsN ((n + 1) / 2)
termination_by n => n
theorem bitsN_pos (n : Nat) (h : 0 < n) : bitsN n = decide (n % 2 = 1) :: bitsN (n / 2) := by
  obtain ⟨m, rfl⟩ : ∃ m, n = m + 1 := ⟨n - 1, by omega⟩
  rw [bitsN]
theorem bitsN_val : ∀ n : Nat, val (bitsN n) = n := by
  intro n
  induction n using Nat.strongRecOn with
  | ind n ih =>
  by_cases h : 0 < n
  · rw [bitsN_pos n h]
    simp only [val, ih (n / 2) (by omega)]
    by_cases h2 : n % 2 = 1
    · simp [bv, h2]; omega
    · simp [bv, h2]; omega
  · have : n = 0 := by omega
    subst this; rw [bitsN]; rfl
theorem bitsN_len : ∀ (j n : Nat), n < 2 ^ j → (bitsN n).length ≤ j
  | 0, n, h => by have : n = 0 := by simpa using h
                  subst this; rw [bitsN]; simp
  | j + 1, n, h => by
    by_cases h0 : 0 < n
    · rw [bitsN_pos n h0]
      have := bitsN_len j (n / 2) (by rw [Nat.pow_succ] at h; omega)
      simp; omega
    · have : n = 0 := by omega
      subst this; rw [bitsN]; simp
theorem and1 (n : Nat) (h : n < 18446744073709551616) : Go.bits .and .u64 (n : Int) 1 = ((n % 2 : Nat) : Int) := by
  have := bits_and_u64_nat n 1 h (by decide)
  have e : ((1 : Nat) : Int) = 1 := rfl
  rw [e] at this
  rw [this, Nat.and_one_is_mod]
theorem bits_from : ∀ (j n : Nat) (out : List Bool), n < 2 ^ j → j ≤ 64 → out.length + j ≤ 1000 → EvT (fun k => soukref01_bits.l0 k out (n : Int)) (out ++ bitsN n) := by
  intro j
  induction j with
  | zero =>
    intro n out h _ _
    have : n = 0 := by simpa using h
    subst this
    refine EvT.done (fun k => ?_)
    simp only [soukref01_bits.l0]
    rw [if_neg (by decide), bitsN, List.append_nil]
  | succ j ih =>
    intro n out h hj hl
    by_cases h0 : 0 < n
    · have h64 : n < 18446744073709551616 := Nat.lt_of_lt_of_le h (Nat.pow_le_pow_right (by decide) hj)
      have := ih (n / 2) (out ++ [decide (n % 2 = 1)]) (by rw [Nat.pow_succ] at h; omega) (by omega) (by simp; omega)
      rw [List.append_assoc, List.singleton_append, ← bitsN_pos n h0] at this
      refine EvT.step (fun k => ?_) this
      simp only [soukref01_bits.l0]
      have e1 : ((n : Int) / 2) = ((n / 2 : Nat) : Int) := by omega
      have e2 : (((n % 2 : Nat) : Int) == 1) = decide (n % 2 = 1) := by
        by_cases h2 : n % 2 = 1
        · simp [h2]
        · have : n % 2 = 0 := by omega
          simp [this]
      rw [if_pos (by omega), if_pos (by omega), and1 n h64, e1, e2]
    · have : n = 0 := by omega
      subst this
      refine EvT.done (fun k => ?_)
      simp only [soukref01_bits.l0]
      rw [if_neg (by decide), bitsN, List.append_nil]
theorem bits_ok (a : Int) (ha : inR a) : EvT (fun k => soukref01_bits.f k a) (bitsN a.natAbs) := by
  unfold inR at ha
  have key : ∀ n : Nat, n < 18446744073709551616 → EvT (fun k => soukref01_bits.j0 k [] (n : Int)) (bitsN n) := fun n hn => by
    refine EvT.step (fun k => ?_) (bits_from 64 n [] hn (Nat.le_refl _) (by decide))
    simp only [soukref01_bits.j0]
  by_cases h : a < 0
  · refine EvT.congr (fun k => ?_) (key a.natAbs (by omega))
    unfold soukref01_bits.f
    rw [if_pos h]
    have : IntKind.u64.wrap (-IntKind.u64.wrap a) = (a.natAbs : Int) := by
      rw [IntKind.wrap_u64, IntKind.wrap_u64]; omega
    rw [this]
  · refine EvT.congr (fun k => ?_) (key a.natAbs (by omega))
    unfold soukref01_bits.f
    rw [if_neg h]
    have : IntKind.u64.wrap a = (a.natAbs : Int) := by
      rw [IntKind.wrap_u64]; omega
    rw [this]
theorem bitsN_len64 (a : Int) (ha : inR a) : (bitsN a.natAbs).length ≤ 64 := by
  unfold inR at ha
  exact bitsN_len 64 _ (by omega)
def maj (x y z : Bool) : Bool := (x && y) || (x && z) || (y && z)
theorem add3 (x y z : Bool) : bv x + bv y + bv z = bv ((x != y) != z) + 2 * bv (maj x y z) := by cases x <;> cases y <;> cases z <;> decide
theorem plus_go (a b out : List Bool) (c : Bool) (i : Nat) (hi : i < 1000000) (ho : out.length < 1000000) (hc : i < a.length ∨ i < b.length ∨ c = true) (k : Nat) :
    soukref01_Plus.l0 (k + 2) a b out c (i : Int) = soukref01_Plus.l0 k a b (out ++ [((bat a i) != (bat b i)) != c]) (maj (bat a i) (bat b i) c) ((i + 1 : Nat) : Int) := by
  have hj : soukref01_Plus.j1 (k + 1) a b out c (i : Int) true = soukref01_Plus.l0 k a b (out ++ [((bat a i) != (bat b i)) != c]) (maj (bat a i) (bat b i) c) ((i + 1 : Nat) : Int) := by
    simp only [soukref01_Plus.j1]
    rw [if_pos trivial, at_ok, at_ok]
    simp only [Option.bind_some]
    rw [nx i (by omega)]
    have hl : out.length < 140737488355328 := by omega
    cases bat a i <;> cases bat b i <;> cases c <;> simp [hl, maj]
  show soukref01_Plus.l0 (k + 1 + 1) _ _ _ _ _ = _
  obtain ⟨K, hK⟩ : ∃ K, K = k + 1 := ⟨_, rfl⟩
  rw [← hK] at hj ⊢
  simp only [soukref01_Plus.l0]
  by_cases h1 : i < a.length
  · rw [if_pos (by omega), hj]
  · rw [if_neg (by omega)]
    by_cases h2 : i < b.length
    · rw [if_pos (by omega), hj]
    · rw [if_neg (by omega)]
      have h3 : c = true := by rcases hc with h | h | h; exact absurd h h1; exact absurd h h2; exact h
      subst h3
      exact hj
theorem plus_from (a b : List Bool) (ha : a.length ≤ 100000) (hb : b.length ≤ 100000) : ∀ (d i : Nat) (out : List Bool) (c : Bool), max a.length b.length - i = d → out.length = i → i ≤ max a.length b.length →
    val out + 2 ^ i * bv c = val (a.take i) + val (b.take i) → ∃ r, EvT (fun k => soukref01_Plus.l0 k a b out c (i : Int)) r ∧ val r = val a + val b ∧ r.length ≤ max a.length b.length + 1 := by
  intro d
  induction d with
  | zero =>
    intro i out c hd ho hi hv
    have e : i = max a.length b.length := by omega
    rw [val_take_all a i (by omega), val_take_all b i (by omega)] at hv
    cases c with
    | false =>
      refine ⟨out, EvT.step (g := fun k => soukref01_Plus.j1 k a b out false i false) (fun k => ?_) (EvT.done (fun k => ?_)), by simpa [bv] using hv, by omega⟩
      · simp only [soukref01_Plus.l0]
        rw [if_neg (by omega), if_neg (by omega)]
      · simp only [soukref01_Plus.j1]
        rw [if_neg (by decide)]
    | true =>
      have ha0 : bat a i = false := by unfold bat; rw [List.getD_eq_getElem?_getD, List.getElem?_eq_none (by omega)]; rfl
      have hb0 : bat b i = false := by unfold bat; rw [List.getD_eq_getElem?_getD, List.getElem?_eq_none (by omega)]; rfl
      refine ⟨out ++ [true], EvT.step2 (g := fun k => soukref01_Plus.l0 k a b (out ++ [true]) false ((i + 1 : Nat) : Int)) (fun k => ?_) ?_, ?_, by simp; omega⟩
      · rw [plus_go a b out true i (by omega) (by omega) (.inr (.inr rfl)) k, ha0, hb0]; rfl
      · refine EvT.step (g := fun k => soukref01_Plus.j1 k a b (out ++ [true]) false ((i + 1 : Nat) : Int) false) (fun k => ?_) (EvT.done (fun k => ?_))
        · simp only [soukref01_Plus.l0]
          rw [if_neg (by omega), if_neg (by omega)]
        · simp only [soukref01_Plus.j1]
          rw [if_neg (by decide)]
      · rw [val_snoc, ho]; exact hv
  | succ d ih =>
    intro i out c hd ho hi hv
    have hlt : i < max a.length b.length := by omega
    obtain ⟨r, h1, h2, h3⟩ := ih (i + 1) (out ++ [((bat a i) != (bat b i)) != c]) (maj (bat a i) (bat b i) c) (by omega) (by simp [ho]) (by omega) (by
      have h3 := add3 (bat a i) (bat b i) c
      rw [val_snoc, ho, val_take_succ, val_take_succ, Nat.pow_succ]
      generalize bat a i = x at *
      generalize bat b i = y at *
      generalize 2 ^ i = p at *
      cases x <;> cases y <;> cases c <;> simp [bv, maj] at hv ⊢ <;> omega)
    refine ⟨r, EvT.step2 (fun k => ?_) h1, h2, h3⟩
    exact plus_go a b out c i (by omega) (by omega) (by omega) k
theorem plus_ok (a b : List Bool) (ha : a.length ≤ 100000) (hb : b.length ≤ 100000) : ∃ r, EvT (fun k => soukref01_Plus.f k a b) r ∧ val r = val a + val b ∧ r.length ≤ max a.length b.length + 1 := by
  obtain ⟨r, h1, h2, h3⟩ := plus_from a b ha hb _ 0 [] false rfl rfl (by omega) (by simp [val, bv])
  exact ⟨r, h1, h2, h3⟩
theorem less_from (a b : List Bool) : ∀ j : Nat, j ≤ 100000 → EvT (fun k => soukref01_less.l0 k a b ((j : Int) - 1)) (decide (val (a.take j) < val (b.take j)))
  | 0, _ => by
    refine EvT.done (fun k => ?_)
    simp only [soukref01_less.l0]
    rw [if_neg (by omega)]; simp [val]
  | j + 1, hj => by
    have ih := less_from a b j (by omega)
    have e : ((j + 1 : Nat) : Int) - 1 = (j : Int) := by omega
    rw [e, val_take_succ, val_take_succ]
    have hA := val_lt (a.take j)
    have hB := val_lt (b.take j)
    have hA2 : val (a.take j) < 2 ^ j := Nat.lt_of_lt_of_le hA (Nat.pow_le_pow_right (by decide) (List.length_take_le _ _))
    have hB2 : val (b.take j) < 2 ^ j := Nat.lt_of_lt_of_le hB (Nat.pow_le_pow_right (by decide) (List.length_take_le _ _))
    clear hA hB
    have hgo : ∀ k, soukref01_less.l0 (k + 1) a b (j : Int) = if bat a j = true then (if bat b j = true then soukref01_less.l0 k a b ((j : Int) - 1) else some (bat b j)) else (if bat b j = true then some (bat b j) else soukref01_less.l0 k a b ((j : Int) - 1)) := fun k => by
      simp only [soukref01_less.l0]
      rw [if_pos (by omega), at_ok, at_ok]
      simp only [Option.bind_some]
      rw [pv1 j (by omega)]
    cases hx : bat a j <;> cases hy : bat b j
    · have e2 : decide (val (a.take j) + 2 ^ j * bv false < val (b.take j) + 2 ^ j * bv false) = decide (val (a.take j) < val (b.take j)) := by simp [bv]
      rw [e2]
      exact EvT.step (fun k => by rw [hgo, hx, hy]; rfl) ih
    · have e2 : decide (val (a.take j) + 2 ^ j * bv false < val (b.take j) + 2 ^ j * bv true) = true := by simp [bv]; omega
      rw [e2]
      exact EvT.done (fun k => by rw [hgo, hx, hy]; rfl)
    · have e2 : decide (val (a.take j) + 2 ^ j * bv true < val (b.take j) + 2 ^ j * bv false) = false := by simp [bv]; omega
      rw [e2]
      exact EvT.done (fun k => by rw [hgo, hx, hy]; rfl)
    · have e2 : decide (val (a.take j) + 2 ^ j * bv true < val (b.take j) + 2 ^ j * bv true) = decide (val (a.take j) < val (b.take j)) := by simp [bv]
      rw [e2]
      exact EvT.step (fun k => by rw [hgo, hx, hy]; rfl) ih
theorem less_ok (a b : List Bool) (ha : a.length ≤ 100000) (hb : b.length ≤ 100000) : EvT (fun k => soukref01_less.f k a b) (decide (val a < val b)) := by
  have key : ∀ n, n ≤ 100000 → a.length ≤ n → b.length ≤ n → EvT (fun k => soukref01_less.l0 k a b ((n : Int) - 1)) (decide (val a < val b)) := fun n h h1 h2 => by
    have := less_from a b n h
    rwa [val_take_all a n h1, val_take_all b n h2] at this
  by_cases h : a.length < b.length
  · refine EvT.congr (fun k => ?_) (key b.length hb (by omega) (Nat.le_refl _))
    unfold soukref01_less.f
    rw [if_pos (by omega), pv1 _ (by omega)]
  · refine EvT.congr (fun k => ?_) (key a.length ha (Nat.le_refl _) (by omega))
    unfold soukref01_less.f
    rw [if_neg (by omega), pv1 _ (by omega)]
end Go.Proofs.Ytncnhhnbjmpomaa.Q
namespace Go.Proofs.Ytncnhhnbjmpomaa.Q
open Go.RowKit Go.Proofs.YtncnhhnbjmpomaaW.PrintWords Go.Proofs.YtncnhhnbjmpomaaW.PrintLast Go.Proofs.YtncnhhnbjmpomaaW.PrintMore
set_option linter.unusedVariables false
set_option linter.unusedSimpArgs false
def bor (x y w : Bool) : Bool := (!x && (y || w)) || (y && w)
theorem sub3 (x y w : Bool) : bv ((x != y) != w) + bv y + bv w = bv x + 2 * bv (bor x y w) := by cases x <;> cases y <;> cases w <;> decide
theorem minus_go (a b out : List Bool) (c : Bool) (i : Nat) (hi : i < a.length) (ha : a.length ≤ 100000) (ho : out.length < 1000000) (k : Nat) :
    soukref01_minus.l0 (k + 1) a b out c (i : Int) = soukref01_minus.l0 k a b (out ++ [((bat a i) != (bat b i)) != c]) (bor (bat a i) (bat b i) c) ((i + 1 : Nat) : Int) := by
  simp only [soukref01_minus.l0]
  rw [if_pos (by omega), at_ok, at_ok]
  simp only [Option.bind_some]
  rw [nx i (by omega)]
  have hl : out.length < 140737488355328 := by omega
  cases bat a i <;> cases bat b i <;> cases c <;> simp [hl, bor]
theorem minus_from (a b : List Bool) (ha : a.length ≤ 100000) : ∀ (d i : Nat) (out : List Bool) (c : Bool), a.length - i = d → out.length = i → i ≤ a.length →
    val out + val (b.take i) = val (a.take i) + 2 ^ i * bv c → ∃ r c', EvT (fun k => soukref01_minus.l0 k a b out c (i : Int)) (trimF r) ∧ r.length = a.length ∧ val r + val (b.take a.length) = val a + 2 ^ a.length * bv c' := by
  intro d
  induction d with
  | zero =>
    intro i out c hd ho hi hv
    have e : i = a.length := by omega
    subst e
    rw [List.take_length] at hv
    refine ⟨out, c, EvT.step (g := fun k => (soukref01_trim.f k out).bind fun t => some t) (fun k => ?_) ?_, ho, hv⟩
    · simp only [soukref01_minus.l0]
      rw [if_neg (by omega)]
    · exact EvT.bind (F := fun _ t => some t) (trim_ok out (by omega)) (EvT.const _)
  | succ d ih =>
    intro i out c hd ho hi hv
    obtain ⟨r, c', h1, h2⟩ := ih (i + 1) (out ++ [((bat a i) != (bat b i)) != c]) (bor (bat a i) (bat b i) c) (by omega) (by simp [ho]) (by omega) (by
      have h3 := sub3 (bat a i) (bat b i) c
      rw [val_snoc, ho, val_take_succ, val_take_succ, Nat.pow_succ]
      generalize bat a i = x at *
      generalize bat b i = y at *
      generalize 2 ^ i = p at *
      cases x <;> cases y <;> cases c <;> simp [bv, bor] at hv ⊢ <;> omega)
    exact ⟨r, c', EvT.step (fun k => minus_go a b out c i (by omega) ha (by omega) k) h1, h2⟩
theorem val_take_lt (b : List Bool) (n : Nat) (h : val b < 2 ^ n) : val (b.take n) = val b := by
  by_cases hn : b.length ≤ n
  · exact val_take_all b n hn
  · have h1 := val_split b n (by omega)
    have : val (b.drop n) = 0 := by
      apply Classical.byContradiction
      intro h0
      have : 2 ^ n * 1 ≤ 2 ^ n * val (b.drop n) := Nat.mul_le_mul_left _ (by omega)
      omega
    rw [this] at h1; simpa using h1.symm
theorem minus_ok (a b : List Bool) (ha : a.length ≤ 100000) (hle : val b ≤ val a) : ∃ r, EvT (fun k => soukref01_minus.f k a b) (trimF r) ∧ val r = val a - val b ∧ r.length = a.length := by
  obtain ⟨r, c, h1, h2, h3⟩ := minus_from a b ha _ 0 [] false rfl rfl (by omega) (by simp [val, bv])
  refine ⟨r, h1, ?_, h2⟩
  have hA := val_lt a
  have hr := val_lt r
  rw [h2] at hr
  rw [val_take_lt b a.length (by omega)] at h3
  cases c with
  | false => simp [bv] at h3; omega
  | true => simp [bv] at h3; omega
theorem drop_bat (b : List Bool) (j : Nat) (h : j < b.length) : b.drop j = bat b j :: b.drop (j + 1) := by
  rw [← List.getElem_cons_drop (h := h)]
  unfold bat; rw [List.getD_eq_getElem?_getD, List.getElem?_eq_getElem h]; rfl
theorem times_from (a b : List Bool) (ha : a.length ≤ 1000) (hb : b.length ≤ 1000) : ∀ (j : Nat) (out : List Bool), j ≤ b.length → out.length ≤ 10000 + (b.length - j) * 2 → val out = val a * val (b.drop j) →
    ∃ r, EvT (fun k => soukref01_Times.l0 k a b out ((j : Int) - 1)) (trimF r) ∧ val r = val a * val b ∧ r.length ≤ 20000
  | 0, out, _, ho, hv => by
    refine ⟨out, EvT.step (g := fun k => (soukref01_trim.f k out).bind fun t => some t) (fun k => ?_) ?_, by simpa using hv, by omega⟩
    · simp only [soukref01_Times.l0]
      rw [if_neg (by omega)]
    · exact EvT.bind (F := fun _ t => some t) (trim_ok out (by omega)) (EvT.const _)
  | j + 1, out, hj, ho, hv => by
    have e : ((j + 1 : Nat) : Int) - 1 = (j : Int) := by omega
    have hlt : j < b.length := by omega
    have hd := drop_bat b j hlt
    rw [e]
    cases hb1 : bat b j with
    | false =>
      have hv2 : val (false :: out) = val a * val (b.drop j) := by
        rw [hd, hb1]; simp only [val, bv]; rw [hv]; simp [Nat.mul_left_comm]
      obtain ⟨r, h1, h2⟩ := times_from a b ha hb j (false :: out) (by omega) (by simp; omega) hv2
      refine ⟨r, EvT.step (fun k => ?_) h1, h2⟩
      simp only [soukref01_Times.l0]
      rw [if_pos (by omega)]
      simp only [Option.bind_some, List.length_cons, List.length_nil, List.cons_append, List.nil_append]
      rw [if_pos (by omega), if_pos (by omega), if_pos (by omega), rdOf_at, if_neg (by rw [hb1]; decide), pv1 j (by omega)]
    | true =>
      obtain ⟨s, hs1, hs2, hs3⟩ := plus_ok (false :: out) a (by simp; omega) (by omega)
      have hv2 : val s = val a * val (b.drop j) := by
        rw [hd, hb1, hs2]; simp only [val, bv]; rw [hv]; simp [Nat.mul_add, Nat.mul_left_comm]; omega
      obtain ⟨r, h1, h2⟩ := times_from a b ha hb j s (by omega) (by simp at hs3; omega) hv2
      refine ⟨r, EvT.step (g := fun k => (soukref01_Plus.f k (false :: out) a).bind fun t => soukref01_Times.l0 k a b t ((j : Int) - 1)) (fun k => ?_) (EvT.bind (F := fun k t => soukref01_Times.l0 k a b t ((j : Int) - 1)) hs1 h1), h2⟩
      simp only [soukref01_Times.l0]
      rw [if_pos (by omega)]
      simp only [Option.bind_some, List.length_cons, List.length_nil, List.cons_append, List.nil_append]
      rw [if_pos (by omega), if_pos (by omega), if_pos (by omega), rdOf_at, if_pos hb1, pv1 j (by omega)]
theorem times_ok (a b : List Bool) (ha : a.length ≤ 1000) (hb : b.length ≤ 1000) : ∃ r, EvT (fun k => soukref01_Times.f k a b) (trimF r) ∧ val r = val a * val b ∧ r.length ≤ 20000 := by
  obtain ⟨r, h1, h2⟩ := times_from a b ha hb b.length [] (Nat.le_refl _) (by simp) (by simp [val])
  refine ⟨r, EvT.congr (fun k => ?_) h1, h2⟩
  unfold soukref01_Times.f
  rw [pv1 _ (by omega)]
theorem trimF_idem : ∀ l : List Bool, trimF (trimF l) = trimF l
  | [] => rfl
  | b :: l => by
    have ih := trimF_idem l
    by_cases h : b = false ∧ trimF l = []
    · have : trimF (b :: l) = [] := by unfold trimF; rw [if_pos h]
      rw [this]; rfl
    · have e : trimF (b :: l) = b :: trimF l := by rw [trimF, if_neg h]
      rw [e, trimF, ih, if_neg h]
theorem canon_len (r b : List Bool) (hc : r = trimF r) (hlt : val r < val b) : r.length ≤ (trimF b).length := by
  by_cases h : r = []
  · rw [h]; simp
  · have h1 := trimF_pow r (by rw [← hc]; exact h)
    rw [← hc] at h1
    have h2 := val_lt (trimF b)
    rw [trimF_val] at h2
    apply Classical.byContradiction
    intro h3
    have : 2 ^ (trimF b).length ≤ 2 ^ (r.length - 1) := Nat.pow_le_pow_right (by decide) (by omega)
    omega
theorem div_from (a b : List Bool) (ha : a.length ≤ 30000) (hb : b.length ≤ 1000) (h0 : 0 < val b) : ∀ (j : Nat) (quo rem : List Bool), j ≤ a.length → quo.length ≤ a.length - j → val rem < val b → rem = trimF rem →
    val (a.drop j) = val quo * val b + val rem →
    ∃ q r, EvT (fun k => soukref01_Div.l0 k a b quo rem ((j : Int) - 1)) (trimF q, r) ∧ val q = val a / val b ∧ val r = val a % val b ∧ r = trimF r
  | 0, quo, rem, _, hq, hlt, hc, hv => by
    refine ⟨quo, rem, EvT.step (g := fun k => (soukref01_trim.f k quo).bind fun t => some (t, rem)) (fun k => ?_) ?_, ?_, ?_, hc⟩
    · simp only [soukref01_Div.l0]
      rw [if_neg (by omega)]
    · exact EvT.bind (F := fun _ t => some (t, rem)) (trim_ok quo (by omega)) (EvT.const _)
    · rw [List.drop_zero] at hv
      rw [hv, Nat.add_comm, Nat.add_mul_div_right _ _ h0, Nat.div_eq_of_lt hlt, Nat.zero_add]
    · rw [List.drop_zero] at hv
      rw [hv, Nat.add_comm, Nat.add_mul_mod_self_right, Nat.mod_eq_of_lt hlt]
  | j + 1, quo, rem, hj, hq, hlt, hc, hv => by
    have hr : rem.length ≤ 1000 := Nat.le_trans (canon_len rem b hc hlt) (Nat.le_trans (trimF_len b) hb)
    have e : ((j + 1 : Nat) : Int) - 1 = (j : Int) := by omega
    have hla : j < a.length := by omega
    have hd := drop_bat a j hla
    rw [e]
    -- the rest with one bit more
    have ht := trim_ok (bat a j :: rem) (by simp; omega)
    have htv : val (trimF (bat a j :: rem)) = bv (bat a j) + 2 * val rem := by rw [trimF_val]; rfl
    have htl := trimF_len (bat a j :: rem)
    have hL := less_ok (trimF (bat a j :: rem)) b (by simp at htl; omega) (by omega)
    rw [htv] at hL
    have hvd : val (a.drop j) = bv (bat a j) + 2 * (val quo * val b + val rem) := by rw [hd]; simp only [val, hv]
    have hgo : ∀ k, soukref01_Div.l0 (k + 1) a b quo rem (j : Int) = (soukref01_trim.f k (bat a j :: rem)).bind fun t205 => (soukref01_less.f k t205 b).bind fun t208 => if t208 = true then soukref01_Div.l0 k a b ((!t208) :: quo) t205 ((j : Int) - 1) else (soukref01_minus.f k t205 b).bind fun t215 => soukref01_Div.l0 k a b ((!t208) :: quo) t215 ((j : Int) - 1) := fun k => by
      simp only [soukref01_Div.l0]
      rw [if_pos (by omega), if_pos (by omega), if_pos (by omega), rdOf_at]
      simp only [Option.bind_some, List.length_cons, List.length_nil, List.cons_append, List.nil_append]
      have hq1 : 0 + 1 + quo.length < 140737488355328 := by omega
      rw [if_pos (by omega), pv1 j (by omega)]
      simp only [if_pos hq1]
    by_cases hl : bv (bat a j) + 2 * val rem < val b
    · rw [decide_eq_true hl] at hL
      obtain ⟨q, r, h1, h2⟩ := div_from a b ha hb h0 j (false :: quo) (trimF (bat a j :: rem)) (by omega) (by simp; omega) (by rw [htv]; exact hl) (trimF_idem _).symm (by
        rw [hvd, htv]
        show _ = (0 + 2 * val quo) * val b + _
        rw [Nat.zero_add, Nat.mul_assoc]; omega)
      refine ⟨q, r, EvT.step hgo (EvT.bind (F := fun k t205 => (soukref01_less.f k t205 b).bind fun t208 => if t208 = true then soukref01_Div.l0 k a b ((!t208) :: quo) t205 ((j : Int) - 1) else (soukref01_minus.f k t205 b).bind fun t215 => soukref01_Div.l0 k a b ((!t208) :: quo) t215 ((j : Int) - 1)) ht (EvT.bind (F := fun k t208 => if t208 = true then soukref01_Div.l0 k a b ((!t208) :: quo) (trimF (bat a j :: rem)) ((j : Int) - 1) else (soukref01_minus.f k (trimF (bat a j :: rem)) b).bind fun t215 => soukref01_Div.l0 k a b ((!t208) :: quo) t215 ((j : Int) - 1)) hL (EvT.congr (fun k => if_pos rfl) h1))), h2⟩
    · rw [decide_eq_false hl] at hL
      obtain ⟨m, hm1, hm2, hm3⟩ := minus_ok (trimF (bat a j :: rem)) b (by simp at htl; omega) (by rw [htv]; omega)
      rw [htv] at hm2
      have hbv := bv_le (bat a j)
      obtain ⟨q, r, h1, h2⟩ := div_from a b ha hb h0 j (true :: quo) (trimF m) (by omega) (by simp; omega) (by rw [trimF_val, hm2]; omega) (trimF_idem _).symm (by
        rw [hvd, trimF_val, hm2]
        show _ = (1 + 2 * val quo) * val b + _
        rw [Nat.add_mul, Nat.one_mul, Nat.mul_assoc]; omega)
      refine ⟨q, r, EvT.step hgo (EvT.bind (F := fun k t205 => (soukref01_less.f k t205 b).bind fun t208 => if t208 = true then soukref01_Div.l0 k a b ((!t208) :: quo) t205 ((j : Int) - 1) else (soukref01_minus.f k t205 b).bind fun t215 => soukref01_Div.l0 k a b ((!t208) :: quo) t215 ((j : Int) - 1)) ht (EvT.bind (F := fun k t208 => if t208 = true then soukref01_Div.l0 k a b ((!t208) :: quo) (trimF (bat a j :: rem)) ((j : Int) - 1) else (soukref01_minus.f k (trimF (bat a j :: rem)) b).bind fun t215 => soukref01_Div.l0 k a b ((!t208) :: quo) t215 ((j : Int) - 1)) hL (EvT.congr (fun k => if_neg (by decide)) (EvT.bind (F := fun k t215 => soukref01_Div.l0 k a b ((!false) :: quo) t215 ((j : Int) - 1)) hm1 h1)))), h2⟩
theorem div_ok (a b : List Bool) (ha : a.length ≤ 30000) (hb : b.length ≤ 1000) (h0 : 0 < val b) : ∃ q r, EvT (fun k => soukref01_Div.f k a b) (trimF q, r) ∧ val q = val a / val b ∧ val r = val a % val b ∧ r = trimF r := by
  obtain ⟨q, r, h1, h2⟩ := div_from a b ha hb h0 a.length [] [] (Nat.le_refl _) (by simp) (by simpa [val] using h0) rfl (by simp [val])
  refine ⟨q, r, EvT.congr (fun k => ?_) h1, h2⟩
  unfold soukref01_Div.f
  rw [pv1 _ (by omega)]
def valF (v : Nat) (neg : Bool) : Int × Bool :=
  if neg = true then (if v ≤ 9223372036854775808 then (-(v : Int), true) else (0, false)) else if v < 9223372036854775808 then ((v : Int), true) else (0, false)
theorem value_from (a : List Bool) (neg : Bool) (ha : a.length ≤ 64) : ∀ (j : Nat), j ≤ a.length → EvT (fun k => soukref01_value.l0 k a neg (val (a.drop j) : Nat) ((j : Int) - 1)) (valF (val a) neg)
  | 0, _ => by
    rw [List.drop_zero]
    have hv : val a < 18446744073709551616 := Nat.lt_of_lt_of_le (val_lt a) (Nat.pow_le_pow_right (by decide) ha)
    generalize val a = v at *
    cases neg with
    | true =>
      refine EvT.step (g := fun k => soukref01_value.j1 k true (v : Int) (decide ((v : Int) ≤ 9223372036854775808))) (fun k => ?_) (EvT.done (fun k => ?_))
      · simp only [soukref01_value.l0]
        rw [if_neg (by omega), if_pos trivial]
      · simp only [soukref01_value.j1]
        unfold valF
        rw [if_pos rfl]
        by_cases h : v ≤ 9223372036854775808
        · rw [if_pos (by simp; omega), if_pos h]
          have : wrap64 (IntKind.u64.wrap (-(v : Int))) = -(v : Int) := by rw [IntKind.wrap_u64]; unfold wrap64; omega
          rw [this]
        · rw [if_neg (by simp; omega), if_neg h, if_neg (by omega)]
    | false =>
      refine EvT.step (g := fun k => soukref01_value.j1 k false (v : Int) false) (fun k => ?_) (EvT.done (fun k => ?_))
      · simp only [soukref01_value.l0]
        rw [if_neg (by omega), if_neg (by decide)]
      · simp only [soukref01_value.j1]
        unfold valF
        by_cases h : v < 9223372036854775808
        · have hw : wrap64 (v : Int) = v := by unfold wrap64; omega
          have h' : (v : Int) < 9223372036854775808 := by omega
          rw [hw]; simp [h, h']
        · have h' : ¬ (v : Int) < 9223372036854775808 := by omega
          simp [h, h']
  | j + 1, hj => by
    have e : ((j + 1 : Nat) : Int) - 1 = (j : Int) := by omega
    have hla : j < a.length := by omega
    have ih := value_from a neg ha j (by omega)
    have hd := drop_bat a j hla
    have hv : val (a.drop j) < 18446744073709551616 := by
      have h1 := val_lt (a.drop j)
      have h2 : 2 ^ (a.drop j).length ≤ 2 ^ 64 := Nat.pow_le_pow_right (by decide) (by rw [List.length_drop]; omega)
      have h3 : (2 : Nat) ^ 64 = 18446744073709551616 := by decide
      omega
    rw [hd] at ih hv
    simp only [val] at ih hv
    rw [e]
    generalize val (a.drop (j + 1)) = u at *
    refine EvT.step (fun k => ?_) ih
    simp only [soukref01_value.l0]
    rw [if_pos (by omega), if_pos (by omega), if_pos (by omega), rdOf_at, pv1 j (by omega)]
    cases hb : bat a j with
    | true =>
      rw [hb] at hv
      have : IntKind.u64.wrap (IntKind.u64.wrap ((u : Int) * 2) + 1) = ((bv true + 2 * u : Nat) : Int) := by
        rw [IntKind.wrap_u64, IntKind.wrap_u64]; simp [bv] at hv ⊢; omega
      rw [if_pos rfl, this]
    | false =>
      rw [hb] at hv
      have : IntKind.u64.wrap ((u : Int) * 2) = ((bv false + 2 * u : Nat) : Int) := by
        rw [IntKind.wrap_u64]; simp [bv] at hv ⊢; omega
      rw [if_neg (by decide), this]
theorem value_ok (a : List Bool) (neg : Bool) (ha : a.length ≤ 100000) : EvT (fun k => soukref01_value.f k a neg) (valF (val a) neg) := by
  have ht := trim_ok a (by omega)
  refine EvT.bind (F := fun k t260 => if (t260.length : Int) > 64 then (some (0, false)) else (soukref01_value.l0 k t260 neg 0 (wrap64 ((t260.length : Int) - 1)))) ht ?_
  by_cases h : (trimF a).length > 64
  · have h1 : val a ≥ 18446744073709551616 := by
      have hne : trimF a ≠ [] := fun h2 => by rw [h2] at h; simp at h
      have := trimF_pow a hne
      have h2 : 2 ^ 64 ≤ 2 ^ ((trimF a).length - 1) := Nat.pow_le_pow_right (by decide) (by omega)
      have h3 : (2 : Nat) ^ 64 = 18446744073709551616 := by decide
      omega
    have e : valF (val a) neg = (0, false) := by
      unfold valF
      cases neg
      · rw [if_neg (by decide), if_neg (by omega)]
      · rw [if_pos rfl, if_neg (by omega)]
    rw [e]
    exact EvT.congr (fun k => if_pos (by omega)) (EvT.const _)
  · have := value_from (trimF a) neg (by omega) (trimF a).length (Nat.le_refl _)
    rw [List.drop_length, trimF_val] at this
    refine EvT.congr (fun k => ?_) this
    rw [if_neg (by omega), pv1 _ (by omega)]
    rfl
end Go.Proofs.Ytncnhhnbjmpomaa.Q
namespace Go.Proofs.Ytncnhhnbjmpomaa.Q
open Go.RowKit Go.Proofs.YtncnhhnbjmpomaaW.PrintWords Go.Proofs.YtncnhhnbjmpomaaW.PrintLast Go.Proofs.YtncnhhnbjmpomaaW.PrintMore
set_option linter.unusedVariables false
set_option linter.unusedSimpArgs false
theorem eq_from (a b : List Int) (hl : a.length = b.length) (hb : a.length ≤ 1000000000000) : ∀ (d i : Nat), a.length - i = d → i ≤ a.length →
    ∃ m, ∀ k, slices_Equal_int64_int64.l0 (k + m) a b a.length i = some (decide (a.drop i = b.drop i)) := by
  intro d
  induction d with
  | zero =>
    intro i hd hi
    refine ⟨1, fun k => ?_⟩
    simp only [slices_Equal_int64_int64.l0]
    rw [if_neg (by omega)]
    have h1 : a.drop i = [] := List.drop_eq_nil_of_le (by omega)
    have h2 : b.drop i = [] := List.drop_eq_nil_of_le (by omega)
    rw [h1, h2]; simp
  | succ d ih =>
    intro i hd hi
    have hlt : i < a.length := by omega
    have hlb : i < b.length := by omega
    have ea : a.drop i = a[i] :: a.drop (i + 1) := (List.getElem_cons_drop (h := hlt)).symm
    have eb : b.drop i = b[i] :: b.drop (i + 1) := (List.getElem_cons_drop (h := hlb)).symm
    have hw : wrap64 ((i : Int) + 1) = ((i + 1 : Nat) : Int) := by rw [w64i (by omega) (by omega)]; rfl
    obtain ⟨m, hm⟩ := ih (i + 1) (by omega) (by omega)
    refine ⟨m + 1, fun k => ?_⟩
    rw [← Nat.add_assoc]
    simp only [slices_Equal_int64_int64.l0]
    rw [if_pos (by omega), if_pos (by omega), if_pos (by omega), if_pos (by omega), rd_at a i hlt, rd_at b i hlb, hw, hm, ea, eb]
    by_cases h : a[i] = b[i]
    · rw [if_pos h]; exact congrArg some (decide_eq_decide.2 ⟨fun e => by rw [h, e], fun e => (List.cons.inj e).2⟩)
    · rw [if_neg h]; exact congrArg some (decide_eq_false (fun e => h (List.cons.inj e).1)).symm
theorem eq_ok (a b : List Int) (hb : a.length ≤ 1000000000000) : ∃ m, ∀ k, slices_Equal_int64_int64.f (k + m) a b = some (decide (a = b)) := by
  by_cases hl : a.length = b.length
  · obtain ⟨m, hm⟩ := eq_from a b hl hb a.length 0 (by omega) (by omega)
    refine ⟨m, fun k => ?_⟩
    unfold slices_Equal_int64_int64.f
    rw [if_pos (by omega)]
    have := hm k
    simpa using this
  · refine ⟨0, fun k => ?_⟩
    unfold slices_Equal_int64_int64.f
    rw [if_neg (by omega)]
    have : ¬ (a = b) := fun h => hl (by rw [h])
    simp [this]
end Go.Proofs.Ytncnhhnbjmpomaa.Q
namespace Go.Proofs.Ytncnhhnbjmpomaa.Q
open Go.RowKit Go.Proofs.YtncnhhnbjmpomaaW.PrintWords Go.Proofs.YtncnhhnbjmpomaaW.PrintLast Go.Proofs.YtncnhhnbjmpomaaW.PrintMore Go.Proofs.Ytncnhhnbjmpomaa
set_option linter.unusedVariables false
set_option linter.unusedSimpArgs false
theorem radd_ok (a b : Int) (ha : inR a) (hb : inR b) (k : Nat) : soukref01_Add.f (k + 1) a b = some (if -9223372036854775808 ≤ a + b ∧ a + b ≤ 9223372036854775807 then (a + b, true) else (0, false)) := by
  unfold inR at ha hb
  unfold soukref01_Add.f
  by_cases hp : b > 0
  · rw [if_pos hp, w64i (x := 9223372036854775807 - b) (by omega) (by omega)]
    simp only [soukref01_Add.j0]
    by_cases ho : a > 9223372036854775807 - b
    · rw [if_pos (by simpa using ho), if_neg (by omega)]
    · rw [if_neg (by simpa using ho), if_neg (by omega), w64i (by omega) (by omega), if_pos ⟨by omega, by omega⟩]
  · rw [if_neg hp]
    simp only [soukref01_Add.j0]
    rw [if_neg (by decide)]
    by_cases hn : b < 0
    · rw [if_pos hn, w64i (x := -9223372036854775808 - b) (by omega) (by omega)]
      by_cases ho : a < -9223372036854775808 - b
      · rw [if_pos ho, if_neg (by omega)]
      · rw [if_neg ho, w64i (by omega) (by omega), if_pos ⟨by omega, by omega⟩]
    · have h0 : b = 0 := by omega
      subst h0
      rw [if_neg (by decide), w64i (by omega) (by omega), if_pos ⟨by omega, by omega⟩]
def sumR (a : Int × Int) : Int × Bool := if a.2 = 0 then (a.1, true) else (0, false)
theorem rsum_from (l : List Int) (hl : ∀ x ∈ l, inR x) (hlen : l.length ≤ 1000000000000) : ∀ (d i : Nat) (s : Int), l.length - i = d → i ≤ l.length → inR s →
    ∃ m, ∀ k, soukref01_Sum.l0 (k + m) l s i = some (sumR (addF s (l.drop i))) := by
  intro d
  induction d with
  | zero =>
    intro i s hd hi hs
    have e : i = l.length := by omega
    subst e
    refine ⟨1, fun k => ?_⟩
    simp only [soukref01_Sum.l0]
    rw [if_neg (by omega), List.drop_length]; rfl
  | succ d ih =>
    intro i s hd hi hs
    have hlt : i < l.length := by omega
    have c1 : (i : Int) < (l.length : Int) := by omega
    have c2 : (0 : Int) ≤ (i : Int) := Int.natCast_nonneg i
    have c3 : (0 : Int) < (l.length : Int) := by omega
    have hx := hl l[i] (List.getElem_mem hlt)
    have hdr : l.drop i = l[i] :: l.drop (i + 1) := (List.getElem_cons_drop (h := hlt)).symm
    have HW : Hid (wrap64 ((i : Int) + 1) = ((i + 1 : Nat) : Int)) := by show _ = _; rw [w64i (by omega) (by omega)]; rfl
    rw [hdr]
    simp only [addF]
    by_cases hr : -9223372036854775808 ≤ s + l[i] ∧ s + l[i] ≤ 9223372036854775807
    · obtain ⟨m, hm⟩ := ih (i + 1) (s + l[i]) (by omega) (by omega) hr
      refine ⟨m + 2, fun k => ?_⟩
      obtain ⟨K, hK⟩ : ∃ K, K = k + m + 1 := ⟨_, rfl⟩
      have e : k + (m + 2) = K + 1 := by omega
      rw [e]
      simp only [soukref01_Sum.l0]
      have hadd := radd_ok s l[i] hs hx (k + m)
      rw [if_pos hr, ← hK] at hadd
      rw [if_pos c1, if_pos c2, rd_at l i hlt, hadd]
      have h2 : (if -9223372036854775808 ≤ s + l[i] ∧ s + l[i] ≤ 9223372036854775807 then addF (s + l[i]) (List.drop (i + 1) l) else (0, 2)) = addF (s + l[i]) (List.drop (i + 1) l) := if_pos hr
      rw [h2]
      simp only [Option.bind_some]
      rw [if_pos trivial, HW.out]
      have := hm (k + 1)
      rw [show k + 1 + m = K by omega] at this
      exact this
    · refine ⟨2, fun k => ?_⟩
      obtain ⟨K, hK⟩ : ∃ K, K = k + 1 := ⟨_, rfl⟩
      have e : k + 2 = K + 1 := by omega
      rw [e]
      simp only [soukref01_Sum.l0]
      have hadd := radd_ok s l[i] hs hx k
      rw [if_neg hr, ← hK] at hadd
      rw [if_pos c1, if_pos c2, rd_at l i hlt, hadd]
      have h2 : (if -9223372036854775808 ≤ s + l[i] ∧ s + l[i] ≤ 9223372036854775807 then addF (s + l[i]) (List.drop (i + 1) l) else (0, 2)) = (0, 2) := if_neg hr
      rw [h2]
      simp only [Option.bind_some]
      rw [if_neg (by decide)]
      unfold sumR
      rw [if_neg (by decide)]
theorem rsum_ok (l : List Int) (hl : ∀ x ∈ l, inR x) (hlen : l.length ≤ 1000000000000) : ∃ m, ∀ k, soukref01_Sum.f (k + m) l = some (sumR (addF 0 l)) := by
  obtain ⟨m, hm⟩ := rsum_from l hl hlen l.length 0 0 (by omega) (Nat.zero_le _) ⟨by decide, by decide⟩
  exact ⟨m, fun k => by unfold soukref01_Sum.f; exact hm k⟩
end Go.Proofs.Ytncnhhnbjmpomaa.Q
namespace Go.Proofs.Ytncnhhnbjmpomaa
open Go.RowKit Go.Proofs.Ytncnhhnbjmpomaa.Q Go.Proofs.Kq
open Go.Proofs.YtncnhhnbjmpomaaW.PrintWords (pw_cell_below step_append_cells print_append_cells Kd Kd.C Kd.C_below Drawn0 encs encs_length encs_append)
set_option linter.unusedVariables false
set_option linter.unusedSimpArgs false
def BitsP (w : World) (n : Nat) (L : Nat) (e : Ending) (w' : World) : Prop := ∃ A c xs, e = .returned (.slice A xs.length c) ∧ xs.length ≤ c ∧ Kd.C Kd.bool w' A xs.length xs ∧ val xs = n ∧ xs.length ≤ L ∧ Below w.heap.size w w'
theorem bits_c (a : Int) (ha : inR a) (w : World) : Calls Try.prog 44 #[.int .i64 a] w (BitsP w a.natAbs 64) := by
  obtain ⟨m, hm⟩ := bits_ok a ha
  refine (soukref01_bits.calls m a _ w (hm m (Nat.le_refl _))).mono ?_
  rintro e w' ⟨v, rfl, hR, hB⟩
  obtain ⟨A, c, rfl, hc, hC⟩ := Kd.R_reads hR
  exact ⟨A, c, _, rfl, hc, hC, bitsN_val _, bitsN_len64 a ha, hB⟩
theorem times_c (A0 : Option Addr) (c0 : Nat) (l0 : List Bool) (A1 : Option Addr) (c1 : Nat) (l1 : List Bool) (w : World) (hr0 : Kd.C Kd.bool w A0 l0.length l0) (hc0 : l0.length ≤ c0) (hr1 : Kd.C Kd.bool w A1 l1.length l1) (hc1 : l1.length ≤ c1)
    (h0 : l0.length ≤ 64) (h1 : l1.length ≤ 64) : Calls Try.prog 43 #[.slice A0 l0.length c0, .slice A1 l1.length c1] w (BitsP w (val l0 * val l1) 20000) := by
  obtain ⟨r, ⟨m, hm⟩, hv, hl⟩ := times_ok l0 l1 (by omega) (by omega)
  refine (soukref01_Times.calls m A0 c0 l0 A1 c1 l1 _ w hr0 hc0 hr1 hc1 (hm m (Nat.le_refl _))).mono ?_
  rintro e w' ⟨v, rfl, hR, hB⟩
  obtain ⟨A, c, rfl, hc, hC⟩ := Kd.R_reads hR
  exact ⟨A, c, _, rfl, hc, hC, by rw [trimF_val, hv], Nat.le_trans (trimF_len r) hl, hB⟩
def DivP (w : World) (p a : Nat) (e : Ending) (w' : World) : Prop := ∃ (v0 v1 : Value) (q r : List Bool), e = .returned (.tuple #[v0, v1]) ∧ Kd.R Kd.bool 4 w' w.heap.size (fun k => some k ≠ v1.ownBlock) v0 q ∧ Kd.R Kd.bool 4 w' w.heap.size (fun k => some k ≠ v0.ownBlock) v1 r ∧ val q = p / a ∧ val r = p % a ∧ q.length ≤ 100000 ∧ r.length ≤ 100000 ∧ r = trimF r ∧ Below w.heap.size w w'
theorem trim_len64 (l : List Bool) (n : Nat) (h : val l < 2 ^ n) (ht : l = trimF l) : l.length ≤ n := by
  by_cases he : trimF l = []
  · rw [ht, he]; simp
  · have := trimF_pow l he
    rw [← ht] at this
    apply Classical.byContradiction
    intro hn
    have : 2 ^ n ≤ 2 ^ (l.length - 1) := Nat.pow_le_pow_right (by decide) (by omega)
    omega
theorem div_c (A0 : Option Addr) (c0 : Nat) (l0 : List Bool) (A1 : Option Addr) (c1 : Nat) (l1 : List Bool) (w : World) (hr0 : Kd.C Kd.bool w A0 l0.length l0) (hc0 : l0.length ≤ c0) (hr1 : Kd.C Kd.bool w A1 l1.length l1) (hc1 : l1.length ≤ c1)
    (h0 : l0.length ≤ 20000) (h1 : l1.length ≤ 64) (hp : 0 < val l1) : Calls Try.prog 42 #[.slice A0 l0.length c0, .slice A1 l1.length c1] w (DivP w (val l0) (val l1)) := by
  obtain ⟨q, r, ⟨m, hm⟩, hq, hr, ht⟩ := div_ok l0 l1 (by omega) (by omega) hp
  refine (soukref01_Div.calls m A0 c0 l0 A1 c1 l1 _ _ w hr0 hc0 hr1 hc1 (hm m (Nat.le_refl _))).mono ?_
  rintro e w' ⟨v0, v1, rfl, hR0, hR1, hB⟩
  refine ⟨v0, v1, _, _, rfl, hR0, hR1, by rw [trimF_val, hq], hr, ?_, ?_, ht, hB⟩
  · refine Nat.le_trans (trim_len64 (trimF q) l0.length ?_ (trimF_idem q).symm) (by omega)
    rw [trimF_val, hq]
    exact Nat.lt_of_le_of_lt (Nat.div_le_self _ _) (val_lt l0)
  · refine Nat.le_trans (trim_len64 r 64 ?_ ht) (by decide)
    rw [hr]
    exact Nat.lt_trans (Nat.mod_lt _ hp) (Nat.lt_of_lt_of_le (val_lt l1) (Nat.pow_le_pow_right (by decide) h1))
theorem value_c (v : Value) (xs : List Bool) (P : Nat → Prop) (w0 w : World) (hB : Below w0.heap.size w0 w) (hR : Kd.R Kd.bool 4 w w0.heap.size P v xs) (hl : xs.length ≤ 100000) (h : val xs ≤ 9223372036854775807) :
    Calls Try.prog 49 #[v, .bool false] w fun e w' => e = .returned (.tuple #[.int .i64 (val xs : Nat), .bool true]) ∧ Below w0.heap.size w0 w' ∧ Go.Proofs.YtncnhhnbjmpomaaW.PrintWords.Kept w w' P := by
  obtain ⟨m, hm⟩ := value_ok xs false hl
  refine soukref01_value.calls m P v xs false _ _ w0 w hB hR ?_
  refine Eq.trans (hm m (Nat.le_refl _)) ?_
  unfold valF
  rw [if_neg (by decide), if_pos (by omega)]
theorem less_c (A0 : Option Addr) (c0 : Nat) (l0 : List Bool) (A1 : Option Addr) (c1 : Nat) (l1 : List Bool) (w : World) (hr0 : Kd.C Kd.bool w A0 l0.length l0) (hc0 : l0.length ≤ c0) (hr1 : Kd.C Kd.bool w A1 l1.length l1) (hc1 : l1.length ≤ c1)
    (h0 : l0.length ≤ 100000) (h1 : l1.length ≤ 100000) : Calls Try.prog 47 #[.slice A0 l0.length c0, .slice A1 l1.length c1] w fun e w' => e = .returned (.bool (decide (val l0 < val l1))) ∧ Below w.heap.size w w' := by
  obtain ⟨m, hm⟩ := less_ok l0 l1 h0 h1
  exact soukref01_less.calls m A0 c0 l0 A1 c1 l1 _ w hr0 hc0 hr1 hc1 (hm m (Nat.le_refl _))
theorem sum_c (A0 : Option Addr) (c0 : Nat) (l0 : List Int) (w : World) (hr0 : Kd.C (Kd.int .i64) w A0 l0.length l0) (hc0 : l0.length ≤ c0) (hl : ∀ x ∈ l0, inR x) (hlen : l0.length ≤ 1000000) :
    Calls Try.prog 14 #[.slice A0 l0.length c0] w fun e w' => e = .returned (.tuple #[.int .i64 (sumR (addF 0 l0)).1, .bool (sumR (addF 0 l0)).2]) ∧ Drawn0 w w' := by
  obtain ⟨m, hm⟩ := rsum_ok l0 hl (by omega)
  exact soukref01_Sum.calls (0 + m) A0 c0 l0 _ _ w hr0 hc0 (hm 0)
end Go.Proofs.Ytncnhhnbjmpomaa
namespace Go.Proofs.Ytncnhhnbjmpomaa
open Go.RowKit Go.Proofs.Ytncnhhnbjmpomaa.Q Go.Sort
set_option linter.unusedVariables false
set_option linter.unusedSimpArgs false
def BI (t : Int) (ws : List Int) (j i : Nat) (bz : Int) : Prop :=
  (bz = -1 ∧ ∀ m, m < i → alive t ws j m → rvF t ws m = 0) ∨
  ∃ b : Nat, bz = b ∧ b < i ∧ alive t ws j b ∧ (∀ m, m < i → alive t ws j m → rvF t ws m ≤ rvF t ws b) ∧ (∀ m, m < b → alive t ws j m → rvF t ws m < rvF t ws b ∨ rvF t ws b = 0)
theorem rv_nn (t : Int) (ws : List Int) (ha : 0 < ws.sum) (i : Nat) : 0 ≤ rvF t ws i := Int.emod_nonneg _ (by omega)
theorem BI.start (t : Int) (ws : List Int) (j : Nat) : BI t ws j 0 (-1) := .inl ⟨rfl, fun m h => by omega⟩
theorem BI.skip {t : Int} {ws : List Int} {j i : Nat} {bz : Int} (ha : 0 < ws.sum) (h : BI t ws j i bz) (hi : alive t ws j i → rvF t ws i = 0) : BI t ws j (i + 1) bz := by
  rcases h with ⟨h1, h2⟩ | ⟨b, h1, h2, h3, h4, h5⟩
  · refine .inl ⟨h1, fun m hm hl => ?_⟩
    by_cases e : m = i
    · subst e; exact hi hl
    · exact h2 m (by omega) hl
  · refine .inr ⟨b, h1, by omega, h3, fun m hm hl => ?_, h5⟩
    by_cases e : m = i
    · subst e; rw [hi hl]; exact rv_nn t ws ha b
    · exact h4 m (by omega) hl
theorem BI.keep {t : Int} {ws : List Int} {j i b : Nat} (h : BI t ws j i b) (hi : ¬ rvF t ws b < rvF t ws i) : BI t ws j (i + 1) b := by
  rcases h with ⟨h1, h2⟩ | ⟨b', h1, h2, h3, h4, h5⟩
  · omega
  · obtain rfl : b = b' := by omega
    refine .inr ⟨b, h1, by omega, h3, fun m hm hl => ?_, h5⟩
    by_cases e : m = i
    · subst e; omega
    · exact h4 m (by omega) hl
theorem BI.first {t : Int} {ws : List Int} {j i : Nat} {bz : Int} (ha : 0 < ws.sum) (h : BI t ws j i bz) (hb : bz < 0) (hi : alive t ws j i) : BI t ws j (i + 1) i := by
  rcases h with ⟨h1, h2⟩ | ⟨b', h1, h2, h3, h4, h5⟩
  · have hn := rv_nn t ws ha i
    refine .inr ⟨i, rfl, by omega, hi, fun m hm hl => ?_, fun m hm hl => ?_⟩
    · by_cases e : m = i
      · subst e; omega
      · rw [h2 m (by omega) hl]; exact hn
    · rw [h2 m hm hl]; omega
  · omega
theorem BI.take {t : Int} {ws : List Int} {j i b : Nat} (h : BI t ws j i b) (hi : alive t ws j i) (hl : rvF t ws b < rvF t ws i) : BI t ws j (i + 1) i := by
  rcases h with ⟨h1, h2⟩ | ⟨b', h1, h2, h3, h4, h5⟩
  · omega
  · obtain rfl : b = b' := by omega
    refine .inr ⟨i, rfl, by omega, hi, fun m hm hm2 => ?_, fun m hm hm2 => ?_⟩
    · by_cases e : m = i
      · subst e; omega
      · have := h4 m (by omega) hm2; omega
    · have := h4 m hm hm2; omega
theorem BI.alive_ {t : Int} {ws : List Int} {j i b : Nat} (h : BI t ws j i b) : b < i ∧ alive t ws j b := by
  rcases h with ⟨h1, h2⟩ | ⟨b', h1, h2, h3, h4, h5⟩
  · omega
  · obtain rfl : b = b' := by omega
    exact ⟨h2, h3⟩
theorem BI.end_ {t : Int} {ws : List Int} {j : Nat} {bz : Int} (ht : 0 ≤ t) (hw : ∀ x ∈ ws, 0 ≤ x) (ha : 0 < ws.sum) (hj : (j : Int) < leftF t ws.sum ws) (hjl : j < ws.length) (h : BI t ws j ws.length bz) :
    ∃ b : Nat, bz = b ∧ b < ws.length ∧ (ordF t ws)[j]'(by rw [ord_len]; exact hjl) = ⟨(b : Int), rvF t ws b⟩ := by
  have hjl2 : j < (ordF t ws).length := by rw [ord_len]; exact hjl
  obtain ⟨p, hp, hp2, hp3⟩ := alive_some t ws ht hw ha j hj hjl2
  rcases h with ⟨h1, h2⟩ | ⟨b, h1, h2, h3, h4, h5⟩
  · have := h2 p hp hp2; omega
  · exact ⟨b, h1, h2, pick_unique t ws ht hw ha j hj hjl2 b h2 h3 (fun m hm hl => h4 m hm hl) h5⟩
theorem alive_succ (t : Int) (ws : List Int) (j b i : Nat) (hjl : j < (ordF t ws).length) (he : (ordF t ws)[j] = ⟨(b : Int), rvF t ws b⟩) : alive t ws (j + 1) i ↔ alive t ws j i ∧ i ≠ b := by
  unfold alive
  rw [List.take_succ_eq_append_getElem hjl, he]
  constructor
  · intro h
    exact ⟨fun r hr => h r (by simp [hr]), fun e => h ⟨(b : Int), rvF t ws b⟩ (by simp) (by simp [e])⟩
  · rintro ⟨h1, h2⟩ r hr
    rcases List.mem_append.1 hr with hr | hr
    · exact h1 r hr
    · simp at hr
      subst hr
      simp; omega
end Go.Proofs.Ytncnhhnbjmpomaa
