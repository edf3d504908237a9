/- What the statement leans on, part 2: functions of the program and of the reference as Lean functions, their contracts, and plain laws. -/
import Derived.Laws.StructEq
import Derived.MapKept
import Derived.Carry
import Derived.Maps.OwnSet
import Derived.Test.YtncnhhnbjmpomaaMCW1
namespace Go.Proofs.Ytncnhhnbjmpomaa.Q
open Go.RowKit Go.Proofs.YtncnhhnbjmpomaaW.PrintWords Go.Proofs.YtncnhhnbjmpomaaW.PrintLast
set_option linter.unusedVariables false
set_option linter.unusedSimpArgs false
open Go.Proofs.Kq (Reads wpList_append_any)
open Go.Proofs.Ytncnhhnbjmpomaa
theorem reads_ints {k : IntKind} {w : World} {A : Option Addr} {xs : List Int} (h : Kd.C (Kd.int k) w A xs.length xs) : Reads w w.heap.size 1 A xs.length (encs (Value.int k) xs) := by
  refine ⟨by rw [encs_length]; omega, fun hn => ?_⟩
  obtain ⟨ad, e, hc⟩ := (Kd.reads_of_C (d := (0 : Int)) h).2.2 hn
  refine ⟨ad, e, ?_, fun j u hu => ?_⟩
  · have := World.block_lt_of_cell? w _ (hc 0 hn)
    rwa [Kq.block_of_add] at this
  · obtain ⟨hj, hju⟩ := List.getElem?_eq_some_iff.1 hu
    rw [encs_length] at hj
    rw [hc j hj, List.getD_eq_getElem?_getD, List.getElem?_eq_getElem hj]
    simp [encs] at hju
    simp [hju]
theorem encs_one (k : IntKind) (xs : List Int) : ∀ u ∈ encs (Value.int k) xs, u.oneCell' = true := by
  intro u hu; obtain ⟨z, _, rfl⟩ := List.mem_map.1 hu; rfl
def slices_Clone_int64_int64.f (l0 : List Int) : Option (List Int) := if l0.length ≤ 1000000 then some l0 else none
set_option maxRecDepth 100000 in
set_option maxHeartbeats 1000000 in
theorem slices_Clone_int64_int64.calls (A0 : Option Addr) (c0 : Nat) (l0 : List Int) (r : List Int) (w : World) (hr0 : Kd.C (Kd.int .i64) w A0 l0.length l0) (hc0 : l0.length ≤ c0) (h : slices_Clone_int64_int64.f l0 = some r) :
    Calls Try.prog 24 #[.slice A0 l0.length c0] w fun e w' => ∃ v0_ : Value, e = .returned (v0_) ∧ Kd.R (Kd.int .i64) 2 w' w.heap.size (fun _ => True) v0_ r ∧ Below w.heap.size w w' := by
  unfold slices_Clone_int64_int64.f at h
  split at h
  · rename_i hb
    cases h
    obtain ⟨i0, hi, hz0, hz1, hz2⟩ := info_parts info2
    cases A0 with
    | none =>
      have h0 : l0 = [] := by
        cases l0 with
        | nil => rfl
        | cons x xs => obtain ⟨ad, e, _⟩ := hr0.2.2 (by simp); cases e
      subst h0
      exact (Go.Proofs.Try.slices_Clone_nil _ _ w).mono fun e w' ⟨he, hw⟩ => ⟨_, he, Kd.R_nil _ _ _ _ _, hw ▸ Below.refl _ _⟩
    | some ad =>
      have he := fun w => Lib.run_eql_slice_nil (P := Try.prog) w 22 2 (some ad) l0.length c0 0 0 Try.underlying22
      have HR := reads_ints hr0
      clear hr0
      go_enter Try.func24, Try.ntmps24
      go_wp2_with (at_builtin; refine wpList_append_any _ rfl (.tmp 5) (.tmp 6) 22 rfl w.heap.size 2 i0 (.int .i64 0) 1 8 Try.underlying22 hi hz0 hz1 hz2 rfl (by decide) (.slice (some ⟨w.heap.size, 0, none⟩) 0 0) 0 [] rfl ?aO w.heap.size (some ad) l0.length c0 (encs (Value.int .i64) l0) rfl ?aR (encs_one _ l0) ?aM ?aB ?aS ?_; (case aO => exact ⟨rfl, .inr ⟨w.heap.size, 0, #[], rfl, Nat.le_refl _, by (show (w.heap.push _)[w.heap.size]? = _; simp), Nat.le_refl _, by decide, rfl, rfl⟩⟩); (case aR => exact HR.alloc (Nat.le_refl _) _); (case aM => simp only [maxLen]; omega); (case aB => omega); (case aS => simp); intro v1 w1 hown hg hat)
      go_ret
      exact ⟨_, rfl, Kd.R_of_own (by simpa using hown) (fun _ _ => trivial), (below_new (Below.refl _ _) _).grown hg (by simp) (fun k hk => by cases hk; exact Nat.le_refl _)⟩
  · cases h
end Go.Proofs.Ytncnhhnbjmpomaa.Q
namespace Go.Proofs.Ytncnhhnbjmpomaa.Q
open Go.RowKit Go.Proofs.YtncnhhnbjmpomaaW.PrintWords Go.Proofs.YtncnhhnbjmpomaaW.PrintLast Go.Proofs.YtncnhhnbjmpomaaW.PrintMore
attribute [local go_sem] max2_int min2_int max_two min_two max_three min_three max_four min_four   -- for this text's walks alone
set_option linter.unusedVariables false
set_option linter.unusedSimpArgs false
def claw_less.l0 : Nat → List Int → List Int → Int → Int → Option (List Int)
 | 0, _, _, _, _ => none
 | k + 1, x5, x10, x11, x12 => if x12 < x11 then (if 0 ≤ x12 then (if x12 < (x10.length : Int) then (if x12 < (x5.length : Int) then (claw_less.l0 k (x5.set (x12 : Int).toNat (wrap64 ((rd x5 x12) - (rd x10 x12)))) x10 x11 (wrap64 (x12 + 1))) else (none)) else (none)) else (none)) else (some x5)
def claw_less.f (k : Nat) (l0 : List Int) (l1 : List Int) : Option (List Int) := (slices_Clone_int64_int64.f l0).bind fun t466 => (claw_less.l0 k t466 l1 (l1.length : Int) 0)
set_option maxHeartbeats 8000000 in
set_option maxRecDepth 100000 in
theorem claw_less.calls (k : Nat) (A0 : Option Addr) (c0 : Nat) (l0 : List Int) (A1 : Option Addr) (c1 : Nat) (l1 : List Int) (r : List Int) (w : World) (hr0 : Kd.C (Kd.int .i64) w A0 l0.length l0) (hc0 : l0.length ≤ c0) (hr1 : Kd.C (Kd.int .i64) w A1 l1.length l1) (hc1 : l1.length ≤ c1) (h : claw_less.f k l0 l1 = some r) :
  Calls Try.prog 55 #[.slice A0 l0.length c0, .slice A1 l1.length c1] w fun e w' => ∃ v0_ : Value, e = .returned (v0_) ∧ Kd.R (Kd.int .i64) 2 w' w.heap.size (fun _ => True) v0_ r ∧ Below w.heap.size w w' := by
 have HR0 := Aside0.mk hr0
 have HC0 := Aside0.mk hc0
 clear hr0 hc0
 have HR1 := Aside0.mk hr1
 have HC1 := Aside0.mk hc1
 clear hr1 hc1
 have HB := Aside0.mk (Below.refl w.heap.size w)
 have H : ((slices_Clone_int64_int64.f l0).bind fun t466 => (claw_less.l0 k t466 l1 (l1.length : Int) 0)) = some r := h
 clear h
 replace H := Option.bind_eq_some_iff.mp H
 obtain ⟨t466, A30, H⟩ := H
 replace H : (claw_less.l0 k t466 l1 (l1.length : Int) 0) = some r := H
 have A3 := Aside0.mk A30
 clear A30
 have H' := Aside0.mk H
 clear H
 go_enter Try.func55, Try.ntmps55
 go_wp2_with (first | ((with_reducible refine gate_callee (f := 24) rfl ?_); refine goesL_ (some 9) rfl rfl Try.func24 (by kernel_rfl) rfl #[.slice A0 l0.length c0] rfl (by (try simp only [List.map_toArray, List.map_cons, List.map_nil]); first | done | rfl | (simp only [List.length_drop, List.length_take]; rfl)) ?_; (with_reducible refine (slices_Clone_int64_int64.calls _ _ l0 t466 _ ?side1 ?side2 A3.out).mono ?_); (case side1 => repeat (first | exact HR0.out | (with_reducible refine Kd.C_alloc ?_ _) | (with_reducible refine Kd.C_drewN ?_ _) | (with_reducible refine Kd.C_drew ?_))); (case side2 => exact HC0.out); rintro e w4 ⟨v467, rfl, ho0, hb⟩; refine ⟨_, rfl, ?_⟩; have n0_ := Aside0.mk (Kd.R_lower ho0 (below_size (by repeat (first | (with_reducible first | exact HB.out | apply below_alloc | apply pw_below_drewN | apply below_drew1) | exact HB.out)))); have n1_ := Aside0.mk (below_step (by repeat (first | (with_reducible first | exact HB.out | apply below_alloc | apply pw_below_drewN | apply below_drew1) | exact HB.out)) hb); clear HB; have HO468 := n0_; have HB := n1_; clear n0_ n1_; (try clear hb); (try clear hb2); (try clear hk); (try clear hi); (try clear ho0)))
 go_loopg [12] k (fun kq v12 w' => ∃ (x5_1 : List Int) (x12_1 : Int), v12 = .int .i64 x12_1 ∧ Aside0 (claw_less.l0 kq x5_1 l1 (l1.length : Int) x12_1 = some r) ∧ Aside0 (kq ≤ k) ∧ Aside0 (Kd.R (Kd.int .i64) 2 w' w.heap.size (fun _ => True) v467 x5_1) ∧ Aside0 (Below w.heap.size w w'))
 case atStart => exact ⟨(t466), (0), (by first | rfl | (simp; done) | (simp [*]; done)), H', ⟨Nat.le_refl _⟩, ⟨by (with_reducible repeat (first | apply Kd.R_alloc | apply Kd.R_drewN | apply Kd.R_drew)); exact HO468.out⟩, ⟨by repeat (first | (with_reducible first | exact HB.out | apply below_alloc | apply pw_below_drewN | apply below_drew1) | exact HB.out)⟩⟩
 case round =>
  clear H'
  try clear c1
  try clear c2
  try clear p2
  obtain ⟨x5_1, x12_1, rfl, HA, HK1, HO_5, HB⟩ := hrel
  cases gk with
  | zero => exact absurd HA.out (by simp [claw_less.l0])
  | succ k1 =>
   have H := HA.out
   clear HA
   simp only [claw_less.l0] at H
   by_cases c5 : x12_1 < (l1.length : Int)
   ·rw [if_pos c5] at H
    have c5b0 : decide (x12_1 < (l1.length : Int)) = true := decide_eq_true c5
    clear c5
    by_cases c6 : 0 ≤ x12_1
    ·rw [if_pos c6] at H
     have c6b0 : decide (0 ≤ x12_1) = true := decide_eq_true c6
     clear c6
     by_cases c7 : x12_1 < (l1.length : Int)
     ·rw [if_pos c7] at H
      have c7b0 : decide (x12_1 < (l1.length : Int)) = true := decide_eq_true c7
      clear c7
      by_cases c8 : x12_1 < (x5_1.length : Int)
      ·rw [if_pos c8] at H
       have c8b0 : decide (x12_1 < (x5_1.length : Int)) = true := decide_eq_true c8
       clear c8
       obtain ⟨y471, hy471⟩ : ∃ y_ : List Int, y_ = (x5_1.set (x12_1 : Int).toNat (wrap64 ((rd x5_1 x12_1) - (rd l1 x12_1)))) := ⟨_, rfl⟩
       replace H : (claw_less.l0 k1 y471 l1 (l1.length : Int) (wrap64 (x12_1 + 1))) = some r := by first | (rw [hy471]; with_reducible exact H) | (have H2_ := (Option.bind_some _ _).symm.trans H; rw [hy471]; with_reducible exact H2_) | (have H2_ := (Option.bind_some _ _).symm.trans H; with_reducible exact H2_) | with_reducible exact H | (rw [hy471]; exact H) | exact H
       have Ny471 := Aside0.mk hy471
       clear hy471
       have H' := Aside0.mk H
       clear H
       have p469 : 0 ≤ (x12_1 : Int) := of_decide_eq_true (by first | (with_reducible assumption) | assumption)
       have q469 : x12_1 < (l1.length : Int) := of_decide_eq_true (by first | (with_reducible assumption) | assumption)
       obtain ⟨ad469, e469, hx469_0⟩ := Kd.at_int HR1.out x12_1 p469 q469
       cases e469
       replace hx469_0 := (HB.out.cell (World.block_lt_of_cell? w _ hx469_0)).trans hx469_0
       replace p469 := eq_true p469
       replace q469 := eq_true q469
       obtain ⟨Ao10, co10, eo10⟩ := Kd.R_slice HO_5.out
       subst eo10
       have p470 : 0 ≤ (x12_1 : Int) := of_decide_eq_true (by first | (with_reducible assumption) | assumption)
       have q470 : x12_1 < (x5_1.length : Int) := of_decide_eq_true (by first | (with_reducible assumption) | assumption)
       obtain ⟨ad470, e470, hx470_0⟩ := Kd.at_int (Kd.R_reads' HO_5.out).2.2 x12_1 p470 q470
       cases e470
       replace p470 := eq_true p470
       replace q470 := eq_true q470
       have p9 : 0 ≤ (x12_1 : Int) := of_decide_eq_true (by first | (with_reducible assumption) | assumption)
       have q9 : (x12_1 : Int) < ((x5_1.length : Int) : Int) := of_decide_eq_true (by first | (with_reducible assumption) | assumption)
       obtain ⟨go9, co9, eo9, gb9, gl9, cl9, HG9⟩ := Kd.R_form HO_5.out (by omega)
       (first | cases eo9 | (injection eo9 with ea_ en_ ec_; (first | subst ea_ | (injection ea_ with ea_; subst ea_)); subst ec_; clear en_))
       have GB9 := Aside0.mk gb9
       have GG9 := Aside0.mk HG9
       clear gb9 gl9 HG9
       (first | simp only [add_plain] at hx470_0 | skip)
       obtain ⟨hx9_0, hf9_0⟩ := Kd.R_celln 0 HO_5.out (x12_1 : Int) p9 q9
       replace p9 := eq_true p9
       replace q9 := eq_true q9
       have HP11 := Kd.R_putg HO_5.out (x12_1 : Int) (wrap64 ((rd x5_1 x12_1) - (rd l1 x12_1)))
       go_wp2_with (first | ((with_reducible refine gate_store (t := 2) (p := 23) rfl ?_); refine store_event (t := 2) (p := 23) (v := ?vo_w12) (w1 := (wr.setCell ⟨go9, (x12_1 : Int).toNat, none⟩ (.int .i64 (wrap64 ((rd x5_1 x12_1) - (rd l1 x12_1)))))) ?hg ?ho ?hn ?hr ?_; (case ho => rfl); (case hg => rfl); (case hn => rfl); (case hr => first | (go_simp; done) | (go_simp; rfl)); intro w12 hw; have hg : wr.grownBy w12 (some go9) := (by rw [hw]; exact HP11.2); have hp_ : Kd.R (Kd.int .i64) 2 w12 w.heap.size (fun _ => True) (.slice (some ⟨go9, 0, none⟩) x5_1.length co10) y471 := (by rw [hw, Ny471.out]; exact HP11.1); clear HP11; have n0_ := Aside0.mk (hp_); have n1_ := Aside0.mk ((by rw [hw]; exact below_set (HB.out) GB9.out : Below w.heap.size w w12)); clear HO_5; clear HB; have HO_5 := n0_; have HB := n1_; clear n0_ n1_; clear hg hw hp_))
       go_roundg k1
       case measure => have := HK1.out; omega
       case rel => exact ⟨(y471), (wrap64 (x12_1 + 1)), (by first | rfl | (simp; done) | (simp [*]; done)), H', ⟨by have := HK1.out; omega⟩, ⟨by (with_reducible repeat (first | apply Kd.R_alloc | apply Kd.R_drewN | apply Kd.R_drew)); exact HO_5.out⟩, ⟨by repeat (first | (with_reducible first | exact HB.out | apply below_alloc | apply pw_below_drewN | apply below_drew1) | exact HB.out)⟩⟩
      ·rw [if_neg c8] at H
       exact absurd H (by simp)
     ·rw [if_neg c7] at H
      exact absurd H (by simp)
    ·rw [if_neg c6] at H
     exact absurd H (by simp)
   ·rw [if_neg c5] at H
    have c5b0 : decide (x12_1 < (l1.length : Int)) = false := decide_eq_false c5
    clear c5
    obtain rfl := Option.some.inj H
    go_wp2
    go_ret
    exact ⟨_, by first | rfl | (simp [errW_none, errW_some] <;> rfl) | (simp [*, errW_none, errW_some] <;> rfl), by (with_reducible repeat (first | apply Kd.R_alloc | apply Kd.R_drewN | apply Kd.R_drew)); exact HO_5.out, by repeat (first | (with_reducible first | exact HB.out | apply below_alloc | apply pw_below_drewN | apply below_drew1) | exact HB.out)⟩
end Go.Proofs.Ytncnhhnbjmpomaa.Q
namespace Go.Proofs.Ytncnhhnbjmpomaa.Q
open Go.RowKit Go.Proofs.YtncnhhnbjmpomaaW.PrintWords Go.Proofs.YtncnhhnbjmpomaaW.PrintLast Go.Proofs.YtncnhhnbjmpomaaW.PrintMore
attribute [local go_sem] max2_int min2_int max_two min_two max_three min_three max_four min_four   -- for this text's walks alone
set_option linter.unusedVariables false
set_option linter.unusedSimpArgs false
def souklaw13_lives.f (k : Nat)  : Option (Bool) := (claw_Take.f k (([10, 30] : List Int)) 4).bind fun bt434 => (if bt434.2 = 0 then ((slices_Equal_int64_int64.f k bt434.1 (([1, 3] : List Int))).bind fun t441 => (some t441)) else (some false))
set_option maxHeartbeats 8000000 in
set_option maxRecDepth 100000 in
theorem souklaw13_lives.calls (k : Nat)  (r : Bool) (w : World) (h : souklaw13_lives.f k  = some r) :
  Calls Try.prog 23 #[] w fun e w' => e = .returned (.bool r) ∧ Below w.heap.size w w' := by
 have HB := Aside0.mk (Below.refl w.heap.size w)
 have H : ((claw_Take.f k (([10, 30] : List Int)) 4).bind fun bt434 => (if bt434.2 = 0 then ((slices_Equal_int64_int64.f k bt434.1 (([1, 3] : List Int))).bind fun t441 => (some t441)) else (some false))) = some r := h
 clear h
 obtain ⟨y431, hy431⟩ : ∃ y_ : List Int, y_ = (([10, 30] : List Int)) := ⟨_, rfl⟩
 replace H : ((claw_Take.f k y431 4).bind fun bt434 => (if bt434.2 = 0 then ((slices_Equal_int64_int64.f k bt434.1 (([1, 3] : List Int))).bind fun t441 => (some t441)) else (some false))) = some r := by first | (rw [hy431]; with_reducible exact H) | (have H2_ := (Option.bind_some _ _).symm.trans H; rw [hy431]; with_reducible exact H2_) | (have H2_ := (Option.bind_some _ _).symm.trans H; with_reducible exact H2_) | with_reducible exact H | (rw [hy431]; exact H) | exact H
 have Ny431 := Aside0.mk hy431
 clear hy431
 replace H := Option.bind_eq_some_iff.mp H
 obtain ⟨⟨t434, t435⟩, A10, H⟩ := H
 replace H : (if t435 = 0 then ((slices_Equal_int64_int64.f k t434 (([1, 3] : List Int))).bind fun t441 => (some t441)) else (some false)) = some r := H
 have A1 := Aside0.mk A10
 clear A10
 by_cases c2 : t435 = 0
 ·rw [if_pos c2] at H
  have c2b0 : (t435 == 0) = true := beq_iff_eq.mpr c2
  have c2b1 : (t435 != 0) = false := bne_eq_false_iff_eq.mpr c2
  clear c2
  obtain ⟨y438, hy438⟩ : ∃ y_ : List Int, y_ = (([1, 3] : List Int)) := ⟨_, rfl⟩
  replace H : ((slices_Equal_int64_int64.f k t434 y438).bind fun t441 => (some t441)) = some r := by first | (rw [hy438]; with_reducible exact H) | (have H2_ := (Option.bind_some _ _).symm.trans H; rw [hy438]; with_reducible exact H2_) | (have H2_ := (Option.bind_some _ _).symm.trans H; with_reducible exact H2_) | with_reducible exact H | (rw [hy438]; exact H) | exact H
  have Ny438 := Aside0.mk hy438
  clear hy438
  replace H := Option.bind_eq_some_iff.mp H
  obtain ⟨t441, A30, H⟩ := H
  replace H : (some t441) = some r := H
  have A3 := Aside0.mk A30
  clear A30
  obtain rfl := Option.some.inj H
  go_enter Try.func23, Try.ntmps23
  go_wp2_with (first | ((with_reducible refine gate_dst (N := 4) rfl ?_); (try (refine gate_guard (by rfl) ?_; dsimp only)); refine Kd.R_lit (Kd.int .i64) _ 2 ?hg (N := 4) ?hd (xs := ([10, 30] : List Int)) (inner := [.int .i64 10, .int .i64 30]) (ok := fun _ => True) (okp := fun _ => True) ?hr ?hp (fun _ hk => hk) trivial (Below.refl _ _) (Nat.le_refl _) (by simp) ?_; (case hd => rfl); (case hg => rfl); (case hr => first | (go_simp; done) | (go_simp; rfl)); (case hp => exact (Reps.one (show Kd.M (Kd.int .i64) _ _ _ 10 [.int .i64 10] from rfl) (Reps.one (show Kd.M (Kd.int .i64) _ _ _ 30 [.int .i64 30] from rfl) (Reps.none _ _)))); intro v432 w4 ho5 hb hg_ hnew_; clear hg_ hnew_; (first | rw [← Ny431.out] at ho5 | (simp only [Int.reduceToNat] at ho5; rw [← Ny431.out] at ho5)); have n0_ := Aside0.mk (Kd.R_lower ho5 (below_size (by repeat (first | (with_reducible first | exact HB.out | apply below_alloc | apply pw_below_drewN | apply below_drew1) | exact HB.out)))); have n1_ := Aside0.mk (below_step (by repeat (first | (with_reducible first | exact HB.out | apply below_alloc | apply pw_below_drewN | apply below_drew1) | exact HB.out)) hb); clear HB; have HO433 := n0_; have HB := n1_; clear n0_ n1_; clear hb ho5; obtain ⟨Ao6, co6, eo6⟩ := Kd.R_slice HO433.out; subst eo6) | ((with_reducible refine gate_callee (f := 25) rfl ?_); refine goesL_ (some 5) rfl rfl Try.func25 (by kernel_rfl) rfl #[.slice Ao6 y431.length co6, .int .i64 4] rfl (by (try simp only [List.map_toArray, List.map_cons, List.map_nil]); first | done | rfl | (simp only [List.length_drop, List.length_take]; rfl)) ?_; (with_reducible refine (claw_Take.calls k _ _ y431 4 t434 t435 _ ?side1 ?side2 A1.out).mono ?_); (case side1 => repeat (first | exact (Kd.R_reads' HO433.out).2.2 | (with_reducible refine Kd.C_alloc ?_ _) | (with_reducible refine Kd.C_drewN ?_ _) | (with_reducible refine Kd.C_drew ?_))); (case side2 => exact (Kd.R_reads' HO433.out).2.1); rintro e w7 ⟨v436, rfl, ho0, hb⟩; refine ⟨_, rfl, ?_⟩; have n0_ := Aside0.mk (Kd.R_elder' (by (with_reducible repeat (first | apply Kd.R_alloc | apply Kd.R_drewN | apply Kd.R_drew)); exact HO433.out) (Kd.R_base ho0) hb); have n1_ := Aside0.mk (Kd.R_lower (Kd.R_new' ho0 (Kd.R_lt (by (with_reducible repeat (first | apply Kd.R_alloc | apply Kd.R_drewN | apply Kd.R_drew)); exact HO433.out))) (below_size (by repeat (first | (with_reducible first | exact HB.out | apply below_alloc | apply pw_below_drewN | apply below_drew1) | exact HB.out)))); have n2_ := Aside0.mk (below_step (by repeat (first | (with_reducible first | exact HB.out | apply below_alloc | apply pw_below_drewN | apply below_drew1) | exact HB.out)) hb); clear HO433; clear HB; have HO433 := n0_; have HO437 := n1_; have HB := n2_; clear n0_ n1_ n2_; (try clear hb); (try clear hb2); (try clear hk); (try clear hi); (try clear ho0)) | ((with_reducible refine gate_dst (N := 12) rfl ?_); (try (refine gate_guard (by rfl) ?_; dsimp only)); refine Kd.R_lit (Kd.int .i64) _ 2 ?hg (N := 12) ?hd (xs := ([1, 3] : List Int)) (inner := [.int .i64 1, .int .i64 3]) (ok := fun _ => True) (okp := fun _ => True) ?hr ?hp (fun _ hk => hk) trivial (Below.refl _ _) (Nat.le_refl _) (by simp) ?_; (case hd => rfl); (case hg => rfl); (case hr => first | (go_simp; done) | (go_simp; rfl)); (case hp => exact (Reps.one (show Kd.M (Kd.int .i64) _ _ _ 1 [.int .i64 1] from rfl) (Reps.one (show Kd.M (Kd.int .i64) _ _ _ 3 [.int .i64 3] from rfl) (Reps.none _ _)))); intro v439 w8 ho9 hb hg_ hnew_; clear hg_ hnew_; (first | rw [← Ny438.out] at ho9 | (simp only [Int.reduceToNat] at ho9; rw [← Ny438.out] at ho9)); have n0_ := Aside0.mk (Kd.R_elder' (by (with_reducible repeat (first | apply Kd.R_alloc | apply Kd.R_drewN | apply Kd.R_drew)); exact HO433.out) (Kd.R_base ho9) hb); have n1_ := Aside0.mk (Kd.R_elder' (by (with_reducible repeat (first | apply Kd.R_alloc | apply Kd.R_drewN | apply Kd.R_drew)); exact HO437.out) (Kd.R_base ho9) hb); have n2_ := Aside0.mk (Kd.R_lower (Kd.R_new' (Kd.R_new' ho9 (Kd.R_lt (by (with_reducible repeat (first | apply Kd.R_alloc | apply Kd.R_drewN | apply Kd.R_drew)); exact HO433.out))) (Kd.R_lt (by (with_reducible repeat (first | apply Kd.R_alloc | apply Kd.R_drewN | apply Kd.R_drew)); exact HO437.out))) (below_size (by repeat (first | (with_reducible first | exact HB.out | apply below_alloc | apply pw_below_drewN | apply below_drew1) | exact HB.out)))); have n3_ := Aside0.mk (below_step (by repeat (first | (with_reducible first | exact HB.out | apply below_alloc | apply pw_below_drewN | apply below_drew1) | exact HB.out)) hb); clear HO433; clear HO437; clear HB; have HO433 := n0_; have HO437 := n1_; have HO440 := n2_; have HB := n3_; clear n0_ n1_ n2_ n3_; clear hb ho9; obtain ⟨Ao10, co10, eo10⟩ := Kd.R_slice HO437.out; subst eo10; obtain ⟨Ao11, co11, eo11⟩ := Kd.R_slice HO440.out; subst eo11) | (go_at_call 22; (with_reducible refine (slices_Equal_int64_int64.calls k _ _ t434 _ _ y438 t441 _ ?side1 ?side2 ?side3 ?side4 A3.out).mono ?_); (case side1 => repeat (first | exact (Kd.R_reads' HO437.out).2.2 | (with_reducible refine Kd.C_alloc ?_ _) | (with_reducible refine Kd.C_drewN ?_ _) | (with_reducible refine Kd.C_drew ?_))); (case side2 => exact (Kd.R_reads' HO437.out).2.1); (case side3 => repeat (first | exact (Kd.R_reads' HO440.out).2.2 | (with_reducible refine Kd.C_alloc ?_ _) | (with_reducible refine Kd.C_drewN ?_ _) | (with_reducible refine Kd.C_drew ?_))); (case side4 => exact (Kd.R_reads' HO440.out).2.1); rintro e w' ⟨rfl, ⟨nd, rfl⟩⟩))
  go_ret
  exact ⟨by first | rfl | (simp [errW_none, errW_some] <;> rfl) | (simp [*, errW_none, errW_some] <;> rfl), by repeat (first | (with_reducible first | exact HB.out | apply below_alloc | apply pw_below_drewN | apply below_drew1) | exact HB.out)⟩
 ·rw [if_neg c2] at H
  have c2b0 : (t435 == 0) = false := beq_eq_false_iff_ne.mpr c2
  have c2b1 : (t435 != 0) = true := bne_iff_ne.mpr c2
  obtain rfl := Option.some.inj H
  go_enter Try.func23, Try.ntmps23
  go_wp2_with (first | ((with_reducible refine gate_dst (N := 4) rfl ?_); (try (refine gate_guard (by rfl) ?_; dsimp only)); refine Kd.R_lit (Kd.int .i64) _ 2 ?hg (N := 4) ?hd (xs := ([10, 30] : List Int)) (inner := [.int .i64 10, .int .i64 30]) (ok := fun _ => True) (okp := fun _ => True) ?hr ?hp (fun _ hk => hk) trivial (Below.refl _ _) (Nat.le_refl _) (by simp) ?_; (case hd => rfl); (case hg => rfl); (case hr => first | (go_simp; done) | (go_simp; rfl)); (case hp => exact (Reps.one (show Kd.M (Kd.int .i64) _ _ _ 10 [.int .i64 10] from rfl) (Reps.one (show Kd.M (Kd.int .i64) _ _ _ 30 [.int .i64 30] from rfl) (Reps.none _ _)))); intro v432 w12 ho13 hb hg_ hnew_; clear hg_ hnew_; (first | rw [← Ny431.out] at ho13 | (simp only [Int.reduceToNat] at ho13; rw [← Ny431.out] at ho13)); have n0_ := Aside0.mk (Kd.R_lower ho13 (below_size (by repeat (first | (with_reducible first | exact HB.out | apply below_alloc | apply pw_below_drewN | apply below_drew1) | exact HB.out)))); have n1_ := Aside0.mk (below_step (by repeat (first | (with_reducible first | exact HB.out | apply below_alloc | apply pw_below_drewN | apply below_drew1) | exact HB.out)) hb); clear HB; have HO433 := n0_; have HB := n1_; clear n0_ n1_; clear hb ho13; obtain ⟨Ao14, co14, eo14⟩ := Kd.R_slice HO433.out; subst eo14) | ((with_reducible refine gate_callee (f := 25) rfl ?_); refine goesL_ (some 5) rfl rfl Try.func25 (by kernel_rfl) rfl #[.slice Ao14 y431.length co14, .int .i64 4] rfl (by (try simp only [List.map_toArray, List.map_cons, List.map_nil]); first | done | rfl | (simp only [List.length_drop, List.length_take]; rfl)) ?_; (with_reducible refine (claw_Take.calls k _ _ y431 4 t434 t435 _ ?side1 ?side2 A1.out).mono ?_); (case side1 => repeat (first | exact (Kd.R_reads' HO433.out).2.2 | (with_reducible refine Kd.C_alloc ?_ _) | (with_reducible refine Kd.C_drewN ?_ _) | (with_reducible refine Kd.C_drew ?_))); (case side2 => exact (Kd.R_reads' HO433.out).2.1); rintro e w15 ⟨v436, rfl, ho0, hb⟩; refine ⟨_, rfl, ?_⟩; have n0_ := Aside0.mk (Kd.R_elder' (by (with_reducible repeat (first | apply Kd.R_alloc | apply Kd.R_drewN | apply Kd.R_drew)); exact HO433.out) (Kd.R_base ho0) hb); have n1_ := Aside0.mk (Kd.R_lower (Kd.R_new' ho0 (Kd.R_lt (by (with_reducible repeat (first | apply Kd.R_alloc | apply Kd.R_drewN | apply Kd.R_drew)); exact HO433.out))) (below_size (by repeat (first | (with_reducible first | exact HB.out | apply below_alloc | apply pw_below_drewN | apply below_drew1) | exact HB.out)))); have n2_ := Aside0.mk (below_step (by repeat (first | (with_reducible first | exact HB.out | apply below_alloc | apply pw_below_drewN | apply below_drew1) | exact HB.out)) hb); clear HO433; clear HB; have HO433 := n0_; have HO437 := n1_; have HB := n2_; clear n0_ n1_ n2_; (try clear hb); (try clear hb2); (try clear hk); (try clear hi); (try clear ho0)))
  go_ret
  exact ⟨by first | rfl | (simp [errW_none, errW_some] <;> rfl) | (simp [*, errW_none, errW_some] <;> rfl), by repeat (first | (with_reducible first | exact HB.out | apply below_alloc | apply pw_below_drewN | apply below_drew1) | exact HB.out)⟩
end Go.Proofs.Ytncnhhnbjmpomaa.Q
namespace Go.Proofs.Mm
open Go.RowKit Go.MapKept
set_option linter.unusedSimpArgs false
set_option linter.unusedVariables false
set_option linter.unusedSectionVars false
instance decBytes : DecidableEq ByteArray := fun a b => if h : a.data = b.data then isTrue (by cases a; cases b; simp_all) else isFalse (fun e => h (by rw [e]))
instance memBytes (a : ByteArray) : (l : List ByteArray) → Decidable (a ∈ l)
  | [] => isFalse (by simp)
  | b :: l => if h : a = b then isTrue (by simp [h]) else match memBytes a l with
    | isTrue h2 => isTrue (by simp [h2])
    | isFalse h2 => isFalse (by simp [h, h2])
section
variable {α : Type} [DecidableEq α] {P : Program} {kt : TypeId} {ek : α → Value}
def put (a : α) (v : Value) (c : Nat) : List (α × Value × Nat) → List (α × Value × Nat)
  | [] => [(a, v, c)]
  | x :: l => if x.1 = a then (a, v, x.2.2) :: l else x :: put a v c l
end
end Go.Proofs.Mm
namespace Go.Proofs.Ytncnhhnbjmpomaa.Q
open Go.RowKit Go.Proofs.YtncnhhnbjmpomaaW.PrintWords Go.Proofs.YtncnhhnbjmpomaaW.PrintLast Go.Proofs.YtncnhhnbjmpomaaW.PrintMore
set_option linter.unusedVariables false
set_option linter.unusedSimpArgs false
def upB (neg : Bool) (m : Int) (q r c : Nat) : Bool :=
  !decide (r = 0) && ((decide (m = 0) && neg) || (decide (m = 1) && !neg) || (decide (m = 2) && (decide (c < 2 * r) || (!decide (2 * r < c) && decide (q % 2 = 1)))))
def negB (a b : Int) : Bool := decide (a < 0) != decide (b < 0)
def mdV (a b : Int) (c : Nat) (m : Int) : Nat := a.natAbs * b.natAbs / c + bv (upB (negB a b) m (a.natAbs * b.natAbs / c) (a.natAbs * b.natAbs % c) c)
def mdF (a b : Int) (c : Nat) (m : Int) : Int × Bool := valF (mdV a b c m) (negB a b)
end Go.Proofs.Ytncnhhnbjmpomaa.Q
namespace Go.Proofs.Ytncnhhnbjmpomaa.Q
open Go.RowKit Go.Proofs.YtncnhhnbjmpomaaW.PrintWords Go.Proofs.Ytncnhhnbjmpomaa
set_option linter.unusedVariables false
set_option linter.unusedSimpArgs false
theorem rdI (l : List Int) (i : Nat) (h : i < l.length) : rd l (i : Int) = l[i] := by simp [rd, List.getD_eq_getElem?_getD, h]
def hv (hold n : Int) : Int := (mdF n hold 10000 0).1
end Go.Proofs.Ytncnhhnbjmpomaa.Q
namespace Go.Proofs.Ytncnhhnbjmpomaa.Q
open Go.RowKit Go.Proofs.YtncnhhnbjmpomaaW.PrintWords Go.Proofs.Ytncnhhnbjmpomaa Go.Sort
set_option linter.unusedVariables false
set_option linter.unusedSimpArgs false
theorem parts_facts (t : Int) (ws : List Int) (ht : 0 ≤ t) (hw : ∀ x ∈ ws, 0 ≤ x) (ha : 0 < ws.sum) : (∀ x ∈ partsF t ws, 0 ≤ x) ∧ (partsF t ws).sum = t ∧ (partsF t ws).length = ws.length := by
  have hlb := left_bd t ws ht hw ha
  have hm := mem_le_sum ws hw
  have hq0 : ∀ x ∈ quosF t ws.sum ws, 0 ≤ x := by
    intro x hx
    obtain ⟨y, hy, rfl⟩ := List.mem_map.1 hx
    exact (quo_bd ht (hw y hy) (hm y hy) ha).1
  have hp := srt_perm (restsF t ws.sum 0 ws).toArray
  have hl : (srt (restsF t ws.sum 0 ws).toArray).toList.length = ws.length := by rw [hp.1.length_eq]; simp [restsF_len]
  have hb := bump_facts ((srt (restsF t ws.sum 0 ws).toArray).toList.take (leftF t ws.sum ws).toNat) (quosF t ws.sum ws) hq0 (fun r hr => by
    have h := rests_idx t ws.sum ws 0 r (hp.1.mem_iff.1 (List.mem_of_mem_take hr))
    rw [quosF_len]; omega)
  refine ⟨hb.1, ?_, ?_⟩
  · show (bump _ _).sum = t
    rw [hb.2, List.length_take, hl, Nat.min_eq_left hlb.2]
    have : leftF t ws.sum ws = t - (quosF t ws.sum ws).sum := rfl
    omega
  · show (bump _ _).length = _
    rw [bump_len, quosF_len]
theorem sum_le_mul : ∀ (l : List Int) (m : Int), (∀ x ∈ l, x ≤ m) → l.sum ≤ l.length * m
  | [], m, _ => by simp
  | x :: l, m, h => by
    have h1 := sum_le_mul l m (fun y hy => h y (by simp [hy]))
    have h2 := h x (by simp)
    simp only [List.sum_cons, List.length_cons, Int.natCast_add, Int.natCast_one, Int.add_mul, Int.one_mul]
    omega
theorem inRb_of {x : Int} (h : inR x) : inRb x = true := (inRb_iff x).2 h
end Go.Proofs.Ytncnhhnbjmpomaa.Q
namespace Go.Proofs.Ytncnhhnbjmpomaa.Q
open Go.RowKit Go.Proofs.YtncnhhnbjmpomaaW.PrintWords Go.Proofs.Ytncnhhnbjmpomaa Go.Sort
set_option linter.unusedVariables false
set_option linter.unusedSimpArgs false
def takeF (xs : List Int) (a : Int) : List Int × Int :=
  if a ≤ 0 then ([], 1) else if xs.any (fun n => decide (n < 0)) = true then ([], 1) else if ¬ xs.sum ≤ 9223372036854775807 then ([], 2) else if xs.sum < a then ([], 10) else (partsF a xs, 0)
theorem take_ok (xs : List Int) (a : Int) (hx : ∀ x ∈ xs, inR x) (ha : inR a) (hl : xs.length < 20) : EvT (fun k => claw_Take.f k xs a) (takeF xs a) := by
  unfold takeF claw_Take.f
  by_cases h1 : a ≤ 0
  · rw [if_pos h1]
    exact EvT.congr (fun k => if_pos h1) (EvT.done fun k => by simp only [claw_Take.j0]; rw [if_pos trivial])
  rw [if_neg h1]
  refine EvT.congr (fun k => if_neg h1) ?_
  have hc : slices_ContainsFunc_int64_int64.f xs 54 = some (xs.any fun n => decide (n < 0)) := by
    unfold slices_ContainsFunc_int64_int64.f; rw [if_pos ⟨.inr (.inl rfl), by omega⟩]
  rw [hc]
  simp only [Option.bind_some]
  by_cases h2 : (xs.any fun n => decide (n < 0)) = true
  · rw [if_pos h2, h2]
    exact EvT.done fun k => by simp only [claw_Take.j0]; rw [if_pos trivial]
  rw [if_neg h2, eq_false_of_ne_true h2]
  have hnn := any_false xs (eq_false_of_ne_true h2)
  have had := addF_nn xs 0 (Int.le_refl _) hnn (by decide)
  rw [Int.zero_add] at had
  have hadd : EvT (fun k => money_Add.f k xs) (addF 0 xs) := EvT.of_add (add_ok xs hx (by omega))
  refine EvT.step (g := fun k => (money_Add.f k xs).bind fun bt425 => if bt425.2 = 0 then (if a > bt425.1 then some (([] : List Int), (10 : Int)) else (money_Split.f a xs).bind fun bt427 => some (bt427.1, bt427.2)) else some (([] : List Int), bt425.2)) (fun k => by simp only [claw_Take.j0]; rw [if_neg (by decide)]) ?_
  refine EvT.bind (F := fun k (bt425 : Int × Int) => if bt425.2 = 0 then (if a > bt425.1 then some (([] : List Int), (10 : Int)) else (money_Split.f a xs).bind fun bt427 => some (bt427.1, bt427.2)) else some (([] : List Int), bt425.2)) hadd ?_
  by_cases h3 : xs.sum ≤ 9223372036854775807
  · rw [if_pos h3] at had
    rw [if_neg (show ¬ ¬ xs.sum ≤ 9223372036854775807 from fun h => h h3), had]
    by_cases h4 : xs.sum < a
    · rw [if_pos h4]
      exact EvT.congr (fun k => by simp [h4]) (EvT.const _)
    · rw [if_neg h4]
      have hs : money_Split.f a xs = some (partsF a xs, 0) := by
        unfold money_Split.f
        rw [if_pos ⟨hl, List.all_eq_true.2 fun x h => inRb_of (hx x h), inRb_of ha⟩]
        unfold splitF
        rw [if_neg (by omega), if_neg h2, if_neg (by omega), if_neg (by omega)]
      exact EvT.congr (fun k => by simp [h4, hs]) (EvT.const _)
  · rw [if_neg h3] at had
    rw [if_pos h3, had]
    exact EvT.congr (fun k => if_neg (show ¬ (2 : Int) = 0 by decide)) (EvT.const _)
theorem cless_from (ys l : List Int) (hl : l.length ≤ ys.length) (hlen : ys.length ≤ 1000) (hr : ∀ i (h : i < l.length), inR (ys[i]'(by omega) - l[i])) : ∀ (d i : Nat), l.length - i = d → i ≤ l.length →
    EvT (fun k => claw_less.l0 k ((List.zipWith (· - ·) ys l).take i ++ ys.drop i) l (l.length : Int) i) (List.zipWith (· - ·) ys l ++ ys.drop l.length)
  | 0, i, hd, hi => by
    obtain rfl : i = l.length := by omega
    rw [List.take_of_length_le (by simp; omega)]
    exact EvT.done fun k => by simp only [claw_less.l0]; rw [if_neg (by omega)]
  | d + 1, i, hd, hi => by
    have hlt : i < l.length := by omega
    have hly : i < ys.length := by omega
    have ih := cless_from ys l hl hlen hr d (i + 1) (by omega) (by omega)
    have hz : i < (List.zipWith (· - ·) ys l).length := by simp; omega
    have hzl : ((List.zipWith (· - ·) ys l).take i).length = i := by rw [List.length_take]; omega
    have e : ((List.zipWith (· - ·) ys l).take i ++ ys.drop i)[i]'(by simp; omega) = ys[i] := by
      rw [List.getElem_append_right (by omega)]
      simp [hzl]
    refine EvT.step (fun k => ?_) ih
    simp only [claw_less.l0]
    rw [if_pos (by omega), if_pos (by omega), if_pos (by omega), if_pos (by simp; omega), rdI _ _ hlt, rdI _ i (by simp; omega), e, nx i (by omega), w64i (hr i hlt).1 (hr i hlt).2, Int.toNat_natCast]
    congr 1
    rw [List.take_succ_eq_append_getElem hz, List.getElem_zipWith, List.set_append, if_neg (by omega), hzl, Nat.sub_self, List.append_assoc]
    rw [List.drop_eq_getElem_cons hly]; rfl
theorem cless_ok (ys l : List Int) (hl : l.length = ys.length) (hlen : ys.length ≤ 1000) (hr : ∀ i (h : i < l.length), inR (ys[i]'(by omega) - l[i])) : EvT (fun k => claw_less.f k ys l) (List.zipWith (· - ·) ys l) := by
  have h := cless_from ys l (by omega) hlen hr l.length 0 (by omega) (by omega)
  rw [hl, List.drop_length, List.append_nil, ← hl] at h
  unfold claw_less.f
  have hc : slices_Clone_int64_int64.f ys = some ys := by unfold slices_Clone_int64_int64.f; rw [if_pos (by omega)]
  rw [hc]
  exact h
theorem sum_pre (M : Int) (hM : 0 ≤ M) : ∀ (l : List S98), (∀ r ∈ l, 0 ≤ r.f1 ∧ r.f1 ≤ M) → 0 ≤ (l.map fun r => r.f1).sum ∧ (l.map fun r => r.f1).sum ≤ l.length * M
  | [], _ => by simp
  | r :: l, h => by
    have h1 := sum_pre M hM l (fun q hq => h q (by simp [hq]))
    have h2 := h r (by simp)
    simp only [List.map_cons, List.sum_cons, List.length_cons, Int.natCast_add, Int.natCast_one, Int.add_mul, Int.one_mul]
    omega
theorem sum_zero : ∀ (l : List S98), (∀ r ∈ l, r.f1 = 0) → (l.map fun r => r.f1).sum = 0
  | [], _ => rfl
  | r :: l, h => by
    simp only [List.map_cons, List.sum_cons, h r (by simp), sum_zero l (fun q hq => h q (by simp [hq]))]; rfl
theorem perm_sum : ∀ {l m : List Int}, l.Perm m → l.sum = m.sum := by
  intro l m h
  induction h with
  | nil => rfl
  | cons x _ ih => simp [ih]
  | swap x y l => simp; omega
  | trans _ _ h1 h2 => exact h1.trans h2
theorem rests_rng (t all : Int) (ha : 0 < all) : ∀ (l : List Int) (i : Nat), ∀ r ∈ restsF t all i l, 0 ≤ r.f1 ∧ r.f1 ≤ all - 1
  | [], _, _, h => by cases h
  | w :: l, i, r, h => by
    rcases List.mem_cons.1 h with rfl | h
    · have h1 := Int.emod_nonneg (t * w) (b := all) (by omega)
      have h2 := Int.emod_lt_of_pos (t * w) ha
      show 0 ≤ t * w % all ∧ t * w % all ≤ all - 1
      omega
    · exact rests_rng t all ha l (i + 1) r h
theorem picks_pos (t : Int) (ws : List Int) (ht : 0 ≤ t) (hw : ∀ x ∈ ws, 0 ≤ x) (ha : 0 < ws.sum) : ∀ r ∈ (ordF t ws).take (leftF t ws.sum ws).toNat, 0 < r.f1 := by
  have hlb := left_bd t ws ht hw ha
  have hp := ord_perm t ws
  have hs := ord_sorted t ws
  have hl := ord_len t ws
  have hrng : ∀ r ∈ ordF t ws, 0 ≤ r.f1 ∧ r.f1 ≤ ws.sum - 1 := fun r hr => rests_rng t ws.sum ha ws 0 r (hp.mem_iff.1 hr)
  have hsum : ((ordF t ws).map fun r => r.f1).sum = ws.sum * leftF t ws.sum ws := by
    rw [perm_sum (hp.map _)]
    have := quos_sum t ws.sum ha ws
    show _ = ws.sum * (t - (quosF t ws.sum ws).sum)
    rw [Int.mul_sub, Int.mul_comm ws.sum t]
    omega
  intro r hr
  obtain ⟨j, hj, rfl⟩ := List.getElem_of_mem hr
  have hj2 : j < (leftF t ws.sum ws).toNat := by rw [List.length_take] at hj; omega
  have hj3 : j < (ordF t ws).length := by rw [List.length_take] at hj; omega
  rw [List.getElem_take]
  apply Classical.byContradiction
  intro h0
  have hz : (ordF t ws)[j].f1 = 0 := by have := (hrng _ (List.getElem_mem hj3)).1; omega
  have hrest : ∀ q ∈ (ordF t ws).drop j, q.f1 = 0 := by
    intro q hq
    obtain ⟨m, hm, rfl⟩ := List.getElem_of_mem hq
    rw [List.getElem_drop]
    have hmr := hrng _ (List.getElem_mem (l := ordF t ws) (n := j + m) (by rw [List.length_drop] at hm; omega))
    by_cases e : m = 0
    · subst e; exact hz
    · have hpw := List.pairwise_iff_getElem.1 hs j (j + m) hj3 (by rw [List.length_drop] at hm; omega) (by omega)
      omega
  have e1 : ((ordF t ws).map fun r => r.f1).sum = (((ordF t ws).take j).map fun r => r.f1).sum := by
    have := List.take_append_drop j (ordF t ws)
    rw [← this, List.map_append, List.sum_append, sum_zero _ hrest]
    simp
  have e2 := (sum_pre (ws.sum - 1) (by omega) ((ordF t ws).take j) (fun q hq => hrng q (List.mem_of_mem_take hq))).2
  rw [List.length_take, Nat.min_eq_left (by omega)] at e2
  have e3 : ws.sum * ((j : Int) + 1) ≤ ws.sum * leftF t ws.sum ws := Int.mul_le_mul_of_nonneg_left (by omega) (by omega)
  have e4 : ws.sum * ((j : Int) + 1) = (j : Int) * (ws.sum - 1) + j + ws.sum := by rw [Int.mul_add, Int.mul_sub, Int.mul_comm ws.sum]; omega
  omega
theorem rests_nodup (t all : Int) : ∀ (l : List Int) (i : Nat), ((restsF t all i l).map fun r => r.f0).Nodup
  | [], _ => by simp [restsF]
  | w :: l, i => by
    simp only [restsF, List.map_cons, List.nodup_cons]
    refine ⟨fun h => ?_, rests_nodup t all l (i + 1)⟩
    obtain ⟨r, hr, he⟩ := List.mem_map.1 h
    have := rests_idx t all l (i + 1) r hr
    omega
theorem bump_get : ∀ (rs : List S98) (qs : List Int) (i : Nat), i < qs.length → (∀ r ∈ rs, 0 ≤ r.f0) → (rs.map fun r => r.f0).Nodup → (bump qs rs).getD i 0 = qs.getD i 0 + if (i : Int) ∈ rs.map (fun r => r.f0) then 1 else 0
  | [], qs, i, _, _, _ => by simp [bump]
  | r :: l, qs, i, hi, h0, hn => by
    simp only [List.map_cons, List.nodup_cons] at hn
    have hr := h0 r (by simp)
    have ih := bump_get l (qs.set r.f0.toNat (qs.getD r.f0.toNat 0 + 1)) i (by simpa using hi) (fun q hq => h0 q (by simp [hq])) hn.2
    show (bump _ l).getD i 0 = _
    rw [ih]
    by_cases e : r.f0 = (i : Int)
    · have e2 : r.f0.toNat = i := by omega
      have hnm : ¬ (i : Int) ∈ l.map (fun r => r.f0) := by rw [← e]; exact hn.1
      rw [if_neg hnm, e2, if_pos (by rw [List.map_cons]; exact List.mem_cons.2 (.inl e.symm))]
      simp [List.getD_eq_getElem?_getD, hi]
    · have e2 : ¬ r.f0.toNat = i := by omega
      have hq : (qs.set r.f0.toNat (qs.getD r.f0.toNat 0 + 1)).getD i 0 = qs.getD i 0 := by
        simp [List.getD_eq_getElem?_getD, List.getElem?_set, e2]
      rw [hq]
      congr 1
      by_cases hm : (i : Int) ∈ l.map (fun r => r.f0)
      · rw [if_pos hm, if_pos (by rw [List.map_cons]; exact List.mem_cons.2 (.inr hm))]
      · rw [if_neg hm, if_neg]
        rw [List.map_cons, List.mem_cons]
        rintro (h | h)
        · exact e h.symm
        · exact hm h
theorem parts_le (t : Int) (ws : List Int) (ht : 0 ≤ t) (hw : ∀ x ∈ ws, 0 ≤ x) (ha : 0 < ws.sum) (hta : t ≤ ws.sum) (i : Nat) (hi : i < ws.length) : (partsF t ws).getD i 0 ≤ ws[i] := by
  have hp := ord_perm t ws
  have hnd : ((ordF t ws).map fun r => r.f0).Nodup := (hp.map _).nodup_iff.2 (rests_nodup t ws.sum ws 0)
  have h0 : ∀ r ∈ ordF t ws, 0 ≤ r.f0 := fun r hr => by
    have := rests_idx t ws.sum ws 0 r (hp.mem_iff.1 hr); omega
  have hpos := picks_pos t ws ht hw ha
  have hwi := hw ws[i] (List.getElem_mem _)
  have hq : (quosF t ws.sum ws).getD i 0 = t * ws[i] / ws.sum := by
    rw [List.getD_eq_getElem?_getD, List.getElem?_eq_getElem (by rw [quosF_len]; exact hi)]; simp [quosF]
  have hle : t * ws[i] ≤ ws.sum * ws[i] := Int.mul_le_mul_of_nonneg_right hta hwi
  have hdm := Int.mul_ediv_add_emod (t * ws[i]) ws.sum
  have hm0 := Int.emod_nonneg (t * ws[i]) (b := ws.sum) (by omega)
  show (bump (quosF t ws.sum ws) ((ordF t ws).take (leftF t ws.sum ws).toNat)).getD i 0 ≤ _
  generalize hrs : (ordF t ws).take (leftF t ws.sum ws).toNat = rs at *
  have hsub : ∀ r ∈ rs, r ∈ ordF t ws := fun r hr => by rw [← hrs] at hr; exact List.mem_of_mem_take hr
  rw [bump_get rs _ i (by rw [quosF_len]; exact hi) (fun r hr => h0 r (hsub r hr)) (by rw [← hrs, List.map_take]; exact hnd.sublist (List.take_sublist _ _)), hq]
  generalize hQ : t * ws[i] / ws.sum = Q at *
  generalize hM : t * ws[i] % ws.sum = M at *
  split
  · rename_i hm
    obtain ⟨r, hr, he⟩ := List.mem_map.1 hm
    have hr1 := hpos r hr
    obtain ⟨m, hml, rfl⟩ := ord_mem t ws r (hsub r hr)
    have e : m = i := by have h2 : (m : Int) = i := he; omega
    subst e
    have hrv : rvF t ws m = M := by unfold rvF; rw [List.getD_eq_getElem?_getD, List.getElem?_eq_getElem hml, ← hM]; rfl
    have hr2 : 0 < rvF t ws m := hr1
    rw [hrv] at hr2
    apply Classical.byContradiction
    intro hc
    have : ws.sum * ws[m] ≤ ws.sum * Q := Int.mul_le_mul_of_nonneg_left (by omega) (by omega)
    omega
  · rw [Int.add_zero]
    apply Classical.byContradiction
    intro hc
    have : ws.sum * (ws[i] + 1) ≤ ws.sum * Q := Int.mul_le_mul_of_nonneg_left (by omega) (by omega)
    rw [Int.mul_add] at this
    omega
end Go.Proofs.Ytncnhhnbjmpomaa.Q
namespace Go.Proofs.Ytncnhhnbjmpomaa.Q
open Go.RowKit Go.Proofs.YtncnhhnbjmpomaaW.PrintWords Go.Proofs.Ytncnhhnbjmpomaa Go.Sort
set_option linter.unusedVariables false
set_option linter.unusedSimpArgs false
def afterF (ys : List Int) (n : Int) : List Int := List.zipWith (· - ·) ys (partsF n ys)
theorem zip_sum : ∀ (a b : List Int), a.length = b.length → (List.zipWith (· - ·) a b).sum = a.sum - b.sum
  | [], [], _ => rfl
  | x :: a, y :: b, h => by
    simp only [List.zipWith_cons_cons, List.sum_cons, zip_sum a b (by simpa using h)]; omega
def Small (ys : List Int) : Prop := ys.length ≤ 10 ∧ ∀ y ∈ ys, 0 ≤ y ∧ y ≤ 65535
theorem Small.sum {ys : List Int} (h : Small ys) : 0 ≤ ys.sum ∧ ys.sum ≤ 655350 := by
  have h1 := sum_le_mul ys 65535 (fun x hx => (h.2 x hx).2)
  have h2 := sum_nn ys (fun x hx => (h.2 x hx).1)
  have := h.1
  refine ⟨h2, Int.le_trans h1 ?_⟩
  have : (ys.length : Int) * 65535 ≤ 10 * 65535 := Int.mul_le_mul_of_nonneg_right (by omega) (by decide)
  omega
theorem after_facts (ys : List Int) (n : Int) (hs : Small ys) (h0 : 0 < n) (h1 : n ≤ ys.sum) : Small (afterF ys n) ∧ (afterF ys n).sum = ys.sum - n ∧ (∀ i (h : i < (partsF n ys).length) (h' : i < ys.length), inR (ys[i] - (partsF n ys)[i])) ∧ (partsF n ys).length = ys.length := by
  have hw := fun x hx => (hs.2 x hx).1
  obtain ⟨p1, p2, p3⟩ := parts_facts n ys (by omega) hw (by omega)
  have hle := fun i hi => parts_le n ys (by omega) hw (by omega) h1 i hi
  have hge : ∀ i (h : i < (partsF n ys).length) (h' : i < ys.length), 0 ≤ ys[i] - (partsF n ys)[i] ∧ ys[i] - (partsF n ys)[i] ≤ 65535 := by
    intro i h h'
    have a := hle i h'
    rw [List.getD_eq_getElem?_getD, List.getElem?_eq_getElem h] at a
    have a : (partsF n ys)[i] ≤ ys[i] := a
    have b := p1 _ (List.getElem_mem h)
    have c := hs.2 _ (List.getElem_mem h')
    omega
  refine ⟨⟨by simp [afterF, p3, hs.1], fun y hy => ?_⟩, by unfold afterF; rw [zip_sum _ _ p3.symm, p2], fun i h h' => by have := hge i h h'; unfold inR; omega, p3⟩
  obtain ⟨i, hi, rfl⟩ := List.getElem_of_mem hy
  have hi2 : i < ys.length := by simp [afterF] at hi; omega
  simp only [afterF, List.getElem_zipWith]
  exact hge i (by omega) hi2
theorem take_yes (ys : List Int) (n : Int) (hs : Small ys) (h0 : 0 < n) (h1 : n ≤ ys.sum) : ∃ k, claw_Take.f k ys n = some (partsF n ys, 0) ∧ claw_less.f k ys (partsF n ys) = some (afterF ys n) := by
  have hsum := hs.sum
  obtain ⟨a1, a2, a3, a4⟩ := after_facts ys n hs h0 h1
  obtain ⟨m1, g1⟩ := take_ok ys n (fun x hx => by have := hs.2 x hx; unfold inR; omega) (by unfold inR; omega) (by have := hs.1; omega)
  obtain ⟨m2, g2⟩ := cless_ok ys (partsF n ys) a4 (by have := hs.1; omega) (fun i h => a3 i h (by omega))
  have e : takeF ys n = (partsF n ys, 0) := by
    unfold takeF
    have hany : (ys.any fun n => decide (n < 0)) = false := by
      rw [List.any_eq_false]; intro x hx; have := (hs.2 x hx).1; simp; omega
    rw [if_neg (by omega), hany, if_neg (by decide), if_neg (by omega), if_neg (by omega)]
  exact ⟨m1 + m2, (g1 (m1 + m2) (by omega)).trans (by rw [e]), g2 (m1 + m2) (by omega)⟩
theorem take_more (ys : List Int) (n : Int) (hs : Small ys) (h1 : ys.sum < n) (hn : n ≤ 1000000) : ∃ k, claw_Take.f k ys n = some ([], 10) := by
  have hsum := hs.sum
  obtain ⟨m1, g1⟩ := take_ok ys n (fun x hx => by have := hs.2 x hx; unfold inR; omega) (by unfold inR; omega) (by have := hs.1; omega)
  have e : takeF ys n = ([], 10) := by
    unfold takeF
    have hany : (ys.any fun n => decide (n < 0)) = false := by
      rw [List.any_eq_false]; intro x hx; have := (hs.2 x hx).1; simp; omega
    rw [if_neg (by omega), hany, if_neg (by decide), if_neg (by omega), if_pos h1]
  exact ⟨m1, (g1 m1 (by omega)).trans (by rw [e])⟩
theorem all_zero (ys : List Int) (hs : ∀ y ∈ ys, 0 ≤ y) (h : ys.sum = 0) : ys.any (fun n => n != 0) = false := by
  rw [List.any_eq_false]
  intro x hx
  have h1 := mem_le_sum ys hs x hx
  have h2 := hs x hx
  have : x = 0 := by omega
  simp [this]
theorem srt_claw : srt #[⟨0, 0⟩, ⟨1, 0⟩] = #[⟨0, 0⟩, ⟨1, 0⟩] := by
  show insOuter (ltOf cf98) 0 2 1 _ = _
  rw [insOuter_go _ _ _ _ _ (by decide)]
  have h1 : insInner (ltOf cf98) 0 1 #[(⟨0, 0⟩ : S98), ⟨1, 0⟩] = #[⟨0, 0⟩, ⟨1, 0⟩] := by rfl
  rw [h1, insOuter_stop _ _ _ _ _ (by decide)]
theorem parts_claw : partsF 4 [10, 30] = [1, 3] := by
  unfold partsF
  have h1 : (restsF 4 [10, 30].sum 0 [10, 30]).toArray = #[⟨0, 0⟩, ⟨1, 0⟩] := by rfl
  rw [h1, srt_claw]; rfl
theorem lives13_ok : EvT (fun k => souklaw13_lives.f k) true := by
  have h := take_ok [10, 30] 4 (by intro x hx; simp at hx; unfold inR; rcases hx with rfl | rfl <;> omega) ⟨by decide, by decide⟩ (by decide)
  have e : takeF [10, 30] 4 = ([1, 3], 0) := by
    unfold takeF
    rw [if_neg (by decide), if_neg (by decide), if_neg (by decide), if_neg (by decide), parts_claw]
  rw [e] at h
  have hq : EvT (fun k => slices_Equal_int64_int64.f k [1, 3] [1, 3]) true := by
    have := EvT.of_add (f := fun k => slices_Equal_int64_int64.f k [1, 3] [1, 3]) (eq_ok [1, 3] [1, 3] (by decide))
    simpa using this
  unfold souklaw13_lives.f
  refine EvT.bind (F := fun k (bt434 : List Int × Int) => if bt434.2 = 0 then (slices_Equal_int64_int64.f k bt434.1 ([1, 3] : List Int)).bind fun t441 => some t441 else some false) h ?_
  refine EvT.congr (fun k => if_pos rfl) (EvT.bind (F := fun k t => some t) hq (EvT.const _))
end Go.Proofs.Ytncnhhnbjmpomaa.Q
namespace Go.Proofs.Ytncnhhnbjmpomaa
open Go.RowKit Go.Proofs.Ytncnhhnbjmpomaa.Q Go.Proofs.Kq
open Go.Proofs.YtncnhhnbjmpomaaW.PrintWords (pw_cell_below step_append_cells print_append_cells Kd Kd.C Kd.C_below Drawn0 encs encs_length encs_append)
set_option linter.unusedVariables false
set_option linter.unusedSimpArgs false
abbrev IR (w : World) (base : Nat) (v : Value) (xs : List Int) : Prop := Kd.R (Kd.int .i64) 2 w base (fun _ => True) v xs
theorem IR_nil (w : World) (base : Nat) : IR w base (.slice none 0 0) [] := Kd.R_of_own (show w.ownsRow base 2 1 (.slice none 0 0) 0 (encs (Value.int .i64) []) from ⟨rfl, .inl ⟨rfl, rfl⟩⟩) (fun _ _ => trivial)
def SaleAt (w : World) (base b : Nat) (xs : List Int) : Prop := ∃ v, Blk w b #[v] 48 ∧ IR w base v xs
def RefP (w : World) (base b : Nat) (xs l ys : List Int) (c : Int) (e : Ending) (w' : World) : Prop :=
  ∃ v, e = .returned (.tuple #[v, .int .i64 c]) ∧ IR w' w.heap.size v l ∧ (if c = 0 then SaleAt w' w.heap.size b ys else SaleAt w' base b xs) ∧ Fr (fun k => k = b) w w'
set_option maxHeartbeats 1000000 in
theorem refund_ok (k : Nat) (b : Nat) (base : Nat) (xs l ys : List Int) (a : Int) (w : World) (hS : SaleAt w base b xs)
    (ht : claw_Take.f k xs a = some (l, 0)) (hy : claw_less.f k xs l = some ys) :
    Calls Try.prog 27 #[.pointer (some ⟨b, 0, none⟩), .int .i64 a] w (RefP w base b xs l ys 0) := by
  obtain ⟨v, hB, hR⟩ := hS
  obtain ⟨A, c, rfl, hc, hC⟩ := Kd.R_reads hR
  have H1 := hidI (claw_Take.calls k A c xs a l 0)
  have H2 := hidI (claw_less.calls k A c xs)
  have c0 := hB.c 0
  have f0 := hB.f 0
  have HB := hidI hB
  have HC := hidI hC
  have HR := hidI hR
  have HT := hidI ht
  have HY := hidI hy
  clear hB hC hR ht hy
  go_enter Try.func27, Try.ntmps27
  go_wp2_with fail
  refine (H1.out w HC.out hc HT.out).mono ?_
  rintro e w1 ⟨v1, rfl, hR1, hb1⟩
  simp only []
  obtain ⟨A1, c1, rfl, hc1, hC1⟩ := Kd.R_reads hR1
  have HB1 := hidI (HB.out.be hb1)
  have d0 := HB1.out.c 0
  have g0 := HB1.out.f 0
  have HR1 := hidI hR1
  have HC1 := hidI hC1
  have Hb1 := hidI hb1
  have H3 := hidI (H2.out A1 c1 l ys w1 (Kd.C_below HC.out hb1) hc hC1 hc1 HY.out)
  have Hc1 := hidI hc1
  clear c0 f0 hR1 hC1 hb1 H1 H2 HT HC hc1
  go_wp2_with fail
  refine H3.out.mono ?_
  rintro e w2 ⟨v2, rfl, hR2, hb2⟩
  simp only []
  have HB2 := hidI (HB1.out.be hb2)
  have e0 := HB2.out.c 0
  have k0 := HB2.out.f 0
  obtain ⟨A2, c2, rfl⟩ := Kd.R_slice hR2
  have hfin : Hid (RefP w base b xs l ys 0 (.returned (.tuple #[.slice A1 l.length c1, .int .i64 0])) (w2.setCell ⟨b, 0, none⟩ (.slice A2 ys.length c2))) := by
    have hlt := HB.out.lt
    have hl1 := HB1.out.lt
    refine ⟨_, rfl, ?_, ?_, ?_⟩
    · exact Kd.R_set (Kd.R_below HR1.out hb2) HB2.out (by decide) 0 _
    · rw [if_pos rfl]
      refine ⟨.slice A2 ys.length c2, HB2.out.st 0 _, ?_⟩
      exact Kd.R_set (Kd.R_lower hR2 Hb1.out.size) HB2.out (by decide) 0 _
    · exact ((Fr.of_below (S := fun k => k = b) Hb1.out).below hb2).setCell (p := ⟨b, 0, none⟩) (fun _ => rfl) _
  clear d0 g0 hR2 hb2 H3 HR1 HB2 HB1 Hb1
  go_wp2
  go_ret2
  exact hfin.out
set_option maxHeartbeats 1000000 in
theorem refund_no (k : Nat) (b : Nat) (base : Nat) (xs l ys : List Int) (a ce : Int) (hce : ¬ ce = 0) (w : World) (hS : SaleAt w base b xs)
    (ht : claw_Take.f k xs a = some (l, ce)) (hl : l = []) :
    Calls Try.prog 27 #[.pointer (some ⟨b, 0, none⟩), .int .i64 a] w (RefP w base b xs [] ys ce) := by
  obtain ⟨v, hB, hR⟩ := hS
  obtain ⟨A, c, rfl, hc, hC⟩ := Kd.R_reads hR
  have H1 := hidI (claw_Take.calls k A c xs a l ce)
  have c0 := hB.c 0
  have f0 := hB.f 0
  have HB := hidI hB
  have HC := hidI hC
  have HR := hidI hR
  have HT := hidI ht
  have hne : (ce == 0) = false := beq_eq_false_iff_ne.2 hce
  have HCE := hidI hce
  clear hB hC hR ht hce
  go_enter Try.func27, Try.ntmps27
  go_wp2_with fail
  refine (H1.out w HC.out hc HT.out).mono ?_
  rintro e w1 ⟨v1, rfl, hR1, hb1⟩
  simp only []
  have hfin : Hid (RefP w base b xs [] ys ce (.returned (.tuple #[.slice none 0 0, .int .i64 ce])) w1) := by
    refine ⟨_, rfl, IR_nil _ _, ?_, Fr.of_below hb1⟩
    rw [if_neg HCE.out]
    exact ⟨_, HB.out.be hb1, Kd.R_below HR.out hb1⟩
  clear hR1 hb1 H1
  go_wp2
  go_ret2
  exact hfin.out
end Go.Proofs.Ytncnhhnbjmpomaa
namespace Go.Proofs.Ytncnhhnbjmpomaa.Q
open Go.RowKit Go.Proofs.YtncnhhnbjmpomaaW.PrintWords Go.Proofs.YtncnhhnbjmpomaaW.PrintLast Go.Proofs.Ytncnhhnbjmpomaa
set_option linter.unusedVariables false
set_option linter.unusedSimpArgs false
theorem not29 (x : Int) (w : World) : Calls Try.prog 29 #[.int .i64 x] w fun e w' => e = .returned (.bool (x != 0)) ∧ w = w' := by
  go_enter Try.func29, Try.ntmps29
  go_wp2
  go_ret
  exact ⟨rfl, rfl⟩
theorem eg29 (args : Array Value) (w : World) : (callFunc 29 args).run Try.prog w = .ok (.enter 29 args) w := enters_ Try.func29 (by kernel_rfl) rfl args w
def IdxQ (p : Int → Bool) (l : List Int) (e : Ending) : Prop := ∃ r : Int, e = .returned (.int .i64 r) ∧ (decide (r ≥ 0)) = l.any (fun n => p n)
set_option maxHeartbeats 1000000 in
theorem idx_p (p : Int → Bool) (g : Nat) (hg : ∀ (x : Int) (w : World), Calls Try.prog g #[.int .i64 x] w fun e w' => e = .returned (.bool (p x)) ∧ w = w') (eg : ∀ args w, (callFunc g args).run Try.prog w = .ok (.enter g args) w)
    (A0 : Option Addr) (c0 : Nat) (l0 : List Int) (w : World) (hr0 : Kd.C (Kd.int .i64) w A0 l0.length l0) (hc0 : l0.length ≤ c0) (hl : l0.length ≤ 140737488355328) :
    Calls Try.prog 56 #[.slice A0 l0.length c0, .func (.func g) #[] #[]] w fun e w' => IdxQ p l0 e ∧ w = w' := by
  have HRD : Hid (∀ k (h : k < l0.length), ∃ b off, A0 = some ⟨b, off, none⟩ ∧ w.cell? ⟨b, off + k, none⟩ = some (.int .i64 l0[k])) := fun k hk => by
    obtain ⟨b, off, e, hc⟩ := C_ints hr0 (by omega)
    exact ⟨b, off, e, hc k hk⟩
  have HG := hidI hg
  have EG := hidI eg
  clear hr0 hg eg
  go_enter Try.func56, Try.ntmps56
  go_wp2
  go_loop [8] (fun i => ∃ k : Nat, k ≤ l0.length ∧ i = .int .i64 k ∧ Hid ((l0.take k).any (fun n => p n) = false)) (fun i => l0.length - (intOf i).toNat)
  case atStart => exact ⟨0, Nat.zero_le _, rfl, by simp [Hid]⟩
  case round =>
    obtain ⟨k, hk, rfl, HA⟩ := hrel
    by_cases hlt : k < l0.length
    · obtain ⟨b, off, rfl, hc⟩ := HRD.out k hlt
      have eg := EG.out
      have hst : (l0.take (k + 1)).any (fun n => p n) = ((l0.take k).any (fun n => p n) || p l0[k]) := by
        rw [List.take_succ_eq_append_getElem hlt, List.any_append]; simp
      have HST := hidI hst
      clear hst
      by_cases hd : p l0[k] = true
      · have HY : Hid (l0.any (fun n => p n) = true) := by
          show _ = _
          rw [List.any_eq_true]; exact ⟨l0[k], List.getElem_mem _, hd⟩
        go_wp2_with fail
        refine (HG.out _ _).mono ?_
        rintro e w' ⟨rfl, rfl⟩
        rw [hd]
        simp only []
        go_wp2
        go_ret
        exact ⟨⟨k, rfl, by rw [HY.out]; simp⟩, rfl⟩
      · have hd := eq_false_of_ne_true hd
        have HN : Hid ((l0.take (k + 1)).any (fun n => p n) = false) := by
          show _ = _
          rw [HST.out, HA.out, hd]; rfl
        go_wp2_with fail
        refine (HG.out _ _).mono ?_
        rintro e w' ⟨rfl, rfl⟩
        rw [hd]
        simp only []
        go_wp2
        go_round
        case rel => exact ⟨k + 1, by omega, by go_num, HN⟩
        case measure => simp [intOf]; omega
    · obtain rfl : k = l0.length := by omega
      have HN : Hid (l0.any (fun n => p n) = false) := by
        show _ = _
        have := HA.out; rwa [List.take_length] at this
      go_wp2
      go_ret
      exact ⟨⟨-1, rfl, by rw [HN.out]; decide⟩, rfl⟩
set_option maxHeartbeats 1000000 in
theorem cont_p (p : Int → Bool) (g : Nat) (hg : ∀ (x : Int) (w : World), Calls Try.prog g #[.int .i64 x] w fun e w' => e = .returned (.bool (p x)) ∧ w = w') (eg : ∀ args w, (callFunc g args).run Try.prog w = .ok (.enter g args) w)
    (A0 : Option Addr) (c0 : Nat) (l0 : List Int) (w : World) (hr0 : Kd.C (Kd.int .i64) w A0 l0.length l0) (hc0 : l0.length ≤ c0) (hl : l0.length ≤ 140737488355328) :
    Calls Try.prog 28 #[.slice A0 l0.length c0, .func (.func g) #[] #[]] w fun e w' => e = .returned (.bool (l0.any (fun n => p n))) ∧ w = w' := by
  have H := hidI (idx_p p g hg eg A0 c0 l0 w hr0 hc0 hl)
  clear hg eg hr0
  go_enter Try.func28, Try.ntmps28
  go_wp2_with fail
  refine H.out.mono ?_
  rintro e w' ⟨⟨r, rfl, hr⟩, rfl⟩
  have HR := hidI hr
  clear hr
  go_wp2
  go_ret
  exact ⟨by rw [← HR.out]; rfl, rfl⟩
theorem any29 (A0 : Option Addr) (c0 : Nat) (l0 : List Int) (w : World) (hr0 : Kd.C (Kd.int .i64) w A0 l0.length l0) (hc0 : l0.length ≤ c0) (hl : l0.length ≤ 140737488355328) :
    Calls Try.prog 28 #[.slice A0 l0.length c0, .func (.func 29) #[] #[]] w fun e w' => e = .returned (.bool (l0.any (fun n => n != 0))) ∧ w = w' := cont_p (fun n => n != 0) 29 not29 eg29 A0 c0 l0 w hr0 hc0 hl
end Go.Proofs.Ytncnhhnbjmpomaa.Q
namespace Go.Proofs.Ytncnhhnbjmpomaa
open Go.RowKit Go.Proofs.Ytncnhhnbjmpomaa.Q Go.Proofs.Kq
open Go.Proofs.YtncnhhnbjmpomaaW.PrintWords (pw_cell_below step_append_cells print_append_cells Kd Kd.C Kd.C_below Drawn0 encs encs_length encs_append)
open Go.Proofs.YtncnhhnbjmpomaaW.PrintMore
attribute [local go_sem] max2_int min2_int max_two min_two
set_option linter.unusedVariables false
set_option linter.unusedSimpArgs false
theorem SaleAt.lower {w : World} {base base' b : Nat} {xs : List Int} (h : SaleAt w base b xs) (hb : base' ≤ base) : SaleAt w base' b xs := by
  obtain ⟨v, h1, h2⟩ := h
  exact ⟨v, h1, Kd.R_lower h2 hb⟩
theorem SaleAt.below {w w1 : World} {base b : Nat} {xs : List Int} (h : SaleAt w base b xs) (hb : Below w.heap.size w w1) : SaleAt w1 base b xs := by
  obtain ⟨v, h1, h2⟩ := h
  exact ⟨v, h1.be hb, Kd.R_below h2 hb⟩
theorem lives23 (w : World) : Calls Try.prog 23 #[] w fun e w' => e = .returned (.bool true) ∧ Below w.heap.size w w' := by
  obtain ⟨k, hk⟩ := EvT.one lives13_ok
  exact souklaw13_lives.calls k true w hk
def WS (w wr : World) (b : Nat) (xs : List Int) (j : Nat) : Prop := ∃ v, Blk wr b #[v] 48 ∧ Own li 1 2 wr w.heap.size v (xs.take j) ∧ Below w.heap.size w wr ∧ w.heap.size ≤ b
def WT (w wr : World) (b : Nat) (ys : List Int) : Prop := SaleAt wr w.heap.size b ys ∧ Small ys ∧ Below w.heap.size w wr ∧ w.heap.size ≤ b
set_option maxRecDepth 100000 in
set_option maxHeartbeats 4000000 in
theorem whole_any (A0 : Option Addr) (c0 : Nat) (xs : List Int) (A1 : Option Addr) (c1 : Nat) (ps : List Int) (w : World) (hr0 : Kd.C (Kd.int .u16) w A0 xs.length xs) (hc0 : xs.length ≤ c0) (hr1 : Kd.C (Kd.int .u16) w A1 ps.length ps) (hc1 : ps.length ≤ c1)
    (hx : ∀ x ∈ xs, 0 ≤ x ∧ x ≤ 65535) (hp : ∀ x ∈ ps, 0 ≤ x ∧ x ≤ 65535) :
    Calls Try.prog 7 #[.slice A0 xs.length c0, .slice A1 ps.length c1] w fun e w' => e = .returned (.bool true) ∧ Below w.heap.size w w' := by
  have HR0 := hidI hr0
  have HR1 := hidI hr1
  have HX := hidI hx
  have HP := hidI hp
  have hl0 := hr0.2.1
  have hl1 := hr1.2.1
  clear hr0 hr1 hx hp
  have HL := hidI lives23
  by_cases h10 : 10 < xs.length
  · have t1 : decide ((xs.length : Int) > 10) = true := by simp; omega
    go_enter Try.func7, Try.ntmps7
    go_wp2_with fail
    refine (HL.out _).mono ?_
    rintro e w1 ⟨rfl, hb1⟩
    simp only []
    go_wp2_with fail
    refine (HL.out _).mono ?_
    rintro e w2 ⟨rfl, hb2⟩
    simp only []
    go_wp2
    go_ret
    exact ⟨rfl, below_step hb1 hb2⟩
  have t1 : decide ((xs.length : Int) > 10) = false := by simp; omega
  by_cases h60 : 60 < ps.length
  · have t2 : decide ((ps.length : Int) > 60) = true := by simp; omega
    go_enter Try.func7, Try.ntmps7
    go_wp2_with fail
    refine (HL.out _).mono ?_
    rintro e w1 ⟨rfl, hb1⟩
    simp only []
    go_wp2_with fail
    refine (HL.out _).mono ?_
    rintro e w2 ⟨rfl, hb2⟩
    simp only []
    go_wp2
    go_ret
    exact ⟨rfl, below_step hb1 hb2⟩
  have t2 : decide ((ps.length : Int) > 60) = false := by simp; omega
  go_enter Try.func7, Try.ntmps7
  go_wp2_with fail
  refine (HL.out _).mono ?_
  rintro e w1 ⟨rfl, hb1⟩
  simp only []
  clear HL
  go_wp2
  obtain ⟨b, hb⟩ : ∃ b, b = w1.heap.size := ⟨_, rfl⟩
  have hbw : w.heap.size ≤ b := by rw [hb]; exact hb1.size
  have hS0 : Hid (WS w (w1.alloc (.cells #[.slice none 0 0] 48)) b xs 0) := ⟨_, Blk.new' hb, Own.nil _ _ _ _ _, below_new hb1 _, hbw⟩
  rw [← hb]
  clear hb1 hb
  go_loopw [6, 35] (fun rs i wr => ∃ j : Nat, j ≤ xs.length ∧ i = .int .i64 j ∧ rs = .int .i64 (xs.take j).sum ∧ Hid (WS w wr b xs j)) (fun _ i _ => xs.length - (intOf i).toNat)
  case atStart => exact ⟨0, Nat.zero_le _, rfl, rfl, hS0⟩
  case round =>
    obtain ⟨j, hj, rfl, rfl, HS⟩ := hrel
    by_cases hlt : j < xs.length
    · obtain ⟨v, hB, hO, hW, _⟩ := HS.out
      obtain ⟨b0, off0, hA0, hc⟩ := C_ints HR0.out (by omega)
      subst hA0
      have q0 := pw_cell_below hW (hc j hlt)
      obtain ⟨x, hx⟩ : ∃ x, x = xs[j] := ⟨_, rfl⟩
      rw [← hx] at q0
      have hx0 : 0 ≤ x ∧ x ≤ 65535 := by rw [hx]; exact HX.out _ (List.getElem_mem hlt)
      have hx1 := hx0.1
      have hx2 := hx0.2
      have hsm : Small (xs.take j) := ⟨by rw [List.length_take]; omega, fun y hy => HX.out y (List.mem_of_mem_take hy)⟩
      have hs := hsm.sum
      have hs1 := hs.1
      have hs2 := hs.2
      have hst : Hid (xs.take (j + 1) = xs.take j ++ [x]) := by show _ = _; rw [List.take_succ_eq_append_getElem hlt, ← hx]
      have hsum : Hid ((xs.take (j + 1)).sum = (xs.take j).sum + x) := by show _ = _; rw [hst.out, List.sum_append]; simp
      have hzl : (xs.take j).length ≤ 1000 := by rw [List.length_take]; omega
      have hne := hO.ne hB (by decide)
      have d0 := hB.c 0
      have HB := hidI hB
      have HO := hidI hO
      have HW := hidI hW
      clear hB hO hW HS hc hx hx0 hsm hs
      generalize xs.take j = z at *
      generalize z.sum = zs at *
      have HSZ := HW.out.size
      go_wp2_with (at_builtin; refine print_append_cells (w0 := w) (W := wr) w.heap.size rfl (.tmp 43) (.tmp 46) 22 2 (.int .i64 0) 1 8 rfl Try.underlying22 info2 rfl (by decide) (by decide) v z.length (z.flatMap li) [.int .i64 x] (by rfl) (by rfl) rfl (by simp [Value.oneCell']) HO.out HW.out HSZ (by omega) ?_; intro v5 w5 ho5 hb5 hg5 hat5; clear hat5; obtain ⟨A5, k5, rfl, hk5⟩ := (Own.snoc (l := li) (p := x) ho5).slice_; have HO5 := hidI ho5; clear ho5; have HB5 := hidI (HB.out.gb hg5 (fun h => hne h.symm)); have c5 := HB5.out.c 0; have f5 := HB5.out.f 0)
      have hO5 := Own.snoc (l := li) (p := x) HO5.out
      have hfin : Hid (WS w (w5.setCell ⟨b, 0, none⟩ (.slice A5 (z.length + 1) k5)) b xs (j + 1)) := by
        have el : z.length + 1 = (z ++ [x]).length := by simp
        rw [el]
        refine ⟨_, HB5.out.st 0 _, ?_, ?_, hbw⟩
        · rw [hst.out]
          exact hO5.far (p := ⟨b, 0, none⟩) (hO5.ne HB5.out (by decide)) _
        · exact hb5.setCell (p := ⟨b, 0, none⟩) hbw _
      clear HO5 hb5 hg5 hO5 HSZ HB5 c5 f5
      go_roundw
      case rel => exact ⟨j + 1, by omega, by go_num, by rw [hsum.out], hfin⟩
      case measure => simp [intOf]; omega
    · obtain rfl : j = xs.length := by omega
      have HT : Hid (WT w wr b xs) := by
        obtain ⟨v, hB, hO, hW, _⟩ := HS.out
        rw [List.take_length] at hO
        refine ⟨⟨v, hB, ?_⟩, ⟨by omega, HX.out⟩, hW, hbw⟩
        unfold Own at hO
        rw [flat_li] at hO
        exact Kd.R_of_own hO (fun _ _ => trivial)
      rw [List.take_length]
      have hs := HT.out.2.1.sum
      have hs1 := hs.1
      have hs2 := hs.2
      clear HS hs hS0 HX HR0
      go_wp2
      go_loopw [6, 57] (fun rs i wt => ∃ (j : Nat) (ys : List Int), j ≤ ps.length ∧ i = .int .i64 j ∧ rs = .int .i64 ys.sum ∧ Hid (WT w wt b ys)) (fun _ i _ => ps.length - (intOf i).toNat)
      case atStart => exact ⟨0, xs, Nat.zero_le _, rfl, rfl, HT⟩
      case round =>
        obtain ⟨j, ys, hj, rfl, rfl, HS⟩ := hrel
        have hys := HS.out.2.1.sum
        have hy1 := hys.1
        have hy2 := hys.2
        clear hys HT hs1 hs2
        by_cases hlt : j < ps.length
        · obtain ⟨b1, off1, hA1, hc⟩ := C_ints HR1.out (by omega)
          subst hA1
          have q0 := pw_cell_below HS.out.2.2.1 (hc j hlt)
          obtain ⟨p, hpe⟩ : ∃ p, p = ps[j] := ⟨_, rfl⟩
          rw [← hpe] at q0
          have hp0 : 0 ≤ p ∧ p ≤ 65535 := by rw [hpe]; exact HP.out _ (List.getElem_mem hlt)
          have hp1 := hp0.1
          have hp2 := hp0.2
          clear hc hpe hp0
          have key : ∀ n : Int, 0 < n → n ≤ ys.sum → ∃ l ys', (∀ w' : World, Calls Try.prog 27 #[.pointer (some ⟨b, 0, none⟩), .int .i64 n] wr (RefP wr w.heap.size b ys l ys' 0)) ∧ Small ys' ∧ ys'.sum = ys.sum - n := by
            intro n h0 h1
            obtain ⟨k, k1, k2⟩ := take_yes ys n HS.out.2.1 h0 h1
            obtain ⟨a1, a2, _⟩ := after_facts ys n HS.out.2.1 h0 h1
            exact ⟨_, _, fun _ => refund_ok k b w.heap.size ys _ _ n wr HS.out.1 k1 k2, a1, a2⟩
          have HK := hidI key
          clear key
          by_cases hlt2 : ys.sum < p
          · by_cases hz : ys.sum = 0
            · have hz2 : (ys.sum == 0) = true := by rw [hz]; rfl
              go_wp2
              go_roundw
              case rel => exact ⟨j + 1, ys, by omega, by go_num, rfl, HS⟩
              case measure => simp [intOf]; omega
            · have hz2 : (ys.sum == 0) = false := beq_eq_false_iff_ne.2 hz
              obtain ⟨l, ys', hC, hS', hsum⟩ := HK.out ys.sum (by omega) (by omega)
              have HC := hidI hC
              have HS' := hidI (And.intro hS' hsum)
              clear hC hS' hsum HK
              go_wp2_with fail
              refine (HC.out wr).mono ?_
              rintro e w2 ⟨v2, rfl, hv2, hsale, hfr⟩
              simp only []
              rw [if_pos rfl] at hsale
              have hfin : Hid (WT w w2 b ys') := ⟨hsale.lower HS.out.2.2.1.size, HS'.out.1, (Fr.trans (S := fun k => k = b) (Fr.of_below HS.out.2.2.1) hfr (fun _ _ h => h)).toBelow (fun k hk h => by have := HS.out.2.2.2; omega), HS.out.2.2.2⟩
              clear hv2 hsale hfr HC HS
              go_wp2
              go_roundw
              case rel => exact ⟨j + 1, ys', by omega, by go_num, by rw [HS'.out.2, Int.sub_self], hfin⟩
              case measure => simp [intOf]; omega
          · by_cases hz : p = 0
            · have hz2 : (p == 0) = true := by rw [hz]; rfl
              go_wp2
              go_roundw
              case rel => exact ⟨j + 1, ys, by omega, by go_num, rfl, HS⟩
              case measure => simp [intOf]; omega
            · have hz2 : (p == 0) = false := beq_eq_false_iff_ne.2 hz
              obtain ⟨l, ys', hC, hS', hsum⟩ := HK.out p (by omega) (by omega)
              have HC := hidI hC
              have HS' := hidI (And.intro hS' hsum)
              clear hC hS' hsum HK
              go_wp2_with fail
              refine (HC.out wr).mono ?_
              rintro e w2 ⟨v2, rfl, hv2, hsale, hfr⟩
              simp only []
              rw [if_pos rfl] at hsale
              have hfin : Hid (WT w w2 b ys') := ⟨hsale.lower HS.out.2.2.1.size, HS'.out.1, (Fr.trans (S := fun k => k = b) (Fr.of_below HS.out.2.2.1) hfr (fun _ _ h => h)).toBelow (fun k hk h => by have := HS.out.2.2.2; omega), HS.out.2.2.2⟩
              clear hv2 hsale hfr HC HS
              go_wp2
              go_roundw
              case rel => exact ⟨j + 1, ys', by omega, by go_num, by rw [HS'.out.2], hfin⟩
              case measure => simp [intOf]; omega
        · obtain rfl : j = ps.length := by omega
          have hend : ∀ (wt : World) (zs : List Int), WT w wt b zs → zs.sum = 0 → ∃ A c, wt.cell? ⟨b, 0, none⟩ = some (.slice A zs.length c) ∧ Calls Try.prog 28 #[.slice A zs.length c, .func (.func 29) #[] #[]] wt (fun e w' => e = .returned (.bool false) ∧ wt = w') := by
            intro wt zs hT h0
            obtain ⟨⟨v, hB, hR⟩, hS, hW, _⟩ := hT
            obtain ⟨A, c, rfl, hc, hC⟩ := Kd.R_reads hR
            refine ⟨A, c, hB.c 0, (any29 A c zs wt hC hc (by have := hS.1; omega)).mono ?_⟩
            rintro e w' ⟨rfl, rfl⟩
            exact ⟨by rw [all_zero zs (fun y hy => (hS.2 y hy).1) h0], rfl⟩
          have HE := hidI hend
          clear hend
          by_cases hz : ys.sum = 0
          · have hz2 : decide (ys.sum > 0) = false := by simp; omega
            obtain ⟨A, c, c9, hC⟩ := HE.out _ ys HS.out hz
            have HC := hidI hC
            have hW := HS.out.2.2.1
            clear hC HE
            rw [hz]
            go_wp2_with fail
            refine HC.out.mono ?_
            rintro e w2 ⟨rfl, rfl⟩
            simp only []
            go_wp2
            go_ret
            exact ⟨rfl, hW⟩
          · have hz2 : decide (ys.sum > 0) = true := by simp; omega
            have hpos : 0 < ys.sum := by omega
            obtain ⟨k, k1⟩ := take_more ys (ys.sum + 1) HS.out.2.1 (by omega) (by omega)
            have HC1 := hidI (refund_no k b w.heap.size ys [] ys (ys.sum + 1) 10 (by decide) wr HS.out.1 k1 rfl)
            have HSM := HS.out.2.1
            have HSM2 := hidI HSM
            have HW0 := hidI HS.out.2.2.1
            clear k1 HS HSM hz
            obtain ⟨sm, hsm⟩ : ∃ sm, sm = ys.sum := ⟨_, rfl⟩
            rw [← hsm] at HC1 hpos hz2 hy1 hy2 ⊢
            have HSMM := hidI hsm
            clear hsm
            go_wp2_with fail
            refine HC1.out.mono ?_
            rintro e w2 ⟨v2, rfl, hv2, hsale, hfr⟩
            simp only []
            rw [if_neg (by decide)] at hsale
            have hW2 := (Fr.trans (S := fun k => k = b) (Fr.of_below HW0.out) hfr (fun _ _ h => h)).toBelow (fun k hk h => by omega)
            obtain ⟨k, k1, k2⟩ := take_yes ys sm HSM2.out hpos (by rw [HSMM.out]; omega)
            obtain ⟨a1, a2, _⟩ := after_facts ys sm HSM2.out hpos (by rw [HSMM.out]; omega)
            have HC2 := hidI (refund_ok k b w.heap.size ys _ _ sm w2 hsale k1 k2)
            have HAF := hidI (And.intro a1 a2)
            have HW2 := hidI hW2
            clear hv2 hsale hfr hW2 k1 k2 a1 a2 HC1
            go_wp2_with fail
            refine HC2.out.mono ?_
            rintro e w3 ⟨v3, rfl, hv3, hsale, hfr⟩
            simp only []
            rw [if_pos rfl] at hsale
            have hW3 := (Fr.trans (S := fun k => k = b) (Fr.of_below HW2.out) hfr (fun _ _ h => h)).toBelow (fun k hk h => by omega)
            obtain ⟨A, c, c9, hC⟩ := HE.out w3 (afterF ys sm) ⟨hsale.lower HW2.out.size, HAF.out.1, hW3, hbw⟩ (by rw [HAF.out.2, HSMM.out]; omega)
            have HC := hidI hC
            have HW3 := hidI hW3
            clear hv3 hsale hfr hC HE hW3 HC2
            go_wp2_with fail
            refine HC.out.mono ?_
            rintro e w4 ⟨rfl, rfl⟩
            simp only []
            go_wp2
            go_ret
            exact ⟨rfl, HW3.out⟩
end Go.Proofs.Ytncnhhnbjmpomaa
namespace Go.Proofs.Ytncnhhnbjmpomaa
open Go.RowKit Go.Proofs.Rk Go.Proofs.YtncnhhnbjmpomaaW.PrintWords
set_option linter.unusedVariables false
theorem C_ints_of {k : IntKind} {w : World} {A : Option Addr} {xs : List Int} {cap : Nat} {ok : Int → Prop} (h : RdSl w (fun n : Int => [Value.int k n]) ok 1 A xs cap) : Kd.C (Kd.int k) w A xs.length xs := by
  have h := Kp.C_of_rd (l := fun n : Int => [Value.int k n]) (hl := fun _ => rfl) (h1 := fun _ u hu => by rcases List.mem_singleton.1 hu with rfl; rfl) (by decide) h
  obtain ⟨h1, h2, h3⟩ := h
  refine ⟨h1, h2, fun hn => ?_⟩
  obtain ⟨ad, e, hc⟩ := h3 hn
  refine ⟨ad, e, fun j q hj => ?_⟩
  obtain ⟨c, hc1, hc2, hc3⟩ := hc j q hj
  obtain rfl : c = [Value.int k q] := hc2
  exact ⟨[Value.int k q], rfl, rfl, hc3⟩
theorem walk7 (ad : Option Addr) (xs : List Int) (cap : Nat) (ad1 : Option Addr) (ps : List Int) (cap1 : Nat) (w : World) (h : RdSl w (Kn.int Try.underlying49).cells (Kn.int Try.underlying49).ok 1 ad xs cap) (hs : xs.length * 2 ≤ 140737488351232)
    (h1 : RdSl w (Kn.int Try.underlying49).cells (Kn.int Try.underlying49).ok 1 ad1 ps cap1) (hs1 : ps.length * 2 ≤ 140737488351232) :
    Calls Try.prog 7 #[.slice ad xs.length cap, .slice ad1 ps.length cap1] w fun e w' => e = .returned (.bool true) ∧ Below w.heap.size w w' := by
  have B : ∀ {x : Int}, (Lit.int .u16 x).wf = true → 0 ≤ x ∧ x ≤ 65535 := fun h => bounds_u16 h
  exact whole_any ad cap xs ad1 cap1 ps w (C_ints_of h) (Kp.cap_of_rd h) (C_ints_of h1) (Kp.cap_of_rd h1) (fun x hx => B (Kp.ok_of_rd h x hx)) (fun x hx => B (Kp.ok_of_rd h1 x hx))
end Go.Proofs.Ytncnhhnbjmpomaa
