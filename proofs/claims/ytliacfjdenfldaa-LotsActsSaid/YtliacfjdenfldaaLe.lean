import Derived.Test.YtliacfjdenfldaaLd
namespace Go.Proofs.Ytliacfjdenfldaa
open Go.RowKit Go.Proofs.Kq
open Go.Proofs.YtliacfjdenfldaaW.PrintWords (pw_cell_below step_append_cells print_append_cells Kd Kd.C Kd.C_below)
open Go.Proofs.YtliacfjdenfldaaW.PrintLast
set_option linter.unusedSimpArgs false
set_option linter.unusedVariables false

theorem blk_ty {w : World} {b : Nat} {cs cs' : Array Value} {T T' : TypeId} (h : Blk w b cs T) (h' : Blk w b cs' T') : T = T' := by
  unfold Blk at h h'; rw [h] at h'; injection h' with h'; injection h'
theorem Lt.frc {S : Nat → Prop} {w w' : World} {base x : Nat} {v : Value} {ls : List A111} (h : Lt w base x v ls) (hF : Fr S w w') (hS : ∀ k, S k → k ≠ x ∧ v.ownBlock ≠ some k) : Lt w' base x v ls :=
  ⟨hF.blk h.blk (fun e => (hS x e).1 rfl), h.own.fr hF (fun k hk e => (hS k e).2 hk)⟩
def lotA : A111 := ⟨⟨#[97]⟩, ⟨#[69, 85, 82]⟩, 1, 5⟩
def lotB : A111 := ⟨⟨#[98]⟩, ⟨#[69, 85, 82]⟩, 2, 3⟩
theorem rightA : rightB lotA = true := by kernel_rfl
theorem rightBB : rightB lotB = true := by kernel_rfl
set_option maxRecDepth 100000 in
set_option maxHeartbeats 2000000 in
theorem lives53 (w : World) : Calls Try.prog 53 #[] w fun e w' => e = .returned (.bool true) ∧ Below w.heap.size w w' := by
  go_enter Try.func53, Try.ntmps53
  go_wp2_with fail
  have hL0 : Lt (w.alloc (.cells #[.slice none 0 0] 108)) w.heap.size w.heap.size (.slice none 0 0) [] := ⟨Blk.new' rfl, Own.nil _ _ _ _ _⟩
  refine (ladd_any w.heap.size w.heap.size _ lotA [] _ hL0 (by simp) (by simp)).mono ?_
  rintro e w1 ⟨r, v1, hr, rfl, hL1, hF1⟩
  have e1 : addL lotA [] = [lotA] := by simp only [addL, rightA]; rfl
  rw [e1] at hL1
  rw [rightA] at hr
  simp only [if_true] at hr
  subst hr
  have hb1 : Below w.heap.size w w1 := ((Fr.of_below (S := fun k => w.heap.size ≤ k) (below_new (Below.refl _ w) (.cells #[.slice none 0 0] 108))).trans hF1 (fun b _ e => by rcases e with rfl | e; exact Nat.le_refl _; cases e)).toBelow (fun b hb h => by omega)
  clear hF1 hL0 e1
  simp only []
  go_wp2_with fail
  refine (ladd_any w.heap.size w.heap.size _ lotB [lotA] _ hL1 hb1.size (by simp)).mono ?_
  rintro e w2 ⟨r, v2, hr, rfl, hL2, hF2⟩
  have e1 : addL lotB [lotA] = [lotA, lotB] := by simp only [addL, rightBB]; rfl
  rw [e1] at hL2
  rw [rightBB] at hr
  simp only [if_true] at hr
  subst hr
  have hb2 : Below w.heap.size w w2 := ((Fr.of_below (S := fun k => w.heap.size ≤ k) hb1).trans hF2 (fun b _ e => by rcases e with rfl | e; exact Nat.le_refl _; exact hL1.own.ge e)).toBelow (fun b hb h => by omega)
  clear hF2 e1 hb1 hL1
  simp only []
  go_wp2_with fail
  refine (due_any w.heap.size w.heap.size _ [lotA, lotB] 4 _ hL2 hb2.size (by simp)).mono ?_
  rintro e w3 ⟨A3, n3, c3, v3, rfl, hn3, hO3, hL3, _, hF3⟩
  have e1 : dueL 4 [lotA, lotB] = [lotB] := by kernel_rfl
  have e2 : restL 4 [lotA, lotB] = [lotA] := by kernel_rfl
  rw [e1] at hO3 hn3
  rw [e2] at hL3
  subst hn3
  have hb3 : Below w.heap.size w w3 := ((Fr.of_below (S := fun k => w.heap.size ≤ k) hb2).trans hF3 (fun b _ e => by rw [e]; exact Nat.le_refl _)).toBelow (fun b hb h => by omega)
  obtain ⟨A', c', hv, _, hC3⟩ := own111e hO3
  obtain rfl : A3 = A' := by injection hv
  obtain ⟨b4, off4, rfl, hx4⟩ := Kp.C_open hC3 (by simp) (by decide)
  have q0 : w3.cell? ⟨b4, off4, none⟩ = some (.string ⟨#[98]⟩) := by have := hx4 0 (by simp) 0 _ rfl; simpa [lotB] using this
  have hnx : nextL [lotA] = 5 := by kernel_rfl
  clear hF3 e1 e2 hb2 hL2 hO3 hv hC3 hx4
  simp only []
  go_wp2_with (go_at_call 65; refine (lnext_any _ _ _ _ _ hL3 (by simp)).mono ?_; rintro e w4 ⟨rfl, hb4⟩; rw [hnx])
  go_ret
  exact ⟨rfl, below_step hb3 (by assumption)⟩

set_option maxHeartbeats 1000000 in
theorem held_nil (p c : ByteArray) (w : World) : Calls Try.prog 62 #[.pointer none, .string p, .string c] w fun e w' => e = .returned (.tuple #[.int .i64 0, .int .i64 0]) ∧ w = w' := by
  go_enter Try.func62, Try.ntmps62
  go_wp2
  go_ret2
  exact ⟨rfl, rfl⟩
set_option maxHeartbeats 1000000 in
theorem add_nil (y : A111) (w : World) : Calls Try.prog 60 #[.pointer none, .agg #[.string y.f0, .string y.f1, .int .i64 y.f2, .int .i64 y.f3]] w fun e w' => e = .returned (.int .i64 1) ∧ Below w.heap.size w w' := by
  go_enter Try.func60, Try.ntmps60
  go_wp2
  go_ret
  exact ⟨rfl, below_new (Below.refl _ _) _⟩
set_option maxHeartbeats 1000000 in
theorem due_nil (now : Int) (w : World) : Calls Try.prog 58 #[.pointer none, .int .i64 now] w fun e w' => e = .returned (.slice none 0 0) ∧ w = w' := by
  go_enter Try.func58, Try.ntmps58
  go_wp2
  go_ret
  exact ⟨rfl, rfl⟩
set_option maxHeartbeats 1000000 in
theorem next_nil (w : World) : Calls Try.prog 65 #[.pointer none] w fun e w' => e = .returned (.int .i64 (-1)) ∧ w = w' := by
  go_enter Try.func65, Try.ntmps65
  go_wp2
  go_ret
  exact ⟨rfl, rfl⟩
set_option maxHeartbeats 1000000 in
theorem all_nil (w : World) : Calls Try.prog 64 #[.pointer none] w fun e w' => e = .returned (.slice none 0 0) ∧ w = w' := by
  go_enter Try.func64, Try.ntmps64
  go_wp2
  go_ret
  exact ⟨rfl, rfl⟩
set_option maxHeartbeats 1000000 in
theorem clone_nil (w : World) : Calls Try.prog 54 #[.pointer none] w fun e w' => e = .returned (.pointer none) ∧ w = w' := by
  go_enter Try.func54, Try.ntmps54
  go_wp2
  go_ret
  exact ⟨rfl, rfl⟩
/-- how a round of LotsActs begins -/
def LI (w0 : World) (x k : Nat) (vm : Value) (ls : List A111) (wr : World) : Prop :=
  ∃ v, Lt wr w0.heap.size x v ls ∧ Own A111.l 4 118 wr w0.heap.size vm ls ∧ Below w0.heap.size w0 wr ∧ w0.heap.size ≤ x ∧ (∀ y ∈ ls, i64 y.f2 ∧ 0 ≤ y.f3) ∧ ls.length ≤ k
set_option maxRecDepth 100000 in
set_option maxHeartbeats 8000000 in
theorem walk11 (ad : Option Addr) (xs : List A113) (cap : Nat) (w : World) (hw : Rk.RdSl w k113.cells k113.ok 6 ad xs cap) (hy : xs.length * 64 ≤ 140737488351232) :
    Calls Try.prog 11 #[.slice ad xs.length cap] w fun e w' => e = .returned (.bool true) ∧ Below w.heap.size w w' := by
  have hl : Hid (∀ w', Below w.heap.size w w' → Calls Try.prog 53 #[] w' fun e w'' => e = .returned (.bool true) ∧ Below w.heap.size w w'') := fun w' hb => (lives53 w').mono fun e w'' h => ⟨h.1, below_step hb h.2⟩
  by_cases h100 : 100 < xs.length
  · have hgt : decide ((xs.length : Int) > 100) = true := by simp; omega
    go_enter Try.func11, Try.ntmps11
    go_wp2_with (first | (go_at_call 53; refine (hl.out _ (by first | exact Below.refl _ _ | assumption)).mono ?_; rintro e w1 ⟨rfl, hb⟩) | fail)
    go_ret
    exact ⟨rfl, by assumption⟩
  have hread : Hid (∀ k (h : k < xs.length), ∃ b off, ad = some ⟨b, off, none⟩ ∧ ∀ w', Below w.heap.size w w' →
     (w'.cell? ⟨b, off + k * 6, none⟩ = some (.int .u8 xs[k].f0) ∧ w'.cell? ⟨b, off + k * 6 + 1, none⟩ = some (.string xs[k].f1.f0) ∧ w'.cell? ⟨b, off + k * 6 + 2, none⟩ = some (.string xs[k].f1.f1) ∧ w'.cell? ⟨b, off + k * 6 + 3, none⟩ = some (.int .i64 xs[k].f1.f2) ∧ w'.cell? ⟨b, off + k * 6 + 4, none⟩ = some (.int .i64 xs[k].f1.f3) ∧
      w'.cell? ⟨b, off + k * 6 + 5, none⟩ = some (.int .i64 xs[k].f2))) := by
    intro k hk
    have hC : Kd.C d113 w ad xs.length xs := Kp.C_of_rd (by decide) hw
    obtain ⟨b, off, rfl, hx⟩ := Kp.C_open hC (by omega) (by decide)
    exact ⟨b, off, rfl, fun w' hb => ⟨pw_cell_below hb (hx k hk 0 _ rfl), pw_cell_below hb (hx k hk 1 _ rfl), pw_cell_below hb (hx k hk 2 _ rfl), pw_cell_below hb (hx k hk 3 _ rfl), pw_cell_below hb (hx k hk 4 _ rfl), pw_cell_below hb (hx k hk 5 _ rfl)⟩⟩
  have HOK := hidI (Kp.ok_of_rd hw)
  clear hw
  go_enter Try.func11, Try.ntmps11
  go_wp2_with (first | (go_at_call 53; refine (hl.out _ (by first | exact Below.refl _ _ | assumption)).mono ?_; rintro e w1 ⟨rfl, hb⟩) | fail)
  have hG0 : LI w w1.heap.size 0 (.slice none 0 0) [] (w1.alloc (.cells #[.slice none 0 0] 108)) := ⟨.slice none 0 0, ⟨Blk.new' rfl, Own.nil _ _ _ _ _⟩, Own.nil _ _ _ _ _, below_new hb _, hb.size, (by simp), Nat.le_refl _⟩
  obtain ⟨x, hx⟩ : ∃ x, x = w1.heap.size := ⟨_, rfl⟩
  rw [← hx] at hG0
  rw [← hx]
  clear hx
  go_loopw [4, 35] (fun vm i wr => ∃ k : Nat, k ≤ xs.length ∧ i = .int .i64 k ∧ Hid (∃ ls, LI w x k vm ls wr)) (fun _ i _ => xs.length - (intOf i).toNat)
  case atStart => exact ⟨0, Nat.zero_le _, rfl, hidI ⟨_, hG0⟩⟩
  case round =>
    obtain ⟨k, hk, rfl, hR⟩ := hrel
    clear hG0 hb
    obtain ⟨ls, v, hLt, hOm, hbw, hxw, hok, hll⟩ := hR.out
    by_cases hlt : k < xs.length
    · obtain ⟨A0, c0, rfl, hc0, hC0⟩ := own111e hOm
      have hn0 := own_nilc hOm
      obtain ⟨b, off, rfl, hq⟩ := hread.out k hlt
      obtain ⟨q0, q1, q2, q3, q4, q5⟩ := hq wr hbw
      have hoka := HOK.out xs[k] (List.getElem_mem _)
      obtain ⟨a, hxe⟩ : ∃ a, a = xs[k] := ⟨_, rfl⟩
      rw [← hxe] at q0 q1 q2 q3 q4 q5 hoka
      have hk8 : 0 ≤ a.f0 ∧ a.f0 < 256 := by
        have h4 : (Lit.int .u8 a.f0).wf = true := hoka.1
        simp only [Lit.wf, Bool.and_eq_true, decide_eq_true_eq] at h4
        have e1 : IntKind.u8.min = 0 := by decide
        have e2 : IntKind.u8.max = 255 := by decide
        omega
      have ham : i64 a.f1.f2 := by
        have h4 : (Lit.int .i64 a.f1.f2).wf = true := hoka.2.1.2.2.1
        simp only [Lit.wf, Bool.and_eq_true, decide_eq_true_eq] at h4
        have e1 : IntKind.i64.min = -9223372036854775808 := by decide
        have e2 : IntKind.i64.max = 9223372036854775807 := by decide
        unfold i64; omega
      have HAM := hidI ham
      have HOKL := hidI hok
      clear hxe hq hoka ham hR hok
      go_wp2_with fail
      clear q0 q1 q2 q3 q4 q5
      have hBA := Blk.new' (w := wr) (b := wr.heap.size) (cs := #[.int .u8 a.f0, .string a.f1.f0, .string a.f1.f1, .int .i64 a.f1.f2, .int .i64 a.f1.f3, .int .i64 a.f2]) (T := 113) rfl
      have hbn := below_new (Below.refl wr.heap.size wr) (.cells #[.int .u8 a.f0, .string a.f1.f0, .string a.f1.f1, .int .i64 a.f1.f2, .int .i64 a.f1.f3, .int .i64 a.f2] 113)
      have hLt := hLt.below hbn
      have hOm := hOm.below hbn
      have hC0 := Kd.C_below hC0 hbn
      have hbw := below_step hbw hbn
      obtain ⟨bA, hbA⟩ : ∃ bA, bA = wr.heap.size := ⟨_, rfl⟩
      rw [← hbA] at hBA
      rw [← hbA]
      clear hbA hbn
      generalize wr.alloc _ = W at *
      refine (lclone_any _ x v ls _ hLt (by omega)).mono ?_
      rintro e w2 ⟨y, vc, rfl, hLc, hyg, hb2⟩
      have hBA := hBA.be hb2
      have hxy : x ≠ y := by have := hLt.blk.lt; omega
      have hvc : ∀ k, v.ownBlock = some k → vc.ownBlock ≠ some k := fun k h1 h2 => by have := hLt.own.lt h1; have := hLc.own.ge h2; omega
      have hLt := hLt.below hb2
      have hOm := hOm.below hb2
      have hC0 := Kd.C_below hC0 hb2
      have hbw := below_step hbw hb2
      generalize W.heap.size = W0 at *
      clear hb2
      have hcA := hBA.c; have hlA := hBA.lt
      simp only []
      by_cases hkd : a.f0 % 3 = 2
      · have hge2 := hbw.size
        go_wp2_with fail
        clear hkd
        refine (split_any A0 ls c0 a.f2 _ hC0 (by omega)).mono ?_
        rintro e w3 ⟨A3, n3, c3, B3, m3, d3, rfl, rfl, rfl, hO3, hR3, hb3⟩
        have hBA := hBA.be hb3
        have hLt := hLt.below hb3
        have hLc := hLc.below hb3
        have hOm := hOm.below hb3
        have hbw := below_step hbw hb3
        clear hcA hlA hC0 hb3
        have hcA := hBA.c; have hlA := hBA.lt
        simp only []
        go_wp2_with fail
        refine (due_any w.heap.size x v ls a.f2 _ hLt hbw.size (by omega)).mono ?_
        rintro e w4 ⟨A4, n4, c4, v4, rfl, rfl, hO4, hL4, hv4, hF4⟩
        have hxB := hLt.blk
        have hBA : Blk w4 bA #[.int .u8 a.f0, .string a.f1.f0, .string a.f1.f1, .int .i64 a.f1.f2, .int .i64 a.f1.f3, .int .i64 a.f2] 113 := hF4.blk hBA (fun e => by subst e; exact absurd (blk_ty hBA hxB) (by decide))
        have hLc := hLc.frc hF4 (fun k e => by subst e; exact ⟨hxy, own_nbl hLc.own hxB (by decide)⟩)
        have hOm := hOm.fr hF4 (fun k hk e => by subst e; exact own_nbl hOm hxB (by decide) hk)
        have hO3 := hO3.fr hF4 (fun k hk e => by subst e; exact own_nbl hO3 hxB (by decide) hk)
        have hR3 := hR3.fr hF4 (fun k hk e => by subst e; exact own_nbl hR3 hxB (by decide) hk)
        have hge3 := hbw.size
        have hbw := ((Fr.of_below (S := fun k => w.heap.size ≤ k) hbw).trans hF4 (fun b _ e => by subst e; exact hxw)).toBelow (fun b hb h => by omega)
        have hdl := dueL_len a.f2 ls
        have hrl := restL_len a.f2 ls
        obtain ⟨A4', c4', hv, _, hC4⟩ := own111e hO4
        obtain rfl : A4 = A4' := by injection hv
        clear hcA hlA hO4 hv hF4 hLt hxB
        have hcA := hBA.c; have hlA := hBA.lt
        simp only []
        go_wp2_with fail
        refine (lof_any A4 (dueL a.f2 ls) c4 _ hC4 (by omega)).mono ?_
        rintro e w5 ⟨A5, c5, rfl, hO5, hb5⟩
        have hBA := hBA.be hb5
        have hLt := hL4.below hb5
        have hLc := hLc.below hb5
        have hOm := hOm.below hb5
        have hR3 := hR3.below hb5
        have hO3 := hO3.below hb5
        have hbw := below_step hbw hb5
        obtain ⟨A5', c5', hv, _, hC5⟩ := own111e hO5
        obtain rfl : A5 = A5' := by injection hv
        obtain ⟨A3', c3', hv, _, hC3⟩ := own111e hO3
        obtain rfl : A3 = A3' := by injection hv
        clear hcA hlA hO5 hv hC4 hb5 hL4 hO3
        have hcA := hBA.c; have hlA := hBA.lt
        simp only []
        go_wp2_with fail
        refine (equal56 (dueL a.f2 ls) A5 A3 c5 c3 _ hC5 hC3 (by omega)).mono ?_
        rintro e w6 ⟨rfl, hb6⟩
        have hBA := hBA.be hb6
        have hLt := hLt.below hb6
        have hLc := hLc.below hb6
        have hOw := hOm.below hb6
        have hOm := (hR3.lower (base' := w.heap.size) (by omega)).below hb6
        have hbw := below_step hbw hb6
        have hok1 : Hid (∀ y ∈ restL a.f2 ls, i64 y.f2 ∧ 0 ≤ y.f3) := fun y hy => HOKL.out y ((List.mem_filter.1 hy).1)
        have hl1 : (restL a.f2 ls).length ≤ k + 1 := by omega
        clear hcA hlA hC5 hC3 hb6 hR3
        have hcA := hBA.c; have hlA := hBA.lt
        generalize restL a.f2 ls = ls1 at *
        clear hdl hrl
        simp only []
        go_wp2_with fail
        have hok64 : Hid (∀ y ∈ ls1, i64 y.f2) := fun y hy => (hok1.out y hy).1
        have hlk : ls1.length ≤ 200 := by omega
        obtain ⟨Am, cm, hv, _, hCm⟩ := own111e hOm
        obtain rfl : B3 = Am := by injection hv
        clear hv hcA hlA
        go_loopw [13, 96] (fun v i wr2 => ∃ k2 : Nat, k2 ≤ ls1.length ∧ i = .int .i64 k2 ∧ Hid (Own l64 1 2 wr2 w6.heap.size v (mineL a.f1.f0 a.f1.f1 (ls1.take k2)) ∧ Below w6.heap.size w6 wr2)) (fun _ i _ => ls1.length - (intOf i).toNat)
        case atStart => exact ⟨0, Nat.zero_le _, rfl, hidI ⟨by simp only [List.take_zero]; exact Own.nil _ _ _ _ _, Below.refl _ _⟩⟩
        case round =>
          obtain ⟨k2, hk2, rfl, hI2⟩ := hrel
          have hb2 := hI2.out.2
          by_cases hlt2 : k2 < ls1.length
          · obtain ⟨b3, off3, rfl, hx3⟩ := Kp.C_open hCm (by omega) (by decide)
            obtain ⟨z, hze⟩ : ∃ z, z = ls1[k2] := ⟨_, rfl⟩
            have q0 : wr.cell? ⟨b3, off3 + k2 * 4, none⟩ = some (.string z.f0) := by rw [hze]; exact pw_cell_below hb2 (hx3 k2 hlt2 0 _ rfl)
            have q1 : wr.cell? ⟨b3, off3 + k2 * 4 + 1, none⟩ = some (.string z.f1) := by rw [hze]; exact pw_cell_below hb2 (hx3 k2 hlt2 1 _ rfl)
            have q2 : wr.cell? ⟨b3, off3 + k2 * 4 + 2, none⟩ = some (.int .i64 z.f2) := by rw [hze]; exact pw_cell_below hb2 (hx3 k2 hlt2 2 _ rfl)
            have q3 : wr.cell? ⟨b3, off3 + k2 * 4 + 3, none⟩ = some (.int .i64 z.f3) := by rw [hze]; exact pw_cell_below hb2 (hx3 k2 hlt2 3 _ rfl)
            obtain ⟨hO1, hb0⟩ := hI2.out
            have hBA := hBA.be hb0
            have hcA := hBA.c; have hlA := hBA.lt
            have HB := hidI (below_new hb0 (.cells #[.string z.f0, .string z.f1, .int .i64 z.f2, .int .i64 z.f3] 118))
            have hsz : w6.heap.size ≤ (wr.alloc (.cells #[.string z.f0, .string z.f1, .int .i64 z.f2, .int .i64 z.f3] 118)).heap.size := HB.out.size
            have hle := mineL_len a.f1.f0 a.f1.f1 (ls1.take k2)
            have hlk2 : (ls1.take k2).length ≤ 1000000 := by rw [List.length_take]; omega
            have hst : Hid (mineL a.f1.f0 a.f1.f1 (ls1.take (k2 + 1)) = mineL a.f1.f0 a.f1.f1 (ls1.take k2) ++ if mineB a.f1.f0 a.f1.f1 z = true then [z.f2] else []) := by show _ = _; rw [List.take_succ_eq_append_getElem hlt2, ← hze, mineL_snoc]
            clear hze hI2 hx3 hCm
            generalize mineL a.f1.f0 a.f1.f1 (ls1.take k2) = zs at *
            have HO1 := hidI (hO1.alloc (.cells #[.string z.f0, .string z.f1, .int .i64 z.f2, .int .i64 z.f3] 118))
            have hlz : zs.length ≤ 1000000 := by omega
            clear hO1 hb0 hb2
            cases h1 : (z.f0.toList == a.f1.f0.toList)
            · have hst2 : Hid (mineL a.f1.f0 a.f1.f1 (ls1.take (k2 + 1)) = zs) := by show _ = _; rw [hst.out]; simp [mineB, h1]
              have hfin : Hid (Own l64 1 2 (wr.alloc (.cells #[.string z.f0, .string z.f1, .int .i64 z.f2, .int .i64 z.f3] 118)) w6.heap.size u13 (mineL a.f1.f0 a.f1.f1 (ls1.take (k2 + 1))) ∧ Below w6.heap.size w6 (wr.alloc (.cells #[.string z.f0, .string z.f1, .int .i64 z.f2, .int .i64 z.f3] 118))) := by show _ ∧ _; rw [hst2.out]; exact ⟨HO1.out, HB.out⟩
              clear HO1 HB hst hst2
              go_wp2
              go_roundw
              case rel => exact ⟨k2 + 1, by omega, by go_num, hfin⟩
              case measure => simp [intOf]; omega
            · cases h2 : (z.f1.toList == a.f1.f1.toList)
              · have hst2 : Hid (mineL a.f1.f0 a.f1.f1 (ls1.take (k2 + 1)) = zs) := by show _ = _; rw [hst.out]; simp [mineB, h1, h2]
                have hfin : Hid (Own l64 1 2 (wr.alloc (.cells #[.string z.f0, .string z.f1, .int .i64 z.f2, .int .i64 z.f3] 118)) w6.heap.size u13 (mineL a.f1.f0 a.f1.f1 (ls1.take (k2 + 1))) ∧ Below w6.heap.size w6 (wr.alloc (.cells #[.string z.f0, .string z.f1, .int .i64 z.f2, .int .i64 z.f3] 118))) := by show _ ∧ _; rw [hst2.out]; exact ⟨HO1.out, HB.out⟩
                clear HO1 HB hst hst2
                go_wp2
                go_roundw
                case rel => exact ⟨k2 + 1, by omega, by go_num, hfin⟩
                case measure => simp [intOf]; omega
              · have hst2 : Hid (mineL a.f1.f0 a.f1.f1 (ls1.take (k2 + 1)) = zs ++ [z.f2]) := by show _ = _; rw [hst.out]; simp [mineB, h1, h2]
                go_wp2_with (at_builtin; refine print_append_cells (w0 := w6) (W := (wr.alloc (.cells #[.string z.f0, .string z.f1, .int .i64 z.f2, .int .i64 z.f3] 118))) w6.heap.size rfl (.tmp 114) (.tmp 117) 45 2 (.int .i64 0) 1 8 rfl Try.underlying45 info2 rfl (by decide) (by decide) u13 zs.length (zs.flatMap l64) [.int .i64 z.f2] (by rfl) (by first | (go_simp; done) | (go_simp; rfl)) rfl (by simp [Value.oneCell']) HO1.out HB.out hsz (by omega) ?_; intro v5 w5 ho5 hb5 hg5 hat5)
                have hfin : Hid (Own l64 1 2 w5 w6.heap.size v5 (mineL a.f1.f0 a.f1.f1 (ls1.take (k2 + 1))) ∧ Below w6.heap.size w6 w5) := by show _ ∧ _; rw [hst2.out]; exact ⟨Own.snoc (p := z.f2) ho5, hb5⟩
                clear ho5 hb5 hg5 hat5 HO1 HB hst hst2
                go_wp2
                go_roundw
                case rel => exact ⟨k2 + 1, by omega, by go_num, hfin⟩
                case measure => simp [intOf]; omega
          · have e : k2 = ls1.length := by omega
            subst e
            obtain ⟨hO1, hb0⟩ := hI2.out
            rw [List.take_length] at hO1
            have hle := mineL_len a.f1.f0 a.f1.f1 ls1
            have hk2' := hidI (mineL_ok (p := a.f1.f0) (c := a.f1.f1) hok64.out)
            obtain ⟨z1, hz⟩ : ∃ z1, z1 = mineL a.f1.f0 a.f1.f1 ls1 := ⟨_, rfl⟩
            rw [← hz] at hO1 hle hk2'
            have HZ := hidI hz
            obtain ⟨A1, c1, rfl, _, hC1⟩ := own64 hO1
            clear hI2 hb2 hz hO1 hlt2 hk2
            have hBA := hBA.be hb0
            have hLt := hLt.below hb0
            have hLc := hLc.below hb0
            have hOw := hOw.below hb0
            have hOm := hOm.below hb0
            have hbw := below_step hbw hb0
            have hCm := Kd.C_below hCm hb0
            clear hb0
            have hcA := hBA.c; have hlA := hBA.lt
            go_wp2_with fail
            refine (held_any w.heap.size x _ a.f1.f0 a.f1.f1 ls1 _ hLt (by omega) hok64.out).mono ?_
            rintro e wH ⟨s, r, hs, hr, rfl, hbH⟩
            rw [← HZ.out] at hs hr
            have HS := hidI hs
            have HR := hidI hr
            clear hs hr
            have hBA := hBA.be hbH
            have hLt := hLt.below hbH
            have hLc := hLc.below hbH
            have hOw := hOw.below hbH
            have hOm := hOm.below hbH
            have hbw := below_step hbw hbH
            have hCm := Kd.C_below hCm hbH
            have hC1 := Kd.C_below hC1 hbH
            clear hbH hcA hlA
            have hcA := hBA.c; have hlA := hBA.lt
            simp only []
            go_wp2_with fail
            refine (rsum_any A1 z1 c1 _ hC1 (by omega) hk2'.out).mono ?_
            rintro e wG ⟨rfl, rfl⟩
            rw [← HS.out]
            have hsr : (sumOk z1 = true ∧ r = 0) ∨ (sumOk z1 = false ∧ r = 2 ∧ s = 0) := by
              rw [HR.out, HS.out]
              unfold sumE sumN sumOk
              cases sumL 0 z1 <;> simp
            have hss : (s != s) = false := by simp
            clear hC1 hcA hlA
            simp only []
            rcases hsr with ⟨hok2, hr⟩ | ⟨hok2, hr, hs⟩
            all_goals
              rw [hok2]
              subst hr
              clear hok2
              go_wp2_with fail
              refine (lall_any w.heap.size x _ ls1 _ hLt (by omega)).mono ?_
              rintro e wI ⟨vI, rfl, hOI, hbI⟩
              obtain ⟨AI, cI, rfl, _, hCI⟩ := own111e hOI
              have hBA := hBA.be hbI
              have hLt := hLt.below hbI
              have hLc := hLc.below hbI
              have hOw := hOw.below hbI
              have hOm := hOm.below hbI
              have hbw := below_step hbw hbI
              have hCm := Kd.C_below hCm hbI
              clear hbI hOI
              simp only []
              go_wp2_with fail
              refine (lof_any AI ls1 cI _ hCI (by omega)).mono ?_
              rintro e wJ ⟨AJ, cJ, rfl, hOJ, hbJ⟩
              obtain ⟨AJ', cJ', hv, _, hCJ⟩ := own111e hOJ
              obtain rfl : AJ = AJ' := by injection hv
              have hBA := hBA.be hbJ
              have hLt := hLt.below hbJ
              have hLc := hLc.below hbJ
              have hOw := hOw.below hbJ
              have hOm := hOm.below hbJ
              have hbw := below_step hbw hbJ
              have hCm := Kd.C_below hCm hbJ
              clear hbJ hOJ hv hCI
              simp only []
              go_wp2_with fail
              refine (equal56 ls1 AJ B3 cJ _ _ hCJ hCm (by omega)).mono ?_
              rintro e wK ⟨rfl, hbK⟩
              have hBA := hBA.be hbK
              have hLt := hLt.below hbK
              have hLc := hLc.below hbK
              have hOw := hOw.below hbK
              have hOm := hOm.below hbK
              have hbw := below_step hbw hbK
              have hCm := Kd.C_below hCm hbK
              clear hbK hCJ
              simp only []
              go_wp2_with fail
              refine (lnext_any w.heap.size x _ ls1 _ hLt (by omega)).mono ?_
              rintro e wL ⟨rfl, hbL⟩
              have hBA := hBA.be hbL
              have hLt := hLt.below hbL
              have hLc := hLc.below hbL
              have hOw := hOw.below hbL
              have hOm := hOm.below hbL
              have hbw := below_step hbw hbL
              have hCm := Kd.C_below hCm hbL
              clear hbL
              simp only []
              go_wp2_with fail
              refine (rnext_any B3 _ ls1 _ hCm (by omega)).mono ?_
              rintro e wM ⟨rfl, rfl⟩
              rw [rnext_eq (fun y hy => (hok1.out y hy).2)]
              clear hCm
              simp only []
              go_wp2_with fail
              refine (lall_any _ y _ ls _ hLc (by omega)).mono ?_
              rintro e wI ⟨vI, rfl, hOI, hbI⟩
              obtain ⟨AI, cI, rfl, _, hCI⟩ := own111e hOI
              have hBA := hBA.be hbI
              have hLt := hLt.below hbI
              have hLc := hLc.below hbI
              have hOw := hOw.below hbI
              have hOm := hOm.below hbI
              have hbw := below_step hbw hbI
              clear hbI hOI
              simp only []
              go_wp2_with fail
              refine (lof_any AI ls cI _ hCI (by omega)).mono ?_
              rintro e wJ ⟨AJ, cJ, rfl, hOJ, hbJ⟩
              obtain ⟨AJ', cJ', hv, _, hCJ⟩ := own111e hOJ
              obtain rfl : AJ = AJ' := by injection hv
              have hBA := hBA.be hbJ
              have hLt := hLt.below hbJ
              have hLc := hLc.below hbJ
              have hOw := hOw.below hbJ
              have hOm := hOm.below hbJ
              have hbw := below_step hbw hbJ
              clear hbJ hOJ hv hCI
              obtain ⟨A0', c0', hv, _, hC0⟩ := own111e hOw
              obtain rfl : A0 = A0' := by injection hv
              simp only []
              go_wp2_with fail
              refine (equal56 ls AJ A0 cJ c0 _ hCJ hC0 (by omega)).mono ?_
              rintro e wK ⟨rfl, hbK⟩
              have hBA := hBA.be hbK
              have hLt := hLt.below hbK
              have hLc := hLc.below hbK
              have hOw := hOw.below hbK
              have hOm := hOm.below hbK
              have hbw := below_step hbw hbK
              have hfin : Hid (∃ lq, LI w x (k + 1) (.slice B3 ls1.length d3) lq wK) := ⟨ls1, _, hLt, hOm, hbw, hxw, hok1.out, hl1⟩
              try clear hv
              clear hbK hCJ hC0 hLt hLc hOw hOm hbw hBA
              simp only []
              go_wp2
              go_roundw
              case rel => exact ⟨k + 1, by omega, by go_num, hfin⟩
              case measure => simp [intOf]; omega
      · have hkd2 : (a.f0 % 3 == 2) = false := by rw [beq_eq_false_iff_ne]; exact hkd
        clear hkd
        go_wp2_with fail
        refine (right_any a.f1 _).mono ?_
        rintro e w3 ⟨rfl, hb3⟩
        have hBA := hBA.be hb3
        have hLt := hLt.below hb3
        have hLc := hLc.below hb3
        have hOm := hOm.below hb3
        have hC0 := Kd.C_below hC0 hb3
        have hbw := below_step hbw hb3
        clear hcA hlA hb3
        have hcA := hBA.c; have hlA := hBA.lt
        simp only []
        go_wp2_with fail
        refine (ladd_any w.heap.size x v a.f1 ls _ hLt hbw.size (by omega)).mono ?_
        rintro e w4 ⟨r4, v4, hr4, rfl, hL4, hF4⟩
        have hxB := hLt.blk
        have hBA : Blk w4 bA #[.int .u8 a.f0, .string a.f1.f0, .string a.f1.f1, .int .i64 a.f1.f2, .int .i64 a.f1.f3, .int .i64 a.f2] 113 := hF4.blk hBA (fun e => by
          rcases e with rfl | e
          · exact absurd (blk_ty hBA hxB) (by decide)
          · exact own_nbl hLt.own hBA (by decide) e)
        have hLc := hLc.frc hF4 (fun k e => by
          rcases e with rfl | e
          · exact ⟨hxy, own_nbl hLc.own hxB (by decide)⟩
          · exact ⟨fun h => by subst h; exact own_nbl hLt.own hLc.blk (by decide) e, hvc k e⟩)
        have hOw := hOm.fr hF4 (fun k hk e => by
          rcases e with rfl | e
          · exact own_nbl hOm hxB (by decide) hk
          · exact hOm.ne_own hLt.own (by decide) k hk e)
        have hbw := ((Fr.of_below (S := fun k => w.heap.size ≤ k) hbw).trans hF4 (fun b _ e => by
          rcases e with rfl | e
          · exact hxw
          · exact hLt.own.ge e)).toBelow (fun b hb h => by omega)
        obtain ⟨A0', c0', hv, _, hC0⟩ := own111e hOw
        obtain rfl : A0 = A0' := by injection hv
        clear hcA hlA hF4 hLt hxB hOm hv
        have hcA := hBA.c; have hlA := hBA.lt
        have hLt := hL4
        clear hL4
        simp only []
        cases hrb : rightB a.f1
        · have e1 : addL a.f1 ls = ls := by simp [addL, hrb]
          rw [hrb] at hr4
          rw [e1] at hLt
          simp only [Bool.false_eq_true, if_false] at hr4
          subst hr4
          have hOm := hOw
          have hok1 := HOKL
          have hl1 : ls.length ≤ k + 1 := by omega
          clear e1
          go_wp2_with fail
          clear hC0
          have hok64 : Hid (∀ y ∈ ls, i64 y.f2) := fun y hy => (hok1.out y hy).1
          have hlk : ls.length ≤ 200 := by omega
          obtain ⟨Am, cm, hv, _, hCm⟩ := own111e hOm
          obtain rfl : A0 = Am := by injection hv
          clear hv hcA hlA
          go_loopw [13, 96] (fun v i wr2 => ∃ k2 : Nat, k2 ≤ ls.length ∧ i = .int .i64 k2 ∧ Hid (Own l64 1 2 wr2 w4.heap.size v (mineL a.f1.f0 a.f1.f1 (ls.take k2)) ∧ Below w4.heap.size w4 wr2)) (fun _ i _ => ls.length - (intOf i).toNat)
          case atStart => exact ⟨0, Nat.zero_le _, rfl, hidI ⟨by simp only [List.take_zero]; exact Own.nil _ _ _ _ _, Below.refl _ _⟩⟩
          case round =>
            obtain ⟨k2, hk2, rfl, hI2⟩ := hrel
            have hb2 := hI2.out.2
            by_cases hlt2 : k2 < ls.length
            · obtain ⟨b3, off3, rfl, hx3⟩ := Kp.C_open hCm (by omega) (by decide)
              obtain ⟨z, hze⟩ : ∃ z, z = ls[k2] := ⟨_, rfl⟩
              have q0 : wr.cell? ⟨b3, off3 + k2 * 4, none⟩ = some (.string z.f0) := by rw [hze]; exact pw_cell_below hb2 (hx3 k2 hlt2 0 _ rfl)
              have q1 : wr.cell? ⟨b3, off3 + k2 * 4 + 1, none⟩ = some (.string z.f1) := by rw [hze]; exact pw_cell_below hb2 (hx3 k2 hlt2 1 _ rfl)
              have q2 : wr.cell? ⟨b3, off3 + k2 * 4 + 2, none⟩ = some (.int .i64 z.f2) := by rw [hze]; exact pw_cell_below hb2 (hx3 k2 hlt2 2 _ rfl)
              have q3 : wr.cell? ⟨b3, off3 + k2 * 4 + 3, none⟩ = some (.int .i64 z.f3) := by rw [hze]; exact pw_cell_below hb2 (hx3 k2 hlt2 3 _ rfl)
              obtain ⟨hO1, hb0⟩ := hI2.out
              have hBA := hBA.be hb0
              have hcA := hBA.c; have hlA := hBA.lt
              have HB := hidI (below_new hb0 (.cells #[.string z.f0, .string z.f1, .int .i64 z.f2, .int .i64 z.f3] 118))
              have hsz : w4.heap.size ≤ (wr.alloc (.cells #[.string z.f0, .string z.f1, .int .i64 z.f2, .int .i64 z.f3] 118)).heap.size := HB.out.size
              have hle := mineL_len a.f1.f0 a.f1.f1 (ls.take k2)
              have hlk2 : (ls.take k2).length ≤ 1000000 := by rw [List.length_take]; omega
              have hst : Hid (mineL a.f1.f0 a.f1.f1 (ls.take (k2 + 1)) = mineL a.f1.f0 a.f1.f1 (ls.take k2) ++ if mineB a.f1.f0 a.f1.f1 z = true then [z.f2] else []) := by show _ = _; rw [List.take_succ_eq_append_getElem hlt2, ← hze, mineL_snoc]
              clear hze hI2 hx3 hCm
              generalize mineL a.f1.f0 a.f1.f1 (ls.take k2) = zs at *
              have HO1 := hidI (hO1.alloc (.cells #[.string z.f0, .string z.f1, .int .i64 z.f2, .int .i64 z.f3] 118))
              have hlz : zs.length ≤ 1000000 := by omega
              clear hO1 hb0 hb2
              cases h1 : (z.f0.toList == a.f1.f0.toList)
              · have hst2 : Hid (mineL a.f1.f0 a.f1.f1 (ls.take (k2 + 1)) = zs) := by show _ = _; rw [hst.out]; simp [mineB, h1]
                have hfin : Hid (Own l64 1 2 (wr.alloc (.cells #[.string z.f0, .string z.f1, .int .i64 z.f2, .int .i64 z.f3] 118)) w4.heap.size u13 (mineL a.f1.f0 a.f1.f1 (ls.take (k2 + 1))) ∧ Below w4.heap.size w4 (wr.alloc (.cells #[.string z.f0, .string z.f1, .int .i64 z.f2, .int .i64 z.f3] 118))) := by show _ ∧ _; rw [hst2.out]; exact ⟨HO1.out, HB.out⟩
                clear HO1 HB hst hst2
                go_wp2
                go_roundw
                case rel => exact ⟨k2 + 1, by omega, by go_num, hfin⟩
                case measure => simp [intOf]; omega
              · cases h2 : (z.f1.toList == a.f1.f1.toList)
                · have hst2 : Hid (mineL a.f1.f0 a.f1.f1 (ls.take (k2 + 1)) = zs) := by show _ = _; rw [hst.out]; simp [mineB, h1, h2]
                  have hfin : Hid (Own l64 1 2 (wr.alloc (.cells #[.string z.f0, .string z.f1, .int .i64 z.f2, .int .i64 z.f3] 118)) w4.heap.size u13 (mineL a.f1.f0 a.f1.f1 (ls.take (k2 + 1))) ∧ Below w4.heap.size w4 (wr.alloc (.cells #[.string z.f0, .string z.f1, .int .i64 z.f2, .int .i64 z.f3] 118))) := by show _ ∧ _; rw [hst2.out]; exact ⟨HO1.out, HB.out⟩
                  clear HO1 HB hst hst2
                  go_wp2
                  go_roundw
                  case rel => exact ⟨k2 + 1, by omega, by go_num, hfin⟩
                  case measure => simp [intOf]; omega
                · have hst2 : Hid (mineL a.f1.f0 a.f1.f1 (ls.take (k2 + 1)) = zs ++ [z.f2]) := by show _ = _; rw [hst.out]; simp [mineB, h1, h2]
                  go_wp2_with (at_builtin; refine print_append_cells (w0 := w4) (W := (wr.alloc (.cells #[.string z.f0, .string z.f1, .int .i64 z.f2, .int .i64 z.f3] 118))) w4.heap.size rfl (.tmp 114) (.tmp 117) 45 2 (.int .i64 0) 1 8 rfl Try.underlying45 info2 rfl (by decide) (by decide) u13 zs.length (zs.flatMap l64) [.int .i64 z.f2] (by rfl) (by first | (go_simp; done) | (go_simp; rfl)) rfl (by simp [Value.oneCell']) HO1.out HB.out hsz (by omega) ?_; intro v5 w5 ho5 hb5 hg5 hat5)
                  have hfin : Hid (Own l64 1 2 w5 w4.heap.size v5 (mineL a.f1.f0 a.f1.f1 (ls.take (k2 + 1))) ∧ Below w4.heap.size w4 w5) := by show _ ∧ _; rw [hst2.out]; exact ⟨Own.snoc (p := z.f2) ho5, hb5⟩
                  clear ho5 hb5 hg5 hat5 HO1 HB hst hst2
                  go_wp2
                  go_roundw
                  case rel => exact ⟨k2 + 1, by omega, by go_num, hfin⟩
                  case measure => simp [intOf]; omega
            · have e : k2 = ls.length := by omega
              subst e
              obtain ⟨hO1, hb0⟩ := hI2.out
              rw [List.take_length] at hO1
              have hle := mineL_len a.f1.f0 a.f1.f1 ls
              have hk2' := hidI (mineL_ok (p := a.f1.f0) (c := a.f1.f1) hok64.out)
              obtain ⟨z1, hz⟩ : ∃ z1, z1 = mineL a.f1.f0 a.f1.f1 ls := ⟨_, rfl⟩
              rw [← hz] at hO1 hle hk2'
              have HZ := hidI hz
              obtain ⟨A1, c1, rfl, _, hC1⟩ := own64 hO1
              clear hI2 hb2 hz hO1 hlt2 hk2
              have hBA := hBA.be hb0
              have hLt := hLt.below hb0
              have hLc := hLc.below hb0
              have hOw := hOw.below hb0
              have hOm := hOm.below hb0
              have hbw := below_step hbw hb0
              have hCm := Kd.C_below hCm hb0
              clear hb0
              have hcA := hBA.c; have hlA := hBA.lt
              go_wp2_with fail
              refine (held_any w.heap.size x _ a.f1.f0 a.f1.f1 ls _ hLt (by omega) hok64.out).mono ?_
              rintro e wH ⟨s, r, hs, hr, rfl, hbH⟩
              rw [← HZ.out] at hs hr
              have HS := hidI hs
              have HR := hidI hr
              clear hs hr
              have hBA := hBA.be hbH
              have hLt := hLt.below hbH
              have hLc := hLc.below hbH
              have hOw := hOw.below hbH
              have hOm := hOm.below hbH
              have hbw := below_step hbw hbH
              have hCm := Kd.C_below hCm hbH
              have hC1 := Kd.C_below hC1 hbH
              clear hbH hcA hlA
              have hcA := hBA.c; have hlA := hBA.lt
              simp only []
              go_wp2_with fail
              refine (rsum_any A1 z1 c1 _ hC1 (by omega) hk2'.out).mono ?_
              rintro e wG ⟨rfl, rfl⟩
              rw [← HS.out]
              have hsr : (sumOk z1 = true ∧ r = 0) ∨ (sumOk z1 = false ∧ r = 2 ∧ s = 0) := by
                rw [HR.out, HS.out]
                unfold sumE sumN sumOk
                cases sumL 0 z1 <;> simp
              have hss : (s != s) = false := by simp
              clear hC1 hcA hlA
              simp only []
              rcases hsr with ⟨hok2, hr⟩ | ⟨hok2, hr, hs⟩
              all_goals
                rw [hok2]
                subst hr
                clear hok2
                go_wp2_with fail
                refine (lall_any w.heap.size x _ ls _ hLt (by omega)).mono ?_
                rintro e wI ⟨vI, rfl, hOI, hbI⟩
                obtain ⟨AI, cI, rfl, _, hCI⟩ := own111e hOI
                have hBA := hBA.be hbI
                have hLt := hLt.below hbI
                have hLc := hLc.below hbI
                have hOw := hOw.below hbI
                have hOm := hOm.below hbI
                have hbw := below_step hbw hbI
                have hCm := Kd.C_below hCm hbI
                clear hbI hOI
                simp only []
                go_wp2_with fail
                refine (lof_any AI ls cI _ hCI (by omega)).mono ?_
                rintro e wJ ⟨AJ, cJ, rfl, hOJ, hbJ⟩
                obtain ⟨AJ', cJ', hv, _, hCJ⟩ := own111e hOJ
                obtain rfl : AJ = AJ' := by injection hv
                have hBA := hBA.be hbJ
                have hLt := hLt.below hbJ
                have hLc := hLc.below hbJ
                have hOw := hOw.below hbJ
                have hOm := hOm.below hbJ
                have hbw := below_step hbw hbJ
                have hCm := Kd.C_below hCm hbJ
                clear hbJ hOJ hv hCI
                simp only []
                go_wp2_with fail
                refine (equal56 ls AJ A0 cJ _ _ hCJ hCm (by omega)).mono ?_
                rintro e wK ⟨rfl, hbK⟩
                have hBA := hBA.be hbK
                have hLt := hLt.below hbK
                have hLc := hLc.below hbK
                have hOw := hOw.below hbK
                have hOm := hOm.below hbK
                have hbw := below_step hbw hbK
                have hCm := Kd.C_below hCm hbK
                clear hbK hCJ
                simp only []
                go_wp2_with fail
                refine (lnext_any w.heap.size x _ ls _ hLt (by omega)).mono ?_
                rintro e wL ⟨rfl, hbL⟩
                have hBA := hBA.be hbL
                have hLt := hLt.below hbL
                have hLc := hLc.below hbL
                have hOw := hOw.below hbL
                have hOm := hOm.below hbL
                have hbw := below_step hbw hbL
                have hCm := Kd.C_below hCm hbL
                clear hbL
                simp only []
                go_wp2_with fail
                refine (rnext_any A0 _ ls _ hCm (by omega)).mono ?_
                rintro e wM ⟨rfl, rfl⟩
                rw [rnext_eq (fun y hy => (hok1.out y hy).2)]
                clear hCm
                simp only []
                go_wp2_with fail
                refine (lall_any _ y _ ls _ hLc (by omega)).mono ?_
                rintro e wI ⟨vI, rfl, hOI, hbI⟩
                obtain ⟨AI, cI, rfl, _, hCI⟩ := own111e hOI
                have hBA := hBA.be hbI
                have hLt := hLt.below hbI
                have hLc := hLc.below hbI
                have hOw := hOw.below hbI
                have hOm := hOm.below hbI
                have hbw := below_step hbw hbI
                clear hbI hOI
                simp only []
                go_wp2_with fail
                refine (lof_any AI ls cI _ hCI (by omega)).mono ?_
                rintro e wJ ⟨AJ, cJ, rfl, hOJ, hbJ⟩
                obtain ⟨AJ', cJ', hv, _, hCJ⟩ := own111e hOJ
                obtain rfl : AJ = AJ' := by injection hv
                have hBA := hBA.be hbJ
                have hLt := hLt.below hbJ
                have hLc := hLc.below hbJ
                have hOw := hOw.below hbJ
                have hOm := hOm.below hbJ
                have hbw := below_step hbw hbJ
                clear hbJ hOJ hv hCI
                obtain ⟨A0', c0', hv, _, hC0⟩ := own111e hOw
                obtain rfl : A0 = A0' := by injection hv
                simp only []
                go_wp2_with fail
                refine (equal56 ls AJ A0 cJ c0 _ hCJ hC0 (by omega)).mono ?_
                rintro e wK ⟨rfl, hbK⟩
                have hBA := hBA.be hbK
                have hLt := hLt.below hbK
                have hLc := hLc.below hbK
                have hOw := hOw.below hbK
                have hOm := hOm.below hbK
                have hbw := below_step hbw hbK
                have hfin : Hid (∃ lq, LI w x (k + 1) (.slice A0 ls.length c0) lq wK) := ⟨ls, _, hLt, hOm, hbw, hxw, hok1.out, hl1⟩
                try clear hv
                clear hbK hCJ hC0 hLt hLc hOw hOm hbw hBA
                simp only []
                go_wp2
                go_roundw
                case rel => exact ⟨k + 1, by omega, by go_num, hfin⟩
                case measure => simp [intOf]; omega
        · rw [hrb] at hr4
          simp only [if_true] at hr4
          subst hr4
          have hdue : 0 ≤ a.f1.f3 := by simp only [rightB, Bool.and_eq_true, decide_eq_true_eq] at hrb; exact hrb.2
          by_cases hpos : 0 < a.f1.f2
          · have e1 : addL a.f1 ls = ls ++ [a.f1] := by simp [addL, hrb, hpos]
            rw [e1] at hLt
            clear e1
            go_wp2_with fail
            generalize w4 = W at *
            refine start_ (n := 7) (S := fun w' => w'.cell? ⟨bA, 1, none⟩ = some (.string a.f1.f0) ∧ w'.cell? ⟨bA, 2, none⟩ = some (.string a.f1.f1) ∧ w'.cell? ⟨bA, 3, none⟩ = some (.int .i64 a.f1.f2) ∧ w'.cell? ⟨bA, 4, none⟩ = some (.int .i64 a.f1.f3)) (ds := []) #[false, false, false, false, false, false, false] (by kernel_rfl) rfl rfl ⟨(by rw [World.cell?_drew, hBA.c]; rfl), (by rw [World.cell?_drew, hBA.c]; rfl), (by rw [World.cell?_drew, hBA.c]; rfl), (by rw [World.cell?_drew, hBA.c]; rfl)⟩ (fun hHeld => ?_)
            refine pure_ (i := 0) (N := some 88) (v := ?_) (a' := ?_) #[true, false, false, false, false, false, false] rfl rfl (by kernel_rfl) (fun _ _ _ h => h) (Or.inl ⟨by rfl, ?_⟩) ?_ ?_
            rotate_left
            · intro w'
              go_simp
              with_reducible rfl
            rotate_left
            · simp only [Act.put, List.setIfInBounds_toArray, List.set_cons_zero, List.set_cons_succ, i64_w, i32_w]
              rfl
            refine pure_ (i := 2) (N := some 90) (v := ?_) (a' := ?_) #[true, false, true, false, false, false, false] rfl rfl (by kernel_rfl) (fun _ _ _ h => h) (Or.inl ⟨by rfl, ?_⟩) ?_ ?_
            rotate_left
            · intro w'
              go_simp
              with_reducible rfl
            rotate_left
            · simp only [Act.put, List.setIfInBounds_toArray, List.set_cons_zero, List.set_cons_succ, i64_w, i32_w]
              rfl
            refine take_ (i := 3) (N := some 91) (v := ?_) (a' := ?_) #[true, false, true, true, false, false, false] rfl rfl (by kernel_rfl) (fun _ _ _ h => h) (Or.inl ⟨by rfl, ?_⟩) hHeld ?_ ?_
            rotate_left
            · rintro w' ⟨s0, s1, s2, s3⟩
              go_simp
              with_reducible rfl
            rotate_left
            · simp only [Act.put, List.setIfInBounds_toArray, List.set_cons_zero, List.set_cons_succ, i64_w, i32_w]
              rfl
            refine join_ (σ := Value × Value) 2 #[true, true, true, true, true, false, false] (fun s => [(89, s.1), (92, s.2)]) (fun s w' => ∃ v3 bS base3, s.1 = v3 ∧ s.2 = .slice (some ⟨bS, 0, none⟩) 1 1 ∧ Own A111.l 4 118 w' base3 v3 ls ∧ W.heap.size ≤ base3 ∧ base3 ≤ w'.heap.size ∧ Blk w' bS #[.string a.f1.f0, .string a.f1.f1, .int .i64 a.f1.f2, .int .i64 a.f1.f3] 118 ∧ Blk w' bA #[.int .u8 a.f0, .string a.f1.f0, .string a.f1.f1, .int .i64 a.f1.f2, .int .i64 a.f1.f3, .int .i64 a.f2] 113 ∧ Below W.heap.size W w') ?_ ?_
            rotate_left
            · intro hCont
              refine two_ (i := 1) (j := 4) (Ni := some 89) (Nj := some 92) #[true, true, true, true, false, false, false] #[true, false, true, true, true, false, false] rfl rfl rfl rfl (by kernel_rfl) (by decide) (by decide) (fun K hK => ?_) (fun K hK => ?_)
              · skip
                have hBA := hBA.dr
                refine goes_ Try.func61 (by kernel_rfl) rfl #[.slice A0 ls.length c0] (by rfl) rfl rfl (by simp only [List.map_toArray, List.map_cons, List.map_nil]; rfl) ?_
                with_reducible refine (clone118 ls A0 c0 _ hn0 (Kd.C_below hC0 (Below.refl _ _).drew) (by omega)).mono ?_
                rintro e w3 ⟨v3, rfl, hO3, hb3⟩
                refine ⟨_, rfl, ?_⟩
                have hBA := hBA.be hb3
                have hbC := below_step (Below.refl W.heap.size W).drew hb3
                refine hK.out _ _ ⟨(by rw [hBA.c]; rfl), (by rw [hBA.c]; rfl), (by rw [hBA.c]; rfl), (by rw [hBA.c]; rfl)⟩ (fun hHeld => ?_)
                clear hK K
                refine norm_ (a' := ?_) ?_ ?_
                rotate_left
                · show Act.put _ (some 89) _ = _
                  simp only [Act.put, List.setIfInBounds_toArray, List.set_cons_zero, List.set_cons_succ, i64_w, i32_w]
                  rfl
                refine one_ (i := 4) (N := some 92) #[true, true, true, true, true, false, false] rfl rfl (by kernel_rfl) (by decide) (fun K hK => ?_)
                refine value_ (w1 := ?_) (v := ?_) (by rfl) rfl ?_ ?_
                rotate_left 2
                · go_simp
                  constructor
                  · rfl
                  · rfl
                have hBS := Blk.new' (w := w3) (b := w3.heap.size) (cs := #[.string a.f1.f0, .string a.f1.f1, .int .i64 a.f1.f2, .int .i64 a.f1.f3]) (T := 118) rfl
                have hO3 := hO3.alloc (.cells #[.string a.f1.f0, .string a.f1.f1, .int .i64 a.f1.f2, .int .i64 a.f1.f3] 118)
                have hBA := hBA.al (.cells #[.string a.f1.f0, .string a.f1.f1, .int .i64 a.f1.f2, .int .i64 a.f1.f3] 118)
                have hbS3 := below_new hbC (.cells #[.string a.f1.f0, .string a.f1.f1, .int .i64 a.f1.f2, .int .i64 a.f1.f3] 118)
                refine hK.out _ _ ⟨(by rw [hBA.c]; rfl), (by rw [hBA.c]; rfl), (by rw [hBA.c]; rfl), (by rw [hBA.c]; rfl)⟩ (fun hHeld => ?_)
                clear hK K
                refine norm_ (a' := ?_) ?_ ?_
                rotate_left
                · show Act.put _ (some 92) _ = _
                  simp only [Act.put, List.setIfInBounds_toArray, List.set_cons_zero, List.set_cons_succ, i64_w, i32_w]
                  rfl
                exact norm_ (by first | (simp only [putAll, Act.put, List.setIfInBounds_toArray, List.set_cons_zero, List.set_cons_succ]; done) | (simp only [putAll, Act.put, List.setIfInBounds_toArray, List.set_cons_zero, List.set_cons_succ]; rfl)) (hCont (v3, .slice (some ⟨w3.heap.size, 0, none⟩) 1 1) _ ⟨v3, w3.heap.size, W.drew.heap.size, rfl, rfl, hO3, Nat.le_refl _, hbS3.size, hBS, hBA, hbS3⟩)
              · skip
                have hBA := hBA.dr
                refine value_ (w1 := ?_) (v := ?_) (by rfl) rfl ?_ ?_
                rotate_left 2
                · go_simp
                  constructor
                  · rfl
                  · rfl
                have hBS := (Blk.new' (w := W) (b := W.heap.size) (cs := #[.string a.f1.f0, .string a.f1.f1, .int .i64 a.f1.f2, .int .i64 a.f1.f3]) (T := 118) rfl).dr
                have hBA := ((show Blk W bA #[.int .u8 a.f0, .string a.f1.f0, .string a.f1.f1, .int .i64 a.f1.f2, .int .i64 a.f1.f3, .int .i64 a.f2] 113 from hBA).al (.cells #[.string a.f1.f0, .string a.f1.f1, .int .i64 a.f1.f2, .int .i64 a.f1.f3] 118)).dr
                have hbS := (below_new (Below.refl W.heap.size W) (.cells #[.string a.f1.f0, .string a.f1.f1, .int .i64 a.f1.f2, .int .i64 a.f1.f3] 118)).drew
                refine hK.out _ _ ⟨(by rw [hBA.c]; rfl), (by rw [hBA.c]; rfl), (by rw [hBA.c]; rfl), (by rw [hBA.c]; rfl)⟩ (fun hHeld => ?_)
                clear hK K
                refine norm_ (a' := ?_) ?_ ?_
                rotate_left
                · show Act.put _ (some 92) _ = _
                  simp only [Act.put, List.setIfInBounds_toArray, List.set_cons_zero, List.set_cons_succ, i64_w, i32_w]
                  rfl
                refine one_ (i := 1) (N := some 89) #[true, true, true, true, true, false, false] rfl rfl (by kernel_rfl) (by decide) (fun K hK => ?_)
                refine goes_ Try.func61 (by kernel_rfl) rfl #[.slice A0 ls.length c0] (by rfl) rfl rfl (by simp only [List.map_toArray, List.map_cons, List.map_nil]; rfl) ?_
                with_reducible refine (clone118 ls A0 c0 _ hn0 (Kd.C_below hC0 hbS) (by omega)).mono ?_
                rintro e w3 ⟨v3, rfl, hO3, hb3⟩
                refine ⟨_, rfl, ?_⟩
                have hBA := hBA.be hb3
                have hBS := hBS.be hb3
                have hbS3 := below_step hbS hb3
                refine hK.out _ _ ⟨(by rw [hBA.c]; rfl), (by rw [hBA.c]; rfl), (by rw [hBA.c]; rfl), (by rw [hBA.c]; rfl)⟩ (fun hHeld => ?_)
                clear hK K
                refine norm_ (a' := ?_) ?_ ?_
                rotate_left
                · show Act.put _ (some 89) _ = _
                  simp only [Act.put, List.setIfInBounds_toArray, List.set_cons_zero, List.set_cons_succ, i64_w, i32_w]
                  rfl
                exact norm_ (by first | (simp only [putAll, Act.put, List.setIfInBounds_toArray, List.set_cons_zero, List.set_cons_succ]; done) | (simp only [putAll, Act.put, List.setIfInBounds_toArray, List.set_cons_zero, List.set_cons_succ]; rfl)) (hCont (v3, .slice (some ⟨W.drew.heap.size, 0, none⟩) 1 1) _ ⟨v3, W.drew.heap.size, _, rfl, rfl, hO3, hbS.size, hb3.size, hBS, hBA, hbS3⟩)
            rintro ⟨s1, s2⟩ w6 ⟨v3, bS, base3, e1, e2, hO3, hB3, hB3', hBS, hBA, hb6⟩
            dsimp only at e1 e2
            subst e1 e2
            have hHeld : w6.cell? ⟨bA, 1, none⟩ = some (.string a.f1.f0) ∧ w6.cell? ⟨bA, 2, none⟩ = some (.string a.f1.f1) ∧ w6.cell? ⟨bA, 3, none⟩ = some (.int .i64 a.f1.f2) ∧ w6.cell? ⟨bA, 4, none⟩ = some (.int .i64 a.f1.f3) := ⟨(by rw [hBA.c]; rfl), (by rw [hBA.c]; rfl), (by rw [hBA.c]; rfl), (by rw [hBA.c]; rfl)⟩
            refine norm_ (a' := ?_) ?_ ?_
            rotate_left
            · simp only [putAll, Act.put, List.setIfInBounds_toArray, List.set_cons_zero, List.set_cons_succ]
              rfl
            refine one_ (i := 5) (N := some 93) #[true, true, true, true, true, true, false] rfl rfl (by kernel_rfl) (by decide) (fun K hK => ?_)
            obtain ⟨i0, hi0, hz0, hz1, hz2⟩ := info_parts info118
            have hRd : Reads w6 w6.heap.size 4 (some ⟨bS, 0, none⟩) 1 [.string a.f1.f0, .string a.f1.f1, .int .i64 a.f1.f2, .int .i64 a.f1.f3] := ⟨rfl, fun _ => ⟨_, rfl, hBS.lt, fun j u hu => by rw [Kp.add_plain', Nat.zero_add, hBS.c]; simpa using hu⟩⟩
            refine step_append_any w6 rfl (.tmp 89) (.tmp 92) 109 rfl base3 118 i0 (.agg #[(.string ⟨#[]⟩), (.string ⟨#[]⟩), (.int .i64 0), (.int .i64 0)]) 4 48 Try.underlying109 hi0 hz0 hz1 hz2 rfl (by decide) s1 ls.length (ls.flatMap A111.l) (by rfl) hO3 w6.heap.size (some ⟨bS, 0, none⟩) 1 1 [.string a.f1.f0, .string a.f1.f1, .int .i64 a.f1.f2, .int .i64 a.f1.f3] (by rfl) hRd (by simp [Value.oneCell']) (by simp only [maxLen]; omega) (by omega) hB3' ?_
            intro v7 w7 ho7 hg7 hat7
            have hO7 := Own.snoc (p := a.f1) ho7
            have hb7 := hb6.grown hg7 hb6.size (fun k hk => by have h1 := hO3.ge hk; omega)
            have hBA := Blk.gb hBA hg7 (fun h => own_nbl hO3 hBA (by decide) h.symm)
            refine hK.out _ _ ⟨(by rw [hBA.c]; rfl), (by rw [hBA.c]; rfl), (by rw [hBA.c]; rfl), (by rw [hBA.c]; rfl)⟩ (fun hHeld => ?_)
            clear hK K
            refine norm_ (a' := ?_) ?_ ?_
            rotate_left
            · show Act.put _ (some 93) _ = _
              simp only [Act.put, List.setIfInBounds_toArray, List.set_cons_zero, List.set_cons_succ, i64_w, i32_w]
              rfl
            refine pure_ (i := 6) (N := some 4) (v := ?_) (a' := ?_) #[true, true, true, true, true, true, true] rfl rfl (by kernel_rfl) (fun _ _ _ h => h) (Or.inl ⟨by rfl, ?_⟩) ?_ ?_
            rotate_left
            · intro w'
              go_simp
              with_reducible rfl
            rotate_left
            · simp only [Act.put, List.setIfInBounds_toArray, List.set_cons_zero, List.set_cons_succ, i64_w, i32_w]
              rfl
            refine done_ (by kernel_rfl) ?_
            have hLt := hLt.below hb7
            have hLc := hLc.below hb7
            have hOw := hOw.below hb7
            have hOm := hO7.lower (base' := w.heap.size) (by have := hbw.size; omega)
            have hbw := below_step hbw hb7
            have hok1 : Hid (∀ y ∈ ls ++ [a.f1], i64 y.f2 ∧ 0 ≤ y.f3) := fun y hy => by
              rcases List.mem_append.1 hy with h | h
              · exact HOKL.out y h
              · rw [List.mem_singleton.1 h]; exact ⟨HAM.out, hdue⟩
            have hl1 : (ls ++ [a.f1]).length ≤ k + 1 := by simp; omega
            clear hcA hlA hHeld hb7 hO7 ho7 hg7 hat7 hC0 hrb hO3 hB3 hB3' hBS hb6 hRd
            have hcA := hBA.c; have hlA := hBA.lt
            generalize ls ++ [a.f1] = ls1 at *
            obtain ⟨A7, c7, rfl, _⟩ := hOm.slice_
            go_wp2_with fail
            have hok64 : Hid (∀ y ∈ ls1, i64 y.f2) := fun y hy => (hok1.out y hy).1
            have hlk : ls1.length ≤ 200 := by omega
            obtain ⟨Am, cm, hv, _, hCm⟩ := own111e hOm
            obtain rfl : A7 = Am := by injection hv
            clear hv hcA hlA
            go_loopw [13, 96] (fun v i wr2 => ∃ k2 : Nat, k2 ≤ ls1.length ∧ i = .int .i64 k2 ∧ Hid (Own l64 1 2 wr2 w7.heap.size v (mineL a.f1.f0 a.f1.f1 (ls1.take k2)) ∧ Below w7.heap.size w7 wr2)) (fun _ i _ => ls1.length - (intOf i).toNat)
            case atStart => exact ⟨0, Nat.zero_le _, rfl, hidI ⟨by simp only [List.take_zero]; exact Own.nil _ _ _ _ _, Below.refl _ _⟩⟩
            case round =>
              obtain ⟨k2, hk2, rfl, hI2⟩ := hrel
              have hb2 := hI2.out.2
              by_cases hlt2 : k2 < ls1.length
              · obtain ⟨b3, off3, rfl, hx3⟩ := Kp.C_open hCm (by omega) (by decide)
                obtain ⟨z, hze⟩ : ∃ z, z = ls1[k2] := ⟨_, rfl⟩
                have q0 : wr.cell? ⟨b3, off3 + k2 * 4, none⟩ = some (.string z.f0) := by rw [hze]; exact pw_cell_below hb2 (hx3 k2 hlt2 0 _ rfl)
                have q1 : wr.cell? ⟨b3, off3 + k2 * 4 + 1, none⟩ = some (.string z.f1) := by rw [hze]; exact pw_cell_below hb2 (hx3 k2 hlt2 1 _ rfl)
                have q2 : wr.cell? ⟨b3, off3 + k2 * 4 + 2, none⟩ = some (.int .i64 z.f2) := by rw [hze]; exact pw_cell_below hb2 (hx3 k2 hlt2 2 _ rfl)
                have q3 : wr.cell? ⟨b3, off3 + k2 * 4 + 3, none⟩ = some (.int .i64 z.f3) := by rw [hze]; exact pw_cell_below hb2 (hx3 k2 hlt2 3 _ rfl)
                obtain ⟨hO1, hb0⟩ := hI2.out
                have hBA := hBA.be hb0
                have hcA := hBA.c; have hlA := hBA.lt
                have HB := hidI (below_new hb0 (.cells #[.string z.f0, .string z.f1, .int .i64 z.f2, .int .i64 z.f3] 118))
                have hsz : w7.heap.size ≤ (wr.alloc (.cells #[.string z.f0, .string z.f1, .int .i64 z.f2, .int .i64 z.f3] 118)).heap.size := HB.out.size
                have hle := mineL_len a.f1.f0 a.f1.f1 (ls1.take k2)
                have hlk2 : (ls1.take k2).length ≤ 1000000 := by rw [List.length_take]; omega
                have hst : Hid (mineL a.f1.f0 a.f1.f1 (ls1.take (k2 + 1)) = mineL a.f1.f0 a.f1.f1 (ls1.take k2) ++ if mineB a.f1.f0 a.f1.f1 z = true then [z.f2] else []) := by show _ = _; rw [List.take_succ_eq_append_getElem hlt2, ← hze, mineL_snoc]
                clear hze hI2 hx3 hCm
                generalize mineL a.f1.f0 a.f1.f1 (ls1.take k2) = zs at *
                have HO1 := hidI (hO1.alloc (.cells #[.string z.f0, .string z.f1, .int .i64 z.f2, .int .i64 z.f3] 118))
                have hlz : zs.length ≤ 1000000 := by omega
                clear hO1 hb0 hb2
                cases h1 : (z.f0.toList == a.f1.f0.toList)
                · have hst2 : Hid (mineL a.f1.f0 a.f1.f1 (ls1.take (k2 + 1)) = zs) := by show _ = _; rw [hst.out]; simp [mineB, h1]
                  have hfin : Hid (Own l64 1 2 (wr.alloc (.cells #[.string z.f0, .string z.f1, .int .i64 z.f2, .int .i64 z.f3] 118)) w7.heap.size u13 (mineL a.f1.f0 a.f1.f1 (ls1.take (k2 + 1))) ∧ Below w7.heap.size w7 (wr.alloc (.cells #[.string z.f0, .string z.f1, .int .i64 z.f2, .int .i64 z.f3] 118))) := by show _ ∧ _; rw [hst2.out]; exact ⟨HO1.out, HB.out⟩
                  clear HO1 HB hst hst2
                  go_wp2
                  go_roundw
                  case rel => exact ⟨k2 + 1, by omega, by go_num, hfin⟩
                  case measure => simp [intOf]; omega
                · cases h2 : (z.f1.toList == a.f1.f1.toList)
                  · have hst2 : Hid (mineL a.f1.f0 a.f1.f1 (ls1.take (k2 + 1)) = zs) := by show _ = _; rw [hst.out]; simp [mineB, h1, h2]
                    have hfin : Hid (Own l64 1 2 (wr.alloc (.cells #[.string z.f0, .string z.f1, .int .i64 z.f2, .int .i64 z.f3] 118)) w7.heap.size u13 (mineL a.f1.f0 a.f1.f1 (ls1.take (k2 + 1))) ∧ Below w7.heap.size w7 (wr.alloc (.cells #[.string z.f0, .string z.f1, .int .i64 z.f2, .int .i64 z.f3] 118))) := by show _ ∧ _; rw [hst2.out]; exact ⟨HO1.out, HB.out⟩
                    clear HO1 HB hst hst2
                    go_wp2
                    go_roundw
                    case rel => exact ⟨k2 + 1, by omega, by go_num, hfin⟩
                    case measure => simp [intOf]; omega
                  · have hst2 : Hid (mineL a.f1.f0 a.f1.f1 (ls1.take (k2 + 1)) = zs ++ [z.f2]) := by show _ = _; rw [hst.out]; simp [mineB, h1, h2]
                    go_wp2_with (at_builtin; refine print_append_cells (w0 := w7) (W := (wr.alloc (.cells #[.string z.f0, .string z.f1, .int .i64 z.f2, .int .i64 z.f3] 118))) w7.heap.size rfl (.tmp 114) (.tmp 117) 45 2 (.int .i64 0) 1 8 rfl Try.underlying45 info2 rfl (by decide) (by decide) u13 zs.length (zs.flatMap l64) [.int .i64 z.f2] (by rfl) (by first | (go_simp; done) | (go_simp; rfl)) rfl (by simp [Value.oneCell']) HO1.out HB.out hsz (by omega) ?_; intro v5 w5 ho5 hb5 hg5 hat5)
                    have hfin : Hid (Own l64 1 2 w5 w7.heap.size v5 (mineL a.f1.f0 a.f1.f1 (ls1.take (k2 + 1))) ∧ Below w7.heap.size w7 w5) := by show _ ∧ _; rw [hst2.out]; exact ⟨Own.snoc (p := z.f2) ho5, hb5⟩
                    clear ho5 hb5 hg5 hat5 HO1 HB hst hst2
                    go_wp2
                    go_roundw
                    case rel => exact ⟨k2 + 1, by omega, by go_num, hfin⟩
                    case measure => simp [intOf]; omega
              · have e : k2 = ls1.length := by omega
                subst e
                obtain ⟨hO1, hb0⟩ := hI2.out
                rw [List.take_length] at hO1
                have hle := mineL_len a.f1.f0 a.f1.f1 ls1
                have hk2' := hidI (mineL_ok (p := a.f1.f0) (c := a.f1.f1) hok64.out)
                obtain ⟨z1, hz⟩ : ∃ z1, z1 = mineL a.f1.f0 a.f1.f1 ls1 := ⟨_, rfl⟩
                rw [← hz] at hO1 hle hk2'
                have HZ := hidI hz
                obtain ⟨A1, c1, rfl, _, hC1⟩ := own64 hO1
                clear hI2 hb2 hz hO1 hlt2 hk2
                have hBA := hBA.be hb0
                have hLt := hLt.below hb0
                have hLc := hLc.below hb0
                have hOw := hOw.below hb0
                have hOm := hOm.below hb0
                have hbw := below_step hbw hb0
                have hCm := Kd.C_below hCm hb0
                clear hb0
                have hcA := hBA.c; have hlA := hBA.lt
                go_wp2_with fail
                refine (held_any w.heap.size x _ a.f1.f0 a.f1.f1 ls1 _ hLt (by omega) hok64.out).mono ?_
                rintro e wH ⟨s, r, hs, hr, rfl, hbH⟩
                rw [← HZ.out] at hs hr
                have HS := hidI hs
                have HR := hidI hr
                clear hs hr
                have hBA := hBA.be hbH
                have hLt := hLt.below hbH
                have hLc := hLc.below hbH
                have hOw := hOw.below hbH
                have hOm := hOm.below hbH
                have hbw := below_step hbw hbH
                have hCm := Kd.C_below hCm hbH
                have hC1 := Kd.C_below hC1 hbH
                clear hbH hcA hlA
                have hcA := hBA.c; have hlA := hBA.lt
                simp only []
                go_wp2_with fail
                refine (rsum_any A1 z1 c1 _ hC1 (by omega) hk2'.out).mono ?_
                rintro e wG ⟨rfl, rfl⟩
                rw [← HS.out]
                have hsr : (sumOk z1 = true ∧ r = 0) ∨ (sumOk z1 = false ∧ r = 2 ∧ s = 0) := by
                  rw [HR.out, HS.out]
                  unfold sumE sumN sumOk
                  cases sumL 0 z1 <;> simp
                have hss : (s != s) = false := by simp
                clear hC1 hcA hlA
                simp only []
                rcases hsr with ⟨hok2, hr⟩ | ⟨hok2, hr, hs⟩
                all_goals
                  rw [hok2]
                  subst hr
                  clear hok2
                  go_wp2_with fail
                  refine (lall_any w.heap.size x _ ls1 _ hLt (by omega)).mono ?_
                  rintro e wI ⟨vI, rfl, hOI, hbI⟩
                  obtain ⟨AI, cI, rfl, _, hCI⟩ := own111e hOI
                  have hBA := hBA.be hbI
                  have hLt := hLt.below hbI
                  have hLc := hLc.below hbI
                  have hOw := hOw.below hbI
                  have hOm := hOm.below hbI
                  have hbw := below_step hbw hbI
                  have hCm := Kd.C_below hCm hbI
                  clear hbI hOI
                  simp only []
                  go_wp2_with fail
                  refine (lof_any AI ls1 cI _ hCI (by omega)).mono ?_
                  rintro e wJ ⟨AJ, cJ, rfl, hOJ, hbJ⟩
                  obtain ⟨AJ', cJ', hv, _, hCJ⟩ := own111e hOJ
                  obtain rfl : AJ = AJ' := by injection hv
                  have hBA := hBA.be hbJ
                  have hLt := hLt.below hbJ
                  have hLc := hLc.below hbJ
                  have hOw := hOw.below hbJ
                  have hOm := hOm.below hbJ
                  have hbw := below_step hbw hbJ
                  have hCm := Kd.C_below hCm hbJ
                  clear hbJ hOJ hv hCI
                  simp only []
                  go_wp2_with fail
                  refine (equal56 ls1 AJ A7 cJ _ _ hCJ hCm (by omega)).mono ?_
                  rintro e wK ⟨rfl, hbK⟩
                  have hBA := hBA.be hbK
                  have hLt := hLt.below hbK
                  have hLc := hLc.below hbK
                  have hOw := hOw.below hbK
                  have hOm := hOm.below hbK
                  have hbw := below_step hbw hbK
                  have hCm := Kd.C_below hCm hbK
                  clear hbK hCJ
                  simp only []
                  go_wp2_with fail
                  refine (lnext_any w.heap.size x _ ls1 _ hLt (by omega)).mono ?_
                  rintro e wL ⟨rfl, hbL⟩
                  have hBA := hBA.be hbL
                  have hLt := hLt.below hbL
                  have hLc := hLc.below hbL
                  have hOw := hOw.below hbL
                  have hOm := hOm.below hbL
                  have hbw := below_step hbw hbL
                  have hCm := Kd.C_below hCm hbL
                  clear hbL
                  simp only []
                  go_wp2_with fail
                  refine (rnext_any A7 _ ls1 _ hCm (by omega)).mono ?_
                  rintro e wM ⟨rfl, rfl⟩
                  rw [rnext_eq (fun y hy => (hok1.out y hy).2)]
                  clear hCm
                  simp only []
                  go_wp2_with fail
                  refine (lall_any _ y _ ls _ hLc (by omega)).mono ?_
                  rintro e wI ⟨vI, rfl, hOI, hbI⟩
                  obtain ⟨AI, cI, rfl, _, hCI⟩ := own111e hOI
                  have hBA := hBA.be hbI
                  have hLt := hLt.below hbI
                  have hLc := hLc.below hbI
                  have hOw := hOw.below hbI
                  have hOm := hOm.below hbI
                  have hbw := below_step hbw hbI
                  clear hbI hOI
                  simp only []
                  go_wp2_with fail
                  refine (lof_any AI ls cI _ hCI (by omega)).mono ?_
                  rintro e wJ ⟨AJ, cJ, rfl, hOJ, hbJ⟩
                  obtain ⟨AJ', cJ', hv, _, hCJ⟩ := own111e hOJ
                  obtain rfl : AJ = AJ' := by injection hv
                  have hBA := hBA.be hbJ
                  have hLt := hLt.below hbJ
                  have hLc := hLc.below hbJ
                  have hOw := hOw.below hbJ
                  have hOm := hOm.below hbJ
                  have hbw := below_step hbw hbJ
                  clear hbJ hOJ hv hCI
                  obtain ⟨A0', c0', hv, _, hC0⟩ := own111e hOw
                  obtain rfl : A0 = A0' := by injection hv
                  simp only []
                  go_wp2_with fail
                  refine (equal56 ls AJ A0 cJ c0 _ hCJ hC0 (by omega)).mono ?_
                  rintro e wK ⟨rfl, hbK⟩
                  have hBA := hBA.be hbK
                  have hLt := hLt.below hbK
                  have hLc := hLc.below hbK
                  have hOw := hOw.below hbK
                  have hOm := hOm.below hbK
                  have hbw := below_step hbw hbK
                  have hfin : Hid (∃ lq, LI w x (k + 1) (.slice A7 ls1.length c7) lq wK) := ⟨ls1, _, hLt, hOm, hbw, hxw, hok1.out, hl1⟩
                  try clear hv
                  clear hbK hCJ hC0 hLt hLc hOw hOm hbw hBA
                  simp only []
                  go_wp2
                  go_roundw
                  case rel => exact ⟨k + 1, by omega, by go_num, hfin⟩
                  case measure => simp [intOf]; omega
          · have e1 : addL a.f1 ls = ls := by simp [addL, hpos]
            rw [e1] at hLt
            have hOm := hOw
            have hok1 := HOKL
            have hl1 : ls.length ≤ k + 1 := by omega
            clear e1 hrb
            go_wp2_with fail
            clear hC0
            have hok64 : Hid (∀ y ∈ ls, i64 y.f2) := fun y hy => (hok1.out y hy).1
            have hlk : ls.length ≤ 200 := by omega
            obtain ⟨Am, cm, hv, _, hCm⟩ := own111e hOm
            obtain rfl : A0 = Am := by injection hv
            clear hv hcA hlA
            go_loopw [13, 96] (fun v i wr2 => ∃ k2 : Nat, k2 ≤ ls.length ∧ i = .int .i64 k2 ∧ Hid (Own l64 1 2 wr2 w4.heap.size v (mineL a.f1.f0 a.f1.f1 (ls.take k2)) ∧ Below w4.heap.size w4 wr2)) (fun _ i _ => ls.length - (intOf i).toNat)
            case atStart => exact ⟨0, Nat.zero_le _, rfl, hidI ⟨by simp only [List.take_zero]; exact Own.nil _ _ _ _ _, Below.refl _ _⟩⟩
            case round =>
              obtain ⟨k2, hk2, rfl, hI2⟩ := hrel
              have hb2 := hI2.out.2
              by_cases hlt2 : k2 < ls.length
              · obtain ⟨b3, off3, rfl, hx3⟩ := Kp.C_open hCm (by omega) (by decide)
                obtain ⟨z, hze⟩ : ∃ z, z = ls[k2] := ⟨_, rfl⟩
                have q0 : wr.cell? ⟨b3, off3 + k2 * 4, none⟩ = some (.string z.f0) := by rw [hze]; exact pw_cell_below hb2 (hx3 k2 hlt2 0 _ rfl)
                have q1 : wr.cell? ⟨b3, off3 + k2 * 4 + 1, none⟩ = some (.string z.f1) := by rw [hze]; exact pw_cell_below hb2 (hx3 k2 hlt2 1 _ rfl)
                have q2 : wr.cell? ⟨b3, off3 + k2 * 4 + 2, none⟩ = some (.int .i64 z.f2) := by rw [hze]; exact pw_cell_below hb2 (hx3 k2 hlt2 2 _ rfl)
                have q3 : wr.cell? ⟨b3, off3 + k2 * 4 + 3, none⟩ = some (.int .i64 z.f3) := by rw [hze]; exact pw_cell_below hb2 (hx3 k2 hlt2 3 _ rfl)
                obtain ⟨hO1, hb0⟩ := hI2.out
                have hBA := hBA.be hb0
                have hcA := hBA.c; have hlA := hBA.lt
                have HB := hidI (below_new hb0 (.cells #[.string z.f0, .string z.f1, .int .i64 z.f2, .int .i64 z.f3] 118))
                have hsz : w4.heap.size ≤ (wr.alloc (.cells #[.string z.f0, .string z.f1, .int .i64 z.f2, .int .i64 z.f3] 118)).heap.size := HB.out.size
                have hle := mineL_len a.f1.f0 a.f1.f1 (ls.take k2)
                have hlk2 : (ls.take k2).length ≤ 1000000 := by rw [List.length_take]; omega
                have hst : Hid (mineL a.f1.f0 a.f1.f1 (ls.take (k2 + 1)) = mineL a.f1.f0 a.f1.f1 (ls.take k2) ++ if mineB a.f1.f0 a.f1.f1 z = true then [z.f2] else []) := by show _ = _; rw [List.take_succ_eq_append_getElem hlt2, ← hze, mineL_snoc]
                clear hze hI2 hx3 hCm
                generalize mineL a.f1.f0 a.f1.f1 (ls.take k2) = zs at *
                have HO1 := hidI (hO1.alloc (.cells #[.string z.f0, .string z.f1, .int .i64 z.f2, .int .i64 z.f3] 118))
                have hlz : zs.length ≤ 1000000 := by omega
                clear hO1 hb0 hb2
                cases h1 : (z.f0.toList == a.f1.f0.toList)
                · have hst2 : Hid (mineL a.f1.f0 a.f1.f1 (ls.take (k2 + 1)) = zs) := by show _ = _; rw [hst.out]; simp [mineB, h1]
                  have hfin : Hid (Own l64 1 2 (wr.alloc (.cells #[.string z.f0, .string z.f1, .int .i64 z.f2, .int .i64 z.f3] 118)) w4.heap.size u13 (mineL a.f1.f0 a.f1.f1 (ls.take (k2 + 1))) ∧ Below w4.heap.size w4 (wr.alloc (.cells #[.string z.f0, .string z.f1, .int .i64 z.f2, .int .i64 z.f3] 118))) := by show _ ∧ _; rw [hst2.out]; exact ⟨HO1.out, HB.out⟩
                  clear HO1 HB hst hst2
                  go_wp2
                  go_roundw
                  case rel => exact ⟨k2 + 1, by omega, by go_num, hfin⟩
                  case measure => simp [intOf]; omega
                · cases h2 : (z.f1.toList == a.f1.f1.toList)
                  · have hst2 : Hid (mineL a.f1.f0 a.f1.f1 (ls.take (k2 + 1)) = zs) := by show _ = _; rw [hst.out]; simp [mineB, h1, h2]
                    have hfin : Hid (Own l64 1 2 (wr.alloc (.cells #[.string z.f0, .string z.f1, .int .i64 z.f2, .int .i64 z.f3] 118)) w4.heap.size u13 (mineL a.f1.f0 a.f1.f1 (ls.take (k2 + 1))) ∧ Below w4.heap.size w4 (wr.alloc (.cells #[.string z.f0, .string z.f1, .int .i64 z.f2, .int .i64 z.f3] 118))) := by show _ ∧ _; rw [hst2.out]; exact ⟨HO1.out, HB.out⟩
                    clear HO1 HB hst hst2
                    go_wp2
                    go_roundw
                    case rel => exact ⟨k2 + 1, by omega, by go_num, hfin⟩
                    case measure => simp [intOf]; omega
                  · have hst2 : Hid (mineL a.f1.f0 a.f1.f1 (ls.take (k2 + 1)) = zs ++ [z.f2]) := by show _ = _; rw [hst.out]; simp [mineB, h1, h2]
                    go_wp2_with (at_builtin; refine print_append_cells (w0 := w4) (W := (wr.alloc (.cells #[.string z.f0, .string z.f1, .int .i64 z.f2, .int .i64 z.f3] 118))) w4.heap.size rfl (.tmp 114) (.tmp 117) 45 2 (.int .i64 0) 1 8 rfl Try.underlying45 info2 rfl (by decide) (by decide) u13 zs.length (zs.flatMap l64) [.int .i64 z.f2] (by rfl) (by first | (go_simp; done) | (go_simp; rfl)) rfl (by simp [Value.oneCell']) HO1.out HB.out hsz (by omega) ?_; intro v5 w5 ho5 hb5 hg5 hat5)
                    have hfin : Hid (Own l64 1 2 w5 w4.heap.size v5 (mineL a.f1.f0 a.f1.f1 (ls.take (k2 + 1))) ∧ Below w4.heap.size w4 w5) := by show _ ∧ _; rw [hst2.out]; exact ⟨Own.snoc (p := z.f2) ho5, hb5⟩
                    clear ho5 hb5 hg5 hat5 HO1 HB hst hst2
                    go_wp2
                    go_roundw
                    case rel => exact ⟨k2 + 1, by omega, by go_num, hfin⟩
                    case measure => simp [intOf]; omega
              · have e : k2 = ls.length := by omega
                subst e
                obtain ⟨hO1, hb0⟩ := hI2.out
                rw [List.take_length] at hO1
                have hle := mineL_len a.f1.f0 a.f1.f1 ls
                have hk2' := hidI (mineL_ok (p := a.f1.f0) (c := a.f1.f1) hok64.out)
                obtain ⟨z1, hz⟩ : ∃ z1, z1 = mineL a.f1.f0 a.f1.f1 ls := ⟨_, rfl⟩
                rw [← hz] at hO1 hle hk2'
                have HZ := hidI hz
                obtain ⟨A1, c1, rfl, _, hC1⟩ := own64 hO1
                clear hI2 hb2 hz hO1 hlt2 hk2
                have hBA := hBA.be hb0
                have hLt := hLt.below hb0
                have hLc := hLc.below hb0
                have hOw := hOw.below hb0
                have hOm := hOm.below hb0
                have hbw := below_step hbw hb0
                have hCm := Kd.C_below hCm hb0
                clear hb0
                have hcA := hBA.c; have hlA := hBA.lt
                go_wp2_with fail
                refine (held_any w.heap.size x _ a.f1.f0 a.f1.f1 ls _ hLt (by omega) hok64.out).mono ?_
                rintro e wH ⟨s, r, hs, hr, rfl, hbH⟩
                rw [← HZ.out] at hs hr
                have HS := hidI hs
                have HR := hidI hr
                clear hs hr
                have hBA := hBA.be hbH
                have hLt := hLt.below hbH
                have hLc := hLc.below hbH
                have hOw := hOw.below hbH
                have hOm := hOm.below hbH
                have hbw := below_step hbw hbH
                have hCm := Kd.C_below hCm hbH
                have hC1 := Kd.C_below hC1 hbH
                clear hbH hcA hlA
                have hcA := hBA.c; have hlA := hBA.lt
                simp only []
                go_wp2_with fail
                refine (rsum_any A1 z1 c1 _ hC1 (by omega) hk2'.out).mono ?_
                rintro e wG ⟨rfl, rfl⟩
                rw [← HS.out]
                have hsr : (sumOk z1 = true ∧ r = 0) ∨ (sumOk z1 = false ∧ r = 2 ∧ s = 0) := by
                  rw [HR.out, HS.out]
                  unfold sumE sumN sumOk
                  cases sumL 0 z1 <;> simp
                have hss : (s != s) = false := by simp
                clear hC1 hcA hlA
                simp only []
                rcases hsr with ⟨hok2, hr⟩ | ⟨hok2, hr, hs⟩
                all_goals
                  rw [hok2]
                  subst hr
                  clear hok2
                  go_wp2_with fail
                  refine (lall_any w.heap.size x _ ls _ hLt (by omega)).mono ?_
                  rintro e wI ⟨vI, rfl, hOI, hbI⟩
                  obtain ⟨AI, cI, rfl, _, hCI⟩ := own111e hOI
                  have hBA := hBA.be hbI
                  have hLt := hLt.below hbI
                  have hLc := hLc.below hbI
                  have hOw := hOw.below hbI
                  have hOm := hOm.below hbI
                  have hbw := below_step hbw hbI
                  have hCm := Kd.C_below hCm hbI
                  clear hbI hOI
                  simp only []
                  go_wp2_with fail
                  refine (lof_any AI ls cI _ hCI (by omega)).mono ?_
                  rintro e wJ ⟨AJ, cJ, rfl, hOJ, hbJ⟩
                  obtain ⟨AJ', cJ', hv, _, hCJ⟩ := own111e hOJ
                  obtain rfl : AJ = AJ' := by injection hv
                  have hBA := hBA.be hbJ
                  have hLt := hLt.below hbJ
                  have hLc := hLc.below hbJ
                  have hOw := hOw.below hbJ
                  have hOm := hOm.below hbJ
                  have hbw := below_step hbw hbJ
                  have hCm := Kd.C_below hCm hbJ
                  clear hbJ hOJ hv hCI
                  simp only []
                  go_wp2_with fail
                  refine (equal56 ls AJ A0 cJ _ _ hCJ hCm (by omega)).mono ?_
                  rintro e wK ⟨rfl, hbK⟩
                  have hBA := hBA.be hbK
                  have hLt := hLt.below hbK
                  have hLc := hLc.below hbK
                  have hOw := hOw.below hbK
                  have hOm := hOm.below hbK
                  have hbw := below_step hbw hbK
                  have hCm := Kd.C_below hCm hbK
                  clear hbK hCJ
                  simp only []
                  go_wp2_with fail
                  refine (lnext_any w.heap.size x _ ls _ hLt (by omega)).mono ?_
                  rintro e wL ⟨rfl, hbL⟩
                  have hBA := hBA.be hbL
                  have hLt := hLt.below hbL
                  have hLc := hLc.below hbL
                  have hOw := hOw.below hbL
                  have hOm := hOm.below hbL
                  have hbw := below_step hbw hbL
                  have hCm := Kd.C_below hCm hbL
                  clear hbL
                  simp only []
                  go_wp2_with fail
                  refine (rnext_any A0 _ ls _ hCm (by omega)).mono ?_
                  rintro e wM ⟨rfl, rfl⟩
                  rw [rnext_eq (fun y hy => (hok1.out y hy).2)]
                  clear hCm
                  simp only []
                  go_wp2_with fail
                  refine (lall_any _ y _ ls _ hLc (by omega)).mono ?_
                  rintro e wI ⟨vI, rfl, hOI, hbI⟩
                  obtain ⟨AI, cI, rfl, _, hCI⟩ := own111e hOI
                  have hBA := hBA.be hbI
                  have hLt := hLt.below hbI
                  have hLc := hLc.below hbI
                  have hOw := hOw.below hbI
                  have hOm := hOm.below hbI
                  have hbw := below_step hbw hbI
                  clear hbI hOI
                  simp only []
                  go_wp2_with fail
                  refine (lof_any AI ls cI _ hCI (by omega)).mono ?_
                  rintro e wJ ⟨AJ, cJ, rfl, hOJ, hbJ⟩
                  obtain ⟨AJ', cJ', hv, _, hCJ⟩ := own111e hOJ
                  obtain rfl : AJ = AJ' := by injection hv
                  have hBA := hBA.be hbJ
                  have hLt := hLt.below hbJ
                  have hLc := hLc.below hbJ
                  have hOw := hOw.below hbJ
                  have hOm := hOm.below hbJ
                  have hbw := below_step hbw hbJ
                  clear hbJ hOJ hv hCI
                  obtain ⟨A0', c0', hv, _, hC0⟩ := own111e hOw
                  obtain rfl : A0 = A0' := by injection hv
                  simp only []
                  go_wp2_with fail
                  refine (equal56 ls AJ A0 cJ c0 _ hCJ hC0 (by omega)).mono ?_
                  rintro e wK ⟨rfl, hbK⟩
                  have hBA := hBA.be hbK
                  have hLt := hLt.below hbK
                  have hLc := hLc.below hbK
                  have hOw := hOw.below hbK
                  have hOm := hOm.below hbK
                  have hbw := below_step hbw hbK
                  have hfin : Hid (∃ lq, LI w x (k + 1) (.slice A0 ls.length c0) lq wK) := ⟨ls, _, hLt, hOm, hbw, hxw, hok1.out, hl1⟩
                  try clear hv
                  clear hbK hCJ hC0 hLt hLc hOw hOm hbw hBA
                  simp only []
                  go_wp2
                  go_roundw
                  case rel => exact ⟨k + 1, by omega, by go_num, hfin⟩
                  case measure => simp [intOf]; omega
    · have hfin := hbw
      clear hLt hOm hR hbw
      go_wp2_with fail
      refine (held_nil _ _ _).mono ?_
      rintro e w2 ⟨rfl, rfl⟩
      simp only []
      go_wp2_with (first | (go_at_call 60; refine (add_nil ⟨⟨#[97]⟩, ⟨#[69, 85, 82]⟩, 0, 0⟩ _).mono ?_; rintro e w2 ⟨rfl, hb2⟩; have hfin := below_step hfin hb2) | (go_at_call 58; refine (due_nil _ _).mono ?_; rintro e w2 ⟨rfl, rfl⟩) | (go_at_call 65; refine (next_nil _).mono ?_; rintro e w2 ⟨rfl, rfl⟩) | (go_at_call 64; refine (all_nil _).mono ?_; rintro e w2 ⟨rfl, rfl⟩) | (go_at_call 54; refine (clone_nil _).mono ?_; rintro e w2 ⟨rfl, rfl⟩) | fail)
      go_ret
      exact ⟨rfl, hfin⟩
end Go.Proofs.Ytliacfjdenfldaa
