import Derived.Test.YtliacfjdenfldaaGk
namespace Go.Proofs.Ytliacfjdenfldaa
open Go.RowKit Go.Proofs.Kq
open Go.Proofs.YtliacfjdenfldaaW.PrintWords (pw_cell_below step_append_cells print_append_cells Kd Kd.C Kd.C_below)
open Go.Proofs.YtliacfjdenfldaaW.PrintLast
set_option linter.unusedSimpArgs false
set_option linter.unusedVariables false

theorem C98_take {w : World} {A : Option Addr} {n : Nat} {xs : List A98} (h : Kd.C d98 w A n xs) (k : Nat) (hk : k ≤ n) : Kd.C d98 w A (xs.take k).length (xs.take k) := by
  refine ⟨rfl, by have h1 := h.1; have h2 := h.2.1; simp; omega, fun hn => ?_⟩
  obtain ⟨p, rfl, hc⟩ := h.2.2 (by simp at hn; omega)
  refine ⟨p, rfl, fun j q hj => hc j q ?_⟩
  rw [List.getElem?_take] at hj
  split at hj
  · exact hj
  · cases hj

/-- how a round of GateOnce begins -/
def RdO (w0 : World) (g : Nat) (k : Nat) (w : World) : Prop := ∃ recs late, ND recs ∧ recs.length ≤ k ∧ late.length ≤ k ∧ GB w0 g recs late w.heap.size w

theorem RdO.below {w0 w w1 : World} {g k : Nat} (h : RdO w0 g k w) (hb : Below w.heap.size w w1) : RdO w0 g k w1 := by
  obtain ⟨recs, late, h1, h2, h3, h4⟩ := h
  exact ⟨recs, late, h1, h2, h3, (h4.below hb).top⟩
theorem tTold_len (key kd : ByteArray) (att m : Int) (recs : List A98) : (tTold key kd att m recs).length ≤ 2 := by
  unfold tTold; split <;> (try split) <;> (try split) <;> simp

set_option maxRecDepth 100000 in
set_option maxHeartbeats 4000000 in
theorem walk10 (ad : Option Addr) (xs : List A93) (cap : Nat) (w : World) (hw : Rk.RdSl w k93.cells k93.ok 9 ad xs cap) (hy : xs.length * 88 ≤ 140737488351232) :
    Calls Try.prog 10 #[.slice ad xs.length cap] w fun e w' => e = .returned (.bool true) ∧ Below w.heap.size w w' := by
  have hl : Hid (∀ w', Below w.heap.size w w' → Calls Try.prog 47 #[] w' fun e w'' => e = .returned (.bool true) ∧ Below w.heap.size w w'') := fun w' hb => (lives47 w').mono fun e w'' h => ⟨h.1, below_step hb h.2⟩
  by_cases h100 : 100 < xs.length
  · have hgt : decide ((xs.length : Int) > 100) = true := by simp; omega
    go_enter Try.func10, Try.ntmps10
    go_wp2_with (first | (go_at_call 47; refine (hl.out _ (by first | exact Below.refl _ _ | assumption)).mono ?_; rintro e w1 ⟨rfl, hb⟩) | fail)
    go_ret
    exact ⟨rfl, by assumption⟩
  have hC : Kd.C d93 w ad xs.length xs := Kp.C_of_rd (by decide) hw
  have hok := Kp.ok_of_rd hw
  by_cases h0 : xs = []
  · subst h0
    clear h100
    go_enter Try.func10, Try.ntmps10
    go_wp2_with (first | (go_at_call 47; refine (hl.out _ (by first | exact Below.refl _ _ | assumption)).mono ?_; rintro e w1 ⟨rfl, hb⟩) | fail)
    refine wp_loop_rounds 1 ?_
    rw [rounds_succ]
    go_wp2
    go_ret
    exact ⟨rfl, below_new hb _⟩
  obtain ⟨b, off, rfl, hx⟩ := Kp.C_open hC (List.length_pos_iff.2 h0) (by decide)
  have HX := hidI hx
  have HOK := hidI hok
  clear hx hC hw h0 hok
  go_enter Try.func10, Try.ntmps10
  go_wp2_with (first | (go_at_call 47; refine (hl.out _ (by first | exact Below.refl _ _ | assumption)).mono ?_; rintro e w1 ⟨rfl, hb⟩) | fail)
  have hG0 : RdO w w1.heap.size 0 (w1.alloc (.cells #[.slice none 0 0, .slice none 0 0] 90)) := ⟨[], [], ND.nil, Nat.le_refl _, Nat.le_refl _, (GB.new hb).top⟩
  go_loopw [25] (fun i wr => ∃ k : Nat, k ≤ xs.length ∧ i = .int .i64 k ∧ Hid (RdO w w1.heap.size k wr)) (fun i _ => xs.length - (intOf i).toNat)
  case atStart => exact ⟨0, Nat.zero_le _, rfl, hidI hG0⟩
  case round =>
    obtain ⟨k, hk, rfl, hR⟩ := hrel
    clear hG0 hb
    by_cases hlt : k < xs.length
    · obtain ⟨recs, late, hN, hl1, hl2, hG⟩ := hR.out
      obtain ⟨x, hxe⟩ : ∃ x, x = xs[k] := ⟨_, rfl⟩
      have hc8 : 0 ≤ x.f1 ∧ x.f1 < 256 := by
        have h3 := (HOK.out x (by rw [hxe]; exact List.getElem_mem _)).2.1
        have h4 : (Lit.int .u8 x.f1).wf = true := h3
        simp only [Lit.wf, Bool.and_eq_true, decide_eq_true_eq] at h4
        have e1 : IntKind.u8.min = 0 := by decide
        have e2 : IntKind.u8.max = 255 := by decide
        omega
      have q0 : wr.cell? ⟨b, off + k * 9, none⟩ = some (.string x.f0.f0) := by rw [hxe]; exact pw_cell_below hG.bel (HX.out k hlt 0 _ rfl)
      have q1 : wr.cell? ⟨b, off + k * 9 + 1, none⟩ = some (.string x.f0.f1) := by rw [hxe]; exact pw_cell_below hG.bel (HX.out k hlt 1 _ rfl)
      have q2 : wr.cell? ⟨b, off + k * 9 + 2, none⟩ = some (.string x.f0.f2) := by rw [hxe]; exact pw_cell_below hG.bel (HX.out k hlt 2 _ rfl)
      have q3 : wr.cell? ⟨b, off + k * 9 + 3, none⟩ = some (.string x.f0.f3) := by rw [hxe]; exact pw_cell_below hG.bel (HX.out k hlt 3 _ rfl)
      have q4 : wr.cell? ⟨b, off + k * 9 + 4, none⟩ = some (.int .i64 x.f0.f4) := by rw [hxe]; exact pw_cell_below hG.bel (HX.out k hlt 4 _ rfl)
      have q5 : wr.cell? ⟨b, off + k * 9 + 5, none⟩ = some (.int .i64 x.f0.f5) := by rw [hxe]; exact pw_cell_below hG.bel (HX.out k hlt 5 _ rfl)
      have q6 : wr.cell? ⟨b, off + k * 9 + 6, none⟩ = some (.int .u8 x.f1) := by rw [hxe]; exact pw_cell_below hG.bel (HX.out k hlt 6 _ rfl)
      have q7 : wr.cell? ⟨b, off + k * 9 + 7, none⟩ = some (.bool x.f2) := by rw [hxe]; exact pw_cell_below hG.bel (HX.out k hlt 7 _ rfl)
      have q8 : wr.cell? ⟨b, off + k * 9 + 8, none⟩ = some (.int .i8 x.f3) := by rw [hxe]; exact pw_cell_below hG.bel (HX.out k hlt 8 _ rfl)
      clear hxe
      go_wp2_with fail
      clear q0 q1 q2 q3 q4 q5 q6 q7 q8
      have hG1 := hG.below (below_new (Below.refl wr.heap.size wr) (.cells #[.string x.f0.f0, .string x.f0.f1, .string x.f0.f2, .string x.f0.f3, .int .i64 x.f0.f4, .int .i64 x.f0.f5, .int .u8 x.f1, .bool x.f2, .int .i8 x.f3] 93))
      refine (records_gb w w1.heap.size _ recs late _ hG1 (by omega)).mono ?_
      rintro e w2 ⟨A2, c2, rfl, hc2, hO2, hC2, hb2⟩
      have B5 := Blk.be (w := w2) (b := wr.heap.size) (cs := #[.string x.f0.f0, .string x.f0.f1, .string x.f0.f2, .string x.f0.f3, .int .i64 x.f0.f4, .int .i64 x.f0.f5, .int .u8 x.f1, .bool x.f2, .int .i8 x.f3]) (T := 93) (Blk.new' rfl) hb2
      have c5 := B5.c; have l5 := B5.lt
      have hG2 := hG1.below hb2
      simp only []
      go_wp2_with fail
      refine (ask_gb w w1.heap.size _ x.f0.f1 x.f0.f0 x.f0.f2 x.f0.f3 x.f0.f4 x.f0.f5 x.f1 recs late _ hG2 (by omega) (by omega) hc8).mono ?_
      rintro e w3 ⟨A3, n3, c3, rfl, hn3, hO3, hG3, hF3⟩
      have hO23 := hO2.fr hF3 (fun k hk h => by have h2 := hO2.ge hk; simp at h2; omega)
      have hT := fun y hy k hk => told_law (pa := x.f0.f2) (cu := x.f0.f3) (am := x.f0.f4) (x := y) hN (key := x.f0.f1) (kd := x.f0.f0) (att := x.f0.f5) (m := x.f1 % 8) hy k hk
      have hL := tRecs_len x.f0.f1 x.f0.f0 x.f0.f2 x.f0.f3 x.f0.f4 (x.f1 % 8) recs
      have hL2 := tLate_len x.f0.f1 x.f0.f0 x.f0.f5 (x.f1 % 8) recs late
      have hP := tRecs_pre x.f0.f1 x.f0.f0 x.f0.f2 x.f0.f3 x.f0.f4 (x.f1 % 8) recs
      have hN' := ND.step (key := x.f0.f1) (kd := x.f0.f0) (pa := x.f0.f2) (cu := x.f0.f3) (am := x.f0.f4) (m := x.f1 % 8) hN
      have hL3 := tTold_len x.f0.f1 x.f0.f0 x.f0.f5 (x.f1 % 8) recs
      generalize tRecs x.f0.f1 x.f0.f0 x.f0.f2 x.f0.f3 x.f0.f4 (x.f1 % 8) recs = recs' at *
      generalize tLate x.f0.f1 x.f0.f0 x.f0.f5 (x.f1 % 8) recs late = late' at *
      generalize tTold x.f0.f1 x.f0.f0 x.f0.f5 (x.f1 % 8) recs = told at *
      subst hn3
      clear c5 B5
      simp only []
      go_wp2_with fail
      refine (records_gb w w1.heap.size _ recs' late' _ hG3 (by omega)).mono ?_
      rintro e w4 ⟨A4, c4, rfl, hc4, hO4, hC4, hb4⟩
      have hb24 := hO23.below hb4
      have hO34 := hO3.below hb4
      have hG4 := hG3.below hb4
      have t1 : decide ((recs'.length : Int) < recs.length) = false := by simp; omega
      have t3 : decide (recs'.length < recs.length) = false := by simp; omega
      have t4 : decide (recs.length + 1 < recs'.length) = false := by simp; omega
      have t2 : decide ((recs'.length : Int) > (recs.length : Int) + 1) = false := by simp; omega
      simp only []
      go_wp2_with fail
      have hC2' : Kd.C d98 w4 A2 recs.length recs := by
        obtain ⟨A', c', hv, _, h⟩ := own98 hb24
        obtain rfl : A2 = A' := by injection hv
        exact h
      refine (equal50 recs A4 A2 c4 c2 _ (by have := C98_take hC4 recs.length hP.1; rw [hP.2] at this; exact this) hC2' (by omega)).mono ?_
      rintro e w5 ⟨rfl, hb5⟩
      have hC5 := Kd.C_below hC4 hb5
      have hO5 := hO34.below hb5
      obtain ⟨A3', c3', hv3, _, hD5⟩ := own102 hO5
      obtain rfl : A3 = A3' := by injection hv3
      have hG5 := hG4.below hb5
      have HR' := hidI (show RdO w w1.heap.size (k + 1) w5 from ⟨recs', late', hN', by omega, by omega, hG5.top⟩)
      have HT := hidI hT
      have HN' := hidI hN'
      have hn' : recs'.length ≤ 1000 := by omega
      have ht' : told.length ≤ 1000 := by omega
      clear hT hv3 hN' hN hG1 hG2 hG3 hG4 hG5 hG hR hO2 hO3 hO4 hO5 hO23 hO34 hb24 hF3 hb2 hb4 hb5 hC2 hC2' hC4 hP hL hL2 hc2
      simp only []
      go_wp2
      clear t1 t2 t3 t4
      go_loopw [63] (fun i wr2 => ∃ k2 : Nat, k2 ≤ recs'.length ∧ i = .int .i64 k2 ∧ Below w5.heap.size w5 wr2) (fun i _ => recs'.length - (intOf i).toNat)
      case atStart => exact ⟨0, Nat.zero_le _, rfl, Below.refl _ _⟩
      case round =>
        obtain ⟨k2, hk2, rfl, hbr2⟩ := hrel
        by_cases hlt2 : k2 < recs'.length
        · obtain ⟨b4, off4, rfl, hx4⟩ := Kp.C_open hC5 (by omega) (by decide)
          obtain ⟨y, hye⟩ : ∃ y, y = recs'[k2] := ⟨_, rfl⟩
          have q0 : wr.cell? ⟨b4, off4 + k2 * 5, none⟩ = some (.string y.f0) := by rw [hye]; exact pw_cell_below hbr2 (hx4 k2 hlt2 0 _ rfl)
          have q1 : wr.cell? ⟨b4, off4 + k2 * 5 + 1, none⟩ = some (.string y.f1) := by rw [hye]; exact pw_cell_below hbr2 (hx4 k2 hlt2 1 _ rfl)
          have q2 : wr.cell? ⟨b4, off4 + k2 * 5 + 2, none⟩ = some (.string y.f2) := by rw [hye]; exact pw_cell_below hbr2 (hx4 k2 hlt2 2 _ rfl)
          have q3 : wr.cell? ⟨b4, off4 + k2 * 5 + 3, none⟩ = some (.int .i64 y.f3) := by rw [hye]; exact pw_cell_below hbr2 (hx4 k2 hlt2 3 _ rfl)
          have q4 : wr.cell? ⟨b4, off4 + k2 * 5 + 4, none⟩ = some (.bool y.f4) := by rw [hye]; exact pw_cell_below hbr2 (hx4 k2 hlt2 4 _ rfl)
          have hfx : Hid (fidx y.f0 0 (recs'.take k2) = -1) := by rw [hye]; exact HN'.out.take k2 hlt2
          have HX4 := hidI hx4
          have HT2 : Hid (∀ z ∈ told, (z.f0.toList == y.f0.toList) = false ∨ (z.f1.toList == [97, 99, 99, 101, 112, 116, 101, 100]) = y.f4) := fun z hz => by rw [hye]; exact HT.out z hz k2 hlt2
          clear hye hx4
          have hkc : k2 ≤ c4 := by omega
          go_wp2_with fail
          clear q0 q1 q2 q3 q4
          have hBr := Blk.new' (w := wr) (b := wr.heap.size) (cs := #[.string y.f0, .string y.f1, .string y.f2, .int .i64 y.f3, .bool y.f4]) (T := 98) rfl
          have hnew := below_new hbr2 (.cells #[.string y.f0, .string y.f1, .string y.f2, .int .i64 y.f3, .bool y.f4] 98)
          have hcon := contains_any (some ⟨b4, off4, none⟩) (recs'.take k2) c4 wr.heap.size y.f0 _ (C98_take (Kd.C_below hC5 hnew) k2 hk2) (by simp; omega) (hBr.c 0)
          have etk : (recs'.take k2).length = k2 := by simp; omega
          rw [etk, hfx.out] at hcon
          clear etk hfx hkc
          refine hcon.mono ?_
          clear hcon
          rintro e w6 ⟨rfl, hb6⟩
          have hB6 := hBr.be hb6
          have hb56 := below_step hnew hb6
          have hge : w5.heap.size ≤ wr.heap.size := hbr2.size
          clear hBr hnew hb6 hbr2
          generalize wr.heap.size = rb at *
          simp only []
          go_wp2
          go_loopw [75] (fun i wr3 => ∃ k3 : Nat, k3 ≤ told.length ∧ i = .int .i64 k3 ∧ Below w5.heap.size w5 wr3 ∧ Blk wr3 rb #[.string y.f0, .string y.f1, .string y.f2, .int .i64 y.f3, .bool y.f4] 98) (fun i _ => told.length - (intOf i).toNat)
          case atStart => exact ⟨0, Nat.zero_le _, rfl, hb56, hB6⟩
          case round =>
            obtain ⟨k3, hk3, rfl, hbr3, hB3⟩ := hrel
            by_cases hlt3 : k3 < told.length
            · obtain ⟨b3, off3, rfl, hx3⟩ := Kp.C_open hD5 (by omega) (by decide)
              obtain ⟨z, hze⟩ : ∃ z, z = told[k3] := ⟨_, rfl⟩
              have q0 : wr.cell? ⟨b3, off3 + k3 * 3, none⟩ = some (.string z.f0) := by rw [hze]; exact pw_cell_below hbr3 (hx3 k3 hlt3 0 _ rfl)
              have q1 : wr.cell? ⟨b3, off3 + k3 * 3 + 1, none⟩ = some (.string z.f1) := by rw [hze]; exact pw_cell_below hbr3 (hx3 k3 hlt3 1 _ rfl)
              have q2 : wr.cell? ⟨b3, off3 + k3 * 3 + 2, none⟩ = some (.int .i64 z.f2) := by rw [hze]; exact pw_cell_below hbr3 (hx3 k3 hlt3 2 _ rfl)
              have hz := HT2.out z (by rw [hze]; exact List.getElem_mem _)
              have hend := hidI (show Below w5.heap.size w5 (wr.alloc (.cells #[.string z.f0, .string z.f1, .int .i64 z.f2] 102)) ∧ Blk (wr.alloc (.cells #[.string z.f0, .string z.f1, .int .i64 z.f2] 102)) rb #[.string y.f0, .string y.f1, .string y.f2, .int .i64 y.f3, .bool y.f4] 98 from ⟨below_new hbr3 _, hB3.al _⟩)
              have cB := hB3.c; have lB := hB3.lt
              clear hx3 hze hB3 hb56 hB6
              rcases hz with hz | hz
              · go_wp2
                go_roundw
                case rel => exact ⟨k3 + 1, by omega, by go_num, hend.out⟩
                case measure => simp [intOf]; omega
              · cases hk0 : (z.f0.toList == y.f0.toList)
                · go_wp2
                  go_roundw
                  case rel => exact ⟨k3 + 1, by omega, by go_num, hend.out⟩
                  case measure => simp [intOf]; omega
                · cases hk4 : y.f4
                  all_goals
                    rw [hk4] at hz cB
                    go_wp2
                    go_roundw
                    case rel => exact ⟨k3 + 1, by omega, by go_num, by rw [← hk4]; exact hend.out⟩
                    case measure => simp [intOf]; omega
            · go_wp2
              go_roundw
              case rel => exact ⟨k2 + 1, by omega, by go_num, hbr3⟩
              case measure => simp [intOf]; omega
        · go_wp2
          go_roundw
          case rel => exact ⟨k + 1, by omega, by go_num, hidI (RdO.below HR'.out hbr2)⟩
          case measure => simp [intOf]; omega
    · obtain ⟨recs, late, hN, hl1, hl2, hG⟩ := hR.out
      go_wp2
      go_ret
      exact ⟨rfl, hG.bel⟩

end Go.Proofs.Ytliacfjdenfldaa
