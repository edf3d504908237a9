/- What the statement leans on, part 2: functions of the program and of the reference as Lean functions, their contracts, and plain laws. -/
import Derived.MapKept
import Derived.Carry
import Derived.Maps.OwnSet
import Derived.Test.YtncnhhnbjmpomaaMPS1
namespace Go.Proofs.Ytncnhhnbjmpomaa
open Go.RowKit Go.Proofs.Ytncnhhnbjmpomaa.Q Go.Proofs.Kq
open Go.Proofs.YtncnhhnbjmpomaaW.PrintWords (pw_cell_below step_append_cells print_append_cells Kd Kd.C Kd.C_below Drawn0 encs encs_length encs_append)
set_option linter.unusedVariables false
set_option linter.unusedSimpArgs false
theorem C_drewN {k : IntKind} {w : World} {A : Option Addr} {m : Nat} {xs : List Int} (h : Kd.C (Kd.int k) w A m xs) (n : Nat) : Kd.C (Kd.int k) (w.drewN n) A m xs := Kd.C_below h (by have := Below.refl w.heap.size w; exact ⟨this.os, this.tape, this.output, this.size, this.block⟩)
def SplitP (t : Int) (ws : List Int) (w : World) (e : Ending) (w' : World) : Prop :=
  ∃ v : Value, e = .returned (.tuple #[v, .int .i64 (splitF t ws).2]) ∧ w'.ownsRow w.heap.size 2 1 v (splitF t ws).1.length (encs (Value.int .i64) (splitF t ws).1) ∧ Below w.heap.size w w'
theorem below_drN (w : World) (n : Nat) : Below w.heap.size w (w.drewN n) := ⟨rfl, rfl, rfl, Nat.le_refl _, fun _ _ => rfl⟩
set_option maxRecDepth 100000 in
set_option maxHeartbeats 4000000 in
theorem split_bad (t : Int) (A0 : Option Addr) (c0 : Nat) (ws : List Int) (w : World) (hr0 : Kd.C (Kd.int .i64) w A0 ws.length ws) (hc0 : ws.length ≤ c0) (h20 : ws.length < 20) (hw : ∀ x ∈ ws, inR x) (ht : inR t)
    (hbad : t < 0 ∨ ws.any (fun n => decide (n < 0)) = true) : Calls Try.prog 20 #[.int .i64 t, .slice A0 ws.length c0] w (SplitP t ws w) := by
  obtain ⟨m, hm⟩ := add_ok ws hw (by omega)
  obtain ⟨a, ha⟩ : ∃ a, addF 0 ws = a := ⟨_, rfl⟩
  have H1 := hidI (fun w hr => money_Add.calls (0 + m) A0 c0 ws a.1 a.2 w hr hc0 (by rw [hm 0, ha]))
  have H2 := hidI (fun w hr => slices_ContainsFunc_int64_int64.calls A0 c0 ws 50 (ws.any (fun n => decide (n < 0))) w hr hc0 (by unfold slices_ContainsFunc_int64_int64.f; rw [if_pos ⟨.inl rfl, by omega⟩]))
  have HR := hidI hr0
  have HS : Hid (splitF t ws = ([], 1)) := by
    show _ = _
    unfold splitF
    rcases hbad with h | h
    · rw [if_pos h]
    · by_cases h1 : t < 0
      · rw [if_pos h1]
      · rw [if_neg h1, if_pos h]
  have HF : Hid (∀ n, SplitP t ws w (.returned (.tuple #[.slice none 0 0, .int .i64 1])) (w.drewN n)) := fun n => ⟨.slice none 0 0, by rw [HS.out], by rw [HS.out]; exact ⟨rfl, .inl ⟨rfl, rfl⟩⟩, below_drN w n⟩
  clear hr0 hm ha HS
  by_cases htn : t < 0
  · clear hbad H2
    go_enter Try.func20, Try.ntmps20
    go_wp2_with fail
    refine (H1.out _ HR.out).mono ?_
    rintro e w' ⟨rfl, ⟨n, rfl⟩⟩
    simp only []
    go_wp2
    go_ret2
    exact HF.out n
  · have hany := hbad.resolve_left htn
    clear hbad
    go_enter Try.func20, Try.ntmps20
    go_wp2_with fail
    refine (H1.out _ HR.out).mono ?_
    rintro e w' ⟨rfl, ⟨n, rfl⟩⟩
    simp only []
    go_wp2_with fail
    refine (H2.out _ (C_drewN HR.out n)).mono ?_
    rintro e w' ⟨rfl, ⟨n2, rfl⟩⟩
    rw [hany]
    simp only []
    go_wp2
    go_ret2
    exact HF.out (n + n2)
theorem info98 : (Try.prog.info? 98).map (fun i => (i.zero, i.size, i.bytes)) = some (some (.agg #[.int .i64 0, .int .u64 0]), 2, 16) := by kernel_rfl
theorem sum_take_le : ∀ (l : List Int) (k : Nat), (∀ x ∈ l, 0 ≤ x) → 0 ≤ (l.take k).sum ∧ (l.take k).sum ≤ l.sum
  | [], k, _ => by simp
  | x :: l, 0, h => by
    have := sum_nn (x :: l) h
    simp at this ⊢; omega
  | x :: l, k + 1, h => by
    have := sum_take_le l k (fun y hy => h y (by simp [hy]))
    have h1 := h x (by simp)
    simp; omega
theorem left_take (t : Int) (ws : List Int) (k : Nat) (ht : 0 ≤ t) (hw : ∀ x ∈ ws, 0 ≤ x) (ha : 0 < ws.sum) : 0 ≤ leftF t ws.sum (ws.take k) ∧ leftF t ws.sum (ws.take k) ≤ t := by
  have h1 := (left_bd t ws ht hw ha).1
  have hq : ∀ x ∈ quosF t ws.sum ws, 0 ≤ x := by
    intro x hx
    obtain ⟨y, hy, rfl⟩ := List.mem_map.1 hx
    exact (quo_bd ht (hw y hy) (mem_le_sum ws hw y hy) ha).1
  have h2 := sum_take_le (quosF t ws.sum ws) k hq
  have e : (quosF t ws.sum ws).take k = quosF t ws.sum (ws.take k) := by simp [quosF, List.map_take]
  rw [e] at h2
  unfold leftF at h1 ⊢
  omega
theorem mul38 (t x : Int) (ht : 0 ≤ t) (ht2 : t < 18446744073709551616) (hx : 0 ≤ x) (hx2 : x < 18446744073709551616) (w : World) :
    Calls Try.prog 38 #[.int .u64 t, .int .u64 x] w fun e w' => e = .returned (.tuple #[.int .u64 (t * x / 18446744073709551616), .int .u64 (t * x % 18446744073709551616)]) ∧ w = w' := by
  obtain ⟨a, rfl⟩ := Int.eq_ofNat_of_zero_le ht
  obtain ⟨b, rfl⟩ := Int.eq_ofNat_of_zero_le hx
  refine (Go.Proofs.Try.bits_Mul64 a b (by omega) (by omega) w).mono fun e w' ⟨he, hw⟩ => ⟨?_, hw.symm⟩
  rw [he, Int.natCast_ediv, Int.natCast_emod, Int.natCast_mul]; rfl
theorem div40 (P all : Int) (hP : 0 ≤ P) (ha : 0 < all) (ha2 : all < 18446744073709551616) (hlt : P / 18446744073709551616 < all) (w : World) :
    Calls Try.prog 40 #[.int .u64 (P / 18446744073709551616), .int .u64 (P % 18446744073709551616), .int .u64 all] w fun e w' => e = .returned (.tuple #[.int .u64 (P / all), .int .u64 (P % all)]) ∧ Drawn0 w w' := by
  obtain ⟨k, hk⟩ := div64_ok (P / 18446744073709551616) (P % 18446744073709551616) all (by omega) hlt ha2 (by omega) (by omega)
  have e : P / 18446744073709551616 * 18446744073709551616 + P % 18446744073709551616 = P := by omega
  rw [e] at hk
  exact bits_Div64.calls k _ _ _ _ _ w hk
theorem any_false (ws : List Int) (h : ws.any (fun n => decide (n < 0)) = false) : ∀ x ∈ ws, 0 ≤ x := by
  intro x hx
  have := List.any_eq_false.1 h x hx
  simpa using this
set_option maxRecDepth 100000 in
set_option maxHeartbeats 4000000 in
theorem split_no (t : Int) (A0 : Option Addr) (c0 : Nat) (ws : List Int) (w : World) (hr0 : Kd.C (Kd.int .i64) w A0 ws.length ws) (hc0 : ws.length ≤ c0) (h20 : ws.length < 20) (hw : ∀ x ∈ ws, inR x) (ht : 0 ≤ t)
    (hany : ws.any (fun n => decide (n < 0)) = false) (hbad : 9223372036854775807 < ws.sum ∨ ws.sum = 0) : Calls Try.prog 20 #[.int .i64 t, .slice A0 ws.length c0] w (SplitP t ws w) := by
  obtain ⟨m, hm⟩ := add_ok ws hw (by omega)
  have hnn := any_false ws hany
  have ha := addF_nn ws 0 (Int.le_refl _) hnn (by decide)
  rw [Int.zero_add] at ha
  have H2 := hidI (fun w hr => slices_ContainsFunc_int64_int64.calls A0 c0 ws 50 false w hr hc0 (by unfold slices_ContainsFunc_int64_int64.f; rw [if_pos ⟨.inl rfl, by omega⟩, hany]))
  have HR := hidI hr0
  have hta : ¬ t < 0 := by omega
  by_cases hov : 9223372036854775807 < ws.sum
  · rw [if_neg (by omega)] at ha
    have H1 := hidI (fun w hr => money_Add.calls (0 + m) A0 c0 ws 0 2 w hr hc0 (by rw [hm 0, ha]))
    have HS : Hid (splitF t ws = ([], 2)) := by
      show _ = _
      unfold splitF
      rw [if_neg hta, if_neg (by rw [hany]; decide), if_pos (by omega)]
    have HF : Hid (∀ n, SplitP t ws w (.returned (.tuple #[.slice none 0 0, .int .i64 2])) (w.drewN n)) := fun n => ⟨.slice none 0 0, by rw [HS.out], by rw [HS.out]; exact ⟨rfl, .inl ⟨rfl, rfl⟩⟩, below_drN w n⟩
    clear hr0 hm ha HS hbad hany hov hnn
    go_enter Try.func20, Try.ntmps20
    go_wp2_with fail
    refine (H1.out _ HR.out).mono ?_
    rintro e w' ⟨rfl, ⟨n, rfl⟩⟩
    simp only []
    go_wp2_with fail
    refine (H2.out _ (C_drewN HR.out n)).mono ?_
    rintro e w' ⟨rfl, ⟨n2, rfl⟩⟩
    simp only []
    go_wp2
    go_ret2
    exact HF.out (n + n2)
  · have hz : ws.sum = 0 := hbad.resolve_left hov
    rw [if_pos (by omega), hz] at ha
    have H1 := hidI (fun w hr => money_Add.calls (0 + m) A0 c0 ws 0 0 w hr hc0 (by rw [hm 0, ha]))
    have HS : Hid (splitF t ws = ([], 1)) := by
      show _ = _
      unfold splitF
      rw [if_neg hta, if_neg (by rw [hany]; decide), if_neg (by omega), if_pos hz]
    have HF : Hid (∀ n, SplitP t ws w (.returned (.tuple #[.slice none 0 0, .int .i64 1])) (w.drewN n)) := fun n => ⟨.slice none 0 0, by rw [HS.out], by rw [HS.out]; exact ⟨rfl, .inl ⟨rfl, rfl⟩⟩, below_drN w n⟩
    clear hr0 hm ha HS hbad hany hov hnn hz
    go_enter Try.func20, Try.ntmps20
    go_wp2_with fail
    refine (H1.out _ HR.out).mono ?_
    rintro e w' ⟨rfl, ⟨n, rfl⟩⟩
    simp only []
    go_wp2_with fail
    refine (H2.out _ (C_drewN HR.out n)).mono ?_
    rintro e w' ⟨rfl, ⟨n2, rfl⟩⟩
    simp only []
    go_wp2
    go_ret2
    exact HF.out (n + n2)
set_option maxRecDepth 100000 in
set_option maxHeartbeats 4000000 in
theorem split_ok (t : Int) (A0 : Option Addr) (c0 : Nat) (ws : List Int) (w : World) (hr0 : Kd.C (Kd.int .i64) w A0 ws.length ws) (hc0 : ws.length ≤ c0) (h20 : ws.length < 20) (hw : ∀ x ∈ ws, inR x) (ht : 0 ≤ t) (ht2 : t ≤ 9223372036854775807)
    (hany : ws.any (fun n => decide (n < 0)) = false) (h1 : ws.sum ≤ 9223372036854775807) (h2 : 0 < ws.sum) : Calls Try.prog 20 #[.int .i64 t, .slice A0 ws.length c0] w (SplitP t ws w) := by
  obtain ⟨m, hm⟩ := add_ok ws hw (by omega)
  have hnn := any_false ws hany
  have ha := addF_nn ws 0 (Int.le_refl _) hnn (by decide)
  rw [Int.zero_add, if_pos (by omega)] at ha
  have H2 := hidI (fun w hr => slices_ContainsFunc_int64_int64.calls A0 c0 ws 50 false w hr hc0 (by unfold slices_ContainsFunc_int64_int64.f; rw [if_pos ⟨.inl rfl, by omega⟩, hany]))
  have HR := hidI hr0
  have hta : ¬ t < 0 := by omega
  have H1 := hidI (fun w hr => money_Add.calls (0 + m) A0 c0 ws ws.sum 0 w hr hc0 (by rw [hm 0, ha]))
  have HS : Hid (splitF t ws = (partsF t ws, 0)) := by
    show _ = _
    unfold splitF
    rw [if_neg hta, if_neg (by rw [hany]; decide), if_neg (by omega), if_neg (by omega)]
  have HM := hidI (mem_le_sum ws hnn)
  have HNN := hidI hnn
  have HW := hidI hw
  have HLB := hidI (left_bd t ws ht hnn h2)
  obtain ⟨all, hall⟩ : ∃ all, all = ws.sum := ⟨_, rfl⟩
  rw [← hall] at h1 h2 H1 HM HLB
  have HALL := hidI hall
  have hne : ¬ (all = 0) := by omega
  have hne2 : (all == 0) = false := beq_eq_false_iff_ne.2 hne
  have htd : decide (t < 0) = false := by simpa using ht
  clear hr0 hm ha hany hnn hw hall
  go_enter Try.func20, Try.ntmps20
  go_wp2_with fail
  refine (H1.out _ HR.out).mono ?_
  rintro e w' ⟨rfl, ⟨n, rfl⟩⟩
  simp only []
  go_wp2_with fail
  refine (H2.out _ (C_drewN HR.out n)).mono ?_
  rintro e w' ⟨rfl, ⟨n2, rfl⟩⟩
  simp only []
  go_wp2
  go_loopw [8, 9, 10, 41] (fun v8 v9 l i wr => ∃ k : Nat, k ≤ ws.length ∧ i = .int .i64 k ∧ l = .int .i64 (leftF t all (ws.take k)) ∧ Hid (Own li 1 2 wr w.heap.size v8 (quosF t all (ws.take k)) ∧ Own e98 2 98 wr w.heap.size v9 (restsF t all 0 (ws.take k)) ∧ Below w.heap.size w wr)) (fun _ _ _ i _ => ws.length - (intOf i).toNat)
  case atStart => exact ⟨0, Nat.zero_le _, rfl, by simp [leftF, quosF], ⟨Own.nil _ _ _ _ _, Own.nil _ _ _ _ _, below_drN w _⟩⟩
  case round =>
    obtain ⟨k, hk, rfl, rfl, HI⟩ := hrel
    have hb := HI.out.2.2
    by_cases hlt : k < ws.length
    · obtain ⟨b, off, hA, hc⟩ := C_ints HR.out (by omega)
      subst hA
      have q0 : wr.cell? ⟨b, off + k, none⟩ = some (.int .i64 ws[k]) := pw_cell_below hb (hc k hlt)
      have hx0 : 0 ≤ ws[k] := HNN.out _ (List.getElem_mem hlt)
      have hxa : ws[k] ≤ all := HM.out _ (List.getElem_mem hlt)
      obtain ⟨x, hx⟩ : ∃ x, x = ws[k] := ⟨_, rfl⟩
      rw [← hx] at q0 hx0 hxa
      have HX := hidI hx
      have hlk := left_take t ws k ht HNN.out (by rw [← HALL.out]; exact h2)
      rw [← HALL.out] at hlk
      have hqb := quo_bd ht hx0 hxa h2
      have hP : 0 ≤ t * x := Int.mul_nonneg ht hx0
      have hrb := Int.emod_nonneg (t * x) (b := all) (by omega)
      have hrc := Int.emod_lt_of_pos (t * x) h2
      have hlt2 : t * x / 18446744073709551616 < all := by
        apply Int.ediv_lt_of_lt_mul (by decide)
        have : t * x ≤ t * all := Int.mul_le_mul_of_nonneg_left hxa ht
        have : t * all ≤ 9223372036854775807 * all := Int.mul_le_mul_of_nonneg_right ht2 (by omega)
        omega
      have H3 := hidI (mul38 t x ht (by omega) hx0 (by omega) wr)
      have H4 := hidI (fun w => div40 (t * x) all hP h2 (by omega) hlt2 w)
      have hst1 : Hid (quosF t all (ws.take (k + 1)) = quosF t all (ws.take k) ++ [t * x / all]) := by
        show _ = _
        rw [List.take_succ_eq_append_getElem hlt, ← HX.out, quosF_snoc]
      have hst2 : Hid (restsF t all 0 (ws.take (k + 1)) = restsF t all 0 (ws.take k) ++ [⟨k, t * x % all⟩]) := by
        show _ = _
        rw [List.take_succ_eq_append_getElem hlt, ← HX.out, restsF_snoc, List.length_take, Nat.min_eq_left (by omega), Nat.zero_add]
      have hst3 : Hid (leftF t all (ws.take (k + 1)) = leftF t all (ws.take k) - t * x / all) := by
        show _ = _
        unfold leftF
        rw [hst1.out]; simp; omega
      have hlk1 := left_take t ws (k + 1) ht HNN.out (by rw [← HALL.out]; exact h2)
      rw [← HALL.out, hst3.out] at hlk1
      clear hx hP hlt2 hc hb
      generalize leftF t all (ws.take k) = lf at *
      generalize t * x / all = q at *
      generalize t * x % all = r at *
      go_wp2_with fail
      refine H3.out.mono ?_
      rintro e w' ⟨rfl, rfl⟩
      simp only []
      go_wp2_with fail
      refine (H4.out _).mono ?_
      rintro e w' ⟨rfl, ⟨nd, rfl⟩⟩
      simp only []
      have hO1 := HI.out.1.drewN nd
      have hO2 := HI.out.2.1.drewN nd
      have hB0 := below_drewN HI.out.2.2 nd
      have hl1 : (quosF t all (ws.take k)).length = k := by rw [quosF_len, List.length_take]; omega
      have hl2 : (restsF t all 0 (ws.take k)).length = k := by rw [restsF_len, List.length_take]; omega
      generalize quosF t all (ws.take k) = zq at *
      generalize restsF t all 0 (ws.take k) = zr at *
      have HO1 := hidI hO1
      have HO2 := hidI hO2
      have HB0 := hidI hB0
      have hzq : zq.length ≤ 1000000 := by omega
      have hzr : zr.length ≤ 1000000 := by omega
      have HL := hidI (And.intro hl1 hl2)
      have HSZ := hB0.size
      clear hO1 hO2 hB0 H3 H4 HI hl1 hl2
      obtain ⟨W, hW⟩ : ∃ W, W = wr.drewN nd := ⟨_, rfl⟩
      rw [← hW] at HO1 HO2 HB0 HSZ ⊢
      clear hW
      go_wp2_with (first
        | (at_builtin; refine print_append_cells (w0 := w) (W := W) w.heap.size rfl (.tmp 62) (.tmp 65) 22 2 (.int .i64 0) 1 8 rfl Try.underlying22 info2 rfl (by decide) (by decide) u8 zq.length (zq.flatMap li) [.int .i64 q] (by rfl) (by rfl) rfl (by simp [Value.oneCell']) HO1.out HB0.out HB0.out.size (by omega) ?_; intro v5 w5 ho5 hb5 hg5 hat5)
        | (at_builtin; refine print_append_cells (w0 := w) (W := w5) w.heap.size rfl (.tmp 67) (.tmp 71) 96 98 (.agg #[.int .i64 0, .int .u64 0]) 2 16 rfl Try.underlying96 info98 rfl (by decide) (by decide) u9 zr.length (zr.flatMap e98) [.int .i64 k, .int .u64 r] (by rfl) (by rfl) rfl (by simp [Value.oneCell']) (HO2.out.kept (fun k2 hk2 => hg5.block k2 (HO2.out.lt hk2) (fun h => HO2.out.ne_own HO1.out (by decide) k2 hk2 h.symm))) hb5 hb5.size (by omega) ?_; intro v6 w6 ho6 hb6 hg6 hat6))
      have hO25 := HO2.out.kept (w1 := w5) (fun k2 hk2 => hg5.block k2 (HO2.out.lt hk2) (fun h => HO2.out.ne_own HO1.out (by decide) k2 hk2 h.symm))
      have hO15 := Own.snoc (l := li) (p := q) ho5
      have hO16 := hO15.kept (w1 := w6) (fun k2 hk2 => hg6.block k2 (hO15.lt hk2) (fun h => hO15.ne_own hO25 (by decide) k2 hk2 h.symm))
      have hO26 := Own.snoc (l := e98) (p := (⟨k, r⟩ : S98)) ho6
      have hfin : Hid (Own li 1 2 w6 w.heap.size v5 (quosF t all (ws.take (k + 1))) ∧ Own e98 2 98 w6 w.heap.size v6 (restsF t all 0 (ws.take (k + 1))) ∧ Below w.heap.size w w6) := by
        show _ ∧ _
        rw [hst1.out, hst2.out]
        exact ⟨hO16, hO26, hb6⟩
      clear ho5 hb5 hg5 hat5 ho6 hb6 hg6 hat6 hO25 hO15 hO16 hO26 HO1 HO2 HB0
      go_roundw
      case rel => exact ⟨k + 1, by omega, by go_num, by rw [hst3.out], hfin⟩
      case measure => simp [intOf]; omega
    · obtain rfl : k = ws.length := by omega
      have hb0 := HI.out
      rw [List.take_length] at hb0
      obtain ⟨hO1, hO2, hB⟩ := hb0
      have hpos : 0 < ws.length := by
        apply Nat.pos_of_ne_zero
        intro h0
        have e := HALL.out
        rw [List.length_eq_zero_iff.1 h0] at e
        simp at e; omega
      have hrl := restsF_len t all ws 0
      obtain ⟨hle0, hle1⟩ := HLB.out
      obtain ⟨d, hd⟩ : ∃ d : Array S98, d = (restsF t all 0 ws).toArray := ⟨_, rfl⟩
      have hdl : d.toList = restsF t all 0 ws := by rw [hd]
      rw [← hdl] at hO2
      have hds : d.size = ws.length := by rw [← Array.length_toList, hdl, hrl]
      rcases hO2.cases_ with ⟨_, h0⟩ | ⟨g, cap, rfl, hcap, hcm, hgb, hgl⟩
      · rw [h0] at hdl; rw [← hdl] at hrl; simp at hrl; omega
      obtain ⟨hH, hgl2, hn2, hcap2⟩ := holds_of_own hO2
      have HSORT := hidI (sort51 g 0 cap d wr hH hgl2 (by omega))
      have hperm := srt_perm d
      have hidx : ∀ r ∈ (srt d).toList, 0 ≤ r.f0 ∧ r.f0.toNat < (quosF t all ws).length := by
        intro r hr
        have h := rests_idx t all ws 0 r (by rw [← hdl]; exact hperm.1.mem_iff.1 hr)
        rw [quosF_len]; omega
      have hq0 : ∀ x ∈ quosF t all ws, 0 ≤ x := by
        intro x hx
        obtain ⟨y, hy, rfl⟩ := List.mem_map.1 hx
        exact (quo_bd ht (HNN.out y hy) (HM.out y hy) h2).1
      have HPF : Hid (partsF t ws = bump (quosF t all ws) ((srt d).toList.take (leftF t all ws).toNat)) := by
        show _ = _
        unfold partsF; rw [← HALL.out, hd]
      have hlen2 : ((d.toList).length : Int) = (d.size : Int) := by simp
      rw [List.take_length]
      obtain ⟨lf, hlf⟩ : ∃ lf : Nat, (lf : Int) = leftF t all ws := ⟨(leftF t all ws).toNat, by omega⟩
      have hlf2 : (leftF t all ws).toNat = lf := by omega
      rw [hlf2] at HPF hle1
      rw [← hlf]
      have hsum : (quosF t all ws).sum + lf = t := by
        have : leftF t all ws = t - (quosF t all ws).sum := rfl
        omega
      have HO1 := hidI hO1
      have HO2 := hidI hO2
      have HIDX := hidI hidx
      have HQ0 := hidI hq0
      have HPS := hidI hperm.2
      have hql := quosF_len t all ws
      have HN1 := hidI (HO2.out.ne_own HO1.out (by decide))
      have HB := hidI hB
      have hn2' : d.toList.length = ws.length := by simp [hds]
      clear HI hH hperm hidx hq0 hd hdl hrl hle0 hlf hlf2 hO1 hO2 hB hcap hn2 hlen2 hlt hk hgl
      generalize quosF t all ws = qs at *
      rw [hn2']
      rw [hds] at hcap2
      have hsd : (srt d).size = ws.length := by rw [HPS.out, hds]
      have HDS := hidI hds
      rw [hds] at HSORT
      clear hds hn2'
      go_wp2_with fail
      refine HSORT.out.mono ?_
      rintro e w' ⟨rfl, n3, os, rfl⟩
      have hO1 := HO1.out.kept (w1 := sortWorldK e98 2 wr g 0 n3 (srt d) os) (fun k2 hk2 => sw_block wr g 0 n3 (srt d) os k2 (HO1.out.lt hk2) (fun e => HN1.out g rfl (by rw [← e]; exact hk2)))
      have hO2 := own_of_sorted (m := n3) (os := os) HO2.out HPS.out
      have hB2 : Below w.heap.size w (sortWorldK e98 2 wr g 0 n3 (srt d) os) := (Fr.trans (S := fun k => k = g) (Fr.of_below HB.out) (sw_fr wr g 0 n3 (srt d) os) (fun _ _ h => h)).toBelow (fun b hb h => by omega)
      have HI := hidI (And.intro hO1 (And.intro hO2 hB2))
      clear hO1 hO2 hB2 HO1 HO2 HB HN1 HSORT HPS
      generalize sortWorldK e98 2 wr g 0 n3 (srt d) os = w2 at *
      simp only []
      obtain ⟨hO1, hO2, hB2⟩ := HI.out
      rcases hO1.cases_ with ⟨_, h0⟩ | ⟨g8, c8, rfl, hc8, hc8m, hg8b, hg8l⟩
      · rw [h0] at hql; simp at hql; omega
      have HNE := hidI (hO1.ne_own hO2 (by decide) g8 rfl)
      obtain ⟨ord, hord⟩ : ∃ ord, ord = (srt d).toList := ⟨_, rfl⟩
      rw [← hord] at HPF HIDX hO2
      have hdl2 : d.toList.length = ws.length := by rw [Array.length_toList]; exact HDS.out
      rw [hdl2] at hO2
      clear hdl2
      have hol : ord.length = ws.length := by rw [hord, Array.length_toList, hsd]
      clear hord
      rw [hql] at hc8 ⊢
      rw [hql] at hO1
      have HI2 := hidI (And.intro hO1 (And.intro hO2 hB2))
      clear HI hO1 hO2 hB2
      go_wp2
      go_loopw [84] (fun i w3 => ∃ j : Nat, j ≤ lf ∧ i = .int .i64 j ∧ Hid (Own li 1 2 w3 w.heap.size (.slice (some ⟨g8, 0, none⟩) ws.length c8) (bump qs (ord.take j)) ∧ Own e98 2 98 w3 w.heap.size (.slice (some ⟨g, 0, none⟩) ws.length cap) ord ∧ Below w.heap.size w w3)) (fun i _ => lf - (intOf i).toNat)
      case atStart => exact ⟨0, Nat.zero_le _, rfl, HI2.out⟩
      case round =>
        obtain ⟨j, hj, rfl, HJ⟩ := hrel
        obtain ⟨hO1, hO2, hB3⟩ := HJ.out
        by_cases hlt : j < lf
        · have hjo : j < ord.length := by omega
          obtain ⟨r, hr⟩ : ∃ r, r = ord[j] := ⟨_, rfl⟩
          have hc := own_cell98 hO2 j hjo
          rw [← hr] at hc
          obtain ⟨c1, c2⟩ := hc
          have hi := HIDX.out r (by rw [hr]; exact List.getElem_mem hjo)
          rw [hql] at hi
          obtain ⟨ri, hri⟩ : ∃ ri : Nat, r.f0 = (ri : Int) := ⟨r.f0.toNat, by omega⟩
          have hri2 : ri < ws.length := by omega
          have hbl : (bump qs (ord.take j)).length = ws.length := by rw [bump_len, hql]
          have hbf := bump_facts (ord.take j) qs HQ0.out (fun q hq => by rw [hql]; have := HIDX.out q (List.mem_of_mem_take hq); omega)
          have hbs := mem_le_sum _ hbf.1
          have hc3 := own_cell hO1 ri (by omega)
          obtain ⟨x, hx⟩ : ∃ x, x = (bump qs (ord.take j))[ri] := ⟨_, rfl⟩
          rw [← hx] at hc3
          have hxb : 0 ≤ x ∧ x < t := by
            have h1 := hbf.1 x (by rw [hx]; exact List.getElem_mem _)
            have h2 := hbs x (by rw [hx]; exact List.getElem_mem _)
            rw [hbf.2, List.length_take, Nat.min_eq_left (by omega)] at h2
            omega
          have hst : Hid (bump qs (ord.take (j + 1)) = (bump qs (ord.take j)).set ri (x + 1)) := by
            show _ = _
            rw [List.take_succ_eq_append_getElem hjo, ← hr, bump_snoc, hri, Int.toNat_natCast, List.getD_eq_getElem?_getD, List.getElem?_eq_getElem (by omega), ← hx]; rfl
          obtain ⟨c3, f3⟩ := hc3
          have hg8l3 : g8 < wr.heap.size := hO1.lt rfl
          have hgl3 : g < wr.heap.size := hO2.lt rfl
          have hfin : Hid (Own li 1 2 ((wr.setCell ⟨g8, ri, none⟩ (.int .i64 (x + 1))).alloc (.cells #[.int .i64 ri, .int .u64 r.f1] 98)) w.heap.size (.slice (some ⟨g8, 0, none⟩) ws.length c8) (bump qs (ord.take (j + 1))) ∧ Own e98 2 98 ((wr.setCell ⟨g8, ri, none⟩ (.int .i64 (x + 1))).alloc (.cells #[.int .i64 ri, .int .u64 r.f1] 98)) w.heap.size (.slice (some ⟨g, 0, none⟩) ws.length cap) ord ∧ Below w.heap.size w ((wr.setCell ⟨g8, ri, none⟩ (.int .i64 (x + 1))).alloc (.cells #[.int .i64 ri, .int .u64 r.f1] 98))) := by
            show _ ∧ _
            rw [hst.out]
            exact ⟨(own_set hO1 ri (by omega) _).alloc _, (hO2.far (p := ⟨g8, ri, none⟩) HNE.out _).alloc _, below_new (hB3.setCell (by show w.heap.size ≤ g8; omega) _) _⟩
          have HQ := hidI hri
          rw [hri] at c1
          clear hO1 hO2 hB3 HJ hr hbf hbs hx hi hri hst hbl
          go_wp2
          go_roundw
          case rel => exact ⟨j + 1, by omega, by go_num, hfin⟩
          case measure => simp [intOf]; omega
        · obtain rfl : j = lf := by omega
          have hF : Hid (SplitP t ws w (.returned (.tuple #[.slice (some ⟨g8, 0, none⟩) ws.length c8, .int .i64 0])) wr) := by
            refine ⟨_, by rw [HS.out], ?_, hB3⟩
            rw [HS.out]
            simp only []
            rw [HPF.out]
            have h := hO1
            unfold Own at h
            rw [flat_li] at h
            exact h
          clear hO1 hO2 hB3 HJ HI2
          go_wp2
          go_ret2
          exact hF.out
theorem split_any (t : Int) (A0 : Option Addr) (c0 : Nat) (ws : List Int) (w : World) (hr0 : Kd.C (Kd.int .i64) w A0 ws.length ws) (hc0 : ws.length ≤ c0) (h20 : ws.length < 20) (hw : ∀ x ∈ ws, inR x) (ht : inR t) :
    Calls Try.prog 20 #[.int .i64 t, .slice A0 ws.length c0] w (SplitP t ws w) := by
  by_cases h1 : t < 0
  · exact split_bad t A0 c0 ws w hr0 hc0 h20 hw ht (.inl h1)
  · by_cases h2 : ws.any (fun n => decide (n < 0)) = true
    · exact split_bad t A0 c0 ws w hr0 hc0 h20 hw ht (.inr h2)
    · have h2' := eq_false_of_ne_true h2
      have hs := sum_nn ws (any_false ws h2')
      by_cases h3 : 9223372036854775807 < ws.sum
      · exact split_no t A0 c0 ws w hr0 hc0 h20 hw (by omega) h2' (.inl h3)
      · by_cases h4 : ws.sum = 0
        · exact split_no t A0 c0 ws w hr0 hc0 h20 hw (by omega) h2' (.inr h4)
        · exact split_ok t A0 c0 ws w hr0 hc0 h20 hw (by omega) ht.2 h2' (by omega) (by omega)
end Go.Proofs.Ytncnhhnbjmpomaa
namespace Go.Proofs.Ytncnhhnbjmpomaa.Q
open Go.RowKit Go.Proofs.YtncnhhnbjmpomaaW.PrintWords Go.Proofs.YtncnhhnbjmpomaaW.PrintLast Go.Proofs.Ytncnhhnbjmpomaa
def inRb (x : Int) : Bool := decide (-9223372036854775808 ≤ x) && decide (x ≤ 9223372036854775807)
theorem inRb_iff (x : Int) : inRb x = true ↔ inR x := by simp [inRb, inR]
def money_Split.f (a0 : Int) (l1 : List Int) : Option (List Int × Int) := if l1.length < 20 ∧ l1.all inRb = true ∧ inRb a0 = true then some (splitF a0 l1) else none
theorem money_Split.calls (a0 : Int) (A1 : Option Addr) (c1 : Nat) (l1 : List Int) (r1 : List Int) (r2 : Int) (w : World) (hr1 : Kd.C (Kd.int .i64) w A1 l1.length l1) (hc1 : l1.length ≤ c1) (h : money_Split.f a0 l1 = some (r1, r2)) :
    Calls Try.prog 20 #[.int .i64 a0, .slice A1 l1.length c1] w fun e w' => ∃ v0_ : Value, e = .returned (.tuple #[v0_, .int .i64 r2]) ∧ Kd.R (Kd.int .i64) 2 w' w.heap.size (fun _ => True) v0_ r1 ∧ Below w.heap.size w w' := by
  unfold money_Split.f at h
  split at h
  · rename_i hb
    obtain ⟨h1, h2, h3⟩ := hb
    simp only [Option.some.injEq] at h
    refine (split_any a0 A1 c1 l1 w hr1 hc1 h1 (fun x hx => (inRb_iff x).1 (List.all_eq_true.1 h2 x hx)) ((inRb_iff a0).1 h3)).mono ?_
    rintro e w' ⟨v, he, ho, hb⟩
    rw [h] at he ho
    exact ⟨v, he, Kd.R_of_own ho (fun _ _ => trivial), hb⟩
  · cases h
end Go.Proofs.Ytncnhhnbjmpomaa.Q
namespace Go.Proofs.Ytncnhhnbjmpomaa.Q
open Go.RowKit Go.Proofs.YtncnhhnbjmpomaaW.PrintWords Go.Proofs.YtncnhhnbjmpomaaW.PrintLast Go.Proofs.YtncnhhnbjmpomaaW.PrintMore
attribute [local go_sem] max2_int min2_int max_two min_two max_three min_three max_four min_four   -- for this text's walks alone
set_option linter.unusedVariables false
set_option linter.unusedSimpArgs false
def bits_Mul64.f (a0 : Int) (a1 : Int) : Option (Int × Int) := some (IntKind.u64.wrap ((IntKind.u64.wrap ((IntKind.u64.wrap ((a0 / 4294967296) * (a1 / 4294967296))) + ((IntKind.u64.wrap ((IntKind.u64.wrap ((a0 / 4294967296) * (Go.bits .and .u64 a1 4294967295))) + ((IntKind.u64.wrap ((Go.bits .and .u64 a0 4294967295) * (Go.bits .and .u64 a1 4294967295))) / 4294967296))) / 4294967296))) + ((IntKind.u64.wrap ((Go.bits .and .u64 (IntKind.u64.wrap ((IntKind.u64.wrap ((a0 / 4294967296) * (Go.bits .and .u64 a1 4294967295))) + ((IntKind.u64.wrap ((Go.bits .and .u64 a0 4294967295) * (Go.bits .and .u64 a1 4294967295))) / 4294967296))) 4294967295) + (IntKind.u64.wrap ((Go.bits .and .u64 a0 4294967295) * (a1 / 4294967296))))) / 4294967296)), IntKind.u64.wrap (a0 * a1))
set_option maxHeartbeats 8000000 in
set_option maxRecDepth 100000 in
theorem bits_Mul64.calls (a0 : Int) (a1 : Int) (r1 : Int) (r2 : Int) (w : World) (h : bits_Mul64.f a0 a1 = some (r1, r2)) :
  Calls Try.prog 38 #[.int .u64 a0, .int .u64 a1] w fun e w' => e = .returned (.tuple #[.int .u64 r1, .int .u64 r2]) ∧ Drawn0 w w' := by
 have H : (some (IntKind.u64.wrap ((IntKind.u64.wrap ((IntKind.u64.wrap ((a0 / 4294967296) * (a1 / 4294967296))) + ((IntKind.u64.wrap ((IntKind.u64.wrap ((a0 / 4294967296) * (Go.bits .and .u64 a1 4294967295))) + ((IntKind.u64.wrap ((Go.bits .and .u64 a0 4294967295) * (Go.bits .and .u64 a1 4294967295))) / 4294967296))) / 4294967296))) + ((IntKind.u64.wrap ((Go.bits .and .u64 (IntKind.u64.wrap ((IntKind.u64.wrap ((a0 / 4294967296) * (Go.bits .and .u64 a1 4294967295))) + ((IntKind.u64.wrap ((Go.bits .and .u64 a0 4294967295) * (Go.bits .and .u64 a1 4294967295))) / 4294967296))) 4294967295) + (IntKind.u64.wrap ((Go.bits .and .u64 a0 4294967295) * (a1 / 4294967296))))) / 4294967296)), IntKind.u64.wrap (a0 * a1))) = some (r1, r2) := h
 clear h
 simp only [Option.some.injEq, Prod.mk.injEq] at H
 obtain ⟨rfl, rfl⟩ := H
 go_enter Try.func38, Try.ntmps38
 go_wp2
 go_ret2
 exact ⟨by first | rfl | (simp; done) | (simp [*]; done), by repeat (first | exact Drawn0.refl _ | apply Drawn0.step)⟩
end Go.Proofs.Ytncnhhnbjmpomaa.Q
namespace Go.Proofs.Ytncnhhnbjmpomaa.Q
open Go.RowKit Go.Proofs.YtncnhhnbjmpomaaW.PrintWords Go.Proofs.YtncnhhnbjmpomaaW.PrintLast Go.Proofs.YtncnhhnbjmpomaaW.PrintMore
attribute [local go_sem] max2_int min2_int max_two min_two max_three min_three max_four min_four   -- for this text's walks alone
set_option linter.unusedVariables false
set_option linter.unusedSimpArgs false
def money_size.f (a0 : Int) : Option (Int) := if a0 < 0 then (some (IntKind.u64.wrap (-(IntKind.u64.wrap (a0))))) else (some (IntKind.u64.wrap (a0)))
set_option maxHeartbeats 8000000 in
set_option maxRecDepth 100000 in
theorem money_size.calls (a0 : Int) (r : Int) (w : World) (h : money_size.f a0 = some r) :
  Calls Try.prog 39 #[.int .i64 a0] w fun e w' => e = .returned (.int .u64 r) ∧ Drawn0 w w' := by
 have H : (if a0 < 0 then (some (IntKind.u64.wrap (-(IntKind.u64.wrap (a0))))) else (some (IntKind.u64.wrap (a0)))) = some r := h
 clear h
 by_cases c2 : a0 < 0
 ·rw [if_pos c2] at H
  have c2b0 : decide (a0 < 0) = true := decide_eq_true c2
  clear c2
  obtain rfl := Option.some.inj H
  go_enter Try.func39, Try.ntmps39
  go_wp2
  go_ret
  exact ⟨by first | rfl | (simp; done) | (simp [*]; done), by repeat (first | exact Drawn0.refl _ | apply Drawn0.step)⟩
 ·rw [if_neg c2] at H
  have c2b0 : decide (a0 < 0) = false := decide_eq_false c2
  clear c2
  obtain rfl := Option.some.inj H
  go_enter Try.func39, Try.ntmps39
  go_wp2
  go_ret
  exact ⟨by first | rfl | (simp; done) | (simp [*]; done), by repeat (first | exact Drawn0.refl _ | apply Drawn0.step)⟩
end Go.Proofs.Ytncnhhnbjmpomaa.Q
namespace Go.Proofs.Ytncnhhnbjmpomaa.Q
open Go.RowKit Go.Proofs.YtncnhhnbjmpomaaW.PrintWords Go.Proofs.YtncnhhnbjmpomaaW.PrintLast Go.Proofs.YtncnhhnbjmpomaaW.PrintMore
attribute [local go_sem] max2_int min2_int max_two min_two max_three min_three max_four min_four   -- for this text's walks alone
set_option linter.unusedVariables false
set_option linter.unusedSimpArgs false
def money_more.f (a0 : Int) (a1 : Bool) (a2 : Int) (a3 : Int) (a4 : Int) : Option (Bool) := if a3 = 0 then (some false) else (if a0 = 0 then (some a1) else (if a0 = 1 then (some (!a1)) else (if a3 = (IntKind.u64.wrap (a4 - a3)) then (some ((Go.bits .and .u64 a2 1) == 1)) else (some (decide (a3 > (IntKind.u64.wrap (a4 - a3))))))))
set_option maxHeartbeats 8000000 in
set_option maxRecDepth 100000 in
theorem money_more.calls (a0 : Int) (a1 : Bool) (a2 : Int) (a3 : Int) (a4 : Int) (r : Bool) (w : World) (h : money_more.f a0 a1 a2 a3 a4 = some r) :
  Calls Try.prog 41 #[.int .i64 a0, .bool a1, .int .u64 a2, .int .u64 a3, .int .u64 a4] w fun e w' => e = .returned (.bool r) ∧ Drawn0 w w' := by
 have H : (if a3 = 0 then (some false) else (if a0 = 0 then (some a1) else (if a0 = 1 then (some (!a1)) else (if a3 = (IntKind.u64.wrap (a4 - a3)) then (some ((Go.bits .and .u64 a2 1) == 1)) else (some (decide (a3 > (IntKind.u64.wrap (a4 - a3))))))))) = some r := h
 clear h
 by_cases c6 : a3 = 0
 ·rw [if_pos c6] at H
  have c6b0 : (a3 == 0) = true := beq_iff_eq.mpr c6
  have c6b1 : (a3 != 0) = false := bne_eq_false_iff_eq.mpr c6
  clear c6
  obtain rfl := Option.some.inj H
  go_enter Try.func41, Try.ntmps41
  go_wp2
  go_ret
  exact ⟨by first | rfl | (simp; done) | (simp [*]; done), by repeat (first | exact Drawn0.refl _ | apply Drawn0.step)⟩
 ·rw [if_neg c6] at H
  have c6b0 : (a3 == 0) = false := beq_eq_false_iff_ne.mpr c6
  have c6b1 : (a3 != 0) = true := bne_iff_ne.mpr c6
  by_cases c7 : a0 = 0
  ·rw [if_pos c7] at H
   have c7b0 : (a0 == 0) = true := beq_iff_eq.mpr c7
   have c7b1 : (a0 != 0) = false := bne_eq_false_iff_eq.mpr c7
   clear c7
   obtain rfl := Option.some.inj H
   go_enter Try.func41, Try.ntmps41
   go_wp2
   go_ret
   exact ⟨by first | rfl | (simp; done) | (simp [*]; done), by repeat (first | exact Drawn0.refl _ | apply Drawn0.step)⟩
  ·rw [if_neg c7] at H
   have c7b0 : (a0 == 0) = false := beq_eq_false_iff_ne.mpr c7
   have c7b1 : (a0 != 0) = true := bne_iff_ne.mpr c7
   by_cases c8 : a0 = 1
   ·rw [if_pos c8] at H
    have c8b0 : (a0 == 1) = true := beq_iff_eq.mpr c8
    have c8b1 : (a0 != 1) = false := bne_eq_false_iff_eq.mpr c8
    clear c8
    obtain rfl := Option.some.inj H
    go_enter Try.func41, Try.ntmps41
    go_wp2
    go_ret
    exact ⟨by first | rfl | (simp; done) | (simp [*]; done), by repeat (first | exact Drawn0.refl _ | apply Drawn0.step)⟩
   ·rw [if_neg c8] at H
    have c8b0 : (a0 == 1) = false := beq_eq_false_iff_ne.mpr c8
    have c8b1 : (a0 != 1) = true := bne_iff_ne.mpr c8
    by_cases c9 : a3 = (IntKind.u64.wrap (a4 - a3))
    ·rw [if_pos c9] at H
     have c9b0 : (a3 == (IntKind.u64.wrap (a4 - a3))) = true := beq_iff_eq.mpr c9
     have c9b1 : (a3 != (IntKind.u64.wrap (a4 - a3))) = false := bne_eq_false_iff_eq.mpr c9
     clear c9
     obtain rfl := Option.some.inj H
     go_enter Try.func41, Try.ntmps41
     go_wp2
     go_ret
     exact ⟨by first | rfl | (simp; done) | (simp [*]; done), by repeat (first | exact Drawn0.refl _ | apply Drawn0.step)⟩
    ·rw [if_neg c9] at H
     have c9b0 : (a3 == (IntKind.u64.wrap (a4 - a3))) = false := beq_eq_false_iff_ne.mpr c9
     have c9b1 : (a3 != (IntKind.u64.wrap (a4 - a3))) = true := bne_iff_ne.mpr c9
     obtain rfl := Option.some.inj H
     go_enter Try.func41, Try.ntmps41
     go_wp2
     go_ret
     exact ⟨by first | rfl | (simp; done) | (simp [*]; done), by repeat (first | exact Drawn0.refl _ | apply Drawn0.step)⟩
end Go.Proofs.Ytncnhhnbjmpomaa.Q
namespace Go.Proofs.Ytncnhhnbjmpomaa.Q
open Go.RowKit Go.Proofs.YtncnhhnbjmpomaaW.PrintWords Go.Proofs.YtncnhhnbjmpomaaW.PrintLast Go.Proofs.YtncnhhnbjmpomaaW.PrintMore
attribute [local go_sem] max2_int min2_int max_two min_two max_three min_three max_four min_four   -- for this text's walks alone
set_option linter.unusedVariables false
set_option linter.unusedSimpArgs false
mutual
def money_MulDiv.j0 : Nat → Int → Int → Int → Int → Bool → Option (Int × Int)
 | 0, _, _, _, _, _ => none
 | k + 1, x0, x1, x2, x3, x25 => if x25 = true then (some (0, 1)) else (if ((decide (x0 < 0)) != (decide (x1 < 0))) = true then ((money_size.f x0).bind fun t149 => ((money_size.f x1).bind fun t150 => ((bits_Mul64.f t149 t150).bind fun bt151 => (if bt151.1 ≥ (IntKind.u64.wrap (x2)) then (some (0, 2)) else ((bits_Div64.f k bt151.1 bt151.2 (IntKind.u64.wrap (x2))).bind fun bt153 => ((money_more.f x3 true bt153.1 bt153.2 (IntKind.u64.wrap (x2))).bind fun t155 => (if t155 = true then (if (IntKind.u64.wrap (bt153.1 + 1)) = 0 then (some (0, 2)) else (money_MulDiv.j1 k true (IntKind.u64.wrap (bt153.1 + 1)))) else (money_MulDiv.j1 k true bt153.1)))))))) else ((money_size.f x0).bind fun t156 => ((money_size.f x1).bind fun t157 => ((bits_Mul64.f t156 t157).bind fun bt158 => (if bt158.1 ≥ (IntKind.u64.wrap (x2)) then (some (0, 2)) else ((bits_Div64.f k bt158.1 bt158.2 (IntKind.u64.wrap (x2))).bind fun bt160 => ((money_more.f x3 false bt160.1 bt160.2 (IntKind.u64.wrap (x2))).bind fun t162 => (if t162 = true then (if (IntKind.u64.wrap (bt160.1 + 1)) = 0 then (some (0, 2)) else (money_MulDiv.j3 k false (IntKind.u64.wrap (bt160.1 + 1)))) else (money_MulDiv.j3 k false bt160.1)))))))))
def money_MulDiv.j1 : Nat → Bool → Int → Option (Int × Int)
 | 0, _, _ => none
 | k + 1, x10, x14 => if x10 = true then (money_MulDiv.j2 k x10 x14 (decide (x14 ≤ 9223372036854775808))) else (money_MulDiv.j2 k x10 x14 false)
def money_MulDiv.j2 : Nat → Bool → Int → Bool → Option (Int × Int)
 | 0, _, _, _ => none
 | k + 1, x10, x14, x61 => if x61 = true then (some (wrap64 (IntKind.u64.wrap (-x14)), 0)) else (if x10 = true then (some (0, 2)) else (if x14 < 9223372036854775808 then (some (wrap64 (x14), 0)) else (some (0, 2))))
def money_MulDiv.j3 : Nat → Bool → Int → Option (Int × Int)
 | 0, _, _ => none
 | k + 1, x10, x14 => if x10 = true then (money_MulDiv.j4 k x10 x14 (decide (x14 ≤ 9223372036854775808))) else (money_MulDiv.j4 k x10 x14 false)
def money_MulDiv.j4 : Nat → Bool → Int → Bool → Option (Int × Int)
 | 0, _, _, _ => none
 | k + 1, x10, x14, x61 => if x61 = true then (some (wrap64 (IntKind.u64.wrap (-x14)), 0)) else (if x10 = true then (some (0, 2)) else (if x14 < 9223372036854775808 then (some (wrap64 (x14), 0)) else (some (0, 2))))
end
def money_MulDiv.f (k : Nat) (a0 : Int) (a1 : Int) (a2 : Int) (a3 : Int) : Option (Int × Int) := if a2 ≤ 0 then (money_MulDiv.j0 k a0 a1 a2 a3 true) else (if a3 < 0 then (money_MulDiv.j0 k a0 a1 a2 a3 true) else (money_MulDiv.j0 k a0 a1 a2 a3 (decide (a3 > 2))))
set_option maxHeartbeats 8000000 in
set_option maxRecDepth 100000 in
theorem money_MulDiv.calls (k : Nat) (a0 : Int) (a1 : Int) (a2 : Int) (a3 : Int) (r1 : Int) (r2 : Int) (w : World) (h : money_MulDiv.f k a0 a1 a2 a3 = some (r1, r2)) :
  Calls Try.prog 18 #[.int .i64 a0, .int .i64 a1, .int .i64 a2, .int .i64 a3] w fun e w' => e = .returned (.tuple #[.int .i64 r1, .int .i64 r2]) ∧ Drawn0 w w' := by
 have H : (if a2 ≤ 0 then (money_MulDiv.j0 k a0 a1 a2 a3 true) else (if a3 < 0 then (money_MulDiv.j0 k a0 a1 a2 a3 true) else (money_MulDiv.j0 k a0 a1 a2 a3 (decide (a3 > 2))))) = some (r1, r2) := h
 clear h
 have HC5 := Aside0.mk H
 clear H
 go_enter Try.func18, Try.ntmps18
 go_upto_region 1 with (fail)
 go_cut [25] (fun v25 wc => ∃ (kq : Nat) (x25_4 : Bool), v25 = .bool x25_4 ∧ Aside0 (money_MulDiv.j0 kq a0 a1 a2 a3 x25_4 = some (r1, r2)) ∧ Aside0 (kq ≤ k) ∧ Drawn0 w wc)
 case first =>
  have H := HC5.out
  clear HC5
  by_cases c6 : a2 ≤ 0
  ·rw [if_pos c6] at H
   have c6b0 : decide (a2 ≤ 0) = true := decide_eq_true c6
   clear c6
   (first | rw [c6b0] | (simp only [i64_w, i32_w]; rw [c6b0]) | skip)
   have H' := Aside0.mk H
   clear H
   go_wp2
   go_meet
   case rel => exact ⟨_, (true), (by first | rfl | (simp; done) | (simp [*]; done)), H', ⟨by first | omega | exact Nat.le_refl _⟩, by repeat (first | exact Drawn0.refl _ | apply Drawn0.step)⟩
  ·rw [if_neg c6] at H
   have c6b0 : decide (a2 ≤ 0) = false := decide_eq_false c6
   clear c6
   (first | rw [c6b0] | (simp only [i64_w, i32_w]; rw [c6b0]) | skip)
   by_cases c7 : a3 < 0
   ·rw [if_pos c7] at H
    have c7b0 : decide (a3 < 0) = true := decide_eq_true c7
    clear c7
    have H' := Aside0.mk H
    clear H
    go_wp2
    go_meet
    case rel => exact ⟨_, (true), (by first | rfl | (simp; done) | (simp [*]; done)), H', ⟨by first | omega | exact Nat.le_refl _⟩, by repeat (first | exact Drawn0.refl _ | apply Drawn0.step)⟩
   ·rw [if_neg c7] at H
    have c7b0 : decide (a3 < 0) = false := decide_eq_false c7
    clear c7
    have H' := Aside0.mk H
    clear H
    go_wp2
    go_meet
    case rel => exact ⟨_, (decide (a3 > 2)), (by first | rfl | (simp; done) | (simp [*]; done)), H', ⟨by first | omega | exact Nat.le_refl _⟩, by repeat (first | exact Drawn0.refl _ | apply Drawn0.step)⟩
 case rest =>
  clear HC5
  try clear c1
  try clear p2
  try clear c6
  try clear c6b0
  try clear c7
  try clear c7b0
  obtain ⟨kq, x25_4, rfl, HA, HJ4, ⟨mc4, rfl⟩⟩ := hcut
  cases kq with
  | zero => exact absurd HA.out (by simp [money_MulDiv.j0])
  | succ kj4 =>
   have H := HA.out
   clear HA
   simp only [money_MulDiv.j0] at H
   by_cases c8 : x25_4 = true
   ·subst c8
    have H1 : (some (0, 1)) = some (r1, r2) := by rw [if_pos rfl] at H; exact H
    clear H
    have H := H1
    clear H1
    simp only [Option.some.injEq, Prod.mk.injEq] at H
    obtain ⟨rfl, rfl⟩ := H
    go_wp2
    go_ret2
    exact ⟨by first | rfl | (simp; done) | (simp [*]; done), by repeat (first | exact Drawn0.refl _ | apply Drawn0.step)⟩
   ·replace c8 := Bool.eq_false_iff.mpr c8
    subst c8
    have H1 : (if ((decide (a0 < 0)) != (decide (a1 < 0))) = true then ((money_size.f a0).bind fun t149 => ((money_size.f a1).bind fun t150 => ((bits_Mul64.f t149 t150).bind fun bt151 => (if bt151.1 ≥ (IntKind.u64.wrap (a2)) then (some (0, 2)) else ((bits_Div64.f kj4 bt151.1 bt151.2 (IntKind.u64.wrap (a2))).bind fun bt153 => ((money_more.f a3 true bt153.1 bt153.2 (IntKind.u64.wrap (a2))).bind fun t155 => (if t155 = true then (if (IntKind.u64.wrap (bt153.1 + 1)) = 0 then (some (0, 2)) else (money_MulDiv.j1 kj4 true (IntKind.u64.wrap (bt153.1 + 1)))) else (money_MulDiv.j1 kj4 true bt153.1)))))))) else ((money_size.f a0).bind fun t156 => ((money_size.f a1).bind fun t157 => ((bits_Mul64.f t156 t157).bind fun bt158 => (if bt158.1 ≥ (IntKind.u64.wrap (a2)) then (some (0, 2)) else ((bits_Div64.f kj4 bt158.1 bt158.2 (IntKind.u64.wrap (a2))).bind fun bt160 => ((money_more.f a3 false bt160.1 bt160.2 (IntKind.u64.wrap (a2))).bind fun t162 => (if t162 = true then (if (IntKind.u64.wrap (bt160.1 + 1)) = 0 then (some (0, 2)) else (money_MulDiv.j3 kj4 false (IntKind.u64.wrap (bt160.1 + 1)))) else (money_MulDiv.j3 kj4 false bt160.1))))))))) = some (r1, r2) := by rw [if_neg (show ¬ (false = true) by decide)] at H; exact H
    clear H
    have H := H1
    clear H1
    by_cases c9 : ((decide (a0 < 0)) != (decide (a1 < 0))) = true
    ·rw [if_pos c9] at H
     have c9b0 : ((decide (a0 < 0)) != (decide (a1 < 0))) = true := c9
     (try (have c9b1 : decide ((decide (a0 < 0)) = (decide (a1 < 0))) = false := by simpa using c9))
     (try (have c9b2 : ((decide (a0 < 0)) == (decide (a1 < 0))) = false := by simpa using c9))
     (try (have c9b3 : ¬ ((decide (a0 < 0)) = (decide (a1 < 0))) := by simpa using c9))
     clear c9
     replace H := Option.bind_eq_some_iff.mp H
     obtain ⟨t149, A100, H⟩ := H
     replace H : ((money_size.f a1).bind fun t150 => ((bits_Mul64.f t149 t150).bind fun bt151 => (if bt151.1 ≥ (IntKind.u64.wrap (a2)) then (some (0, 2)) else ((bits_Div64.f kj4 bt151.1 bt151.2 (IntKind.u64.wrap (a2))).bind fun bt153 => ((money_more.f a3 true bt153.1 bt153.2 (IntKind.u64.wrap (a2))).bind fun t155 => (if t155 = true then (if (IntKind.u64.wrap (bt153.1 + 1)) = 0 then (some (0, 2)) else (money_MulDiv.j1 kj4 true (IntKind.u64.wrap (bt153.1 + 1)))) else (money_MulDiv.j1 kj4 true bt153.1))))))) = some (r1, r2) := H
     have A10 := Aside0.mk A100
     clear A100
     replace H := Option.bind_eq_some_iff.mp H
     obtain ⟨t150, A110, H⟩ := H
     replace H : ((bits_Mul64.f t149 t150).bind fun bt151 => (if bt151.1 ≥ (IntKind.u64.wrap (a2)) then (some (0, 2)) else ((bits_Div64.f kj4 bt151.1 bt151.2 (IntKind.u64.wrap (a2))).bind fun bt153 => ((money_more.f a3 true bt153.1 bt153.2 (IntKind.u64.wrap (a2))).bind fun t155 => (if t155 = true then (if (IntKind.u64.wrap (bt153.1 + 1)) = 0 then (some (0, 2)) else (money_MulDiv.j1 kj4 true (IntKind.u64.wrap (bt153.1 + 1)))) else (money_MulDiv.j1 kj4 true bt153.1)))))) = some (r1, r2) := H
     have A11 := Aside0.mk A110
     clear A110
     replace H := Option.bind_eq_some_iff.mp H
     obtain ⟨⟨t151, t152⟩, A120, H⟩ := H
     replace H : (if t151 ≥ (IntKind.u64.wrap (a2)) then (some (0, 2)) else ((bits_Div64.f kj4 t151 t152 (IntKind.u64.wrap (a2))).bind fun bt153 => ((money_more.f a3 true bt153.1 bt153.2 (IntKind.u64.wrap (a2))).bind fun t155 => (if t155 = true then (if (IntKind.u64.wrap (bt153.1 + 1)) = 0 then (some (0, 2)) else (money_MulDiv.j1 kj4 true (IntKind.u64.wrap (bt153.1 + 1)))) else (money_MulDiv.j1 kj4 true bt153.1))))) = some (r1, r2) := H
     have A12 := Aside0.mk A120
     clear A120
     by_cases c13 : t151 ≥ (IntKind.u64.wrap (a2))
     ·rw [if_pos c13] at H
      have c13b0 : decide ((IntKind.u64.wrap (a2)) ≤ t151) = true := decide_eq_true c13
      clear c13
      simp only [Option.some.injEq, Prod.mk.injEq] at H
      obtain ⟨rfl, rfl⟩ := H
      go_wp2_with (first | ((with_reducible refine gate_callee (f := 39) rfl ?_); refine goesL_ (some 33) rfl rfl Try.func39 (by kernel_rfl) rfl #[.int .i64 a0] rfl (by (try simp only [List.map_toArray, List.map_cons, List.map_nil]); first | done | rfl | (simp only [List.length_drop, List.length_take]; rfl)) ?_; (with_reducible refine (money_size.calls a0 t149 _ A10.out).mono ?_); rintro e w' ⟨rfl, ⟨nd, rfl⟩⟩; refine ⟨_, rfl, ?_⟩) | ((with_reducible refine gate_callee (f := 39) rfl ?_); refine goesL_ (some 35) rfl rfl Try.func39 (by kernel_rfl) rfl #[.int .i64 a1] rfl (by (try simp only [List.map_toArray, List.map_cons, List.map_nil]); first | done | rfl | (simp only [List.length_drop, List.length_take]; rfl)) ?_; (with_reducible refine (money_size.calls a1 t150 _ A11.out).mono ?_); rintro e w' ⟨rfl, ⟨nd, rfl⟩⟩; refine ⟨_, rfl, ?_⟩) | ((with_reducible refine gate_callee (f := 38) rfl ?_); refine goesL_ (some 36) rfl rfl Try.func38 (by kernel_rfl) rfl #[.int .u64 t149, .int .u64 t150] rfl (by (try simp only [List.map_toArray, List.map_cons, List.map_nil]); first | done | rfl | (simp only [List.length_drop, List.length_take]; rfl)) ?_; (with_reducible refine (bits_Mul64.calls t149 t150 t151 t152 _ A12.out).mono ?_); rintro e w' ⟨rfl, ⟨nd, rfl⟩⟩; refine ⟨_, rfl, ?_⟩))
      go_ret2
      exact ⟨by first | rfl | (simp; done) | (simp [*]; done), by repeat (first | exact Drawn0.refl _ | apply Drawn0.step)⟩
     ·rw [if_neg c13] at H
      have c13b0 : decide ((IntKind.u64.wrap (a2)) ≤ t151) = false := decide_eq_false c13
      clear c13
      replace H := Option.bind_eq_some_iff.mp H
      obtain ⟨⟨t153, t154⟩, A140, H⟩ := H
      replace H : ((money_more.f a3 true t153 t154 (IntKind.u64.wrap (a2))).bind fun t155 => (if t155 = true then (if (IntKind.u64.wrap (t153 + 1)) = 0 then (some (0, 2)) else (money_MulDiv.j1 kj4 true (IntKind.u64.wrap (t153 + 1)))) else (money_MulDiv.j1 kj4 true t153))) = some (r1, r2) := H
      have A14 := Aside0.mk A140
      clear A140
      replace H := Option.bind_eq_some_iff.mp H
      obtain ⟨t155, A150, H⟩ := H
      replace H : (if t155 = true then (if (IntKind.u64.wrap (t153 + 1)) = 0 then (some (0, 2)) else (money_MulDiv.j1 kj4 true (IntKind.u64.wrap (t153 + 1)))) else (money_MulDiv.j1 kj4 true t153)) = some (r1, r2) := H
      have A15 := Aside0.mk A150
      clear A150
      have HC16 := Aside0.mk H
      clear H
      go_upto_if 56 with (first | ((with_reducible refine gate_callee (f := 39) rfl ?_); refine goesL_ (some 33) rfl rfl Try.func39 (by kernel_rfl) rfl #[.int .i64 a0] rfl (by (try simp only [List.map_toArray, List.map_cons, List.map_nil]); first | done | rfl | (simp only [List.length_drop, List.length_take]; rfl)) ?_; (with_reducible refine (money_size.calls a0 t149 _ A10.out).mono ?_); rintro e w' ⟨rfl, ⟨nd, rfl⟩⟩; refine ⟨_, rfl, ?_⟩) | ((with_reducible refine gate_callee (f := 39) rfl ?_); refine goesL_ (some 35) rfl rfl Try.func39 (by kernel_rfl) rfl #[.int .i64 a1] rfl (by (try simp only [List.map_toArray, List.map_cons, List.map_nil]); first | done | rfl | (simp only [List.length_drop, List.length_take]; rfl)) ?_; (with_reducible refine (money_size.calls a1 t150 _ A11.out).mono ?_); rintro e w' ⟨rfl, ⟨nd, rfl⟩⟩; refine ⟨_, rfl, ?_⟩) | ((with_reducible refine gate_callee (f := 38) rfl ?_); refine goesL_ (some 36) rfl rfl Try.func38 (by kernel_rfl) rfl #[.int .u64 t149, .int .u64 t150] rfl (by (try simp only [List.map_toArray, List.map_cons, List.map_nil]); first | done | rfl | (simp only [List.length_drop, List.length_take]; rfl)) ?_; (with_reducible refine (bits_Mul64.calls t149 t150 t151 t152 _ A12.out).mono ?_); rintro e w' ⟨rfl, ⟨nd, rfl⟩⟩; refine ⟨_, rfl, ?_⟩) | ((with_reducible refine gate_callee (f := 40) rfl ?_); refine goesL_ (some 48) rfl rfl Try.func40 (by kernel_rfl) rfl #[.int .u64 t151, .int .u64 t152, .int .u64 (IntKind.u64.wrap (a2))] rfl (by (try simp only [List.map_toArray, List.map_cons, List.map_nil]); first | done | rfl | (simp only [List.length_drop, List.length_take]; rfl)) ?_; (with_reducible refine (bits_Div64.calls kj4 t151 t152 (IntKind.u64.wrap (a2)) t153 t154 _ A14.out).mono ?_); rintro e w' ⟨rfl, ⟨nd, rfl⟩⟩; refine ⟨_, rfl, ?_⟩) | ((with_reducible refine gate_callee (f := 41) rfl ?_); refine goesL_ (some 56) rfl rfl Try.func41 (by kernel_rfl) rfl #[.int .i64 a3, .bool true, .int .u64 t153, .int .u64 t154, .int .u64 (IntKind.u64.wrap (a2))] rfl (by (try simp only [List.map_toArray, List.map_cons, List.map_nil]); first | done | rfl | (simp only [List.length_drop, List.length_take]; rfl)) ?_; (with_reducible refine (money_more.calls a3 true t153 t154 (IntKind.u64.wrap (a2)) t155 _ A15.out).mono ?_); rintro e w' ⟨rfl, ⟨nd, rfl⟩⟩; refine ⟨_, rfl, ?_⟩))
      (try simp only [Act.put, List.setIfInBounds_toArray, List.set_cons_zero, List.set_cons_succ])
      go_cut [14] (fun v14 wc => ∃ (kq : Nat) (x14_15 : Int), v14 = .int .u64 x14_15 ∧ Aside0 (money_MulDiv.j1 kq true x14_15 = some (r1, r2)) ∧ Aside0 (kq ≤ kj4) ∧ Drawn0 w wc)
      case first =>
       have H := HC16.out
       clear HC16
       by_cases c17 : t155 = true
       ·subst c17
        have H1 : (if (IntKind.u64.wrap (t153 + 1)) = 0 then (some (0, 2)) else (money_MulDiv.j1 kj4 true (IntKind.u64.wrap (t153 + 1)))) = some (r1, r2) := by rw [if_pos rfl] at H; exact H
        clear H
        have H := H1
        clear H1
        by_cases c18 : (IntKind.u64.wrap (t153 + 1)) = 0
        ·rw [if_pos c18] at H
         have c18b0 : ((IntKind.u64.wrap (t153 + 1)) == 0) = true := beq_iff_eq.mpr c18
         have c18b1 : ((IntKind.u64.wrap (t153 + 1)) != 0) = false := bne_eq_false_iff_eq.mpr c18
         clear c18
         (first | rw [c18b0] | (simp only [i64_w, i32_w]; rw [c18b0]) | skip)
         simp only [Option.some.injEq, Prod.mk.injEq] at H
         obtain ⟨rfl, rfl⟩ := H
         go_wp2
         go_ret2
         exact ⟨by first | rfl | (simp; done) | (simp [*]; done), by repeat (first | exact Drawn0.refl _ | apply Drawn0.step)⟩
        ·rw [if_neg c18] at H
         have c18b0 : ((IntKind.u64.wrap (t153 + 1)) == 0) = false := beq_eq_false_iff_ne.mpr c18
         have c18b1 : ((IntKind.u64.wrap (t153 + 1)) != 0) = true := bne_iff_ne.mpr c18
         (first | rw [c18b0] | (simp only [i64_w, i32_w]; rw [c18b0]) | skip)
         have H' := Aside0.mk H
         clear H
         go_wp2
         go_meet
         case rel => exact ⟨_, (IntKind.u64.wrap (t153 + 1)), (by first | rfl | (simp; done) | (simp [*]; done)), H', ⟨by have := HJ4.out; first | omega | exact Nat.le_refl _⟩, by repeat (first | exact Drawn0.refl _ | apply Drawn0.step)⟩
       ·replace c17 := Bool.eq_false_iff.mpr c17
        subst c17
        have H1 : (money_MulDiv.j1 kj4 true t153) = some (r1, r2) := by rw [if_neg (show ¬ (false = true) by decide)] at H; exact H
        clear H
        have H := H1
        clear H1
        have H' := Aside0.mk H
        clear H
        go_wp2
        go_meet
        case rel => exact ⟨_, (t153), (by first | rfl | (simp; done) | (simp [*]; done)), H', ⟨by have := HJ4.out; first | omega | exact Nat.le_refl _⟩, by repeat (first | exact Drawn0.refl _ | apply Drawn0.step)⟩
      case rest =>
       clear HC16
       try clear c1
       try clear p2
       try clear c3
       try clear c4
       try clear c6
       try clear c6b0
       try clear c7
       try clear c7b0
       try clear c8
       try clear c9
       try clear c9b0
       try clear c9b1
       try clear c9b2
       try clear c13
       try clear c13b0
       try clear c17
       try clear c18
       try clear c18b0
       try clear c18b1
       try clear p2
       obtain ⟨kq, x14_15, rfl, HA, HJ15, ⟨mc15, rfl⟩⟩ := hcut
       cases kq with
       | zero => exact absurd HA.out (by simp [money_MulDiv.j1])
       | succ kj15 =>
        have H := HA.out
        clear HA
        simp only [money_MulDiv.j1] at H
        have HC19 := Aside0.mk H
        clear H
        go_upto_region 13 with (fail)
        go_cut [61] (fun v61 wc => ∃ (kq : Nat) (x61_18 : Bool), v61 = .bool x61_18 ∧ Aside0 (money_MulDiv.j2 kq true x14_15 x61_18 = some (r1, r2)) ∧ Aside0 (kq ≤ kj15) ∧ Drawn0 w wc)
        case first =>
         have H := HC19.out
         clear HC19
         have H1 : (money_MulDiv.j2 kj15 true x14_15 (decide (x14_15 ≤ 9223372036854775808))) = some (r1, r2) := by first | (rw [if_pos rfl] at H; exact H) | (rw [if_pos trivial] at H; exact H)
         clear H
         have H := H1
         clear H1
         have H' := Aside0.mk H
         clear H
         go_wp2
         go_meet
         case rel => exact ⟨_, (decide (x14_15 ≤ 9223372036854775808)), (by first | rfl | (simp; done) | (simp [*]; done)), H', ⟨by have := HJ4.out; have := HJ15.out; first | omega | exact Nat.le_refl _⟩, by repeat (first | exact Drawn0.refl _ | apply Drawn0.step)⟩
        case rest =>
         clear HC19
         try clear c1
         try clear p2
         try clear c3
         try clear c4
         try clear c6
         try clear c6b0
         try clear c7
         try clear c7b0
         try clear c8
         try clear c9
         try clear c9b0
         try clear c9b1
         try clear c9b2
         try clear c13
         try clear c13b0
         try clear c15
         try clear c17
         try clear c18
         try clear c18b0
         try clear c18b1
         try clear p2
         obtain ⟨kq, x61_18, rfl, HA, HJ18, ⟨mc18, rfl⟩⟩ := hcut
         cases kq with
         | zero => exact absurd HA.out (by simp [money_MulDiv.j2])
         | succ kj18 =>
          have H := HA.out
          clear HA
          simp only [money_MulDiv.j2] at H
          by_cases c20 : x61_18 = true
          ·subst c20
           have H1 : (some (wrap64 (IntKind.u64.wrap (-x14_15)), 0)) = some (r1, r2) := by rw [if_pos rfl] at H; exact H
           clear H
           have H := H1
           clear H1
           simp only [Option.some.injEq, Prod.mk.injEq] at H
           obtain ⟨rfl, rfl⟩ := H
           go_wp2
           go_ret2
           exact ⟨by first | rfl | (simp; done) | (simp [*]; done), by repeat (first | exact Drawn0.refl _ | apply Drawn0.step)⟩
          ·replace c20 := Bool.eq_false_iff.mpr c20
           subst c20
           have H1 : (if true = true then (some (0, 2)) else (if x14_15 < 9223372036854775808 then (some (wrap64 (x14_15), 0)) else (some (0, 2)))) = some (r1, r2) := by rw [if_neg (show ¬ (false = true) by decide)] at H; exact H
           clear H
           have H := H1
           clear H1
           have H1 : (some (0, 2)) = some (r1, r2) := by first | (rw [if_pos rfl] at H; exact H) | (rw [if_pos trivial] at H; exact H)
           clear H
           have H := H1
           clear H1
           simp only [Option.some.injEq, Prod.mk.injEq] at H
           obtain ⟨rfl, rfl⟩ := H
           go_wp2
           go_ret2
           exact ⟨by first | rfl | (simp; done) | (simp [*]; done), by repeat (first | exact Drawn0.refl _ | apply Drawn0.step)⟩
    ·rw [if_neg c9] at H
     have c9b0 : ((decide (a0 < 0)) != (decide (a1 < 0))) = false := by simpa using c9
     (try (have c9b1 : decide ((decide (a0 < 0)) = (decide (a1 < 0))) = true := by simpa using c9))
     (try (have c9b2 : ((decide (a0 < 0)) == (decide (a1 < 0))) = true := by simpa using c9))
     clear c9
     replace H := Option.bind_eq_some_iff.mp H
     obtain ⟨t156, A210, H⟩ := H
     replace H : ((money_size.f a1).bind fun t157 => ((bits_Mul64.f t156 t157).bind fun bt158 => (if bt158.1 ≥ (IntKind.u64.wrap (a2)) then (some (0, 2)) else ((bits_Div64.f kj4 bt158.1 bt158.2 (IntKind.u64.wrap (a2))).bind fun bt160 => ((money_more.f a3 false bt160.1 bt160.2 (IntKind.u64.wrap (a2))).bind fun t162 => (if t162 = true then (if (IntKind.u64.wrap (bt160.1 + 1)) = 0 then (some (0, 2)) else (money_MulDiv.j3 kj4 false (IntKind.u64.wrap (bt160.1 + 1)))) else (money_MulDiv.j3 kj4 false bt160.1))))))) = some (r1, r2) := H
     have A21 := Aside0.mk A210
     clear A210
     replace H := Option.bind_eq_some_iff.mp H
     obtain ⟨t157, A220, H⟩ := H
     replace H : ((bits_Mul64.f t156 t157).bind fun bt158 => (if bt158.1 ≥ (IntKind.u64.wrap (a2)) then (some (0, 2)) else ((bits_Div64.f kj4 bt158.1 bt158.2 (IntKind.u64.wrap (a2))).bind fun bt160 => ((money_more.f a3 false bt160.1 bt160.2 (IntKind.u64.wrap (a2))).bind fun t162 => (if t162 = true then (if (IntKind.u64.wrap (bt160.1 + 1)) = 0 then (some (0, 2)) else (money_MulDiv.j3 kj4 false (IntKind.u64.wrap (bt160.1 + 1)))) else (money_MulDiv.j3 kj4 false bt160.1)))))) = some (r1, r2) := H
     have A22 := Aside0.mk A220
     clear A220
     replace H := Option.bind_eq_some_iff.mp H
     obtain ⟨⟨t158, t159⟩, A230, H⟩ := H
     replace H : (if t158 ≥ (IntKind.u64.wrap (a2)) then (some (0, 2)) else ((bits_Div64.f kj4 t158 t159 (IntKind.u64.wrap (a2))).bind fun bt160 => ((money_more.f a3 false bt160.1 bt160.2 (IntKind.u64.wrap (a2))).bind fun t162 => (if t162 = true then (if (IntKind.u64.wrap (bt160.1 + 1)) = 0 then (some (0, 2)) else (money_MulDiv.j3 kj4 false (IntKind.u64.wrap (bt160.1 + 1)))) else (money_MulDiv.j3 kj4 false bt160.1))))) = some (r1, r2) := H
     have A23 := Aside0.mk A230
     clear A230
     by_cases c24 : t158 ≥ (IntKind.u64.wrap (a2))
     ·rw [if_pos c24] at H
      have c24b0 : decide ((IntKind.u64.wrap (a2)) ≤ t158) = true := decide_eq_true c24
      clear c24
      simp only [Option.some.injEq, Prod.mk.injEq] at H
      obtain ⟨rfl, rfl⟩ := H
      go_wp2_with (first | ((with_reducible refine gate_callee (f := 39) rfl ?_); refine goesL_ (some 33) rfl rfl Try.func39 (by kernel_rfl) rfl #[.int .i64 a0] rfl (by (try simp only [List.map_toArray, List.map_cons, List.map_nil]); first | done | rfl | (simp only [List.length_drop, List.length_take]; rfl)) ?_; (with_reducible refine (money_size.calls a0 t156 _ A21.out).mono ?_); rintro e w' ⟨rfl, ⟨nd, rfl⟩⟩; refine ⟨_, rfl, ?_⟩) | ((with_reducible refine gate_callee (f := 39) rfl ?_); refine goesL_ (some 35) rfl rfl Try.func39 (by kernel_rfl) rfl #[.int .i64 a1] rfl (by (try simp only [List.map_toArray, List.map_cons, List.map_nil]); first | done | rfl | (simp only [List.length_drop, List.length_take]; rfl)) ?_; (with_reducible refine (money_size.calls a1 t157 _ A22.out).mono ?_); rintro e w' ⟨rfl, ⟨nd, rfl⟩⟩; refine ⟨_, rfl, ?_⟩) | ((with_reducible refine gate_callee (f := 38) rfl ?_); refine goesL_ (some 36) rfl rfl Try.func38 (by kernel_rfl) rfl #[.int .u64 t156, .int .u64 t157] rfl (by (try simp only [List.map_toArray, List.map_cons, List.map_nil]); first | done | rfl | (simp only [List.length_drop, List.length_take]; rfl)) ?_; (with_reducible refine (bits_Mul64.calls t156 t157 t158 t159 _ A23.out).mono ?_); rintro e w' ⟨rfl, ⟨nd, rfl⟩⟩; refine ⟨_, rfl, ?_⟩))
      go_ret2
      exact ⟨by first | rfl | (simp; done) | (simp [*]; done), by repeat (first | exact Drawn0.refl _ | apply Drawn0.step)⟩
     ·rw [if_neg c24] at H
      have c24b0 : decide ((IntKind.u64.wrap (a2)) ≤ t158) = false := decide_eq_false c24
      clear c24
      replace H := Option.bind_eq_some_iff.mp H
      obtain ⟨⟨t160, t161⟩, A250, H⟩ := H
      replace H : ((money_more.f a3 false t160 t161 (IntKind.u64.wrap (a2))).bind fun t162 => (if t162 = true then (if (IntKind.u64.wrap (t160 + 1)) = 0 then (some (0, 2)) else (money_MulDiv.j3 kj4 false (IntKind.u64.wrap (t160 + 1)))) else (money_MulDiv.j3 kj4 false t160))) = some (r1, r2) := H
      have A25 := Aside0.mk A250
      clear A250
      replace H := Option.bind_eq_some_iff.mp H
      obtain ⟨t162, A260, H⟩ := H
      replace H : (if t162 = true then (if (IntKind.u64.wrap (t160 + 1)) = 0 then (some (0, 2)) else (money_MulDiv.j3 kj4 false (IntKind.u64.wrap (t160 + 1)))) else (money_MulDiv.j3 kj4 false t160)) = some (r1, r2) := H
      have A26 := Aside0.mk A260
      clear A260
      have HC27 := Aside0.mk H
      clear H
      go_upto_if 56 with (first | ((with_reducible refine gate_callee (f := 39) rfl ?_); refine goesL_ (some 33) rfl rfl Try.func39 (by kernel_rfl) rfl #[.int .i64 a0] rfl (by (try simp only [List.map_toArray, List.map_cons, List.map_nil]); first | done | rfl | (simp only [List.length_drop, List.length_take]; rfl)) ?_; (with_reducible refine (money_size.calls a0 t156 _ A21.out).mono ?_); rintro e w' ⟨rfl, ⟨nd, rfl⟩⟩; refine ⟨_, rfl, ?_⟩) | ((with_reducible refine gate_callee (f := 39) rfl ?_); refine goesL_ (some 35) rfl rfl Try.func39 (by kernel_rfl) rfl #[.int .i64 a1] rfl (by (try simp only [List.map_toArray, List.map_cons, List.map_nil]); first | done | rfl | (simp only [List.length_drop, List.length_take]; rfl)) ?_; (with_reducible refine (money_size.calls a1 t157 _ A22.out).mono ?_); rintro e w' ⟨rfl, ⟨nd, rfl⟩⟩; refine ⟨_, rfl, ?_⟩) | ((with_reducible refine gate_callee (f := 38) rfl ?_); refine goesL_ (some 36) rfl rfl Try.func38 (by kernel_rfl) rfl #[.int .u64 t156, .int .u64 t157] rfl (by (try simp only [List.map_toArray, List.map_cons, List.map_nil]); first | done | rfl | (simp only [List.length_drop, List.length_take]; rfl)) ?_; (with_reducible refine (bits_Mul64.calls t156 t157 t158 t159 _ A23.out).mono ?_); rintro e w' ⟨rfl, ⟨nd, rfl⟩⟩; refine ⟨_, rfl, ?_⟩) | ((with_reducible refine gate_callee (f := 40) rfl ?_); refine goesL_ (some 48) rfl rfl Try.func40 (by kernel_rfl) rfl #[.int .u64 t158, .int .u64 t159, .int .u64 (IntKind.u64.wrap (a2))] rfl (by (try simp only [List.map_toArray, List.map_cons, List.map_nil]); first | done | rfl | (simp only [List.length_drop, List.length_take]; rfl)) ?_; (with_reducible refine (bits_Div64.calls kj4 t158 t159 (IntKind.u64.wrap (a2)) t160 t161 _ A25.out).mono ?_); rintro e w' ⟨rfl, ⟨nd, rfl⟩⟩; refine ⟨_, rfl, ?_⟩) | ((with_reducible refine gate_callee (f := 41) rfl ?_); refine goesL_ (some 56) rfl rfl Try.func41 (by kernel_rfl) rfl #[.int .i64 a3, .bool false, .int .u64 t160, .int .u64 t161, .int .u64 (IntKind.u64.wrap (a2))] rfl (by (try simp only [List.map_toArray, List.map_cons, List.map_nil]); first | done | rfl | (simp only [List.length_drop, List.length_take]; rfl)) ?_; (with_reducible refine (money_more.calls a3 false t160 t161 (IntKind.u64.wrap (a2)) t162 _ A26.out).mono ?_); rintro e w' ⟨rfl, ⟨nd, rfl⟩⟩; refine ⟨_, rfl, ?_⟩))
      (try simp only [Act.put, List.setIfInBounds_toArray, List.set_cons_zero, List.set_cons_succ])
      go_cut [14] (fun v14 wc => ∃ (kq : Nat) (x14_26 : Int), v14 = .int .u64 x14_26 ∧ Aside0 (money_MulDiv.j3 kq false x14_26 = some (r1, r2)) ∧ Aside0 (kq ≤ kj4) ∧ Drawn0 w wc)
      case first =>
       have H := HC27.out
       clear HC27
       by_cases c28 : t162 = true
       ·subst c28
        have H1 : (if (IntKind.u64.wrap (t160 + 1)) = 0 then (some (0, 2)) else (money_MulDiv.j3 kj4 false (IntKind.u64.wrap (t160 + 1)))) = some (r1, r2) := by rw [if_pos rfl] at H; exact H
        clear H
        have H := H1
        clear H1
        by_cases c29 : (IntKind.u64.wrap (t160 + 1)) = 0
        ·rw [if_pos c29] at H
         have c29b0 : ((IntKind.u64.wrap (t160 + 1)) == 0) = true := beq_iff_eq.mpr c29
         have c29b1 : ((IntKind.u64.wrap (t160 + 1)) != 0) = false := bne_eq_false_iff_eq.mpr c29
         clear c29
         (first | rw [c29b0] | (simp only [i64_w, i32_w]; rw [c29b0]) | skip)
         simp only [Option.some.injEq, Prod.mk.injEq] at H
         obtain ⟨rfl, rfl⟩ := H
         go_wp2
         go_ret2
         exact ⟨by first | rfl | (simp; done) | (simp [*]; done), by repeat (first | exact Drawn0.refl _ | apply Drawn0.step)⟩
        ·rw [if_neg c29] at H
         have c29b0 : ((IntKind.u64.wrap (t160 + 1)) == 0) = false := beq_eq_false_iff_ne.mpr c29
         have c29b1 : ((IntKind.u64.wrap (t160 + 1)) != 0) = true := bne_iff_ne.mpr c29
         (first | rw [c29b0] | (simp only [i64_w, i32_w]; rw [c29b0]) | skip)
         have H' := Aside0.mk H
         clear H
         go_wp2
         go_meet
         case rel => exact ⟨_, (IntKind.u64.wrap (t160 + 1)), (by first | rfl | (simp; done) | (simp [*]; done)), H', ⟨by have := HJ4.out; first | omega | exact Nat.le_refl _⟩, by repeat (first | exact Drawn0.refl _ | apply Drawn0.step)⟩
       ·replace c28 := Bool.eq_false_iff.mpr c28
        subst c28
        have H1 : (money_MulDiv.j3 kj4 false t160) = some (r1, r2) := by rw [if_neg (show ¬ (false = true) by decide)] at H; exact H
        clear H
        have H := H1
        clear H1
        have H' := Aside0.mk H
        clear H
        go_wp2
        go_meet
        case rel => exact ⟨_, (t160), (by first | rfl | (simp; done) | (simp [*]; done)), H', ⟨by have := HJ4.out; first | omega | exact Nat.le_refl _⟩, by repeat (first | exact Drawn0.refl _ | apply Drawn0.step)⟩
      case rest =>
       clear HC27
       try clear c1
       try clear c2
       try clear p2
       try clear c3
       try clear c4
       try clear c6
       try clear c6b0
       try clear p6
       try clear c7
       try clear c7b0
       try clear c8
       try clear c9
       try clear c9b0
       try clear c9b1
       try clear c9b2
       try clear c13
       try clear c13b0
       try clear c15
       try clear c17
       try clear c18
       try clear c18b0
       try clear c18b1
       try clear c20
       try clear c24
       try clear c24b0
       try clear c28
       try clear c29
       try clear c29b0
       try clear c29b1
       try clear p2
       obtain ⟨kq, x14_26, rfl, HA, HJ26, ⟨mc26, rfl⟩⟩ := hcut
       cases kq with
       | zero => exact absurd HA.out (by simp [money_MulDiv.j3])
       | succ kj26 =>
        have H := HA.out
        clear HA
        simp only [money_MulDiv.j3] at H
        have HC30 := Aside0.mk H
        clear H
        go_upto_region 13 with (fail)
        go_cut [61] (fun v61 wc => ∃ (kq : Nat) (x61_29 : Bool), v61 = .bool x61_29 ∧ Aside0 (money_MulDiv.j4 kq false x14_26 x61_29 = some (r1, r2)) ∧ Aside0 (kq ≤ kj26) ∧ Drawn0 w wc)
        case first =>
         have H := HC30.out
         clear HC30
         have H1 : (money_MulDiv.j4 kj26 false x14_26 false) = some (r1, r2) := by first | (rw [if_neg (show ¬ (false = true) by decide)] at H; exact H) | (rw [if_neg (fun h => h)] at H; exact H)
         clear H
         have H := H1
         clear H1
         have H' := Aside0.mk H
         clear H
         go_wp2
         go_meet
         case rel => exact ⟨_, (false), (by first | rfl | (simp; done) | (simp [*]; done)), H', ⟨by have := HJ4.out; have := HJ26.out; first | omega | exact Nat.le_refl _⟩, by repeat (first | exact Drawn0.refl _ | apply Drawn0.step)⟩
        case rest =>
         clear HC30
         try clear c1
         try clear c2
         try clear p2
         try clear c3
         try clear c4
         try clear c6
         try clear c6b0
         try clear p6
         try clear c7
         try clear c7b0
         try clear c8
         try clear c9
         try clear c9b0
         try clear c9b1
         try clear c9b2
         try clear c13
         try clear c13b0
         try clear c15
         try clear c17
         try clear c18
         try clear c18b0
         try clear c18b1
         try clear c20
         try clear c24
         try clear c24b0
         try clear c26
         try clear c28
         try clear c29
         try clear c29b0
         try clear c29b1
         try clear p2
         try clear p6
         obtain ⟨kq, x61_29, rfl, HA, HJ29, ⟨mc29, rfl⟩⟩ := hcut
         cases kq with
         | zero => exact absurd HA.out (by simp [money_MulDiv.j4])
         | succ kj29 =>
          have H := HA.out
          clear HA
          simp only [money_MulDiv.j4] at H
          by_cases c31 : x61_29 = true
          ·subst c31
           have H1 : (some (wrap64 (IntKind.u64.wrap (-x14_26)), 0)) = some (r1, r2) := by rw [if_pos rfl] at H; exact H
           clear H
           have H := H1
           clear H1
           simp only [Option.some.injEq, Prod.mk.injEq] at H
           obtain ⟨rfl, rfl⟩ := H
           go_wp2
           go_ret2
           exact ⟨by first | rfl | (simp; done) | (simp [*]; done), by repeat (first | exact Drawn0.refl _ | apply Drawn0.step)⟩
          ·replace c31 := Bool.eq_false_iff.mpr c31
           subst c31
           have H1 : (if false = true then (some (0, 2)) else (if x14_26 < 9223372036854775808 then (some (wrap64 (x14_26), 0)) else (some (0, 2)))) = some (r1, r2) := by rw [if_neg (show ¬ (false = true) by decide)] at H; exact H
           clear H
           have H := H1
           clear H1
           have H1 : (if x14_26 < 9223372036854775808 then (some (wrap64 (x14_26), 0)) else (some (0, 2))) = some (r1, r2) := by first | (rw [if_neg (show ¬ (false = true) by decide)] at H; exact H) | (rw [if_neg (fun h => h)] at H; exact H)
           clear H
           have H := H1
           clear H1
           by_cases c32 : x14_26 < 9223372036854775808
           ·rw [if_pos c32] at H
            have c32b0 : decide (x14_26 < 9223372036854775808) = true := decide_eq_true c32
            clear c32
            simp only [Option.some.injEq, Prod.mk.injEq] at H
            obtain ⟨rfl, rfl⟩ := H
            go_wp2
            go_ret2
            exact ⟨by first | rfl | (simp; done) | (simp [*]; done), by repeat (first | exact Drawn0.refl _ | apply Drawn0.step)⟩
           ·rw [if_neg c32] at H
            have c32b0 : decide (x14_26 < 9223372036854775808) = false := decide_eq_false c32
            clear c32
            simp only [Option.some.injEq, Prod.mk.injEq] at H
            obtain ⟨rfl, rfl⟩ := H
            go_wp2
            go_ret2
            exact ⟨by first | rfl | (simp; done) | (simp [*]; done), by repeat (first | exact Drawn0.refl _ | apply Drawn0.step)⟩
end Go.Proofs.Ytncnhhnbjmpomaa.Q
namespace Go.Proofs.Mm
open Go.RowKit Go.MapKept
set_option linter.unusedSimpArgs false
set_option linter.unusedVariables false
set_option linter.unusedSectionVars false
instance decBytes : DecidableEq ByteArray := fun a b => if h : a.data = b.data then isTrue (by cases a; cases b; simp_all) else isFalse (fun e => h (by rw [e]))
instance memBytes (a : ByteArray) : (l : List ByteArray) → Decidable (a ∈ l)
  | [] => isFalse (by simp)
  | b :: l => if h : a = b then isTrue (by simp [h]) else match memBytes a l with
    | isTrue h2 => isTrue (by simp [h2])
    | isFalse h2 => isFalse (by simp [h, h2])
section
variable {α : Type} [DecidableEq α] {P : Program} {kt : TypeId} {ek : α → Value}
def ent (ek : α → Value) (x : α × Value × Nat) : MapEntry := ⟨ek x.1, x.2.1, x.2.2⟩
def idx (a : α) : List (α × Value × Nat) → Nat → Option (Nat × Value)
  | [], _ => none
  | x :: l, i => if x.1 = a then some (i, x.2.1) else idx a l (i + 1)
def look (a : α) : List (α × Value × Nat) → Option Value
  | [] => none
  | x :: l => if x.1 = a then some x.2.1 else look a l
def put (a : α) (v : Value) (c : Nat) : List (α × Value × Nat) → List (α × Value × Nat)
  | [] => [(a, v, c)]
  | x :: l => if x.1 = a then (a, v, x.2.2) :: l else x :: put a v c l
def strike (a : α) : List (α × Value × Nat) → List (α × Value × Nat)
  | [] => []
  | x :: l => if x.1 = a then l else x :: strike a l
theorem idx_look (a : α) : ∀ (l : List (α × Value × Nat)) (i : Nat), (idx a l i).map (·.2) = look a l
  | [], _ => rfl
  | x :: l, i => by
    unfold idx look
    split
    · rfl
    · exact idx_look a l (i + 1)
theorem idx_some (a : α) : ∀ (l : List (α × Value × Nat)) (i j : Nat) (v : Value), idx a l i = some (j, v) → ∃ h : j - i < l.length, i ≤ j ∧ l[j - i].1 = a ∧ ∀ w c, put a w c l = l.set (j - i) (a, w, l[j - i].2.2) ∧ strike a l = l.eraseIdx (j - i)
  | [], _, _, _, h => by cases h
  | x :: l, i, j, v, h => by
    unfold idx at h
    split at h
    · rename_i hx
      simp only [Option.some.injEq, Prod.mk.injEq] at h
      obtain ⟨rfl, rfl⟩ := h
      simp [put, strike, hx]
    · rename_i hx
      obtain ⟨h1, h2, h3, h4⟩ := idx_some a l (i + 1) j v h
      have e : j - i = (j - (i + 1)) + 1 := by omega
      refine ⟨by simp; omega, by omega, ?_, ?_⟩
      · simp only [e, List.getElem_cons_succ]; exact h3
      · intro w c
        simp only [e, List.getElem_cons_succ, put, strike, if_neg hx, List.set_cons_succ, List.eraseIdx_cons_succ]
        exact ⟨by rw [(h4 w c).1], by rw [(h4 w c).2]⟩
theorem idx_none (a : α) : ∀ (l : List (α × Value × Nat)) (i : Nat), idx a l i = none → ∀ w c, put a w c l = l ++ [(a, w, c)] ∧ strike a l = l
  | [], _, _ => fun _ _ => ⟨rfl, rfl⟩
  | x :: l, i, h => by
    unfold idx at h
    split at h
    · cases h
    · rename_i hx
      intro w c
      have := idx_none a l (i + 1) h w c
      simp [put, strike, hx, this]
structure KL (P : Program) (kt : TypeId) (ek : α → Value) : Prop where
  check : ∀ (e : Bool) (a : α) (w : World), (Instr.checkKey e 10000 kt (ek a)).run P w = .ok () w
  find : ∀ (a : α) (l : List (α × Value × Nat)) (w : World), (Instr.findKey kt (ek a) (l.map (ent ek))).run P w = .ok (idx a l 0) w
  stays : ∀ (a : α) (w : World), (Instr.keyThatStays (ek a) (ek a)).run P w = .ok (ek a) w
theorem findNow_str (a : ByteArray) : ∀ (l : List (ByteArray × Value × Nat)) (i : Nat), Instr.findNow .string (.string a) (l.map (ent .string)) i = some (idx a l i)
  | [], _ => rfl
  | x :: l, i => by
    simp only [List.map_cons, ent, Instr.findNow, Instr.sameNow, idx]
    by_cases h : x.1 = a
    · have hb : (a == x.1) = true := (bytes_beq _ _).2 h.symm
      rw [hb, if_pos h]
    · have hb : (a == x.1) = false := by
        cases hc : (a == x.1) with
        | false => rfl
        | true => exact absurd ((bytes_beq _ _).1 hc).symm h
      rw [hb, if_neg h]
      exact findNow_str a l (i + 1)
theorem KL.str (hk : P.underlying kt = some .string) : KL P kt Value.string where
  check e a w := MapKept.run_checkKey hk (by trivial) e _
  find a l w := MapKept.run_findKey hk (findNow_str a l 0)
  stays a w := run_keyThatStays (d := .string) (by trivial)
def MapAt (ek : α → Value) (w : World) (b : Nat) (l : List (α × Value × Nat)) (c : Nat) : Prop := w.heap[b]? = some (.map (l.map (ent ek)).toArray c)
theorem run_look (K : KL P kt ek) {t et : TypeId} (ht : P.underlying t = some (.map kt et)) {w : World} {b c : Nat} {l : List (α × Value × Nat)} (hb : MapAt ek w b l c) (a : α) {z : Value} (hz : (zeroValue et).run P w = .ok z w) (ok : Bool) :
    (Instr.lookup t (.map (some b)) (ek a) ok).run P w = .ok (if ok then .tuple #[(look a l).getD z, .bool (look a l).isSome] else (look a l).getD z) w := by
  have hf := K.find a l w
  have hl := idx_look a l 0
  have hb : w.heap[b]? = some (.map (l.map (ent ek)).toArray c) := hb
  cases h : idx a l 0 with
  | none =>
    rw [h] at hf hl
    rw [← hl]
    simp [Instr.lookup, run_underlying ht, MapKept.run_getObj_map hb, K.check, hf, hz, Result.andThen]
  | some q =>
    rw [h] at hf hl
    rw [← hl]
    simp [Instr.lookup, run_underlying ht, MapKept.run_getObj_map hb, K.check, hf, hz, Result.andThen]
def setMap (w : World) (b : Nat) (es : Array MapEntry) (c : Nat) : World := { w with heap := w.heap.setIfInBounds b (.map es c) }
theorem run_upd (K : KL P kt ek) {t et : TypeId} (ht : P.underlying t = some (.map kt et)) {w : World} {b c : Nat} {l : List (α × Value × Nat)} (hb : MapAt ek w b l c) (a : α) (v : Value) :
    (Instr.mapUpdate t (.map (some b)) (ek a) v).run P w = .ok () (setMap w b ((put a v c l).map (ent ek)).toArray (if (look a l).isSome then c else c + 1)) := by
  have hf := K.find a l w
  have hl := idx_look a l 0
  have hb : w.heap[b]? = some (.map (l.map (ent ek)).toArray c) := hb
  cases h : idx a l 0 with
  | none =>
    rw [h] at hf hl
    have hp := (idx_none a l 0 h v c).1
    rw [← hl, hp]
    simp [Instr.mapUpdate, run_underlying ht, MapKept.run_getObj_map hb, K.check, hf, MapKept.run_setObj_map _ hb, Result.andThen, setMap, ent]
  | some q =>
    obtain ⟨j, u⟩ := q
    rw [h] at hf hl
    obtain ⟨h1, _, h3, h4⟩ := idx_some a l 0 j u h
    have hp := (h4 v c).1
    simp only [Nat.sub_zero] at h1 h3 hp
    rw [← hl, hp]
    have hk := K.stays a w
    have hj : (l.map (ent ek)).toArray[j]? = some (ent ek l[j]) := by simp [h1]
    have hkey : (ent ek l[j]).key = ek a := by show ek l[j].1 = _; rw [h3]
    simp [Instr.mapUpdate, run_underlying ht, MapKept.run_getObj_map hb, K.check, hf, MapKept.run_setObj_map _ hb, Result.andThen, setMap, h1, hkey, h3, hk, ent]
    congr 3
    apply List.ext_getElem?
    intro i
    simp only [List.getElem?_modify, List.getElem?_map, List.getElem?_set]
    by_cases hi : j = i
    · subst hi
      simp [h1, ent]
    · simp [hi]
theorem setMap_at {w : World} {b c : Nat} {l l' : List (α × Value × Nat)} (hb : MapAt ek w b l c) (c' : Nat) : MapAt ek (setMap w b (l'.map (ent ek)).toArray c') b l' c' := by
  have h : b < w.heap.size := (Array.getElem?_eq_some_iff.1 hb).1
  simp [MapAt, setMap, h]
end
theorem setMap_size (w : World) (b : Nat) (es : Array MapEntry) (c : Nat) : (setMap w b es c).heap.size = w.heap.size := by simp [setMap]
theorem setMap_block (w : World) (b : Nat) (es : Array MapEntry) (c : Nat) (k : Nat) (h : k ≠ b) : (setMap w b es c).heap[k]? = w.heap[k]? := by
  have : ¬ b = k := fun q => h q.symm
  simp [setMap, Array.getElem?_setIfInBounds, this]
theorem setMap_below {n : Nat} {w0 w : World} (h : Below n w0 w) {b : Nat} (hb : n ≤ b) (es : Array MapEntry) (c : Nat) : Below n w0 (setMap w b es c) :=
  ⟨h.os, h.tape, h.output, by rw [setMap_size]; exact h.size, fun k hk => by rw [setMap_block _ _ _ _ _ (by omega)]; exact h.block k hk⟩
theorem alloc_at {α : Type} [DecidableEq α] {ek : α → Value} {w : World} {b c : Nat} {l : List (α × Value × Nat)} (h : MapAt ek w b l c) (o : Obj) : MapAt ek (w.alloc o) b l c := by
  have hl : b < w.heap.size := (Array.getElem?_eq_some_iff.1 h).1
  exact ((heap_alloc w o).2 b hl).trans h
theorem setMap_alloc_at {α : Type} [DecidableEq α] {ek : α → Value} {w : World} {b c : Nat} {l l' : List (α × Value × Nat)} (h : MapAt ek w b l c) (o : Obj) (c' : Nat) : MapAt ek (setMap (w.alloc o) b (l'.map (ent ek)).toArray c') b l' c' := setMap_at (alloc_at h o) c'
end Go.Proofs.Mm
namespace Go.Proofs.Ytncnhhnbjmpomaa.Q
open Go.RowKit Go.Proofs.YtncnhhnbjmpomaaW.PrintWords Go.Proofs.YtncnhhnbjmpomaaW.PrintLast Go.Proofs.Ytncnhhnbjmpomaa Go.Proofs.Kq
set_option linter.unusedVariables false
set_option linter.unusedSimpArgs false
def badS (x : S106) : Bool := decide (x.f0.toList = []) || decide (20 < x.f0.size) || decide (x.f1 < 1) || decide (1125899906842624 < x.f1)
def rightL : List ByteArray → List S106 → Int
  | _, [] => 0
  | seen, x :: xs => if badS x = true then 1 else if x.f0 ∈ seen then 9 else rightL (seen ++ [x.f0]) xs
def rightF (l : List S106) : Int := if l.length = 0 ∨ 8 < l.length then 1 else rightL [] l
def part_Right.f (l : List S106) : Option Int := some (rightF l)
def setL : Nat → List ByteArray → List (ByteArray × Value × Nat)
  | _, [] => []
  | c, p :: ps => (p, .bool true, c) :: setL (c + 1) ps
theorem setL_look (a : ByteArray) : ∀ (ps : List ByteArray) (c : Nat), Mm.look a (setL c ps) = if a ∈ ps then some (.bool true) else none
  | [], _ => rfl
  | p :: ps, c => by
    simp only [setL, Mm.look, List.mem_cons]
    by_cases h : p = a
    · rw [if_pos h, if_pos (.inl h.symm)]
    · rw [if_neg h, setL_look a ps]
      by_cases h2 : a ∈ ps
      · rw [if_pos h2, if_pos (.inr h2)]
      · rw [if_neg h2, if_neg]; rintro (e | e)
        · exact h e.symm
        · exact h2 e
theorem setL_snoc (a : ByteArray) : ∀ (ps : List ByteArray) (c : Nat), a ∉ ps → Mm.put a (.bool true) (c + ps.length) (setL c ps) = setL c (ps ++ [a])
  | [], _, _ => rfl
  | p :: ps, c, h => by
    simp only [List.mem_cons, not_or] at h
    simp only [setL, Mm.put, if_neg (fun e : p = a => h.1 (Eq.symm e)), List.length_cons, List.cons_append]
    rw [← setL_snoc a ps (c + 1) h.2, show c + (ps.length + 1) = c + 1 + ps.length by omega]
theorem C106_open {w : World} {A : Option Addr} {xs : List S106} (h : Kd.C k106 w A xs.length xs) (hn : 0 < xs.length) :
    ∃ b off, A = some ⟨b, off, none⟩ ∧ ∀ (i : Nat) (hi : i < xs.length), w.cell? ⟨b, off + i * 2, none⟩ = some (.string xs[i].f0) ∧ w.cell? ⟨b, off + i * 2 + 1, none⟩ = some (.int .i64 xs[i].f1) := by
  obtain ⟨ad, e, c1, c2⟩ := at_T106 h 0 (by omega) (by omega)
  have hsp : ad.spot = none := by
    have := c1
    simpa [Addr.add] using Rk.spot_none this
  refine ⟨ad.block, ad.off, by rw [e, ← Kp.addr_eta hsp], fun i hi => ?_⟩
  obtain ⟨ad', e', d1, d2⟩ := at_T106 h i (by omega) (by omega)
  rw [e] at e'
  cases e'
  rw [Kp.addr_eta hsp, Kp.add_plain'] at d1 d2
  have hr : rd_T106 xs (i : Int) = xs[i] := by simp [rd_T106, List.getD_eq_getElem?_getD, hi]
  rw [hr, Int.toNat_natCast] at d1 d2
  exact ⟨d1, d2⟩
set_option maxHeartbeats 4000000 in
theorem right_any (A0 : Option Addr) (c0 : Nat) (xs : List S106) (w : World) (hr0 : Kd.C k106 w A0 xs.length xs) (hc0 : xs.length ≤ c0) :
    Calls Try.prog 34 #[.slice A0 xs.length c0] w fun e w' => e = .returned (.int .i64 (rightF xs)) ∧ Below w.heap.size w w' := by
  have hmm := @run_makeMap Try.prog
  by_cases h0 : xs.length = 0
  · have HF : Hid (rightF xs = 1) := by show _ = _; unfold rightF; rw [if_pos (.inl h0)]
    rw [h0]
    clear hr0
    go_enter Try.func34, Try.ntmps34
    go_wp2
    go_ret
    exact ⟨ret_int HF.out.symm, Below.refl _ _⟩
  by_cases h8 : 8 < xs.length
  · have HF : Hid (rightF xs = 1) := by show _ = _; unfold rightF; rw [if_pos (.inr h8)]
    have t1 : decide ((xs.length : Int) > 8) = true := by simp; omega
    have t2 : ((xs.length : Int) == 0) = false := beq_eq_false_iff_ne.2 (by omega)
    clear hr0
    go_enter Try.func34, Try.ntmps34
    go_wp2
    go_ret
    exact ⟨ret_int HF.out.symm, Below.refl _ _⟩
  have HF : Hid (rightF xs = rightL [] xs) := by show _ = _; unfold rightF; rw [if_neg (by omega)]
  have t1 : decide ((xs.length : Int) > 8) = false := by simp; omega
  have t2 : ((xs.length : Int) == 0) = false := beq_eq_false_iff_ne.2 (by omega)
  obtain ⟨b, off, rfl, hx⟩ := C106_open hr0 (by omega)
  have HX := hidI hx
  clear hx hr0
  go_enter Try.func34, Try.ntmps34
  go_wp2
  go_loopw [17] (fun i wr => ∃ k : Nat, k ≤ xs.length ∧ i = .int .i64 k ∧ Hid (rightL [] xs = rightL ((xs.take k).map (·.f0)) (xs.drop k)) ∧ Hid (Mm.MapAt Value.string wr w.heap.size (setL 0 ((xs.take k).map (·.f0))) k) ∧ Below w.heap.size w wr) (fun i _ => xs.length - (intOf i).toNat)
  case atStart => exact ⟨0, Nat.zero_le _, rfl, rfl, by show (w.heap.push _)[w.heap.size]? = _; simp [setL], below_new (Below.refl _ _) _⟩
  case round =>
    obtain ⟨k, hk, rfl, hst, hM, hb⟩ := hrel
    by_cases hlt : k < xs.length
    · obtain ⟨x, hxe⟩ : ∃ x, x = xs[k] := ⟨_, rfl⟩
      have q0 : wr.cell? ⟨b, off + k * 2, none⟩ = some (.string x.f0) := by rw [hxe]; exact pw_cell_below hb (HX.out k hlt).1
      have q1 : wr.cell? ⟨b, off + k * 2 + 1, none⟩ = some (.int .i64 x.f1) := by rw [hxe]; exact pw_cell_below hb (HX.out k hlt).2
      have hst' : Hid (rightL [] xs = if badS x = true then 1 else if x.f0 ∈ (xs.take k).map (·.f0) then 9 else rightL ((xs.take (k + 1)).map (·.f0)) (xs.drop (k + 1))) := by
        show _ = _
        rw [hst.out, List.drop_eq_getElem_cons hlt, hxe, rightL, List.take_succ_eq_append_getElem hlt, List.map_append]; rfl
      have HE := hidI hxe
      clear hst hxe
      by_cases c1 : x.f0.toList = []
      · have hr : Hid (rightL [] xs = 1) := by show _ = _; rw [hst'.out, if_pos]; unfold badS; simp [c1]
        clear hst'
        go_wp2
        go_ret
        exact ⟨ret_int (by rw [HF.out, hr.out]), below_new hb _⟩
      have c1' : x.f0.toList.isEmpty = false := by simpa using c1
      by_cases c2 : 20 < x.f0.size
      · have hr : Hid (rightL [] xs = 1) := by show _ = _; rw [hst'.out, if_pos]; unfold badS; simp [c2]
        have c2' : decide ((x.f0.size : Int) > 20) = true := by simp; omega
        clear hst'
        go_wp2
        go_ret
        exact ⟨ret_int (by rw [HF.out, hr.out]), below_new hb _⟩
      by_cases c3 : x.f1 < 1
      · have hr : Hid (rightL [] xs = 1) := by show _ = _; rw [hst'.out, if_pos]; unfold badS; simp [c3]
        have c2' : decide ((x.f0.size : Int) > 20) = false := by simp; omega
        clear hst'
        go_wp2
        go_ret
        exact ⟨ret_int (by rw [HF.out, hr.out]), below_new hb _⟩
      by_cases c4 : 1125899906842624 < x.f1
      · have hr : Hid (rightL [] xs = 1) := by show _ = _; rw [hst'.out, if_pos]; unfold badS; simp [c4]
        have c2' : decide ((x.f0.size : Int) > 20) = false := by simp; omega
        clear hst'
        go_wp2
        go_ret
        exact ⟨ret_int (by rw [HF.out, hr.out]), below_new hb _⟩
      have c2' : decide ((x.f0.size : Int) > 20) = false := by simp; omega
      by_cases hs : x.f0 ∈ (xs.take k).map (·.f0)
      · have hr : Hid (rightL [] xs = 9) := by show _ = _; rw [hst'.out, if_neg, if_pos hs]; unfold badS; simp [c1]; omega
        have hrun : ∀ o, (Instr.lookup 108 (.map (some w.heap.size)) (.string x.f0) false).run Try.prog (wr.alloc o) = .ok (.bool true) (wr.alloc o) := fun o => by
          have := Mm.run_look (Mm.KL.str Try.underlying9) Try.underlying108 (Mm.alloc_at hM.out o) x.f0 (z := .bool false) (by kernel_rfl) false
          rw [setL_look, if_pos hs] at this
          exact this
        clear hst' hs
        go_wp2
        go_ret
        exact ⟨ret_int (by rw [HF.out, hr.out]), below_new hb _⟩
      · have hr : Hid (rightL [] xs = rightL ((xs.take (k + 1)).map (·.f0)) (xs.drop (k + 1))) := by show _ = _; rw [hst'.out, if_neg, if_neg hs]; unfold badS; simp [c1]; omega
        have hrun : ∀ o, (Instr.lookup 108 (.map (some w.heap.size)) (.string x.f0) false).run Try.prog (wr.alloc o) = .ok (.bool false) (wr.alloc o) := fun o => by
          have := Mm.run_look (Mm.KL.str Try.underlying9) Try.underlying108 (Mm.alloc_at hM.out o) x.f0 (z := .bool false) (by kernel_rfl) false
          rw [setL_look, if_neg hs] at this
          exact this
        have hupd : ∀ o, (Instr.mapUpdate 108 (.map (some w.heap.size)) (.string x.f0) (.bool true)).run Try.prog (wr.alloc o) = .ok () (Mm.setMap (wr.alloc o) w.heap.size ((setL 0 ((xs.take (k + 1)).map (·.f0))).map (Mm.ent Value.string)).toArray (k + 1)) := fun o => by
          have := Mm.run_upd (Mm.KL.str Try.underlying9) Try.underlying108 (Mm.alloc_at hM.out o) x.f0 (.bool true)
          have e := setL_snoc x.f0 ((xs.take k).map (·.f0)) 0 hs
          rw [List.length_map, List.length_take, Nat.min_eq_left hk, Nat.zero_add] at e
          rw [setL_look, if_neg hs, e, ← List.map_singleton, ← List.map_append, HE.out, ← List.take_succ_eq_append_getElem hlt] at this
          rw [HE.out]
          exact this
        have hfin : Hid (∀ o, Mm.MapAt Value.string (Mm.setMap (wr.alloc o) w.heap.size ((setL 0 ((xs.take (k + 1)).map (·.f0))).map (Mm.ent Value.string)).toArray (k + 1)) w.heap.size (setL 0 ((xs.take (k + 1)).map (·.f0))) (k + 1) ∧ Below w.heap.size w (Mm.setMap (wr.alloc o) w.heap.size ((setL 0 ((xs.take (k + 1)).map (·.f0))).map (Mm.ent Value.string)).toArray (k + 1))) := fun o => ⟨Mm.setMap_alloc_at hM.out o _, Mm.setMap_below (below_new hb _) (Nat.le_refl _) _ _⟩
        clear hst' hs
        generalize ((setL 0 ((xs.take (k + 1)).map (·.f0))).map (Mm.ent Value.string)).toArray = E at *
        go_wp2
        go_roundw
        case rel => exact ⟨k + 1, by omega, by go_num, hr, (hfin.out _).1, (hfin.out _).2⟩
        case measure => simp [intOf]; omega
    · have hr : Hid (rightL [] xs = 0) := by
        show _ = _
        rw [hst.out, List.drop_of_length_le (by omega)]; rfl
      clear hst
      go_wp2
      go_ret
      exact ⟨ret_int (by rw [HF.out, hr.out]), hb⟩
theorem part_Right.calls (A0 : Option Addr) (c0 : Nat) (l0 : List S106) (r : Int) (w : World) (hr0 : Kd.C k106 w A0 l0.length l0) (hc0 : l0.length ≤ c0) (h : part_Right.f l0 = some r) :
    Calls Try.prog 34 #[.slice A0 l0.length c0] w fun e w' => e = .returned (.int .i64 r) ∧ Below w.heap.size w w' := by
  cases h
  exact right_any A0 c0 l0 w hr0 hc0
end Go.Proofs.Ytncnhhnbjmpomaa.Q
namespace Go.Proofs.Ytncnhhnbjmpomaa.Q
open Go.RowKit Go.Proofs.YtncnhhnbjmpomaaW.PrintWords Go.Proofs.YtncnhhnbjmpomaaW.PrintLast Go.Proofs.YtncnhhnbjmpomaaW.PrintMore
attribute [local go_sem] max2_int min2_int max_two min_two max_three min_three max_four min_four   -- for this text's walks alone
set_option linter.unusedVariables false
set_option linter.unusedSimpArgs false
mutual
def part_Of.j0 : Nat → Int → List (S106) → Bool → Int → Int → Int → Int → Option ((List (S68)) × Int)
 | 0, _, _, _, _, _, _, _ => none
 | k + 1, x0, x2, x8, x491000, x491001, x491002, x491003 => (part_Right.f x2).bind fun t491 => (if x8 = true then (if t491 = 0 then (part_Of.j1 k x0 x2 t491 true x491000 x491001 x491002 x491003) else (part_Of.j1 k x0 x2 t491 (t491 == 9) x491000 x491001 x491002 x491003)) else (part_Of.j1 k x0 x2 t491 false x491000 x491001 x491002 x491003))
def part_Of.j1 : Nat → Int → List (S106) → Int → Bool → Int → Int → Int → Int → Option ((List (S68)) × Int)
 | 0, _, _, _, _, _, _, _, _ => none
 | k + 1, x0, x2, x9, x67, x491000, x491001, x491002, x491003 => if x67 = true then (some (([] : List (S68)), 1)) else (if x9 = 0 then (part_Of.l0 k x0 x2 ([] : List Int) x2 (x2.length : Int) 0 x491000 x491001 x491002 x491003) else (some (([] : List (S68)), x9)))
def part_Of.l0 : Nat → Int → List (S106) → List Int → List (S106) → Int → Int → Int → Int → Int → Int → Option ((List (S68)) × Int)
 | 0, _, _, _, _, _, _, _, _, _, _ => none
 | k + 1, x0, x2, x10, x71, x72, x73, x491000, x491001, x491002, x491003 => if x73 < x72 then (if 0 ≤ x73 then (if x73 < (x71.length : Int) then (if x10.length < 17592186044416 then (part_Of.l0 k x0 x2 (x10 ++ [(rd_T106 x71 x73).f1]) x71 x72 (wrap64 (x73 + 1)) x491000 x491001 x491002 x491003) else (none)) else (none)) else (none)) else ((money_Split.f (wrap64 ((wrap64 (x0 - x491000)) - x491001)) x10).bind fun bt497 => (if bt497.2 = 0 then (part_Of.l1 k bt497.1 ([] : List (S68)) x2 (x2.length : Int) 0 x491000 x491001 x491002 x491003) else (some (([] : List (S68)), bt497.2))))
def part_Of.l1 : Nat → List Int → List (S68) → List (S106) → Int → Int → Int → Int → Int → Int → Option ((List (S68)) × Int)
 | 0, _, _, _, _, _, _, _, _, _ => none
 | k + 1, x13, x15, x98, x99, x100, x491000, x491001, x491002, x491003 => if x100 < x99 then (if 0 ≤ x100 then (if x100 < (x98.length : Int) then (if x100 < (x13.length : Int) then ((money_MulDiv.f k (rd x13 x100) x491002 10000 0).bind fun bt504 => (if x15.length < 4398046511104 then (part_Of.l1 k x13 (x15 ++ [(⟨(rd_T106 x98 x100).f0, rd x13 x100, bt504.1⟩ : S68)]) x98 x99 (wrap64 (x100 + 1)) x491000 x491001 x491002 x491003) else (none))) else (none)) else (none)) else (none)) else (some (x15, 0))
end
def part_Of.f (k : Nat) (a0 : Int) (a1_0 : Int) (a1_1 : Int) (a1_2 : Int) (a1_3 : Int) (l2 : List (S106)) : Option ((List (S68)) × Int) := if a1_0 < 0 then (part_Of.j0 k a0 l2 true a1_0 a1_1 a1_2 a1_3) else (if a1_1 < 0 then (part_Of.j0 k a0 l2 true a1_0 a1_1 a1_2 a1_3) else (if a1_2 < 0 then (part_Of.j0 k a0 l2 true a1_0 a1_1 a1_2 a1_3) else (if a1_2 > 10000 then (part_Of.j0 k a0 l2 true a1_0 a1_1 a1_2 a1_3) else (if a0 > 1125899906842624 then (part_Of.j0 k a0 l2 true a1_0 a1_1 a1_2 a1_3) else (if a1_0 > a0 then (part_Of.j0 k a0 l2 true a1_0 a1_1 a1_2 a1_3) else (part_Of.j0 k a0 l2 (decide (a1_1 > (wrap64 (a0 - a1_0)))) a1_0 a1_1 a1_2 a1_3))))))
def part_Of.T20 : Bool × List (List Nat × List Nat) := (true, [([], []), ([], []), ([0, 1], [0, 1]), ([2], [2]), ([], []), ([4], [4]), ([3, 5], [3, 5]), ([6], [6]), ([7], [7]), ([7], [7]), ([8, 6, 0, 1, 2, 3, 4, 5, 6, 7, 8], [8]), ([9, 10, 0, 1, 2, 3, 4, 5, 6, 7, 8, 9, 10], [9])])
def part_Of.B20 : List Nat := [0, 0, 3, 7, 0, 16, 63, 127, 255, 255, 511, 2047]
theorem part_Of.tab20 : rtab .any (opsOf Try.f32 20) = part_Of.T20 := by kernel_rfl
theorem part_Of.bits20 : waitsOk part_Of.T20.2 part_Of.B20 = true := by kernel_rfl
def part_Of.T21 : Bool × List (List Nat × List Nat) := (true, [([], []), ([], []), ([1], [1]), ([], []), ([], []), ([3, 4], [3, 4]), ([5], [5]), ([], []), ([2, 6, 7], [2, 6, 7]), ([8], [8]), ([0, 9], [0, 9]), ([10, 10, 0, 1, 2, 3, 4, 5, 6, 7, 8, 9, 10], [0, 10])])
def part_Of.B21 : List Nat := [0, 0, 2, 0, 0, 24, 56, 0, 254, 510, 1023, 2047]
theorem part_Of.tab21 : rtab .any (opsOf Try.f32 21) = part_Of.T21 := by kernel_rfl
theorem part_Of.bits21 : waitsOk part_Of.T21.2 part_Of.B21 = true := by kernel_rfl
set_option maxHeartbeats 8000000 in
set_option maxRecDepth 100000 in
theorem part_Of.calls (k : Nat) (a0 : Int) (a1_0 : Int) (a1_1 : Int) (a1_2 : Int) (a1_3 : Int) (A2 : Option Addr) (c2 : Nat) (l2 : List (S106)) (r1 : List (S68)) (r2 : Int) (w : World) (hr2 : Kd.C k106 w A2 l2.length l2) (hc2 : l2.length ≤ c2) (h : part_Of.f k a0 a1_0 a1_1 a1_2 a1_3 l2 = some (r1, r2)) :
  Calls Try.prog 32 #[.int .i64 a0, .agg #[.int .i64 a1_0, .int .i64 a1_1, .int .i64 a1_2, .int .i64 a1_3], .slice A2 l2.length c2] w fun e w' => ∃ v0_ : Value, e = .returned (.tuple #[v0_, .int .i64 r2]) ∧ Kd.R k68 68 w' w.heap.size (fun _ => True) v0_ r1 ∧ Below w.heap.size w w' := by
 have hu58 := Try.underlying58
 have hu106 := Try.underlying106
 have hu68 := Try.underlying68
 have HR2 := Aside0.mk hr2
 have HC2 := Aside0.mk hc2
 clear hr2 hc2
 have HB := Aside0.mk (Below.refl w.heap.size w)
 have H : (if a1_0 < 0 then (part_Of.j0 k a0 l2 true a1_0 a1_1 a1_2 a1_3) else (if a1_1 < 0 then (part_Of.j0 k a0 l2 true a1_0 a1_1 a1_2 a1_3) else (if a1_2 < 0 then (part_Of.j0 k a0 l2 true a1_0 a1_1 a1_2 a1_3) else (if a1_2 > 10000 then (part_Of.j0 k a0 l2 true a1_0 a1_1 a1_2 a1_3) else (if a0 > 1125899906842624 then (part_Of.j0 k a0 l2 true a1_0 a1_1 a1_2 a1_3) else (if a1_0 > a0 then (part_Of.j0 k a0 l2 true a1_0 a1_1 a1_2 a1_3) else (part_Of.j0 k a0 l2 (decide (a1_1 > (wrap64 (a0 - a1_0)))) a1_0 a1_1 a1_2 a1_3))))))) = some (r1, r2) := h
 clear h
 have HC4 := Aside0.mk H
 clear H
 go_enter Try.func32, Try.ntmps32
 go_upto_region 1 with (first | ((with_reducible refine gate_dst (N := 4) rfl ?_); refine box_event ?hg (N := 4) ?hd (cs := #[.int .i64 a1_0, .int .i64 a1_1, .int .i64 a1_2, .int .i64 a1_3]) (t := 58) ?hr ?_; (case hd => rfl); (case hg => rfl); (case hr => first | (go_simp; done) | (go_simp; rfl)); intro gb490 hg w5 hbox hb; have n0_ := Aside0.mk (below_step (by repeat (first | (with_reducible first | exact HB.out | apply below_alloc | apply pw_below_drewN | apply below_drew1) | exact HB.out)) hb); have n1_ := Aside0.mk (hbox); have n2_ := Aside0.mk ((by rw [hg]; exact (below_size (by repeat (first | (with_reducible first | exact HB.out | apply below_alloc | apply pw_below_drewN | apply below_drew1) | exact HB.out))) : w.heap.size ≤ gb490)); have n3_ := Aside0.mk ((by rw [hg]; exact (below_size (by repeat (first | (with_reducible first | exact HB.out | apply below_alloc | apply pw_below_drewN | apply below_drew1) | exact HB.out))) : w.heap.size ≤ gb490)); clear HB; have HB := n0_; have BK490 := n1_; have GW490 := n2_; have GE490 := n3_; clear n0_ n1_ n2_ n3_; clear hb hbox hg))
 (try simp only [Act.put, List.setIfInBounds_toArray, List.set_cons_zero, List.set_cons_succ])
 go_cut [8] (fun v8 wc => ∃ (kq : Nat) (x8_3 : Bool), v8 = .bool x8_3 ∧ Aside0 (part_Of.j0 kq a0 l2 x8_3 a1_0 a1_1 a1_2 a1_3 = some (r1, r2)) ∧ Aside0 (kq ≤ k) ∧ Aside0 (wc.heap[gb490]? = some (.cells #[.int .i64 a1_0, .int .i64 a1_1, .int .i64 a1_2, .int .i64 a1_3] 58 (0, 0))) ∧ Aside0 (Below w.heap.size w wc))
 case first =>
  have H := HC4.out
  clear HC4
  by_cases c6 : a1_0 < 0
  ·rw [if_pos c6] at H
   have c6b0 : decide (a1_0 < 0) = true := decide_eq_true c6
   clear c6
   (first | rw [c6b0] | (simp only [i64_w, i32_w]; rw [c6b0]) | skip)
   have H' := Aside0.mk H
   clear H
   have hcz7_0 : w5.cell? ⟨gb490, 0, none⟩ = some (.int .i64 a1_0) := (blk_cell BK490.out 0).trans rfl
   have hcz7_1 : w5.cell? ⟨gb490, 1, none⟩ = some (.int .i64 a1_1) := (blk_cell BK490.out 1).trans rfl
   have hcz7_2 : w5.cell? ⟨gb490, 2, none⟩ = some (.int .i64 a1_2) := (blk_cell BK490.out 2).trans rfl
   have hcz7_3 : w5.cell? ⟨gb490, 3, none⟩ = some (.int .i64 a1_3) := (blk_cell BK490.out 3).trans rfl
   have hfz7_0 := blk_frozen BK490.out 0
   have hfz7_1 := blk_frozen BK490.out 1
   have hfz7_2 := blk_frozen BK490.out 2
   have hfz7_3 := blk_frozen BK490.out 3
   go_wp2
   go_meet
   case rel => exact ⟨_, (true), (by first | rfl | (simp; done) | (simp [*]; done)), H', ⟨by first | omega | exact Nat.le_refl _⟩, ⟨by (with_reducible repeat (first | refine blk_drewN ?_ _ | refine blk_drew ?_ | refine blk_alloc ?_ _)); exact BK490.out⟩, ⟨by repeat (first | (with_reducible first | exact HB.out | apply below_alloc | apply pw_below_drewN | apply below_drew1 | refine below_set ?_ GE490.out) | exact HB.out)⟩⟩
  ·rw [if_neg c6] at H
   have c6b0 : decide (a1_0 < 0) = false := decide_eq_false c6
   clear c6
   (first | rw [c6b0] | (simp only [i64_w, i32_w]; rw [c6b0]) | skip)
   by_cases c8 : a1_1 < 0
   ·rw [if_pos c8] at H
    have c8b0 : decide (a1_1 < 0) = true := decide_eq_true c8
    clear c8
    have H' := Aside0.mk H
    clear H
    have hcz9_0 : w5.cell? ⟨gb490, 0, none⟩ = some (.int .i64 a1_0) := (blk_cell BK490.out 0).trans rfl
    have hcz9_1 : w5.cell? ⟨gb490, 1, none⟩ = some (.int .i64 a1_1) := (blk_cell BK490.out 1).trans rfl
    have hcz9_2 : w5.cell? ⟨gb490, 2, none⟩ = some (.int .i64 a1_2) := (blk_cell BK490.out 2).trans rfl
    have hcz9_3 : w5.cell? ⟨gb490, 3, none⟩ = some (.int .i64 a1_3) := (blk_cell BK490.out 3).trans rfl
    have hfz9_0 := blk_frozen BK490.out 0
    have hfz9_1 := blk_frozen BK490.out 1
    have hfz9_2 := blk_frozen BK490.out 2
    have hfz9_3 := blk_frozen BK490.out 3
    go_wp2
    go_meet
    case rel => exact ⟨_, (true), (by first | rfl | (simp; done) | (simp [*]; done)), H', ⟨by first | omega | exact Nat.le_refl _⟩, ⟨by (with_reducible repeat (first | refine blk_drewN ?_ _ | refine blk_drew ?_ | refine blk_alloc ?_ _)); exact BK490.out⟩, ⟨by repeat (first | (with_reducible first | exact HB.out | apply below_alloc | apply pw_below_drewN | apply below_drew1 | refine below_set ?_ GE490.out) | exact HB.out)⟩⟩
   ·rw [if_neg c8] at H
    have c8b0 : decide (a1_1 < 0) = false := decide_eq_false c8
    clear c8
    by_cases c10 : a1_2 < 0
    ·rw [if_pos c10] at H
     have c10b0 : decide (a1_2 < 0) = true := decide_eq_true c10
     clear c10
     have H' := Aside0.mk H
     clear H
     have hcz11_0 : w5.cell? ⟨gb490, 0, none⟩ = some (.int .i64 a1_0) := (blk_cell BK490.out 0).trans rfl
     have hcz11_1 : w5.cell? ⟨gb490, 1, none⟩ = some (.int .i64 a1_1) := (blk_cell BK490.out 1).trans rfl
     have hcz11_2 : w5.cell? ⟨gb490, 2, none⟩ = some (.int .i64 a1_2) := (blk_cell BK490.out 2).trans rfl
     have hcz11_3 : w5.cell? ⟨gb490, 3, none⟩ = some (.int .i64 a1_3) := (blk_cell BK490.out 3).trans rfl
     have hfz11_0 := blk_frozen BK490.out 0
     have hfz11_1 := blk_frozen BK490.out 1
     have hfz11_2 := blk_frozen BK490.out 2
     have hfz11_3 := blk_frozen BK490.out 3
     go_wp2
     go_meet
     case rel => exact ⟨_, (true), (by first | rfl | (simp; done) | (simp [*]; done)), H', ⟨by first | omega | exact Nat.le_refl _⟩, ⟨by (with_reducible repeat (first | refine blk_drewN ?_ _ | refine blk_drew ?_ | refine blk_alloc ?_ _)); exact BK490.out⟩, ⟨by repeat (first | (with_reducible first | exact HB.out | apply below_alloc | apply pw_below_drewN | apply below_drew1 | refine below_set ?_ GE490.out) | exact HB.out)⟩⟩
    ·rw [if_neg c10] at H
     have c10b0 : decide (a1_2 < 0) = false := decide_eq_false c10
     clear c10
     by_cases c12 : a1_2 > 10000
     ·rw [if_pos c12] at H
      have c12b0 : decide (10000 < a1_2) = true := decide_eq_true c12
      clear c12
      have H' := Aside0.mk H
      clear H
      have hcz13_0 : w5.cell? ⟨gb490, 0, none⟩ = some (.int .i64 a1_0) := (blk_cell BK490.out 0).trans rfl
      have hcz13_1 : w5.cell? ⟨gb490, 1, none⟩ = some (.int .i64 a1_1) := (blk_cell BK490.out 1).trans rfl
      have hcz13_2 : w5.cell? ⟨gb490, 2, none⟩ = some (.int .i64 a1_2) := (blk_cell BK490.out 2).trans rfl
      have hcz13_3 : w5.cell? ⟨gb490, 3, none⟩ = some (.int .i64 a1_3) := (blk_cell BK490.out 3).trans rfl
      have hfz13_0 := blk_frozen BK490.out 0
      have hfz13_1 := blk_frozen BK490.out 1
      have hfz13_2 := blk_frozen BK490.out 2
      have hfz13_3 := blk_frozen BK490.out 3
      go_wp2
      go_meet
      case rel => exact ⟨_, (true), (by first | rfl | (simp; done) | (simp [*]; done)), H', ⟨by first | omega | exact Nat.le_refl _⟩, ⟨by (with_reducible repeat (first | refine blk_drewN ?_ _ | refine blk_drew ?_ | refine blk_alloc ?_ _)); exact BK490.out⟩, ⟨by repeat (first | (with_reducible first | exact HB.out | apply below_alloc | apply pw_below_drewN | apply below_drew1 | refine below_set ?_ GE490.out) | exact HB.out)⟩⟩
     ·rw [if_neg c12] at H
      have c12b0 : decide (10000 < a1_2) = false := decide_eq_false c12
      clear c12
      by_cases c14 : a0 > 1125899906842624
      ·rw [if_pos c14] at H
       have c14b0 : decide (1125899906842624 < a0) = true := decide_eq_true c14
       clear c14
       have H' := Aside0.mk H
       clear H
       have hcz15_0 : w5.cell? ⟨gb490, 0, none⟩ = some (.int .i64 a1_0) := (blk_cell BK490.out 0).trans rfl
       have hcz15_1 : w5.cell? ⟨gb490, 1, none⟩ = some (.int .i64 a1_1) := (blk_cell BK490.out 1).trans rfl
       have hcz15_2 : w5.cell? ⟨gb490, 2, none⟩ = some (.int .i64 a1_2) := (blk_cell BK490.out 2).trans rfl
       have hcz15_3 : w5.cell? ⟨gb490, 3, none⟩ = some (.int .i64 a1_3) := (blk_cell BK490.out 3).trans rfl
       have hfz15_0 := blk_frozen BK490.out 0
       have hfz15_1 := blk_frozen BK490.out 1
       have hfz15_2 := blk_frozen BK490.out 2
       have hfz15_3 := blk_frozen BK490.out 3
       go_wp2
       go_meet
       case rel => exact ⟨_, (true), (by first | rfl | (simp; done) | (simp [*]; done)), H', ⟨by first | omega | exact Nat.le_refl _⟩, ⟨by (with_reducible repeat (first | refine blk_drewN ?_ _ | refine blk_drew ?_ | refine blk_alloc ?_ _)); exact BK490.out⟩, ⟨by repeat (first | (with_reducible first | exact HB.out | apply below_alloc | apply pw_below_drewN | apply below_drew1 | refine below_set ?_ GE490.out) | exact HB.out)⟩⟩
      ·rw [if_neg c14] at H
       have c14b0 : decide (1125899906842624 < a0) = false := decide_eq_false c14
       clear c14
       by_cases c16 : a1_0 > a0
       ·rw [if_pos c16] at H
        have c16b0 : decide (a0 < a1_0) = true := decide_eq_true c16
        clear c16
        have H' := Aside0.mk H
        clear H
        have hcz17_0 : w5.cell? ⟨gb490, 0, none⟩ = some (.int .i64 a1_0) := (blk_cell BK490.out 0).trans rfl
        have hcz17_1 : w5.cell? ⟨gb490, 1, none⟩ = some (.int .i64 a1_1) := (blk_cell BK490.out 1).trans rfl
        have hcz17_2 : w5.cell? ⟨gb490, 2, none⟩ = some (.int .i64 a1_2) := (blk_cell BK490.out 2).trans rfl
        have hcz17_3 : w5.cell? ⟨gb490, 3, none⟩ = some (.int .i64 a1_3) := (blk_cell BK490.out 3).trans rfl
        have hfz17_0 := blk_frozen BK490.out 0
        have hfz17_1 := blk_frozen BK490.out 1
        have hfz17_2 := blk_frozen BK490.out 2
        have hfz17_3 := blk_frozen BK490.out 3
        go_wp2
        go_meet
        case rel => exact ⟨_, (true), (by first | rfl | (simp; done) | (simp [*]; done)), H', ⟨by first | omega | exact Nat.le_refl _⟩, ⟨by (with_reducible repeat (first | refine blk_drewN ?_ _ | refine blk_drew ?_ | refine blk_alloc ?_ _)); exact BK490.out⟩, ⟨by repeat (first | (with_reducible first | exact HB.out | apply below_alloc | apply pw_below_drewN | apply below_drew1 | refine below_set ?_ GE490.out) | exact HB.out)⟩⟩
       ·rw [if_neg c16] at H
        have c16b0 : decide (a0 < a1_0) = false := decide_eq_false c16
        clear c16
        have H' := Aside0.mk H
        clear H
        have hcz18_0 : w5.cell? ⟨gb490, 0, none⟩ = some (.int .i64 a1_0) := (blk_cell BK490.out 0).trans rfl
        have hcz18_1 : w5.cell? ⟨gb490, 1, none⟩ = some (.int .i64 a1_1) := (blk_cell BK490.out 1).trans rfl
        have hcz18_2 : w5.cell? ⟨gb490, 2, none⟩ = some (.int .i64 a1_2) := (blk_cell BK490.out 2).trans rfl
        have hcz18_3 : w5.cell? ⟨gb490, 3, none⟩ = some (.int .i64 a1_3) := (blk_cell BK490.out 3).trans rfl
        have hfz18_0 := blk_frozen BK490.out 0
        have hfz18_1 := blk_frozen BK490.out 1
        have hfz18_2 := blk_frozen BK490.out 2
        have hfz18_3 := blk_frozen BK490.out 3
        go_wp2
        go_meet
        case rel => exact ⟨_, (decide (a1_1 > (wrap64 (a0 - a1_0)))), (by first | rfl | (simp; done) | (simp [*]; done)), H', ⟨by first | omega | exact Nat.le_refl _⟩, ⟨by (with_reducible repeat (first | refine blk_drewN ?_ _ | refine blk_drew ?_ | refine blk_alloc ?_ _)); exact BK490.out⟩, ⟨by repeat (first | (with_reducible first | exact HB.out | apply below_alloc | apply pw_below_drewN | apply below_drew1 | refine below_set ?_ GE490.out) | exact HB.out)⟩⟩
 case rest =>
  clear HC4
  try clear c1
  try clear c2
  try clear p2
  try clear c3
  try clear c6
  try clear c6b0
  try clear p6
  try clear c8
  try clear c8b0
  try clear c10
  try clear c10b0
  try clear c12
  try clear c12b0
  try clear c14
  try clear c14b0
  try clear c16
  try clear c16b0
  try clear hcz11_0
  try clear hcz11_1
  try clear hcz11_2
  try clear hcz11_3
  try clear hcz13_0
  try clear hcz13_1
  try clear hcz13_2
  try clear hcz13_3
  try clear hcz15_0
  try clear hcz15_1
  try clear hcz15_2
  try clear hcz15_3
  try clear hcz17_0
  try clear hcz17_1
  try clear hcz17_2
  try clear hcz17_3
  try clear hcz18_0
  try clear hcz18_1
  try clear hcz18_2
  try clear hcz18_3
  try clear hcz7_0
  try clear hcz7_1
  try clear hcz7_2
  try clear hcz7_3
  try clear hcz9_0
  try clear hcz9_1
  try clear hcz9_2
  try clear hcz9_3
  try clear hfz11_0
  try clear hfz11_1
  try clear hfz11_2
  try clear hfz11_3
  try clear hfz13_0
  try clear hfz13_1
  try clear hfz13_2
  try clear hfz13_3
  try clear hfz15_0
  try clear hfz15_1
  try clear hfz15_2
  try clear hfz15_3
  try clear hfz17_0
  try clear hfz17_1
  try clear hfz17_2
  try clear hfz17_3
  try clear hfz18_0
  try clear hfz18_1
  try clear hfz18_2
  try clear hfz18_3
  try clear hfz7_0
  try clear hfz7_1
  try clear hfz7_2
  try clear hfz7_3
  try clear hfz9_0
  try clear hfz9_1
  try clear hfz9_2
  try clear hfz9_3
  obtain ⟨kq, x8_3, rfl, HA, HJ3, BK490, HB⟩ := hcut
  cases kq with
  | zero => exact absurd HA.out (by simp [part_Of.j0])
  | succ kj3 =>
   have H := HA.out
   clear HA
   simp only [part_Of.j0] at H
   replace H := Option.bind_eq_some_iff.mp H
   obtain ⟨t491, A190, H⟩ := H
   replace H : (if x8_3 = true then (if t491 = 0 then (part_Of.j1 kj3 a0 l2 t491 true a1_0 a1_1 a1_2 a1_3) else (part_Of.j1 kj3 a0 l2 t491 (t491 == 9) a1_0 a1_1 a1_2 a1_3)) else (part_Of.j1 kj3 a0 l2 t491 false a1_0 a1_1 a1_2 a1_3)) = some (r1, r2) := H
   have A19 := Aside0.mk A190
   clear A190
   have HC20 := Aside0.mk H
   clear H
   go_upto_region 3 with (first | ((with_reducible refine gate_callee (f := 34) rfl ?_); refine goesL_ (some 58) rfl rfl Try.func34 (by kernel_rfl) rfl #[.slice A2 l2.length c2] rfl (by (try simp only [List.map_toArray, List.map_cons, List.map_nil]); first | done | rfl | (simp only [List.length_drop, List.length_take]; rfl)) ?_; (with_reducible refine (part_Right.calls _ _ l2 t491 _ ?side1 ?side2 A19.out).mono ?_); (case side1 => repeat (first | exact (Kd.C_below HR2.out HB.out) | (with_reducible refine Kd.C_alloc ?_ _) | (with_reducible refine Kd.C_drewN ?_ _) | (with_reducible refine Kd.C_drew ?_))); (case side2 => exact HC2.out); rintro e w21 ⟨rfl, hb⟩; refine ⟨_, rfl, ?_⟩; have n0_ := Aside0.mk (blk_below (g := gb490) (o := .cells #[.int .i64 a1_0, .int .i64 a1_1, .int .i64 a1_2, .int .i64 a1_3] 58 (0, 0)) (by (with_reducible repeat (first | refine blk_drewN ?_ _ | refine blk_drew ?_ | refine blk_alloc ?_ _)); exact BK490.out) hb); have n1_ := Aside0.mk (below_step (by repeat (first | (with_reducible first | exact HB.out | apply below_alloc | apply pw_below_drewN | apply below_drew1 | refine below_set ?_ GE490.out) | exact HB.out)) hb); clear BK490; clear HB; have BK490 := n0_; have HB := n1_; clear n0_ n1_; (try clear hb); (try clear hb2); (try clear hk); (try clear hi)))
   (try simp only [Act.put, List.setIfInBounds_toArray, List.set_cons_zero, List.set_cons_succ])
   go_cut [67] (fun v67 wc => ∃ (kq : Nat) (x67_19 : Bool), v67 = .bool x67_19 ∧ Aside0 (part_Of.j1 kq a0 l2 t491 x67_19 a1_0 a1_1 a1_2 a1_3 = some (r1, r2)) ∧ Aside0 (kq ≤ kj3) ∧ Aside0 (wc.heap[gb490]? = some (.cells #[.int .i64 a1_0, .int .i64 a1_1, .int .i64 a1_2, .int .i64 a1_3] 58 (0, 0))) ∧ Aside0 (Below w.heap.size w wc))
   case first =>
    have H := HC20.out
    clear HC20
    by_cases c22 : x8_3 = true
    ·subst c22
     have H1 : (if t491 = 0 then (part_Of.j1 kj3 a0 l2 t491 true a1_0 a1_1 a1_2 a1_3) else (part_Of.j1 kj3 a0 l2 t491 (t491 == 9) a1_0 a1_1 a1_2 a1_3)) = some (r1, r2) := by rw [if_pos rfl] at H; exact H
     clear H
     have H := H1
     clear H1
     by_cases c23 : t491 = 0
     ·rw [if_pos c23] at H
      have c23b0 : (t491 == 0) = true := beq_iff_eq.mpr c23
      have c23b1 : (t491 != 0) = false := bne_eq_false_iff_eq.mpr c23
      clear c23
      (first | rw [c23b0] | (simp only [i64_w, i32_w]; rw [c23b0]) | skip)
      have H' := Aside0.mk H
      clear H
      go_wp2
      go_meet
      case rel => exact ⟨_, (true), (by first | rfl | (simp; done) | (simp [*]; done)), H', ⟨by have := HJ3.out; first | omega | exact Nat.le_refl _⟩, ⟨by (with_reducible repeat (first | refine blk_drewN ?_ _ | refine blk_drew ?_ | refine blk_alloc ?_ _)); exact BK490.out⟩, ⟨by repeat (first | (with_reducible first | exact HB.out | apply below_alloc | apply pw_below_drewN | apply below_drew1 | refine below_set ?_ GE490.out) | exact HB.out)⟩⟩
     ·rw [if_neg c23] at H
      have c23b0 : (t491 == 0) = false := beq_eq_false_iff_ne.mpr c23
      have c23b1 : (t491 != 0) = true := bne_iff_ne.mpr c23
      (first | rw [c23b0] | (simp only [i64_w, i32_w]; rw [c23b0]) | skip)
      have H' := Aside0.mk H
      clear H
      go_wp2
      go_meet
      case rel => exact ⟨_, ((t491 == 9)), (by first | rfl | (simp; done) | (simp [*]; done)), H', ⟨by have := HJ3.out; first | omega | exact Nat.le_refl _⟩, ⟨by (with_reducible repeat (first | refine blk_drewN ?_ _ | refine blk_drew ?_ | refine blk_alloc ?_ _)); exact BK490.out⟩, ⟨by repeat (first | (with_reducible first | exact HB.out | apply below_alloc | apply pw_below_drewN | apply below_drew1 | refine below_set ?_ GE490.out) | exact HB.out)⟩⟩
    ·replace c22 := Bool.eq_false_iff.mpr c22
     subst c22
     have H1 : (part_Of.j1 kj3 a0 l2 t491 false a1_0 a1_1 a1_2 a1_3) = some (r1, r2) := by rw [if_neg (show ¬ (false = true) by decide)] at H; exact H
     clear H
     have H := H1
     clear H1
     have H' := Aside0.mk H
     clear H
     go_wp2
     go_meet
     case rel => exact ⟨_, (false), (by first | rfl | (simp; done) | (simp [*]; done)), H', ⟨by have := HJ3.out; first | omega | exact Nat.le_refl _⟩, ⟨by (with_reducible repeat (first | refine blk_drewN ?_ _ | refine blk_drew ?_ | refine blk_alloc ?_ _)); exact BK490.out⟩, ⟨by repeat (first | (with_reducible first | exact HB.out | apply below_alloc | apply pw_below_drewN | apply below_drew1 | refine below_set ?_ GE490.out) | exact HB.out)⟩⟩
   case rest =>
    clear HC20
    try clear c1
    try clear c2
    try clear p2
    try clear c3
    try clear c6
    try clear c6b0
    try clear p6
    try clear c8
    try clear c8b0
    try clear c10
    try clear c10b0
    try clear c12
    try clear c12b0
    try clear c14
    try clear c14b0
    try clear c16
    try clear c16b0
    try clear c22
    try clear c23
    try clear c23b0
    try clear c23b1
    try clear hcz11_0
    try clear hcz11_1
    try clear hcz11_2
    try clear hcz11_3
    try clear hcz13_0
    try clear hcz13_1
    try clear hcz13_2
    try clear hcz13_3
    try clear hcz15_0
    try clear hcz15_1
    try clear hcz15_2
    try clear hcz15_3
    try clear hcz17_0
    try clear hcz17_1
    try clear hcz17_2
    try clear hcz17_3
    try clear hcz18_0
    try clear hcz18_1
    try clear hcz18_2
    try clear hcz18_3
    try clear hcz7_0
    try clear hcz7_1
    try clear hcz7_2
    try clear hcz7_3
    try clear hcz9_0
    try clear hcz9_1
    try clear hcz9_2
    try clear hcz9_3
    try clear hfz11_0
    try clear hfz11_1
    try clear hfz11_2
    try clear hfz11_3
    try clear hfz13_0
    try clear hfz13_1
    try clear hfz13_2
    try clear hfz13_3
    try clear hfz15_0
    try clear hfz15_1
    try clear hfz15_2
    try clear hfz15_3
    try clear hfz17_0
    try clear hfz17_1
    try clear hfz17_2
    try clear hfz17_3
    try clear hfz18_0
    try clear hfz18_1
    try clear hfz18_2
    try clear hfz18_3
    try clear hfz7_0
    try clear hfz7_1
    try clear hfz7_2
    try clear hfz7_3
    try clear hfz9_0
    try clear hfz9_1
    try clear hfz9_2
    try clear hfz9_3
    try clear p2
    try clear p6
    obtain ⟨kq, x67_19, rfl, HA, HJ19, BK490, HB⟩ := hcut
    cases kq with
    | zero => exact absurd HA.out (by simp [part_Of.j1])
    | succ kj19 =>
     have H := HA.out
     clear HA
     simp only [part_Of.j1] at H
     by_cases c24 : x67_19 = true
     ·subst c24
      have H1 : (some (([] : List (S68)), 1)) = some (r1, r2) := by rw [if_pos rfl] at H; exact H
      clear H
      have H := H1
      clear H1
      simp only [Option.some.injEq, Prod.mk.injEq] at H
      obtain ⟨rfl, rfl⟩ := H
      go_wp2
      go_ret2
      exact ⟨_, by first | rfl | (simp [errW_none, errW_some] <;> rfl) | (simp [*, errW_none, errW_some] <;> rfl), by first | exact Kd.R_nil _ _ _ _ _ | exact Kd.N_nil _ _ _ _ _ | exact Kd.V_nil _ _ _ _ _ | exact Kd.Q_nil _ _ _ _ _ | exact Kd.S_nil _ _ _ _ _, by repeat (first | (with_reducible first | exact HB.out | apply below_alloc | apply pw_below_drewN | apply below_drew1 | refine below_set ?_ GE490.out) | exact HB.out)⟩
     ·replace c24 := Bool.eq_false_iff.mpr c24
      subst c24
      have H1 : (if t491 = 0 then (part_Of.l0 kj19 a0 l2 ([] : List Int) l2 (l2.length : Int) 0 a1_0 a1_1 a1_2 a1_3) else (some (([] : List (S68)), t491))) = some (r1, r2) := by rw [if_neg (show ¬ (false = true) by decide)] at H; exact H
      clear H
      have H := H1
      clear H1
      by_cases c25 : t491 = 0
      ·rw [if_pos c25] at H
       have c25b0 : (t491 == 0) = true := beq_iff_eq.mpr c25
       have c25b1 : (t491 != 0) = false := bne_eq_false_iff_eq.mpr c25
       clear c25
       have H' := Aside0.mk H
       clear H
       go_wp2
       go_loopg [10, 73] kj19 (fun kq v10 v73 w' => ∃ (x10_3 : List Int) (x73_3 : Int), v73 = .int .i64 x73_3 ∧ Aside0 (part_Of.l0 kq a0 l2 x10_3 l2 (l2.length : Int) x73_3 a1_0 a1_1 a1_2 a1_3 = some (r1, r2)) ∧ Aside0 (kq ≤ kj19) ∧ Aside0 (Kd.R (Kd.int .i64) 2 w' w.heap.size (fun _ => True) v10 x10_3) ∧ Aside0 (w'.heap[gb490]? = some (.cells #[.int .i64 a1_0, .int .i64 a1_1, .int .i64 a1_2, .int .i64 a1_3] 58 (0, 0))) ∧ Aside0 (Below w.heap.size w w'))
       case atStart => exact ⟨(([] : List Int)), (0), (by first | rfl | (simp; done) | (simp [*]; done)), H', ⟨Nat.le_refl _⟩, ⟨by first | exact Kd.R_nil _ _ _ _ _ | exact Kd.N_nil _ _ _ _ _ | exact Kd.V_nil _ _ _ _ _ | exact Kd.Q_nil _ _ _ _ _ | exact Kd.S_nil _ _ _ _ _⟩, ⟨by (with_reducible repeat (first | refine blk_drewN ?_ _ | refine blk_drew ?_ | refine blk_alloc ?_ _)); exact BK490.out⟩, ⟨by repeat (first | (with_reducible first | exact HB.out | apply below_alloc | apply pw_below_drewN | apply below_drew1 | refine below_set ?_ GE490.out) | exact HB.out)⟩⟩
       case round =>
        clear H'
        try clear c1
        try clear c2
        try clear p2
        try clear c3
        try clear c6
        try clear c6b0
        try clear p6
        try clear c8
        try clear c8b0
        try clear c10
        try clear c10b0
        try clear c12
        try clear c12b0
        try clear c14
        try clear c14b0
        try clear c16
        try clear c16b0
        try clear c22
        try clear c23
        try clear c23b0
        try clear c23b1
        try clear c24
        try clear c25
        try clear c25b0
        try clear c25b1
        try clear hcz11_0
        try clear hcz11_1
        try clear hcz11_2
        try clear hcz11_3
        try clear hcz13_0
        try clear hcz13_1
        try clear hcz13_2
        try clear hcz13_3
        try clear hcz15_0
        try clear hcz15_1
        try clear hcz15_2
        try clear hcz15_3
        try clear hcz17_0
        try clear hcz17_1
        try clear hcz17_2
        try clear hcz17_3
        try clear hcz18_0
        try clear hcz18_1
        try clear hcz18_2
        try clear hcz18_3
        try clear hcz7_0
        try clear hcz7_1
        try clear hcz7_2
        try clear hcz7_3
        try clear hcz9_0
        try clear hcz9_1
        try clear hcz9_2
        try clear hcz9_3
        try clear hfz11_0
        try clear hfz11_1
        try clear hfz11_2
        try clear hfz11_3
        try clear hfz13_0
        try clear hfz13_1
        try clear hfz13_2
        try clear hfz13_3
        try clear hfz15_0
        try clear hfz15_1
        try clear hfz15_2
        try clear hfz15_3
        try clear hfz17_0
        try clear hfz17_1
        try clear hfz17_2
        try clear hfz17_3
        try clear hfz18_0
        try clear hfz18_1
        try clear hfz18_2
        try clear hfz18_3
        try clear hfz7_0
        try clear hfz7_1
        try clear hfz7_2
        try clear hfz7_3
        try clear hfz9_0
        try clear hfz9_1
        try clear hfz9_2
        try clear hfz9_3
        try clear p2
        try clear p6
        obtain ⟨x10_3, x73_3, rfl, HA, HK3, HO_10, BK490, HB⟩ := hrel
        cases gk with
        | zero => exact absurd HA.out (by simp [part_Of.l0])
        | succ k3 =>
         have H := HA.out
         clear HA
         simp only [part_Of.l0] at H
         by_cases c26 : x73_3 < (l2.length : Int)
         ·rw [if_pos c26] at H
          have c26b0 : decide (x73_3 < (l2.length : Int)) = true := decide_eq_true c26
          clear c26
          by_cases c27 : 0 ≤ x73_3
          ·rw [if_pos c27] at H
           have c27b0 : decide (0 ≤ x73_3) = true := decide_eq_true c27
           clear c27
           by_cases c28 : x73_3 < (l2.length : Int)
           ·rw [if_pos c28] at H
            have c28b0 : decide (x73_3 < (l2.length : Int)) = true := decide_eq_true c28
            clear c28
            by_cases c29 : x10_3.length < 17592186044416
            ·rw [if_pos c29] at H
             have LMc29 := Aside0.mk c29
             clear c29
             obtain ⟨y494, hy494⟩ : ∃ y_ : List Int, y_ = (x10_3 ++ [(rd_T106 l2 x73_3).f1]) := ⟨_, rfl⟩
             replace H : (part_Of.l0 k3 a0 l2 y494 l2 (l2.length : Int) (wrap64 (x73_3 + 1)) a1_0 a1_1 a1_2 a1_3) = some (r1, r2) := by first | (rw [hy494]; with_reducible exact H) | (have H2_ := (Option.bind_some _ _).symm.trans H; rw [hy494]; with_reducible exact H2_) | (have H2_ := (Option.bind_some _ _).symm.trans H; with_reducible exact H2_) | with_reducible exact H | (rw [hy494]; exact H) | exact H
             have Ny494 := Aside0.mk hy494
             clear hy494
             have H' := Aside0.mk H
             clear H
             have p492 : 0 ≤ (x73_3 : Int) := of_decide_eq_true (by first | (with_reducible assumption) | assumption)
             have q492 : x73_3 < (l2.length : Int) := of_decide_eq_true (by first | (with_reducible assumption) | assumption)
             obtain ⟨ad492, e492, hx492_0, hx492_1⟩ := at_T106 HR2.out x73_3 p492 q492
             cases e492
             replace hx492_0 := (HB.out.cell (World.block_lt_of_cell? w _ hx492_0)).trans hx492_0
             replace hx492_1 := (HB.out.cell (World.block_lt_of_cell? w _ hx492_1)).trans hx492_1
             replace p492 := eq_true p492
             replace q492 := eq_true q492
             go_wp2_with (first | ((with_reducible refine gate_dst (N := 12) rfl ?_); refine box_event ?hg (N := 12) ?hd (cs := #[.string (⟨#[]⟩ : ByteArray), .int .i64 0]) (t := 106) ?hr ?_; (case hd => rfl); (case hg => rfl); (case hr => first | (go_simp; done) | (go_simp; rfl)); intro gb493 hg w30 hbox hb; have n0_ := Aside0.mk (Kd.R_below (by (with_reducible repeat (first | apply Kd.R_alloc | apply Kd.R_drewN | apply Kd.R_drew)); exact HO_10.out) hb); have n1_ := Aside0.mk (blk_below (g := gb490) (o := .cells #[.int .i64 a1_0, .int .i64 a1_1, .int .i64 a1_2, .int .i64 a1_3] 58 (0, 0)) (by (with_reducible repeat (first | refine blk_drewN ?_ _ | refine blk_drew ?_ | refine blk_alloc ?_ _)); exact BK490.out) hb); have n2_ := Aside0.mk (below_step (by repeat (first | (with_reducible first | exact HB.out | apply below_alloc | apply pw_below_drewN | apply below_drew1 | refine below_set ?_ GE490.out) | exact HB.out)) hb); have n3_ := Aside0.mk (hbox); have n4_ := Aside0.mk ((by rw [hg]; exact (below_size (by repeat (first | (with_reducible first | exact HB.out | apply below_alloc | apply pw_below_drewN | apply below_drew1 | refine below_set ?_ GE490.out) | exact HB.out))) : w.heap.size ≤ gb493)); have n5_ := Aside0.mk ((by rw [hg]; exact (below_size (by repeat (first | (with_reducible first | exact HB.out | apply below_alloc | apply pw_below_drewN | apply below_drew1 | refine below_set ?_ GE490.out) | exact HB.out))) : w.heap.size ≤ gb493)); have n6_ := Aside0.mk ((by rw [hg]; exact Nat.ne_of_lt (blk_lt (g := gb490) (o := .cells #[.int .i64 a1_0, .int .i64 a1_1, .int .i64 a1_2, .int .i64 a1_3] 58 (0, 0)) (by (with_reducible repeat (first | refine blk_drewN ?_ _ | refine blk_drew ?_ | refine blk_alloc ?_ _)); exact BK490.out)) : gb490 ≠ gb493)); have n7_ := Aside0.mk ((by rw [hg]; exact Nat.ne_of_gt (blk_lt (g := gb490) (o := .cells #[.int .i64 a1_0, .int .i64 a1_1, .int .i64 a1_2, .int .i64 a1_3] 58 (0, 0)) (by (with_reducible repeat (first | refine blk_drewN ?_ _ | refine blk_drew ?_ | refine blk_alloc ?_ _)); exact BK490.out)) : gb493 ≠ gb490)); clear HO_10; clear BK490; clear HB; have HO_10 := n0_; have BK490 := n1_; have HB := n2_; have BK493 := n3_; have GW493 := n4_; have GE493 := n5_; have NB490_493 := n6_; have NB493_490 := n7_; clear n0_ n1_ n2_ n3_ n4_ n5_ n6_ n7_; clear hb hbox hg; have hnb31 := NB493_490.out; have hnc31 := NB490_493.out; have hcz32_0 : w30.cell? ⟨gb493, 0, none⟩ = some (.string (⟨#[]⟩ : ByteArray)) := (blk_cell BK493.out 0).trans rfl; have hcz32_1 : w30.cell? ⟨gb493, 1, none⟩ = some (.int .i64 0) := (blk_cell BK493.out 1).trans rfl; have hfz32_0 := blk_frozen BK493.out 0; have hfz32_1 := blk_frozen BK493.out 1) | ((with_reducible refine gate_builtin (b := .append) (xs := #[.tmp 77, .tmp 80]) rfl ?_); at_builtin; refine Kd.R_append (Kd.int .i64) (w0 := w) w.heap.size rfl (.tmp 77) (.tmp 80) 22 2 (.int .i64 0) 8 rfl Try.underlying22 info2 rfl (by decide) (by omega) u10 x10_3 ((rd_T106 l2 x73_3).f1) [.int .i64 ((rd_T106 l2 x73_3).f1)] (fun _ => True) (fun _ => False) rfl (by first | (go_simp; done) | (go_simp; rfl)) ?aP (fun _ hk => hk.elim) ?aF ?aO ?aB ?aS ?aL ?_; (case aP => exact rfl); (case aB => exact (by repeat (first | (with_reducible first | exact HB.out | apply below_alloc | apply pw_below_drewN | apply below_drew1 | refine below_set ?_ GE490.out | refine below_set ?_ GE493.out) | exact HB.out))); (case aF => exact (fun _ _ => trivial)); (case aO => exact (by (with_reducible repeat (first | apply Kd.R_alloc | apply Kd.R_drewN | apply Kd.R_drew)); exact Kd.R_mono (Kd.R_far (p := ⟨gb493, 1, none⟩) (Kd.R_far (p := ⟨gb493, 0, none⟩) (Kd.R_types HO_10.out BK493.out (by decide)) (fun _ hk => hk.2) (.string ((rd_T106 l2 x73_3).f0))) (fun _ hk => hk.2) (.int .i64 ((rd_T106 l2 x73_3).f1))) (fun _ hk => trivial))); (case aS => exact (below_size (by repeat (first | (with_reducible first | exact HB.out | apply below_alloc | apply pw_below_drewN | apply below_drew1 | refine below_set ?_ GE490.out | refine below_set ?_ GE493.out) | exact HB.out)))); (case aL => have := LMc29.out; omega); intro v495 w33 ho hb hg hat; rw [← Ny494.out] at ho; have n0_ := Aside0.mk (blk_grown (g := gb490) (o := .cells #[.int .i64 a1_0, .int .i64 a1_1, .int .i64 a1_2, .int .i64 a1_3] 58 (0, 0)) (by (with_reducible repeat (first | refine blk_drewN ?_ _ | refine blk_drew ?_ | refine blk_alloc ?_ _)); refine blk_far ?_ NB490_493.out _; (with_reducible repeat (first | refine blk_drewN ?_ _ | refine blk_drew ?_ | refine blk_alloc ?_ _)); refine blk_far ?_ NB490_493.out _; (with_reducible repeat (first | refine blk_drewN ?_ _ | refine blk_drew ?_ | refine blk_alloc ?_ _)); exact BK490.out) hg (Kd.R_ne HO_10.out BK490.out (by decide))); have n1_ := Aside0.mk (blk_grown (g := gb493) (o := .cells #[.string ((rd_T106 l2 x73_3).f0), .int .i64 ((rd_T106 l2 x73_3).f1)] 106 (0, 0)) (by (with_reducible repeat (first | refine blk_drewN ?_ _ | refine blk_drew ?_ | refine blk_alloc ?_ _)); refine blk_put (cs := #[.string ((rd_T106 l2 x73_3).f0), .int .i64 0]) ?_ 1 _ rfl; (with_reducible repeat (first | refine blk_drewN ?_ _ | refine blk_drew ?_ | refine blk_alloc ?_ _)); refine blk_put (cs := #[.string (⟨#[]⟩ : ByteArray), .int .i64 0]) ?_ 0 _ rfl; (with_reducible repeat (first | refine blk_drewN ?_ _ | refine blk_drew ?_ | refine blk_alloc ?_ _)); exact BK493.out) hg (Kd.R_ne HO_10.out BK493.out (by decide))); have n2_ := Aside0.mk (hb); have n3_ := Aside0.mk (ho); clear BK490; clear BK493; clear HB; clear HO_10; have BK490 := n0_; have BK493 := n1_; have HB := n2_; have HO496 := n3_; clear n0_ n1_ n2_ n3_; clear ho hb hg hat))
             go_roundg k3
             case measure => have := HJ3.out; have := HJ19.out; have := HK3.out; omega
             case rel => exact ⟨(y494), (wrap64 (x73_3 + 1)), (by first | rfl | (simp; done) | (simp [*]; done)), H', ⟨by have := HJ3.out; have := HJ19.out; have := HK3.out; omega⟩, ⟨by (with_reducible repeat (first | apply Kd.R_alloc | apply Kd.R_drewN | apply Kd.R_drew)); exact HO496.out⟩, ⟨by (with_reducible repeat (first | refine blk_drewN ?_ _ | refine blk_drew ?_ | refine blk_alloc ?_ _)); exact BK490.out⟩, ⟨by repeat (first | (with_reducible first | exact HB.out | apply below_alloc | apply pw_below_drewN | apply below_drew1 | refine below_set ?_ GE490.out | refine below_set ?_ GE493.out) | exact HB.out)⟩⟩
            ·rw [if_neg c29] at H
             exact absurd H (by simp)
           ·rw [if_neg c28] at H
            exact absurd H (by simp)
          ·rw [if_neg c27] at H
           exact absurd H (by simp)
         ·rw [if_neg c26] at H
          have c26b0 : decide (x73_3 < (l2.length : Int)) = false := decide_eq_false c26
          clear c26
          replace H := Option.bind_eq_some_iff.mp H
          obtain ⟨⟨t497, t498⟩, A340, H⟩ := H
          replace H : (if t498 = 0 then (part_Of.l1 k3 t497 ([] : List (S68)) l2 (l2.length : Int) 0 a1_0 a1_1 a1_2 a1_3) else (some (([] : List (S68)), t498))) = some (r1, r2) := H
          have A34 := Aside0.mk A340
          clear A340
          by_cases c35 : t498 = 0
          ·rw [if_pos c35] at H
           have c35b0 : (t498 == 0) = true := beq_iff_eq.mpr c35
           have c35b1 : (t498 != 0) = false := bne_eq_false_iff_eq.mpr c35
           clear c35
           have H' := Aside0.mk H
           clear H
           have hcz36_0 : wr.cell? ⟨gb490, 0, none⟩ = some (.int .i64 a1_0) := (blk_cell BK490.out 0).trans rfl
           have hcz36_1 : wr.cell? ⟨gb490, 1, none⟩ = some (.int .i64 a1_1) := (blk_cell BK490.out 1).trans rfl
           have hcz36_2 : wr.cell? ⟨gb490, 2, none⟩ = some (.int .i64 a1_2) := (blk_cell BK490.out 2).trans rfl
           have hcz36_3 : wr.cell? ⟨gb490, 3, none⟩ = some (.int .i64 a1_3) := (blk_cell BK490.out 3).trans rfl
           have hfz36_0 := blk_frozen BK490.out 0
           have hfz36_1 := blk_frozen BK490.out 1
           have hfz36_2 := blk_frozen BK490.out 2
           have hfz36_3 := blk_frozen BK490.out 3
           obtain ⟨Ao37, co37, eo37⟩ := Kd.R_slice HO_10.out
           subst eo37
           go_wp2_with (first | ((with_reducible refine gate_callee (f := 20) rfl ?_); refine goesL_ (some 92) rfl rfl Try.func20 (by kernel_rfl) rfl #[.int .i64 (wrap64 ((wrap64 (a0 - a1_0)) - a1_1)), .slice Ao37 x10_3.length co37] rfl (by (try simp only [List.map_toArray, List.map_cons, List.map_nil]); first | done | rfl | (simp only [List.length_drop, List.length_take]; rfl)) ?_; (with_reducible refine (money_Split.calls (wrap64 ((wrap64 (a0 - a1_0)) - a1_1)) _ _ x10_3 t497 t498 _ ?side1 ?side2 A34.out).mono ?_); (case side1 => repeat (first | exact (Kd.R_reads' HO_10.out).2.2 | (with_reducible refine Kd.C_alloc ?_ _) | (with_reducible refine Kd.C_drewN ?_ _) | (with_reducible refine Kd.C_drew ?_))); (case side2 => exact (Kd.R_reads' HO_10.out).2.1); rintro e w38 ⟨v499, rfl, ho0, hb⟩; refine ⟨_, rfl, ?_⟩; have n0_ := Aside0.mk (Kd.R_elder' (by (with_reducible repeat (first | apply Kd.R_alloc | apply Kd.R_drewN | apply Kd.R_drew)); exact HO_10.out) (Kd.R_base ho0) hb); have n1_ := Aside0.mk (Kd.R_lower (Kd.R_new' ho0 (Kd.R_lt (by (with_reducible repeat (first | apply Kd.R_alloc | apply Kd.R_drewN | apply Kd.R_drew)); exact HO_10.out))) (below_size (by repeat (first | (with_reducible first | exact HB.out | apply below_alloc | apply pw_below_drewN | apply below_drew1 | refine below_set ?_ GE490.out) | exact HB.out)))); have n2_ := Aside0.mk (blk_below (g := gb490) (o := .cells #[.int .i64 a1_0, .int .i64 a1_1, .int .i64 a1_2, .int .i64 a1_3] 58 (0, 0)) (by (with_reducible repeat (first | refine blk_drewN ?_ _ | refine blk_drew ?_ | refine blk_alloc ?_ _)); exact BK490.out) hb); have n3_ := Aside0.mk (below_step (by repeat (first | (with_reducible first | exact HB.out | apply below_alloc | apply pw_below_drewN | apply below_drew1 | refine below_set ?_ GE490.out) | exact HB.out)) hb); clear HO_10; clear BK490; clear HB; have HO_10 := n0_; have HO500 := n1_; have BK490 := n2_; have HB := n3_; clear n0_ n1_ n2_ n3_; (try clear hb); (try clear hb2); (try clear hk); (try clear hi); (try clear ho0)))
           go_loopg [15, 100] k3 (fun kq v15 v100 w' => ∃ (x15_4 : List (S68)) (x100_4 : Int), v100 = .int .i64 x100_4 ∧ Aside0 (part_Of.l1 kq t497 x15_4 l2 (l2.length : Int) x100_4 a1_0 a1_1 a1_2 a1_3 = some (r1, r2)) ∧ Aside0 (kq ≤ k3) ∧ Aside0 (Kd.R (Kd.int .i64) 2 w' w.heap.size (fun _ => True) v499 t497) ∧ Aside0 (Kd.R k68 68 w' w.heap.size (fun _ => True) v15 x15_4) ∧ Aside0 (w'.heap[gb490]? = some (.cells #[.int .i64 a1_0, .int .i64 a1_1, .int .i64 a1_2, .int .i64 a1_3] 58 (0, 0))) ∧ Aside0 (Below w.heap.size w w'))
           case atStart => exact ⟨(([] : List (S68))), (0), (by first | rfl | (simp; done) | (simp [*]; done)), H', ⟨Nat.le_refl _⟩, ⟨by (with_reducible repeat (first | apply Kd.R_alloc | apply Kd.R_drewN | apply Kd.R_drew)); exact Kd.R_mono HO500.out (fun _ hk => trivial)⟩, ⟨by first | exact Kd.R_nil _ _ _ _ _ | exact Kd.N_nil _ _ _ _ _ | exact Kd.V_nil _ _ _ _ _ | exact Kd.Q_nil _ _ _ _ _ | exact Kd.S_nil _ _ _ _ _⟩, ⟨by (with_reducible repeat (first | refine blk_drewN ?_ _ | refine blk_drew ?_ | refine blk_alloc ?_ _)); exact BK490.out⟩, ⟨by repeat (first | (with_reducible first | exact HB.out | apply below_alloc | apply pw_below_drewN | apply below_drew1 | refine below_set ?_ GE490.out) | exact HB.out)⟩⟩
           case round =>
            clear H'
            try clear c1
            try clear c2
            try clear p2
            try clear c3
            try clear p4
            try clear q4
            try clear hx4
            try clear c6
            try clear c6b0
            try clear p6
            try clear c8
            try clear c8b0
            try clear c10
            try clear c10b0
            try clear c12
            try clear c12b0
            try clear c14
            try clear c14b0
            try clear c16
            try clear c16b0
            try clear c20
            try clear c22
            try clear c23
            try clear c23b0
            try clear c23b1
            try clear c24
            try clear c25
            try clear c25b0
            try clear c25b1
            try clear c26
            try clear c26b0
            try clear c27
            try clear c27b0
            try clear c28
            try clear c28b0
            try clear c29
            try clear c31
            try clear c32
            try clear c34
            try clear c35
            try clear c35b0
            try clear c35b1
            try clear hcz11_0
            try clear hcz11_1
            try clear hcz11_2
            try clear hcz11_3
            try clear hcz13_0
            try clear hcz13_1
            try clear hcz13_2
            try clear hcz13_3
            try clear hcz15_0
            try clear hcz15_1
            try clear hcz15_2
            try clear hcz15_3
            try clear hcz17_0
            try clear hcz17_1
            try clear hcz17_2
            try clear hcz17_3
            try clear hcz18_0
            try clear hcz18_1
            try clear hcz18_2
            try clear hcz18_3
            try clear hcz32_0
            try clear hcz32_1
            try clear hcz36_0
            try clear hcz36_1
            try clear hcz36_2
            try clear hcz36_3
            try clear hcz7_0
            try clear hcz7_1
            try clear hcz7_2
            try clear hcz7_3
            try clear hcz9_0
            try clear hcz9_1
            try clear hcz9_2
            try clear hcz9_3
            try clear hfz11_0
            try clear hfz11_1
            try clear hfz11_2
            try clear hfz11_3
            try clear hfz13_0
            try clear hfz13_1
            try clear hfz13_2
            try clear hfz13_3
            try clear hfz15_0
            try clear hfz15_1
            try clear hfz15_2
            try clear hfz15_3
            try clear hfz17_0
            try clear hfz17_1
            try clear hfz17_2
            try clear hfz17_3
            try clear hfz18_0
            try clear hfz18_1
            try clear hfz18_2
            try clear hfz18_3
            try clear hfz32_0
            try clear hfz32_1
            try clear hfz36_0
            try clear hfz36_1
            try clear hfz36_2
            try clear hfz36_3
            try clear hfz7_0
            try clear hfz7_1
            try clear hfz7_2
            try clear hfz7_3
            try clear hfz9_0
            try clear hfz9_1
            try clear hfz9_2
            try clear hfz9_3
            try clear hx492_0
            try clear hx492_1
            try clear p2
            try clear p492
            try clear p6
            try clear q492
            obtain ⟨x15_4, x100_4, rfl, HA, HK4, HO_13, HO_15, BK490, HB⟩ := hrel
            cases gk with
            | zero => exact absurd HA.out (by simp [part_Of.l1])
            | succ k4 =>
             have H := HA.out
             clear HA
             simp only [part_Of.l1] at H
             by_cases c39 : x100_4 < (l2.length : Int)
             ·rw [if_pos c39] at H
              have c39b0 : decide (x100_4 < (l2.length : Int)) = true := decide_eq_true c39
              clear c39
              by_cases c40 : 0 ≤ x100_4
              ·rw [if_pos c40] at H
               have c40b0 : decide (0 ≤ x100_4) = true := decide_eq_true c40
               clear c40
               by_cases c41 : x100_4 < (l2.length : Int)
               ·rw [if_pos c41] at H
                have c41b0 : decide (x100_4 < (l2.length : Int)) = true := decide_eq_true c41
                clear c41
                by_cases c42 : x100_4 < (t497.length : Int)
                ·rw [if_pos c42] at H
                 have c42b0 : decide (x100_4 < (t497.length : Int)) = true := decide_eq_true c42
                 clear c42
                 replace H := Option.bind_eq_some_iff.mp H
                 obtain ⟨⟨t504, t505⟩, A430, H⟩ := H
                 replace H : (if x15_4.length < 4398046511104 then (part_Of.l1 k4 t497 (x15_4 ++ [(⟨(rd_T106 l2 x100_4).f0, rd t497 x100_4, t504⟩ : S68)]) l2 (l2.length : Int) (wrap64 (x100_4 + 1)) a1_0 a1_1 a1_2 a1_3) else (none)) = some (r1, r2) := H
                 have A43 := Aside0.mk A430
                 clear A430
                 by_cases c44 : x15_4.length < 4398046511104
                 ·rw [if_pos c44] at H
                  have LMc44 := Aside0.mk c44
                  clear c44
                  obtain ⟨y507, hy507⟩ : ∃ y_ : List (S68), y_ = (x15_4 ++ [(⟨(rd_T106 l2 x100_4).f0, rd t497 x100_4, t504⟩ : S68)]) := ⟨_, rfl⟩
                  replace H : (part_Of.l1 k4 t497 y507 l2 (l2.length : Int) (wrap64 (x100_4 + 1)) a1_0 a1_1 a1_2 a1_3) = some (r1, r2) := by first | (rw [hy507]; with_reducible exact H) | (have H2_ := (Option.bind_some _ _).symm.trans H; rw [hy507]; with_reducible exact H2_) | (have H2_ := (Option.bind_some _ _).symm.trans H; with_reducible exact H2_) | with_reducible exact H | (rw [hy507]; exact H) | exact H
                  have Ny507 := Aside0.mk hy507
                  clear hy507
                  have H' := Aside0.mk H
                  clear H
                  have p501 : 0 ≤ (x100_4 : Int) := of_decide_eq_true (by first | (with_reducible assumption) | assumption)
                  have q501 : x100_4 < (l2.length : Int) := of_decide_eq_true (by first | (with_reducible assumption) | assumption)
                  obtain ⟨ad501, e501, hx501_0, hx501_1⟩ := at_T106 HR2.out x100_4 p501 q501
                  cases e501
                  replace hx501_0 := (HB.out.cell (World.block_lt_of_cell? w _ hx501_0)).trans hx501_0
                  replace hx501_1 := (HB.out.cell (World.block_lt_of_cell? w _ hx501_1)).trans hx501_1
                  replace p501 := eq_true p501
                  replace q501 := eq_true q501
                  try go_wp2_with (first | ((with_reducible refine gate_dst (N := 17) rfl ?_); refine box_event ?hg (N := 17) ?hd (cs := #[.string (⟨#[]⟩ : ByteArray), .int .i64 0]) (t := 106) ?hr ?_; (case hd => rfl); (case hg => rfl); (case hr => first | (go_simp; done) | (go_simp; rfl)); intro gb502 hg w45 hbox hb; have n0_ := Aside0.mk (Kd.R_below (by (with_reducible repeat (first | apply Kd.R_alloc | apply Kd.R_drewN | apply Kd.R_drew)); exact HO_13.out) hb); have n1_ := Aside0.mk (Kd.R_below (by (with_reducible repeat (first | apply Kd.R_alloc | apply Kd.R_drewN | apply Kd.R_drew)); exact HO_15.out) hb); have n2_ := Aside0.mk (blk_below (g := gb490) (o := .cells #[.int .i64 a1_0, .int .i64 a1_1, .int .i64 a1_2, .int .i64 a1_3] 58 (0, 0)) (by (with_reducible repeat (first | refine blk_drewN ?_ _ | refine blk_drew ?_ | refine blk_alloc ?_ _)); exact BK490.out) hb); have n3_ := Aside0.mk (below_step (by repeat (first | (with_reducible first | exact HB.out | apply below_alloc | apply pw_below_drewN | apply below_drew1 | refine below_set ?_ GE490.out) | exact HB.out)) hb); have n4_ := Aside0.mk (hbox); have n5_ := Aside0.mk ((by rw [hg]; exact (below_size (by repeat (first | (with_reducible first | exact HB.out | apply below_alloc | apply pw_below_drewN | apply below_drew1 | refine below_set ?_ GE490.out) | exact HB.out))) : w.heap.size ≤ gb502)); have n6_ := Aside0.mk ((by rw [hg]; exact (below_size (by repeat (first | (with_reducible first | exact HB.out | apply below_alloc | apply pw_below_drewN | apply below_drew1 | refine below_set ?_ GE490.out) | exact HB.out))) : w.heap.size ≤ gb502)); have n7_ := Aside0.mk ((by rw [hg]; exact Nat.ne_of_lt (blk_lt (g := gb490) (o := .cells #[.int .i64 a1_0, .int .i64 a1_1, .int .i64 a1_2, .int .i64 a1_3] 58 (0, 0)) (by (with_reducible repeat (first | refine blk_drewN ?_ _ | refine blk_drew ?_ | refine blk_alloc ?_ _)); exact BK490.out)) : gb490 ≠ gb502)); have n8_ := Aside0.mk ((by rw [hg]; exact Nat.ne_of_gt (blk_lt (g := gb490) (o := .cells #[.int .i64 a1_0, .int .i64 a1_1, .int .i64 a1_2, .int .i64 a1_3] 58 (0, 0)) (by (with_reducible repeat (first | refine blk_drewN ?_ _ | refine blk_drew ?_ | refine blk_alloc ?_ _)); exact BK490.out)) : gb502 ≠ gb490)); clear HO_13; clear HO_15; clear BK490; clear HB; have HO_13 := n0_; have HO_15 := n1_; have BK490 := n2_; have HB := n3_; have BK502 := n4_; have GW502 := n5_; have GE502 := n6_; have NB490_502 := n7_; have NB502_490 := n8_; clear n0_ n1_ n2_ n3_ n4_ n5_ n6_ n7_ n8_; clear hb hbox hg; have hnb46 := NB502_490.out; have hnc46 := NB490_502.out; have hcz47_0 : w45.cell? ⟨gb502, 0, none⟩ = some (.string (⟨#[]⟩ : ByteArray)) := (blk_cell BK502.out 0).trans rfl; have hcz47_1 : w45.cell? ⟨gb502, 1, none⟩ = some (.int .i64 0) := (blk_cell BK502.out 1).trans rfl; have hfz47_0 := blk_frozen BK502.out 0; have hfz47_1 := blk_frozen BK502.out 1))
                  have n0_ : Aside0 (Kd.R (Kd.int .i64) 2 ((w45.setCell ⟨gb502, 0, none⟩ (.string ((rd_T106 l2 x100_4).f0))).setCell ⟨gb502, 1, none⟩ (.int .i64 ((rd_T106 l2 x100_4).f1))) w.heap.size (fun _ => True) v499 t497) := ⟨by (with_reducible repeat (first | apply Kd.R_alloc | apply Kd.R_drewN | apply Kd.R_drew)); exact Kd.R_mono (Kd.R_far (p := ⟨gb502, 1, none⟩) (Kd.R_far (p := ⟨gb502, 0, none⟩) (Kd.R_types HO_13.out BK502.out (by decide)) (fun _ hk => hk.2) (.string ((rd_T106 l2 x100_4).f0))) (fun _ hk => hk.2) (.int .i64 ((rd_T106 l2 x100_4).f1))) (fun _ hk => trivial)⟩
                  have n1_ : Aside0 (Kd.R k68 68 ((w45.setCell ⟨gb502, 0, none⟩ (.string ((rd_T106 l2 x100_4).f0))).setCell ⟨gb502, 1, none⟩ (.int .i64 ((rd_T106 l2 x100_4).f1))) w.heap.size (fun _ => True) u15 x15_4) := ⟨by (with_reducible repeat (first | apply Kd.R_alloc | apply Kd.R_drewN | apply Kd.R_drew)); exact Kd.R_mono (Kd.R_far (p := ⟨gb502, 1, none⟩) (Kd.R_far (p := ⟨gb502, 0, none⟩) (Kd.R_types HO_15.out BK502.out (by decide)) (fun _ hk => hk.2) (.string ((rd_T106 l2 x100_4).f0))) (fun _ hk => hk.2) (.int .i64 ((rd_T106 l2 x100_4).f1))) (fun _ hk => trivial)⟩
                  have n2_ : Aside0 (((w45.setCell ⟨gb502, 0, none⟩ (.string ((rd_T106 l2 x100_4).f0))).setCell ⟨gb502, 1, none⟩ (.int .i64 ((rd_T106 l2 x100_4).f1))).heap[gb490]? = some (.cells #[.int .i64 a1_0, .int .i64 a1_1, .int .i64 a1_2, .int .i64 a1_3] 58 (0, 0))) := ⟨by (with_reducible repeat (first | refine blk_drewN ?_ _ | refine blk_drew ?_ | refine blk_alloc ?_ _)); refine blk_far ?_ NB490_502.out _; (with_reducible repeat (first | refine blk_drewN ?_ _ | refine blk_drew ?_ | refine blk_alloc ?_ _)); refine blk_far ?_ NB490_502.out _; (with_reducible repeat (first | refine blk_drewN ?_ _ | refine blk_drew ?_ | refine blk_alloc ?_ _)); exact BK490.out⟩
                  have n3_ : Aside0 (((w45.setCell ⟨gb502, 0, none⟩ (.string ((rd_T106 l2 x100_4).f0))).setCell ⟨gb502, 1, none⟩ (.int .i64 ((rd_T106 l2 x100_4).f1))).heap[gb502]? = some (.cells #[.string ((rd_T106 l2 x100_4).f0), .int .i64 ((rd_T106 l2 x100_4).f1)] 106 (0, 0))) := ⟨by (with_reducible repeat (first | refine blk_drewN ?_ _ | refine blk_drew ?_ | refine blk_alloc ?_ _)); refine blk_put (cs := #[.string ((rd_T106 l2 x100_4).f0), .int .i64 0]) ?_ 1 _ rfl; (with_reducible repeat (first | refine blk_drewN ?_ _ | refine blk_drew ?_ | refine blk_alloc ?_ _)); refine blk_put (cs := #[.string (⟨#[]⟩ : ByteArray), .int .i64 0]) ?_ 0 _ rfl; (with_reducible repeat (first | refine blk_drewN ?_ _ | refine blk_drew ?_ | refine blk_alloc ?_ _)); exact BK502.out⟩
                  have n4_ : Aside0 (Below w.heap.size w ((w45.setCell ⟨gb502, 0, none⟩ (.string ((rd_T106 l2 x100_4).f0))).setCell ⟨gb502, 1, none⟩ (.int .i64 ((rd_T106 l2 x100_4).f1)))) := ⟨by repeat (first | (with_reducible first | exact HB.out | apply below_alloc | apply pw_below_drewN | apply below_drew1 | refine below_set ?_ GE490.out | refine below_set ?_ GE502.out) | exact HB.out)⟩
                  (try clear HO_13)
                  (try clear HO_15)
                  (try clear BK490)
                  (try clear BK502)
                  (try clear HB)
                  generalize ((w45.setCell ⟨gb502, 0, none⟩ (.string ((rd_T106 l2 x100_4).f0))).setCell ⟨gb502, 1, none⟩ (.int .i64 ((rd_T106 l2 x100_4).f1))) = w48 at n0_ n1_ n2_ n3_ n4_ ⊢
                  have HO_13 := n0_
                  have HO_15 := n1_
                  have BK490 := n2_
                  have BK502 := n3_
                  have HB := n4_
                  clear n0_ n1_ n2_ n3_ n4_
                  have n0_ := Aside0.mk (Kd.R_drew HO_13.out)
                  have n1_ := Aside0.mk (Kd.R_drew HO_15.out)
                  have n2_ := Aside0.mk (blk_drew BK490.out)
                  have n3_ := Aside0.mk (blk_drew BK502.out)
                  have n4_ := Aside0.mk (below_drew1 HB.out)
                  clear HO_13
                  clear HO_15
                  clear BK490
                  clear BK502
                  clear HB
                  have HO_13 := n0_
                  have HO_15 := n1_
                  have BK490 := n2_
                  have BK502 := n3_
                  have HB := n4_
                  clear n0_ n1_ n2_ n3_ n4_
                  obtain ⟨Ao50, co50, eo50⟩ := Kd.R_slice HO_13.out
                  (first | subst eo50 | (injection eo50 with f1_ f2_ f3_; have f4_ := f1_.symm; have f5_ := f3_.symm; clear f1_ f2_ f3_; subst f4_; subst f5_))
                  have p503 : 0 ≤ (x100_4 : Int) := of_decide_eq_true (by first | (with_reducible assumption) | assumption)
                  have q503 : x100_4 < (t497.length : Int) := of_decide_eq_true (by first | (with_reducible assumption) | assumption)
                  obtain ⟨ad503, e503, hx503_0⟩ := Kd.at_int (Kd.R_reads' HO_13.out).2.2 x100_4 p503 q503
                  cases e503
                  replace p503 := eq_true p503
                  replace q503 := eq_true q503
                  refine start_ (n := 12) (S := fun w' => w'.cell? ⟨gb490, 0, none⟩ = some (.int .i64 a1_0) ∧ w'.cell? ⟨gb490, 1, none⟩ = some (.int .i64 a1_1) ∧ w'.cell? ⟨gb490, 2, none⟩ = some (.int .i64 a1_2) ∧ w'.cell? ⟨gb490, 3, none⟩ = some (.int .i64 a1_3) ∧ w'.cell? (ad503.add (x100_4).toNat) = some (.int .i64 (rd t497 x100_4))) (ds := []) #[false, false, false, false, false, false, false, false, false, false, false, false] (by kernel_rfl) rfl rfl ⟨(blk_cell BK490.out 0).trans rfl, (blk_cell BK490.out 1).trans rfl, (blk_cell BK490.out 2).trans rfl, (blk_cell BK490.out 3).trans rfl, hx503_0⟩ (fun hHeld => ?_); refine with_tabW part_Of.tab20 part_Of.bits20 (fun HT_ HW_ => ?_)
                  generalize w48.drew = w49 at HO_13 HO_15 BK490 BK502 HB hx503_0 hHeld ⊢
                  refine pure_ (i := 0) (N := some 106) (v := ?_) (a' := ?_) #[true, false, false, false, false, false, false, false, false, false, false, false] rfl rfl (any_of HT_.out (by kernel_rfl)) (fun _ _ _ h => h) (Or.inl ⟨by rfl, ?_⟩) ?_ ?_
                  rotate_left
                  ·intro w'
                   go_simp
                   with_reducible rfl
                  rotate_left
                  ·simp only [Act.put, List.setIfInBounds_toArray, List.set_cons_zero, List.set_cons_succ, i64_w, i32_w]
                   rfl
                  refine pure_ (i := 1) (N := some 107) (v := ?_) (a' := ?_) #[true, true, false, false, false, false, false, false, false, false, false, false] rfl rfl (any_of HT_.out (by kernel_rfl)) (fun _ _ _ h => h) (Or.inl ⟨by rfl, ?_⟩) ?_ ?_
                  rotate_left
                  ·intro w'
                   go_simp
                   with_reducible rfl
                  rotate_left
                  ·simp only [Act.put, List.setIfInBounds_toArray, List.set_cons_zero, List.set_cons_succ, i64_w, i32_w]
                   rfl
                  refine pure_ (i := 2) (N := some 108) (v := ?_) (a' := ?_) #[true, true, true, false, false, false, false, false, false, false, false, false] rfl rfl (any_of HT_.out (by kernel_rfl)) (fun _ _ _ h => h) (Or.inl ⟨by rfl, ?_⟩) ?_ ?_
                  rotate_left
                  ·intro w'
                   go_simp
                   with_reducible rfl
                  rotate_left
                  ·simp only [Act.put, List.setIfInBounds_toArray, List.set_cons_zero, List.set_cons_succ, i64_w, i32_w]
                   rfl
                  refine pure_ (i := 4) (N := some 110) (v := ?_) (a' := ?_) #[true, true, true, false, true, false, false, false, false, false, false, false] rfl rfl (any_of HT_.out (by kernel_rfl)) (fun _ _ _ h => h) (Or.inl ⟨by rfl, ?_⟩) ?_ ?_
                  rotate_left
                  ·intro w'
                   go_simp
                   with_reducible rfl
                  rotate_left
                  ·simp only [Act.put, List.setIfInBounds_toArray, List.set_cons_zero, List.set_cons_succ, i64_w, i32_w]
                   rfl
                  refine take_ (i := 3) (N := some 109) (v := ?_) (a' := ?_) #[true, true, true, true, true, false, false, false, false, false, false, false] rfl rfl (take_ofW HT_.out HW_.out (by kernel_rfl)) (fun _ _ _ h => h) (Or.inl ⟨by rfl, ?_⟩) hHeld ?_ ?_
                  rotate_left
                  ·rintro w' ⟨s0, s1, s2, s3, s4⟩
                   go_simp
                   with_reducible rfl
                  rotate_left
                  ·simp only [Act.put, List.setIfInBounds_toArray, List.set_cons_zero, List.set_cons_succ, i64_w, i32_w]
                   rfl
                  refine take_ (i := 5) (N := some 111) (v := ?_) (a' := ?_) #[true, true, true, true, true, true, false, false, false, false, false, false] rfl rfl (take_ofW HT_.out HW_.out (by kernel_rfl)) (fun _ _ _ h => h) (Or.inl ⟨by rfl, ?_⟩) hHeld ?_ ?_
                  rotate_left
                  ·rintro w' ⟨s0, s1, s2, s3, s4⟩
                   go_simp
                   with_reducible rfl
                  rotate_left
                  ·simp only [Act.put, List.setIfInBounds_toArray, List.set_cons_zero, List.set_cons_succ, i64_w, i32_w]
                   rfl
                  refine one_ (i := 6) (N := some 112) #[true, true, true, true, true, true, true, false, false, false, false, false] rfl rfl (one_of HT_.out (by kernel_rfl)) (by decide) (fun K hK => ?_)
                  refine goes_ Try.func18 (by kernel_rfl) rfl #[.int .i64 (rd t497 x100_4), .int .i64 a1_2, .int .i64 10000, .int .i64 0] (by rfl) rfl rfl (by (try simp only [List.map_toArray, List.map_cons, List.map_nil]); first | done | rfl | (simp only [List.length_drop, List.length_take]; rfl)) ?_
                  with_reducible refine (money_MulDiv.calls k4 (rd t497 x100_4) a1_2 10000 0 t504 t505 _ A43.out).mono ?_
                  rintro e w' ⟨rfl, ⟨nd, rfl⟩⟩
                  refine ⟨_, rfl, ?_⟩
                  refine hK.out _ _ ⟨(blk_cell BK490.out 0).trans rfl, (blk_cell BK490.out 1).trans rfl, (blk_cell BK490.out 2).trans rfl, (blk_cell BK490.out 3).trans rfl, hHeld.2.2.2.2⟩ (fun hHeld => ?_)
                  clear hK K
                  refine norm_ (a' := ?_) ?_ ?_
                  rotate_left
                  ·show Act.put _ (some 112) _ = _
                   simp only [Act.put, List.setIfInBounds_toArray, List.set_cons_zero, List.set_cons_succ, i64_w, i32_w]
                   rfl
                  refine pure_ (i := 7) (N := some 105) (v := ?_) (a' := ?_) #[true, true, true, true, true, true, true, true, false, false, false, false] rfl rfl (any_of HT_.out (by kernel_rfl)) (fun _ _ _ h => h) (Or.inl ⟨by rfl, ?_⟩) ?_ ?_
                  rotate_left
                  ·intro w'
                   go_simp
                   with_reducible rfl
                  rotate_left
                  ·simp only [Act.put, List.setIfInBounds_toArray, List.set_cons_zero, List.set_cons_succ, i64_w, i32_w]
                   rfl
                  refine pure_ (i := 8) (N := some 113) (v := ?_) (a' := ?_) #[true, true, true, true, true, true, true, true, true, false, false, false] rfl rfl (any_of HT_.out (by kernel_rfl)) (fun _ _ _ h => h) (Or.inl ⟨by rfl, ?_⟩) ?_ ?_
                  rotate_left
                  ·intro w'
                   go_simp
                   with_reducible rfl
                  rotate_left
                  ·simp only [Act.put, List.setIfInBounds_toArray, List.set_cons_zero, List.set_cons_succ, i64_w, i32_w]
                   rfl
                  refine pure_ (i := 9) (N := some 114) (v := ?_) (a' := ?_) #[true, true, true, true, true, true, true, true, true, true, false, false] rfl rfl (any_of HT_.out (by kernel_rfl)) (fun _ _ _ h => h) (Or.inl ⟨by rfl, ?_⟩) ?_ ?_
                  rotate_left
                  ·intro w'
                   go_simp
                   with_reducible rfl
                  rotate_left
                  ·simp only [Act.put, List.setIfInBounds_toArray, List.set_cons_zero, List.set_cons_succ, i64_w, i32_w]
                   rfl
                  refine pure_ (i := 10) (N := some 18) (v := ?_) (a' := ?_) #[true, true, true, true, true, true, true, true, true, true, true, false] rfl rfl (any_of HT_.out (by kernel_rfl)) (fun _ _ _ h => h) (Or.inl ⟨by rfl, ?_⟩) ?_ ?_
                  rotate_left
                  ·intro w'
                   go_simp
                   with_reducible rfl
                  rotate_left
                  ·simp only [Act.put, List.setIfInBounds_toArray, List.set_cons_zero, List.set_cons_succ, i64_w, i32_w]
                   rfl
                  refine pure_ (i := 11) (N := some 19) (v := ?_) (a' := ?_) #[true, true, true, true, true, true, true, true, true, true, true, true] rfl rfl (any_of HT_.out (by kernel_rfl)) (fun _ _ _ h => h) (Or.inl ⟨by rfl, ?_⟩) ?_ ?_
                  rotate_left
                  ·intro w'
                   go_simp
                   with_reducible rfl
                  rotate_left
                  ·simp only [Act.put, List.setIfInBounds_toArray, List.set_cons_zero, List.set_cons_succ, i64_w, i32_w]
                   rfl
                  refine done_ (done_of HT_.out (by kernel_rfl)) ?_
                  try go_wp2
                  (try (rw [drewN_self w49]; generalize hq_ : World.drewN w49 _ = w49; have n0_ : Aside0 (Kd.R (Kd.int .i64) 2 w49 w.heap.size (fun _ => True) (.slice (some ad503) t497.length co50) t497) := ⟨by rw [← hq_]; exact (by (with_reducible repeat (first | apply Kd.R_alloc | apply Kd.R_drewN | apply Kd.R_drew)); exact HO_13.out)⟩; have n1_ : Aside0 (Kd.R k68 68 w49 w.heap.size (fun _ => True) u15 x15_4) := ⟨by rw [← hq_]; exact (by (with_reducible repeat (first | apply Kd.R_alloc | apply Kd.R_drewN | apply Kd.R_drew)); exact HO_15.out)⟩; have n2_ : Aside0 (w49.heap[gb490]? = some (.cells #[.int .i64 a1_0, .int .i64 a1_1, .int .i64 a1_2, .int .i64 a1_3] 58 (0, 0))) := ⟨by rw [← hq_]; exact (by (with_reducible repeat (first | refine blk_drewN ?_ _ | refine blk_drew ?_ | refine blk_alloc ?_ _)); exact BK490.out)⟩; have n3_ : Aside0 (w49.heap[gb502]? = some (.cells #[.string ((rd_T106 l2 x100_4).f0), .int .i64 ((rd_T106 l2 x100_4).f1)] 106 (0, 0))) := ⟨by rw [← hq_]; exact (by (with_reducible repeat (first | refine blk_drewN ?_ _ | refine blk_drew ?_ | refine blk_alloc ?_ _)); exact BK502.out)⟩; have n4_ : Aside0 (Below w.heap.size w w49) := ⟨by rw [← hq_]; exact (by repeat (first | (with_reducible first | exact HB.out | apply below_alloc | apply pw_below_drewN | apply below_drew1 | refine below_set ?_ GE490.out | refine below_set ?_ GE502.out) | exact HB.out))⟩; clear HO_13 HO_15 BK490 BK502 HB hq_; have HO_13 := n0_; have HO_15 := n1_; have BK490 := n2_; have BK502 := n3_; have HB := n4_; clear n0_ n1_ n2_ n3_ n4_))
                  have n0_ := Aside0.mk (Kd.R_drew HO_13.out)
                  have n1_ := Aside0.mk (Kd.R_drew HO_15.out)
                  have n2_ := Aside0.mk (blk_drew BK490.out)
                  have n3_ := Aside0.mk (blk_drew BK502.out)
                  have n4_ := Aside0.mk (below_drew1 HB.out)
                  clear HO_13
                  clear HO_15
                  clear BK490
                  clear BK502
                  clear HB
                  have HO_13 := n0_
                  have HO_15 := n1_
                  have BK490 := n2_
                  have BK502 := n3_
                  have HB := n4_
                  clear n0_ n1_ n2_ n3_ n4_
                  have p506 : 0 ≤ (x100_4 : Int) := of_decide_eq_true (by first | (with_reducible assumption) | assumption)
                  have q506 : x100_4 < (t497.length : Int) := of_decide_eq_true (by first | (with_reducible assumption) | assumption)
                  obtain ⟨ad506, e506, hx506_0⟩ := Kd.at_int (Kd.R_reads' HO_13.out).2.2 x100_4 p506 q506
                  obtain rfl : ad503 = ad506 := (by injection e506)
                  replace p506 := eq_true p506
                  replace q506 := eq_true q506
                  refine start_ (n := 12) (S := fun w' => w'.cell? ⟨gb502, 0, none⟩ = some (.string ((rd_T106 l2 x100_4).f0)) ∧ w'.cell? ⟨gb502, 1, none⟩ = some (.int .i64 ((rd_T106 l2 x100_4).f1)) ∧ w'.cell? (ad503.add (x100_4).toNat) = some (.int .i64 (rd t497 x100_4))) (ds := [9, 10]) #[false, false, false, false, false, false, false, false, false, false, false, false] (by kernel_rfl) rfl rfl ⟨(blk_cell BK502.out 0).trans rfl, (blk_cell BK502.out 1).trans rfl, hx506_0⟩ (fun hHeld => ?_); refine with_tabW part_Of.tab21 part_Of.bits21 (fun HT_ HW_ => ?_)
                  generalize w49.drew = w51 at HO_13 HO_15 BK490 BK502 HB hx506_0 hHeld ⊢
                  refine pure_ (i := 0) (N := some 115) (v := ?_) (a' := ?_) #[true, false, false, false, false, false, false, false, false, false, false, false] rfl rfl (any_of HT_.out (by kernel_rfl)) (fun _ _ _ h => h) (Or.inl ⟨by rfl, ?_⟩) ?_ ?_
                  rotate_left
                  ·intro w'
                   go_simp
                   with_reducible rfl
                  rotate_left
                  ·simp only [Act.put, List.setIfInBounds_toArray, List.set_cons_zero, List.set_cons_succ, i64_w, i32_w]
                   rfl
                  refine pure_ (i := 1) (N := some 116) (v := ?_) (a' := ?_) #[true, true, false, false, false, false, false, false, false, false, false, false] rfl rfl (any_of HT_.out (by kernel_rfl)) (fun _ _ _ h => h) (Or.inl ⟨by rfl, ?_⟩) ?_ ?_
                  rotate_left
                  ·intro w'
                   go_simp
                   with_reducible rfl
                  rotate_left
                  ·simp only [Act.put, List.setIfInBounds_toArray, List.set_cons_zero, List.set_cons_succ, i64_w, i32_w]
                   rfl
                  refine pure_ (i := 3) (N := some 118) (v := ?_) (a' := ?_) #[true, true, false, true, false, false, false, false, false, false, false, false] rfl rfl (any_of HT_.out (by kernel_rfl)) (fun _ _ _ h => h) (Or.inl ⟨by rfl, ?_⟩) ?_ ?_
                  rotate_left
                  ·intro w'
                   go_simp
                   with_reducible rfl
                  rotate_left
                  ·simp only [Act.put, List.setIfInBounds_toArray, List.set_cons_zero, List.set_cons_succ, i64_w, i32_w]
                   rfl
                  refine pure_ (i := 4) (N := some 119) (v := ?_) (a' := ?_) #[true, true, false, true, true, false, false, false, false, false, false, false] rfl rfl (any_of HT_.out (by kernel_rfl)) (fun _ _ _ h => h) (Or.inl ⟨by rfl, ?_⟩) ?_ ?_
                  rotate_left
                  ·intro w'
                   go_simp
                   with_reducible rfl
                  rotate_left
                  ·simp only [Act.put, List.setIfInBounds_toArray, List.set_cons_zero, List.set_cons_succ, i64_w, i32_w]
                   rfl
                  refine pure_ (i := 5) (N := some 120) (v := ?_) (a' := ?_) #[true, true, false, true, true, true, false, false, false, false, false, false] rfl rfl (any_of HT_.out (by kernel_rfl)) (fun _ _ _ h => h) (Or.inl ⟨by rfl, ?_⟩) ?_ ?_
                  rotate_left
                  ·intro w'
                   go_simp
                   with_reducible rfl
                  rotate_left
                  ·simp only [Act.put, List.setIfInBounds_toArray, List.set_cons_zero, List.set_cons_succ, i64_w, i32_w]
                   rfl
                  refine pure_ (i := 7) (N := some 122) (v := ?_) (a' := ?_) #[true, true, false, true, true, true, false, true, false, false, false, false] rfl rfl (any_of HT_.out (by kernel_rfl)) (fun _ _ _ h => h) (Or.inl ⟨by rfl, ?_⟩) ?_ ?_
                  rotate_left
                  ·intro w'
                   go_simp
                   with_reducible rfl
                  rotate_left
                  ·simp only [Act.put, List.setIfInBounds_toArray, List.set_cons_zero, List.set_cons_succ, i64_w, i32_w]
                   rfl
                  refine take_ (i := 2) (N := some 117) (v := ?_) (a' := ?_) #[true, true, true, true, true, true, false, true, false, false, false, false] rfl rfl (take_ofW HT_.out HW_.out (by kernel_rfl)) (fun _ _ _ h => h) (Or.inl ⟨by rfl, ?_⟩) hHeld ?_ ?_
                  rotate_left
                  ·rintro w' ⟨s0, s1, s2⟩
                   go_simp
                   with_reducible rfl
                  rotate_left
                  ·simp only [Act.put, List.setIfInBounds_toArray, List.set_cons_zero, List.set_cons_succ, i64_w, i32_w]
                   rfl
                  refine take_ (i := 6) (N := some 121) (v := ?_) (a' := ?_) #[true, true, true, true, true, true, true, true, false, false, false, false] rfl rfl (take_ofW HT_.out HW_.out (by kernel_rfl)) (fun _ _ _ h => h) (Or.inl ⟨by rfl, ?_⟩) hHeld ?_ ?_
                  rotate_left
                  ·rintro w' ⟨s0, s1, s2⟩
                   go_simp
                   with_reducible rfl
                  rotate_left
                  ·simp only [Act.put, List.setIfInBounds_toArray, List.set_cons_zero, List.set_cons_succ, i64_w, i32_w]
                   rfl
                  refine pure_ (i := 8) (N := some 123) (v := ?_) (a' := ?_) #[true, true, true, true, true, true, true, true, true, false, false, false] rfl rfl (any_of HT_.out (by kernel_rfl)) (fun _ _ _ h => h) (Or.inl ⟨by rfl, ?_⟩) ?_ ?_
                  rotate_left
                  ·intro w'
                   go_simp
                   with_reducible rfl
                  rotate_left
                  ·simp only [Act.put, List.setIfInBounds_toArray, List.set_cons_zero, List.set_cons_succ, i64_w, i32_w]
                   rfl
                  refine last_ (i := 9) (N := some 124) #[true, true, true, true, true, true, true, true, true, true, false, false] rfl rfl (one_of HT_.out (by kernel_rfl)) (by decide) (fun K hK => ?_)
                  refine value_ (w1 := ?_) (v := ?_) (by rfl) rfl ?_ ?_
                  rotate_left 2
                  ·go_simp
                   constructor
                   ·rfl
                   ·rfl
                  refine hK.out _ _ ?_
                  clear hK K
                  refine norm_ (a' := ?_) ?_ ?_
                  rotate_left
                  ·show Act.put _ (some 124) _ = _
                   simp only [Act.put, List.setIfInBounds_toArray, List.set_cons_zero, List.set_cons_succ, i64_w, i32_w]
                   rfl
                  refine last_ (i := 10) (N := some 125) #[true, true, true, true, true, true, true, true, true, true, true, false] rfl rfl (one_of HT_.out (by kernel_rfl)) (by decide) (fun K hK => ?_)
                  refine Kd.R_append_step k68 (w0 := w) w.heap.size (by rfl) (.tmp 115) (.tmp 124) 60 68 (.agg #[(.string ⟨#[]⟩), (.int .i64 0), (.int .i64 0)]) 32 rfl Try.underlying60 info68 rfl (by decide) (by omega) u15 x15_4 (⟨(rd_T106 l2 x100_4).f0, rd t497 x100_4, t504⟩ : S68) [.string ((rd_T106 l2 x100_4).f0), .int .i64 (rd t497 x100_4), .int .i64 t504] (fun _ => True) (fun _ => False) rfl rfl ?aP (fun _ hk => hk.elim) ?aF ?aO ?aB ?aS ?aL ?_
                  (case aP => exact k68_mkM _ _ _ (⟨(rd_T106 l2 x100_4).f0, rd t497 x100_4, t504⟩ : S68))
                  (case aB => exact (by repeat (first | (with_reducible first | exact HB.out | apply below_alloc | apply pw_below_drewN | apply below_drew1 | refine below_set ?_ GE490.out | refine below_set ?_ GE502.out) | exact HB.out)))
                  (case aF => exact (fun _ _ => trivial))
                  (case aO => exact (by (with_reducible repeat (first | apply Kd.R_alloc | apply Kd.R_drewN | apply Kd.R_drew)); exact HO_15.out))
                  (case aS => exact (below_size (by repeat (first | (with_reducible first | exact HB.out | apply below_alloc | apply pw_below_drewN | apply below_drew1 | refine below_set ?_ GE490.out | refine below_set ?_ GE502.out) | exact HB.out))))
                  (case aL => have := LMc44.out; omega)
                  intro v508 w52 ho hb hg hat
                  rw [← Ny507.out] at ho
                  have n0_ := Aside0.mk (Kd.R_over' (by (with_reducible repeat (first | apply Kd.R_alloc | apply Kd.R_drewN | apply Kd.R_drew)); exact HO_13.out) (Kd.R_typed (by (with_reducible repeat (first | apply Kd.R_alloc | apply Kd.R_drewN | apply Kd.R_drew)); exact HO_15.out)) (by decide) hg)
                  have n1_ := Aside0.mk (blk_grown (g := gb490) (o := .cells #[.int .i64 a1_0, .int .i64 a1_1, .int .i64 a1_2, .int .i64 a1_3] 58 (0, 0)) (by (with_reducible repeat (first | refine blk_drewN ?_ _ | refine blk_drew ?_ | refine blk_alloc ?_ _)); exact BK490.out) hg (Kd.R_ne HO_15.out BK490.out (by decide)))
                  have n2_ := Aside0.mk (blk_grown (g := gb502) (o := .cells #[.string ((rd_T106 l2 x100_4).f0), .int .i64 ((rd_T106 l2 x100_4).f1)] 106 (0, 0)) (by (with_reducible repeat (first | refine blk_drewN ?_ _ | refine blk_drew ?_ | refine blk_alloc ?_ _)); exact BK502.out) hg (Kd.R_ne HO_15.out BK502.out (by decide)))
                  have n3_ := Aside0.mk (hb)
                  have n4_ := Aside0.mk (ho)
                  clear HO_13
                  clear BK490
                  clear BK502
                  clear HB
                  clear HO_15
                  have HO_13 := n0_
                  have BK490 := n1_
                  have BK502 := n2_
                  have HB := n3_
                  have HO509 := n4_
                  clear n0_ n1_ n2_ n3_ n4_
                  clear ho hb hg hat
                  refine hK.out _ _ ?_
                  clear hK K
                  refine norm_ (a' := ?_) ?_ ?_
                  rotate_left
                  ·show Act.put _ (some 125) _ = _
                   simp only [Act.put, List.setIfInBounds_toArray, List.set_cons_zero, List.set_cons_succ, i64_w, i32_w]
                   rfl
                  refine pure_ (i := 11) (N := some 15) (v := ?_) (a' := ?_) #[true, true, true, true, true, true, true, true, true, true, true, true] rfl rfl (any_of HT_.out (by kernel_rfl)) (fun _ _ _ h => h) (Or.inl ⟨by rfl, ?_⟩) ?_ ?_
                  rotate_left
                  ·intro w'
                   go_simp
                   with_reducible rfl
                  rotate_left
                  ·simp only [Act.put, List.setIfInBounds_toArray, List.set_cons_zero, List.set_cons_succ, i64_w, i32_w]
                   rfl
                  refine done_ (done_of HT_.out (by kernel_rfl)) ?_
                  try go_wp2
                  go_roundg k4
                  case measure => have := HJ3.out; have := HJ19.out; have := HK3.out; have := HK4.out; omega
                  case rel => exact ⟨(y507), (wrap64 (x100_4 + 1)), (by first | rfl | (simp; done) | (simp [*]; done)), H', ⟨by have := HJ3.out; have := HJ19.out; have := HK3.out; have := HK4.out; omega⟩, ⟨by (with_reducible repeat (first | apply Kd.R_alloc | apply Kd.R_drewN | apply Kd.R_drew)); exact HO_13.out⟩, ⟨by (with_reducible repeat (first | apply Kd.R_alloc | apply Kd.R_drewN | apply Kd.R_drew)); exact HO509.out⟩, ⟨by (with_reducible repeat (first | refine blk_drewN ?_ _ | refine blk_drew ?_ | refine blk_alloc ?_ _)); exact BK490.out⟩, ⟨by repeat (first | (with_reducible first | exact HB.out | apply below_alloc | apply pw_below_drewN | apply below_drew1 | refine below_set ?_ GE490.out | refine below_set ?_ GE502.out) | exact HB.out)⟩⟩
                 ·rw [if_neg c44] at H
                  exact absurd H (by simp)
                ·rw [if_neg c42] at H
                 exact absurd H (by simp)
               ·rw [if_neg c41] at H
                exact absurd H (by simp)
              ·rw [if_neg c40] at H
               exact absurd H (by simp)
             ·rw [if_neg c39] at H
              have c39b0 : decide (x100_4 < (l2.length : Int)) = false := decide_eq_false c39
              clear c39
              simp only [Option.some.injEq, Prod.mk.injEq] at H
              obtain ⟨rfl, rfl⟩ := H
              go_wp2
              go_ret2
              exact ⟨_, by first | rfl | (simp [errW_none, errW_some] <;> rfl) | (simp [*, errW_none, errW_some] <;> rfl), by (with_reducible repeat (first | apply Kd.R_alloc | apply Kd.R_drewN | apply Kd.R_drew)); exact HO_15.out, by repeat (first | (with_reducible first | exact HB.out | apply below_alloc | apply pw_below_drewN | apply below_drew1 | refine below_set ?_ GE490.out) | exact HB.out)⟩
          ·rw [if_neg c35] at H
           have c35b0 : (t498 == 0) = false := beq_eq_false_iff_ne.mpr c35
           have c35b1 : (t498 != 0) = true := bne_iff_ne.mpr c35
           simp only [Option.some.injEq, Prod.mk.injEq] at H
           obtain ⟨rfl, rfl⟩ := H
           have hcz53_0 : wr.cell? ⟨gb490, 0, none⟩ = some (.int .i64 a1_0) := (blk_cell BK490.out 0).trans rfl
           have hcz53_1 : wr.cell? ⟨gb490, 1, none⟩ = some (.int .i64 a1_1) := (blk_cell BK490.out 1).trans rfl
           have hcz53_2 : wr.cell? ⟨gb490, 2, none⟩ = some (.int .i64 a1_2) := (blk_cell BK490.out 2).trans rfl
           have hcz53_3 : wr.cell? ⟨gb490, 3, none⟩ = some (.int .i64 a1_3) := (blk_cell BK490.out 3).trans rfl
           have hfz53_0 := blk_frozen BK490.out 0
           have hfz53_1 := blk_frozen BK490.out 1
           have hfz53_2 := blk_frozen BK490.out 2
           have hfz53_3 := blk_frozen BK490.out 3
           obtain ⟨Ao54, co54, eo54⟩ := Kd.R_slice HO_10.out
           subst eo54
           go_wp2_with (first | ((with_reducible refine gate_callee (f := 20) rfl ?_); refine goesL_ (some 92) rfl rfl Try.func20 (by kernel_rfl) rfl #[.int .i64 (wrap64 ((wrap64 (a0 - a1_0)) - a1_1)), .slice Ao54 x10_3.length co54] rfl (by (try simp only [List.map_toArray, List.map_cons, List.map_nil]); first | done | rfl | (simp only [List.length_drop, List.length_take]; rfl)) ?_; (with_reducible refine (money_Split.calls (wrap64 ((wrap64 (a0 - a1_0)) - a1_1)) _ _ x10_3 t497 t498 _ ?side1 ?side2 A34.out).mono ?_); (case side1 => repeat (first | exact (Kd.R_reads' HO_10.out).2.2 | (with_reducible refine Kd.C_alloc ?_ _) | (with_reducible refine Kd.C_drewN ?_ _) | (with_reducible refine Kd.C_drew ?_))); (case side2 => exact (Kd.R_reads' HO_10.out).2.1); rintro e w55 ⟨v499, rfl, ho0, hb⟩; refine ⟨_, rfl, ?_⟩; have n0_ := Aside0.mk (Kd.R_elder' (by (with_reducible repeat (first | apply Kd.R_alloc | apply Kd.R_drewN | apply Kd.R_drew)); exact HO_10.out) (Kd.R_base ho0) hb); have n1_ := Aside0.mk (Kd.R_lower (Kd.R_new' ho0 (Kd.R_lt (by (with_reducible repeat (first | apply Kd.R_alloc | apply Kd.R_drewN | apply Kd.R_drew)); exact HO_10.out))) (below_size (by repeat (first | (with_reducible first | exact HB.out | apply below_alloc | apply pw_below_drewN | apply below_drew1 | refine below_set ?_ GE490.out) | exact HB.out)))); have n2_ := Aside0.mk (blk_below (g := gb490) (o := .cells #[.int .i64 a1_0, .int .i64 a1_1, .int .i64 a1_2, .int .i64 a1_3] 58 (0, 0)) (by (with_reducible repeat (first | refine blk_drewN ?_ _ | refine blk_drew ?_ | refine blk_alloc ?_ _)); exact BK490.out) hb); have n3_ := Aside0.mk (below_step (by repeat (first | (with_reducible first | exact HB.out | apply below_alloc | apply pw_below_drewN | apply below_drew1 | refine below_set ?_ GE490.out) | exact HB.out)) hb); clear HO_10; clear BK490; clear HB; have HO_10 := n0_; have HO500 := n1_; have BK490 := n2_; have HB := n3_; clear n0_ n1_ n2_ n3_; (try clear hb); (try clear hb2); (try clear hk); (try clear hi); (try clear ho0)))
           go_ret2
           exact ⟨_, by first | rfl | (simp [errW_none, errW_some] <;> rfl) | (simp [*, errW_none, errW_some] <;> rfl), by first | exact Kd.R_nil _ _ _ _ _ | exact Kd.N_nil _ _ _ _ _ | exact Kd.V_nil _ _ _ _ _ | exact Kd.Q_nil _ _ _ _ _ | exact Kd.S_nil _ _ _ _ _, by repeat (first | (with_reducible first | exact HB.out | apply below_alloc | apply pw_below_drewN | apply below_drew1 | refine below_set ?_ GE490.out) | exact HB.out)⟩
      ·rw [if_neg c25] at H
       have c25b0 : (t491 == 0) = false := beq_eq_false_iff_ne.mpr c25
       have c25b1 : (t491 != 0) = true := bne_iff_ne.mpr c25
       simp only [Option.some.injEq, Prod.mk.injEq] at H
       obtain ⟨rfl, rfl⟩ := H
       go_wp2
       go_ret2
       exact ⟨_, by first | rfl | (simp [errW_none, errW_some] <;> rfl) | (simp [*, errW_none, errW_some] <;> rfl), by first | exact Kd.R_nil _ _ _ _ _ | exact Kd.N_nil _ _ _ _ _ | exact Kd.V_nil _ _ _ _ _ | exact Kd.Q_nil _ _ _ _ _ | exact Kd.S_nil _ _ _ _ _, by repeat (first | (with_reducible first | exact HB.out | apply below_alloc | apply pw_below_drewN | apply below_drew1 | refine below_set ?_ GE490.out) | exact HB.out)⟩
end Go.Proofs.Ytncnhhnbjmpomaa.Q
namespace Go.Proofs.Ytncnhhnbjmpomaa.Q
open Go.RowKit Go.Proofs.YtncnhhnbjmpomaaW.PrintWords Go.Proofs.YtncnhhnbjmpomaaW.PrintLast Go.Proofs.YtncnhhnbjmpomaaW.PrintMore
attribute [local go_sem] max2_int min2_int max_two min_two max_three min_three max_four min_four   -- for this text's walks alone
set_option linter.unusedVariables false
set_option linter.unusedSimpArgs false
def soukref01_trim.l0 : Nat → List Bool → Int → Option (List Bool)
 | 0, _, _ => none
 | k + 1, x0, x3 => if x3 > 0 then (if 0 ≤ (wrap64 (x3 - 1)) then (if (wrap64 (x3 - 1)) < (x0.length : Int) then (if (rdOf false x0 (wrap64 (x3 - 1)) = true) then (if 0 ≤ x3 then (if x3 ≤ (x0.length : Int) then (some (x0.take (x3 : Int).toNat)) else (none)) else (none)) else (soukref01_trim.l0 k x0 (wrap64 (x3 - 1)))) else (none)) else (none)) else (if 0 ≤ x3 then (if x3 ≤ (x0.length : Int) then (some (x0.take (x3 : Int).toNat)) else (none)) else (none))
def soukref01_trim.f (k : Nat) (l0 : List Bool) : Option (List Bool) := soukref01_trim.l0 k l0 (l0.length : Int)
set_option maxHeartbeats 8000000 in
set_option maxRecDepth 100000 in
theorem soukref01_trim.calls (k : Nat) (P0_ : Nat → Prop) (u9000_ : Value) (l0 : List Bool) (r : List Bool) (w0 w : World) (hB : Below w0.heap.size w0 w) (ho0 : Kd.R Kd.bool 4 w w0.heap.size P0_ u9000_ l0) (h : soukref01_trim.f k l0 = some r) :
  Calls Try.prog 46 #[u9000_] w fun e w' => ∃ v0_ : Value, e = .returned (v0_) ∧ Kd.R Kd.bool 4 w' w0.heap.size (fun k_ => (P0_ k_ ∨ w.heap.size ≤ k_)) v0_ r ∧ Below w0.heap.size w0 w' ∧ Kept w w' (fun k_ => P0_ k_) := by
 have HO0 := Aside0.mk (show Kd.R Kd.bool 4 w w0.heap.size (fun k_ => (P0_ k_ ∨ w.heap.size ≤ k_)) u9000_ l0 from Kd.R_mono ho0 (fun k_ hk => (.inl hk)))
 have HK := Aside0.mk (Kept.refl w (fun k_ => P0_ k_))
 have HW0 := Aside0.mk hB.size
 have HB := Aside0.mk hB
 clear hB
 have H : (soukref01_trim.l0 k l0 (l0.length : Int)) = some r := h
 clear h
 have H' := Aside0.mk H
 clear H
 obtain ⟨Ao2, co2, eo2⟩ := Kd.R_slice HO0.out
 subst eo2
 go_enter Try.func46, Try.ntmps46
 go_wp2
 go_loopg [3] k (fun kq v3 w' => ∃ (x3_1 : Int), v3 = .int .i64 x3_1 ∧ Aside0 (soukref01_trim.l0 kq l0 x3_1 = some r) ∧ Aside0 (kq ≤ k) ∧ Aside0 (Kd.R Kd.bool 4 w' w0.heap.size (fun k_ => (P0_ k_ ∨ w.heap.size ≤ k_)) (.slice Ao2 l0.length co2) l0) ∧ Aside0 (Kept w w' (fun k_ => P0_ k_)) ∧ Aside0 (Below w0.heap.size w0 w'))
 case atStart => exact ⟨((l0.length : Int)), (by first | rfl | (simp; done) | (simp [*]; done)), H', ⟨Nat.le_refl _⟩, ⟨by (with_reducible repeat (first | apply Kd.R_alloc | apply Kd.R_drewN | apply Kd.R_drew)); exact HO0.out⟩, ⟨by repeat (first | (with_reducible first | exact HK.out | apply Kept.alloc | apply Kept.drewN | apply Kept.drew) | exact HK.out)⟩, ⟨by repeat (first | (with_reducible first | exact HB.out | apply below_alloc | apply pw_below_drewN | apply below_drew1) | exact HB.out)⟩⟩
 case round =>
  clear H'
  try clear p2
  obtain ⟨x3_1, rfl, HA, HK1, HO_0, HK, HB⟩ := hrel
  cases gk with
  | zero => exact absurd HA.out (by simp [soukref01_trim.l0])
  | succ k1 =>
   have H := HA.out
   clear HA
   simp only [soukref01_trim.l0] at H
   by_cases c3 : x3_1 > 0
   ·rw [if_pos c3] at H
    have c3b0 : decide (0 < x3_1) = true := decide_eq_true c3
    clear c3
    obtain ⟨ji4, hji4⟩ : ∃ j_ : Int, (wrap64 (x3_1 - 1)) = j_ := ⟨_, rfl⟩
    replace H : (if 0 ≤ (ji4) then (if (ji4) < (l0.length : Int) then (if (rdOf false l0 (ji4) = true) then (if 0 ≤ x3_1 then (if x3_1 ≤ (l0.length : Int) then (some (l0.take (x3_1 : Int).toNat)) else (none)) else (none)) else (soukref01_trim.l0 k1 l0 ji4)) else (none)) else (none)) = some r := by first | (rw [hji4] at H; exact H) | (simp only [hji4] at H ⊢; exact H)
    have hji4w : (IntKind.i64.wrap (x3_1 - 1)) = ji4 := (i64_w _).trans hji4
    by_cases c5 : 0 ≤ (ji4)
    ·rw [if_pos c5] at H
     have c5b0 : decide (0 ≤ (ji4)) = true := decide_eq_true c5
     clear c5
     by_cases c6 : (ji4) < (l0.length : Int)
     ·rw [if_pos c6] at H
      have c6b0 : decide ((ji4) < (l0.length : Int)) = true := decide_eq_true c6
      clear c6
      obtain ⟨bq7, hbq7⟩ : ∃ b_ : Bool, b_ = (rdOf false l0 (ji4)) := ⟨_, rfl⟩
      replace H : (if (bq7 = true) then (if 0 ≤ x3_1 then (if x3_1 ≤ (l0.length : Int) then (some (l0.take (x3_1 : Int).toNat)) else (none)) else (none)) else (soukref01_trim.l0 k1 l0 ji4)) = some r := by rw [← hbq7] at H; exact H
      have Nbq7 := Aside0.mk hbq7
      clear hbq7
      by_cases c8 : (bq7 = true)
      ·subst c8
       have H1 : (if 0 ≤ x3_1 then (if x3_1 ≤ (l0.length : Int) then (some (l0.take (x3_1 : Int).toNat)) else (none)) else (none)) = some r := by rw [if_pos rfl] at H; exact H
       clear H
       have H := H1
       clear H1
       by_cases c9 : 0 ≤ x3_1
       ·rw [if_pos c9] at H
        have c9b0 := eq_true c9
        have c9b1 : decide (0 ≤ x3_1) = true := decide_eq_true c9
        clear c9
        by_cases c10 : x3_1 ≤ (l0.length : Int)
        ·rw [if_pos c10] at H
         have c10b0 := eq_true c10
         have c10b1 : decide (x3_1 ≤ (l0.length : Int)) = true := decide_eq_true c10
         clear c10
         obtain ⟨y164, hy164⟩ : ∃ y_ : List Bool, y_ = (l0.take (x3_1 : Int).toNat) := ⟨_, rfl⟩
         replace H : (some y164) = some r := by first | (rw [hy164]; with_reducible exact H) | (have H2_ := (Option.bind_some _ _).symm.trans H; rw [hy164]; with_reducible exact H2_) | (have H2_ := (Option.bind_some _ _).symm.trans H; with_reducible exact H2_) | with_reducible exact H | (rw [hy164]; exact H) | exact H
         have Ny164 := Aside0.mk hy164
         clear hy164
         obtain rfl := Option.some.inj H
         have p163 : 0 ≤ ((ji4) : Int) := of_decide_eq_true (by first | (with_reducible assumption) | assumption)
         have q163 : (ji4) < (l0.length : Int) := of_decide_eq_true (by first | (with_reducible assumption) | assumption)
         obtain ⟨ad163, e163, hx163_0⟩ := Kd.at_bool (Kd.R_reads' HO_0.out).2.2 (ji4) p163 q163
         (try rw [← Nbq7.out] at hx163_0)
         cases e163
         replace p163 := eq_true p163
         replace q163 := eq_true q163
         have q11 : (x3_1 : Int) ≤ ((l0.length : Int) : Int) := of_decide_eq_true (by first | (with_reducible assumption) | assumption)
         obtain ⟨i011, hi011, _, hsz11, _⟩ := info_parts info4
         have hcut11 := cut_to (P := Try.prog) 87 4 .i64 Try.underlying87 hi011 (some ad163) l0.length co2 x3_1 (of_decide_eq_true (by first | (with_reducible assumption) | assumption)) q11 (Kd.R_reads' HO_0.out).2.1
         have hr11 := Kd.R_take (m := (x3_1 : Int).toNat) HO_0.out (by omega)
         have hy11 : y164.length = (x3_1 : Int).toNat := (by rw [Ny164.out, List.length_take]; omega)
         rw [← Ny164.out] at hr11
         rw [← hy11] at hr11 hcut11
         clear hy11 hi011 hsz11 HO_0
         have HO166 := Aside0.mk hr11
         clear hr11
         replace q11 := eq_true q11
         go_wp2
         go_ret
         exact ⟨_, by first | rfl | (simp [errW_none, errW_some] <;> rfl) | (simp only [← hji4]; first | rfl | (simp [errW_none, errW_some] <;> rfl)) | (simp [*, errW_none, errW_some] <;> rfl), by (with_reducible repeat (first | apply Kd.R_alloc | apply Kd.R_drewN | apply Kd.R_drew)); exact HO166.out, by repeat (first | (with_reducible first | exact HB.out | apply below_alloc | apply pw_below_drewN | apply below_drew1) | exact HB.out), by repeat (first | (with_reducible first | exact HK.out | apply Kept.alloc | apply Kept.drewN | apply Kept.drew) | exact HK.out)⟩
        ·rw [if_neg c10] at H
         exact absurd H (by simp)
       ·rw [if_neg c9] at H
        exact absurd H (by simp)
      ·replace c8 := Bool.eq_false_iff.mpr c8
       subst c8
       have H1 : (soukref01_trim.l0 k1 l0 ji4) = some r := by rw [if_neg (show ¬ (false = true) by decide)] at H; exact H
       clear H
       have H := H1
       clear H1
       have H' := Aside0.mk H
       clear H
       have p163 : 0 ≤ ((ji4) : Int) := of_decide_eq_true (by first | (with_reducible assumption) | assumption)
       have q163 : (ji4) < (l0.length : Int) := of_decide_eq_true (by first | (with_reducible assumption) | assumption)
       obtain ⟨ad163, e163, hx163_0⟩ := Kd.at_bool (Kd.R_reads' HO_0.out).2.2 (ji4) p163 q163
       (try rw [← Nbq7.out] at hx163_0)
       cases e163
       replace p163 := eq_true p163
       replace q163 := eq_true q163
       go_wp2
       go_roundg k1
       case measure => have := HK1.out; omega
       case rel => exact ⟨(ji4), (by first | rfl | (simp; done) | (simp only [← hji4] <;> (first | rfl | simp)) | (simp [*]; done)), H', ⟨by have := HK1.out; omega⟩, ⟨by (with_reducible repeat (first | apply Kd.R_alloc | apply Kd.R_drewN | apply Kd.R_drew)); exact HO_0.out⟩, ⟨by repeat (first | (with_reducible first | exact HK.out | apply Kept.alloc | apply Kept.drewN | apply Kept.drew) | exact HK.out)⟩, ⟨by repeat (first | (with_reducible first | exact HB.out | apply below_alloc | apply pw_below_drewN | apply below_drew1) | exact HB.out)⟩⟩
     ·rw [if_neg c6] at H
      exact absurd H (by simp)
    ·rw [if_neg c5] at H
     exact absurd H (by simp)
   ·rw [if_neg c3] at H
    have c3b0 : decide (0 < x3_1) = false := decide_eq_false c3
    clear c3
    by_cases c12 : 0 ≤ x3_1
    ·rw [if_pos c12] at H
     have c12b0 := eq_true c12
     have c12b1 : decide (0 ≤ x3_1) = true := decide_eq_true c12
     clear c12
     by_cases c13 : x3_1 ≤ (l0.length : Int)
     ·rw [if_pos c13] at H
      have c13b0 := eq_true c13
      have c13b1 : decide (x3_1 ≤ (l0.length : Int)) = true := decide_eq_true c13
      clear c13
      obtain ⟨y167, hy167⟩ : ∃ y_ : List Bool, y_ = (l0.take (x3_1 : Int).toNat) := ⟨_, rfl⟩
      replace H : (some y167) = some r := by first | (rw [hy167]; with_reducible exact H) | (have H2_ := (Option.bind_some _ _).symm.trans H; rw [hy167]; with_reducible exact H2_) | (have H2_ := (Option.bind_some _ _).symm.trans H; with_reducible exact H2_) | with_reducible exact H | (rw [hy167]; exact H) | exact H
      have Ny167 := Aside0.mk hy167
      clear hy167
      obtain rfl := Option.some.inj H
      have q14 : (x3_1 : Int) ≤ ((l0.length : Int) : Int) := of_decide_eq_true (by first | (with_reducible assumption) | assumption)
      obtain ⟨i014, hi014, _, hsz14, _⟩ := info_parts info4
      have hcut14 := cut_to (P := Try.prog) 87 4 .i64 Try.underlying87 hi014 Ao2 l0.length co2 x3_1 (of_decide_eq_true (by first | (with_reducible assumption) | assumption)) q14 (Kd.R_reads' HO_0.out).2.1
      have hr14 := Kd.R_take (m := (x3_1 : Int).toNat) HO_0.out (by omega)
      have hy14 : y167.length = (x3_1 : Int).toNat := (by rw [Ny167.out, List.length_take]; omega)
      rw [← Ny167.out] at hr14
      rw [← hy14] at hr14 hcut14
      clear hy14 hi014 hsz14 HO_0
      have HO169 := Aside0.mk hr14
      clear hr14
      replace q14 := eq_true q14
      go_wp2
      go_ret
      exact ⟨_, by first | rfl | (simp [errW_none, errW_some] <;> rfl) | (simp [*, errW_none, errW_some] <;> rfl), by (with_reducible repeat (first | apply Kd.R_alloc | apply Kd.R_drewN | apply Kd.R_drew)); exact HO169.out, by repeat (first | (with_reducible first | exact HB.out | apply below_alloc | apply pw_below_drewN | apply below_drew1) | exact HB.out), by repeat (first | (with_reducible first | exact HK.out | apply Kept.alloc | apply Kept.drewN | apply Kept.drew) | exact HK.out)⟩
     ·rw [if_neg c13] at H
      exact absurd H (by simp)
    ·rw [if_neg c12] at H
     exact absurd H (by simp)
end Go.Proofs.Ytncnhhnbjmpomaa.Q
namespace Go.Proofs.Ytncnhhnbjmpomaa.Q
open Go.RowKit Go.Proofs.YtncnhhnbjmpomaaW.PrintWords Go.Proofs.YtncnhhnbjmpomaaW.PrintLast Go.Proofs.YtncnhhnbjmpomaaW.PrintMore
attribute [local go_sem] max2_int min2_int max_two min_two max_three min_three max_four min_four   -- for this text's walks alone
set_option linter.unusedVariables false
set_option linter.unusedSimpArgs false
def soukref01_Wide_at.f (l0 : List Bool) (a1 : Int) : Option (Bool) := if a1 < (l0.length : Int) then (if 0 ≤ a1 then (some (rdOf false l0 a1)) else (none)) else (some false)
set_option maxHeartbeats 8000000 in
set_option maxRecDepth 100000 in
theorem soukref01_Wide_at.calls (A0 : Option Addr) (c0 : Nat) (l0 : List Bool) (a1 : Int) (r : Bool) (w : World) (hr0 : Kd.C Kd.bool w A0 l0.length l0) (hc0 : l0.length ≤ c0) (h : soukref01_Wide_at.f l0 a1 = some r) :
  Calls Try.prog 48 #[.slice A0 l0.length c0, .int .i64 a1] w fun e w' => e = .returned (.bool r) ∧ Drawn0 w w' := by
 have HR0 := Aside0.mk hr0
 have HC0 := Aside0.mk hc0
 clear hr0 hc0
 have H : (if a1 < (l0.length : Int) then (if 0 ≤ a1 then (some (rdOf false l0 a1)) else (none)) else (some false)) = some r := h
 clear h
 by_cases c3 : a1 < (l0.length : Int)
 ·rw [if_pos c3] at H
  have c3b0 : decide (a1 < (l0.length : Int)) = true := decide_eq_true c3
  clear c3
  by_cases c4 : 0 ≤ a1
  ·rw [if_pos c4] at H
   have c4b0 : decide (0 ≤ a1) = true := decide_eq_true c4
   clear c4
   obtain rfl := Option.some.inj H
   have p170 : 0 ≤ (a1 : Int) := of_decide_eq_true (by first | (with_reducible assumption) | assumption)
   have q170 : a1 < (l0.length : Int) := of_decide_eq_true (by first | (with_reducible assumption) | assumption)
   obtain ⟨ad170, e170, hx170_0⟩ := Kd.at_bool HR0.out a1 p170 q170
   cases e170
   replace p170 := eq_true p170
   replace q170 := eq_true q170
   go_enter Try.func48, Try.ntmps48
   go_wp2
   go_ret
   exact ⟨by first | rfl | (simp; done) | (simp [*]; done), by repeat (first | exact Drawn0.refl _ | apply Drawn0.step)⟩
  ·rw [if_neg c4] at H
   exact absurd H (by simp)
 ·rw [if_neg c3] at H
  have c3b0 : decide (a1 < (l0.length : Int)) = false := decide_eq_false c3
  clear c3
  obtain rfl := Option.some.inj H
  go_enter Try.func48, Try.ntmps48
  go_wp2
  go_ret
  exact ⟨by first | rfl | (simp; done) | (simp [*]; done), by repeat (first | exact Drawn0.refl _ | apply Drawn0.step)⟩
end Go.Proofs.Ytncnhhnbjmpomaa.Q
namespace Go.Proofs.Ytncnhhnbjmpomaa.Q
open Go.RowKit Go.Proofs.YtncnhhnbjmpomaaW.PrintWords Go.Proofs.YtncnhhnbjmpomaaW.PrintLast Go.Proofs.YtncnhhnbjmpomaaW.PrintMore
attribute [local go_sem] max2_int min2_int max_two min_two max_three min_three max_four min_four   -- for this text's walks alone
set_option linter.unusedVariables false
set_option linter.unusedSimpArgs false
def soukref01_less.l0 : Nat → List Bool → List Bool → Int → Option (Bool)
 | 0, _, _, _ => none
 | k + 1, x0, x1, x6 => if x6 ≥ 0 then ((soukref01_Wide_at.f x0 x6).bind fun t171 => ((soukref01_Wide_at.f x1 x6).bind fun t172 => (if t171 = true then (if t172 = true then (soukref01_less.l0 k x0 x1 (wrap64 (x6 - 1))) else (some t172)) else (if t172 = true then (some t172) else (soukref01_less.l0 k x0 x1 (wrap64 (x6 - 1))))))) else (some false)
def soukref01_less.f (k : Nat) (l0 : List Bool) (l1 : List Bool) : Option (Bool) := if (l0.length : Int) < (l1.length : Int) then (soukref01_less.l0 k l0 l1 (wrap64 ((l1.length : Int) - 1))) else (soukref01_less.l0 k l0 l1 (wrap64 ((l0.length : Int) - 1)))
set_option maxHeartbeats 8000000 in
set_option maxRecDepth 100000 in
theorem soukref01_less.calls (k : Nat) (A0 : Option Addr) (c0 : Nat) (l0 : List Bool) (A1 : Option Addr) (c1 : Nat) (l1 : List Bool) (r : Bool) (w : World) (hr0 : Kd.C Kd.bool w A0 l0.length l0) (hc0 : l0.length ≤ c0) (hr1 : Kd.C Kd.bool w A1 l1.length l1) (hc1 : l1.length ≤ c1) (h : soukref01_less.f k l0 l1 = some r) :
  Calls Try.prog 47 #[.slice A0 l0.length c0, .slice A1 l1.length c1] w fun e w' => e = .returned (.bool r) ∧ Below w.heap.size w w' := by
 have HR0 := Aside0.mk hr0
 have HC0 := Aside0.mk hc0
 clear hr0 hc0
 have HR1 := Aside0.mk hr1
 have HC1 := Aside0.mk hc1
 clear hr1 hc1
 have HB := Aside0.mk (Below.refl w.heap.size w)
 have H : (if (l0.length : Int) < (l1.length : Int) then (soukref01_less.l0 k l0 l1 (wrap64 ((l1.length : Int) - 1))) else (soukref01_less.l0 k l0 l1 (wrap64 ((l0.length : Int) - 1)))) = some r := h
 clear h
 by_cases c3 : (l0.length : Int) < (l1.length : Int)
 ·rw [if_pos c3] at H
  have c3i := eq_true c3
  have c3b0 : decide ((l0.length : Int) < (l1.length : Int)) = true := decide_eq_true c3
  have c3b1 : decide (l0.length < l1.length) = true := decide_eq_true (Int.ofNat_lt.mp c3)
  clear c3
  have H' := Aside0.mk H
  clear H
  go_enter Try.func47, Try.ntmps47
  go_wp2
  go_loopg [6] k (fun kq v6 w' => ∃ (x6_1 : Int), v6 = .int .i64 x6_1 ∧ Aside0 (soukref01_less.l0 kq l0 l1 x6_1 = some r) ∧ Aside0 (kq ≤ k) ∧ Aside0 (Below w.heap.size w w'))
  case atStart => exact ⟨(wrap64 ((l1.length : Int) - 1)), (by first | rfl | (simp; done) | (simp [*]; done)), H', ⟨Nat.le_refl _⟩, ⟨by repeat (first | (with_reducible first | exact HB.out | apply below_alloc | apply pw_below_drewN | apply below_drew1) | exact HB.out)⟩⟩
  case round =>
   clear H'
   try clear c1
   try clear p2
   try clear c3
   try clear c3b0
   try clear c3b1
   obtain ⟨x6_1, rfl, HA, HK1, HB⟩ := hrel
   cases gk with
   | zero => exact absurd HA.out (by simp [soukref01_less.l0])
   | succ k1 =>
    have H := HA.out
    clear HA
    simp only [soukref01_less.l0] at H
    by_cases c4 : x6_1 ≥ 0
    ·rw [if_pos c4] at H
     have c4b0 : decide (0 ≤ x6_1) = true := decide_eq_true c4
     clear c4
     replace H := Option.bind_eq_some_iff.mp H
     obtain ⟨t171, A50, H⟩ := H
     replace H : ((soukref01_Wide_at.f l1 x6_1).bind fun t172 => (if t171 = true then (if t172 = true then (soukref01_less.l0 k1 l0 l1 (wrap64 (x6_1 - 1))) else (some t172)) else (if t172 = true then (some t172) else (soukref01_less.l0 k1 l0 l1 (wrap64 (x6_1 - 1)))))) = some r := H
     have A5 := Aside0.mk A50
     clear A50
     replace H := Option.bind_eq_some_iff.mp H
     obtain ⟨t172, A60, H⟩ := H
     replace H : (if t171 = true then (if t172 = true then (soukref01_less.l0 k1 l0 l1 (wrap64 (x6_1 - 1))) else (some t172)) else (if t172 = true then (some t172) else (soukref01_less.l0 k1 l0 l1 (wrap64 (x6_1 - 1))))) = some r := H
     have A6 := Aside0.mk A60
     clear A60
     by_cases c7 : t171 = true
     ·subst c7
      have H1 : (if t172 = true then (soukref01_less.l0 k1 l0 l1 (wrap64 (x6_1 - 1))) else (some t172)) = some r := by rw [if_pos rfl] at H; exact H
      clear H
      have H := H1
      clear H1
      by_cases c8 : t172 = true
      ·subst c8
       have H1 : (soukref01_less.l0 k1 l0 l1 (wrap64 (x6_1 - 1))) = some r := by rw [if_pos rfl] at H; exact H
       clear H
       have H := H1
       clear H1
       have H' := Aside0.mk H
       clear H
       go_wp2_with (first | ((with_reducible refine gate_callee (f := 48) rfl ?_); refine goesL_ (some 22) rfl rfl Try.func48 (by kernel_rfl) rfl #[.slice A0 l0.length c0, .int .i64 x6_1] rfl (by (try simp only [List.map_toArray, List.map_cons, List.map_nil]); first | done | rfl | (simp only [List.length_drop, List.length_take]; rfl)) ?_; (with_reducible refine (soukref01_Wide_at.calls _ _ l0 x6_1 true _ ?side1 ?side2 A5.out).mono ?_); (case side1 => repeat (first | exact (Kd.C_below HR0.out HB.out) | (with_reducible refine Kd.C_alloc ?_ _) | (with_reducible refine Kd.C_drewN ?_ _) | (with_reducible refine Kd.C_drew ?_))); (case side2 => exact HC0.out); rintro e w' ⟨rfl, ⟨nd, rfl⟩⟩; refine ⟨_, rfl, ?_⟩) | ((with_reducible refine gate_callee (f := 48) rfl ?_); refine goesL_ (some 25) rfl rfl Try.func48 (by kernel_rfl) rfl #[.slice A1 l1.length c1, .int .i64 x6_1] rfl (by (try simp only [List.map_toArray, List.map_cons, List.map_nil]); first | done | rfl | (simp only [List.length_drop, List.length_take]; rfl)) ?_; (with_reducible refine (soukref01_Wide_at.calls _ _ l1 x6_1 true _ ?side1 ?side2 A6.out).mono ?_); (case side1 => repeat (first | exact (Kd.C_below HR1.out (by repeat (first | (with_reducible first | exact HB.out | apply below_alloc | apply pw_below_drewN | apply below_drew1) | exact HB.out))) | (with_reducible refine Kd.C_alloc ?_ _) | (with_reducible refine Kd.C_drewN ?_ _) | (with_reducible refine Kd.C_drew ?_))); (case side2 => exact HC1.out); rintro e w' ⟨rfl, ⟨nd, rfl⟩⟩; refine ⟨_, rfl, ?_⟩))
       go_roundg k1
       case measure => have := HK1.out; omega
       case rel => exact ⟨(wrap64 (x6_1 - 1)), (by first | rfl | (simp; done) | (simp [*]; done)), H', ⟨by have := HK1.out; omega⟩, ⟨by repeat (first | (with_reducible first | exact HB.out | apply below_alloc | apply pw_below_drewN | apply below_drew1) | exact HB.out)⟩⟩
      ·replace c8 := Bool.eq_false_iff.mpr c8
       subst c8
       have H1 : (some false) = some r := by rw [if_neg (show ¬ (false = true) by decide)] at H; exact H
       clear H
       have H := H1
       clear H1
       obtain rfl := Option.some.inj H
       go_wp2_with (first | ((with_reducible refine gate_callee (f := 48) rfl ?_); refine goesL_ (some 22) rfl rfl Try.func48 (by kernel_rfl) rfl #[.slice A0 l0.length c0, .int .i64 x6_1] rfl (by (try simp only [List.map_toArray, List.map_cons, List.map_nil]); first | done | rfl | (simp only [List.length_drop, List.length_take]; rfl)) ?_; (with_reducible refine (soukref01_Wide_at.calls _ _ l0 x6_1 true _ ?side1 ?side2 A5.out).mono ?_); (case side1 => repeat (first | exact (Kd.C_below HR0.out HB.out) | (with_reducible refine Kd.C_alloc ?_ _) | (with_reducible refine Kd.C_drewN ?_ _) | (with_reducible refine Kd.C_drew ?_))); (case side2 => exact HC0.out); rintro e w' ⟨rfl, ⟨nd, rfl⟩⟩; refine ⟨_, rfl, ?_⟩) | ((with_reducible refine gate_callee (f := 48) rfl ?_); refine goesL_ (some 25) rfl rfl Try.func48 (by kernel_rfl) rfl #[.slice A1 l1.length c1, .int .i64 x6_1] rfl (by (try simp only [List.map_toArray, List.map_cons, List.map_nil]); first | done | rfl | (simp only [List.length_drop, List.length_take]; rfl)) ?_; (with_reducible refine (soukref01_Wide_at.calls _ _ l1 x6_1 false _ ?side1 ?side2 A6.out).mono ?_); (case side1 => repeat (first | exact (Kd.C_below HR1.out (by repeat (first | (with_reducible first | exact HB.out | apply below_alloc | apply pw_below_drewN | apply below_drew1) | exact HB.out))) | (with_reducible refine Kd.C_alloc ?_ _) | (with_reducible refine Kd.C_drewN ?_ _) | (with_reducible refine Kd.C_drew ?_))); (case side2 => exact HC1.out); rintro e w' ⟨rfl, ⟨nd, rfl⟩⟩; refine ⟨_, rfl, ?_⟩))
       go_ret
       exact ⟨by first | rfl | (simp [errW_none, errW_some] <;> rfl) | (simp [*, errW_none, errW_some] <;> rfl), by repeat (first | (with_reducible first | exact HB.out | apply below_alloc | apply pw_below_drewN | apply below_drew1) | exact HB.out)⟩
     ·replace c7 := Bool.eq_false_iff.mpr c7
      subst c7
      have H1 : (if t172 = true then (some t172) else (soukref01_less.l0 k1 l0 l1 (wrap64 (x6_1 - 1)))) = some r := by rw [if_neg (show ¬ (false = true) by decide)] at H; exact H
      clear H
      have H := H1
      clear H1
      by_cases c9 : t172 = true
      ·subst c9
       have H1 : (some true) = some r := by rw [if_pos rfl] at H; exact H
       clear H
       have H := H1
       clear H1
       obtain rfl := Option.some.inj H
       go_wp2_with (first | ((with_reducible refine gate_callee (f := 48) rfl ?_); refine goesL_ (some 22) rfl rfl Try.func48 (by kernel_rfl) rfl #[.slice A0 l0.length c0, .int .i64 x6_1] rfl (by (try simp only [List.map_toArray, List.map_cons, List.map_nil]); first | done | rfl | (simp only [List.length_drop, List.length_take]; rfl)) ?_; (with_reducible refine (soukref01_Wide_at.calls _ _ l0 x6_1 false _ ?side1 ?side2 A5.out).mono ?_); (case side1 => repeat (first | exact (Kd.C_below HR0.out HB.out) | (with_reducible refine Kd.C_alloc ?_ _) | (with_reducible refine Kd.C_drewN ?_ _) | (with_reducible refine Kd.C_drew ?_))); (case side2 => exact HC0.out); rintro e w' ⟨rfl, ⟨nd, rfl⟩⟩; refine ⟨_, rfl, ?_⟩) | ((with_reducible refine gate_callee (f := 48) rfl ?_); refine goesL_ (some 25) rfl rfl Try.func48 (by kernel_rfl) rfl #[.slice A1 l1.length c1, .int .i64 x6_1] rfl (by (try simp only [List.map_toArray, List.map_cons, List.map_nil]); first | done | rfl | (simp only [List.length_drop, List.length_take]; rfl)) ?_; (with_reducible refine (soukref01_Wide_at.calls _ _ l1 x6_1 true _ ?side1 ?side2 A6.out).mono ?_); (case side1 => repeat (first | exact (Kd.C_below HR1.out (by repeat (first | (with_reducible first | exact HB.out | apply below_alloc | apply pw_below_drewN | apply below_drew1) | exact HB.out))) | (with_reducible refine Kd.C_alloc ?_ _) | (with_reducible refine Kd.C_drewN ?_ _) | (with_reducible refine Kd.C_drew ?_))); (case side2 => exact HC1.out); rintro e w' ⟨rfl, ⟨nd, rfl⟩⟩; refine ⟨_, rfl, ?_⟩))
       go_ret
       exact ⟨by first | rfl | (simp [errW_none, errW_some] <;> rfl) | (simp [*, errW_none, errW_some] <;> rfl), by repeat (first | (with_reducible first | exact HB.out | apply below_alloc | apply pw_below_drewN | apply below_drew1) | exact HB.out)⟩
      ·replace c9 := Bool.eq_false_iff.mpr c9
       subst c9
       have H1 : (soukref01_less.l0 k1 l0 l1 (wrap64 (x6_1 - 1))) = some r := by rw [if_neg (show ¬ (false = true) by decide)] at H; exact H
       clear H
       have H := H1
       clear H1
       have H' := Aside0.mk H
       clear H
       go_wp2_with (first | ((with_reducible refine gate_callee (f := 48) rfl ?_); refine goesL_ (some 22) rfl rfl Try.func48 (by kernel_rfl) rfl #[.slice A0 l0.length c0, .int .i64 x6_1] rfl (by (try simp only [List.map_toArray, List.map_cons, List.map_nil]); first | done | rfl | (simp only [List.length_drop, List.length_take]; rfl)) ?_; (with_reducible refine (soukref01_Wide_at.calls _ _ l0 x6_1 false _ ?side1 ?side2 A5.out).mono ?_); (case side1 => repeat (first | exact (Kd.C_below HR0.out HB.out) | (with_reducible refine Kd.C_alloc ?_ _) | (with_reducible refine Kd.C_drewN ?_ _) | (with_reducible refine Kd.C_drew ?_))); (case side2 => exact HC0.out); rintro e w' ⟨rfl, ⟨nd, rfl⟩⟩; refine ⟨_, rfl, ?_⟩) | ((with_reducible refine gate_callee (f := 48) rfl ?_); refine goesL_ (some 25) rfl rfl Try.func48 (by kernel_rfl) rfl #[.slice A1 l1.length c1, .int .i64 x6_1] rfl (by (try simp only [List.map_toArray, List.map_cons, List.map_nil]); first | done | rfl | (simp only [List.length_drop, List.length_take]; rfl)) ?_; (with_reducible refine (soukref01_Wide_at.calls _ _ l1 x6_1 false _ ?side1 ?side2 A6.out).mono ?_); (case side1 => repeat (first | exact (Kd.C_below HR1.out (by repeat (first | (with_reducible first | exact HB.out | apply below_alloc | apply pw_below_drewN | apply below_drew1) | exact HB.out))) | (with_reducible refine Kd.C_alloc ?_ _) | (with_reducible refine Kd.C_drewN ?_ _) | (with_reducible refine Kd.C_drew ?_))); (case side2 => exact HC1.out); rintro e w' ⟨rfl, ⟨nd, rfl⟩⟩; refine ⟨_, rfl, ?_⟩))
       go_roundg k1
       case measure => have := HK1.out; omega
       case rel => exact ⟨(wrap64 (x6_1 - 1)), (by first | rfl | (simp; done) | (simp [*]; done)), H', ⟨by have := HK1.out; omega⟩, ⟨by repeat (first | (with_reducible first | exact HB.out | apply below_alloc | apply pw_below_drewN | apply below_drew1) | exact HB.out)⟩⟩
    ·rw [if_neg c4] at H
     have c4b0 : decide (0 ≤ x6_1) = false := decide_eq_false c4
     clear c4
     obtain rfl := Option.some.inj H
     go_wp2
     go_ret
     exact ⟨by first | rfl | (simp [errW_none, errW_some] <;> rfl) | (simp [*, errW_none, errW_some] <;> rfl), by repeat (first | (with_reducible first | exact HB.out | apply below_alloc | apply pw_below_drewN | apply below_drew1) | exact HB.out)⟩
 ·rw [if_neg c3] at H
  have c3i := eq_false c3
  have c3b0 : decide ((l0.length : Int) < (l1.length : Int)) = false := decide_eq_false c3
  have c3b1 : decide (l0.length < l1.length) = false := decide_eq_false (fun h => c3 (Int.ofNat_lt.mpr h))
  clear c3
  have H' := Aside0.mk H
  clear H
  go_enter Try.func47, Try.ntmps47
  go_wp2
  go_loopg [6] k (fun kq v6 w' => ∃ (x6_1 : Int), v6 = .int .i64 x6_1 ∧ Aside0 (soukref01_less.l0 kq l0 l1 x6_1 = some r) ∧ Aside0 (kq ≤ k) ∧ Aside0 (Below w.heap.size w w'))
  case atStart => exact ⟨(wrap64 ((l0.length : Int) - 1)), (by first | rfl | (simp; done) | (simp [*]; done)), H', ⟨Nat.le_refl _⟩, ⟨by repeat (first | (with_reducible first | exact HB.out | apply below_alloc | apply pw_below_drewN | apply below_drew1) | exact HB.out)⟩⟩
  case round =>
   clear H'
   try clear c1
   try clear p2
   try clear c3
   try clear c3b0
   try clear c3b1
   try clear c4
   try clear c4b0
   try clear p6
   try clear c7
   try clear c8
   try clear c9
   try clear p2
   obtain ⟨x6_1, rfl, HA, HK1, HB⟩ := hrel
   cases gk with
   | zero => exact absurd HA.out (by simp [soukref01_less.l0])
   | succ k1 =>
    have H := HA.out
    clear HA
    simp only [soukref01_less.l0] at H
    by_cases c10 : x6_1 ≥ 0
    ·rw [if_pos c10] at H
     have c10b0 : decide (0 ≤ x6_1) = true := decide_eq_true c10
     clear c10
     replace H := Option.bind_eq_some_iff.mp H
     obtain ⟨t171, A110, H⟩ := H
     replace H : ((soukref01_Wide_at.f l1 x6_1).bind fun t172 => (if t171 = true then (if t172 = true then (soukref01_less.l0 k1 l0 l1 (wrap64 (x6_1 - 1))) else (some t172)) else (if t172 = true then (some t172) else (soukref01_less.l0 k1 l0 l1 (wrap64 (x6_1 - 1)))))) = some r := H
     have A11 := Aside0.mk A110
     clear A110
     replace H := Option.bind_eq_some_iff.mp H
     obtain ⟨t172, A120, H⟩ := H
     replace H : (if t171 = true then (if t172 = true then (soukref01_less.l0 k1 l0 l1 (wrap64 (x6_1 - 1))) else (some t172)) else (if t172 = true then (some t172) else (soukref01_less.l0 k1 l0 l1 (wrap64 (x6_1 - 1))))) = some r := H
     have A12 := Aside0.mk A120
     clear A120
     by_cases c13 : t171 = true
     ·subst c13
      have H1 : (if t172 = true then (soukref01_less.l0 k1 l0 l1 (wrap64 (x6_1 - 1))) else (some t172)) = some r := by rw [if_pos rfl] at H; exact H
      clear H
      have H := H1
      clear H1
      by_cases c14 : t172 = true
      ·subst c14
       have H1 : (soukref01_less.l0 k1 l0 l1 (wrap64 (x6_1 - 1))) = some r := by rw [if_pos rfl] at H; exact H
       clear H
       have H := H1
       clear H1
       have H' := Aside0.mk H
       clear H
       go_wp2_with (first | ((with_reducible refine gate_callee (f := 48) rfl ?_); refine goesL_ (some 22) rfl rfl Try.func48 (by kernel_rfl) rfl #[.slice A0 l0.length c0, .int .i64 x6_1] rfl (by (try simp only [List.map_toArray, List.map_cons, List.map_nil]); first | done | rfl | (simp only [List.length_drop, List.length_take]; rfl)) ?_; (with_reducible refine (soukref01_Wide_at.calls _ _ l0 x6_1 true _ ?side1 ?side2 A11.out).mono ?_); (case side1 => repeat (first | exact (Kd.C_below HR0.out HB.out) | (with_reducible refine Kd.C_alloc ?_ _) | (with_reducible refine Kd.C_drewN ?_ _) | (with_reducible refine Kd.C_drew ?_))); (case side2 => exact HC0.out); rintro e w' ⟨rfl, ⟨nd, rfl⟩⟩; refine ⟨_, rfl, ?_⟩) | ((with_reducible refine gate_callee (f := 48) rfl ?_); refine goesL_ (some 25) rfl rfl Try.func48 (by kernel_rfl) rfl #[.slice A1 l1.length c1, .int .i64 x6_1] rfl (by (try simp only [List.map_toArray, List.map_cons, List.map_nil]); first | done | rfl | (simp only [List.length_drop, List.length_take]; rfl)) ?_; (with_reducible refine (soukref01_Wide_at.calls _ _ l1 x6_1 true _ ?side1 ?side2 A12.out).mono ?_); (case side1 => repeat (first | exact (Kd.C_below HR1.out (by repeat (first | (with_reducible first | exact HB.out | apply below_alloc | apply pw_below_drewN | apply below_drew1) | exact HB.out))) | (with_reducible refine Kd.C_alloc ?_ _) | (with_reducible refine Kd.C_drewN ?_ _) | (with_reducible refine Kd.C_drew ?_))); (case side2 => exact HC1.out); rintro e w' ⟨rfl, ⟨nd, rfl⟩⟩; refine ⟨_, rfl, ?_⟩))
       go_roundg k1
       case measure => have := HK1.out; omega
       case rel => exact ⟨(wrap64 (x6_1 - 1)), (by first | rfl | (simp; done) | (simp [*]; done)), H', ⟨by have := HK1.out; omega⟩, ⟨by repeat (first | (with_reducible first | exact HB.out | apply below_alloc | apply pw_below_drewN | apply below_drew1) | exact HB.out)⟩⟩
      ·replace c14 := Bool.eq_false_iff.mpr c14
       subst c14
       have H1 : (some false) = some r := by rw [if_neg (show ¬ (false = true) by decide)] at H; exact H
       clear H
       have H := H1
       clear H1
       obtain rfl := Option.some.inj H
       go_wp2_with (first | ((with_reducible refine gate_callee (f := 48) rfl ?_); refine goesL_ (some 22) rfl rfl Try.func48 (by kernel_rfl) rfl #[.slice A0 l0.length c0, .int .i64 x6_1] rfl (by (try simp only [List.map_toArray, List.map_cons, List.map_nil]); first | done | rfl | (simp only [List.length_drop, List.length_take]; rfl)) ?_; (with_reducible refine (soukref01_Wide_at.calls _ _ l0 x6_1 true _ ?side1 ?side2 A11.out).mono ?_); (case side1 => repeat (first | exact (Kd.C_below HR0.out HB.out) | (with_reducible refine Kd.C_alloc ?_ _) | (with_reducible refine Kd.C_drewN ?_ _) | (with_reducible refine Kd.C_drew ?_))); (case side2 => exact HC0.out); rintro e w' ⟨rfl, ⟨nd, rfl⟩⟩; refine ⟨_, rfl, ?_⟩) | ((with_reducible refine gate_callee (f := 48) rfl ?_); refine goesL_ (some 25) rfl rfl Try.func48 (by kernel_rfl) rfl #[.slice A1 l1.length c1, .int .i64 x6_1] rfl (by (try simp only [List.map_toArray, List.map_cons, List.map_nil]); first | done | rfl | (simp only [List.length_drop, List.length_take]; rfl)) ?_; (with_reducible refine (soukref01_Wide_at.calls _ _ l1 x6_1 false _ ?side1 ?side2 A12.out).mono ?_); (case side1 => repeat (first | exact (Kd.C_below HR1.out (by repeat (first | (with_reducible first | exact HB.out | apply below_alloc | apply pw_below_drewN | apply below_drew1) | exact HB.out))) | (with_reducible refine Kd.C_alloc ?_ _) | (with_reducible refine Kd.C_drewN ?_ _) | (with_reducible refine Kd.C_drew ?_))); (case side2 => exact HC1.out); rintro e w' ⟨rfl, ⟨nd, rfl⟩⟩; refine ⟨_, rfl, ?_⟩))
       go_ret
       exact ⟨by first | rfl | (simp [errW_none, errW_some] <;> rfl) | (simp [*, errW_none, errW_some] <;> rfl), by repeat (first | (with_reducible first | exact HB.out | apply below_alloc | apply pw_below_drewN | apply below_drew1) | exact HB.out)⟩
     ·replace c13 := Bool.eq_false_iff.mpr c13
      subst c13
      have H1 : (if t172 = true then (some t172) else (soukref01_less.l0 k1 l0 l1 (wrap64 (x6_1 - 1)))) = some r := by rw [if_neg (show ¬ (false = true) by decide)] at H; exact H
      clear H
      have H := H1
      clear H1
      by_cases c15 : t172 = true
      ·subst c15
       have H1 : (some true) = some r := by rw [if_pos rfl] at H; exact H
       clear H
       have H := H1
       clear H1
       obtain rfl := Option.some.inj H
       go_wp2_with (first | ((with_reducible refine gate_callee (f := 48) rfl ?_); refine goesL_ (some 22) rfl rfl Try.func48 (by kernel_rfl) rfl #[.slice A0 l0.length c0, .int .i64 x6_1] rfl (by (try simp only [List.map_toArray, List.map_cons, List.map_nil]); first | done | rfl | (simp only [List.length_drop, List.length_take]; rfl)) ?_; (with_reducible refine (soukref01_Wide_at.calls _ _ l0 x6_1 false _ ?side1 ?side2 A11.out).mono ?_); (case side1 => repeat (first | exact (Kd.C_below HR0.out HB.out) | (with_reducible refine Kd.C_alloc ?_ _) | (with_reducible refine Kd.C_drewN ?_ _) | (with_reducible refine Kd.C_drew ?_))); (case side2 => exact HC0.out); rintro e w' ⟨rfl, ⟨nd, rfl⟩⟩; refine ⟨_, rfl, ?_⟩) | ((with_reducible refine gate_callee (f := 48) rfl ?_); refine goesL_ (some 25) rfl rfl Try.func48 (by kernel_rfl) rfl #[.slice A1 l1.length c1, .int .i64 x6_1] rfl (by (try simp only [List.map_toArray, List.map_cons, List.map_nil]); first | done | rfl | (simp only [List.length_drop, List.length_take]; rfl)) ?_; (with_reducible refine (soukref01_Wide_at.calls _ _ l1 x6_1 true _ ?side1 ?side2 A12.out).mono ?_); (case side1 => repeat (first | exact (Kd.C_below HR1.out (by repeat (first | (with_reducible first | exact HB.out | apply below_alloc | apply pw_below_drewN | apply below_drew1) | exact HB.out))) | (with_reducible refine Kd.C_alloc ?_ _) | (with_reducible refine Kd.C_drewN ?_ _) | (with_reducible refine Kd.C_drew ?_))); (case side2 => exact HC1.out); rintro e w' ⟨rfl, ⟨nd, rfl⟩⟩; refine ⟨_, rfl, ?_⟩))
       go_ret
       exact ⟨by first | rfl | (simp [errW_none, errW_some] <;> rfl) | (simp [*, errW_none, errW_some] <;> rfl), by repeat (first | (with_reducible first | exact HB.out | apply below_alloc | apply pw_below_drewN | apply below_drew1) | exact HB.out)⟩
      ·replace c15 := Bool.eq_false_iff.mpr c15
       subst c15
       have H1 : (soukref01_less.l0 k1 l0 l1 (wrap64 (x6_1 - 1))) = some r := by rw [if_neg (show ¬ (false = true) by decide)] at H; exact H
       clear H
       have H := H1
       clear H1
       have H' := Aside0.mk H
       clear H
       go_wp2_with (first | ((with_reducible refine gate_callee (f := 48) rfl ?_); refine goesL_ (some 22) rfl rfl Try.func48 (by kernel_rfl) rfl #[.slice A0 l0.length c0, .int .i64 x6_1] rfl (by (try simp only [List.map_toArray, List.map_cons, List.map_nil]); first | done | rfl | (simp only [List.length_drop, List.length_take]; rfl)) ?_; (with_reducible refine (soukref01_Wide_at.calls _ _ l0 x6_1 false _ ?side1 ?side2 A11.out).mono ?_); (case side1 => repeat (first | exact (Kd.C_below HR0.out HB.out) | (with_reducible refine Kd.C_alloc ?_ _) | (with_reducible refine Kd.C_drewN ?_ _) | (with_reducible refine Kd.C_drew ?_))); (case side2 => exact HC0.out); rintro e w' ⟨rfl, ⟨nd, rfl⟩⟩; refine ⟨_, rfl, ?_⟩) | ((with_reducible refine gate_callee (f := 48) rfl ?_); refine goesL_ (some 25) rfl rfl Try.func48 (by kernel_rfl) rfl #[.slice A1 l1.length c1, .int .i64 x6_1] rfl (by (try simp only [List.map_toArray, List.map_cons, List.map_nil]); first | done | rfl | (simp only [List.length_drop, List.length_take]; rfl)) ?_; (with_reducible refine (soukref01_Wide_at.calls _ _ l1 x6_1 false _ ?side1 ?side2 A12.out).mono ?_); (case side1 => repeat (first | exact (Kd.C_below HR1.out (by repeat (first | (with_reducible first | exact HB.out | apply below_alloc | apply pw_below_drewN | apply below_drew1) | exact HB.out))) | (with_reducible refine Kd.C_alloc ?_ _) | (with_reducible refine Kd.C_drewN ?_ _) | (with_reducible refine Kd.C_drew ?_))); (case side2 => exact HC1.out); rintro e w' ⟨rfl, ⟨nd, rfl⟩⟩; refine ⟨_, rfl, ?_⟩))
       go_roundg k1
       case measure => have := HK1.out; omega
       case rel => exact ⟨(wrap64 (x6_1 - 1)), (by first | rfl | (simp; done) | (simp [*]; done)), H', ⟨by have := HK1.out; omega⟩, ⟨by repeat (first | (with_reducible first | exact HB.out | apply below_alloc | apply pw_below_drewN | apply below_drew1) | exact HB.out)⟩⟩
    ·rw [if_neg c10] at H
     have c10b0 : decide (0 ≤ x6_1) = false := decide_eq_false c10
     clear c10
     obtain rfl := Option.some.inj H
     go_wp2
     go_ret
     exact ⟨by first | rfl | (simp [errW_none, errW_some] <;> rfl) | (simp [*, errW_none, errW_some] <;> rfl), by repeat (first | (with_reducible first | exact HB.out | apply below_alloc | apply pw_below_drewN | apply below_drew1) | exact HB.out)⟩
end Go.Proofs.Ytncnhhnbjmpomaa.Q
namespace Go.Proofs.Ytncnhhnbjmpomaa.Q
open Go.RowKit Go.Proofs.YtncnhhnbjmpomaaW.PrintWords Go.Proofs.YtncnhhnbjmpomaaW.PrintLast Go.Proofs.YtncnhhnbjmpomaaW.PrintMore
attribute [local go_sem] max2_int min2_int max_two min_two max_three min_three max_four min_four   -- for this text's walks alone
set_option linter.unusedVariables false
set_option linter.unusedSimpArgs false
def soukref01_minus.l0 : Nat → List Bool → List Bool → List Bool → Bool → Int → Option (List Bool)
 | 0, _, _, _, _, _ => none
 | k + 1, x0, x1, x5, x6, x7 => if x7 < (x0.length : Int) then ((soukref01_Wide_at.f x0 x7).bind fun t173 => ((soukref01_Wide_at.f x1 x7).bind fun t174 => (if t173 = true then (if t174 = true then (if x6 = true then (if x5.length < 140737488355328 then (soukref01_minus.l0 k x0 x1 (x5 ++ [true]) x6 (wrap64 (x7 + 1))) else (none)) else (if x5.length < 140737488355328 then (soukref01_minus.l0 k x0 x1 (x5 ++ [false]) x6 (wrap64 (x7 + 1))) else (none))) else (if x6 = true then (if x5.length < 140737488355328 then (soukref01_minus.l0 k x0 x1 (x5 ++ [false]) false (wrap64 (x7 + 1))) else (none)) else (if x5.length < 140737488355328 then (soukref01_minus.l0 k x0 x1 (x5 ++ [true]) false (wrap64 (x7 + 1))) else (none)))) else (if t174 = true then (if x6 = true then (if x5.length < 140737488355328 then (soukref01_minus.l0 k x0 x1 (x5 ++ [false]) true (wrap64 (x7 + 1))) else (none)) else (if x5.length < 140737488355328 then (soukref01_minus.l0 k x0 x1 (x5 ++ [true]) true (wrap64 (x7 + 1))) else (none))) else (if x6 = true then (if x5.length < 140737488355328 then (soukref01_minus.l0 k x0 x1 (x5 ++ [true]) true (wrap64 (x7 + 1))) else (none)) else (if x5.length < 140737488355328 then (soukref01_minus.l0 k x0 x1 (x5 ++ [false]) false (wrap64 (x7 + 1))) else (none))))))) else ((soukref01_trim.f k x5).bind fun t199 => (some t199))
def soukref01_minus.f (k : Nat) (l0 : List Bool) (l1 : List Bool) : Option (List Bool) := soukref01_minus.l0 k l0 l1 ([] : List Bool) false 0
set_option maxHeartbeats 8000000 in
set_option maxRecDepth 100000 in
theorem soukref01_minus.calls (k : Nat) (A0 : Option Addr) (c0 : Nat) (l0 : List Bool) (A1 : Option Addr) (c1 : Nat) (l1 : List Bool) (r : List Bool) (w : World) (hr0 : Kd.C Kd.bool w A0 l0.length l0) (hc0 : l0.length ≤ c0) (hr1 : Kd.C Kd.bool w A1 l1.length l1) (hc1 : l1.length ≤ c1) (h : soukref01_minus.f k l0 l1 = some r) :
  Calls Try.prog 65 #[.slice A0 l0.length c0, .slice A1 l1.length c1] w fun e w' => ∃ v0_ : Value, e = .returned (v0_) ∧ Kd.R Kd.bool 4 w' w.heap.size (fun _ => True) v0_ r ∧ Below w.heap.size w w' := by
 have HR0 := Aside0.mk hr0
 have HC0 := Aside0.mk hc0
 clear hr0 hc0
 have HR1 := Aside0.mk hr1
 have HC1 := Aside0.mk hc1
 clear hr1 hc1
 have HB := Aside0.mk (Below.refl w.heap.size w)
 have H : (soukref01_minus.l0 k l0 l1 ([] : List Bool) false 0) = some r := h
 clear h
 have H' := Aside0.mk H
 clear H
 go_enter Try.func65, Try.ntmps65
 go_wp2
 go_loopg [5, 6, 7] k (fun kq v5 v6 v7 w' => ∃ (x5_1 : List Bool) (x6_1 : Bool) (x7_1 : Int), v6 = .bool x6_1 ∧ v7 = .int .i64 x7_1 ∧ Aside0 (soukref01_minus.l0 kq l0 l1 x5_1 x6_1 x7_1 = some r) ∧ Aside0 (kq ≤ k) ∧ Aside0 (Kd.R Kd.bool 4 w' w.heap.size (fun _ => True) v5 x5_1) ∧ Aside0 (Below w.heap.size w w'))
 case atStart => exact ⟨(([] : List Bool)), (false), (0), (by first | rfl | (simp; done) | (simp [*]; done)), (by first | rfl | (simp; done) | (simp [*]; done)), H', ⟨Nat.le_refl _⟩, ⟨by first | exact Kd.R_nil _ _ _ _ _ | exact Kd.N_nil _ _ _ _ _ | exact Kd.V_nil _ _ _ _ _ | exact Kd.Q_nil _ _ _ _ _ | exact Kd.S_nil _ _ _ _ _⟩, ⟨by repeat (first | (with_reducible first | exact HB.out | apply below_alloc | apply pw_below_drewN | apply below_drew1) | exact HB.out)⟩⟩
 case round =>
  clear H'
  try clear c1
  try clear p2
  obtain ⟨x5_1, x6_1, x7_1, rfl, rfl, HA, HK1, HO_5, HB⟩ := hrel
  cases gk with
  | zero => exact absurd HA.out (by simp [soukref01_minus.l0])
  | succ k1 =>
   have H := HA.out
   clear HA
   simp only [soukref01_minus.l0] at H
   by_cases c3 : x7_1 < (l0.length : Int)
   ·rw [if_pos c3] at H
    have c3b0 : decide (x7_1 < (l0.length : Int)) = true := decide_eq_true c3
    clear c3
    replace H := Option.bind_eq_some_iff.mp H
    obtain ⟨t173, A40, H⟩ := H
    replace H : ((soukref01_Wide_at.f l1 x7_1).bind fun t174 => (if t173 = true then (if t174 = true then (if x6_1 = true then (if x5_1.length < 140737488355328 then (soukref01_minus.l0 k1 l0 l1 (x5_1 ++ [true]) x6_1 (wrap64 (x7_1 + 1))) else (none)) else (if x5_1.length < 140737488355328 then (soukref01_minus.l0 k1 l0 l1 (x5_1 ++ [false]) x6_1 (wrap64 (x7_1 + 1))) else (none))) else (if x6_1 = true then (if x5_1.length < 140737488355328 then (soukref01_minus.l0 k1 l0 l1 (x5_1 ++ [false]) false (wrap64 (x7_1 + 1))) else (none)) else (if x5_1.length < 140737488355328 then (soukref01_minus.l0 k1 l0 l1 (x5_1 ++ [true]) false (wrap64 (x7_1 + 1))) else (none)))) else (if t174 = true then (if x6_1 = true then (if x5_1.length < 140737488355328 then (soukref01_minus.l0 k1 l0 l1 (x5_1 ++ [false]) true (wrap64 (x7_1 + 1))) else (none)) else (if x5_1.length < 140737488355328 then (soukref01_minus.l0 k1 l0 l1 (x5_1 ++ [true]) true (wrap64 (x7_1 + 1))) else (none))) else (if x6_1 = true then (if x5_1.length < 140737488355328 then (soukref01_minus.l0 k1 l0 l1 (x5_1 ++ [true]) true (wrap64 (x7_1 + 1))) else (none)) else (if x5_1.length < 140737488355328 then (soukref01_minus.l0 k1 l0 l1 (x5_1 ++ [false]) false (wrap64 (x7_1 + 1))) else (none)))))) = some r := H
    have A4 := Aside0.mk A40
    clear A40
    replace H := Option.bind_eq_some_iff.mp H
    obtain ⟨t174, A50, H⟩ := H
    replace H : (if t173 = true then (if t174 = true then (if x6_1 = true then (if x5_1.length < 140737488355328 then (soukref01_minus.l0 k1 l0 l1 (x5_1 ++ [true]) x6_1 (wrap64 (x7_1 + 1))) else (none)) else (if x5_1.length < 140737488355328 then (soukref01_minus.l0 k1 l0 l1 (x5_1 ++ [false]) x6_1 (wrap64 (x7_1 + 1))) else (none))) else (if x6_1 = true then (if x5_1.length < 140737488355328 then (soukref01_minus.l0 k1 l0 l1 (x5_1 ++ [false]) false (wrap64 (x7_1 + 1))) else (none)) else (if x5_1.length < 140737488355328 then (soukref01_minus.l0 k1 l0 l1 (x5_1 ++ [true]) false (wrap64 (x7_1 + 1))) else (none)))) else (if t174 = true then (if x6_1 = true then (if x5_1.length < 140737488355328 then (soukref01_minus.l0 k1 l0 l1 (x5_1 ++ [false]) true (wrap64 (x7_1 + 1))) else (none)) else (if x5_1.length < 140737488355328 then (soukref01_minus.l0 k1 l0 l1 (x5_1 ++ [true]) true (wrap64 (x7_1 + 1))) else (none))) else (if x6_1 = true then (if x5_1.length < 140737488355328 then (soukref01_minus.l0 k1 l0 l1 (x5_1 ++ [true]) true (wrap64 (x7_1 + 1))) else (none)) else (if x5_1.length < 140737488355328 then (soukref01_minus.l0 k1 l0 l1 (x5_1 ++ [false]) false (wrap64 (x7_1 + 1))) else (none))))) = some r := H
    have A5 := Aside0.mk A50
    clear A50
    by_cases c6 : t173 = true
    ·subst c6
     have H1 : (if t174 = true then (if x6_1 = true then (if x5_1.length < 140737488355328 then (soukref01_minus.l0 k1 l0 l1 (x5_1 ++ [true]) x6_1 (wrap64 (x7_1 + 1))) else (none)) else (if x5_1.length < 140737488355328 then (soukref01_minus.l0 k1 l0 l1 (x5_1 ++ [false]) x6_1 (wrap64 (x7_1 + 1))) else (none))) else (if x6_1 = true then (if x5_1.length < 140737488355328 then (soukref01_minus.l0 k1 l0 l1 (x5_1 ++ [false]) false (wrap64 (x7_1 + 1))) else (none)) else (if x5_1.length < 140737488355328 then (soukref01_minus.l0 k1 l0 l1 (x5_1 ++ [true]) false (wrap64 (x7_1 + 1))) else (none)))) = some r := by rw [if_pos rfl] at H; exact H
     clear H
     have H := H1
     clear H1
     by_cases c7 : t174 = true
     ·subst c7
      have H1 : (if x6_1 = true then (if x5_1.length < 140737488355328 then (soukref01_minus.l0 k1 l0 l1 (x5_1 ++ [true]) x6_1 (wrap64 (x7_1 + 1))) else (none)) else (if x5_1.length < 140737488355328 then (soukref01_minus.l0 k1 l0 l1 (x5_1 ++ [false]) x6_1 (wrap64 (x7_1 + 1))) else (none))) = some r := by rw [if_pos rfl] at H; exact H
      clear H
      have H := H1
      clear H1
      by_cases c8 : x6_1 = true
      ·subst c8
       have H1 : (if x5_1.length < 140737488355328 then (soukref01_minus.l0 k1 l0 l1 (x5_1 ++ [true]) true (wrap64 (x7_1 + 1))) else (none)) = some r := by rw [if_pos rfl] at H; exact H
       clear H
       have H := H1
       clear H1
       by_cases c9 : x5_1.length < 140737488355328
       ·rw [if_pos c9] at H
        have LMc9 := Aside0.mk c9
        clear c9
        obtain ⟨y175, hy175⟩ : ∃ y_ : List Bool, y_ = (x5_1 ++ [true]) := ⟨_, rfl⟩
        replace H : (soukref01_minus.l0 k1 l0 l1 y175 true (wrap64 (x7_1 + 1))) = some r := by first | (rw [hy175]; with_reducible exact H) | (have H2_ := (Option.bind_some _ _).symm.trans H; rw [hy175]; with_reducible exact H2_) | (have H2_ := (Option.bind_some _ _).symm.trans H; with_reducible exact H2_) | with_reducible exact H | (rw [hy175]; exact H) | exact H
        have Ny175 := Aside0.mk hy175
        clear hy175
        have H' := Aside0.mk H
        clear H
        go_wp2_with (first | ((with_reducible refine gate_callee (f := 48) rfl ?_); refine goesL_ (some 18) rfl rfl Try.func48 (by kernel_rfl) rfl #[.slice A0 l0.length c0, .int .i64 x7_1] rfl (by (try simp only [List.map_toArray, List.map_cons, List.map_nil]); first | done | rfl | (simp only [List.length_drop, List.length_take]; rfl)) ?_; (with_reducible refine (soukref01_Wide_at.calls _ _ l0 x7_1 true _ ?side1 ?side2 A4.out).mono ?_); (case side1 => repeat (first | exact (Kd.C_below HR0.out HB.out) | (with_reducible refine Kd.C_alloc ?_ _) | (with_reducible refine Kd.C_drewN ?_ _) | (with_reducible refine Kd.C_drew ?_))); (case side2 => exact HC0.out); rintro e w' ⟨rfl, ⟨nd, rfl⟩⟩; refine ⟨_, rfl, ?_⟩) | ((with_reducible refine gate_callee (f := 48) rfl ?_); refine goesL_ (some 21) rfl rfl Try.func48 (by kernel_rfl) rfl #[.slice A1 l1.length c1, .int .i64 x7_1] rfl (by (try simp only [List.map_toArray, List.map_cons, List.map_nil]); first | done | rfl | (simp only [List.length_drop, List.length_take]; rfl)) ?_; (with_reducible refine (soukref01_Wide_at.calls _ _ l1 x7_1 true _ ?side1 ?side2 A5.out).mono ?_); (case side1 => repeat (first | exact (Kd.C_below HR1.out (by repeat (first | (with_reducible first | exact HB.out | apply below_alloc | apply pw_below_drewN | apply below_drew1) | exact HB.out))) | (with_reducible refine Kd.C_alloc ?_ _) | (with_reducible refine Kd.C_drewN ?_ _) | (with_reducible refine Kd.C_drew ?_))); (case side2 => exact HC1.out); rintro e w' ⟨rfl, ⟨nd, rfl⟩⟩; refine ⟨_, rfl, ?_⟩) | ((with_reducible refine gate_builtin (b := .append) (xs := #[.tmp 22, .tmp 28]) rfl ?_); at_builtin; refine Kd.R_append Kd.bool (w0 := w) w.heap.size rfl (.tmp 22) (.tmp 28) 87 4 (.bool false) 1 rfl Try.underlying87 info4 rfl (by decide) (by omega) u5 x5_1 true [.bool true] (fun _ => True) (fun _ => False) rfl rfl ?aP (fun _ hk => hk.elim) ?aF ?aO ?aB ?aS ?aL ?_; (case aP => exact rfl); (case aB => exact (by repeat (first | (with_reducible first | exact HB.out | apply below_alloc | apply pw_below_drewN | apply below_drew1) | exact HB.out))); (case aF => exact (fun _ _ => trivial)); (case aO => exact (by (with_reducible repeat (first | apply Kd.R_alloc | apply Kd.R_drewN | apply Kd.R_drew)); exact HO_5.out)); (case aS => exact (below_size (by repeat (first | (with_reducible first | exact HB.out | apply below_alloc | apply pw_below_drewN | apply below_drew1) | exact HB.out)))); (case aL => have := LMc9.out; omega); intro v176 w10 ho hb hg hat; rw [← Ny175.out] at ho; have n0_ := Aside0.mk (hb); have n1_ := Aside0.mk (ho); clear HB; clear HO_5; have HB := n0_; have HO177 := n1_; clear n0_ n1_; clear ho hb hg hat))
        go_roundg k1
        case measure => have := HK1.out; omega
        case rel => exact ⟨(y175), (true), (wrap64 (x7_1 + 1)), (by first | rfl | (simp; done) | (simp [*]; done)), (by first | rfl | (simp; done) | (simp [*]; done)), H', ⟨by have := HK1.out; omega⟩, ⟨by (with_reducible repeat (first | apply Kd.R_alloc | apply Kd.R_drewN | apply Kd.R_drew)); exact HO177.out⟩, ⟨by repeat (first | (with_reducible first | exact HB.out | apply below_alloc | apply pw_below_drewN | apply below_drew1) | exact HB.out)⟩⟩
       ·rw [if_neg c9] at H
        exact absurd H (by simp)
      ·replace c8 := Bool.eq_false_iff.mpr c8
       subst c8
       have H1 : (if x5_1.length < 140737488355328 then (soukref01_minus.l0 k1 l0 l1 (x5_1 ++ [false]) false (wrap64 (x7_1 + 1))) else (none)) = some r := by rw [if_neg (show ¬ (false = true) by decide)] at H; exact H
       clear H
       have H := H1
       clear H1
       by_cases c11 : x5_1.length < 140737488355328
       ·rw [if_pos c11] at H
        have LMc11 := Aside0.mk c11
        clear c11
        obtain ⟨y178, hy178⟩ : ∃ y_ : List Bool, y_ = (x5_1 ++ [false]) := ⟨_, rfl⟩
        replace H : (soukref01_minus.l0 k1 l0 l1 y178 false (wrap64 (x7_1 + 1))) = some r := by first | (rw [hy178]; with_reducible exact H) | (have H2_ := (Option.bind_some _ _).symm.trans H; rw [hy178]; with_reducible exact H2_) | (have H2_ := (Option.bind_some _ _).symm.trans H; with_reducible exact H2_) | with_reducible exact H | (rw [hy178]; exact H) | exact H
        have Ny178 := Aside0.mk hy178
        clear hy178
        have H' := Aside0.mk H
        clear H
        go_wp2_with (first | ((with_reducible refine gate_callee (f := 48) rfl ?_); refine goesL_ (some 18) rfl rfl Try.func48 (by kernel_rfl) rfl #[.slice A0 l0.length c0, .int .i64 x7_1] rfl (by (try simp only [List.map_toArray, List.map_cons, List.map_nil]); first | done | rfl | (simp only [List.length_drop, List.length_take]; rfl)) ?_; (with_reducible refine (soukref01_Wide_at.calls _ _ l0 x7_1 true _ ?side1 ?side2 A4.out).mono ?_); (case side1 => repeat (first | exact (Kd.C_below HR0.out HB.out) | (with_reducible refine Kd.C_alloc ?_ _) | (with_reducible refine Kd.C_drewN ?_ _) | (with_reducible refine Kd.C_drew ?_))); (case side2 => exact HC0.out); rintro e w' ⟨rfl, ⟨nd, rfl⟩⟩; refine ⟨_, rfl, ?_⟩) | ((with_reducible refine gate_callee (f := 48) rfl ?_); refine goesL_ (some 21) rfl rfl Try.func48 (by kernel_rfl) rfl #[.slice A1 l1.length c1, .int .i64 x7_1] rfl (by (try simp only [List.map_toArray, List.map_cons, List.map_nil]); first | done | rfl | (simp only [List.length_drop, List.length_take]; rfl)) ?_; (with_reducible refine (soukref01_Wide_at.calls _ _ l1 x7_1 true _ ?side1 ?side2 A5.out).mono ?_); (case side1 => repeat (first | exact (Kd.C_below HR1.out (by repeat (first | (with_reducible first | exact HB.out | apply below_alloc | apply pw_below_drewN | apply below_drew1) | exact HB.out))) | (with_reducible refine Kd.C_alloc ?_ _) | (with_reducible refine Kd.C_drewN ?_ _) | (with_reducible refine Kd.C_drew ?_))); (case side2 => exact HC1.out); rintro e w' ⟨rfl, ⟨nd, rfl⟩⟩; refine ⟨_, rfl, ?_⟩) | ((with_reducible refine gate_builtin (b := .append) (xs := #[.tmp 22, .tmp 28]) rfl ?_); at_builtin; refine Kd.R_append Kd.bool (w0 := w) w.heap.size rfl (.tmp 22) (.tmp 28) 87 4 (.bool false) 1 rfl Try.underlying87 info4 rfl (by decide) (by omega) u5 x5_1 false [.bool false] (fun _ => True) (fun _ => False) rfl rfl ?aP (fun _ hk => hk.elim) ?aF ?aO ?aB ?aS ?aL ?_; (case aP => exact rfl); (case aB => exact (by repeat (first | (with_reducible first | exact HB.out | apply below_alloc | apply pw_below_drewN | apply below_drew1) | exact HB.out))); (case aF => exact (fun _ _ => trivial)); (case aO => exact (by (with_reducible repeat (first | apply Kd.R_alloc | apply Kd.R_drewN | apply Kd.R_drew)); exact HO_5.out)); (case aS => exact (below_size (by repeat (first | (with_reducible first | exact HB.out | apply below_alloc | apply pw_below_drewN | apply below_drew1) | exact HB.out)))); (case aL => have := LMc11.out; omega); intro v179 w12 ho hb hg hat; rw [← Ny178.out] at ho; have n0_ := Aside0.mk (hb); have n1_ := Aside0.mk (ho); clear HB; clear HO_5; have HB := n0_; have HO180 := n1_; clear n0_ n1_; clear ho hb hg hat))
        go_roundg k1
        case measure => have := HK1.out; omega
        case rel => exact ⟨(y178), (false), (wrap64 (x7_1 + 1)), (by first | rfl | (simp; done) | (simp [*]; done)), (by first | rfl | (simp; done) | (simp [*]; done)), H', ⟨by have := HK1.out; omega⟩, ⟨by (with_reducible repeat (first | apply Kd.R_alloc | apply Kd.R_drewN | apply Kd.R_drew)); exact HO180.out⟩, ⟨by repeat (first | (with_reducible first | exact HB.out | apply below_alloc | apply pw_below_drewN | apply below_drew1) | exact HB.out)⟩⟩
       ·rw [if_neg c11] at H
        exact absurd H (by simp)
     ·replace c7 := Bool.eq_false_iff.mpr c7
      subst c7
      have H1 : (if x6_1 = true then (if x5_1.length < 140737488355328 then (soukref01_minus.l0 k1 l0 l1 (x5_1 ++ [false]) false (wrap64 (x7_1 + 1))) else (none)) else (if x5_1.length < 140737488355328 then (soukref01_minus.l0 k1 l0 l1 (x5_1 ++ [true]) false (wrap64 (x7_1 + 1))) else (none))) = some r := by rw [if_neg (show ¬ (false = true) by decide)] at H; exact H
      clear H
      have H := H1
      clear H1
      by_cases c13 : x6_1 = true
      ·subst c13
       have H1 : (if x5_1.length < 140737488355328 then (soukref01_minus.l0 k1 l0 l1 (x5_1 ++ [false]) false (wrap64 (x7_1 + 1))) else (none)) = some r := by rw [if_pos rfl] at H; exact H
       clear H
       have H := H1
       clear H1
       by_cases c14 : x5_1.length < 140737488355328
       ·rw [if_pos c14] at H
        have LMc14 := Aside0.mk c14
        clear c14
        obtain ⟨y181, hy181⟩ : ∃ y_ : List Bool, y_ = (x5_1 ++ [false]) := ⟨_, rfl⟩
        replace H : (soukref01_minus.l0 k1 l0 l1 y181 false (wrap64 (x7_1 + 1))) = some r := by first | (rw [hy181]; with_reducible exact H) | (have H2_ := (Option.bind_some _ _).symm.trans H; rw [hy181]; with_reducible exact H2_) | (have H2_ := (Option.bind_some _ _).symm.trans H; with_reducible exact H2_) | with_reducible exact H | (rw [hy181]; exact H) | exact H
        have Ny181 := Aside0.mk hy181
        clear hy181
        have H' := Aside0.mk H
        clear H
        go_wp2_with (first | ((with_reducible refine gate_callee (f := 48) rfl ?_); refine goesL_ (some 18) rfl rfl Try.func48 (by kernel_rfl) rfl #[.slice A0 l0.length c0, .int .i64 x7_1] rfl (by (try simp only [List.map_toArray, List.map_cons, List.map_nil]); first | done | rfl | (simp only [List.length_drop, List.length_take]; rfl)) ?_; (with_reducible refine (soukref01_Wide_at.calls _ _ l0 x7_1 true _ ?side1 ?side2 A4.out).mono ?_); (case side1 => repeat (first | exact (Kd.C_below HR0.out HB.out) | (with_reducible refine Kd.C_alloc ?_ _) | (with_reducible refine Kd.C_drewN ?_ _) | (with_reducible refine Kd.C_drew ?_))); (case side2 => exact HC0.out); rintro e w' ⟨rfl, ⟨nd, rfl⟩⟩; refine ⟨_, rfl, ?_⟩) | ((with_reducible refine gate_callee (f := 48) rfl ?_); refine goesL_ (some 21) rfl rfl Try.func48 (by kernel_rfl) rfl #[.slice A1 l1.length c1, .int .i64 x7_1] rfl (by (try simp only [List.map_toArray, List.map_cons, List.map_nil]); first | done | rfl | (simp only [List.length_drop, List.length_take]; rfl)) ?_; (with_reducible refine (soukref01_Wide_at.calls _ _ l1 x7_1 false _ ?side1 ?side2 A5.out).mono ?_); (case side1 => repeat (first | exact (Kd.C_below HR1.out (by repeat (first | (with_reducible first | exact HB.out | apply below_alloc | apply pw_below_drewN | apply below_drew1) | exact HB.out))) | (with_reducible refine Kd.C_alloc ?_ _) | (with_reducible refine Kd.C_drewN ?_ _) | (with_reducible refine Kd.C_drew ?_))); (case side2 => exact HC1.out); rintro e w' ⟨rfl, ⟨nd, rfl⟩⟩; refine ⟨_, rfl, ?_⟩) | ((with_reducible refine gate_builtin (b := .append) (xs := #[.tmp 22, .tmp 28]) rfl ?_); at_builtin; refine Kd.R_append Kd.bool (w0 := w) w.heap.size rfl (.tmp 22) (.tmp 28) 87 4 (.bool false) 1 rfl Try.underlying87 info4 rfl (by decide) (by omega) u5 x5_1 false [.bool false] (fun _ => True) (fun _ => False) rfl rfl ?aP (fun _ hk => hk.elim) ?aF ?aO ?aB ?aS ?aL ?_; (case aP => exact rfl); (case aB => exact (by repeat (first | (with_reducible first | exact HB.out | apply below_alloc | apply pw_below_drewN | apply below_drew1) | exact HB.out))); (case aF => exact (fun _ _ => trivial)); (case aO => exact (by (with_reducible repeat (first | apply Kd.R_alloc | apply Kd.R_drewN | apply Kd.R_drew)); exact HO_5.out)); (case aS => exact (below_size (by repeat (first | (with_reducible first | exact HB.out | apply below_alloc | apply pw_below_drewN | apply below_drew1) | exact HB.out)))); (case aL => have := LMc14.out; omega); intro v182 w15 ho hb hg hat; rw [← Ny181.out] at ho; have n0_ := Aside0.mk (hb); have n1_ := Aside0.mk (ho); clear HB; clear HO_5; have HB := n0_; have HO183 := n1_; clear n0_ n1_; clear ho hb hg hat))
        go_roundg k1
        case measure => have := HK1.out; omega
        case rel => exact ⟨(y181), (false), (wrap64 (x7_1 + 1)), (by first | rfl | (simp; done) | (simp [*]; done)), (by first | rfl | (simp; done) | (simp [*]; done)), H', ⟨by have := HK1.out; omega⟩, ⟨by (with_reducible repeat (first | apply Kd.R_alloc | apply Kd.R_drewN | apply Kd.R_drew)); exact HO183.out⟩, ⟨by repeat (first | (with_reducible first | exact HB.out | apply below_alloc | apply pw_below_drewN | apply below_drew1) | exact HB.out)⟩⟩
       ·rw [if_neg c14] at H
        exact absurd H (by simp)
      ·replace c13 := Bool.eq_false_iff.mpr c13
       subst c13
       have H1 : (if x5_1.length < 140737488355328 then (soukref01_minus.l0 k1 l0 l1 (x5_1 ++ [true]) false (wrap64 (x7_1 + 1))) else (none)) = some r := by rw [if_neg (show ¬ (false = true) by decide)] at H; exact H
       clear H
       have H := H1
       clear H1
       by_cases c16 : x5_1.length < 140737488355328
       ·rw [if_pos c16] at H
        have LMc16 := Aside0.mk c16
        clear c16
        obtain ⟨y184, hy184⟩ : ∃ y_ : List Bool, y_ = (x5_1 ++ [true]) := ⟨_, rfl⟩
        replace H : (soukref01_minus.l0 k1 l0 l1 y184 false (wrap64 (x7_1 + 1))) = some r := by first | (rw [hy184]; with_reducible exact H) | (have H2_ := (Option.bind_some _ _).symm.trans H; rw [hy184]; with_reducible exact H2_) | (have H2_ := (Option.bind_some _ _).symm.trans H; with_reducible exact H2_) | with_reducible exact H | (rw [hy184]; exact H) | exact H
        have Ny184 := Aside0.mk hy184
        clear hy184
        have H' := Aside0.mk H
        clear H
        go_wp2_with (first | ((with_reducible refine gate_callee (f := 48) rfl ?_); refine goesL_ (some 18) rfl rfl Try.func48 (by kernel_rfl) rfl #[.slice A0 l0.length c0, .int .i64 x7_1] rfl (by (try simp only [List.map_toArray, List.map_cons, List.map_nil]); first | done | rfl | (simp only [List.length_drop, List.length_take]; rfl)) ?_; (with_reducible refine (soukref01_Wide_at.calls _ _ l0 x7_1 true _ ?side1 ?side2 A4.out).mono ?_); (case side1 => repeat (first | exact (Kd.C_below HR0.out HB.out) | (with_reducible refine Kd.C_alloc ?_ _) | (with_reducible refine Kd.C_drewN ?_ _) | (with_reducible refine Kd.C_drew ?_))); (case side2 => exact HC0.out); rintro e w' ⟨rfl, ⟨nd, rfl⟩⟩; refine ⟨_, rfl, ?_⟩) | ((with_reducible refine gate_callee (f := 48) rfl ?_); refine goesL_ (some 21) rfl rfl Try.func48 (by kernel_rfl) rfl #[.slice A1 l1.length c1, .int .i64 x7_1] rfl (by (try simp only [List.map_toArray, List.map_cons, List.map_nil]); first | done | rfl | (simp only [List.length_drop, List.length_take]; rfl)) ?_; (with_reducible refine (soukref01_Wide_at.calls _ _ l1 x7_1 false _ ?side1 ?side2 A5.out).mono ?_); (case side1 => repeat (first | exact (Kd.C_below HR1.out (by repeat (first | (with_reducible first | exact HB.out | apply below_alloc | apply pw_below_drewN | apply below_drew1) | exact HB.out))) | (with_reducible refine Kd.C_alloc ?_ _) | (with_reducible refine Kd.C_drewN ?_ _) | (with_reducible refine Kd.C_drew ?_))); (case side2 => exact HC1.out); rintro e w' ⟨rfl, ⟨nd, rfl⟩⟩; refine ⟨_, rfl, ?_⟩) | ((with_reducible refine gate_builtin (b := .append) (xs := #[.tmp 22, .tmp 28]) rfl ?_); at_builtin; refine Kd.R_append Kd.bool (w0 := w) w.heap.size rfl (.tmp 22) (.tmp 28) 87 4 (.bool false) 1 rfl Try.underlying87 info4 rfl (by decide) (by omega) u5 x5_1 true [.bool true] (fun _ => True) (fun _ => False) rfl rfl ?aP (fun _ hk => hk.elim) ?aF ?aO ?aB ?aS ?aL ?_; (case aP => exact rfl); (case aB => exact (by repeat (first | (with_reducible first | exact HB.out | apply below_alloc | apply pw_below_drewN | apply below_drew1) | exact HB.out))); (case aF => exact (fun _ _ => trivial)); (case aO => exact (by (with_reducible repeat (first | apply Kd.R_alloc | apply Kd.R_drewN | apply Kd.R_drew)); exact HO_5.out)); (case aS => exact (below_size (by repeat (first | (with_reducible first | exact HB.out | apply below_alloc | apply pw_below_drewN | apply below_drew1) | exact HB.out)))); (case aL => have := LMc16.out; omega); intro v185 w17 ho hb hg hat; rw [← Ny184.out] at ho; have n0_ := Aside0.mk (hb); have n1_ := Aside0.mk (ho); clear HB; clear HO_5; have HB := n0_; have HO186 := n1_; clear n0_ n1_; clear ho hb hg hat))
        go_roundg k1
        case measure => have := HK1.out; omega
        case rel => exact ⟨(y184), (false), (wrap64 (x7_1 + 1)), (by first | rfl | (simp; done) | (simp [*]; done)), (by first | rfl | (simp; done) | (simp [*]; done)), H', ⟨by have := HK1.out; omega⟩, ⟨by (with_reducible repeat (first | apply Kd.R_alloc | apply Kd.R_drewN | apply Kd.R_drew)); exact HO186.out⟩, ⟨by repeat (first | (with_reducible first | exact HB.out | apply below_alloc | apply pw_below_drewN | apply below_drew1) | exact HB.out)⟩⟩
       ·rw [if_neg c16] at H
        exact absurd H (by simp)
    ·replace c6 := Bool.eq_false_iff.mpr c6
     subst c6
     have H1 : (if t174 = true then (if x6_1 = true then (if x5_1.length < 140737488355328 then (soukref01_minus.l0 k1 l0 l1 (x5_1 ++ [false]) true (wrap64 (x7_1 + 1))) else (none)) else (if x5_1.length < 140737488355328 then (soukref01_minus.l0 k1 l0 l1 (x5_1 ++ [true]) true (wrap64 (x7_1 + 1))) else (none))) else (if x6_1 = true then (if x5_1.length < 140737488355328 then (soukref01_minus.l0 k1 l0 l1 (x5_1 ++ [true]) true (wrap64 (x7_1 + 1))) else (none)) else (if x5_1.length < 140737488355328 then (soukref01_minus.l0 k1 l0 l1 (x5_1 ++ [false]) false (wrap64 (x7_1 + 1))) else (none)))) = some r := by rw [if_neg (show ¬ (false = true) by decide)] at H; exact H
     clear H
     have H := H1
     clear H1
     by_cases c18 : t174 = true
     ·subst c18
      have H1 : (if x6_1 = true then (if x5_1.length < 140737488355328 then (soukref01_minus.l0 k1 l0 l1 (x5_1 ++ [false]) true (wrap64 (x7_1 + 1))) else (none)) else (if x5_1.length < 140737488355328 then (soukref01_minus.l0 k1 l0 l1 (x5_1 ++ [true]) true (wrap64 (x7_1 + 1))) else (none))) = some r := by rw [if_pos rfl] at H; exact H
      clear H
      have H := H1
      clear H1
      by_cases c19 : x6_1 = true
      ·subst c19
       have H1 : (if x5_1.length < 140737488355328 then (soukref01_minus.l0 k1 l0 l1 (x5_1 ++ [false]) true (wrap64 (x7_1 + 1))) else (none)) = some r := by rw [if_pos rfl] at H; exact H
       clear H
       have H := H1
       clear H1
       by_cases c20 : x5_1.length < 140737488355328
       ·rw [if_pos c20] at H
        have LMc20 := Aside0.mk c20
        clear c20
        obtain ⟨y187, hy187⟩ : ∃ y_ : List Bool, y_ = (x5_1 ++ [false]) := ⟨_, rfl⟩
        replace H : (soukref01_minus.l0 k1 l0 l1 y187 true (wrap64 (x7_1 + 1))) = some r := by first | (rw [hy187]; with_reducible exact H) | (have H2_ := (Option.bind_some _ _).symm.trans H; rw [hy187]; with_reducible exact H2_) | (have H2_ := (Option.bind_some _ _).symm.trans H; with_reducible exact H2_) | with_reducible exact H | (rw [hy187]; exact H) | exact H
        have Ny187 := Aside0.mk hy187
        clear hy187
        have H' := Aside0.mk H
        clear H
        go_wp2_with (first | ((with_reducible refine gate_callee (f := 48) rfl ?_); refine goesL_ (some 18) rfl rfl Try.func48 (by kernel_rfl) rfl #[.slice A0 l0.length c0, .int .i64 x7_1] rfl (by (try simp only [List.map_toArray, List.map_cons, List.map_nil]); first | done | rfl | (simp only [List.length_drop, List.length_take]; rfl)) ?_; (with_reducible refine (soukref01_Wide_at.calls _ _ l0 x7_1 false _ ?side1 ?side2 A4.out).mono ?_); (case side1 => repeat (first | exact (Kd.C_below HR0.out HB.out) | (with_reducible refine Kd.C_alloc ?_ _) | (with_reducible refine Kd.C_drewN ?_ _) | (with_reducible refine Kd.C_drew ?_))); (case side2 => exact HC0.out); rintro e w' ⟨rfl, ⟨nd, rfl⟩⟩; refine ⟨_, rfl, ?_⟩) | ((with_reducible refine gate_callee (f := 48) rfl ?_); refine goesL_ (some 21) rfl rfl Try.func48 (by kernel_rfl) rfl #[.slice A1 l1.length c1, .int .i64 x7_1] rfl (by (try simp only [List.map_toArray, List.map_cons, List.map_nil]); first | done | rfl | (simp only [List.length_drop, List.length_take]; rfl)) ?_; (with_reducible refine (soukref01_Wide_at.calls _ _ l1 x7_1 true _ ?side1 ?side2 A5.out).mono ?_); (case side1 => repeat (first | exact (Kd.C_below HR1.out (by repeat (first | (with_reducible first | exact HB.out | apply below_alloc | apply pw_below_drewN | apply below_drew1) | exact HB.out))) | (with_reducible refine Kd.C_alloc ?_ _) | (with_reducible refine Kd.C_drewN ?_ _) | (with_reducible refine Kd.C_drew ?_))); (case side2 => exact HC1.out); rintro e w' ⟨rfl, ⟨nd, rfl⟩⟩; refine ⟨_, rfl, ?_⟩) | ((with_reducible refine gate_builtin (b := .append) (xs := #[.tmp 22, .tmp 28]) rfl ?_); at_builtin; refine Kd.R_append Kd.bool (w0 := w) w.heap.size rfl (.tmp 22) (.tmp 28) 87 4 (.bool false) 1 rfl Try.underlying87 info4 rfl (by decide) (by omega) u5 x5_1 false [.bool false] (fun _ => True) (fun _ => False) rfl rfl ?aP (fun _ hk => hk.elim) ?aF ?aO ?aB ?aS ?aL ?_; (case aP => exact rfl); (case aB => exact (by repeat (first | (with_reducible first | exact HB.out | apply below_alloc | apply pw_below_drewN | apply below_drew1) | exact HB.out))); (case aF => exact (fun _ _ => trivial)); (case aO => exact (by (with_reducible repeat (first | apply Kd.R_alloc | apply Kd.R_drewN | apply Kd.R_drew)); exact HO_5.out)); (case aS => exact (below_size (by repeat (first | (with_reducible first | exact HB.out | apply below_alloc | apply pw_below_drewN | apply below_drew1) | exact HB.out)))); (case aL => have := LMc20.out; omega); intro v188 w21 ho hb hg hat; rw [← Ny187.out] at ho; have n0_ := Aside0.mk (hb); have n1_ := Aside0.mk (ho); clear HB; clear HO_5; have HB := n0_; have HO189 := n1_; clear n0_ n1_; clear ho hb hg hat))
        go_roundg k1
        case measure => have := HK1.out; omega
        case rel => exact ⟨(y187), (true), (wrap64 (x7_1 + 1)), (by first | rfl | (simp; done) | (simp [*]; done)), (by first | rfl | (simp; done) | (simp [*]; done)), H', ⟨by have := HK1.out; omega⟩, ⟨by (with_reducible repeat (first | apply Kd.R_alloc | apply Kd.R_drewN | apply Kd.R_drew)); exact HO189.out⟩, ⟨by repeat (first | (with_reducible first | exact HB.out | apply below_alloc | apply pw_below_drewN | apply below_drew1) | exact HB.out)⟩⟩
       ·rw [if_neg c20] at H
        exact absurd H (by simp)
      ·replace c19 := Bool.eq_false_iff.mpr c19
       subst c19
       have H1 : (if x5_1.length < 140737488355328 then (soukref01_minus.l0 k1 l0 l1 (x5_1 ++ [true]) true (wrap64 (x7_1 + 1))) else (none)) = some r := by rw [if_neg (show ¬ (false = true) by decide)] at H; exact H
       clear H
       have H := H1
       clear H1
       by_cases c22 : x5_1.length < 140737488355328
       ·rw [if_pos c22] at H
        have LMc22 := Aside0.mk c22
        clear c22
        obtain ⟨y190, hy190⟩ : ∃ y_ : List Bool, y_ = (x5_1 ++ [true]) := ⟨_, rfl⟩
        replace H : (soukref01_minus.l0 k1 l0 l1 y190 true (wrap64 (x7_1 + 1))) = some r := by first | (rw [hy190]; with_reducible exact H) | (have H2_ := (Option.bind_some _ _).symm.trans H; rw [hy190]; with_reducible exact H2_) | (have H2_ := (Option.bind_some _ _).symm.trans H; with_reducible exact H2_) | with_reducible exact H | (rw [hy190]; exact H) | exact H
        have Ny190 := Aside0.mk hy190
        clear hy190
        have H' := Aside0.mk H
        clear H
        go_wp2_with (first | ((with_reducible refine gate_callee (f := 48) rfl ?_); refine goesL_ (some 18) rfl rfl Try.func48 (by kernel_rfl) rfl #[.slice A0 l0.length c0, .int .i64 x7_1] rfl (by (try simp only [List.map_toArray, List.map_cons, List.map_nil]); first | done | rfl | (simp only [List.length_drop, List.length_take]; rfl)) ?_; (with_reducible refine (soukref01_Wide_at.calls _ _ l0 x7_1 false _ ?side1 ?side2 A4.out).mono ?_); (case side1 => repeat (first | exact (Kd.C_below HR0.out HB.out) | (with_reducible refine Kd.C_alloc ?_ _) | (with_reducible refine Kd.C_drewN ?_ _) | (with_reducible refine Kd.C_drew ?_))); (case side2 => exact HC0.out); rintro e w' ⟨rfl, ⟨nd, rfl⟩⟩; refine ⟨_, rfl, ?_⟩) | ((with_reducible refine gate_callee (f := 48) rfl ?_); refine goesL_ (some 21) rfl rfl Try.func48 (by kernel_rfl) rfl #[.slice A1 l1.length c1, .int .i64 x7_1] rfl (by (try simp only [List.map_toArray, List.map_cons, List.map_nil]); first | done | rfl | (simp only [List.length_drop, List.length_take]; rfl)) ?_; (with_reducible refine (soukref01_Wide_at.calls _ _ l1 x7_1 true _ ?side1 ?side2 A5.out).mono ?_); (case side1 => repeat (first | exact (Kd.C_below HR1.out (by repeat (first | (with_reducible first | exact HB.out | apply below_alloc | apply pw_below_drewN | apply below_drew1) | exact HB.out))) | (with_reducible refine Kd.C_alloc ?_ _) | (with_reducible refine Kd.C_drewN ?_ _) | (with_reducible refine Kd.C_drew ?_))); (case side2 => exact HC1.out); rintro e w' ⟨rfl, ⟨nd, rfl⟩⟩; refine ⟨_, rfl, ?_⟩) | ((with_reducible refine gate_builtin (b := .append) (xs := #[.tmp 22, .tmp 28]) rfl ?_); at_builtin; refine Kd.R_append Kd.bool (w0 := w) w.heap.size rfl (.tmp 22) (.tmp 28) 87 4 (.bool false) 1 rfl Try.underlying87 info4 rfl (by decide) (by omega) u5 x5_1 true [.bool true] (fun _ => True) (fun _ => False) rfl rfl ?aP (fun _ hk => hk.elim) ?aF ?aO ?aB ?aS ?aL ?_; (case aP => exact rfl); (case aB => exact (by repeat (first | (with_reducible first | exact HB.out | apply below_alloc | apply pw_below_drewN | apply below_drew1) | exact HB.out))); (case aF => exact (fun _ _ => trivial)); (case aO => exact (by (with_reducible repeat (first | apply Kd.R_alloc | apply Kd.R_drewN | apply Kd.R_drew)); exact HO_5.out)); (case aS => exact (below_size (by repeat (first | (with_reducible first | exact HB.out | apply below_alloc | apply pw_below_drewN | apply below_drew1) | exact HB.out)))); (case aL => have := LMc22.out; omega); intro v191 w23 ho hb hg hat; rw [← Ny190.out] at ho; have n0_ := Aside0.mk (hb); have n1_ := Aside0.mk (ho); clear HB; clear HO_5; have HB := n0_; have HO192 := n1_; clear n0_ n1_; clear ho hb hg hat))
        go_roundg k1
        case measure => have := HK1.out; omega
        case rel => exact ⟨(y190), (true), (wrap64 (x7_1 + 1)), (by first | rfl | (simp; done) | (simp [*]; done)), (by first | rfl | (simp; done) | (simp [*]; done)), H', ⟨by have := HK1.out; omega⟩, ⟨by (with_reducible repeat (first | apply Kd.R_alloc | apply Kd.R_drewN | apply Kd.R_drew)); exact HO192.out⟩, ⟨by repeat (first | (with_reducible first | exact HB.out | apply below_alloc | apply pw_below_drewN | apply below_drew1) | exact HB.out)⟩⟩
       ·rw [if_neg c22] at H
        exact absurd H (by simp)
     ·replace c18 := Bool.eq_false_iff.mpr c18
      subst c18
      have H1 : (if x6_1 = true then (if x5_1.length < 140737488355328 then (soukref01_minus.l0 k1 l0 l1 (x5_1 ++ [true]) true (wrap64 (x7_1 + 1))) else (none)) else (if x5_1.length < 140737488355328 then (soukref01_minus.l0 k1 l0 l1 (x5_1 ++ [false]) false (wrap64 (x7_1 + 1))) else (none))) = some r := by rw [if_neg (show ¬ (false = true) by decide)] at H; exact H
      clear H
      have H := H1
      clear H1
      by_cases c24 : x6_1 = true
      ·subst c24
       have H1 : (if x5_1.length < 140737488355328 then (soukref01_minus.l0 k1 l0 l1 (x5_1 ++ [true]) true (wrap64 (x7_1 + 1))) else (none)) = some r := by rw [if_pos rfl] at H; exact H
       clear H
       have H := H1
       clear H1
       by_cases c25 : x5_1.length < 140737488355328
       ·rw [if_pos c25] at H
        have LMc25 := Aside0.mk c25
        clear c25
        obtain ⟨y193, hy193⟩ : ∃ y_ : List Bool, y_ = (x5_1 ++ [true]) := ⟨_, rfl⟩
        replace H : (soukref01_minus.l0 k1 l0 l1 y193 true (wrap64 (x7_1 + 1))) = some r := by first | (rw [hy193]; with_reducible exact H) | (have H2_ := (Option.bind_some _ _).symm.trans H; rw [hy193]; with_reducible exact H2_) | (have H2_ := (Option.bind_some _ _).symm.trans H; with_reducible exact H2_) | with_reducible exact H | (rw [hy193]; exact H) | exact H
        have Ny193 := Aside0.mk hy193
        clear hy193
        have H' := Aside0.mk H
        clear H
        go_wp2_with (first | ((with_reducible refine gate_callee (f := 48) rfl ?_); refine goesL_ (some 18) rfl rfl Try.func48 (by kernel_rfl) rfl #[.slice A0 l0.length c0, .int .i64 x7_1] rfl (by (try simp only [List.map_toArray, List.map_cons, List.map_nil]); first | done | rfl | (simp only [List.length_drop, List.length_take]; rfl)) ?_; (with_reducible refine (soukref01_Wide_at.calls _ _ l0 x7_1 false _ ?side1 ?side2 A4.out).mono ?_); (case side1 => repeat (first | exact (Kd.C_below HR0.out HB.out) | (with_reducible refine Kd.C_alloc ?_ _) | (with_reducible refine Kd.C_drewN ?_ _) | (with_reducible refine Kd.C_drew ?_))); (case side2 => exact HC0.out); rintro e w' ⟨rfl, ⟨nd, rfl⟩⟩; refine ⟨_, rfl, ?_⟩) | ((with_reducible refine gate_callee (f := 48) rfl ?_); refine goesL_ (some 21) rfl rfl Try.func48 (by kernel_rfl) rfl #[.slice A1 l1.length c1, .int .i64 x7_1] rfl (by (try simp only [List.map_toArray, List.map_cons, List.map_nil]); first | done | rfl | (simp only [List.length_drop, List.length_take]; rfl)) ?_; (with_reducible refine (soukref01_Wide_at.calls _ _ l1 x7_1 false _ ?side1 ?side2 A5.out).mono ?_); (case side1 => repeat (first | exact (Kd.C_below HR1.out (by repeat (first | (with_reducible first | exact HB.out | apply below_alloc | apply pw_below_drewN | apply below_drew1) | exact HB.out))) | (with_reducible refine Kd.C_alloc ?_ _) | (with_reducible refine Kd.C_drewN ?_ _) | (with_reducible refine Kd.C_drew ?_))); (case side2 => exact HC1.out); rintro e w' ⟨rfl, ⟨nd, rfl⟩⟩; refine ⟨_, rfl, ?_⟩) | ((with_reducible refine gate_builtin (b := .append) (xs := #[.tmp 22, .tmp 28]) rfl ?_); at_builtin; refine Kd.R_append Kd.bool (w0 := w) w.heap.size rfl (.tmp 22) (.tmp 28) 87 4 (.bool false) 1 rfl Try.underlying87 info4 rfl (by decide) (by omega) u5 x5_1 true [.bool true] (fun _ => True) (fun _ => False) rfl rfl ?aP (fun _ hk => hk.elim) ?aF ?aO ?aB ?aS ?aL ?_; (case aP => exact rfl); (case aB => exact (by repeat (first | (with_reducible first | exact HB.out | apply below_alloc | apply pw_below_drewN | apply below_drew1) | exact HB.out))); (case aF => exact (fun _ _ => trivial)); (case aO => exact (by (with_reducible repeat (first | apply Kd.R_alloc | apply Kd.R_drewN | apply Kd.R_drew)); exact HO_5.out)); (case aS => exact (below_size (by repeat (first | (with_reducible first | exact HB.out | apply below_alloc | apply pw_below_drewN | apply below_drew1) | exact HB.out)))); (case aL => have := LMc25.out; omega); intro v194 w26 ho hb hg hat; rw [← Ny193.out] at ho; have n0_ := Aside0.mk (hb); have n1_ := Aside0.mk (ho); clear HB; clear HO_5; have HB := n0_; have HO195 := n1_; clear n0_ n1_; clear ho hb hg hat))
        go_roundg k1
        case measure => have := HK1.out; omega
        case rel => exact ⟨(y193), (true), (wrap64 (x7_1 + 1)), (by first | rfl | (simp; done) | (simp [*]; done)), (by first | rfl | (simp; done) | (simp [*]; done)), H', ⟨by have := HK1.out; omega⟩, ⟨by (with_reducible repeat (first | apply Kd.R_alloc | apply Kd.R_drewN | apply Kd.R_drew)); exact HO195.out⟩, ⟨by repeat (first | (with_reducible first | exact HB.out | apply below_alloc | apply pw_below_drewN | apply below_drew1) | exact HB.out)⟩⟩
       ·rw [if_neg c25] at H
        exact absurd H (by simp)
      ·replace c24 := Bool.eq_false_iff.mpr c24
       subst c24
       have H1 : (if x5_1.length < 140737488355328 then (soukref01_minus.l0 k1 l0 l1 (x5_1 ++ [false]) false (wrap64 (x7_1 + 1))) else (none)) = some r := by rw [if_neg (show ¬ (false = true) by decide)] at H; exact H
       clear H
       have H := H1
       clear H1
       by_cases c27 : x5_1.length < 140737488355328
       ·rw [if_pos c27] at H
        have LMc27 := Aside0.mk c27
        clear c27
        obtain ⟨y196, hy196⟩ : ∃ y_ : List Bool, y_ = (x5_1 ++ [false]) := ⟨_, rfl⟩
        replace H : (soukref01_minus.l0 k1 l0 l1 y196 false (wrap64 (x7_1 + 1))) = some r := by first | (rw [hy196]; with_reducible exact H) | (have H2_ := (Option.bind_some _ _).symm.trans H; rw [hy196]; with_reducible exact H2_) | (have H2_ := (Option.bind_some _ _).symm.trans H; with_reducible exact H2_) | with_reducible exact H | (rw [hy196]; exact H) | exact H
        have Ny196 := Aside0.mk hy196
        clear hy196
        have H' := Aside0.mk H
        clear H
        go_wp2_with (first | ((with_reducible refine gate_callee (f := 48) rfl ?_); refine goesL_ (some 18) rfl rfl Try.func48 (by kernel_rfl) rfl #[.slice A0 l0.length c0, .int .i64 x7_1] rfl (by (try simp only [List.map_toArray, List.map_cons, List.map_nil]); first | done | rfl | (simp only [List.length_drop, List.length_take]; rfl)) ?_; (with_reducible refine (soukref01_Wide_at.calls _ _ l0 x7_1 false _ ?side1 ?side2 A4.out).mono ?_); (case side1 => repeat (first | exact (Kd.C_below HR0.out HB.out) | (with_reducible refine Kd.C_alloc ?_ _) | (with_reducible refine Kd.C_drewN ?_ _) | (with_reducible refine Kd.C_drew ?_))); (case side2 => exact HC0.out); rintro e w' ⟨rfl, ⟨nd, rfl⟩⟩; refine ⟨_, rfl, ?_⟩) | ((with_reducible refine gate_callee (f := 48) rfl ?_); refine goesL_ (some 21) rfl rfl Try.func48 (by kernel_rfl) rfl #[.slice A1 l1.length c1, .int .i64 x7_1] rfl (by (try simp only [List.map_toArray, List.map_cons, List.map_nil]); first | done | rfl | (simp only [List.length_drop, List.length_take]; rfl)) ?_; (with_reducible refine (soukref01_Wide_at.calls _ _ l1 x7_1 false _ ?side1 ?side2 A5.out).mono ?_); (case side1 => repeat (first | exact (Kd.C_below HR1.out (by repeat (first | (with_reducible first | exact HB.out | apply below_alloc | apply pw_below_drewN | apply below_drew1) | exact HB.out))) | (with_reducible refine Kd.C_alloc ?_ _) | (with_reducible refine Kd.C_drewN ?_ _) | (with_reducible refine Kd.C_drew ?_))); (case side2 => exact HC1.out); rintro e w' ⟨rfl, ⟨nd, rfl⟩⟩; refine ⟨_, rfl, ?_⟩) | ((with_reducible refine gate_builtin (b := .append) (xs := #[.tmp 22, .tmp 28]) rfl ?_); at_builtin; refine Kd.R_append Kd.bool (w0 := w) w.heap.size rfl (.tmp 22) (.tmp 28) 87 4 (.bool false) 1 rfl Try.underlying87 info4 rfl (by decide) (by omega) u5 x5_1 false [.bool false] (fun _ => True) (fun _ => False) rfl rfl ?aP (fun _ hk => hk.elim) ?aF ?aO ?aB ?aS ?aL ?_; (case aP => exact rfl); (case aB => exact (by repeat (first | (with_reducible first | exact HB.out | apply below_alloc | apply pw_below_drewN | apply below_drew1) | exact HB.out))); (case aF => exact (fun _ _ => trivial)); (case aO => exact (by (with_reducible repeat (first | apply Kd.R_alloc | apply Kd.R_drewN | apply Kd.R_drew)); exact HO_5.out)); (case aS => exact (below_size (by repeat (first | (with_reducible first | exact HB.out | apply below_alloc | apply pw_below_drewN | apply below_drew1) | exact HB.out)))); (case aL => have := LMc27.out; omega); intro v197 w28 ho hb hg hat; rw [← Ny196.out] at ho; have n0_ := Aside0.mk (hb); have n1_ := Aside0.mk (ho); clear HB; clear HO_5; have HB := n0_; have HO198 := n1_; clear n0_ n1_; clear ho hb hg hat))
        go_roundg k1
        case measure => have := HK1.out; omega
        case rel => exact ⟨(y196), (false), (wrap64 (x7_1 + 1)), (by first | rfl | (simp; done) | (simp [*]; done)), (by first | rfl | (simp; done) | (simp [*]; done)), H', ⟨by have := HK1.out; omega⟩, ⟨by (with_reducible repeat (first | apply Kd.R_alloc | apply Kd.R_drewN | apply Kd.R_drew)); exact HO198.out⟩, ⟨by repeat (first | (with_reducible first | exact HB.out | apply below_alloc | apply pw_below_drewN | apply below_drew1) | exact HB.out)⟩⟩
       ·rw [if_neg c27] at H
        exact absurd H (by simp)
   ·rw [if_neg c3] at H
    have c3b0 : decide (x7_1 < (l0.length : Int)) = false := decide_eq_false c3
    clear c3
    replace H := Option.bind_eq_some_iff.mp H
    obtain ⟨t199, A290, H⟩ := H
    replace H : (some t199) = some r := H
    have A29 := Aside0.mk A290
    clear A290
    obtain rfl := Option.some.inj H
    obtain ⟨Ao30, co30, eo30⟩ := Kd.R_slice HO_5.out
    subst eo30
    go_wp2_with (first | ((with_reducible refine gate_callee (f := 46) rfl ?_); refine goesL_ (some 45) rfl rfl Try.func46 (by kernel_rfl) rfl #[.slice Ao30 x5_1.length co30] rfl (by (try simp only [List.map_toArray, List.map_cons, List.map_nil]); first | done | rfl | (simp only [List.length_drop, List.length_take]; rfl)) ?_; (with_reducible refine (soukref01_trim.calls k1 (fun k_ => some k_ = (.slice Ao30 x5_1.length co30 : Value).ownBlock) (.slice Ao30 x5_1.length co30) x5_1 t199 w _ ?side1 ?side2 A29.out).mono ?_); (case side1 => repeat (first | (with_reducible first | exact HB.out | apply below_alloc | apply pw_below_drewN | apply below_drew1) | exact HB.out)); (case side2 => exact Kd.R_tight rfl HO_5.out); rintro e w31 ⟨v200, rfl, ho0, hb, hkp⟩; refine ⟨_, rfl, ?_⟩; have n0_ := Aside0.mk (Kd.R_mono (ok' := fun k_ => True) ho0 (fun k_ hk_ => trivial)); have n1_ := Aside0.mk (hb); clear HB; clear HO_5; have HO201 := n0_; have HB := n1_; clear n0_ n1_; (try clear hb); (try clear hkp); (try clear ho0)))
    go_ret
    exact ⟨_, by first | rfl | (simp [errW_none, errW_some] <;> rfl) | (simp [*, errW_none, errW_some] <;> rfl), by (with_reducible repeat (first | apply Kd.R_alloc | apply Kd.R_drewN | apply Kd.R_drew)); exact HO201.out, by repeat (first | (with_reducible first | exact HB.out | apply below_alloc | apply pw_below_drewN | apply below_drew1) | exact HB.out)⟩
end Go.Proofs.Ytncnhhnbjmpomaa.Q
