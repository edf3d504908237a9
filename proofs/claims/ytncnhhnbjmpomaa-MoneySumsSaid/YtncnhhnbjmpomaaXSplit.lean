/- money.Split, as the print asks for it (fewer than 20 weights). -/
import Derived.Test.YtncnhhnbjmpomaaPSpm
import Derived.Test.YtncnhhnbjmpomaaPDiv
import Derived.Test.YtncnhhnbjmpomaaXCont
import Derived.Test.YtncnhhnbjmpomaaShelf
namespace Go.Proofs.Ytncnhhnbjmpomaa
open Go.RowKit Go.Proofs.Ytncnhhnbjmpomaa.Q Go.Proofs.Kq
open Go.Proofs.YtncnhhnbjmpomaaW.PrintWords (pw_cell_below step_append_cells print_append_cells Kd Kd.C Kd.C_below Drawn0 encs encs_length encs_append)
set_option linter.unusedVariables false
set_option linter.unusedSimpArgs false
theorem C_drewN {k : IntKind} {w : World} {A : Option Addr} {m : Nat} {xs : List Int} (h : Kd.C (Kd.int k) w A m xs) (n : Nat) : Kd.C (Kd.int k) (w.drewN n) A m xs := Kd.C_below h (by have := Below.refl w.heap.size w; exact ⟨this.os, this.tape, this.output, this.size, this.block⟩)
def SplitP (t : Int) (ws : List Int) (w : World) (e : Ending) (w' : World) : Prop :=
  ∃ v : Value, e = .returned (.tuple #[v, .int .i64 (splitF t ws).2]) ∧ w'.ownsRow w.heap.size 2 1 v (splitF t ws).1.length (encs (Value.int .i64) (splitF t ws).1) ∧ Below w.heap.size w w'
theorem below_drN (w : World) (n : Nat) : Below w.heap.size w (w.drewN n) := ⟨rfl, rfl, rfl, Nat.le_refl _, fun _ _ => rfl⟩
set_option maxRecDepth 100000 in
set_option maxHeartbeats 4000000 in
theorem split_bad (t : Int) (A0 : Option Addr) (c0 : Nat) (ws : List Int) (w : World) (hr0 : Kd.C (Kd.int .i64) w A0 ws.length ws) (hc0 : ws.length ≤ c0) (h20 : ws.length < 20) (hw : ∀ x ∈ ws, inR x) (ht : inR t)
    (hbad : t < 0 ∨ ws.any (fun n => decide (n < 0)) = true) : Calls Try.prog 20 #[.int .i64 t, .slice A0 ws.length c0] w (SplitP t ws w) := by
  obtain ⟨m, hm⟩ := add_ok ws hw (by omega)
  obtain ⟨a, ha⟩ : ∃ a, addF 0 ws = a := ⟨_, rfl⟩
  have H1 := hidI (fun w hr => money_Add.calls (0 + m) A0 c0 ws a.1 a.2 w hr hc0 (by rw [hm 0, ha]))
  have H2 := hidI (fun w hr => slices_ContainsFunc_int64_int64.calls A0 c0 ws 50 (ws.any (fun n => decide (n < 0))) w hr hc0 (by unfold slices_ContainsFunc_int64_int64.f; rw [if_pos ⟨.inl rfl, by omega⟩]))
  have HR := hidI hr0
  have HS : Hid (splitF t ws = ([], 1)) := by
    show _ = _
    unfold splitF
    rcases hbad with h | h
    · rw [if_pos h]
    · by_cases h1 : t < 0
      · rw [if_pos h1]
      · rw [if_neg h1, if_pos h]
  have HF : Hid (∀ n, SplitP t ws w (.returned (.tuple #[.slice none 0 0, .int .i64 1])) (w.drewN n)) := fun n => ⟨.slice none 0 0, by rw [HS.out], by rw [HS.out]; exact ⟨rfl, .inl ⟨rfl, rfl⟩⟩, below_drN w n⟩
  clear hr0 hm ha HS
  by_cases htn : t < 0
  · clear hbad H2
    go_enter Try.func20, Try.ntmps20
    go_wp2_with fail
    refine (H1.out _ HR.out).mono ?_
    rintro e w' ⟨rfl, ⟨n, rfl⟩⟩
    simp only []
    go_wp2
    go_ret2
    exact HF.out n
  · have hany := hbad.resolve_left htn
    clear hbad
    go_enter Try.func20, Try.ntmps20
    go_wp2_with fail
    refine (H1.out _ HR.out).mono ?_
    rintro e w' ⟨rfl, ⟨n, rfl⟩⟩
    simp only []
    go_wp2_with fail
    refine (H2.out _ (C_drewN HR.out n)).mono ?_
    rintro e w' ⟨rfl, ⟨n2, rfl⟩⟩
    rw [hany]
    simp only []
    go_wp2
    go_ret2
    exact HF.out (n + n2)
theorem info98 : (Try.prog.info? 98).map (fun i => (i.zero, i.size, i.bytes)) = some (some (.agg #[.int .i64 0, .int .u64 0]), 2, 16) := by kernel_rfl
theorem sum_take_le : ∀ (l : List Int) (k : Nat), (∀ x ∈ l, 0 ≤ x) → 0 ≤ (l.take k).sum ∧ (l.take k).sum ≤ l.sum
  | [], k, _ => by simp
  | x :: l, 0, h => by
    have := sum_nn (x :: l) h
    simp at this ⊢; omega
  | x :: l, k + 1, h => by
    have := sum_take_le l k (fun y hy => h y (by simp [hy]))
    have h1 := h x (by simp)
    simp; omega
theorem left_take (t : Int) (ws : List Int) (k : Nat) (ht : 0 ≤ t) (hw : ∀ x ∈ ws, 0 ≤ x) (ha : 0 < ws.sum) : 0 ≤ leftF t ws.sum (ws.take k) ∧ leftF t ws.sum (ws.take k) ≤ t := by
  have h1 := (left_bd t ws ht hw ha).1
  have hq : ∀ x ∈ quosF t ws.sum ws, 0 ≤ x := by
    intro x hx
    obtain ⟨y, hy, rfl⟩ := List.mem_map.1 hx
    exact (quo_bd ht (hw y hy) (mem_le_sum ws hw y hy) ha).1
  have h2 := sum_take_le (quosF t ws.sum ws) k hq
  have e : (quosF t ws.sum ws).take k = quosF t ws.sum (ws.take k) := by simp [quosF, List.map_take]
  rw [e] at h2
  unfold leftF at h1 ⊢
  omega
theorem mul38 (t x : Int) (ht : 0 ≤ t) (ht2 : t < 18446744073709551616) (hx : 0 ≤ x) (hx2 : x < 18446744073709551616) (w : World) :
    Calls Try.prog 38 #[.int .u64 t, .int .u64 x] w fun e w' => e = .returned (.tuple #[.int .u64 (t * x / 18446744073709551616), .int .u64 (t * x % 18446744073709551616)]) ∧ w = w' := by
  obtain ⟨a, rfl⟩ := Int.eq_ofNat_of_zero_le ht
  obtain ⟨b, rfl⟩ := Int.eq_ofNat_of_zero_le hx
  refine (Go.Proofs.Try.bits_Mul64 a b (by omega) (by omega) w).mono fun e w' ⟨he, hw⟩ => ⟨?_, hw.symm⟩
  rw [he, Int.natCast_ediv, Int.natCast_emod, Int.natCast_mul]; rfl
theorem div40 (P all : Int) (hP : 0 ≤ P) (ha : 0 < all) (ha2 : all < 18446744073709551616) (hlt : P / 18446744073709551616 < all) (w : World) :
    Calls Try.prog 40 #[.int .u64 (P / 18446744073709551616), .int .u64 (P % 18446744073709551616), .int .u64 all] w fun e w' => e = .returned (.tuple #[.int .u64 (P / all), .int .u64 (P % all)]) ∧ Drawn0 w w' := by
  obtain ⟨k, hk⟩ := div64_ok (P / 18446744073709551616) (P % 18446744073709551616) all (by omega) hlt ha2 (by omega) (by omega)
  have e : P / 18446744073709551616 * 18446744073709551616 + P % 18446744073709551616 = P := by omega
  rw [e] at hk
  exact bits_Div64.calls k _ _ _ _ _ w hk
theorem any_false (ws : List Int) (h : ws.any (fun n => decide (n < 0)) = false) : ∀ x ∈ ws, 0 ≤ x := by
  intro x hx
  have := List.any_eq_false.1 h x hx
  simpa using this
set_option maxRecDepth 100000 in
set_option maxHeartbeats 4000000 in
theorem split_no (t : Int) (A0 : Option Addr) (c0 : Nat) (ws : List Int) (w : World) (hr0 : Kd.C (Kd.int .i64) w A0 ws.length ws) (hc0 : ws.length ≤ c0) (h20 : ws.length < 20) (hw : ∀ x ∈ ws, inR x) (ht : 0 ≤ t)
    (hany : ws.any (fun n => decide (n < 0)) = false) (hbad : 9223372036854775807 < ws.sum ∨ ws.sum = 0) : Calls Try.prog 20 #[.int .i64 t, .slice A0 ws.length c0] w (SplitP t ws w) := by
  obtain ⟨m, hm⟩ := add_ok ws hw (by omega)
  have hnn := any_false ws hany
  have ha := addF_nn ws 0 (Int.le_refl _) hnn (by decide)
  rw [Int.zero_add] at ha
  have H2 := hidI (fun w hr => slices_ContainsFunc_int64_int64.calls A0 c0 ws 50 false w hr hc0 (by unfold slices_ContainsFunc_int64_int64.f; rw [if_pos ⟨.inl rfl, by omega⟩, hany]))
  have HR := hidI hr0
  have hta : ¬ t < 0 := by omega
  by_cases hov : 9223372036854775807 < ws.sum
  · rw [if_neg (by omega)] at ha
    have H1 := hidI (fun w hr => money_Add.calls (0 + m) A0 c0 ws 0 2 w hr hc0 (by rw [hm 0, ha]))
    have HS : Hid (splitF t ws = ([], 2)) := by
      show _ = _
      unfold splitF
      rw [if_neg hta, if_neg (by rw [hany]; decide), if_pos (by omega)]
    have HF : Hid (∀ n, SplitP t ws w (.returned (.tuple #[.slice none 0 0, .int .i64 2])) (w.drewN n)) := fun n => ⟨.slice none 0 0, by rw [HS.out], by rw [HS.out]; exact ⟨rfl, .inl ⟨rfl, rfl⟩⟩, below_drN w n⟩
    clear hr0 hm ha HS hbad hany hov hnn
    go_enter Try.func20, Try.ntmps20
    go_wp2_with fail
    refine (H1.out _ HR.out).mono ?_
    rintro e w' ⟨rfl, ⟨n, rfl⟩⟩
    simp only []
    go_wp2_with fail
    refine (H2.out _ (C_drewN HR.out n)).mono ?_
    rintro e w' ⟨rfl, ⟨n2, rfl⟩⟩
    simp only []
    go_wp2
    go_ret2
    exact HF.out (n + n2)
  · have hz : ws.sum = 0 := hbad.resolve_left hov
    rw [if_pos (by omega), hz] at ha
    have H1 := hidI (fun w hr => money_Add.calls (0 + m) A0 c0 ws 0 0 w hr hc0 (by rw [hm 0, ha]))
    have HS : Hid (splitF t ws = ([], 1)) := by
      show _ = _
      unfold splitF
      rw [if_neg hta, if_neg (by rw [hany]; decide), if_neg (by omega), if_pos hz]
    have HF : Hid (∀ n, SplitP t ws w (.returned (.tuple #[.slice none 0 0, .int .i64 1])) (w.drewN n)) := fun n => ⟨.slice none 0 0, by rw [HS.out], by rw [HS.out]; exact ⟨rfl, .inl ⟨rfl, rfl⟩⟩, below_drN w n⟩
    clear hr0 hm ha HS hbad hany hov hnn hz
    go_enter Try.func20, Try.ntmps20
    go_wp2_with fail
    refine (H1.out _ HR.out).mono ?_
    rintro e w' ⟨rfl, ⟨n, rfl⟩⟩
    simp only []
    go_wp2_with fail
    refine (H2.out _ (C_drewN HR.out n)).mono ?_
    rintro e w' ⟨rfl, ⟨n2, rfl⟩⟩
    simp only []
    go_wp2
    go_ret2
    exact HF.out (n + n2)
set_option maxRecDepth 100000 in
set_option maxHeartbeats 4000000 in
theorem split_ok (t : Int) (A0 : Option Addr) (c0 : Nat) (ws : List Int) (w : World) (hr0 : Kd.C (Kd.int .i64) w A0 ws.length ws) (hc0 : ws.length ≤ c0) (h20 : ws.length < 20) (hw : ∀ x ∈ ws, inR x) (ht : 0 ≤ t) (ht2 : t ≤ 9223372036854775807)
    (hany : ws.any (fun n => decide (n < 0)) = false) (h1 : ws.sum ≤ 9223372036854775807) (h2 : 0 < ws.sum) : Calls Try.prog 20 #[.int .i64 t, .slice A0 ws.length c0] w (SplitP t ws w) := by
  obtain ⟨m, hm⟩ := add_ok ws hw (by omega)
  have hnn := any_false ws hany
  have ha := addF_nn ws 0 (Int.le_refl _) hnn (by decide)
  rw [Int.zero_add, if_pos (by omega)] at ha
  have H2 := hidI (fun w hr => slices_ContainsFunc_int64_int64.calls A0 c0 ws 50 false w hr hc0 (by unfold slices_ContainsFunc_int64_int64.f; rw [if_pos ⟨.inl rfl, by omega⟩, hany]))
  have HR := hidI hr0
  have hta : ¬ t < 0 := by omega
  have H1 := hidI (fun w hr => money_Add.calls (0 + m) A0 c0 ws ws.sum 0 w hr hc0 (by rw [hm 0, ha]))
  have HS : Hid (splitF t ws = (partsF t ws, 0)) := by
    show _ = _
    unfold splitF
    rw [if_neg hta, if_neg (by rw [hany]; decide), if_neg (by omega), if_neg (by omega)]
  have HM := hidI (mem_le_sum ws hnn)
  have HNN := hidI hnn
  have HW := hidI hw
  have HLB := hidI (left_bd t ws ht hnn h2)
  obtain ⟨all, hall⟩ : ∃ all, all = ws.sum := ⟨_, rfl⟩
  rw [← hall] at h1 h2 H1 HM HLB
  have HALL := hidI hall
  have hne : ¬ (all = 0) := by omega
  have hne2 : (all == 0) = false := beq_eq_false_iff_ne.2 hne
  have htd : decide (t < 0) = false := by simpa using ht
  clear hr0 hm ha hany hnn hw hall
  go_enter Try.func20, Try.ntmps20
  go_wp2_with fail
  refine (H1.out _ HR.out).mono ?_
  rintro e w' ⟨rfl, ⟨n, rfl⟩⟩
  simp only []
  go_wp2_with fail
  refine (H2.out _ (C_drewN HR.out n)).mono ?_
  rintro e w' ⟨rfl, ⟨n2, rfl⟩⟩
  simp only []
  go_wp2
  go_loopw [8, 9, 10, 41] (fun v8 v9 l i wr => ∃ k : Nat, k ≤ ws.length ∧ i = .int .i64 k ∧ l = .int .i64 (leftF t all (ws.take k)) ∧ Hid (Own li 1 2 wr w.heap.size v8 (quosF t all (ws.take k)) ∧ Own e98 2 98 wr w.heap.size v9 (restsF t all 0 (ws.take k)) ∧ Below w.heap.size w wr)) (fun _ _ _ i _ => ws.length - (intOf i).toNat)
  case atStart => exact ⟨0, Nat.zero_le _, rfl, by simp [leftF, quosF], ⟨Own.nil _ _ _ _ _, Own.nil _ _ _ _ _, below_drN w _⟩⟩
  case round =>
    obtain ⟨k, hk, rfl, rfl, HI⟩ := hrel
    have hb := HI.out.2.2
    by_cases hlt : k < ws.length
    · obtain ⟨b, off, hA, hc⟩ := C_ints HR.out (by omega)
      subst hA
      have q0 : wr.cell? ⟨b, off + k, none⟩ = some (.int .i64 ws[k]) := pw_cell_below hb (hc k hlt)
      have hx0 : 0 ≤ ws[k] := HNN.out _ (List.getElem_mem hlt)
      have hxa : ws[k] ≤ all := HM.out _ (List.getElem_mem hlt)
      obtain ⟨x, hx⟩ : ∃ x, x = ws[k] := ⟨_, rfl⟩
      rw [← hx] at q0 hx0 hxa
      have HX := hidI hx
      have hlk := left_take t ws k ht HNN.out (by rw [← HALL.out]; exact h2)
      rw [← HALL.out] at hlk
      have hqb := quo_bd ht hx0 hxa h2
      have hP : 0 ≤ t * x := Int.mul_nonneg ht hx0
      have hrb := Int.emod_nonneg (t * x) (b := all) (by omega)
      have hrc := Int.emod_lt_of_pos (t * x) h2
      have hlt2 : t * x / 18446744073709551616 < all := by
        apply Int.ediv_lt_of_lt_mul (by decide)
        have : t * x ≤ t * all := Int.mul_le_mul_of_nonneg_left hxa ht
        have : t * all ≤ 9223372036854775807 * all := Int.mul_le_mul_of_nonneg_right ht2 (by omega)
        omega
      have H3 := hidI (mul38 t x ht (by omega) hx0 (by omega) wr)
      have H4 := hidI (fun w => div40 (t * x) all hP h2 (by omega) hlt2 w)
      have hst1 : Hid (quosF t all (ws.take (k + 1)) = quosF t all (ws.take k) ++ [t * x / all]) := by
        show _ = _
        rw [List.take_succ_eq_append_getElem hlt, ← HX.out, quosF_snoc]
      have hst2 : Hid (restsF t all 0 (ws.take (k + 1)) = restsF t all 0 (ws.take k) ++ [⟨k, t * x % all⟩]) := by
        show _ = _
        rw [List.take_succ_eq_append_getElem hlt, ← HX.out, restsF_snoc, List.length_take, Nat.min_eq_left (by omega), Nat.zero_add]
      have hst3 : Hid (leftF t all (ws.take (k + 1)) = leftF t all (ws.take k) - t * x / all) := by
        show _ = _
        unfold leftF
        rw [hst1.out]; simp; omega
      have hlk1 := left_take t ws (k + 1) ht HNN.out (by rw [← HALL.out]; exact h2)
      rw [← HALL.out, hst3.out] at hlk1
      clear hx hP hlt2 hc hb
      generalize leftF t all (ws.take k) = lf at *
      generalize t * x / all = q at *
      generalize t * x % all = r at *
      go_wp2_with fail
      refine H3.out.mono ?_
      rintro e w' ⟨rfl, rfl⟩
      simp only []
      go_wp2_with fail
      refine (H4.out _).mono ?_
      rintro e w' ⟨rfl, ⟨nd, rfl⟩⟩
      simp only []
      have hO1 := HI.out.1.drewN nd
      have hO2 := HI.out.2.1.drewN nd
      have hB0 := below_drewN HI.out.2.2 nd
      have hl1 : (quosF t all (ws.take k)).length = k := by rw [quosF_len, List.length_take]; omega
      have hl2 : (restsF t all 0 (ws.take k)).length = k := by rw [restsF_len, List.length_take]; omega
      generalize quosF t all (ws.take k) = zq at *
      generalize restsF t all 0 (ws.take k) = zr at *
      have HO1 := hidI hO1
      have HO2 := hidI hO2
      have HB0 := hidI hB0
      have hzq : zq.length ≤ 1000000 := by omega
      have hzr : zr.length ≤ 1000000 := by omega
      have HL := hidI (And.intro hl1 hl2)
      have HSZ := hB0.size
      clear hO1 hO2 hB0 H3 H4 HI hl1 hl2
      obtain ⟨W, hW⟩ : ∃ W, W = wr.drewN nd := ⟨_, rfl⟩
      rw [← hW] at HO1 HO2 HB0 HSZ ⊢
      clear hW
      go_wp2_with (first
        | (at_builtin; refine print_append_cells (w0 := w) (W := W) w.heap.size rfl (.tmp 62) (.tmp 65) 22 2 (.int .i64 0) 1 8 rfl Try.underlying22 info2 rfl (by decide) (by decide) u8 zq.length (zq.flatMap li) [.int .i64 q] (by rfl) (by rfl) rfl (by simp [Value.oneCell']) HO1.out HB0.out HB0.out.size (by omega) ?_; intro v5 w5 ho5 hb5 hg5 hat5)
        | (at_builtin; refine print_append_cells (w0 := w) (W := w5) w.heap.size rfl (.tmp 67) (.tmp 71) 96 98 (.agg #[.int .i64 0, .int .u64 0]) 2 16 rfl Try.underlying96 info98 rfl (by decide) (by decide) u9 zr.length (zr.flatMap e98) [.int .i64 k, .int .u64 r] (by rfl) (by rfl) rfl (by simp [Value.oneCell']) (HO2.out.kept (fun k2 hk2 => hg5.block k2 (HO2.out.lt hk2) (fun h => HO2.out.ne_own HO1.out (by decide) k2 hk2 h.symm))) hb5 hb5.size (by omega) ?_; intro v6 w6 ho6 hb6 hg6 hat6))
      have hO25 := HO2.out.kept (w1 := w5) (fun k2 hk2 => hg5.block k2 (HO2.out.lt hk2) (fun h => HO2.out.ne_own HO1.out (by decide) k2 hk2 h.symm))
      have hO15 := Own.snoc (l := li) (p := q) ho5
      have hO16 := hO15.kept (w1 := w6) (fun k2 hk2 => hg6.block k2 (hO15.lt hk2) (fun h => hO15.ne_own hO25 (by decide) k2 hk2 h.symm))
      have hO26 := Own.snoc (l := e98) (p := (⟨k, r⟩ : S98)) ho6
      have hfin : Hid (Own li 1 2 w6 w.heap.size v5 (quosF t all (ws.take (k + 1))) ∧ Own e98 2 98 w6 w.heap.size v6 (restsF t all 0 (ws.take (k + 1))) ∧ Below w.heap.size w w6) := by
        show _ ∧ _
        rw [hst1.out, hst2.out]
        exact ⟨hO16, hO26, hb6⟩
      clear ho5 hb5 hg5 hat5 ho6 hb6 hg6 hat6 hO25 hO15 hO16 hO26 HO1 HO2 HB0
      go_roundw
      case rel => exact ⟨k + 1, by omega, by go_num, by rw [hst3.out], hfin⟩
      case measure => simp [intOf]; omega
    · obtain rfl : k = ws.length := by omega
      have hb0 := HI.out
      rw [List.take_length] at hb0
      obtain ⟨hO1, hO2, hB⟩ := hb0
      have hpos : 0 < ws.length := by
        apply Nat.pos_of_ne_zero
        intro h0
        have e := HALL.out
        rw [List.length_eq_zero_iff.1 h0] at e
        simp at e; omega
      have hrl := restsF_len t all ws 0
      obtain ⟨hle0, hle1⟩ := HLB.out
      obtain ⟨d, hd⟩ : ∃ d : Array S98, d = (restsF t all 0 ws).toArray := ⟨_, rfl⟩
      have hdl : d.toList = restsF t all 0 ws := by rw [hd]
      rw [← hdl] at hO2
      have hds : d.size = ws.length := by rw [← Array.length_toList, hdl, hrl]
      rcases hO2.cases_ with ⟨_, h0⟩ | ⟨g, cap, rfl, hcap, hcm, hgb, hgl⟩
      · rw [h0] at hdl; rw [← hdl] at hrl; simp at hrl; omega
      obtain ⟨hH, hgl2, hn2, hcap2⟩ := holds_of_own hO2
      have HSORT := hidI (sort51 g 0 cap d wr hH hgl2 (by omega))
      have hperm := srt_perm d
      have hidx : ∀ r ∈ (srt d).toList, 0 ≤ r.f0 ∧ r.f0.toNat < (quosF t all ws).length := by
        intro r hr
        have h := rests_idx t all ws 0 r (by rw [← hdl]; exact hperm.1.mem_iff.1 hr)
        rw [quosF_len]; omega
      have hq0 : ∀ x ∈ quosF t all ws, 0 ≤ x := by
        intro x hx
        obtain ⟨y, hy, rfl⟩ := List.mem_map.1 hx
        exact (quo_bd ht (HNN.out y hy) (HM.out y hy) h2).1
      have HPF : Hid (partsF t ws = bump (quosF t all ws) ((srt d).toList.take (leftF t all ws).toNat)) := by
        show _ = _
        unfold partsF; rw [← HALL.out, hd]
      have hlen2 : ((d.toList).length : Int) = (d.size : Int) := by simp
      rw [List.take_length]
      obtain ⟨lf, hlf⟩ : ∃ lf : Nat, (lf : Int) = leftF t all ws := ⟨(leftF t all ws).toNat, by omega⟩
      have hlf2 : (leftF t all ws).toNat = lf := by omega
      rw [hlf2] at HPF hle1
      rw [← hlf]
      have hsum : (quosF t all ws).sum + lf = t := by
        have : leftF t all ws = t - (quosF t all ws).sum := rfl
        omega
      have HO1 := hidI hO1
      have HO2 := hidI hO2
      have HIDX := hidI hidx
      have HQ0 := hidI hq0
      have HPS := hidI hperm.2
      have hql := quosF_len t all ws
      have HN1 := hidI (HO2.out.ne_own HO1.out (by decide))
      have HB := hidI hB
      have hn2' : d.toList.length = ws.length := by simp [hds]
      clear HI hH hperm hidx hq0 hd hdl hrl hle0 hlf hlf2 hO1 hO2 hB hcap hn2 hlen2 hlt hk hgl
      generalize quosF t all ws = qs at *
      rw [hn2']
      rw [hds] at hcap2
      have hsd : (srt d).size = ws.length := by rw [HPS.out, hds]
      have HDS := hidI hds
      rw [hds] at HSORT
      clear hds hn2'
      go_wp2_with fail
      refine HSORT.out.mono ?_
      rintro e w' ⟨rfl, n3, os, rfl⟩
      have hO1 := HO1.out.kept (w1 := sortWorldK e98 2 wr g 0 n3 (srt d) os) (fun k2 hk2 => sw_block wr g 0 n3 (srt d) os k2 (HO1.out.lt hk2) (fun e => HN1.out g rfl (by rw [← e]; exact hk2)))
      have hO2 := own_of_sorted (m := n3) (os := os) HO2.out HPS.out
      have hB2 : Below w.heap.size w (sortWorldK e98 2 wr g 0 n3 (srt d) os) := (Fr.trans (S := fun k => k = g) (Fr.of_below HB.out) (sw_fr wr g 0 n3 (srt d) os) (fun _ _ h => h)).toBelow (fun b hb h => by omega)
      have HI := hidI (And.intro hO1 (And.intro hO2 hB2))
      clear hO1 hO2 hB2 HO1 HO2 HB HN1 HSORT HPS
      generalize sortWorldK e98 2 wr g 0 n3 (srt d) os = w2 at *
      simp only []
      obtain ⟨hO1, hO2, hB2⟩ := HI.out
      rcases hO1.cases_ with ⟨_, h0⟩ | ⟨g8, c8, rfl, hc8, hc8m, hg8b, hg8l⟩
      · rw [h0] at hql; simp at hql; omega
      have HNE := hidI (hO1.ne_own hO2 (by decide) g8 rfl)
      obtain ⟨ord, hord⟩ : ∃ ord, ord = (srt d).toList := ⟨_, rfl⟩
      rw [← hord] at HPF HIDX hO2
      have hdl2 : d.toList.length = ws.length := by rw [Array.length_toList]; exact HDS.out
      rw [hdl2] at hO2
      clear hdl2
      have hol : ord.length = ws.length := by rw [hord, Array.length_toList, hsd]
      clear hord
      rw [hql] at hc8 ⊢
      rw [hql] at hO1
      have HI2 := hidI (And.intro hO1 (And.intro hO2 hB2))
      clear HI hO1 hO2 hB2
      go_wp2
      go_loopw [84] (fun i w3 => ∃ j : Nat, j ≤ lf ∧ i = .int .i64 j ∧ Hid (Own li 1 2 w3 w.heap.size (.slice (some ⟨g8, 0, none⟩) ws.length c8) (bump qs (ord.take j)) ∧ Own e98 2 98 w3 w.heap.size (.slice (some ⟨g, 0, none⟩) ws.length cap) ord ∧ Below w.heap.size w w3)) (fun i _ => lf - (intOf i).toNat)
      case atStart => exact ⟨0, Nat.zero_le _, rfl, HI2.out⟩
      case round =>
        obtain ⟨j, hj, rfl, HJ⟩ := hrel
        obtain ⟨hO1, hO2, hB3⟩ := HJ.out
        by_cases hlt : j < lf
        · have hjo : j < ord.length := by omega
          obtain ⟨r, hr⟩ : ∃ r, r = ord[j] := ⟨_, rfl⟩
          have hc := own_cell98 hO2 j hjo
          rw [← hr] at hc
          obtain ⟨c1, c2⟩ := hc
          have hi := HIDX.out r (by rw [hr]; exact List.getElem_mem hjo)
          rw [hql] at hi
          obtain ⟨ri, hri⟩ : ∃ ri : Nat, r.f0 = (ri : Int) := ⟨r.f0.toNat, by omega⟩
          have hri2 : ri < ws.length := by omega
          have hbl : (bump qs (ord.take j)).length = ws.length := by rw [bump_len, hql]
          have hbf := bump_facts (ord.take j) qs HQ0.out (fun q hq => by rw [hql]; have := HIDX.out q (List.mem_of_mem_take hq); omega)
          have hbs := mem_le_sum _ hbf.1
          have hc3 := own_cell hO1 ri (by omega)
          obtain ⟨x, hx⟩ : ∃ x, x = (bump qs (ord.take j))[ri] := ⟨_, rfl⟩
          rw [← hx] at hc3
          have hxb : 0 ≤ x ∧ x < t := by
            have h1 := hbf.1 x (by rw [hx]; exact List.getElem_mem _)
            have h2 := hbs x (by rw [hx]; exact List.getElem_mem _)
            rw [hbf.2, List.length_take, Nat.min_eq_left (by omega)] at h2
            omega
          have hst : Hid (bump qs (ord.take (j + 1)) = (bump qs (ord.take j)).set ri (x + 1)) := by
            show _ = _
            rw [List.take_succ_eq_append_getElem hjo, ← hr, bump_snoc, hri, Int.toNat_natCast, List.getD_eq_getElem?_getD, List.getElem?_eq_getElem (by omega), ← hx]; rfl
          obtain ⟨c3, f3⟩ := hc3
          have hg8l3 : g8 < wr.heap.size := hO1.lt rfl
          have hgl3 : g < wr.heap.size := hO2.lt rfl
          have hfin : Hid (Own li 1 2 ((wr.setCell ⟨g8, ri, none⟩ (.int .i64 (x + 1))).alloc (.cells #[.int .i64 ri, .int .u64 r.f1] 98)) w.heap.size (.slice (some ⟨g8, 0, none⟩) ws.length c8) (bump qs (ord.take (j + 1))) ∧ Own e98 2 98 ((wr.setCell ⟨g8, ri, none⟩ (.int .i64 (x + 1))).alloc (.cells #[.int .i64 ri, .int .u64 r.f1] 98)) w.heap.size (.slice (some ⟨g, 0, none⟩) ws.length cap) ord ∧ Below w.heap.size w ((wr.setCell ⟨g8, ri, none⟩ (.int .i64 (x + 1))).alloc (.cells #[.int .i64 ri, .int .u64 r.f1] 98))) := by
            show _ ∧ _
            rw [hst.out]
            exact ⟨(own_set hO1 ri (by omega) _).alloc _, (hO2.far (p := ⟨g8, ri, none⟩) HNE.out _).alloc _, below_new (hB3.setCell (by show w.heap.size ≤ g8; omega) _) _⟩
          have HQ := hidI hri
          rw [hri] at c1
          clear hO1 hO2 hB3 HJ hr hbf hbs hx hi hri hst hbl
          go_wp2
          go_roundw
          case rel => exact ⟨j + 1, by omega, by go_num, hfin⟩
          case measure => simp [intOf]; omega
        · obtain rfl : j = lf := by omega
          have hF : Hid (SplitP t ws w (.returned (.tuple #[.slice (some ⟨g8, 0, none⟩) ws.length c8, .int .i64 0])) wr) := by
            refine ⟨_, by rw [HS.out], ?_, hB3⟩
            rw [HS.out]
            simp only []
            rw [HPF.out]
            have h := hO1
            unfold Own at h
            rw [flat_li] at h
            exact h
          clear hO1 hO2 hB3 HJ HI2
          go_wp2
          go_ret2
          exact hF.out
theorem split_any (t : Int) (A0 : Option Addr) (c0 : Nat) (ws : List Int) (w : World) (hr0 : Kd.C (Kd.int .i64) w A0 ws.length ws) (hc0 : ws.length ≤ c0) (h20 : ws.length < 20) (hw : ∀ x ∈ ws, inR x) (ht : inR t) :
    Calls Try.prog 20 #[.int .i64 t, .slice A0 ws.length c0] w (SplitP t ws w) := by
  by_cases h1 : t < 0
  · exact split_bad t A0 c0 ws w hr0 hc0 h20 hw ht (.inl h1)
  · by_cases h2 : ws.any (fun n => decide (n < 0)) = true
    · exact split_bad t A0 c0 ws w hr0 hc0 h20 hw ht (.inr h2)
    · have h2' := eq_false_of_ne_true h2
      have hs := sum_nn ws (any_false ws h2')
      by_cases h3 : 9223372036854775807 < ws.sum
      · exact split_no t A0 c0 ws w hr0 hc0 h20 hw (by omega) h2' (.inl h3)
      · by_cases h4 : ws.sum = 0
        · exact split_no t A0 c0 ws w hr0 hc0 h20 hw (by omega) h2' (.inr h4)
        · exact split_ok t A0 c0 ws w hr0 hc0 h20 hw (by omega) ht.2 h2' (by omega) (by omega)
end Go.Proofs.Ytncnhhnbjmpomaa
namespace Go.Proofs.Ytncnhhnbjmpomaa.Q
open Go.RowKit Go.Proofs.YtncnhhnbjmpomaaW.PrintWords Go.Proofs.YtncnhhnbjmpomaaW.PrintLast Go.Proofs.Ytncnhhnbjmpomaa
def inRb (x : Int) : Bool := decide (-9223372036854775808 ≤ x) && decide (x ≤ 9223372036854775807)
theorem inRb_iff (x : Int) : inRb x = true ↔ inR x := by simp [inRb, inR]
def money_Split.f (a0 : Int) (l1 : List Int) : Option (List Int × Int) := if l1.length < 20 ∧ l1.all inRb = true ∧ inRb a0 = true then some (splitF a0 l1) else none
theorem money_Split.calls (a0 : Int) (A1 : Option Addr) (c1 : Nat) (l1 : List Int) (r1 : List Int) (r2 : Int) (w : World) (hr1 : Kd.C (Kd.int .i64) w A1 l1.length l1) (hc1 : l1.length ≤ c1) (h : money_Split.f a0 l1 = some (r1, r2)) :
    Calls Try.prog 20 #[.int .i64 a0, .slice A1 l1.length c1] w fun e w' => ∃ v0_ : Value, e = .returned (.tuple #[v0_, .int .i64 r2]) ∧ Kd.R (Kd.int .i64) 2 w' w.heap.size (fun _ => True) v0_ r1 ∧ Below w.heap.size w w' := by
  unfold money_Split.f at h
  split at h
  · rename_i hb
    obtain ⟨h1, h2, h3⟩ := hb
    simp only [Option.some.injEq] at h
    refine (split_any a0 A1 c1 l1 w hr1 hc1 h1 (fun x hx => (inRb_iff x).1 (List.all_eq_true.1 h2 x hx)) ((inRb_iff a0).1 h3)).mono ?_
    rintro e w' ⟨v, he, ho, hb⟩
    rw [h] at he ho
    exact ⟨v, he, Kd.R_of_own ho (fun _ _ => trivial), hb⟩
  · cases h
end Go.Proofs.Ytncnhhnbjmpomaa.Q
