import Derived.Test.YtliacfjdenfldaaLb
namespace Go.Proofs.Ytliacfjdenfldaa
open Go.RowKit Go.Proofs.Kq
open Go.Proofs.YtliacfjdenfldaaW.PrintWords (pw_cell_below step_append_cells print_append_cells Kd Kd.C Kd.C_below)
open Go.Proofs.YtliacfjdenfldaaW.PrintLast
set_option linter.unusedSimpArgs false
set_option linter.unusedVariables false

theorem own_nbl {α : Type} {l : α → List Value} {sz : Nat} {e : TypeId} {w : World} {base : Nat} {v : Value} {xs : List α} {g T : Nat} {cs : Array Value} (h : Own l sz e w base v xs) (hB : Blk w g cs T) (hT : e ≠ T) : v.ownBlock ≠ some g := h.ne hB hT
def dueL (now : Int) (xs : List A111) : List A111 := xs.filter fun y => decide (y.f3 ≤ now)
def restL (now : Int) (xs : List A111) : List A111 := xs.filter fun y => !decide (y.f3 ≤ now)
theorem dueL_snoc (now : Int) (xs : List A111) (x : A111) : dueL now (xs ++ [x]) = dueL now xs ++ if x.f3 ≤ now then [x] else [] := by
  by_cases h : x.f3 ≤ now <;> simp [dueL, List.filter_append, List.filter_cons, h]
theorem restL_snoc (now : Int) (xs : List A111) (x : A111) : restL now (xs ++ [x]) = restL now xs ++ if x.f3 ≤ now then [] else [x] := by
  by_cases h : x.f3 ≤ now <;> simp [restL, List.filter_append, List.filter_cons, h]
theorem dueL_len (now : Int) (xs : List A111) : (dueL now xs).length ≤ xs.length := List.length_filter_le _ _
theorem restL_len (now : Int) (xs : List A111) : (restL now xs).length ≤ xs.length := List.length_filter_le _ _

def SplitP (now : Int) (xs : List A111) (w : World) (e : Ending) (w' : World) : Prop :=
  ∃ A n c B m d, e = .returned (.tuple #[.slice A n c, .slice B m d]) ∧ n = (dueL now xs).length ∧ m = (restL now xs).length ∧ Own A111.l 4 118 w' w.heap.size (.slice A n c) (dueL now xs) ∧ Own A111.l 4 118 w' w.heap.size (.slice B m d) (restL now xs) ∧ Below w.heap.size w w'
set_option maxRecDepth 100000 in
set_option maxHeartbeats 4000000 in
theorem split_any (A : Option Addr) (xs : List A111) (c : Nat) (now : Int) (w : World) (hC : Kd.C d111 w A xs.length xs) (hl : xs.length ≤ 1000000) :
    Calls Try.prog 55 #[.slice A xs.length c, .int .i64 now] w (SplitP now xs w) := by
  by_cases h0 : xs = []
  · subst h0
    go_enter Try.func55, Try.ntmps55
    go_wp2
    refine wp_loop_rounds 1 ?_
    rw [rounds_succ]
    go_wp2
    go_ret2
    exact ⟨none, 0, 0, none, 0, 0, rfl, rfl, rfl, Own.nil _ _ _ _ _, Own.nil _ _ _ _ _, Below.refl _ _⟩
  obtain ⟨b, off, rfl, hx⟩ := Kp.C_open hC (List.length_pos_iff.2 h0) (by decide)
  have HX := hidI hx
  clear hx h0 hC
  go_enter Try.func55, Try.ntmps55
  go_wp2
  go_loopw [6, 7, 8] (fun v v2 i wr => ∃ k : Nat, k ≤ xs.length ∧ i = .int .i64 k ∧ Hid (Own A111.l 4 118 wr w.heap.size v (dueL now (xs.take k)) ∧ Own A111.l 4 118 wr w.heap.size v2 (restL now (xs.take k)) ∧ (∀ k, v.ownBlock = some k → v2.ownBlock ≠ some k) ∧ Below w.heap.size w wr)) (fun _ _ i _ => xs.length - (intOf i).toNat)
  case atStart => exact ⟨0, Nat.zero_le _, rfl, hidI ⟨by simp only [List.take_zero]; exact Own.nil _ _ _ _ _, by simp only [List.take_zero]; exact Own.nil _ _ _ _ _, (fun k h => by cases h), Below.refl _ _⟩⟩
  case round =>
    obtain ⟨k, hk, rfl, hI⟩ := hrel
    have hb := hI.out.2.2.2
    by_cases hlt : k < xs.length
    · obtain ⟨x, hxe⟩ : ∃ x, x = xs[k] := ⟨_, rfl⟩
      have q0 : wr.cell? ⟨b, off + k * 4, none⟩ = some (.string x.f0) := by rw [hxe]; exact pw_cell_below hb (HX.out k hlt 0 _ rfl)
      have q1 : wr.cell? ⟨b, off + k * 4 + 1, none⟩ = some (.string x.f1) := by rw [hxe]; exact pw_cell_below hb (HX.out k hlt 1 _ rfl)
      have q2 : wr.cell? ⟨b, off + k * 4 + 2, none⟩ = some (.int .i64 x.f2) := by rw [hxe]; exact pw_cell_below hb (HX.out k hlt 2 _ rfl)
      have q3 : wr.cell? ⟨b, off + k * 4 + 3, none⟩ = some (.int .i64 x.f3) := by rw [hxe]; exact pw_cell_below hb (HX.out k hlt 3 _ rfl)
      obtain ⟨hO1, hO2, hdj, hb0⟩ := hI.out
      have HB := hidI (hb0)
      have hsz : w.heap.size ≤ (wr).heap.size := HB.out.size
      have hl1 := dueL_len now (xs.take k)
      have hl2 := restL_len now (xs.take k)
      have hlk : (xs.take k).length ≤ 1000000 := by rw [List.length_take]; omega
      by_cases hd : x.f3 ≤ now
      · have hst1 : Hid (dueL now (xs.take (k + 1)) = dueL now (xs.take k) ++ [x]) := by show _ = _; rw [List.take_succ_eq_append_getElem hlt, ← hxe, dueL_snoc]; simp [hd]
        have hst2 : Hid (restL now (xs.take (k + 1)) = restL now (xs.take k)) := by show _ = _; rw [List.take_succ_eq_append_getElem hlt, ← hxe, restL_snoc]; simp [hd]
        clear hxe hI
        generalize dueL now (xs.take k) = zd at *
        generalize restL now (xs.take k) = zr at *
        have HO1 := hidI (hO1)
        have HO2 := hidI (hO2)
        have hlz : zd.length ≤ 1000000 := by omega
        have DJ := hidI hdj
        clear hO1 hO2 hdj hb0 hb
        go_wp2_with (at_builtin; refine print_append_cells (w0 := w) (W := wr) w.heap.size rfl (.tmp 22) (.tmp 27) 109 118 (.agg #[(.string ⟨#[]⟩), (.string ⟨#[]⟩), (.int .i64 0), (.int .i64 0)]) 4 48 rfl Try.underlying109 info118 rfl (by decide) (by decide) u6 zd.length (zd.flatMap A111.l) [.string x.f0, .string x.f1, .int .i64 x.f2, .int .i64 x.f3] (by rfl) (by first | (go_simp; done) | (go_simp; rfl)) rfl (by simp [Value.oneCell']) HO1.out HB.out hsz (by omega) ?_; intro v5 w5 ho5 hb5 hg5 hat5)
        have hO5 := Own.snoc (p := x) ho5
        have hX5 := HO2.out.kept (fun k hk => hg5.block k (HO2.out.lt hk) (fun h => DJ.out k h.symm hk))
        have hD5 : ∀ k, v5.ownBlock = some k → u7.ownBlock ≠ some k := by
          intro k hk h2
          rcases hat5 with h | ⟨b', h, h3⟩
          · exact DJ.out k (by rw [← h]; exact hk) h2
          · have := HO2.out.lt h2
            rw [h] at hk; cases hk
            omega
        have hfin : Hid (Own A111.l 4 118 w5 w.heap.size v5 (dueL now (xs.take (k + 1))) ∧ Own A111.l 4 118 w5 w.heap.size u7 (restL now (xs.take (k + 1))) ∧ (∀ k, v5.ownBlock = some k → u7.ownBlock ≠ some k) ∧ Below w.heap.size w w5) := by
          show _ ∧ _
          rw [hst1.out, hst2.out]
          exact ⟨hO5, hX5, hD5, hb5⟩
        clear ho5 hb5 hg5 hat5 HO1 HO2 DJ hO5 hX5 hD5 HB
        go_wp2
        go_roundw
        case rel => exact ⟨k + 1, by omega, by go_num, hfin⟩
        case measure => simp [intOf]; omega
      · have hst1 : Hid (dueL now (xs.take (k + 1)) = dueL now (xs.take k)) := by show _ = _; rw [List.take_succ_eq_append_getElem hlt, ← hxe, dueL_snoc]; simp [hd]
        have hst2 : Hid (restL now (xs.take (k + 1)) = restL now (xs.take k) ++ [x]) := by show _ = _; rw [List.take_succ_eq_append_getElem hlt, ← hxe, restL_snoc]; simp [hd]
        clear hxe hI
        generalize dueL now (xs.take k) = zd at *
        generalize restL now (xs.take k) = zr at *
        have HO1 := hidI (hO2)
        have HO2 := hidI (hO1)
        have hlz : zr.length ≤ 1000000 := by omega
        have DJ := hidI hdj
        clear hO1 hO2 hdj hb0 hb
        go_wp2_with (at_builtin; refine print_append_cells (w0 := w) (W := wr) w.heap.size rfl (.tmp 29) (.tmp 34) 109 118 (.agg #[(.string ⟨#[]⟩), (.string ⟨#[]⟩), (.int .i64 0), (.int .i64 0)]) 4 48 rfl Try.underlying109 info118 rfl (by decide) (by decide) u7 zr.length (zr.flatMap A111.l) [.string x.f0, .string x.f1, .int .i64 x.f2, .int .i64 x.f3] (by rfl) (by first | (go_simp; done) | (go_simp; rfl)) rfl (by simp [Value.oneCell']) HO1.out HB.out hsz (by omega) ?_; intro v5 w5 ho5 hb5 hg5 hat5)
        have hO5 := Own.snoc (p := x) ho5
        have hX5 := HO2.out.kept (fun k hk => hg5.block k (HO2.out.lt hk) (fun h => DJ.out k hk h.symm))
        have hD5 : ∀ k, u6.ownBlock = some k → v5.ownBlock ≠ some k := by
          intro k hk h2
          rcases hat5 with h | ⟨b', h, h3⟩
          · exact DJ.out k hk (by rw [← h]; exact h2)
          · have := HO2.out.lt hk
            rw [h] at h2; cases h2
            omega
        have hfin : Hid (Own A111.l 4 118 w5 w.heap.size u6 (dueL now (xs.take (k + 1))) ∧ Own A111.l 4 118 w5 w.heap.size v5 (restL now (xs.take (k + 1))) ∧ (∀ k, u6.ownBlock = some k → v5.ownBlock ≠ some k) ∧ Below w.heap.size w w5) := by
          show _ ∧ _
          rw [hst1.out, hst2.out]
          exact ⟨hX5, hO5, hD5, hb5⟩
        clear ho5 hb5 hg5 hat5 HO1 HO2 DJ hO5 hX5 hD5 HB
        go_wp2
        go_roundw
        case rel => exact ⟨k + 1, by omega, by go_num, hfin⟩
        case measure => simp [intOf]; omega
    · have e : k = xs.length := by omega
      subst e
      obtain ⟨hO1, hO2, _, hb0⟩ := hI.out
      rw [List.take_length] at hO1 hO2
      obtain ⟨z1, hz1⟩ : ∃ z, z = dueL now xs := ⟨_, rfl⟩
      obtain ⟨z2, hz2⟩ : ∃ z, z = restL now xs := ⟨_, rfl⟩
      rw [← hz1] at hO1
      rw [← hz2] at hO2
      obtain ⟨A1, c1, rfl, _⟩ := hO1.slice_
      obtain ⟨A2, c2, rfl, _⟩ := hO2.slice_
      have hfin : Hid (SplitP now xs w (.returned (.tuple #[.slice A1 z1.length c1, .slice A2 z2.length c2])) wr) := ⟨_, _, _, _, _, _, rfl, by rw [hz1], by rw [hz2], by rw [← hz1]; exact hO1, by rw [← hz2]; exact hO2, hb0⟩
      clear hO1 hO2 hb0 hI hb hz1 hz2
      go_wp2
      go_ret2
      exact hfin.out
def DueP (base x : Nat) (now : Int) (xs : List A111) (w : World) (e : Ending) (w' : World) : Prop :=
  ∃ A n c v', e = .returned (.slice A n c) ∧ n = (dueL now xs).length ∧ Own A111.l 4 111 w' w.heap.size (.slice A n c) (dueL now xs) ∧ Lt w' base x v' (restL now xs) ∧ (∀ k, v'.ownBlock = some k → w.heap.size ≤ k) ∧ Fr (fun k => k = x) w w'
set_option maxRecDepth 100000 in
set_option maxHeartbeats 4000000 in
theorem due_any (base y : Nat) (v : Value) (xs : List A111) (now : Int) (w : World) (h : Lt w base y v xs) (hbase : base ≤ w.heap.size) (hl : xs.length ≤ 1000000) :
    Calls Try.prog 58 #[.pointer (some ⟨y, 0, none⟩), .int .i64 now] w (DueP base y now xs w) := by
  obtain ⟨A, c, rfl, _, hC⟩ := own111e h.own
  have HB0 := hidI h.blk
  have c0 := h.blk.c; have l0 := h.blk.lt; have f0 := h.blk.f
  have hrd : Hid (xs = [] ∨ ∃ b off, A = some ⟨b, off, none⟩ ∧ ∀ (i : Nat) (hi : i < xs.length) (j : Nat) (v : Value), (A111.l xs[i])[j]? = some v → w.cell? ⟨b, off + i * 4 + j, none⟩ = some v) := by
    by_cases h0 : xs = []
    · exact Or.inl h0
    · obtain ⟨b, off, rfl, hx⟩ := Kp.C_open hC (List.length_pos_iff.2 h0) (by decide)
      exact Or.inr ⟨b, off, rfl, hx⟩
  clear h hC
  go_enter Try.func58, Try.ntmps58
  go_wp2
  clear c0 l0 f0
  go_loopw [5, 6, 16] (fun v v2 i wr => ∃ k : Nat, k ≤ xs.length ∧ i = .int .i64 k ∧ Hid (Own A111.l 4 111 wr w.heap.size v (dueL now (xs.take k)) ∧ Own A111.l 4 111 wr w.heap.size v2 (restL now (xs.take k)) ∧ (∀ k, v.ownBlock = some k → v2.ownBlock ≠ some k) ∧ Below w.heap.size w wr)) (fun _ _ i _ => xs.length - (intOf i).toNat)
  case atStart => exact ⟨0, Nat.zero_le _, rfl, hidI ⟨by simp only [List.take_zero]; exact Own.nil _ _ _ _ _, by simp only [List.take_zero]; exact Own.nil _ _ _ _ _, (fun k h => by cases h), Below.refl _ _⟩⟩
  case round =>
    obtain ⟨k, hk, rfl, hI⟩ := hrel
    have hb := hI.out.2.2.2
    by_cases hlt : k < xs.length
    · obtain ⟨b, off, rfl, hx⟩ := hrd.out.resolve_left (fun h => by rw [h] at hlt; simp at hlt)
      have HX := hidI hx
      clear hx
      obtain ⟨x, hxe⟩ : ∃ x, x = xs[k] := ⟨_, rfl⟩
      have q0 : wr.cell? ⟨b, off + k * 4, none⟩ = some (.string x.f0) := by rw [hxe]; exact pw_cell_below hb (HX.out k hlt 0 _ rfl)
      have q1 : wr.cell? ⟨b, off + k * 4 + 1, none⟩ = some (.string x.f1) := by rw [hxe]; exact pw_cell_below hb (HX.out k hlt 1 _ rfl)
      have q2 : wr.cell? ⟨b, off + k * 4 + 2, none⟩ = some (.int .i64 x.f2) := by rw [hxe]; exact pw_cell_below hb (HX.out k hlt 2 _ rfl)
      have q3 : wr.cell? ⟨b, off + k * 4 + 3, none⟩ = some (.int .i64 x.f3) := by rw [hxe]; exact pw_cell_below hb (HX.out k hlt 3 _ rfl)
      obtain ⟨hO1, hO2, hdj, hb0⟩ := hI.out
      have HB := hidI (below_new hb0 (.cells #[.string x.f0, .string x.f1, .int .i64 x.f2, .int .i64 x.f3] 111))
      have hsz : w.heap.size ≤ ((wr.alloc (.cells #[.string x.f0, .string x.f1, .int .i64 x.f2, .int .i64 x.f3] 111))).heap.size := HB.out.size
      have hl1 := dueL_len now (xs.take k)
      have hl2 := restL_len now (xs.take k)
      have hlk : (xs.take k).length ≤ 1000000 := by rw [List.length_take]; omega
      by_cases hd : x.f3 ≤ now
      · have hst1 : Hid (dueL now (xs.take (k + 1)) = dueL now (xs.take k) ++ [x]) := by show _ = _; rw [List.take_succ_eq_append_getElem hlt, ← hxe, dueL_snoc]; simp [hd]
        have hst2 : Hid (restL now (xs.take (k + 1)) = restL now (xs.take k)) := by show _ = _; rw [List.take_succ_eq_append_getElem hlt, ← hxe, restL_snoc]; simp [hd]
        clear hxe hI
        generalize dueL now (xs.take k) = zd at *
        generalize restL now (xs.take k) = zr at *
        have HO1 := hidI (hO1.alloc (.cells #[.string x.f0, .string x.f1, .int .i64 x.f2, .int .i64 x.f3] 111))
        have HO2 := hidI (hO2.alloc (.cells #[.string x.f0, .string x.f1, .int .i64 x.f2, .int .i64 x.f3] 111))
        have hlz : zd.length ≤ 1000000 := by omega
        have DJ := hidI hdj
        clear hO1 hO2 hdj hb0 hb
        go_wp2_with (at_builtin; refine print_append_cells (w0 := w) (W := (wr.alloc (.cells #[.string x.f0, .string x.f1, .int .i64 x.f2, .int .i64 x.f3] 111))) w.heap.size rfl (.tmp 24) (.tmp 26) 106 111 (.agg #[(.string ⟨#[]⟩), (.string ⟨#[]⟩), (.int .i64 0), (.int .i64 0)]) 4 48 rfl Try.underlying106 info111 rfl (by decide) (by decide) u5 zd.length (zd.flatMap A111.l) [.string x.f0, .string x.f1, .int .i64 x.f2, .int .i64 x.f3] (by rfl) (by first | (go_simp; done) | (go_simp; rfl)) rfl (by simp [Value.oneCell']) HO1.out HB.out hsz (by omega) ?_; intro v5 w5 ho5 hb5 hg5 hat5)
        have hO5 := Own.snoc (p := x) ho5
        have hX5 := HO2.out.kept (fun k hk => hg5.block k (HO2.out.lt hk) (fun h => DJ.out k h.symm hk))
        have hD5 : ∀ k, v5.ownBlock = some k → u6.ownBlock ≠ some k := by
          intro k hk h2
          rcases hat5 with h | ⟨b', h, h3⟩
          · exact DJ.out k (by rw [← h]; exact hk) h2
          · have := HO2.out.lt h2
            rw [h] at hk; cases hk
            omega
        have hfin : Hid (Own A111.l 4 111 w5 w.heap.size v5 (dueL now (xs.take (k + 1))) ∧ Own A111.l 4 111 w5 w.heap.size u6 (restL now (xs.take (k + 1))) ∧ (∀ k, v5.ownBlock = some k → u6.ownBlock ≠ some k) ∧ Below w.heap.size w w5) := by
          show _ ∧ _
          rw [hst1.out, hst2.out]
          exact ⟨hO5, hX5, hD5, hb5⟩
        clear ho5 hb5 hg5 hat5 HO1 HO2 DJ hO5 hX5 hD5 HB
        go_wp2
        go_roundw
        case rel => exact ⟨k + 1, by omega, by go_num, hfin⟩
        case measure => simp [intOf]; omega
      · have hst1 : Hid (dueL now (xs.take (k + 1)) = dueL now (xs.take k)) := by show _ = _; rw [List.take_succ_eq_append_getElem hlt, ← hxe, dueL_snoc]; simp [hd]
        have hst2 : Hid (restL now (xs.take (k + 1)) = restL now (xs.take k) ++ [x]) := by show _ = _; rw [List.take_succ_eq_append_getElem hlt, ← hxe, restL_snoc]; simp [hd]
        clear hxe hI
        generalize dueL now (xs.take k) = zd at *
        generalize restL now (xs.take k) = zr at *
        have HO1 := hidI (hO2.alloc (.cells #[.string x.f0, .string x.f1, .int .i64 x.f2, .int .i64 x.f3] 111))
        have HO2 := hidI (hO1.alloc (.cells #[.string x.f0, .string x.f1, .int .i64 x.f2, .int .i64 x.f3] 111))
        have hlz : zr.length ≤ 1000000 := by omega
        have DJ := hidI hdj
        clear hO1 hO2 hdj hb0 hb
        go_wp2_with (at_builtin; refine print_append_cells (w0 := w) (W := (wr.alloc (.cells #[.string x.f0, .string x.f1, .int .i64 x.f2, .int .i64 x.f3] 111))) w.heap.size rfl (.tmp 28) (.tmp 30) 106 111 (.agg #[(.string ⟨#[]⟩), (.string ⟨#[]⟩), (.int .i64 0), (.int .i64 0)]) 4 48 rfl Try.underlying106 info111 rfl (by decide) (by decide) u6 zr.length (zr.flatMap A111.l) [.string x.f0, .string x.f1, .int .i64 x.f2, .int .i64 x.f3] (by rfl) (by first | (go_simp; done) | (go_simp; rfl)) rfl (by simp [Value.oneCell']) HO1.out HB.out hsz (by omega) ?_; intro v5 w5 ho5 hb5 hg5 hat5)
        have hO5 := Own.snoc (p := x) ho5
        have hX5 := HO2.out.kept (fun k hk => hg5.block k (HO2.out.lt hk) (fun h => DJ.out k hk h.symm))
        have hD5 : ∀ k, u5.ownBlock = some k → v5.ownBlock ≠ some k := by
          intro k hk h2
          rcases hat5 with h | ⟨b', h, h3⟩
          · exact DJ.out k hk (by rw [← h]; exact h2)
          · have := HO2.out.lt hk
            rw [h] at h2; cases h2
            omega
        have hfin : Hid (Own A111.l 4 111 w5 w.heap.size u5 (dueL now (xs.take (k + 1))) ∧ Own A111.l 4 111 w5 w.heap.size v5 (restL now (xs.take (k + 1))) ∧ (∀ k, u5.ownBlock = some k → v5.ownBlock ≠ some k) ∧ Below w.heap.size w w5) := by
          show _ ∧ _
          rw [hst1.out, hst2.out]
          exact ⟨hX5, hO5, hD5, hb5⟩
        clear ho5 hb5 hg5 hat5 HO1 HO2 DJ hO5 hX5 hD5 HB
        go_wp2
        go_roundw
        case rel => exact ⟨k + 1, by omega, by go_num, hfin⟩
        case measure => simp [intOf]; omega
    · have e : k = xs.length := by omega
      subst e
      obtain ⟨hO1, hO2, hdj, hb0⟩ := hI.out
      rw [List.take_length] at hO1 hO2
      obtain ⟨z1, hz1⟩ : ∃ z, z = dueL now xs := ⟨_, rfl⟩
      obtain ⟨z2, hz2⟩ : ∃ z, z = restL now xs := ⟨_, rfl⟩
      rw [← hz1] at hO1
      rw [← hz2] at hO2
      obtain ⟨A1, c1, rfl, _⟩ := hO1.slice_
      obtain ⟨A2, c2, rfl, _⟩ := hO2.slice_
      have hB := HB0.out.be hb0
      have nb1 := own_nbl hO1 hB (by decide)
      have nb2 := own_nbl hO2 hB (by decide)
      have hfin : Hid (DueP base y now xs w (.returned (.slice A1 z1.length c1)) (wr.setCell ⟨y, 0, none⟩ (.slice A2 z2.length c2))) := ⟨_, _, _, _, rfl, by rw [hz1], by rw [← hz1]; exact hO1.far (p := ⟨y, 0, none⟩) nb1 _, ⟨(hB.st 0 _).of rfl, by rw [← hz2]; exact (hO2.lower hbase).far (p := ⟨y, 0, none⟩) nb2 _⟩, fun k hk => hO2.ge hk, Fr.setCell (S := fun k => k = y) (p := ⟨y, 0, none⟩) (Fr.of_below hb0) (fun _ => rfl) _⟩
      have c0 := hB.c; have l0 := hB.lt; have f0 := hB.f
      clear hO1 hO2 hb0 hI hb hz1 hz2 hB nb1 nb2 hdj
      go_wp2
      go_ret
      exact hfin.out
def rightB (y : A111) : Bool := !y.f0.toList.isEmpty && !y.f1.toList.isEmpty && decide (0 ≤ y.f2) && decide (0 ≤ y.f3)
def addL (y : A111) (ls : List A111) : List A111 := if rightB y = true ∧ 0 < y.f2 then ls ++ [y] else ls
def AddP (base x : Nat) (v : Value) (y : A111) (ls : List A111) (w : World) (e : Ending) (w' : World) : Prop :=
  ∃ r v', r = (if rightB y = true then 0 else 1 : Int) ∧ e = .returned (.int .i64 r) ∧ Lt w' base x v' (addL y ls) ∧ Fr (fun k => k = x ∨ v.ownBlock = some k) w w'
set_option maxRecDepth 100000 in
set_option maxHeartbeats 4000000 in
theorem ladd_any (base x : Nat) (v : Value) (y : A111) (ls : List A111) (w : World) (h : Lt w base x v ls) (hb : base ≤ w.heap.size) (hl : ls.length ≤ 1000000) :
    Calls Try.prog 60 #[.pointer (some ⟨x, 0, none⟩), .agg #[.string y.f0, .string y.f1, .int .i64 y.f2, .int .i64 y.f3]] w (AddP base x v y ls w) := by
  have hg := h.blk.lt
  cases hr : rightB y
  · have hend : Hid (∀ w', Below w.heap.size w w' → AddP base x v y ls w (.returned (.int .i64 1)) w') := fun w' hb' => ⟨1, v, by simp [hr], rfl, by simp only [addL, hr]; exact h.below hb', Fr.of_below hb'⟩
    clear h
    cases h1 : y.f0.toList.isEmpty
    · cases h2 : y.f1.toList.isEmpty
      · by_cases h3 : 0 ≤ y.f2
        · have h4 : y.f3 < 0 := by
            simp only [rightB, h1, h2, h3, decide_true, Bool.not_false, Bool.and_true, Bool.true_and, decide_eq_false_iff_not] at hr
            omega
          clear hr
          go_enter Try.func60, Try.ntmps60
          go_wp2
          go_ret
          exact hend.out _ (below_new (Below.refl _ _) _)
        · clear hr
          go_enter Try.func60, Try.ntmps60
          go_wp2
          go_ret
          exact hend.out _ (below_new (Below.refl _ _) _)
      · clear hr
        go_enter Try.func60, Try.ntmps60
        go_wp2
        go_ret
        exact hend.out _ (below_new (Below.refl _ _) _)
    · clear hr
      go_enter Try.func60, Try.ntmps60
      go_wp2
      go_ret
      exact hend.out _ (below_new (Below.refl _ _) _)
  · have hr' := hr
    simp only [rightB, Bool.and_eq_true, Bool.not_eq_true', decide_eq_true_eq] at hr'
    obtain ⟨⟨⟨h1, h2⟩, h3⟩, h4⟩ := hr'
    by_cases h5 : 0 < y.f2
    · have hend : Hid (∀ v' w', Lt w' base x v' (ls ++ [y]) → Fr (fun k => k = x ∨ v.ownBlock = some k) w w' → AddP base x v y ls w (.returned (.int .i64 0)) w') := fun v' w' g1 g2 => ⟨0, v', by simp [hr], rfl, by simp only [addL, hr, h5, and_self, if_true]; exact g1, g2⟩
      obtain ⟨A, cp, rfl, hcp, hC⟩ := own111e h.own
      have hL1 := h.below (below_new (Below.refl w.heap.size w) (.cells #[.string y.f0, .string y.f1, .int .i64 y.f2, .int .i64 y.f3] 111))
      have hQ1 := Blk.new' (w := w) (b := w.heap.size) (cs := #[.string y.f0, .string y.f1, .int .i64 y.f2, .int .i64 y.f3]) (T := 111) rfl
      have hlt := hidI (fun k (hk : (Value.slice A ls.length cp).ownBlock = some k) => h.own.lt hk)
      clear hr h hC
      go_enter Try.func60, Try.ntmps60
      go_wp2_with fail
      have hs1' : (w.alloc (.cells #[.string y.f0, .string y.f1, .int .i64 y.f2, .int .i64 y.f3] 111)).heap.size = w.heap.size + 1 := by simp
      have hF1 : Fr (fun k => k = x ∨ (Value.slice A ls.length cp).ownBlock = some k) w (w.alloc (.cells #[.string y.f0, .string y.f1, .int .i64 y.f2, .int .i64 y.f3] 111)) := (Fr.refl _ w).alloc _
      generalize w.alloc _ = w1 at *
      have HS1 := hidI hs1'
      have B1 := hL1.blk
      have c1 := B1.c; have l1 := B1.lt; have f1 := B1.f
      have c2 := hQ1.c; have l2 := hQ1.lt
      have HR2 := hL1.own
      have hbb : base ≤ w1.heap.size := by omega
      clear hs1'
      have NG : Hid ((Value.slice A ls.length cp).ownBlock ≠ some x) := own_nbl HR2 B1 (by decide)
      have NB : Hid ((Value.slice A ls.length cp).ownBlock ≠ some w.heap.size) := fun h => by have := hlt.out _ h; omega
      refine start_ (n := 11) (S := fun w' => w'.cell? ⟨x, 0, none⟩ = some (.slice A ls.length cp) ∧ w'.cell? ⟨w.heap.size, 0, none⟩ = some (.string y.f0) ∧ w'.cell? ⟨w.heap.size, 1, none⟩ = some (.string y.f1) ∧ w'.cell? ⟨w.heap.size, 2, none⟩ = some (.int .i64 y.f2) ∧ w'.cell? ⟨w.heap.size, 3, none⟩ = some (.int .i64 y.f3)) (ds := [10]) #[false, false, false, false, false, false, false, false, false, false, false] (by kernel_rfl) rfl rfl ⟨(by simp [c1]), (by simp [c2]), (by simp [c2]), (by simp [c2]), (by simp [c2])⟩ (fun hHeld => ?_)
      refine pure_ (i := 0) (N := some 30) (v := ?_) (a' := ?_) #[true, false, false, false, false, false, false, false, false, false, false] rfl rfl (by kernel_rfl) (fun _ _ _ h => h) (Or.inl ⟨by rfl, ?_⟩) ?_ ?_
      rotate_left
      · intro w'
        go_simp
        with_reducible rfl
      rotate_left
      · simp only [Act.put, List.setIfInBounds_toArray, List.set_cons_zero, List.set_cons_succ, i64_w, i32_w]
        rfl
      refine pure_ (i := 1) (N := some 31) (v := ?_) (a' := ?_) #[true, true, false, false, false, false, false, false, false, false, false] rfl rfl (by kernel_rfl) (fun _ _ _ h => h) (Or.inl ⟨by rfl, ?_⟩) ?_ ?_
      rotate_left
      · intro w'
        go_simp
        with_reducible rfl
      rotate_left
      · simp only [Act.put, List.setIfInBounds_toArray, List.set_cons_zero, List.set_cons_succ, i64_w, i32_w]
        rfl
      refine pure_ (i := 2) (N := some 32) (v := ?_) (a' := ?_) #[true, true, true, false, false, false, false, false, false, false, false] rfl rfl (by kernel_rfl) (fun _ _ _ h => h) (Or.inl ⟨by rfl, ?_⟩) ?_ ?_
      rotate_left
      · intro w'
        go_simp
        with_reducible rfl
      rotate_left
      · simp only [Act.put, List.setIfInBounds_toArray, List.set_cons_zero, List.set_cons_succ, i64_w, i32_w]
        rfl
      refine pure_ (i := 3) (N := some 33) (v := ?_) (a' := ?_) #[true, true, true, true, false, false, false, false, false, false, false] rfl rfl (by kernel_rfl) (fun _ _ _ h => h) (Or.inl ⟨by rfl, ?_⟩) ?_ ?_
      rotate_left
      · intro w'
        go_simp
        with_reducible rfl
      rotate_left
      · simp only [Act.put, List.setIfInBounds_toArray, List.set_cons_zero, List.set_cons_succ, i64_w, i32_w]
        rfl
      refine take_ (i := 4) (N := some 34) (v := ?_) (a' := ?_) #[true, true, true, true, true, false, false, false, false, false, false] rfl rfl (by kernel_rfl) (fun _ _ _ h => h) (Or.inl ⟨by rfl, ?_⟩) hHeld ?_ ?_
      rotate_left
      · rintro w' ⟨s0, s1, s2, s3, s4⟩
        go_simp
        with_reducible rfl
      rotate_left
      · simp only [Act.put, List.setIfInBounds_toArray, List.set_cons_zero, List.set_cons_succ, i64_w, i32_w]
        rfl
      refine take_ (i := 5) (N := some 35) (v := ?_) (a' := ?_) #[true, true, true, true, true, true, false, false, false, false, false] rfl rfl (by kernel_rfl) (fun _ _ _ h => h) (Or.inl ⟨by rfl, ?_⟩) hHeld ?_ ?_
      rotate_left
      · rintro w' ⟨s0, s1, s2, s3, s4⟩
        go_simp
        with_reducible rfl
      rotate_left
      · simp only [Act.put, List.setIfInBounds_toArray, List.set_cons_zero, List.set_cons_succ, i64_w, i32_w]
        rfl
      refine one_ (i := 6) (N := some 36) #[true, true, true, true, true, true, true, false, false, false, false] rfl rfl (by kernel_rfl) (by decide) (fun K hK => ?_)
      refine value_ (w1 := ?_) (v := ?_) (by rfl) rfl ?_ ?_
      rotate_left 2
      · go_simp
        constructor
        · rfl
        · rfl
      refine hK.out _ _ ⟨(cell_alloc hHeld.1 _), (cell_alloc hHeld.2.1 _), (cell_alloc hHeld.2.2.1 _), (cell_alloc hHeld.2.2.2.1 _), (cell_alloc hHeld.2.2.2.2 _)⟩ (fun hHeld => ?_)
      clear hK K
      refine norm_ (a' := ?_) ?_ ?_
      rotate_left
      · show Act.put _ (some 36) _ = _
        simp only [Act.put, List.setIfInBounds_toArray, List.set_cons_zero, List.set_cons_succ, i64_w, i32_w]
        rfl
      refine one_ (i := 7) (N := some 37) #[true, true, true, true, true, true, true, true, false, false, false] rfl rfl (by kernel_rfl) (by decide) (fun K hK => ?_)
      refine step_append_cells (w0 := w1.drew) (W := w1.drew) base (by rfl) (.tmp 34) (.tmp 36) 106 111 (.agg #[(.string ⟨#[]⟩), (.string ⟨#[]⟩), (.int .i64 0), (.int .i64 0)]) 4 48 rfl Try.underlying106 info111 rfl (by decide) (by decide) (.slice A ls.length cp) ls.length (ls.flatMap A111.l) [.string y.f0, .string y.f1, .int .i64 y.f2, .int .i64 y.f3] (by rfl) (by rfl) rfl (by simp [Value.oneCell']) HR2.drew (Below.refl _ _) hbb (by omega) ?_
      intro v4 w4 ho4 hb4 hg4 hat4
      have hO4 := Own.snoc (p := y) ho4
      obtain ⟨b4, c4, rfl⟩ : ∃ b4 c4, v4 = .slice (some ⟨b4, 0, none⟩) (ls.length + 1) c4 := by
        rcases hO4.cases_ with ⟨_, h⟩ | ⟨b, c, h, _⟩
        · simp at h
        · exact ⟨b, c, by simpa using h⟩
      have hB4 : Blk w4 x #[.slice A ls.length cp] 108 := Blk.gb (B1.dr) hg4 (Ne.symm NG.out)
      have lB4 := hB4.lt; have fB4 := hB4.f; have cB4 := hB4.c
      refine hK.out _ _ ⟨(gcell hg4 NG.out (by simp [c1])), (gcell hg4 NB.out (by simp [c2])), (gcell hg4 NB.out (by simp [c2])), (gcell hg4 NB.out (by simp [c2])), (gcell hg4 NB.out (by simp [c2]))⟩ (fun hHeld => ?_)
      clear hK K
      refine norm_ (a' := ?_) ?_ ?_
      rotate_left
      · show Act.put _ (some 37) _ = _
        simp only [Act.put, List.setIfInBounds_toArray, List.set_cons_zero, List.set_cons_succ, i64_w, i32_w]
        rfl
      refine pure_ (i := 8) (N := some 38) (v := ?_) (a' := ?_) #[true, true, true, true, true, true, true, true, true, false, false] rfl rfl (by kernel_rfl) (fun _ _ _ h => h) (Or.inl ⟨by rfl, ?_⟩) ?_ ?_
      rotate_left
      · intro w'
        go_simp
        with_reducible rfl
      rotate_left
      · simp only [Act.put, List.setIfInBounds_toArray, List.set_cons_zero, List.set_cons_succ, i64_w, i32_w]
        rfl
      refine pure_ (i := 9) (N := some 39) (v := ?_) (a' := ?_) #[true, true, true, true, true, true, true, true, true, true, false] rfl rfl (by kernel_rfl) (fun _ _ _ h => h) (Or.inl ⟨by rfl, ?_⟩) ?_ ?_
      rotate_left
      · intro w'
        go_simp
        with_reducible rfl
      rotate_left
      · simp only [Act.put, List.setIfInBounds_toArray, List.set_cons_zero, List.set_cons_succ, i64_w, i32_w]
        rfl
      refine last_ (i := 10) (N := none) #[true, true, true, true, true, true, true, true, true, true, true] rfl rfl (by kernel_rfl) (by decide) (fun K hK => ?_)
      refine skip_ (w1 := ?_) (by rfl) rfl ?_ ?_
      rotate_left
      · go_simp
        rfl
      refine hK.out _ _ ?_
      clear hK K
      refine done_ (by kernel_rfl) ?_
      have nb4 : (Value.slice (some ⟨b4, 0, none⟩) (ls.length + 1) c4).ownBlock ≠ some x := own_nbl hO4 hB4 (by decide)
      have hfin := hidI (hend.out _ _ ⟨(hB4.st 0 (.slice (some ⟨b4, 0, none⟩) (ls.length + 1) c4)).of rfl, hO4.far (p := ⟨x, 0, none⟩) nb4 _⟩ (((hF1.drew).grown hg4 (fun b h _ => Or.inr h)).setCell (fun _ => Or.inl rfl) _))
      generalize w4.setCell ⟨x, 0, none⟩ (.slice (some ⟨b4, 0, none⟩) (ls.length + 1) c4) = w5 at *
      clear hO4 ho4 hb4 hg4 hat4 hB4 lB4 fB4 cB4 nb4 c1 l1 f1 c2 l2 B1 HR2 hL1 hQ1 hF1 hbb
      go_wp2
      go_ret
      exact hfin.out
    · have hend : Hid (∀ w', Below w.heap.size w w' → AddP base x v y ls w (.returned (.int .i64 0)) w') := fun w' hb' => ⟨0, v, by simp [hr], rfl, by simp only [addL, h5, and_false, if_false]; exact h.below hb', Fr.of_below hb'⟩
      clear h hr
      go_enter Try.func60, Try.ntmps60
      go_wp2
      go_ret
      exact hend.out _ (below_new (Below.refl _ _) _)
end Go.Proofs.Ytliacfjdenfldaa
