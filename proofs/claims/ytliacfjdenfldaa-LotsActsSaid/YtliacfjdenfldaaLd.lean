import Derived.Test.YtliacfjdenfldaaLc
namespace Go.Proofs.Ytliacfjdenfldaa
open Go.RowKit Go.Proofs.Kq
open Go.Proofs.YtliacfjdenfldaaW.PrintWords (pw_cell_below step_append_cells print_append_cells Kd Kd.C Kd.C_below)
open Go.Proofs.YtliacfjdenfldaaW.PrintLast
set_option linter.unusedSimpArgs false
set_option linter.unusedVariables false

def mineB (p c : ByteArray) (y : A111) : Bool := (y.f0.toList == p.toList) && (y.f1.toList == c.toList)
def mineL (p c : ByteArray) (xs : List A111) : List Int := (xs.filter (mineB p c)).map A111.f2
theorem mineL_snoc (p c : ByteArray) (xs : List A111) (x : A111) : mineL p c (xs ++ [x]) = mineL p c xs ++ if mineB p c x = true then [x.f2] else [] := by
  by_cases h : mineB p c x = true <;> simp [mineL, List.filter_append, List.filter_cons, h]
theorem mineL_len (p c : ByteArray) (xs : List A111) : (mineL p c xs).length ≤ xs.length := by simp only [mineL, List.length_map]; exact List.length_filter_le _ _
theorem mineL_ok {p c : ByteArray} {xs : List A111} (h : ∀ y ∈ xs, i64 y.f2) : ∀ n ∈ mineL p c xs, i64 n := by
  intro n hn
  simp only [mineL, List.mem_map, List.mem_filter] at hn
  obtain ⟨y, ⟨hy, _⟩, rfl⟩ := hn
  exact h y hy
theorem own64 {w : World} {base : Nat} {v : Value} {xs : List Int} (h : Own l64 1 2 w base v xs) : ∃ A c, v = .slice A xs.length c ∧ xs.length ≤ c ∧ Kd.C d64 w A xs.length xs :=
  Own.reads (hl := fun x => (rfl : (l64 x).length = 1)) (h1 := l64_one) h
def HeldP (p c : ByteArray) (ls : List A111) (w : World) (e : Ending) (w' : World) : Prop := ∃ s r, s = sumN (mineL p c ls) ∧ r = sumE (mineL p c ls) ∧ e = .returned (.tuple #[.int .i64 s, .int .i64 r]) ∧ Below w.heap.size w w'
set_option maxRecDepth 100000 in
set_option maxHeartbeats 4000000 in
theorem held_any (base x0 : Nat) (v : Value) (p c : ByteArray) (xs : List A111) (w : World) (h : Lt w base x0 v xs) (hl : xs.length ≤ 1000000) (hok : ∀ y ∈ xs, i64 y.f2) :
    Calls Try.prog 62 #[.pointer (some ⟨x0, 0, none⟩), .string p, .string c] w (HeldP p c xs w) := by
  obtain ⟨A, cp, rfl, _, hC⟩ := own111e h.own
  have c0 := h.blk.c; have l0 := h.blk.lt
  have hrd : Hid (xs = [] ∨ ∃ b off, A = some ⟨b, off, none⟩ ∧ ∀ (i : Nat) (hi : i < xs.length) (j : Nat) (v : Value), (A111.l xs[i])[j]? = some v → w.cell? ⟨b, off + i * 4 + j, none⟩ = some v) := by
    by_cases h0 : xs = []
    · exact Or.inl h0
    · obtain ⟨b, off, rfl, hx⟩ := Kp.C_open hC (List.length_pos_iff.2 h0) (by decide)
      exact Or.inr ⟨b, off, rfl, hx⟩
  have HOK := hidI hok
  clear h hC hok
  go_enter Try.func62, Try.ntmps62
  go_wp2
  clear c0 l0
  go_loopw [8, 18] (fun v i wr => ∃ k : Nat, k ≤ xs.length ∧ i = .int .i64 k ∧ Hid (Own l64 1 2 wr w.heap.size v (mineL p c (xs.take k)) ∧ Below w.heap.size w wr)) (fun _ i _ => xs.length - (intOf i).toNat)
  case atStart => exact ⟨0, Nat.zero_le _, rfl, hidI ⟨by simp only [List.take_zero]; exact Own.nil _ _ _ _ _, Below.refl _ _⟩⟩
  case round =>
    obtain ⟨k, hk, rfl, hI⟩ := hrel
    have hb := hI.out.2
    by_cases hlt : k < xs.length
    · obtain ⟨b, off, rfl, hx⟩ := hrd.out.resolve_left (fun h => by rw [h] at hlt; simp at hlt)
      have HX := hidI hx
      clear hx
      obtain ⟨x, hxe⟩ : ∃ x, x = xs[k] := ⟨_, rfl⟩
      have q0 : wr.cell? ⟨b, off + k * 4, none⟩ = some (.string x.f0) := by rw [hxe]; exact pw_cell_below hb (HX.out k hlt 0 _ rfl)
      have q1 : wr.cell? ⟨b, off + k * 4 + 1, none⟩ = some (.string x.f1) := by rw [hxe]; exact pw_cell_below hb (HX.out k hlt 1 _ rfl)
      have q2 : wr.cell? ⟨b, off + k * 4 + 2, none⟩ = some (.int .i64 x.f2) := by rw [hxe]; exact pw_cell_below hb (HX.out k hlt 2 _ rfl)
      have q3 : wr.cell? ⟨b, off + k * 4 + 3, none⟩ = some (.int .i64 x.f3) := by rw [hxe]; exact pw_cell_below hb (HX.out k hlt 3 _ rfl)
      obtain ⟨hO1, hb0⟩ := hI.out
      have HB := hidI (below_new hb0 (.cells #[.string x.f0, .string x.f1, .int .i64 x.f2, .int .i64 x.f3] 111))
      have hsz : w.heap.size ≤ (wr.alloc (.cells #[.string x.f0, .string x.f1, .int .i64 x.f2, .int .i64 x.f3] 111)).heap.size := HB.out.size
      have hl1 := mineL_len p c (xs.take k)
      have hlk : (xs.take k).length ≤ 1000000 := by rw [List.length_take]; omega
      have hst : Hid (mineL p c (xs.take (k + 1)) = mineL p c (xs.take k) ++ if mineB p c x = true then [x.f2] else []) := by show _ = _; rw [List.take_succ_eq_append_getElem hlt, ← hxe, mineL_snoc]
      clear hxe hI
      generalize mineL p c (xs.take k) = zs at *
      have HO1 := hidI (hO1.alloc (.cells #[.string x.f0, .string x.f1, .int .i64 x.f2, .int .i64 x.f3] 111))
      have hlz : zs.length ≤ 1000000 := by omega
      clear hO1 hb0 hb
      cases h1 : (x.f0.toList == p.toList)
      · have hst2 : Hid (mineL p c (xs.take (k + 1)) = zs) := by show _ = _; rw [hst.out]; simp [mineB, h1]
        have hfin : Hid (Own l64 1 2 (wr.alloc (.cells #[.string x.f0, .string x.f1, .int .i64 x.f2, .int .i64 x.f3] 111)) w.heap.size u8 (mineL p c (xs.take (k + 1))) ∧ Below w.heap.size w (wr.alloc (.cells #[.string x.f0, .string x.f1, .int .i64 x.f2, .int .i64 x.f3] 111))) := by show _ ∧ _; rw [hst2.out]; exact ⟨HO1.out, HB.out⟩
        clear HO1 HB hst hst2
        go_wp2
        go_roundw
        case rel => exact ⟨k + 1, by omega, by go_num, hfin⟩
        case measure => simp [intOf]; omega
      · cases h2 : (x.f1.toList == c.toList)
        · have hst2 : Hid (mineL p c (xs.take (k + 1)) = zs) := by show _ = _; rw [hst.out]; simp [mineB, h1, h2]
          have hfin : Hid (Own l64 1 2 (wr.alloc (.cells #[.string x.f0, .string x.f1, .int .i64 x.f2, .int .i64 x.f3] 111)) w.heap.size u8 (mineL p c (xs.take (k + 1))) ∧ Below w.heap.size w (wr.alloc (.cells #[.string x.f0, .string x.f1, .int .i64 x.f2, .int .i64 x.f3] 111))) := by show _ ∧ _; rw [hst2.out]; exact ⟨HO1.out, HB.out⟩
          clear HO1 HB hst hst2
          go_wp2
          go_roundw
          case rel => exact ⟨k + 1, by omega, by go_num, hfin⟩
          case measure => simp [intOf]; omega
        · have hst2 : Hid (mineL p c (xs.take (k + 1)) = zs ++ [x.f2]) := by show _ = _; rw [hst.out]; simp [mineB, h1, h2]
          go_wp2_with (at_builtin; refine print_append_cells (w0 := w) (W := (wr.alloc (.cells #[.string x.f0, .string x.f1, .int .i64 x.f2, .int .i64 x.f3] 111))) w.heap.size rfl (.tmp 32) (.tmp 35) 45 2 (.int .i64 0) 1 8 rfl Try.underlying45 info2 rfl (by decide) (by decide) u8 zs.length (zs.flatMap l64) [.int .i64 x.f2] (by rfl) (by first | (go_simp; done) | (go_simp; rfl)) rfl (by simp [Value.oneCell']) HO1.out HB.out hsz (by omega) ?_; intro v5 w5 ho5 hb5 hg5 hat5)
          have hfin : Hid (Own l64 1 2 w5 w.heap.size v5 (mineL p c (xs.take (k + 1))) ∧ Below w.heap.size w w5) := by show _ ∧ _; rw [hst2.out]; exact ⟨Own.snoc (p := x.f2) ho5, hb5⟩
          clear ho5 hb5 hg5 hat5 HO1 HB hst hst2
          go_wp2
          go_roundw
          case rel => exact ⟨k + 1, by omega, by go_num, hfin⟩
          case measure => simp [intOf]; omega
    · have e : k = xs.length := by omega
      subst e
      obtain ⟨hO1, hb0⟩ := hI.out
      rw [List.take_length] at hO1
      have hl1 := mineL_len p c xs
      have hk2 := hidI (mineL_ok (p := p) (c := c) HOK.out)
      obtain ⟨z, hz⟩ : ∃ z, z = mineL p c xs := ⟨_, rfl⟩
      rw [← hz] at hO1 hl1 hk2
      have HZ := hidI hz
      obtain ⟨A1, c1, rfl, _, hC1⟩ := own64 hO1
      clear hI hO1 hb hz
      go_wp2_with fail
      refine (madd_any A1 z c1 _ hC1 (by omega) hk2.out).mono ?_
      rintro e w' ⟨rfl, rfl⟩
      obtain ⟨s, hs⟩ : ∃ s, s = sumN z := ⟨_, rfl⟩
      obtain ⟨r, hr⟩ : ∃ r, r = sumE z := ⟨_, rfl⟩
      rw [← hs, ← hr]
      have hfin : Hid (HeldP p c xs w (.returned (.tuple #[.int .i64 s, .int .i64 r])) wr) := ⟨s, r, by rw [hs, HZ.out], by rw [hr, HZ.out], rfl, hb0⟩
      clear hs hr hb0 hC1
      go_wp2
      go_ret2
      exact hfin.out
def minD (s : Int) (xs : List A111) : Int := xs.foldl (fun m y => if y.f3 < m then y.f3 else m) s
def nextL : List A111 → Int
  | [] => -1
  | x :: xs => minD x.f3 (x :: xs)
theorem minD_snoc (s : Int) (xs : List A111) (x : A111) : minD s (xs ++ [x]) = if x.f3 < minD s xs then x.f3 else minD s xs := by
  unfold minD; rw [List.foldl_append]; rfl
set_option maxHeartbeats 2000000 in
theorem lnext_any (base x0 : Nat) (v : Value) (xs : List A111) (w : World) (h : Lt w base x0 v xs) (hl : xs.length ≤ 1000000) :
    Calls Try.prog 65 #[.pointer (some ⟨x0, 0, none⟩)] w fun e w' => e = .returned (.int .i64 (nextL xs)) ∧ Below w.heap.size w w' := by
  obtain ⟨A, cp, rfl, _, hC⟩ := own111e h.own
  have c0 := h.blk.c; have l0 := h.blk.lt
  clear h
  cases xs with
  | nil =>
    clear hC
    go_enter Try.func65, Try.ntmps65
    go_wp2
    go_ret
    exact ⟨rfl, Below.refl _ _⟩
  | cons x1 xs1 =>
    obtain ⟨b, off, rfl, hx⟩ := Kp.C_open hC (by simp) (by decide)
    have q03 : w.cell? ⟨b, off + 3, none⟩ = some (.int .i64 x1.f3) := by
      have := hx 0 (by simp) 3 _ rfl
      simpa using this
    have HX := hidI hx
    have hne : ((xs1.length + 1 : Nat) == 0) = false := by simp
    have hp : 0 < (x1 :: xs1).length := by simp
    have hnx : Hid (nextL (x1 :: xs1) = minD x1.f3 (x1 :: xs1)) := rfl
    obtain ⟨xs, hxs⟩ : ∃ xs, xs = x1 :: xs1 := ⟨_, rfl⟩
    rw [← hxs] at hp hl
    have hne2 : ((xs.length : Int) == 0) = false := by rw [beq_eq_false_iff_ne]; omega
    have hne3 : (xs.length == 0) = false := by rw [beq_eq_false_iff_ne]; omega
    rw [← hxs]
    have HX2 : Hid (∀ (i : Nat) (hi : i < xs.length) (j : Nat) (v : Value), (A111.l xs[i])[j]? = some v → w.cell? ⟨b, off + i * 4 + j, none⟩ = some v) := by subst hxs; exact HX.out
    rw [← hxs] at hnx
    clear hx hC HX hne
    rw [← hxs] at c0
    clear hxs
    go_enter Try.func65, Try.ntmps65
    go_wp2
    have HC0 := hidI c0
    clear c0 l0 q03
    go_loopw [3, 28] (fun s i wr => ∃ k : Nat, k ≤ xs.length ∧ i = .int .i64 k ∧ ∃ m : Int, s = .int .i64 m ∧ Hid (m = minD x1.f3 (xs.take k)) ∧ Below w.heap.size w wr) (fun _ i _ => xs.length - (intOf i).toNat)
    case atStart => exact ⟨0, Nat.zero_le _, rfl, _, rfl, hidI rfl, Below.refl _ _⟩
    case round =>
      obtain ⟨k, hk, rfl, m, rfl, hm, hb⟩ := hrel
      by_cases hlt : k < xs.length
      · obtain ⟨x, hxe⟩ : ∃ x, x = xs[k] := ⟨_, rfl⟩
        have q0 : wr.cell? ⟨b, off + k * 4, none⟩ = some (.string x.f0) := by rw [hxe]; exact pw_cell_below hb (HX2.out k hlt 0 _ rfl)
        have q1 : wr.cell? ⟨b, off + k * 4 + 1, none⟩ = some (.string x.f1) := by rw [hxe]; exact pw_cell_below hb (HX2.out k hlt 1 _ rfl)
        have q2 : wr.cell? ⟨b, off + k * 4 + 2, none⟩ = some (.int .i64 x.f2) := by rw [hxe]; exact pw_cell_below hb (HX2.out k hlt 2 _ rfl)
        have q3 : wr.cell? ⟨b, off + k * 4 + 3, none⟩ = some (.int .i64 x.f3) := by rw [hxe]; exact pw_cell_below hb (HX2.out k hlt 3 _ rfl)
        have hst : Hid (minD x1.f3 (xs.take (k + 1)) = if x.f3 < m then x.f3 else m) := by show _ = _; rw [List.take_succ_eq_append_getElem hlt, ← hxe, minD_snoc, ← hm.out]
        have hfin := below_new hb (.cells #[.string x.f0, .string x.f1, .int .i64 x.f2, .int .i64 x.f3] 111)
        clear hxe hm hb
        by_cases hlm : x.f3 < m
        · have hst2 : Hid (x.f3 = minD x1.f3 (xs.take (k + 1))) := by show _ = _; rw [hst.out, if_pos hlm]
          have hlm2 : ¬ m < x.f3 := by omega
          have hlm3 : ¬ m ≤ x.f3 := by omega
          clear hst
          go_wp2
          go_roundw
          case rel => exact ⟨k + 1, by omega, by go_num, _, rfl, hst2, hfin⟩
          case measure => simp [intOf]; omega
        · have hst2 : Hid (m = minD x1.f3 (xs.take (k + 1))) := by show _ = _; rw [hst.out, if_neg hlm]
          have hlm3 : m ≤ x.f3 := by omega
          clear hst
          go_wp2
          go_roundw
          case rel => exact ⟨k + 1, by omega, by go_num, _, rfl, hst2, hfin⟩
          case measure => simp [intOf]; omega
      · have e : k = xs.length := by omega
        have hm2 : Hid (nextL xs = m) := by show _ = _; rw [hnx.out, hm.out, e, List.take_length]
        clear e hm
        go_wp2
        go_ret
        exact ⟨by rw [hm2.out]; rfl, hb⟩
def rnextL (xs : List A111) : Int := xs.foldl (fun m y => if m < 0 ∨ y.f3 < m then y.f3 else m) (-1)
theorem rnextL_snoc (xs : List A111) (x : A111) : rnextL (xs ++ [x]) = if rnextL xs < 0 ∨ x.f3 < rnextL xs then x.f3 else rnextL xs := by
  unfold rnextL; rw [List.foldl_append]; rfl
theorem rfold : ∀ (xs : List A111) (s : Int), 0 ≤ s → (∀ y ∈ xs, 0 ≤ y.f3) → xs.foldl (fun m y => if m < 0 ∨ y.f3 < m then y.f3 else m) s = minD s xs
  | [], s, _, _ => rfl
  | x :: xs, s, hs, h => by
    have hx := h x (by simp)
    have e : (if s < 0 ∨ x.f3 < s then x.f3 else s) = if x.f3 < s then x.f3 else s := by
      by_cases hl : x.f3 < s
      · rw [if_pos (Or.inr hl), if_pos hl]
      · rw [if_neg (by omega), if_neg hl]
    simp only [List.foldl_cons, minD]
    rw [e]
    exact rfold xs _ (by split <;> omega) (fun y hy => h y (by simp [hy]))
theorem rnext_eq {xs : List A111} (h : ∀ y ∈ xs, 0 ≤ y.f3) : rnextL xs = nextL xs := by
  cases xs with
  | nil => rfl
  | cons x xs =>
    have hx := h x (by simp)
    unfold rnextL nextL
    simp only [List.foldl_cons, minD]
    rw [if_pos (Or.inl (by omega)), if_neg (by omega)]
    exact rfold xs _ hx (fun y hy => h y (by simp [hy]))
set_option maxHeartbeats 2000000 in
theorem rnext_any (A : Option Addr) (c : Nat) (xs : List A111) (w : World) (hC : Kd.C d111 w A xs.length xs) (hl : xs.length ≤ 1000000) :
    Calls Try.prog 66 #[.slice A xs.length c] w fun e w' => e = .returned (.int .i64 (rnextL xs)) ∧ w = w' := by
  by_cases h0 : xs = []
  · subst h0
    clear hC
    go_enter Try.func66, Try.ntmps66
    go_wp2
    refine wp_loop_rounds 1 ?_
    rw [rounds_succ]
    go_wp2
    go_ret
    exact ⟨rfl, rfl⟩
  obtain ⟨b, off, rfl, hx⟩ := Kp.C_open hC (List.length_pos_iff.2 h0) (by decide)
  have HX := hidI hx
  clear hx hC h0
  go_enter Try.func66, Try.ntmps66
  go_wp2
  go_loop [3, 4] (fun s i => ∃ k : Nat, k ≤ xs.length ∧ i = .int .i64 k ∧ ∃ m : Int, s = .int .i64 m ∧ Hid (m = rnextL (xs.take k))) (fun _ i => xs.length - (intOf i).toNat)
  case atStart => exact ⟨0, Nat.zero_le _, rfl, _, rfl, hidI rfl⟩
  case round =>
    obtain ⟨k, hk, rfl, m, rfl, hm⟩ := hrel
    by_cases hlt : k < xs.length
    · obtain ⟨x, hxe⟩ : ∃ x, x = xs[k] := ⟨_, rfl⟩
      have q3 : w.cell? ⟨b, off + k * 4 + 3, none⟩ = some (.int .i64 x.f3) := by rw [hxe]; exact HX.out k hlt 3 _ rfl
      have hst : Hid (rnextL (xs.take (k + 1)) = if m < 0 ∨ x.f3 < m then x.f3 else m) := by show _ = _; rw [List.take_succ_eq_append_getElem hlt, ← hxe, rnextL_snoc, ← hm.out]
      clear hxe hm
      by_cases hneg : m < 0
      · have hst2 : Hid (x.f3 = rnextL (xs.take (k + 1))) := by show _ = _; rw [hst.out, if_pos (Or.inl hneg)]
        clear hst
        go_wp2
        go_round
        case rel => exact ⟨k + 1, by omega, by go_num, _, rfl, hst2⟩
        case measure => simp [intOf]; omega
      · by_cases hlm : x.f3 < m
        · have hst2 : Hid (x.f3 = rnextL (xs.take (k + 1))) := by show _ = _; rw [hst.out, if_pos (Or.inr hlm)]
          clear hst
          go_wp2
          go_round
          case rel => exact ⟨k + 1, by omega, by go_num, _, rfl, hst2⟩
          case measure => simp [intOf]; omega
        · have hst2 : Hid (m = rnextL (xs.take (k + 1))) := by show _ = _; rw [hst.out, if_neg (by omega)]
          clear hst
          go_wp2
          go_round
          case rel => exact ⟨k + 1, by omega, by go_num, _, rfl, hst2⟩
          case measure => simp [intOf]; omega
    · have e : k = xs.length := by omega
      have hm2 : Hid (rnextL xs = m) := by show _ = _; rw [hm.out, e, List.take_length]
      clear e hm
      go_wp2
      go_ret
      exact ⟨by rw [hm2.out]; rfl, rfl⟩
set_option maxHeartbeats 1000000 in
theorem right_any (y : A111) (w : World) : Calls Try.prog 59 #[.agg #[.string y.f0, .string y.f1, .int .i64 y.f2, .int .i64 y.f3]] w fun e w' => e = .returned (.bool (rightB y)) ∧ Below w.heap.size w w' := by
  cases h1 : y.f0.toList.isEmpty
  · cases h2 : y.f1.toList.isEmpty
    · by_cases h3 : 0 ≤ y.f2
      · have hr : Hid (rightB y = decide (0 ≤ y.f3)) := by show _ = _; simp [rightB, h1, h2, h3]
        go_enter Try.func59, Try.ntmps59
        go_wp2
        go_ret
        exact ⟨by rw [hr.out]; rfl, below_new (Below.refl _ _) _⟩
      · have hr : Hid (rightB y = false) := by show _ = _; simp [rightB, h3]
        go_enter Try.func59, Try.ntmps59
        go_wp2
        go_ret
        exact ⟨by rw [hr.out]; rfl, below_new (Below.refl _ _) _⟩
    · have hr : Hid (rightB y = false) := by show _ = _; simp [rightB, h2]
      go_enter Try.func59, Try.ntmps59
      go_wp2
      go_ret
      exact ⟨by rw [hr.out]; rfl, below_new (Below.refl _ _) _⟩
  · have hr : Hid (rightB y = false) := by show _ = _; simp [rightB, h1]
    go_enter Try.func59, Try.ntmps59
    go_wp2
    go_ret
    exact ⟨by rw [hr.out]; rfl, below_new (Below.refl _ _) _⟩
end Go.Proofs.Ytliacfjdenfldaa
