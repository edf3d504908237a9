import Derived.Test.YtliacfjdenfldaaLa
namespace Go.Proofs.Ytliacfjdenfldaa
open Go.RowKit Go.Proofs.Kq
open Go.Proofs.YtliacfjdenfldaaW.PrintWords (pw_cell_below step_append_cells print_append_cells Kd Kd.C Kd.C_below)
open Go.Proofs.YtliacfjdenfldaaW.PrintLast
set_option linter.unusedSimpArgs false
set_option linter.unusedVariables false

theorem info111 : (Try.prog.info? 111).map (fun i => (i.zero, i.size, i.bytes)) = some (some (.agg #[(.string ⟨#[]⟩), (.string ⟨#[]⟩), (.int .i64 0), (.int .i64 0)]), 4, 48) := by kernel_rfl
theorem info118 : (Try.prog.info? 118).map (fun i => (i.zero, i.size, i.bytes)) = some (some (.agg #[(.string ⟨#[]⟩), (.string ⟨#[]⟩), (.int .i64 0), (.int .i64 0)]), 4, 48) := by kernel_rfl
theorem d111_one : ∀ x : A111, ∀ u ∈ A111.l x, u.oneCell' = true := by
  intro x u hu
  simp only [A111.l, List.mem_cons, List.not_mem_nil, or_false] at hu
  rcases hu with rfl | rfl | rfl | rfl <;> rfl
theorem own111e {e : TypeId} {w : World} {base : Nat} {v : Value} {xs : List A111} (h : Own A111.l 4 e w base v xs) : ∃ A c, v = .slice A xs.length c ∧ xs.length ≤ c ∧ Kd.C d111 w A xs.length xs :=
  Own.reads (hl := fun x => (rfl : (A111.l x).length = 4)) (h1 := d111_one) h
theorem own_nilc {α : Type} {l : α → List Value} {sz : Nat} {e : TypeId} {w : World} {base : Nat} {A : Option Addr} {c : Nat} {xs : List α} (h : Own l sz e w base (.slice A xs.length c) xs) : A = none → xs.length = 0 ∧ c = 0 := by
  intro e
  subst e
  rcases h.cases_ with ⟨h1, rfl⟩ | ⟨b, c', h1, _⟩
  · injection h1 with _ _ h2; exact ⟨rfl, h2⟩
  · injection h1 with h2; cases h2

/-- what a clone is: a row of its own -/
def Cl111 (xs : List A111) (w : World) (e : Ending) (w' : World) : Prop := ∃ v', e = .returned v' ∧ Own A111.l 4 111 w' w.heap.size v' xs ∧ Below w.heap.size w w'

set_option maxRecDepth 100000 in
set_option maxHeartbeats 1000000 in
theorem clone111 (xs : List A111) (A : Option Addr) (c : Nat) (w : World) (hn : A = none → xs.length = 0 ∧ c = 0) (hC : Kd.C d111 w A xs.length xs) (hl : xs.length ≤ 1000000) :
    Calls Try.prog 91 #[.slice A xs.length c] w (Cl111 xs w) := by
  cases A with
  | none =>
    obtain ⟨h1, rfl⟩ := hn rfl
    obtain rfl := List.length_eq_zero_iff.1 h1
    have he := fun w => Lib.run_eql_slice_nil (P := Try.prog) w 106 111 none 0 0 0 0 Try.underlying106
    go_enter Try.func91, Try.ntmps91
    go_wp2
    go_ret
    exact ⟨_, rfl, Own.nil _ _ _ _ _, Below.refl _ _⟩
  | some ad =>
    have he := fun w => Lib.run_eql_slice_nil (P := Try.prog) w 106 111 (some ad) xs.length c 0 0 Try.underlying106
    have HR := reads_of_C (by decide) hC
    obtain ⟨i0, hi, hz0, hz1, hz2⟩ := info_parts info111
    clear hn hC
    go_enter Try.func91, Try.ntmps91
    go_wp2_with (at_builtin; refine wpList_append_any _ rfl (.tmp 5) (.tmp 6) 106 rfl w.heap.size 111 i0 (.agg #[(.string ⟨#[]⟩), (.string ⟨#[]⟩), (.int .i64 0), (.int .i64 0)]) 4 48 Try.underlying106 hi hz0 hz1 hz2 rfl (by decide) (.slice (some ⟨w.heap.size, 0, none⟩) 0 0) 0 [] rfl ?aO w.heap.size (some ad) xs.length c (xs.flatMap A111.l) rfl ?aR (flat_one d111_one xs) ?aM ?aB ?aS ?_; (case aO => exact ⟨rfl, .inr ⟨w.heap.size, 0, #[], rfl, Nat.le_refl _, by (show (w.heap.push _)[w.heap.size]? = _; simp), Nat.le_refl _, by decide, rfl, rfl⟩⟩); (case aR => exact HR.alloc (Nat.le_refl _) _); (case aM => simp only [maxLen]; omega); (case aB => omega); (case aS => simp); intro v1 w1 hown hg hat)
    go_ret
    exact ⟨_, rfl, by have := Own.app (xs := []) (ys := xs) (l := A111.l) (by simpa using hown); simpa using this, (below_new (Below.refl _ _) _).grown hg (by simp) (fun k hk => by cases hk; exact Nat.le_refl _)⟩

/-- what a clone is: a row of its own -/
def Cl118 (xs : List A111) (w : World) (e : Ending) (w' : World) : Prop := ∃ v', e = .returned v' ∧ Own A111.l 4 118 w' w.heap.size v' xs ∧ Below w.heap.size w w'

set_option maxRecDepth 100000 in
set_option maxHeartbeats 1000000 in
theorem clone118 (xs : List A111) (A : Option Addr) (c : Nat) (w : World) (hn : A = none → xs.length = 0 ∧ c = 0) (hC : Kd.C d111 w A xs.length xs) (hl : xs.length ≤ 1000000) :
    Calls Try.prog 61 #[.slice A xs.length c] w (Cl118 xs w) := by
  cases A with
  | none =>
    obtain ⟨h1, rfl⟩ := hn rfl
    obtain rfl := List.length_eq_zero_iff.1 h1
    have he := fun w => Lib.run_eql_slice_nil (P := Try.prog) w 109 118 none 0 0 0 0 Try.underlying109
    go_enter Try.func61, Try.ntmps61
    go_wp2
    go_ret
    exact ⟨_, rfl, Own.nil _ _ _ _ _, Below.refl _ _⟩
  | some ad =>
    have he := fun w => Lib.run_eql_slice_nil (P := Try.prog) w 109 118 (some ad) xs.length c 0 0 Try.underlying109
    have HR := reads_of_C (by decide) hC
    obtain ⟨i0, hi, hz0, hz1, hz2⟩ := info_parts info118
    clear hn hC
    go_enter Try.func61, Try.ntmps61
    go_wp2_with (at_builtin; refine wpList_append_any _ rfl (.tmp 5) (.tmp 6) 109 rfl w.heap.size 118 i0 (.agg #[(.string ⟨#[]⟩), (.string ⟨#[]⟩), (.int .i64 0), (.int .i64 0)]) 4 48 Try.underlying109 hi hz0 hz1 hz2 rfl (by decide) (.slice (some ⟨w.heap.size, 0, none⟩) 0 0) 0 [] rfl ?aO w.heap.size (some ad) xs.length c (xs.flatMap A111.l) rfl ?aR (flat_one d111_one xs) ?aM ?aB ?aS ?_; (case aO => exact ⟨rfl, .inr ⟨w.heap.size, 0, #[], rfl, Nat.le_refl _, by (show (w.heap.push _)[w.heap.size]? = _; simp), Nat.le_refl _, by decide, rfl, rfl⟩⟩); (case aR => exact HR.alloc (Nat.le_refl _) _); (case aM => simp only [maxLen]; omega); (case aB => omega); (case aS => simp); intro v1 w1 hown hg hat)
    go_ret
    exact ⟨_, rfl, by have := Own.app (xs := []) (ys := xs) (l := A111.l) (by simpa using hown); simpa using this, (below_new (Below.refl _ _) _).grown hg (by simp) (fun k hk => by cases hk; exact Nat.le_refl _)⟩
set_option maxHeartbeats 2000000 in
theorem equal56 (xs : List A111) (A0 A1 : Option Addr) (c0 c1 : Nat) (w : World) (h0 : Kd.C d111 w A0 xs.length xs) (h1 : Kd.C d111 w A1 xs.length xs) (hl : xs.length ≤ 1000000) :
    Calls Try.prog 56 #[.slice A0 xs.length c0, .slice A1 xs.length c1] w fun e w' => e = .returned (.bool true) ∧ Below w.heap.size w w' := by
  by_cases hn : xs = []
  · subst hn
    go_enter Try.func56, Try.ntmps56
    go_wp2
    refine wp_loop_rounds 1 ?_
    rw [rounds_succ]
    go_wp2
    go_ret
    exact ⟨rfl, Below.refl _ _⟩
  obtain ⟨b, off, rfl, hx⟩ := Kp.C_open h0 (List.length_pos_iff.2 hn) (by decide)
  obtain ⟨b2, off2, rfl, hy⟩ := Kp.C_open h1 (List.length_pos_iff.2 hn) (by decide)
  have hu := Try.underlying118
  have HX := hidI hx
  have HY := hidI hy
  clear hx hy hn h0 h1
  go_enter Try.func56, Try.ntmps56
  go_wp2
  go_loopw [13] (fun i wr => ∃ k : Nat, k ≤ xs.length ∧ i = .int .i64 k ∧ Below w.heap.size w wr) (fun i _ => xs.length - (intOf i).toNat)
  case atStart => exact ⟨0, Nat.zero_le _, rfl, Below.refl _ _⟩
  case round =>
    obtain ⟨k, hk, rfl, hb⟩ := hrel
    by_cases hlt : k < xs.length
    · obtain ⟨x, hxe⟩ : ∃ x, x = xs[k] := ⟨_, rfl⟩
      have q0 : wr.cell? ⟨b, off + k * 4, none⟩ = some (.string x.f0) := by rw [hxe]; exact pw_cell_below hb (HX.out k hlt 0 _ rfl)
      have r0 : wr.cell? ⟨b2, off2 + k * 4, none⟩ = some (.string x.f0) := by rw [hxe]; exact pw_cell_below hb (HY.out k hlt 0 _ rfl)
      have q1 : wr.cell? ⟨b, off + k * 4 + 1, none⟩ = some (.string x.f1) := by rw [hxe]; exact pw_cell_below hb (HX.out k hlt 1 _ rfl)
      have r1 : wr.cell? ⟨b2, off2 + k * 4 + 1, none⟩ = some (.string x.f1) := by rw [hxe]; exact pw_cell_below hb (HY.out k hlt 1 _ rfl)
      have q2 : wr.cell? ⟨b, off + k * 4 + 2, none⟩ = some (.int .i64 x.f2) := by rw [hxe]; exact pw_cell_below hb (HX.out k hlt 2 _ rfl)
      have r2 : wr.cell? ⟨b2, off2 + k * 4 + 2, none⟩ = some (.int .i64 x.f2) := by rw [hxe]; exact pw_cell_below hb (HY.out k hlt 2 _ rfl)
      have q3 : wr.cell? ⟨b, off + k * 4 + 3, none⟩ = some (.int .i64 x.f3) := by rw [hxe]; exact pw_cell_below hb (HX.out k hlt 3 _ rfl)
      have r3 : wr.cell? ⟨b2, off2 + k * 4 + 3, none⟩ = some (.int .i64 x.f3) := by rw [hxe]; exact pw_cell_below hb (HY.out k hlt 3 _ rfl)
      clear hxe
      go_wp2
      repeat (go_quiet (fail); try go_wp2)
      go_roundw
      case rel => exact ⟨k + 1, by omega, by go_num, below_drewN hb _⟩
      case measure => simp [intOf]; omega
    · go_wp2
      go_ret
      exact ⟨rfl, hb⟩

def OfL (xs : List A111) (w : World) (en : Ending) (w' : World) : Prop := ∃ A c, en = .returned (.slice A xs.length c) ∧ Own A111.l 4 118 w' w.heap.size (.slice A xs.length c) xs ∧ Below w.heap.size w w'
set_option maxRecDepth 100000 in
set_option maxHeartbeats 4000000 in
theorem lof_any (A : Option Addr) (xs : List A111) (c : Nat) (w : World) (hC : Kd.C d111 w A xs.length xs) (hl : xs.length ≤ 1000000) :
    Calls Try.prog 57 #[.slice A xs.length c] w (OfL xs w) := by
  by_cases h0 : xs = []
  · subst h0
    go_enter Try.func57, Try.ntmps57
    go_wp2
    refine wp_loop_rounds 1 ?_
    rw [rounds_succ]
    go_wp2
    go_ret
    exact ⟨none, 0, rfl, Own.nil _ _ _ _ _, Below.refl _ _⟩
  obtain ⟨b, off, rfl, hx⟩ := Kp.C_open hC (List.length_pos_iff.2 h0) (by decide)
  have HX := hidI hx
  clear hx h0 hC
  go_enter Try.func57, Try.ntmps57
  go_wp2
  go_loopw [3, 8] (fun v i wr => ∃ k : Nat, k ≤ xs.length ∧ i = .int .i64 k ∧ Hid (Own A111.l 4 118 wr w.heap.size v (xs.take k)) ∧ Below w.heap.size w wr) (fun _ i _ => xs.length - (intOf i).toNat)
  case atStart => exact ⟨0, Nat.zero_le _, rfl, hidI (Own.nil _ _ _ _ _), Below.refl _ _⟩
  case round =>
    obtain ⟨k, hk, rfl, hO, hb⟩ := hrel
    by_cases hlt : k < xs.length
    · obtain ⟨x, hxe⟩ : ∃ x, x = xs[k] := ⟨_, rfl⟩
      have q0 : wr.cell? ⟨b, off + k * 4, none⟩ = some (.string x.f0) := by rw [hxe]; exact pw_cell_below hb (HX.out k hlt 0 _ rfl)
      have q1 : wr.cell? ⟨b, off + k * 4 + 1, none⟩ = some (.string x.f1) := by rw [hxe]; exact pw_cell_below hb (HX.out k hlt 1 _ rfl)
      have q2 : wr.cell? ⟨b, off + k * 4 + 2, none⟩ = some (.int .i64 x.f2) := by rw [hxe]; exact pw_cell_below hb (HX.out k hlt 2 _ rfl)
      have q3 : wr.cell? ⟨b, off + k * 4 + 3, none⟩ = some (.int .i64 x.f3) := by rw [hxe]; exact pw_cell_below hb (HX.out k hlt 3 _ rfl)
      have hO' : Hid ((wr.alloc (.cells #[.string x.f0, .string x.f1, .int .i64 x.f2, .int .i64 x.f3] 111)).ownsRow w.heap.size 118 4 u3 k ((xs.take k).flatMap A111.l)) := by
        have h : (wr.alloc (.cells #[.string x.f0, .string x.f1, .int .i64 x.f2, .int .i64 x.f3] 111)).ownsRow w.heap.size 118 4 u3 (xs.take k).length ((xs.take k).flatMap A111.l) := hO.out.alloc _
        rw [List.length_take, Nat.min_eq_left hk] at h
        exact h
      have HB := hidI (below_new hb (.cells #[.string x.f0, .string x.f1, .int .i64 x.f2, .int .i64 x.f3] 111))
      have hsz := HB.out.size
      have htk : Hid (xs.take (k + 1) = xs.take k ++ [x]) := by show _ = _; rw [hxe]; exact List.take_succ_eq_append_getElem hlt
      clear hO hxe
      go_wp2_with (at_builtin; refine print_append_cells (w0 := w) (W := (wr.alloc (.cells #[.string x.f0, .string x.f1, .int .i64 x.f2, .int .i64 x.f3] 111))) w.heap.size rfl (.tmp 12) (.tmp 14) 109 118 (.agg #[(.string ⟨#[]⟩), (.string ⟨#[]⟩), (.int .i64 0), (.int .i64 0)]) 4 48 rfl Try.underlying109 info118 rfl (by decide) (by decide) u3 k ((xs.take k).flatMap A111.l) [.string x.f0, .string x.f1, .int .i64 x.f2, .int .i64 x.f3] (by rfl) (by first | (go_simp; done) | (go_simp; rfl)) rfl (by simp [Value.oneCell']) hO'.out HB.out (by simpa using hsz) (by omega) ?_; intro v5 w5 ho5 hb5 hg5 hat5)
      have hfin : Hid (Own A111.l 4 118 w5 w.heap.size v5 (xs.take (k + 1))) := by
        show Own _ _ _ _ _ _ _
        rw [htk.out]
        refine Own.snoc (p := x) ?_
        rw [List.length_take, Nat.min_eq_left hk]
        exact ho5
      clear ho5 hg5 hat5 hO' HB hb
      go_wp2
      go_roundw
      case rel => exact ⟨k + 1, by omega, by go_num, hfin, hb5⟩
      case measure => simp [intOf]; omega
    · have e : k = xs.length := by omega
      subst e
      rw [List.take_length] at hO
      obtain ⟨A, c', rfl, _⟩ := hO.out.slice_
      go_wp2
      go_ret
      exact ⟨A, c', rfl, hO.out, hb⟩
/-- lots -/
structure Lt (w : World) (base x : Nat) (v : Value) (ls : List A111) : Prop where
  blk : Blk w x #[v] 108
  own : Own A111.l 4 111 w base v ls
theorem Lt.below {w w' : World} {base x : Nat} {v : Value} {ls : List A111} (h : Lt w base x v ls) (hb : Below w.heap.size w w') : Lt w' base x v ls := ⟨h.blk.be hb, h.own.below hb⟩
set_option maxHeartbeats 1000000 in
theorem lall_any (base x : Nat) (v : Value) (ls : List A111) (w : World) (h : Lt w base x v ls) (hl : ls.length ≤ 1000000) :
    Calls Try.prog 64 #[.pointer (some ⟨x, 0, none⟩)] w (Cl111 ls w) := by
  obtain ⟨A, c, rfl, _, hC⟩ := own111e h.own
  have hn := own_nilc h.own
  have c0 := h.blk.c; have l0 := h.blk.lt
  clear h
  go_enter Try.func64, Try.ntmps64
  go_wp2_with fail
  refine (clone111 ls A c _ hn hC (by omega)).mono ?_
  rintro e w' ⟨v', rfl, h1, h2⟩
  go_wp2
  go_ret
  exact ⟨v', rfl, h1, h2⟩
def ClP (ls : List A111) (w : World) (e : Ending) (w' : World) : Prop := ∃ y v', e = .returned (.pointer (some ⟨y, 0, none⟩)) ∧ Lt w' w.heap.size y v' ls ∧ w.heap.size ≤ y ∧ Below w.heap.size w w'
set_option maxHeartbeats 1000000 in
theorem lclone_any (base x : Nat) (v : Value) (ls : List A111) (w : World) (h : Lt w base x v ls) (hl : ls.length ≤ 1000000) :
    Calls Try.prog 54 #[.pointer (some ⟨x, 0, none⟩)] w (ClP ls w) := by
  obtain ⟨A, c, rfl, _, hC⟩ := own111e h.own
  have hn := own_nilc h.own
  have c0 := h.blk.c; have l0 := h.blk.lt
  clear h
  go_enter Try.func54, Try.ntmps54
  go_wp2_with fail
  refine (clone111 ls A c _ hn hC (by omega)).mono ?_
  rintro e w1 ⟨v', rfl, h1, h2⟩
  obtain ⟨A', c', rfl, _⟩ := h1.slice_
  simp only []
  go_wp2
  go_ret
  exact ⟨_, _, rfl, ⟨Blk.new' rfl, h1.alloc _⟩, h2.size, below_new h2 _⟩

end Go.Proofs.Ytliacfjdenfldaa
