import Derived.Test.YtliacfjdenfldaaGf
import Derived.Laws.StructEq
namespace Go.Proofs.Ytliacfjdenfldaa
open Go.RowKit Go.Proofs.Kq
open Go.Proofs.YtliacfjdenfldaaW.PrintWords (pw_cell_below step_append_cells print_append_cells Kd Kd.C Kd.C_below)
open Go.Proofs.YtliacfjdenfldaaW.PrintLast
set_option linter.unusedSimpArgs false
set_option linter.unusedVariables false

set_option maxHeartbeats 1000000 in
theorem records_any (base g : Nat) (vr vl : Value) (recs : List A98) (late : List A102) (w : World) (hG : Gt w base g vr vl recs late) (hl : recs.length ≤ 100000) :
    Calls Try.prog 48 #[.pointer (some ⟨g, 0, none⟩)] w (Cl98 recs w) := by
  obtain ⟨hB, hR, hL⟩ := hG
  have hC : ∃ A c, vr = .slice A recs.length c ∧ (A = none → recs.length = 0 ∧ c = 0) ∧ Kd.C d98 w A recs.length recs := by
    obtain ⟨A, c, rfl, _, h⟩ := own98 hR
    refine ⟨A, c, rfl, fun h => ?_, h⟩
    subst h
    rcases hR.cases_ with ⟨h, rfl⟩ | ⟨b, c, h, _⟩
    · injection h with _ _ h2; exact ⟨rfl, h2⟩
    · injection h with h2; cases h2
  obtain ⟨A, c, rfl, hn, hC⟩ := hC
  have c0 := hB.c; have l0 := hB.lt
  clear hB hR hL
  go_enter Try.func48, Try.ntmps48
  go_wp2_with fail
  refine (clone98 recs A c _ hn hC (by omega)).mono ?_
  rintro e w' ⟨v', rfl, h1, h2⟩
  go_wp2
  go_ret
  exact ⟨v', rfl, h1, h2⟩

set_option maxHeartbeats 1000000 in
theorem waiting_any (base g : Nat) (vr vl : Value) (recs : List A98) (late : List A102) (w : World) (hG : Gt w base g vr vl recs late) :
    Calls Try.prog 74 #[.pointer (some ⟨g, 0, none⟩)] w fun e w' => e = .returned (.int .i64 late.length) ∧ w' = w := by
  obtain ⟨hB, hR, hL⟩ := hG
  obtain ⟨A, c, rfl, _, h⟩ := own102 hL
  have c0 := hB.c; have l0 := hB.lt
  clear hB hR hL
  go_enter Try.func74, Try.ntmps74
  go_wp2
  go_ret
  exact ⟨rfl, rfl⟩

set_option maxHeartbeats 2000000 in
theorem equal50 (xs : List A98) (A0 A1 : Option Addr) (c0 c1 : Nat) (w : World) (h0 : Kd.C d98 w A0 xs.length xs) (h1 : Kd.C d98 w A1 xs.length xs) (hl : xs.length ≤ 1000000) :
    Calls Try.prog 50 #[.slice A0 xs.length c0, .slice A1 xs.length c1] w fun e w' => e = .returned (.bool true) ∧ Below w.heap.size w w' := by
  by_cases hn : xs = []
  · subst hn
    go_enter Try.func50, Try.ntmps50
    go_wp2
    refine wp_loop_rounds 1 ?_
    rw [rounds_succ]
    go_wp2
    go_ret
    exact ⟨rfl, Below.refl _ _⟩
  obtain ⟨b, off, rfl, hx⟩ := Kp.C_open h0 (List.length_pos_iff.2 hn) (by decide)
  obtain ⟨b2, off2, rfl, hy⟩ := Kp.C_open h1 (List.length_pos_iff.2 hn) (by decide)
  have hu := Try.underlying98
  have HX := hidI hx
  have HY := hidI hy
  clear hx hy hn h0 h1
  go_enter Try.func50, Try.ntmps50
  go_wp2
  go_loopw [13] (fun i wr => ∃ k : Nat, k ≤ xs.length ∧ i = .int .i64 k ∧ Below w.heap.size w wr) (fun i _ => xs.length - (intOf i).toNat)
  case atStart => exact ⟨0, Nat.zero_le _, rfl, Below.refl _ _⟩
  case round =>
    obtain ⟨k, hk, rfl, hb⟩ := hrel
    by_cases hlt : k < xs.length
    · obtain ⟨x, hxe⟩ : ∃ x, x = xs[k] := ⟨_, rfl⟩
      have q0 : wr.cell? ⟨b, off + k * 5, none⟩ = some (.string x.f0) := by rw [hxe]; exact pw_cell_below hb (HX.out k hlt 0 _ rfl)
      have r0 : wr.cell? ⟨b2, off2 + k * 5, none⟩ = some (.string x.f0) := by rw [hxe]; exact pw_cell_below hb (HY.out k hlt 0 _ rfl)
      have q1 : wr.cell? ⟨b, off + k * 5 + 1, none⟩ = some (.string x.f1) := by rw [hxe]; exact pw_cell_below hb (HX.out k hlt 1 _ rfl)
      have r1 : wr.cell? ⟨b2, off2 + k * 5 + 1, none⟩ = some (.string x.f1) := by rw [hxe]; exact pw_cell_below hb (HY.out k hlt 1 _ rfl)
      have q2 : wr.cell? ⟨b, off + k * 5 + 2, none⟩ = some (.string x.f2) := by rw [hxe]; exact pw_cell_below hb (HX.out k hlt 2 _ rfl)
      have r2 : wr.cell? ⟨b2, off2 + k * 5 + 2, none⟩ = some (.string x.f2) := by rw [hxe]; exact pw_cell_below hb (HY.out k hlt 2 _ rfl)
      have q3 : wr.cell? ⟨b, off + k * 5 + 3, none⟩ = some (.int .i64 x.f3) := by rw [hxe]; exact pw_cell_below hb (HX.out k hlt 3 _ rfl)
      have r3 : wr.cell? ⟨b2, off2 + k * 5 + 3, none⟩ = some (.int .i64 x.f3) := by rw [hxe]; exact pw_cell_below hb (HY.out k hlt 3 _ rfl)
      have q4 : wr.cell? ⟨b, off + k * 5 + 4, none⟩ = some (.bool x.f4) := by rw [hxe]; exact pw_cell_below hb (HX.out k hlt 4 _ rfl)
      have r4 : wr.cell? ⟨b2, off2 + k * 5 + 4, none⟩ = some (.bool x.f4) := by rw [hxe]; exact pw_cell_below hb (HY.out k hlt 4 _ rfl)
      clear hxe
      go_wp2
      repeat (go_quiet (fail); try go_wp2)
      go_roundw
      case rel => exact ⟨k + 1, by omega, by go_num, below_drewN hb _⟩
      case measure => simp [intOf]; omega
    · go_wp2
      go_ret
      exact ⟨rfl, hb⟩

set_option maxHeartbeats 2000000 in
theorem equal87 (xs : List A102) (A0 A1 : Option Addr) (c0 c1 : Nat) (w : World) (h0 : Kd.C d102 w A0 xs.length xs) (h1 : Kd.C d102 w A1 xs.length xs) (hl : xs.length ≤ 1000000) :
    Calls Try.prog 87 #[.slice A0 xs.length c0, .slice A1 xs.length c1] w fun e w' => e = .returned (.bool true) ∧ Below w.heap.size w w' := by
  by_cases hn : xs = []
  · subst hn
    go_enter Try.func87, Try.ntmps87
    go_wp2
    refine wp_loop_rounds 1 ?_
    rw [rounds_succ]
    go_wp2
    go_ret
    exact ⟨rfl, Below.refl _ _⟩
  obtain ⟨b, off, rfl, hx⟩ := Kp.C_open h0 (List.length_pos_iff.2 hn) (by decide)
  obtain ⟨b2, off2, rfl, hy⟩ := Kp.C_open h1 (List.length_pos_iff.2 hn) (by decide)
  have hu := Try.underlying102
  have HX := hidI hx
  have HY := hidI hy
  clear hx hy hn h0 h1
  go_enter Try.func87, Try.ntmps87
  go_wp2
  go_loopw [13] (fun i wr => ∃ k : Nat, k ≤ xs.length ∧ i = .int .i64 k ∧ Below w.heap.size w wr) (fun i _ => xs.length - (intOf i).toNat)
  case atStart => exact ⟨0, Nat.zero_le _, rfl, Below.refl _ _⟩
  case round =>
    obtain ⟨k, hk, rfl, hb⟩ := hrel
    by_cases hlt : k < xs.length
    · obtain ⟨x, hxe⟩ : ∃ x, x = xs[k] := ⟨_, rfl⟩
      have q0 : wr.cell? ⟨b, off + k * 3, none⟩ = some (.string x.f0) := by rw [hxe]; exact pw_cell_below hb (HX.out k hlt 0 _ rfl)
      have r0 : wr.cell? ⟨b2, off2 + k * 3, none⟩ = some (.string x.f0) := by rw [hxe]; exact pw_cell_below hb (HY.out k hlt 0 _ rfl)
      have q1 : wr.cell? ⟨b, off + k * 3 + 1, none⟩ = some (.string x.f1) := by rw [hxe]; exact pw_cell_below hb (HX.out k hlt 1 _ rfl)
      have r1 : wr.cell? ⟨b2, off2 + k * 3 + 1, none⟩ = some (.string x.f1) := by rw [hxe]; exact pw_cell_below hb (HY.out k hlt 1 _ rfl)
      have q2 : wr.cell? ⟨b, off + k * 3 + 2, none⟩ = some (.int .i64 x.f2) := by rw [hxe]; exact pw_cell_below hb (HX.out k hlt 2 _ rfl)
      have r2 : wr.cell? ⟨b2, off2 + k * 3 + 2, none⟩ = some (.int .i64 x.f2) := by rw [hxe]; exact pw_cell_below hb (HY.out k hlt 2 _ rfl)
      clear hxe
      go_wp2
      repeat (go_quiet (fail); try go_wp2)
      go_roundw
      case rel => exact ⟨k + 1, by omega, by go_num, below_drewN hb _⟩
      case measure => simp [intOf]; omega
    · go_wp2
      go_ret
      exact ⟨rfl, hb⟩

set_option maxHeartbeats 2000000 in
theorem equal69 (xs : List A102) (A0 A1 : Option Addr) (c0 c1 : Nat) (w : World) (h0 : Kd.C d102 w A0 xs.length xs) (h1 : Kd.C d102 w A1 xs.length xs) (hl : xs.length ≤ 1000000) :
    Calls Try.prog 69 #[.slice A0 xs.length c0, .slice A1 xs.length c1] w fun e w' => e = .returned (.bool true) ∧ Below w.heap.size w w' := by
  by_cases hn : xs = []
  · subst hn
    go_enter Try.func69, Try.ntmps69
    go_wp2
    refine wp_loop_rounds 1 ?_
    rw [rounds_succ]
    go_wp2
    go_ret
    exact ⟨rfl, Below.refl _ _⟩
  obtain ⟨b, off, rfl, hx⟩ := Kp.C_open h0 (List.length_pos_iff.2 hn) (by decide)
  obtain ⟨b2, off2, rfl, hy⟩ := Kp.C_open h1 (List.length_pos_iff.2 hn) (by decide)
  have hu := Try.underlying137
  have HX := hidI hx
  have HY := hidI hy
  clear hx hy hn h0 h1
  go_enter Try.func69, Try.ntmps69
  go_wp2
  go_loopw [13] (fun i wr => ∃ k : Nat, k ≤ xs.length ∧ i = .int .i64 k ∧ Below w.heap.size w wr) (fun i _ => xs.length - (intOf i).toNat)
  case atStart => exact ⟨0, Nat.zero_le _, rfl, Below.refl _ _⟩
  case round =>
    obtain ⟨k, hk, rfl, hb⟩ := hrel
    by_cases hlt : k < xs.length
    · obtain ⟨x, hxe⟩ : ∃ x, x = xs[k] := ⟨_, rfl⟩
      have q0 : wr.cell? ⟨b, off + k * 3, none⟩ = some (.string x.f0) := by rw [hxe]; exact pw_cell_below hb (HX.out k hlt 0 _ rfl)
      have r0 : wr.cell? ⟨b2, off2 + k * 3, none⟩ = some (.string x.f0) := by rw [hxe]; exact pw_cell_below hb (HY.out k hlt 0 _ rfl)
      have q1 : wr.cell? ⟨b, off + k * 3 + 1, none⟩ = some (.string x.f1) := by rw [hxe]; exact pw_cell_below hb (HX.out k hlt 1 _ rfl)
      have r1 : wr.cell? ⟨b2, off2 + k * 3 + 1, none⟩ = some (.string x.f1) := by rw [hxe]; exact pw_cell_below hb (HY.out k hlt 1 _ rfl)
      have q2 : wr.cell? ⟨b, off + k * 3 + 2, none⟩ = some (.int .i64 x.f2) := by rw [hxe]; exact pw_cell_below hb (HX.out k hlt 2 _ rfl)
      have r2 : wr.cell? ⟨b2, off2 + k * 3 + 2, none⟩ = some (.int .i64 x.f2) := by rw [hxe]; exact pw_cell_below hb (HY.out k hlt 2 _ rfl)
      clear hxe
      go_wp2
      repeat (go_quiet (fail); try go_wp2)
      go_roundw
      case rel => exact ⟨k + 1, by omega, by go_num, below_drewN hb _⟩
      case measure => simp [intOf]; omega
    · go_wp2
      go_ret
      exact ⟨rfl, hb⟩

set_option maxHeartbeats 2000000 in
theorem equal72 (xs : List A98) (A0 A1 : Option Addr) (c0 c1 : Nat) (w : World) (h0 : Kd.C d98 w A0 xs.length xs) (h1 : Kd.C d98 w A1 xs.length xs) (hl : xs.length ≤ 1000000) :
    Calls Try.prog 72 #[.slice A0 xs.length c0, .slice A1 xs.length c1] w fun e w' => e = .returned (.bool true) ∧ Below w.heap.size w w' := by
  by_cases hn : xs = []
  · subst hn
    go_enter Try.func72, Try.ntmps72
    go_wp2
    refine wp_loop_rounds 1 ?_
    rw [rounds_succ]
    go_wp2
    go_ret
    exact ⟨rfl, Below.refl _ _⟩
  obtain ⟨b, off, rfl, hx⟩ := Kp.C_open h0 (List.length_pos_iff.2 hn) (by decide)
  obtain ⟨b2, off2, rfl, hy⟩ := Kp.C_open h1 (List.length_pos_iff.2 hn) (by decide)
  have hu := Try.underlying144
  have HX := hidI hx
  have HY := hidI hy
  clear hx hy hn h0 h1
  go_enter Try.func72, Try.ntmps72
  go_wp2
  go_loopw [13] (fun i wr => ∃ k : Nat, k ≤ xs.length ∧ i = .int .i64 k ∧ Below w.heap.size w wr) (fun i _ => xs.length - (intOf i).toNat)
  case atStart => exact ⟨0, Nat.zero_le _, rfl, Below.refl _ _⟩
  case round =>
    obtain ⟨k, hk, rfl, hb⟩ := hrel
    by_cases hlt : k < xs.length
    · obtain ⟨x, hxe⟩ : ∃ x, x = xs[k] := ⟨_, rfl⟩
      have q0 : wr.cell? ⟨b, off + k * 5, none⟩ = some (.string x.f0) := by rw [hxe]; exact pw_cell_below hb (HX.out k hlt 0 _ rfl)
      have r0 : wr.cell? ⟨b2, off2 + k * 5, none⟩ = some (.string x.f0) := by rw [hxe]; exact pw_cell_below hb (HY.out k hlt 0 _ rfl)
      have q1 : wr.cell? ⟨b, off + k * 5 + 1, none⟩ = some (.string x.f1) := by rw [hxe]; exact pw_cell_below hb (HX.out k hlt 1 _ rfl)
      have r1 : wr.cell? ⟨b2, off2 + k * 5 + 1, none⟩ = some (.string x.f1) := by rw [hxe]; exact pw_cell_below hb (HY.out k hlt 1 _ rfl)
      have q2 : wr.cell? ⟨b, off + k * 5 + 2, none⟩ = some (.string x.f2) := by rw [hxe]; exact pw_cell_below hb (HX.out k hlt 2 _ rfl)
      have r2 : wr.cell? ⟨b2, off2 + k * 5 + 2, none⟩ = some (.string x.f2) := by rw [hxe]; exact pw_cell_below hb (HY.out k hlt 2 _ rfl)
      have q3 : wr.cell? ⟨b, off + k * 5 + 3, none⟩ = some (.int .i64 x.f3) := by rw [hxe]; exact pw_cell_below hb (HX.out k hlt 3 _ rfl)
      have r3 : wr.cell? ⟨b2, off2 + k * 5 + 3, none⟩ = some (.int .i64 x.f3) := by rw [hxe]; exact pw_cell_below hb (HY.out k hlt 3 _ rfl)
      have q4 : wr.cell? ⟨b, off + k * 5 + 4, none⟩ = some (.bool x.f4) := by rw [hxe]; exact pw_cell_below hb (HX.out k hlt 4 _ rfl)
      have r4 : wr.cell? ⟨b2, off2 + k * 5 + 4, none⟩ = some (.bool x.f4) := by rw [hxe]; exact pw_cell_below hb (HY.out k hlt 4 _ rfl)
      clear hxe
      go_wp2
      repeat (go_quiet (fail); try go_wp2)
      go_roundw
      case rel => exact ⟨k + 1, by omega, by go_num, below_drewN hb _⟩
      case measure => simp [intOf]; omega
    · go_wp2
      go_ret
      exact ⟨rfl, hb⟩

end Go.Proofs.Ytliacfjdenfldaa
