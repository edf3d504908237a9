import Derived.Test.YtliacfjdenfldaaGm
/- The reference's gateway: Kind, Of, Records, Take. -/
namespace Go.Proofs.Ytliacfjdenfldaa
open Go.RowKit Go.Proofs.Kq
open Go.Proofs.YtliacfjdenfldaaW.PrintWords (pw_cell_below step_append_cells print_append_cells Kd Kd.C Kd.C_below)
open Go.Proofs.YtliacfjdenfldaaW.PrintLast
set_option linter.unusedSimpArgs false
set_option linter.unusedVariables false

theorem info144 : (Try.prog.info? 144).map (fun i => (i.zero, i.size, i.bytes)) = some (some (.agg #[(.string ⟨#[]⟩), (.string ⟨#[]⟩), (.string ⟨#[]⟩), (.int .i64 0), (.bool false)]), 5, 64) := by kernel_rfl
theorem info137 : (Try.prog.info? 137).map (fun i => (i.zero, i.size, i.bytes)) = some (some (.agg #[(.string ⟨#[]⟩), (.string ⟨#[]⟩), (.int .i64 0)]), 3, 40) := by kernel_rfl
structure Rt (w : World) (base g : Nat) (vr vl : Value) (recs : List A98) (late : List A102) : Prop where
  blk : Blk w g #[vr, vl] 134
  rec_ : Own A98.l 5 144 w base vr recs
  lat : Own A102.l 3 137 w base vl late
theorem Rt.below {w w' : World} {base g : Nat} {vr vl : Value} {recs : List A98} {late : List A102} (h : Rt w base g vr vl recs late) (hb : Below w.heap.size w w') : Rt w' base g vr vl recs late :=
  ⟨h.blk.be hb, h.rec_.below hb, h.lat.below hb⟩
theorem Rt.alloc {w : World} {base g : Nat} {vr vl : Value} {recs : List A98} {late : List A102} (h : Rt w base g vr vl recs late) (o : Obj) : Rt (w.alloc o) base g vr vl recs late :=
  ⟨h.blk.al o, h.rec_.alloc o, h.lat.alloc o⟩
theorem own98e {e : TypeId} {w : World} {base : Nat} {v : Value} {xs : List A98} (h : Own A98.l 5 e w base v xs) : ∃ A c, v = .slice A xs.length c ∧ xs.length ≤ c ∧ Kd.C d98 w A xs.length xs :=
  Own.reads (hl := fun x => (rfl : (A98.l x).length = 5)) (h1 := d98_one) h
theorem own102e {e : TypeId} {w : World} {base : Nat} {v : Value} {xs : List A102} (h : Own A102.l 3 e w base v xs) : ∃ A c, v = .slice A xs.length c ∧ xs.length ≤ c ∧ Kd.C d102 w A xs.length xs :=
  Own.reads (hl := fun x => (rfl : (A102.l x).length = 3)) (h1 := d102_one) h

def z98 : A98 := ⟨⟨#[]⟩, ⟨#[]⟩, ⟨#[]⟩, 0, false⟩
/-- what Kind answers -/
def rKind (key : ByteArray) (recs : List A98) : ByteArray := if fidx key 0 recs < 0 then kUnknown else if (recs.getD (fidx key 0 recs).toNat z98).f4 = true then kAccepted else kDeclined
theorem rKind_at {key : ByteArray} {recs : List A98} {k : Nat} (hk : k < recs.length) (h : fidx key 0 recs = k) : rKind key recs = if recs[k].f4 = true then kAccepted else kDeclined := by
  unfold rKind
  rw [h, if_neg (by omega)]
  simp [List.getElem?_eq_getElem hk]
theorem rKind_no {key : ByteArray} {recs : List A98} (h : fidx key 0 recs = -1) : rKind key recs = kUnknown := by
  unfold rKind; rw [h]; rfl
set_option maxHeartbeats 2000000 in
theorem kind_any (m : Nat) (A : Option Addr) (c : Nat) (vl : Value) (key : ByteArray) (recs : List A98) (w : World) (hB : Blk w m #[.slice A recs.length c, vl] 134) (hC : Kd.C d98 w A recs.length recs) (hl : recs.length ≤ 1000000) :
    Calls Try.prog 96 #[.pointer (some ⟨m, 0, none⟩), .string key] w fun e w' => e = .returned (.string (rKind key recs)) ∧ w = w' := by
  have c0 := hB.c; have l0 := hB.lt
  clear hB
  by_cases h0 : recs = []
  · subst h0
    have hr := hidI (rKind_no (key := key) (recs := []) rfl)
    go_enter Try.func96, Try.ntmps96
    go_wp2
    refine wp_loop_rounds 1 ?_
    rw [rounds_succ]
    go_wp2
    go_ret
    exact ⟨by rw [hr.out]; rfl, rfl⟩
  obtain ⟨b, off, rfl, hx⟩ := Kp.C_open hC (List.length_pos_iff.2 h0) (by decide)
  have HX := hidI hx
  clear hx h0 hC
  go_enter Try.func96, Try.ntmps96
  go_wp2
  go_loop [5] (fun i => ∃ k : Nat, k ≤ recs.length ∧ i = .int .i64 k ∧ Hid (∀ j (h : j < recs.length), j < k → ¬ recs[j].f0.toList = key.toList)) (fun i => recs.length - (intOf i).toNat)
  case atStart => exact ⟨0, Nat.zero_le _, rfl, hidI (fun j _ h => absurd h (by omega))⟩
  case round =>
    obtain ⟨k, hk, rfl, hall⟩ := hrel
    by_cases hlt : k < recs.length
    · obtain ⟨x, hxe⟩ : ∃ x, x = recs[k] := ⟨_, rfl⟩
      have q0 : w.cell? ⟨b, off + k * 5, none⟩ = some (.string x.f0) := by rw [hxe]; exact HX.out k hlt 0 _ rfl
      have q4 : w.cell? ⟨b, off + k * 5 + 4, none⟩ = some (.bool x.f4) := by rw [hxe]; exact HX.out k hlt 4 _ rfl
      have HE := hidI hxe
      by_cases hm : x.f0.toList = key.toList
      · have hf : fidx key 0 recs = k := by
          rw [fidx_skip key recs 0 k hall.out, if_pos hk, List.drop_eq_getElem_cons hlt]
          rw [hxe] at hm
          simp [fidx, hm]
        have hr : Hid (rKind key recs = if x.f4 = true then kAccepted else kDeclined) := by show _ = _; rw [hxe]; exact rKind_at hlt hf
        have hm' : (x.f0.toList == key.toList) = true := by simpa using hm
        clear hm hf hxe
        cases h4 : x.f4
        all_goals
          rw [h4] at q4 hr
          have H4 := hidI h4
          clear h4
          go_wp2
          go_ret
          exact ⟨by rw [hr.out]; rfl, rfl⟩
      · have hm' : (x.f0.toList == key.toList) = false := by simpa using hm
        have HM := hidI hm
        clear hm hxe
        go_wp2
        go_round
        case rel => exact ⟨k + 1, by omega, by go_num, hidI (fun j hj hjk => by
          by_cases e : j < k
          · exact hall.out j hj e
          · obtain rfl : j = k := by omega
            rw [← HE.out]; exact HM.out)⟩
        case measure => simp [intOf]; omega
    · have e : k = recs.length := by omega
      have hr : Hid (rKind key recs = kUnknown) := by
        refine rKind_no ?_
        rw [fidx_skip key recs 0 k hall.out, if_pos hk, e, List.drop_length]; rfl
      clear e
      go_wp2
      go_ret
      exact ⟨by rw [hr.out]; rfl, rfl⟩

def OfP (e : TypeId) (xs : List A102) (w : World) (en : Ending) (w' : World) : Prop := ∃ A c, en = .returned (.slice A xs.length c) ∧ Own A102.l 3 e w' w.heap.size (.slice A xs.length c) xs ∧ Below w.heap.size w w'
set_option maxRecDepth 100000 in
set_option maxHeartbeats 4000000 in
theorem of_any (A : Option Addr) (xs : List A102) (c : Nat) (w : World) (hC : Kd.C d102 w A xs.length xs) (hl : xs.length ≤ 1000000) :
    Calls Try.prog 70 #[.slice A xs.length c] w (OfP 137 xs w) := by
  by_cases h0 : xs = []
  · subst h0
    go_enter Try.func70, Try.ntmps70
    go_wp2
    refine wp_loop_rounds 1 ?_
    rw [rounds_succ]
    go_wp2
    go_ret
    exact ⟨none, 0, rfl, Own.nil _ _ _ _ _, Below.refl _ _⟩
  obtain ⟨b, off, rfl, hx⟩ := Kp.C_open hC (List.length_pos_iff.2 h0) (by decide)
  have HX := hidI hx
  clear hx h0 hC
  go_enter Try.func70, Try.ntmps70
  go_wp2
  go_loopw [3, 8] (fun v i wr => ∃ k : Nat, k ≤ xs.length ∧ i = .int .i64 k ∧ Hid (Own A102.l 3 137 wr w.heap.size v (xs.take k)) ∧ Below w.heap.size w wr) (fun _ i _ => xs.length - (intOf i).toNat)
  case atStart => exact ⟨0, Nat.zero_le _, rfl, hidI (Own.nil _ _ _ _ _), Below.refl _ _⟩
  case round =>
    obtain ⟨k, hk, rfl, hO, hb⟩ := hrel
    by_cases hlt : k < xs.length
    · obtain ⟨x, hxe⟩ : ∃ x, x = xs[k] := ⟨_, rfl⟩
      have q0 : wr.cell? ⟨b, off + k * 3, none⟩ = some (.string x.f0) := by rw [hxe]; exact pw_cell_below hb (HX.out k hlt 0 _ rfl)
      have q1 : wr.cell? ⟨b, off + k * 3 + 1, none⟩ = some (.string x.f1) := by rw [hxe]; exact pw_cell_below hb (HX.out k hlt 1 _ rfl)
      have q2 : wr.cell? ⟨b, off + k * 3 + 2, none⟩ = some (.int .i64 x.f2) := by rw [hxe]; exact pw_cell_below hb (HX.out k hlt 2 _ rfl)
      have hO' : Hid ((wr.alloc (.cells #[.string x.f0, .string x.f1, .int .i64 x.f2] 102)).ownsRow w.heap.size 137 3 u3 k ((xs.take k).flatMap A102.l)) := by
        have h : (wr.alloc (.cells #[.string x.f0, .string x.f1, .int .i64 x.f2] 102)).ownsRow w.heap.size 137 3 u3 (xs.take k).length ((xs.take k).flatMap A102.l) := hO.out.alloc _
        rw [List.length_take, Nat.min_eq_left hk] at h
        exact h
      have HB := hidI (below_new hb (.cells #[.string x.f0, .string x.f1, .int .i64 x.f2] 102))
      have hsz := HB.out.size
      have htk : Hid (xs.take (k + 1) = xs.take k ++ [x]) := by show _ = _; rw [hxe]; exact List.take_succ_eq_append_getElem hlt
      clear hO hxe
      go_wp2_with (at_builtin; refine print_append_cells (w0 := w) (W := (wr.alloc (.cells #[.string x.f0, .string x.f1, .int .i64 x.f2] 102))) w.heap.size rfl (.tmp 12) (.tmp 14) 132 137 (.agg #[(.string ⟨#[]⟩), (.string ⟨#[]⟩), (.int .i64 0)]) 3 40 rfl Try.underlying132 info137 rfl (by decide) (by decide) u3 k ((xs.take k).flatMap A102.l) [.string x.f0, .string x.f1, .int .i64 x.f2] (by rfl) (by first | (go_simp; done) | (go_simp; rfl)) rfl (by simp [Value.oneCell']) hO'.out HB.out (by simpa using hsz) (by omega) ?_; intro v5 w5 ho5 hb5 hg5 hat5)
      have hfin : Hid (Own A102.l 3 137 w5 w.heap.size v5 (xs.take (k + 1))) := by
        show Own _ _ _ _ _ _ _
        rw [htk.out]
        refine Own.snoc (p := x) ?_
        rw [List.length_take, Nat.min_eq_left hk]
        exact ho5
      clear ho5 hg5 hat5 hO' HB hb
      go_wp2
      go_roundw
      case rel => exact ⟨k + 1, by omega, by go_num, hfin, hb5⟩
      case measure => simp [intOf]; omega
    · have e : k = xs.length := by omega
      subst e
      rw [List.take_length] at hO
      obtain ⟨A, c', rfl, _⟩ := hO.out.slice_
      go_wp2
      go_ret
      exact ⟨A, c', rfl, hO.out, hb⟩
def RecP (e : TypeId) (xs : List A98) (w : World) (en : Ending) (w' : World) : Prop := ∃ A c, en = .returned (.slice A xs.length c) ∧ Own A98.l 5 e w' w.heap.size (.slice A xs.length c) xs ∧ Below w.heap.size w w'
set_option maxRecDepth 100000 in
set_option maxHeartbeats 4000000 in
theorem recsof_any (A : Option Addr) (xs : List A98) (c : Nat) (w : World) (hC : Kd.C d98 w A xs.length xs) (hl : xs.length ≤ 1000000) :
    Calls Try.prog 73 #[.slice A xs.length c] w (RecP 144 xs w) := by
  by_cases h0 : xs = []
  · subst h0
    go_enter Try.func73, Try.ntmps73
    go_wp2
    refine wp_loop_rounds 1 ?_
    rw [rounds_succ]
    go_wp2
    go_ret
    exact ⟨none, 0, rfl, Own.nil _ _ _ _ _, Below.refl _ _⟩
  obtain ⟨b, off, rfl, hx⟩ := Kp.C_open hC (List.length_pos_iff.2 h0) (by decide)
  have HX := hidI hx
  clear hx h0 hC
  go_enter Try.func73, Try.ntmps73
  go_wp2
  go_loopw [3, 8] (fun v i wr => ∃ k : Nat, k ≤ xs.length ∧ i = .int .i64 k ∧ Hid (Own A98.l 5 144 wr w.heap.size v (xs.take k)) ∧ Below w.heap.size w wr) (fun _ i _ => xs.length - (intOf i).toNat)
  case atStart => exact ⟨0, Nat.zero_le _, rfl, hidI (Own.nil _ _ _ _ _), Below.refl _ _⟩
  case round =>
    obtain ⟨k, hk, rfl, hO, hb⟩ := hrel
    by_cases hlt : k < xs.length
    · obtain ⟨x, hxe⟩ : ∃ x, x = xs[k] := ⟨_, rfl⟩
      have q0 : wr.cell? ⟨b, off + k * 5, none⟩ = some (.string x.f0) := by rw [hxe]; exact pw_cell_below hb (HX.out k hlt 0 _ rfl)
      have q1 : wr.cell? ⟨b, off + k * 5 + 1, none⟩ = some (.string x.f1) := by rw [hxe]; exact pw_cell_below hb (HX.out k hlt 1 _ rfl)
      have q2 : wr.cell? ⟨b, off + k * 5 + 2, none⟩ = some (.string x.f2) := by rw [hxe]; exact pw_cell_below hb (HX.out k hlt 2 _ rfl)
      have q3 : wr.cell? ⟨b, off + k * 5 + 3, none⟩ = some (.int .i64 x.f3) := by rw [hxe]; exact pw_cell_below hb (HX.out k hlt 3 _ rfl)
      have q4 : wr.cell? ⟨b, off + k * 5 + 4, none⟩ = some (.bool x.f4) := by rw [hxe]; exact pw_cell_below hb (HX.out k hlt 4 _ rfl)
      have hO' : Hid ((wr.alloc (.cells #[.string x.f0, .string x.f1, .string x.f2, .int .i64 x.f3, .bool x.f4] 98)).ownsRow w.heap.size 144 5 u3 k ((xs.take k).flatMap A98.l)) := by
        have h : (wr.alloc (.cells #[.string x.f0, .string x.f1, .string x.f2, .int .i64 x.f3, .bool x.f4] 98)).ownsRow w.heap.size 144 5 u3 (xs.take k).length ((xs.take k).flatMap A98.l) := hO.out.alloc _
        rw [List.length_take, Nat.min_eq_left hk] at h
        exact h
      have HB := hidI (below_new hb (.cells #[.string x.f0, .string x.f1, .string x.f2, .int .i64 x.f3, .bool x.f4] 98))
      have hsz := HB.out.size
      have htk : Hid (xs.take (k + 1) = xs.take k ++ [x]) := by show _ = _; rw [hxe]; exact List.take_succ_eq_append_getElem hlt
      clear hO hxe
      go_wp2_with (at_builtin; refine print_append_cells (w0 := w) (W := (wr.alloc (.cells #[.string x.f0, .string x.f1, .string x.f2, .int .i64 x.f3, .bool x.f4] 98))) w.heap.size rfl (.tmp 12) (.tmp 14) 131 144 (.agg #[(.string ⟨#[]⟩), (.string ⟨#[]⟩), (.string ⟨#[]⟩), (.int .i64 0), (.bool false)]) 5 64 rfl Try.underlying131 info144 rfl (by decide) (by decide) u3 k ((xs.take k).flatMap A98.l) [.string x.f0, .string x.f1, .string x.f2, .int .i64 x.f3, .bool x.f4] (by rfl) (by first | (go_simp; done) | (go_simp; rfl)) rfl (by simp [Value.oneCell']) hO'.out HB.out (by simpa using hsz) (by omega) ?_; intro v5 w5 ho5 hb5 hg5 hat5)
      have hfin : Hid (Own A98.l 5 144 w5 w.heap.size v5 (xs.take (k + 1))) := by
        show Own _ _ _ _ _ _ _
        rw [htk.out]
        refine Own.snoc (p := x) ?_
        rw [List.length_take, Nat.min_eq_left hk]
        exact ho5
      clear ho5 hg5 hat5 hO' HB hb
      go_wp2
      go_roundw
      case rel => exact ⟨k + 1, by omega, by go_num, hfin, hb5⟩
      case measure => simp [intOf]; omega
    · have e : k = xs.length := by omega
      subst e
      rw [List.take_length] at hO
      obtain ⟨A, c', rfl, _⟩ := hO.out.slice_
      go_wp2
      go_ret
      exact ⟨A, c', rfl, hO.out, hb⟩
end Go.Proofs.Ytliacfjdenfldaa
