import Derived.Test.YtliacfjdenfldaaGc
namespace Go.Proofs.Ytliacfjdenfldaa
open Go.RowKit Go.Proofs.Kq
open Go.Proofs.YtliacfjdenfldaaW.PrintWords (pw_cell_below step_append_cells print_append_cells Kd Kd.C Kd.C_below)
set_option linter.unusedSimpArgs false
set_option linter.unusedVariables false

theorem fidx_cases (key : ByteArray) : ∀ (xs : List A98) (i : Nat), fidx key i xs = -1 ∨ ∃ (k : Nat) (h : k < xs.length), fidx key i xs = (i + k : Nat) ∧ xs[k].f0.toList = key.toList
  | [], i => Or.inl rfl
  | x :: xs, i => by
    by_cases hx : x.f0.toList = key.toList
    · exact Or.inr ⟨0, by simp, by simp [fidx, hx], hx⟩
    · rcases fidx_cases key xs (i + 1) with h | ⟨k, hk, h1, h2⟩
      · exact Or.inl (by simp [fidx, hx, h])
      · exact Or.inr ⟨k + 1, by simpa using hk, by simp only [fidx, if_neg hx, h1]; congr 1; omega, by simpa using h2⟩

set_option maxRecDepth 100000 in
set_option maxHeartbeats 2000000 in
theorem answer_old (base g : Nat) (vr vl : Value) (key kd pa cu : ByteArray) (am att c : Int) (recs : List A98) (late : List A102) (w : World)
    (hG : Gt w base g vr vl recs late) (hb : base ≤ w.heap.size) (hl : recs.length ≤ 100000) (k : Nat) (hk : k < recs.length) (h0 : fidx key 0 recs = k) :
    Calls Try.prog 89 #[.pointer (some ⟨g, 0, none⟩), .agg #[.string kd, .string key, .string pa, .string cu, .int .i64 am, .int .i64 att], .int .u8 c] w (AnsP base g vr vl key kd pa cu am att c recs late w) := by
  have hs : Hid (sKind key kd c recs = if recs[k].f4 = true then kAccepted else kDeclined) := by
    show _ = _
    have hn : ¬ (k : Int) < 0 := by omega
    simp [sKind, sMoved, h0, List.getElem?_eq_getElem hk, hn]
  have hr : Hid (sRecs key kd pa cu am c recs = recs) := by
    have hn : ¬ (k : Int) < 0 := by omega
    show _ = _; simp [sRecs, h0, hn]
  obtain ⟨hB, hR, hL⟩ := hG
  obtain ⟨b, cp, rfl⟩ : ∃ b cp, vr = .slice (some ⟨b, 0, none⟩) recs.length cp := by
    rcases hR.cases_ with ⟨_, h⟩ | ⟨b, c, h, _⟩
    · subst h; simp at hk
    · exact ⟨b, c, h⟩
  have q := own98_at hR k hk 4 _ rfl
  obtain ⟨A, cp', hv, _, hC⟩ := own98 hR
  obtain rfl : cp = cp' := by injection hv
  obtain rfl : (some ⟨b, 0, none⟩ : Option Addr) = A := by injection hv
  clear hv
  have H0 := hidI h0
  have c0 := hB.c; have l0 := hB.lt; have f0 := hB.f
  have HB := hidI hB
  have HQ := hidI q
  have hbl : b < w.heap.size := hR.lt rfl
  clear h0 hB q
  go_enter Try.func89, Try.ntmps89
  go_wp2_with fail
  refine (find_any g _ recs cp vl key _ ((HB.out.al _).al _) (Kd.C_below hC (below_new (below_new (Below.refl _ _) _) _)) (by omega)).mono ?_
  rintro e w1 ⟨rfl, hb1⟩
  rw [H0.out]
  have B1 := Blk.be (w := w1) (b := g) ((HB.out.al _).al _) hb1
  have B2 := Blk.be (w := w1) (b := w.heap.size) (by repeat (first | (apply Blk.new'; (simp; done)) | apply Blk.al)) hb1
  have B3 := Blk.be (w := w1) (b := w.heap.size + 1) (by repeat (first | (apply Blk.new'; (simp; done)) | apply Blk.al)) hb1
  have l3 := B3.lt; have c3 := B3.c; have f3 := B3.f
  have c1 := B1.c; have l1 := B1.lt; have f1 := B1.f
  have c2 := B2.c; have l2 := B2.lt; have f2 := B2.f
  have hbw : Below w.heap.size w w1 := below_step (below_new (below_new (Below.refl _ _) _) _) hb1
  have q1 := pw_cell_below hbw HQ.out
  have HBW := hidI hbw
  clear c0 f0 hbw hb1
  generalize hf4 : recs[k].f4 = f4 at q1
  cases f4
  all_goals
    have HF := hidI hf4
    clear hf4
    go_wp2
    have hBf := ((B3.st 0 (.string key)).st 1 (.string (sKind key kd c recs))).st 2 (.int .i64 att)
    rw [hs.out, HF.out] at hBf
    refine bodyPost_ret (v := .agg #[.string key, .string (sKind key kd c recs), .int .i64 att]) (by
      rw [hs.out, HF.out]
      exact res89 hBf rfl rfl rfl rfl) rfl ?_
    have hF : Fr (fun k => k = g ∨ (Value.slice (some ⟨b, 0, none⟩) recs.length cp).ownBlock = some k) w w1 := Fr.of_below HBW.out
    refine ⟨rfl, _, ⟨((B1.so (by simp; omega)).so (by simp; omega)).so (by simp; omega), ?_, ?_⟩, ((hF.setCell (by simp; omega) _).setCell (by simp; omega) _).setCell (by simp; omega) _, fun k hk => Or.inl hk⟩
    · rw [hr.out]
      have nb : (Value.slice (some ⟨b, 0, none⟩) recs.length cp).ownBlock ≠ some (w.heap.size + 1) := fun h => by have := hR.lt h; omega
      exact (((hR.below HBW.out).far (p := ⟨_, 0, none⟩) nb _).far (p := ⟨_, 1, none⟩) nb _).far (p := ⟨_, 2, none⟩) nb _
    · have nb : vl.ownBlock ≠ some (w.heap.size + 1) := fun h => by have := hL.lt h; omega
      exact (((hL.below HBW.out).far (p := ⟨_, 0, none⟩) nb _).far (p := ⟨_, 1, none⟩) nb _).far (p := ⟨_, 2, none⟩) nb _

set_option maxRecDepth 100000 in
set_option maxHeartbeats 2000000 in
theorem answer_unk (base g : Nat) (vr vl : Value) (key kd pa cu : ByteArray) (am att c : Int) (recs : List A98) (late : List A102) (w : World)
    (hG : Gt w base g vr vl recs late) (hb : base ≤ w.heap.size) (hl : recs.length ≤ 100000) (h0 : fidx key 0 recs = -1) (hk : ¬ kd.toList = [112, 97, 121]) :
    Calls Try.prog 89 #[.pointer (some ⟨g, 0, none⟩), .agg #[.string kd, .string key, .string pa, .string cu, .int .i64 am, .int .i64 att], .int .u8 c] w (AnsP base g vr vl key kd pa cu am att c recs late w) := by
  have hs : Hid (sKind key kd c recs = kUnknown) := by
    show _ = _
    simp [sKind, sMoved, h0, hk]
  have hr : Hid (sRecs key kd pa cu am c recs = recs) := by show _ = _; simp [sRecs, hk]
  obtain ⟨hB, hR, hL⟩ := hG
  obtain ⟨A, cp, rfl, hcp, hC⟩ := own98 hR
  have hkb : (kd.toList == [112, 97, 121]) = false := by simpa using hk
  have H0 := hidI h0
  have c0 := hB.c; have l0 := hB.lt; have f0 := hB.f
  have HB := hidI hB
  clear h0 hB hk
  go_enter Try.func89, Try.ntmps89
  go_wp2_with fail
  refine (find_any g A recs cp vl key _ ((HB.out.al _).al _) (Kd.C_below hC (below_new (below_new (Below.refl _ _) _) _)) (by omega)).mono ?_
  rintro e w1 ⟨rfl, hb1⟩
  rw [H0.out]
  have B1 := Blk.be (w := w1) (b := g) ((HB.out.al _).al _) hb1
  have B2 := Blk.be (w := w1) (b := w.heap.size) (by repeat (first | (apply Blk.new'; (simp; done)) | apply Blk.al)) hb1
  have B3 := Blk.be (w := w1) (b := w.heap.size + 1) (by repeat (first | (apply Blk.new'; (simp; done)) | apply Blk.al)) hb1
  have l3 := B3.lt; have c3 := B3.c; have f3 := B3.f
  have c1 := B1.c; have l1 := B1.lt; have f1 := B1.f
  have c2 := B2.c; have l2 := B2.lt; have f2 := B2.f
  have hbw : Below w.heap.size w w1 := below_step (below_new (below_new (Below.refl _ _) _) _) hb1
  have HBW := hidI hbw
  clear c0 f0 hbw hb1
  go_wp2
  have hBf := ((B3.st 0 (.string key)).st 1 (.string kUnknown)).st 2 (.int .i64 att)
  refine bodyPost_ret (v := .agg #[.string key, .string (sKind key kd c recs), .int .i64 att]) (by
    rw [hs.out]
    exact res89 hBf rfl rfl rfl rfl) rfl ?_
  have hF : Fr (fun k => k = g ∨ (Value.slice A recs.length cp).ownBlock = some k) w w1 := Fr.of_below HBW.out
  refine ⟨rfl, _, ⟨((B1.so (by simp; omega)).so (by simp; omega)).so (by simp; omega), ?_, ?_⟩, ((hF.setCell (by simp; omega) _).setCell (by simp; omega) _).setCell (by simp; omega) _, fun k hk => Or.inl hk⟩
  · rw [hr.out]
    have nb : (Value.slice A recs.length cp).ownBlock ≠ some (w.heap.size + 1) := fun h => by have := hR.lt h; omega
    exact (((hR.below HBW.out).far (p := ⟨_, 0, none⟩) nb _).far (p := ⟨_, 1, none⟩) nb _).far (p := ⟨_, 2, none⟩) nb _
  · have nb : vl.ownBlock ≠ some (w.heap.size + 1) := fun h => by have := hL.lt h; omega
    exact (((hL.below HBW.out).far (p := ⟨_, 0, none⟩) nb _).far (p := ⟨_, 1, none⟩) nb _).far (p := ⟨_, 2, none⟩) nb _

theorem answer_any (base g : Nat) (vr vl : Value) (key kd pa cu : ByteArray) (am att c : Int) (recs : List A98) (late : List A102) (w : World)
    (hG : Gt w base g vr vl recs late) (hb : base ≤ w.heap.size) (hl : recs.length ≤ 100000) :
    Calls Try.prog 89 #[.pointer (some ⟨g, 0, none⟩), .agg #[.string kd, .string key, .string pa, .string cu, .int .i64 am, .int .i64 att], .int .u8 c] w (AnsP base g vr vl key kd pa cu am att c recs late w) := by
  rcases fidx_cases key recs 0 with h | ⟨k, hk, h, _⟩
  · by_cases hp : kd.toList = [112, 97, 121]
    · exact answer_new base g vr vl key kd pa cu am att c recs late w hG hb hl h hp
    · exact answer_unk base g vr vl key kd pa cu am att c recs late w hG hb hl h hp
  · exact answer_old base g vr vl key kd pa cu am att c recs late w hG hb hl k hk (by rw [h]; simp)

end Go.Proofs.Ytliacfjdenfldaa
