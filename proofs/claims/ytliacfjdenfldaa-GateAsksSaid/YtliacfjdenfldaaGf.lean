import Derived.Test.YtliacfjdenfldaaGe
namespace Go.Proofs.Ytliacfjdenfldaa
open Go.RowKit Go.Proofs.Kq
open Go.Proofs.YtliacfjdenfldaaW.PrintWords (pw_cell_below step_append_cells print_append_cells Kd Kd.C Kd.C_below)
open Go.Proofs.YtliacfjdenfldaaW.PrintLast
set_option linter.unusedSimpArgs false
set_option linter.unusedVariables false

set_option maxRecDepth 100000 in
set_option maxHeartbeats 4000000 in
theorem ask_late6 (base g : Nat) (vr vl : Value) (key kd pa cu : ByteArray) (am att c : Int) (recs : List A98) (late : List A102) (w : World)
    (hG : Gt w base g vr vl recs late) (hb : base ≤ w.heap.size) (hl : recs.length ≤ 100000) (hl2 : late.length ≤ 100000) (hc : 0 ≤ c ∧ c < 256) (h : gOk kd (c % 8) = true) (hm : c % 8 = 6) :
    Calls Try.prog 49 #[.pointer (some ⟨g, 0, none⟩), .agg #[.string kd, .string key, .string pa, .string cu, .int .i64 am, .int .i64 att], .int .u8 c] w (AskP base g vr vl key kd pa cu am att (c % 8) recs late w) := by
  have hpq : kd.toList = [112, 97, 121] ∨ ((kd.toList == [112, 97, 121]) = false ∧ kd.toList = [113, 117, 101, 114, 121]) := by
    simp only [gOk, asks, Bool.and_eq_true, Bool.or_eq_true, beq_iff_eq] at h
    by_cases hp : kd.toList = [112, 97, 121]
    · exact Or.inl hp
    · exact Or.inr ⟨by simpa using hp, h.2.resolve_left hp⟩
  have hend : Hid (∀ vr' vl' w', Gt w' base g vr' vl' (sRecs key kd pa cu am 6 recs) (late ++ [sX key kd att 6 recs]) →
      Fr (fun k => k = g ∨ vr.ownBlock = some k ∨ vl.ownBlock = some k) w w' → (∀ k, vr'.ownBlock = some k → vr.ownBlock = some k ∨ w.heap.size ≤ k) → (∀ k, vl'.ownBlock = some k → vl.ownBlock = some k ∨ w.heap.size ≤ k) → AskP base g vr vl key kd pa cu am att (c % 8) recs late w (.returned (.slice none 0 0)) w') := by
    intro vr' vl' w' h2 h3 h4 h5
    have e : tLate key kd att 6 recs late = late ++ [sX key kd att 6 recs] := by rw [hm] at h; simp [tLate, h]
    have e2 : tTold key kd att 6 recs = [] := by rw [hm] at h; simp [tTold, h]
    rw [hm] at h ⊢
    exact ⟨_, vr', vl', rfl, by rw [e2]; exact Own.nil _ _ _ _ _, by rw [e]; simp only [tRecs, h, if_true]; exact h2, h3, h4, h5⟩
  have hg := hG.blk.lt
  obtain ⟨A, cp, rfl, hcp, hC⟩ := own102 hG.lat
  have HG := hidI hG
  clear h hG hC
  rcases hpq with hp | ⟨hp, hq⟩
  all_goals
    go_enter Try.func49, Try.ntmps49
    go_wp2_with fail
    rw [hm]
    refine (answer_any base g vr _ key kd pa cu am att 6 recs late _ (HG.out.alloc _) (by simp; omega) hl).mono ?_
    rintro e w1 ⟨rfl, vr', hG1, hF1, hat1⟩
    have hs1 := hF1.size
    have hF0 : Fr (fun k => k = g ∨ vr.ownBlock = some k) w w1 := ((Fr.refl _ w).alloc _).trans hF1 (fun b _ h => h)
    have hat : ∀ k, vr'.ownBlock = some k → vr.ownBlock = some k ∨ w.heap.size ≤ k := fun k hk => by
      rcases hat1 k hk with h | h
      · exact Or.inl h
      · simp at h; exact Or.inr (by omega)
    simp only [World.size_alloc] at hs1
    clear hF1 hat1
    go_wp2
    have hG2 := hG1.alloc (.cells #[.string key, .string (sKind key kd 6 recs), .int .i64 att] 102)
    have B3 := Blk.new' (w := w1) (b := w1.heap.size) (cs := #[.string key, .string (sKind key kd 6 recs), .int .i64 att]) (T := 102) rfl
    have hF2 := hF0.alloc (.cells #[.string key, .string (sKind key kd 6 recs), .int .i64 att] 102)
    have hs2' : (w1.alloc (.cells #[.string key, .string (sKind key kd 6 recs), .int .i64 att] 102)).heap.size = w1.heap.size + 1 := by simp
    generalize w1.alloc _ = w2 at *
    have B2 := hG2.blk
    have c2 := B2.c; have l2 := B2.lt; have f2 := B2.f
    have c3 := B3.c; have l3 := B3.lt
    have HL2 := hG2.lat
    have hbb : base ≤ w2.heap.size := by omega
    have hww : w.heap.size ≤ w2.heap.size := by omega
    have hs2 := hidI hs2'
    clear hs2'
    have NG : Hid ((Value.slice A late.length cp).ownBlock ≠ some g) := own_nb HL2 B2 (by decide)
    have NB : Hid ((Value.slice A late.length cp).ownBlock ≠ some w1.heap.size) := fun h => by have := hG1.lat.lt h; omega
    --REGION
    refine start_ (n := 11) (S := fun w' => w'.cell? ⟨g, 1, none⟩ = some (.slice A late.length cp) ∧ w'.cell? ⟨w1.heap.size, 0, none⟩ = some (.string key) ∧ w'.cell? ⟨w1.heap.size, 1, none⟩ = some (.string (sKind key kd 6 recs)) ∧ w'.cell? ⟨w1.heap.size, 2, none⟩ = some (.int .i64 att)) (ds := [10]) #[false, false, false, false, false, false, false, false, false, false, false] (by kernel_rfl) rfl rfl ⟨(by simp [c2]), (by simp [c3]), (by simp [c3]), (by simp [c3])⟩ (fun hHeld => ?_)
    refine pure_ (i := 0) (N := some 37) (v := ?_) (a' := ?_) #[true, false, false, false, false, false, false, false, false, false, false] rfl rfl (by kernel_rfl) (fun _ _ _ h => h) (Or.inl ⟨by rfl, ?_⟩) ?_ ?_
    rotate_left
    · intro w'
      go_simp
      with_reducible rfl
    rotate_left
    · simp only [Act.put, List.setIfInBounds_toArray, List.set_cons_zero, List.set_cons_succ, i64_w, i32_w]
      rfl
    refine pure_ (i := 1) (N := some 38) (v := ?_) (a' := ?_) #[true, true, false, false, false, false, false, false, false, false, false] rfl rfl (by kernel_rfl) (fun _ _ _ h => h) (Or.inl ⟨by rfl, ?_⟩) ?_ ?_
    rotate_left
    · intro w'
      go_simp
      with_reducible rfl
    rotate_left
    · simp only [Act.put, List.setIfInBounds_toArray, List.set_cons_zero, List.set_cons_succ, i64_w, i32_w]
      rfl
    refine pure_ (i := 2) (N := some 39) (v := ?_) (a' := ?_) #[true, true, true, false, false, false, false, false, false, false, false] rfl rfl (by kernel_rfl) (fun _ _ _ h => h) (Or.inl ⟨by rfl, ?_⟩) ?_ ?_
    rotate_left
    · intro w'
      go_simp
      with_reducible rfl
    rotate_left
    · simp only [Act.put, List.setIfInBounds_toArray, List.set_cons_zero, List.set_cons_succ, i64_w, i32_w]
      rfl
    refine pure_ (i := 3) (N := some 40) (v := ?_) (a' := ?_) #[true, true, true, true, false, false, false, false, false, false, false] rfl rfl (by kernel_rfl) (fun _ _ _ h => h) (Or.inl ⟨by rfl, ?_⟩) ?_ ?_
    rotate_left
    · intro w'
      go_simp
      with_reducible rfl
    rotate_left
    · simp only [Act.put, List.setIfInBounds_toArray, List.set_cons_zero, List.set_cons_succ, i64_w, i32_w]
      rfl
    refine take_ (i := 4) (N := some 41) (v := ?_) (a' := ?_) #[true, true, true, true, true, false, false, false, false, false, false] rfl rfl (by kernel_rfl) (fun _ _ _ h => h) (Or.inl ⟨by rfl, ?_⟩) hHeld ?_ ?_
    rotate_left
    · rintro w' ⟨s0, s1, s2, s3⟩
      go_simp
      with_reducible rfl
    rotate_left
    · simp only [Act.put, List.setIfInBounds_toArray, List.set_cons_zero, List.set_cons_succ, i64_w, i32_w]
      rfl
    refine take_ (i := 5) (N := some 42) (v := ?_) (a' := ?_) #[true, true, true, true, true, true, false, false, false, false, false] rfl rfl (by kernel_rfl) (fun _ _ _ h => h) (Or.inl ⟨by rfl, ?_⟩) hHeld ?_ ?_
    rotate_left
    · rintro w' ⟨s0, s1, s2, s3⟩
      go_simp
      with_reducible rfl
    rotate_left
    · simp only [Act.put, List.setIfInBounds_toArray, List.set_cons_zero, List.set_cons_succ, i64_w, i32_w]
      rfl
    refine one_ (i := 6) (N := some 43) #[true, true, true, true, true, true, true, false, false, false, false] rfl rfl (by kernel_rfl) (by decide) (fun K hK => ?_)
    refine value_ (w1 := ?_) (v := ?_) (by rfl) rfl ?_ ?_
    rotate_left 2
    · go_simp
      constructor
      · rfl
      · rfl
    refine hK.out _ _ ⟨(cell_alloc hHeld.1 _), (cell_alloc hHeld.2.1 _), (cell_alloc hHeld.2.2.1 _), (cell_alloc hHeld.2.2.2 _)⟩ (fun hHeld => ?_)
    clear hK K
    refine norm_ (a' := ?_) ?_ ?_
    rotate_left
    · show Act.put _ (some 43) _ = _
      simp only [Act.put, List.setIfInBounds_toArray, List.set_cons_zero, List.set_cons_succ, i64_w, i32_w]
      rfl
    refine one_ (i := 7) (N := some 44) #[true, true, true, true, true, true, true, true, false, false, false] rfl rfl (by kernel_rfl) (by decide) (fun K hK => ?_)
    refine step_append_cells (w0 := w2.drew) (W := w2.drew) base (by rfl) (.tmp 41) (.tmp 43) 88 102 (.agg #[(.string ⟨#[]⟩), (.string ⟨#[]⟩), (.int .i64 0)]) 3 40 rfl Try.underlying88 info102 rfl (by decide) (by decide) (.slice A late.length cp) late.length (late.flatMap A102.l) [.string key, .string (sKind key kd 6 recs), .int .i64 att] (by rfl) (by rfl) rfl (by simp [Value.oneCell']) HL2.drew (Below.refl _ _) hbb (by omega) ?_
    intro v4 w4 ho4 hb4 hg4 hat4
    have hO4 := Own.snoc (p := (sX key kd att 6 recs)) ho4
    obtain ⟨b4, c4, rfl⟩ : ∃ b4 c4, v4 = .slice (some ⟨b4, 0, none⟩) (late.length + 1) c4 := by
      rcases hO4.cases_ with ⟨_, h⟩ | ⟨b, c, h, _⟩
      · simp at h
      · exact ⟨b, c, by simpa using h⟩
    have hB4 : Blk w4 g #[vr', .slice A late.length cp] 90 := Blk.gb (B2.dr) hg4 (Ne.symm NG.out)
    have lB4 := hB4.lt; have fB4 := hB4.f; have cB4 := hB4.c
    refine hK.out _ _ ⟨(gcell hg4 NG.out (by simp [c2])), (gcell hg4 NB.out (by simp [c3])), (gcell hg4 NB.out (by simp [c3])), (gcell hg4 NB.out (by simp [c3]))⟩ (fun hHeld => ?_)
    clear hK K
    refine norm_ (a' := ?_) ?_ ?_
    rotate_left
    · show Act.put _ (some 44) _ = _
      simp only [Act.put, List.setIfInBounds_toArray, List.set_cons_zero, List.set_cons_succ, i64_w, i32_w]
      rfl
    refine pure_ (i := 8) (N := some 45) (v := ?_) (a' := ?_) #[true, true, true, true, true, true, true, true, true, false, false] rfl rfl (by kernel_rfl) (fun _ _ _ h => h) (Or.inl ⟨by rfl, ?_⟩) ?_ ?_
    rotate_left
    · intro w'
      go_simp
      with_reducible rfl
    rotate_left
    · simp only [Act.put, List.setIfInBounds_toArray, List.set_cons_zero, List.set_cons_succ, i64_w, i32_w]
      rfl
    refine pure_ (i := 9) (N := some 46) (v := ?_) (a' := ?_) #[true, true, true, true, true, true, true, true, true, true, false] rfl rfl (by kernel_rfl) (fun _ _ _ h => h) (Or.inl ⟨by rfl, ?_⟩) ?_ ?_
    rotate_left
    · intro w'
      go_simp
      with_reducible rfl
    rotate_left
    · simp only [Act.put, List.setIfInBounds_toArray, List.set_cons_zero, List.set_cons_succ, i64_w, i32_w]
      rfl
    refine last_ (i := 10) (N := none) #[true, true, true, true, true, true, true, true, true, true, true] rfl rfl (by kernel_rfl) (by decide) (fun K hK => ?_)
    refine skip_ (w1 := ?_) (by rfl) rfl ?_ ?_
    rotate_left
    · go_simp
      rfl
    refine hK.out _ _ ?_
    clear hK K
    refine done_ (by kernel_rfl) ?_
    have hR4 : Own A98.l 5 98 w4 base vr' (sRecs key kd pa cu am 6 recs) := (hG2.rec_.drew).kept (fun k hk => hg4.block k (hG2.rec_.lt hk) (fun h => hG2.rec_.ne_own HL2 (by decide) k hk h.symm))
    have nbr : vr'.ownBlock ≠ some g := own_nb hG2.rec_ B2 (by decide)
    have nb4 : (Value.slice (some ⟨b4, 0, none⟩) (late.length + 1) c4).ownBlock ≠ some g := own_nb hO4 hB4 (by decide)
    have hO5 := hO4.far (p := ⟨g, 1, none⟩) nb4 (.slice (some ⟨b4, 0, none⟩) (late.length + 1) c4)
    have hR5 := hR4.far (p := ⟨g, 1, none⟩) nbr (.slice (some ⟨b4, 0, none⟩) (late.length + 1) c4)
    have hB5 : Blk (w4.setCell ⟨g, 1, none⟩ (.slice (some ⟨b4, 0, none⟩) (late.length + 1) c4)) g #[vr', (.slice (some ⟨b4, 0, none⟩) (late.length + 1) c4)] 90 := (hB4.st 1 _).of rfl
    have hF4 : Fr (fun k => k = g ∨ vr.ownBlock = some k ∨ (Value.slice A late.length cp).ownBlock = some k) w w4 := ((hF2.mono (fun b _ hb => by rcases hb with h | h; exact Or.inl h; exact Or.inr (Or.inl h))).drew).grown hg4 (fun b h _ => Or.inr (Or.inr h))
    have hF5 := hF4.setCell (p := ⟨g, 1, none⟩) (fun _ => Or.inl rfl) (.slice (some ⟨b4, 0, none⟩) (late.length + 1) c4)
    have hAT : ∀ k, (Value.slice (some ⟨b4, 0, none⟩) (late.length + 1) c4).ownBlock = some k → (Value.slice A late.length cp).ownBlock = some k ∨ w.heap.size ≤ k := by
      intro k hk
      rcases hat4 with h | ⟨b, h, h2⟩
      · exact Or.inl (h ▸ hk)
      · rw [h] at hk; cases hk; exact Or.inr (Nat.le_trans hww h2)
    have hfin := hend.out vr' (.slice (some ⟨b4, 0, none⟩) (late.length + 1) c4) _ ⟨hB5, hR5, hO5⟩ hF5 hat hAT
    generalize w4.setCell ⟨g, 1, none⟩ (.slice (some ⟨b4, 0, none⟩) (late.length + 1) c4) = w5 at *
    go_wp2
    go_ret
    exact hfin

set_option maxRecDepth 100000 in
set_option maxHeartbeats 4000000 in
theorem ask_late7 (base g : Nat) (vr vl : Value) (key kd pa cu : ByteArray) (am att c : Int) (recs : List A98) (late : List A102) (w : World)
    (hG : Gt w base g vr vl recs late) (hb : base ≤ w.heap.size) (hl : recs.length ≤ 100000) (hl2 : late.length ≤ 100000) (hc : 0 ≤ c ∧ c < 256) (h : gOk kd (c % 8) = true) (hm : c % 8 = 7) :
    Calls Try.prog 49 #[.pointer (some ⟨g, 0, none⟩), .agg #[.string kd, .string key, .string pa, .string cu, .int .i64 am, .int .i64 att], .int .u8 c] w (AskP base g vr vl key kd pa cu am att (c % 8) recs late w) := by
  have hpq : kd.toList = [112, 97, 121] ∨ ((kd.toList == [112, 97, 121]) = false ∧ kd.toList = [113, 117, 101, 114, 121]) := by
    simp only [gOk, asks, Bool.and_eq_true, Bool.or_eq_true, beq_iff_eq] at h
    by_cases hp : kd.toList = [112, 97, 121]
    · exact Or.inl hp
    · exact Or.inr ⟨by simpa using hp, h.2.resolve_left hp⟩
  have hend : Hid (∀ vr' vl' w', Gt w' base g vr' vl' (sRecs key kd pa cu am 7 recs) (late ++ [sX key kd att 7 recs]) →
      Fr (fun k => k = g ∨ vr.ownBlock = some k ∨ vl.ownBlock = some k) w w' → (∀ k, vr'.ownBlock = some k → vr.ownBlock = some k ∨ w.heap.size ≤ k) → (∀ k, vl'.ownBlock = some k → vl.ownBlock = some k ∨ w.heap.size ≤ k) → AskP base g vr vl key kd pa cu am att (c % 8) recs late w (.returned (.slice none 0 0)) w') := by
    intro vr' vl' w' h2 h3 h4 h5
    have e : tLate key kd att 7 recs late = late ++ [sX key kd att 7 recs] := by rw [hm] at h; simp [tLate, h]
    have e2 : tTold key kd att 7 recs = [] := by rw [hm] at h; simp [tTold, h]
    rw [hm] at h ⊢
    exact ⟨_, vr', vl', rfl, by rw [e2]; exact Own.nil _ _ _ _ _, by rw [e]; simp only [tRecs, h, if_true]; exact h2, h3, h4, h5⟩
  have hg := hG.blk.lt
  obtain ⟨A, cp, rfl, hcp, hC⟩ := own102 hG.lat
  have HG := hidI hG
  clear h hG hC
  rcases hpq with hp | ⟨hp, hq⟩
  all_goals
    go_enter Try.func49, Try.ntmps49
    go_wp2_with fail
    rw [hm]
    refine (answer_any base g vr _ key kd pa cu am att 7 recs late _ (HG.out.alloc _) (by simp; omega) hl).mono ?_
    rintro e w1 ⟨rfl, vr', hG1, hF1, hat1⟩
    have hs1 := hF1.size
    have hF0 : Fr (fun k => k = g ∨ vr.ownBlock = some k) w w1 := ((Fr.refl _ w).alloc _).trans hF1 (fun b _ h => h)
    have hat : ∀ k, vr'.ownBlock = some k → vr.ownBlock = some k ∨ w.heap.size ≤ k := fun k hk => by
      rcases hat1 k hk with h | h
      · exact Or.inl h
      · simp at h; exact Or.inr (by omega)
    simp only [World.size_alloc] at hs1
    clear hF1 hat1
    go_wp2
    have hG2 := hG1.alloc (.cells #[.string key, .string (sKind key kd 7 recs), .int .i64 att] 102)
    have B3 := Blk.new' (w := w1) (b := w1.heap.size) (cs := #[.string key, .string (sKind key kd 7 recs), .int .i64 att]) (T := 102) rfl
    have hF2 := hF0.alloc (.cells #[.string key, .string (sKind key kd 7 recs), .int .i64 att] 102)
    have hs2' : (w1.alloc (.cells #[.string key, .string (sKind key kd 7 recs), .int .i64 att] 102)).heap.size = w1.heap.size + 1 := by simp
    generalize w1.alloc _ = w2 at *
    have B2 := hG2.blk
    have c2 := B2.c; have l2 := B2.lt; have f2 := B2.f
    have c3 := B3.c; have l3 := B3.lt
    have HL2 := hG2.lat
    have hbb : base ≤ w2.heap.size := by omega
    have hww : w.heap.size ≤ w2.heap.size := by omega
    have hs2 := hidI hs2'
    clear hs2'
    have NG : Hid ((Value.slice A late.length cp).ownBlock ≠ some g) := own_nb HL2 B2 (by decide)
    have NB : Hid ((Value.slice A late.length cp).ownBlock ≠ some w1.heap.size) := fun h => by have := hG1.lat.lt h; omega
    --REGION
    refine start_ (n := 11) (S := fun w' => w'.cell? ⟨g, 1, none⟩ = some (.slice A late.length cp) ∧ w'.cell? ⟨w1.heap.size, 0, none⟩ = some (.string key) ∧ w'.cell? ⟨w1.heap.size, 1, none⟩ = some (.string (sKind key kd 7 recs)) ∧ w'.cell? ⟨w1.heap.size, 2, none⟩ = some (.int .i64 att)) (ds := [10]) #[false, false, false, false, false, false, false, false, false, false, false] (by kernel_rfl) rfl rfl ⟨(by simp [c2]), (by simp [c3]), (by simp [c3]), (by simp [c3])⟩ (fun hHeld => ?_)
    refine pure_ (i := 0) (N := some 37) (v := ?_) (a' := ?_) #[true, false, false, false, false, false, false, false, false, false, false] rfl rfl (by kernel_rfl) (fun _ _ _ h => h) (Or.inl ⟨by rfl, ?_⟩) ?_ ?_
    rotate_left
    · intro w'
      go_simp
      with_reducible rfl
    rotate_left
    · simp only [Act.put, List.setIfInBounds_toArray, List.set_cons_zero, List.set_cons_succ, i64_w, i32_w]
      rfl
    refine pure_ (i := 1) (N := some 38) (v := ?_) (a' := ?_) #[true, true, false, false, false, false, false, false, false, false, false] rfl rfl (by kernel_rfl) (fun _ _ _ h => h) (Or.inl ⟨by rfl, ?_⟩) ?_ ?_
    rotate_left
    · intro w'
      go_simp
      with_reducible rfl
    rotate_left
    · simp only [Act.put, List.setIfInBounds_toArray, List.set_cons_zero, List.set_cons_succ, i64_w, i32_w]
      rfl
    refine pure_ (i := 2) (N := some 39) (v := ?_) (a' := ?_) #[true, true, true, false, false, false, false, false, false, false, false] rfl rfl (by kernel_rfl) (fun _ _ _ h => h) (Or.inl ⟨by rfl, ?_⟩) ?_ ?_
    rotate_left
    · intro w'
      go_simp
      with_reducible rfl
    rotate_left
    · simp only [Act.put, List.setIfInBounds_toArray, List.set_cons_zero, List.set_cons_succ, i64_w, i32_w]
      rfl
    refine pure_ (i := 3) (N := some 40) (v := ?_) (a' := ?_) #[true, true, true, true, false, false, false, false, false, false, false] rfl rfl (by kernel_rfl) (fun _ _ _ h => h) (Or.inl ⟨by rfl, ?_⟩) ?_ ?_
    rotate_left
    · intro w'
      go_simp
      with_reducible rfl
    rotate_left
    · simp only [Act.put, List.setIfInBounds_toArray, List.set_cons_zero, List.set_cons_succ, i64_w, i32_w]
      rfl
    refine take_ (i := 4) (N := some 41) (v := ?_) (a' := ?_) #[true, true, true, true, true, false, false, false, false, false, false] rfl rfl (by kernel_rfl) (fun _ _ _ h => h) (Or.inl ⟨by rfl, ?_⟩) hHeld ?_ ?_
    rotate_left
    · rintro w' ⟨s0, s1, s2, s3⟩
      go_simp
      with_reducible rfl
    rotate_left
    · simp only [Act.put, List.setIfInBounds_toArray, List.set_cons_zero, List.set_cons_succ, i64_w, i32_w]
      rfl
    refine take_ (i := 5) (N := some 42) (v := ?_) (a' := ?_) #[true, true, true, true, true, true, false, false, false, false, false] rfl rfl (by kernel_rfl) (fun _ _ _ h => h) (Or.inl ⟨by rfl, ?_⟩) hHeld ?_ ?_
    rotate_left
    · rintro w' ⟨s0, s1, s2, s3⟩
      go_simp
      with_reducible rfl
    rotate_left
    · simp only [Act.put, List.setIfInBounds_toArray, List.set_cons_zero, List.set_cons_succ, i64_w, i32_w]
      rfl
    refine one_ (i := 6) (N := some 43) #[true, true, true, true, true, true, true, false, false, false, false] rfl rfl (by kernel_rfl) (by decide) (fun K hK => ?_)
    refine value_ (w1 := ?_) (v := ?_) (by rfl) rfl ?_ ?_
    rotate_left 2
    · go_simp
      constructor
      · rfl
      · rfl
    refine hK.out _ _ ⟨(cell_alloc hHeld.1 _), (cell_alloc hHeld.2.1 _), (cell_alloc hHeld.2.2.1 _), (cell_alloc hHeld.2.2.2 _)⟩ (fun hHeld => ?_)
    clear hK K
    refine norm_ (a' := ?_) ?_ ?_
    rotate_left
    · show Act.put _ (some 43) _ = _
      simp only [Act.put, List.setIfInBounds_toArray, List.set_cons_zero, List.set_cons_succ, i64_w, i32_w]
      rfl
    refine one_ (i := 7) (N := some 44) #[true, true, true, true, true, true, true, true, false, false, false] rfl rfl (by kernel_rfl) (by decide) (fun K hK => ?_)
    refine step_append_cells (w0 := w2.drew) (W := w2.drew) base (by rfl) (.tmp 41) (.tmp 43) 88 102 (.agg #[(.string ⟨#[]⟩), (.string ⟨#[]⟩), (.int .i64 0)]) 3 40 rfl Try.underlying88 info102 rfl (by decide) (by decide) (.slice A late.length cp) late.length (late.flatMap A102.l) [.string key, .string (sKind key kd 7 recs), .int .i64 att] (by rfl) (by rfl) rfl (by simp [Value.oneCell']) HL2.drew (Below.refl _ _) hbb (by omega) ?_
    intro v4 w4 ho4 hb4 hg4 hat4
    have hO4 := Own.snoc (p := (sX key kd att 7 recs)) ho4
    obtain ⟨b4, c4, rfl⟩ : ∃ b4 c4, v4 = .slice (some ⟨b4, 0, none⟩) (late.length + 1) c4 := by
      rcases hO4.cases_ with ⟨_, h⟩ | ⟨b, c, h, _⟩
      · simp at h
      · exact ⟨b, c, by simpa using h⟩
    have hB4 : Blk w4 g #[vr', .slice A late.length cp] 90 := Blk.gb (B2.dr) hg4 (Ne.symm NG.out)
    have lB4 := hB4.lt; have fB4 := hB4.f; have cB4 := hB4.c
    refine hK.out _ _ ⟨(gcell hg4 NG.out (by simp [c2])), (gcell hg4 NB.out (by simp [c3])), (gcell hg4 NB.out (by simp [c3])), (gcell hg4 NB.out (by simp [c3]))⟩ (fun hHeld => ?_)
    clear hK K
    refine norm_ (a' := ?_) ?_ ?_
    rotate_left
    · show Act.put _ (some 44) _ = _
      simp only [Act.put, List.setIfInBounds_toArray, List.set_cons_zero, List.set_cons_succ, i64_w, i32_w]
      rfl
    refine pure_ (i := 8) (N := some 45) (v := ?_) (a' := ?_) #[true, true, true, true, true, true, true, true, true, false, false] rfl rfl (by kernel_rfl) (fun _ _ _ h => h) (Or.inl ⟨by rfl, ?_⟩) ?_ ?_
    rotate_left
    · intro w'
      go_simp
      with_reducible rfl
    rotate_left
    · simp only [Act.put, List.setIfInBounds_toArray, List.set_cons_zero, List.set_cons_succ, i64_w, i32_w]
      rfl
    refine pure_ (i := 9) (N := some 46) (v := ?_) (a' := ?_) #[true, true, true, true, true, true, true, true, true, true, false] rfl rfl (by kernel_rfl) (fun _ _ _ h => h) (Or.inl ⟨by rfl, ?_⟩) ?_ ?_
    rotate_left
    · intro w'
      go_simp
      with_reducible rfl
    rotate_left
    · simp only [Act.put, List.setIfInBounds_toArray, List.set_cons_zero, List.set_cons_succ, i64_w, i32_w]
      rfl
    refine last_ (i := 10) (N := none) #[true, true, true, true, true, true, true, true, true, true, true] rfl rfl (by kernel_rfl) (by decide) (fun K hK => ?_)
    refine skip_ (w1 := ?_) (by rfl) rfl ?_ ?_
    rotate_left
    · go_simp
      rfl
    refine hK.out _ _ ?_
    clear hK K
    refine done_ (by kernel_rfl) ?_
    have hR4 : Own A98.l 5 98 w4 base vr' (sRecs key kd pa cu am 7 recs) := (hG2.rec_.drew).kept (fun k hk => hg4.block k (hG2.rec_.lt hk) (fun h => hG2.rec_.ne_own HL2 (by decide) k hk h.symm))
    have nbr : vr'.ownBlock ≠ some g := own_nb hG2.rec_ B2 (by decide)
    have nb4 : (Value.slice (some ⟨b4, 0, none⟩) (late.length + 1) c4).ownBlock ≠ some g := own_nb hO4 hB4 (by decide)
    have hO5 := hO4.far (p := ⟨g, 1, none⟩) nb4 (.slice (some ⟨b4, 0, none⟩) (late.length + 1) c4)
    have hR5 := hR4.far (p := ⟨g, 1, none⟩) nbr (.slice (some ⟨b4, 0, none⟩) (late.length + 1) c4)
    have hB5 : Blk (w4.setCell ⟨g, 1, none⟩ (.slice (some ⟨b4, 0, none⟩) (late.length + 1) c4)) g #[vr', (.slice (some ⟨b4, 0, none⟩) (late.length + 1) c4)] 90 := (hB4.st 1 _).of rfl
    have hF4 : Fr (fun k => k = g ∨ vr.ownBlock = some k ∨ (Value.slice A late.length cp).ownBlock = some k) w w4 := ((hF2.mono (fun b _ hb => by rcases hb with h | h; exact Or.inl h; exact Or.inr (Or.inl h))).drew).grown hg4 (fun b h _ => Or.inr (Or.inr h))
    have hF5 := hF4.setCell (p := ⟨g, 1, none⟩) (fun _ => Or.inl rfl) (.slice (some ⟨b4, 0, none⟩) (late.length + 1) c4)
    have hAT : ∀ k, (Value.slice (some ⟨b4, 0, none⟩) (late.length + 1) c4).ownBlock = some k → (Value.slice A late.length cp).ownBlock = some k ∨ w.heap.size ≤ k := by
      intro k hk
      rcases hat4 with h | ⟨b, h, h2⟩
      · exact Or.inl (h ▸ hk)
      · rw [h] at hk; cases hk; exact Or.inr (Nat.le_trans hww h2)
    have hfin := hend.out vr' (.slice (some ⟨b4, 0, none⟩) (late.length + 1) c4) _ ⟨hB5, hR5, hO5⟩ hF5 hat hAT
    generalize w4.setCell ⟨g, 1, none⟩ (.slice (some ⟨b4, 0, none⟩) (late.length + 1) c4) = w5 at *
    go_wp2
    go_ret
    exact hfin

theorem ask_any (base g : Nat) (vr vl : Value) (key kd pa cu : ByteArray) (am att c : Int) (recs : List A98) (late : List A102) (w : World)
    (hG : Gt w base g vr vl recs late) (hb : base ≤ w.heap.size) (hl : recs.length ≤ 100000) (hl2 : late.length ≤ 100000) (hc : 0 ≤ c ∧ c < 256) :
    Calls Try.prog 49 #[.pointer (some ⟨g, 0, none⟩), .agg #[.string kd, .string key, .string pa, .string cu, .int .i64 am, .int .i64 att], .int .u8 c] w (AskP base g vr vl key kd pa cu am att (c % 8) recs late w) := by
  by_cases h : gOk kd (c % 8) = true
  · by_cases h6 : c % 8 = 6
    · exact ask_late6 base g vr vl key kd pa cu am att c recs late w hG hb hl hl2 hc h h6
    by_cases h7 : c % 8 = 7
    · exact ask_late7 base g vr vl key kd pa cu am att c recs late w hG hb hl hl2 hc h h7
    have h0 : c % 8 ≠ 0 := by intro e; rw [e] at h; simp [gOk] at h
    exact ask_yes base g vr vl key kd pa cu am att c recs late w hG hb hl hc h (by omega)
  · exact ask_no base g vr vl key kd pa cu am att c recs late w hG hc (by simpa using h)

end Go.Proofs.Ytliacfjdenfldaa
