import Derived.Test.YtliacfjdenfldaaSc
/- The reference's gateway: Ask. -/
namespace Go.Proofs.Ytliacfjdenfldaa
open Go.RowKit Go.Proofs.Kq
open Go.Proofs.YtliacfjdenfldaaW.PrintWords (pw_cell_below step_append_cells print_append_cells Kd Kd.C Kd.C_below)
open Go.Proofs.YtliacfjdenfldaaW.PrintLast
set_option linter.unusedSimpArgs false
set_option linter.unusedVariables false

set_option maxRecDepth 100000 in
set_option maxHeartbeats 4000000 in
theorem rask_1 (base g : Nat) (vr vl : Value) (key kd pa cu : ByteArray) (am att c : Int) (recs : List A98) (late : List A102) (w : World)
    (hG : Rt w base g vr vl recs late) (hb : base ≤ w.heap.size) (hl : recs.length ≤ 100000) (hl2 : late.length ≤ 100000) (hc : 0 ≤ c ∧ c < 256) (h : gOk kd (c % 8) = true) (hm : c % 8 = 1) :
    Calls Try.prog 71 #[.pointer (some ⟨g, 0, none⟩), .agg #[.string kd, .string key, .string pa, .string cu, .int .i64 am, .int .i64 att], .int .u8 c] w (RAskP base g vr vl key kd pa cu am att (c % 8) recs late w) := by
  have hpq : kd.toList = [112, 97, 121] ∨ ((kd.toList == [112, 97, 121]) = false ∧ kd.toList = [113, 117, 101, 114, 121]) := by
    simp only [gOk, asks, Bool.and_eq_true, Bool.or_eq_true, beq_iff_eq] at h
    by_cases hp : kd.toList = [112, 97, 121]
    · exact Or.inl hp
    · exact Or.inr ⟨by simpa using hp, h.2.resolve_left hp⟩
  have hend : Hid (∀ v vr' vl' w', Own A102.l 3 137 w' w.heap.size v ([sX key kd att 1 recs]) → Rt w' base g vr' vl' (sRecs key kd pa cu am 1 recs) (late) →
      Fr (fun k => k = g ∨ vr.ownBlock = some k ∨ vl.ownBlock = some k) w w' → RAskP base g vr vl key kd pa cu am att (c % 8) recs late w (.returned v) w') := by
    intro v vr' vl' w' h1 h2 h3
    rw [hm] at h ⊢
    refine ⟨v, vr', vl', rfl, ?_, ?_, h3⟩
    · simpa [tTold, h] using h1
    · simpa [tRecs, tLate, h] using h2
  obtain ⟨A, cp, rfl, hcp, hC⟩ := own98e hG.rec_
  obtain ⟨AL, cL, rfl, hcL, _⟩ := own102e hG.lat
  have hg := hG.blk.lt
  have hR1 := hG.alloc (.cells #[.string kd, .string key, .string pa, .string cu, .int .i64 am, .int .i64 att] 34)
  have hQ1 := Blk.new' (w := w) (b := w.heap.size) (cs := #[.string kd, .string key, .string pa, .string cu, .int .i64 am, .int .i64 att]) (T := 34) rfl
  have hF1 : Fr (fun k => k = g ∨ (Value.slice A recs.length cp).ownBlock = some k ∨ (Value.slice AL late.length cL).ownBlock = some k) w (w.alloc (.cells #[.string kd, .string key, .string pa, .string cu, .int .i64 am, .int .i64 att] 34)) := (Fr.refl _ w).alloc _
  have hC1 := Kd.C_below hC (below_new (Below.refl _ _) (.cells #[.string kd, .string key, .string pa, .string cu, .int .i64 am, .int .i64 att] 34))
  have hs1 : (w.alloc (.cells #[.string kd, .string key, .string pa, .string cu, .int .i64 am, .int .i64 att] 34)).heap.size = w.heap.size + 1 := by simp
  have HPACK := hidI (And.intro hR1 (And.intro hQ1 (And.intro hF1 (And.intro hC1 hs1))))
  clear hC hG h hR1 hQ1 hF1 hC1 hs1
  have hways : (kd.toList = [112, 97, 121] ∧ fidx key 0 recs = -1) ∨ (¬ (fidx key 0 recs = -1 ∧ kd.toList = [112, 97, 121]) ∧ ((kd.toList = [112, 97, 121] ∧ ((rKind key recs).toList == [117, 110, 107, 110, 111, 119, 110]) = false) ∨ ((kd.toList == [112, 97, 121]) = false ∧ kd.toList = [113, 117, 101, 114, 121]))) := by
    rcases hpq with hp | ⟨hp, hq⟩
    · by_cases h0 : fidx key 0 recs = -1
      · exact Or.inl ⟨hp, h0⟩
      · exact Or.inr ⟨fun g => h0 g.1, Or.inl ⟨hp, rk_old h0⟩⟩
    · exact Or.inr ⟨fun g => (by rw [g.2] at hq; cases hq), Or.inr ⟨hp, hq⟩⟩
  clear hpq
  rcases hways with ⟨hp, h0⟩ | ⟨hno, hw⟩
  · skip
    have H0 := hidI h0
    have HP := hidI hp
    have hsr : Hid (sRecs key kd pa cu am 1 recs = recs ++ [⟨key, pa, cu, am, true⟩]) := by show _ = _; exact sr_made h0 hp
    have hkd : Hid (rKind key (recs ++ [⟨key, pa, cu, am, true⟩]) = sKind key kd 1 recs) := by show _ = _; exact sk_made (m := 1) h0 hp
    clear h0
    go_enter Try.func71, Try.ntmps71
    go_wp2_with fail
    obtain ⟨hR1, hQ1, hF1, hC1, hs1'⟩ := HPACK.out
    refine (kind_any g A cp _ key recs _ hR1.blk hC1 (by omega)).mono ?_
    rintro e w1 ⟨rfl, rfl⟩
    rw [rKind_no H0.out]
    unfold kUnknown
    clear hC1
    go_wp2_with fail
    generalize w.alloc _ = w1 at *
    have hs1 := hidI hs1'
    have B1 := hR1.blk
    have c1 := B1.c; have l1 := B1.lt; have f1 := B1.f
    have c2 := hQ1.c; have l2 := hQ1.lt
    have HR2 := hR1.rec_
    have hbb : base ≤ w1.heap.size := by omega
    have hww : w.heap.size ≤ w1.heap.size := by omega
    clear hs1'
    have NG : Hid ((Value.slice A recs.length cp).ownBlock ≠ some g) := own_nb HR2 B1 (by decide)
    have NB : Hid ((Value.slice A recs.length cp).ownBlock ≠ some w.heap.size) := own_nb HR2 hQ1 (by decide)
    refine start_ (n := 29) (S := fun w' => w'.cell? ⟨g, 0, none⟩ = some (.slice A recs.length cp) ∧ w'.cell? ⟨w.heap.size, 1, none⟩ = some (.string key) ∧ w'.cell? ⟨w.heap.size, 2, none⟩ = some (.string pa) ∧ w'.cell? ⟨w.heap.size, 3, none⟩ = some (.string cu) ∧ w'.cell? ⟨w.heap.size, 4, none⟩ = some (.int .i64 am)) (ds := [28]) #[false, false, false, false, false, false, false, false, false, false, false, false, false, false, false, false, false, false, false, false, false, false, false, false, false, false, false, false, false] (by kernel_rfl) rfl rfl ⟨(by simp [c1]), (by simp [c2]), (by simp [c2]), (by simp [c2]), (by simp [c2])⟩ (fun hHeld => ?_)
    refine pure_ (i := 0) (N := some 35) (v := ?_) (a' := ?_) #[true, false, false, false, false, false, false, false, false, false, false, false, false, false, false, false, false, false, false, false, false, false, false, false, false, false, false, false, false] rfl rfl (by kernel_rfl) (fun _ _ _ h => h) (Or.inl ⟨by rfl, ?_⟩) ?_ ?_
    rotate_left
    · intro w'
      go_simp
      with_reducible rfl
    rotate_left
    · simp only [Act.put, List.setIfInBounds_toArray, List.set_cons_zero, List.set_cons_succ, i64_w, i32_w]
      rfl
    refine pure_ (i := 1) (N := some 36) (v := ?_) (a' := ?_) #[true, true, false, false, false, false, false, false, false, false, false, false, false, false, false, false, false, false, false, false, false, false, false, false, false, false, false, false, false] rfl rfl (by kernel_rfl) (fun _ _ _ h => h) (Or.inl ⟨by rfl, ?_⟩) ?_ ?_
    rotate_left
    · intro w'
      go_simp
      with_reducible rfl
    rotate_left
    · simp only [Act.put, List.setIfInBounds_toArray, List.set_cons_zero, List.set_cons_succ, i64_w, i32_w]
      rfl
    refine pure_ (i := 2) (N := some 37) (v := ?_) (a' := ?_) #[true, true, true, false, false, false, false, false, false, false, false, false, false, false, false, false, false, false, false, false, false, false, false, false, false, false, false, false, false] rfl rfl (by kernel_rfl) (fun _ _ _ h => h) (Or.inl ⟨by rfl, ?_⟩) ?_ ?_
    rotate_left
    · intro w'
      go_simp
      with_reducible rfl
    rotate_left
    · simp only [Act.put, List.setIfInBounds_toArray, List.set_cons_zero, List.set_cons_succ, i64_w, i32_w]
      rfl
    refine pure_ (i := 3) (N := some 38) (v := ?_) (a' := ?_) #[true, true, true, true, false, false, false, false, false, false, false, false, false, false, false, false, false, false, false, false, false, false, false, false, false, false, false, false, false] rfl rfl (by kernel_rfl) (fun _ _ _ h => h) (Or.inl ⟨by rfl, ?_⟩) ?_ ?_
    rotate_left
    · intro w'
      go_simp
      with_reducible rfl
    rotate_left
    · simp only [Act.put, List.setIfInBounds_toArray, List.set_cons_zero, List.set_cons_succ, i64_w, i32_w]
      rfl
    refine pure_ (i := 5) (N := some 40) (v := ?_) (a' := ?_) #[true, true, true, true, false, true, false, false, false, false, false, false, false, false, false, false, false, false, false, false, false, false, false, false, false, false, false, false, false] rfl rfl (by kernel_rfl) (fun _ _ _ h => h) (Or.inl ⟨by rfl, ?_⟩) ?_ ?_
    rotate_left
    · intro w'
      go_simp
      with_reducible rfl
    rotate_left
    · simp only [Act.put, List.setIfInBounds_toArray, List.set_cons_zero, List.set_cons_succ, i64_w, i32_w]
      rfl
    refine pure_ (i := 7) (N := some 42) (v := ?_) (a' := ?_) #[true, true, true, true, false, true, false, true, false, false, false, false, false, false, false, false, false, false, false, false, false, false, false, false, false, false, false, false, false] rfl rfl (by kernel_rfl) (fun _ _ _ h => h) (Or.inl ⟨by rfl, ?_⟩) ?_ ?_
    rotate_left
    · intro w'
      go_simp
      with_reducible rfl
    rotate_left
    · simp only [Act.put, List.setIfInBounds_toArray, List.set_cons_zero, List.set_cons_succ, i64_w, i32_w]
      rfl
    refine pure_ (i := 9) (N := some 44) (v := ?_) (a' := ?_) #[true, true, true, true, false, true, false, true, false, true, false, false, false, false, false, false, false, false, false, false, false, false, false, false, false, false, false, false, false] rfl rfl (by kernel_rfl) (fun _ _ _ h => h) (Or.inl ⟨by rfl, ?_⟩) ?_ ?_
    rotate_left
    · intro w'
      go_simp
      with_reducible rfl
    rotate_left
    · simp only [Act.put, List.setIfInBounds_toArray, List.set_cons_zero, List.set_cons_succ, i64_w, i32_w]
      rfl
    refine pure_ (i := 11) (N := some 46) (v := ?_) (a' := ?_) #[true, true, true, true, false, true, false, true, false, true, false, true, false, false, false, false, false, false, false, false, false, false, false, false, false, false, false, false, false] rfl rfl (by kernel_rfl) (fun _ _ _ h => h) (Or.inl ⟨by rfl, ?_⟩) ?_ ?_
    rotate_left
    · intro w'
      go_simp
      with_reducible rfl
    rotate_left
    · simp only [Act.put, List.setIfInBounds_toArray, List.set_cons_zero, List.set_cons_succ, i64_w, i32_w]
      rfl
    refine pure_ (i := 13) (N := some 48) (v := ?_) (a' := ?_) #[true, true, true, true, false, true, false, true, false, true, false, true, false, true, false, false, false, false, false, false, false, false, false, false, false, false, false, false, false] rfl rfl (by kernel_rfl) (fun _ _ _ h => h) (Or.inl ⟨by rfl, ?_⟩) ?_ ?_
    rotate_left
    · intro w'
      go_simp
      with_reducible rfl
    rotate_left
    · simp only [Act.put, List.setIfInBounds_toArray, List.set_cons_zero, List.set_cons_succ, i64_w, i32_w]
      rfl
    refine pure_ (i := 14) (N := some 49) (v := ?_) (a' := ?_) #[true, true, true, true, false, true, false, true, false, true, false, true, false, true, true, false, false, false, false, false, false, false, false, false, false, false, false, false, false] rfl rfl (by kernel_rfl) (fun _ _ _ h => h) (Or.inl ⟨by rfl, ?_⟩) ?_ ?_
    rotate_left
    · intro w'
      go_simp
      with_reducible rfl
    rotate_left
    · simp only [Act.put, List.setIfInBounds_toArray, List.set_cons_zero, List.set_cons_succ, i64_w, i32_w]
      rfl
    refine pure_ (i := 15) (N := some 50) (v := ?_) (a' := ?_) #[true, true, true, true, false, true, false, true, false, true, false, true, false, true, true, true, false, false, false, false, false, false, false, false, false, false, false, false, false] rfl rfl (by kernel_rfl) (fun _ _ _ h => h) (Or.inl ⟨by rfl, ?_⟩) ?_ ?_
    rotate_left
    · intro w'
      go_simp
      with_reducible rfl
    rotate_left
    · simp only [Act.put, List.setIfInBounds_toArray, List.set_cons_zero, List.set_cons_succ, i64_w, i32_w]
      rfl
    refine pure_ (i := 16) (N := some 51) (v := ?_) (a' := ?_) #[true, true, true, true, false, true, false, true, false, true, false, true, false, true, true, true, true, false, false, false, false, false, false, false, false, false, false, false, false] rfl rfl (by kernel_rfl) (fun _ _ _ h => h) (Or.inl ⟨by rfl, ?_⟩) ?_ ?_
    rotate_left
    · intro w'
      go_simp
      with_reducible rfl
    rotate_left
    · simp only [Act.put, List.setIfInBounds_toArray, List.set_cons_zero, List.set_cons_succ, i64_w, i32_w]
      rfl
    refine pure_ (i := 17) (N := some 52) (v := ?_) (a' := ?_) #[true, true, true, true, false, true, false, true, false, true, false, true, false, true, true, true, true, true, false, false, false, false, false, false, false, false, false, false, false] rfl rfl (by kernel_rfl) (fun _ _ _ h => h) (Or.inl ⟨by rfl, ?_⟩) ?_ ?_
    rotate_left
    · intro w'
      go_simp
      with_reducible rfl
    rotate_left
    · simp only [Act.put, List.setIfInBounds_toArray, List.set_cons_zero, List.set_cons_succ, i64_w, i32_w]
      rfl
    refine pure_ (i := 18) (N := some 53) (v := ?_) (a' := ?_) #[true, true, true, true, false, true, false, true, false, true, false, true, false, true, true, true, true, true, true, false, false, false, false, false, false, false, false, false, false] rfl rfl (by kernel_rfl) (fun _ _ _ h => h) (Or.inl ⟨by rfl, ?_⟩) ?_ ?_
    rotate_left
    · intro w'
      go_simp
      with_reducible rfl
    rotate_left
    · simp only [Act.put, List.setIfInBounds_toArray, List.set_cons_zero, List.set_cons_succ, i64_w, i32_w]
      rfl
    refine pure_ (i := 19) (N := some 54) (v := ?_) (a' := ?_) #[true, true, true, true, false, true, false, true, false, true, false, true, false, true, true, true, true, true, true, true, false, false, false, false, false, false, false, false, false] rfl rfl (by kernel_rfl) (fun _ _ _ h => h) (Or.inl ⟨by rfl, ?_⟩) ?_ ?_
    rotate_left
    · intro w'
      go_simp
      with_reducible rfl
    rotate_left
    · simp only [Act.put, List.setIfInBounds_toArray, List.set_cons_zero, List.set_cons_succ, i64_w, i32_w]
      rfl
    refine pure_ (i := 20) (N := some 55) (v := ?_) (a' := ?_) #[true, true, true, true, false, true, false, true, false, true, false, true, false, true, true, true, true, true, true, true, true, false, false, false, false, false, false, false, false] rfl rfl (by kernel_rfl) (fun _ _ _ h => h) (Or.inl ⟨by rfl, ?_⟩) ?_ ?_
    rotate_left
    · intro w'
      go_simp
      with_reducible rfl
    rotate_left
    · simp only [Act.put, List.setIfInBounds_toArray, List.set_cons_zero, List.set_cons_succ, i64_w, i32_w]
      rfl
    refine pure_ (i := 21) (N := some 56) (v := ?_) (a' := ?_) #[true, true, true, true, false, true, false, true, false, true, false, true, false, true, true, true, true, true, true, true, true, true, false, false, false, false, false, false, false] rfl rfl (by kernel_rfl) (fun _ _ _ h => h) (Or.inl ⟨by rfl, ?_⟩) ?_ ?_
    rotate_left
    · intro w'
      go_simp
      with_reducible rfl
    rotate_left
    · simp only [Act.put, List.setIfInBounds_toArray, List.set_cons_zero, List.set_cons_succ, i64_w, i32_w]
      rfl
    refine pure_ (i := 22) (N := some 57) (v := ?_) (a' := ?_) #[true, true, true, true, false, true, false, true, false, true, false, true, false, true, true, true, true, true, true, true, true, true, true, false, false, false, false, false, false] rfl rfl (by kernel_rfl) (fun _ _ _ h => h) (Or.inl ⟨by rfl, ?_⟩) ?_ ?_
    rotate_left
    · intro w'
      go_simp
      with_reducible rfl
    rotate_left
    · simp only [Act.put, List.setIfInBounds_toArray, List.set_cons_zero, List.set_cons_succ, i64_w, i32_w]
      rfl
    refine take_ (i := 4) (N := some 39) (v := ?_) (a' := ?_) #[true, true, true, true, true, true, false, true, false, true, false, true, false, true, true, true, true, true, true, true, true, true, true, false, false, false, false, false, false] rfl rfl (by kernel_rfl) (fun _ _ _ h => h) (Or.inl ⟨by rfl, ?_⟩) hHeld ?_ ?_
    rotate_left
    · rintro w' ⟨s0, s1, s2, s3, s4⟩
      go_simp
      with_reducible rfl
    rotate_left
    · simp only [Act.put, List.setIfInBounds_toArray, List.set_cons_zero, List.set_cons_succ, i64_w, i32_w]
      rfl
    refine take_ (i := 6) (N := some 41) (v := ?_) (a' := ?_) #[true, true, true, true, true, true, true, true, false, true, false, true, false, true, true, true, true, true, true, true, true, true, true, false, false, false, false, false, false] rfl rfl (by kernel_rfl) (fun _ _ _ h => h) (Or.inl ⟨by rfl, ?_⟩) hHeld ?_ ?_
    rotate_left
    · rintro w' ⟨s0, s1, s2, s3, s4⟩
      go_simp
      with_reducible rfl
    rotate_left
    · simp only [Act.put, List.setIfInBounds_toArray, List.set_cons_zero, List.set_cons_succ, i64_w, i32_w]
      rfl
    refine take_ (i := 8) (N := some 43) (v := ?_) (a' := ?_) #[true, true, true, true, true, true, true, true, true, true, false, true, false, true, true, true, true, true, true, true, true, true, true, false, false, false, false, false, false] rfl rfl (by kernel_rfl) (fun _ _ _ h => h) (Or.inl ⟨by rfl, ?_⟩) hHeld ?_ ?_
    rotate_left
    · rintro w' ⟨s0, s1, s2, s3, s4⟩
      go_simp
      with_reducible rfl
    rotate_left
    · simp only [Act.put, List.setIfInBounds_toArray, List.set_cons_zero, List.set_cons_succ, i64_w, i32_w]
      rfl
    refine take_ (i := 10) (N := some 45) (v := ?_) (a' := ?_) #[true, true, true, true, true, true, true, true, true, true, true, true, false, true, true, true, true, true, true, true, true, true, true, false, false, false, false, false, false] rfl rfl (by kernel_rfl) (fun _ _ _ h => h) (Or.inl ⟨by rfl, ?_⟩) hHeld ?_ ?_
    rotate_left
    · rintro w' ⟨s0, s1, s2, s3, s4⟩
      go_simp
      with_reducible rfl
    rotate_left
    · simp only [Act.put, List.setIfInBounds_toArray, List.set_cons_zero, List.set_cons_succ, i64_w, i32_w]
      rfl
    refine take_ (i := 12) (N := some 47) (v := ?_) (a' := ?_) #[true, true, true, true, true, true, true, true, true, true, true, true, true, true, true, true, true, true, true, true, true, true, true, false, false, false, false, false, false] rfl rfl (by kernel_rfl) (fun _ _ _ h => h) (Or.inl ⟨by rfl, ?_⟩) hHeld ?_ ?_
    rotate_left
    · rintro w' ⟨s0, s1, s2, s3, s4⟩
      go_simp
      with_reducible rfl
    rotate_left
    · simp only [Act.put, List.setIfInBounds_toArray, List.set_cons_zero, List.set_cons_succ, i64_w, i32_w]
      rfl
    refine pure_ (i := 23) (N := some 58) (v := ?_) (a' := ?_) #[true, true, true, true, true, true, true, true, true, true, true, true, true, true, true, true, true, true, true, true, true, true, true, true, false, false, false, false, false] rfl rfl (by kernel_rfl) (fun _ _ _ h => h) (Or.inl ⟨by rfl, ?_⟩) ?_ ?_
    rotate_left
    · intro w'
      go_simp
      with_reducible rfl
    rotate_left
    · simp only [Act.put, List.setIfInBounds_toArray, List.set_cons_zero, List.set_cons_succ, i64_w, i32_w]
      rfl
    refine one_ (i := 24) (N := some 59) #[true, true, true, true, true, true, true, true, true, true, true, true, true, true, true, true, true, true, true, true, true, true, true, true, true, false, false, false, false] rfl rfl (by kernel_rfl) (by decide) (fun K hK => ?_)
    refine value_ (w1 := ?_) (v := ?_) (by rfl) rfl ?_ ?_
    rotate_left 2
    · go_simp
      constructor
      · rfl
      · rfl
    refine hK.out _ _ ⟨(cell_alloc hHeld.1 _), (cell_alloc hHeld.2.1 _), (cell_alloc hHeld.2.2.1 _), (cell_alloc hHeld.2.2.2.1 _), (cell_alloc hHeld.2.2.2.2 _)⟩ (fun hHeld => ?_)
    clear hK K
    refine norm_ (a' := ?_) ?_ ?_
    rotate_left
    · show Act.put _ (some 59) _ = _
      simp only [Act.put, List.setIfInBounds_toArray, List.set_cons_zero, List.set_cons_succ, i64_w, i32_w]
      rfl
    refine one_ (i := 25) (N := some 60) #[true, true, true, true, true, true, true, true, true, true, true, true, true, true, true, true, true, true, true, true, true, true, true, true, true, true, false, false, false] rfl rfl (by kernel_rfl) (by decide) (fun K hK => ?_)
    refine step_append_cells (w0 := w1.drew) (W := w1.drew) base (by rfl) (.tmp 39) (.tmp 59) 131 144 (.agg #[(.string ⟨#[]⟩), (.string ⟨#[]⟩), (.string ⟨#[]⟩), (.int .i64 0), (.bool false)]) 5 64 rfl Try.underlying131 info144 rfl (by decide) (by decide) (.slice A recs.length cp) recs.length (recs.flatMap A98.l) [.string key, .string pa, .string cu, .int .i64 am, .bool true] (by rfl) (by rfl) rfl (by simp [Value.oneCell']) HR2.drew (Below.refl _ _) hbb (by omega) ?_
    intro v4 w4 ho4 hb4 hg4 hat4
    have hO4 := Own.snoc (p := (⟨key, pa, cu, am, true⟩ : A98)) ho4
    obtain ⟨b4, c4, rfl⟩ : ∃ b4 c4, v4 = .slice (some ⟨b4, 0, none⟩) (recs.length + 1) c4 := by
      rcases hO4.cases_ with ⟨_, h⟩ | ⟨b, c, h, _⟩
      · simp at h
      · exact ⟨b, c, by simpa using h⟩
    have hB4 : Blk w4 g #[.slice A recs.length cp, .slice AL late.length cL] 134 := Blk.gb (B1.dr) hg4 (Ne.symm NG.out)
    have lB4 := hB4.lt; have fB4 := hB4.f; have cB4 := hB4.c
    refine hK.out _ _ ⟨(gcell hg4 NG.out (by simp [c1])), (gcell hg4 NB.out (by simp [c2])), (gcell hg4 NB.out (by simp [c2])), (gcell hg4 NB.out (by simp [c2])), (gcell hg4 NB.out (by simp [c2]))⟩ (fun hHeld => ?_)
    clear hK K
    refine norm_ (a' := ?_) ?_ ?_
    rotate_left
    · show Act.put _ (some 60) _ = _
      simp only [Act.put, List.setIfInBounds_toArray, List.set_cons_zero, List.set_cons_succ, i64_w, i32_w]
      rfl
    refine pure_ (i := 26) (N := some 61) (v := ?_) (a' := ?_) #[true, true, true, true, true, true, true, true, true, true, true, true, true, true, true, true, true, true, true, true, true, true, true, true, true, true, true, false, false] rfl rfl (by kernel_rfl) (fun _ _ _ h => h) (Or.inl ⟨by rfl, ?_⟩) ?_ ?_
    rotate_left
    · intro w'
      go_simp
      with_reducible rfl
    rotate_left
    · simp only [Act.put, List.setIfInBounds_toArray, List.set_cons_zero, List.set_cons_succ, i64_w, i32_w]
      rfl
    refine pure_ (i := 27) (N := some 62) (v := ?_) (a' := ?_) #[true, true, true, true, true, true, true, true, true, true, true, true, true, true, true, true, true, true, true, true, true, true, true, true, true, true, true, true, false] rfl rfl (by kernel_rfl) (fun _ _ _ h => h) (Or.inl ⟨by rfl, ?_⟩) ?_ ?_
    rotate_left
    · intro w'
      go_simp
      with_reducible rfl
    rotate_left
    · simp only [Act.put, List.setIfInBounds_toArray, List.set_cons_zero, List.set_cons_succ, i64_w, i32_w]
      rfl
    refine last_ (i := 28) (N := none) #[true, true, true, true, true, true, true, true, true, true, true, true, true, true, true, true, true, true, true, true, true, true, true, true, true, true, true, true, true] rfl rfl (by kernel_rfl) (by decide) (fun K hK => ?_)
    refine skip_ (w1 := ?_) (by rfl) rfl ?_ ?_
    rotate_left
    · go_simp
      rfl
    refine hK.out _ _ ?_
    clear hK K
    refine done_ (by kernel_rfl) ?_
    have hL4 : Own A102.l 3 137 w4 base (.slice AL late.length cL) late := (hR1.lat.drew).kept (fun k hk => hg4.block k (hR1.lat.lt hk) (fun h => hR1.lat.ne_own HR2 (by decide) k hk h.symm))
    have nbl := own_nb hR1.lat B1 (by decide)
    have nb4 : (Value.slice (some ⟨b4, 0, none⟩) (recs.length + 1) c4).ownBlock ≠ some g := own_nb hO4 hB4 (by decide)
    have hR5 : Rt (w4.setCell ⟨g, 0, none⟩ (.slice (some ⟨b4, 0, none⟩) (recs.length + 1) c4)) base g (.slice (some ⟨b4, 0, none⟩) (recs.length + 1) c4) (.slice AL late.length cL) (recs ++ [⟨key, pa, cu, am, true⟩]) late :=
      ⟨(hB4.st 0 _).of rfl, hO4.far (p := ⟨g, 0, none⟩) nb4 _, hL4.far (p := ⟨g, 0, none⟩) nbl _⟩
    have hF5 : Fr (fun k => k = g ∨ (Value.slice A recs.length cp).ownBlock = some k ∨ (Value.slice AL late.length cL).ownBlock = some k) w (w4.setCell ⟨g, 0, none⟩ (.slice (some ⟨b4, 0, none⟩) (recs.length + 1) c4)) :=
      ((hF1.drew).grown hg4 (fun b h _ => Or.inr (Or.inl h))).setCell (fun _ => Or.inl rfl) _
    have hQ5 : Blk (w4.setCell ⟨g, 0, none⟩ (.slice (some ⟨b4, 0, none⟩) (recs.length + 1) c4)) w.heap.size #[.string kd, .string key, .string pa, .string cu, .int .i64 am, .int .i64 att] 34 := (Blk.gb (hQ1.dr) hg4 (Ne.symm NB.out)).so (by simp; omega)
    have hsX : w.heap.size + 1 ≤ (w4.setCell ⟨g, 0, none⟩ (.slice (some ⟨b4, 0, none⟩) (recs.length + 1) c4)).heap.size := by have := hF5.size; have := hQ5.lt; omega
    generalize w4.setCell ⟨g, 0, none⟩ (.slice (some ⟨b4, 0, none⟩) (recs.length + 1) c4) = wX at *
    obtain ⟨A5, c5, hv5, _, hC5⟩ := own98e hR5.rec_
    obtain rfl : (some ⟨b4, 0, none⟩ : Option Addr) = A5 := by injection hv5
    have c5' := hQ5.c; have l5 := hQ5.lt
    clear hO4 ho4 hb4 hg4 hat4 hB4 lB4 fB4 cB4 nb4 hL4 nbl c1 l1 f1 c2 l2 B1 HR2 hv5 hR1 hQ1 hF1 hbb hww
    go_wp2_with fail
    refine (kind_any' g _ _ c4 _ key (recs ++ [⟨key, pa, cu, am, true⟩]) _ (by simp) hR5.blk hC5 (by simp; omega)).mono ?_
    rintro e w1' ⟨rfl, rfl⟩
    rw [hkd.out]
    clear hC5
    have hRX : Rt wX base g (.slice (some ⟨b4, 0, none⟩) (recs.length + 1) c4) (.slice AL late.length cL) (sRecs key kd pa cu am 1 recs) late := by rw [hsr.out]; exact hR5
    have hFX := hF5
    have hQX := hQ5
    have c5' := hQX.c; have l5 := hQX.lt
    obtain ⟨kk, hkk⟩ : ∃ kk, kk = sKind key kd 1 recs := ⟨_, rfl⟩
    rw [← hkk]
    have HKK := hidI hkk
    clear hkk hR5 hF5 hQ5
    generalize hvr : (Value.slice (some ⟨b4, 0, none⟩) (recs.length + 1) c4) = vrX at *
    clear hvr
    clear c5' l5
    have c5' := hQX.c; have l5 := hQX.lt
    go_wp2
    go_ret
    refine hend.out (.slice (some ⟨wX.heap.size + 1, 0, none⟩) 1 1) vrX _ _ ?_ ((hRX.alloc _).alloc _) ((hFX.alloc _).alloc _)
    simp only [sX]
    rw [← HKK.out]
    exact Own.lit (xs := [(⟨key, kk, att⟩ : A102)]) (Blk.new' (by simp)) rfl rfl (by omega) (by simp)
  · skip
    have hsr : Hid (sRecs key kd pa cu am 1 recs = recs) := by show _ = _; exact sr_same hno
    have hkd : Hid (sKind key kd 1 recs = rKind key recs) := by show _ = _; exact sk_same hno
    clear hno
    rcases hw with ⟨hp, hu⟩ | ⟨hp, hq⟩
    all_goals
      go_enter Try.func71, Try.ntmps71
      go_wp2_with fail
      obtain ⟨hR1, hQ1, hF1, hC1, hs1⟩ := HPACK.out
      refine (kind_any g A cp _ key recs _ hR1.blk hC1 (by omega)).mono ?_
      rintro e w1 ⟨rfl, rfl⟩
      obtain ⟨kk, hkk⟩ : ∃ kk, kk = rKind key recs := ⟨_, rfl⟩
      have HKK : Hid (kk = sKind key kd 1 recs) := by show _ = _; rw [hkd.out]; exact hkk
      try rw [← hkk] at hu
      rw [← hkk]
      have hRX : Rt (w.alloc (.cells #[.string kd, .string key, .string pa, .string cu, .int .i64 am, .int .i64 att] 34)) base g (.slice A recs.length cp) (.slice AL late.length cL) (sRecs key kd pa cu am 1 recs) late := by rw [hsr.out]; exact hR1
      have hFX := hF1
      have hQX := hQ1
      have c5' := hQX.c; have l5 := hQX.lt
      have hsX : w.heap.size + 1 ≤ (w.alloc (.cells #[.string kd, .string key, .string pa, .string cu, .int .i64 am, .int .i64 att] 34)).heap.size := by omega
      clear hkk hC1 hR1 hF1 hQ1 hs1
      generalize w.alloc _ = wX at *
      generalize hvr : (Value.slice A recs.length cp) = vrX at *
      clear hvr
      clear c5' l5
      have c5' := hQX.c; have l5 := hQX.lt
      go_wp2
      go_ret
      refine hend.out (.slice (some ⟨wX.heap.size + 1, 0, none⟩) 1 1) vrX _ _ ?_ ((hRX.alloc _).alloc _) ((hFX.alloc _).alloc _)
      simp only [sX]
      rw [← HKK.out]
      exact Own.lit (xs := [(⟨key, kk, att⟩ : A102)]) (Blk.new' (by simp)) rfl rfl (by omega) (by simp)

set_option maxRecDepth 100000 in
set_option maxHeartbeats 4000000 in
theorem rask_2 (base g : Nat) (vr vl : Value) (key kd pa cu : ByteArray) (am att c : Int) (recs : List A98) (late : List A102) (w : World)
    (hG : Rt w base g vr vl recs late) (hb : base ≤ w.heap.size) (hl : recs.length ≤ 100000) (hl2 : late.length ≤ 100000) (hc : 0 ≤ c ∧ c < 256) (h : gOk kd (c % 8) = true) (hm : c % 8 = 2) :
    Calls Try.prog 71 #[.pointer (some ⟨g, 0, none⟩), .agg #[.string kd, .string key, .string pa, .string cu, .int .i64 am, .int .i64 att], .int .u8 c] w (RAskP base g vr vl key kd pa cu am att (c % 8) recs late w) := by
  have hpq : kd.toList = [112, 97, 121] ∨ ((kd.toList == [112, 97, 121]) = false ∧ kd.toList = [113, 117, 101, 114, 121]) := by
    simp only [gOk, asks, Bool.and_eq_true, Bool.or_eq_true, beq_iff_eq] at h
    by_cases hp : kd.toList = [112, 97, 121]
    · exact Or.inl hp
    · exact Or.inr ⟨by simpa using hp, h.2.resolve_left hp⟩
  have hend : Hid (∀ v vr' vl' w', Own A102.l 3 137 w' w.heap.size v ([]) → Rt w' base g vr' vl' (sRecs key kd pa cu am 2 recs) (late) →
      Fr (fun k => k = g ∨ vr.ownBlock = some k ∨ vl.ownBlock = some k) w w' → RAskP base g vr vl key kd pa cu am att (c % 8) recs late w (.returned v) w') := by
    intro v vr' vl' w' h1 h2 h3
    rw [hm] at h ⊢
    refine ⟨v, vr', vl', rfl, ?_, ?_, h3⟩
    · simpa [tTold, h] using h1
    · simpa [tRecs, tLate, h] using h2
  obtain ⟨A, cp, rfl, hcp, hC⟩ := own98e hG.rec_
  obtain ⟨AL, cL, rfl, hcL, _⟩ := own102e hG.lat
  have hg := hG.blk.lt
  have hR1 := hG.alloc (.cells #[.string kd, .string key, .string pa, .string cu, .int .i64 am, .int .i64 att] 34)
  have hQ1 := Blk.new' (w := w) (b := w.heap.size) (cs := #[.string kd, .string key, .string pa, .string cu, .int .i64 am, .int .i64 att]) (T := 34) rfl
  have hF1 : Fr (fun k => k = g ∨ (Value.slice A recs.length cp).ownBlock = some k ∨ (Value.slice AL late.length cL).ownBlock = some k) w (w.alloc (.cells #[.string kd, .string key, .string pa, .string cu, .int .i64 am, .int .i64 att] 34)) := (Fr.refl _ w).alloc _
  have hC1 := Kd.C_below hC (below_new (Below.refl _ _) (.cells #[.string kd, .string key, .string pa, .string cu, .int .i64 am, .int .i64 att] 34))
  have hs1 : (w.alloc (.cells #[.string kd, .string key, .string pa, .string cu, .int .i64 am, .int .i64 att] 34)).heap.size = w.heap.size + 1 := by simp
  have HPACK := hidI (And.intro hR1 (And.intro hQ1 (And.intro hF1 (And.intro hC1 hs1))))
  clear hC hG h hR1 hQ1 hF1 hC1 hs1
  have hways : (kd.toList = [112, 97, 121] ∧ fidx key 0 recs = -1) ∨ (¬ (fidx key 0 recs = -1 ∧ kd.toList = [112, 97, 121]) ∧ ((kd.toList = [112, 97, 121] ∧ ((rKind key recs).toList == [117, 110, 107, 110, 111, 119, 110]) = false) ∨ ((kd.toList == [112, 97, 121]) = false ∧ kd.toList = [113, 117, 101, 114, 121]))) := by
    rcases hpq with hp | ⟨hp, hq⟩
    · by_cases h0 : fidx key 0 recs = -1
      · exact Or.inl ⟨hp, h0⟩
      · exact Or.inr ⟨fun g => h0 g.1, Or.inl ⟨hp, rk_old h0⟩⟩
    · exact Or.inr ⟨fun g => (by rw [g.2] at hq; cases hq), Or.inr ⟨hp, hq⟩⟩
  clear hpq
  rcases hways with ⟨hp, h0⟩ | ⟨hno, hw⟩
  · skip
    have H0 := hidI h0
    have HP := hidI hp
    have hsr : Hid (sRecs key kd pa cu am 2 recs = recs ++ [⟨key, pa, cu, am, true⟩]) := by show _ = _; exact sr_made h0 hp
    have hkd : Hid (rKind key (recs ++ [⟨key, pa, cu, am, true⟩]) = sKind key kd 2 recs) := by show _ = _; exact sk_made (m := 2) h0 hp
    clear h0
    go_enter Try.func71, Try.ntmps71
    go_wp2_with fail
    obtain ⟨hR1, hQ1, hF1, hC1, hs1'⟩ := HPACK.out
    refine (kind_any g A cp _ key recs _ hR1.blk hC1 (by omega)).mono ?_
    rintro e w1 ⟨rfl, rfl⟩
    rw [rKind_no H0.out]
    unfold kUnknown
    clear hC1
    go_wp2_with fail
    generalize w.alloc _ = w1 at *
    have hs1 := hidI hs1'
    have B1 := hR1.blk
    have c1 := B1.c; have l1 := B1.lt; have f1 := B1.f
    have c2 := hQ1.c; have l2 := hQ1.lt
    have HR2 := hR1.rec_
    have hbb : base ≤ w1.heap.size := by omega
    have hww : w.heap.size ≤ w1.heap.size := by omega
    clear hs1'
    have NG : Hid ((Value.slice A recs.length cp).ownBlock ≠ some g) := own_nb HR2 B1 (by decide)
    have NB : Hid ((Value.slice A recs.length cp).ownBlock ≠ some w.heap.size) := own_nb HR2 hQ1 (by decide)
    refine start_ (n := 29) (S := fun w' => w'.cell? ⟨g, 0, none⟩ = some (.slice A recs.length cp) ∧ w'.cell? ⟨w.heap.size, 1, none⟩ = some (.string key) ∧ w'.cell? ⟨w.heap.size, 2, none⟩ = some (.string pa) ∧ w'.cell? ⟨w.heap.size, 3, none⟩ = some (.string cu) ∧ w'.cell? ⟨w.heap.size, 4, none⟩ = some (.int .i64 am)) (ds := [28]) #[false, false, false, false, false, false, false, false, false, false, false, false, false, false, false, false, false, false, false, false, false, false, false, false, false, false, false, false, false] (by kernel_rfl) rfl rfl ⟨(by simp [c1]), (by simp [c2]), (by simp [c2]), (by simp [c2]), (by simp [c2])⟩ (fun hHeld => ?_)
    refine pure_ (i := 0) (N := some 35) (v := ?_) (a' := ?_) #[true, false, false, false, false, false, false, false, false, false, false, false, false, false, false, false, false, false, false, false, false, false, false, false, false, false, false, false, false] rfl rfl (by kernel_rfl) (fun _ _ _ h => h) (Or.inl ⟨by rfl, ?_⟩) ?_ ?_
    rotate_left
    · intro w'
      go_simp
      with_reducible rfl
    rotate_left
    · simp only [Act.put, List.setIfInBounds_toArray, List.set_cons_zero, List.set_cons_succ, i64_w, i32_w]
      rfl
    refine pure_ (i := 1) (N := some 36) (v := ?_) (a' := ?_) #[true, true, false, false, false, false, false, false, false, false, false, false, false, false, false, false, false, false, false, false, false, false, false, false, false, false, false, false, false] rfl rfl (by kernel_rfl) (fun _ _ _ h => h) (Or.inl ⟨by rfl, ?_⟩) ?_ ?_
    rotate_left
    · intro w'
      go_simp
      with_reducible rfl
    rotate_left
    · simp only [Act.put, List.setIfInBounds_toArray, List.set_cons_zero, List.set_cons_succ, i64_w, i32_w]
      rfl
    refine pure_ (i := 2) (N := some 37) (v := ?_) (a' := ?_) #[true, true, true, false, false, false, false, false, false, false, false, false, false, false, false, false, false, false, false, false, false, false, false, false, false, false, false, false, false] rfl rfl (by kernel_rfl) (fun _ _ _ h => h) (Or.inl ⟨by rfl, ?_⟩) ?_ ?_
    rotate_left
    · intro w'
      go_simp
      with_reducible rfl
    rotate_left
    · simp only [Act.put, List.setIfInBounds_toArray, List.set_cons_zero, List.set_cons_succ, i64_w, i32_w]
      rfl
    refine pure_ (i := 3) (N := some 38) (v := ?_) (a' := ?_) #[true, true, true, true, false, false, false, false, false, false, false, false, false, false, false, false, false, false, false, false, false, false, false, false, false, false, false, false, false] rfl rfl (by kernel_rfl) (fun _ _ _ h => h) (Or.inl ⟨by rfl, ?_⟩) ?_ ?_
    rotate_left
    · intro w'
      go_simp
      with_reducible rfl
    rotate_left
    · simp only [Act.put, List.setIfInBounds_toArray, List.set_cons_zero, List.set_cons_succ, i64_w, i32_w]
      rfl
    refine pure_ (i := 5) (N := some 40) (v := ?_) (a' := ?_) #[true, true, true, true, false, true, false, false, false, false, false, false, false, false, false, false, false, false, false, false, false, false, false, false, false, false, false, false, false] rfl rfl (by kernel_rfl) (fun _ _ _ h => h) (Or.inl ⟨by rfl, ?_⟩) ?_ ?_
    rotate_left
    · intro w'
      go_simp
      with_reducible rfl
    rotate_left
    · simp only [Act.put, List.setIfInBounds_toArray, List.set_cons_zero, List.set_cons_succ, i64_w, i32_w]
      rfl
    refine pure_ (i := 7) (N := some 42) (v := ?_) (a' := ?_) #[true, true, true, true, false, true, false, true, false, false, false, false, false, false, false, false, false, false, false, false, false, false, false, false, false, false, false, false, false] rfl rfl (by kernel_rfl) (fun _ _ _ h => h) (Or.inl ⟨by rfl, ?_⟩) ?_ ?_
    rotate_left
    · intro w'
      go_simp
      with_reducible rfl
    rotate_left
    · simp only [Act.put, List.setIfInBounds_toArray, List.set_cons_zero, List.set_cons_succ, i64_w, i32_w]
      rfl
    refine pure_ (i := 9) (N := some 44) (v := ?_) (a' := ?_) #[true, true, true, true, false, true, false, true, false, true, false, false, false, false, false, false, false, false, false, false, false, false, false, false, false, false, false, false, false] rfl rfl (by kernel_rfl) (fun _ _ _ h => h) (Or.inl ⟨by rfl, ?_⟩) ?_ ?_
    rotate_left
    · intro w'
      go_simp
      with_reducible rfl
    rotate_left
    · simp only [Act.put, List.setIfInBounds_toArray, List.set_cons_zero, List.set_cons_succ, i64_w, i32_w]
      rfl
    refine pure_ (i := 11) (N := some 46) (v := ?_) (a' := ?_) #[true, true, true, true, false, true, false, true, false, true, false, true, false, false, false, false, false, false, false, false, false, false, false, false, false, false, false, false, false] rfl rfl (by kernel_rfl) (fun _ _ _ h => h) (Or.inl ⟨by rfl, ?_⟩) ?_ ?_
    rotate_left
    · intro w'
      go_simp
      with_reducible rfl
    rotate_left
    · simp only [Act.put, List.setIfInBounds_toArray, List.set_cons_zero, List.set_cons_succ, i64_w, i32_w]
      rfl
    refine pure_ (i := 13) (N := some 48) (v := ?_) (a' := ?_) #[true, true, true, true, false, true, false, true, false, true, false, true, false, true, false, false, false, false, false, false, false, false, false, false, false, false, false, false, false] rfl rfl (by kernel_rfl) (fun _ _ _ h => h) (Or.inl ⟨by rfl, ?_⟩) ?_ ?_
    rotate_left
    · intro w'
      go_simp
      with_reducible rfl
    rotate_left
    · simp only [Act.put, List.setIfInBounds_toArray, List.set_cons_zero, List.set_cons_succ, i64_w, i32_w]
      rfl
    refine pure_ (i := 14) (N := some 49) (v := ?_) (a' := ?_) #[true, true, true, true, false, true, false, true, false, true, false, true, false, true, true, false, false, false, false, false, false, false, false, false, false, false, false, false, false] rfl rfl (by kernel_rfl) (fun _ _ _ h => h) (Or.inl ⟨by rfl, ?_⟩) ?_ ?_
    rotate_left
    · intro w'
      go_simp
      with_reducible rfl
    rotate_left
    · simp only [Act.put, List.setIfInBounds_toArray, List.set_cons_zero, List.set_cons_succ, i64_w, i32_w]
      rfl
    refine pure_ (i := 15) (N := some 50) (v := ?_) (a' := ?_) #[true, true, true, true, false, true, false, true, false, true, false, true, false, true, true, true, false, false, false, false, false, false, false, false, false, false, false, false, false] rfl rfl (by kernel_rfl) (fun _ _ _ h => h) (Or.inl ⟨by rfl, ?_⟩) ?_ ?_
    rotate_left
    · intro w'
      go_simp
      with_reducible rfl
    rotate_left
    · simp only [Act.put, List.setIfInBounds_toArray, List.set_cons_zero, List.set_cons_succ, i64_w, i32_w]
      rfl
    refine pure_ (i := 16) (N := some 51) (v := ?_) (a' := ?_) #[true, true, true, true, false, true, false, true, false, true, false, true, false, true, true, true, true, false, false, false, false, false, false, false, false, false, false, false, false] rfl rfl (by kernel_rfl) (fun _ _ _ h => h) (Or.inl ⟨by rfl, ?_⟩) ?_ ?_
    rotate_left
    · intro w'
      go_simp
      with_reducible rfl
    rotate_left
    · simp only [Act.put, List.setIfInBounds_toArray, List.set_cons_zero, List.set_cons_succ, i64_w, i32_w]
      rfl
    refine pure_ (i := 17) (N := some 52) (v := ?_) (a' := ?_) #[true, true, true, true, false, true, false, true, false, true, false, true, false, true, true, true, true, true, false, false, false, false, false, false, false, false, false, false, false] rfl rfl (by kernel_rfl) (fun _ _ _ h => h) (Or.inl ⟨by rfl, ?_⟩) ?_ ?_
    rotate_left
    · intro w'
      go_simp
      with_reducible rfl
    rotate_left
    · simp only [Act.put, List.setIfInBounds_toArray, List.set_cons_zero, List.set_cons_succ, i64_w, i32_w]
      rfl
    refine pure_ (i := 18) (N := some 53) (v := ?_) (a' := ?_) #[true, true, true, true, false, true, false, true, false, true, false, true, false, true, true, true, true, true, true, false, false, false, false, false, false, false, false, false, false] rfl rfl (by kernel_rfl) (fun _ _ _ h => h) (Or.inl ⟨by rfl, ?_⟩) ?_ ?_
    rotate_left
    · intro w'
      go_simp
      with_reducible rfl
    rotate_left
    · simp only [Act.put, List.setIfInBounds_toArray, List.set_cons_zero, List.set_cons_succ, i64_w, i32_w]
      rfl
    refine pure_ (i := 19) (N := some 54) (v := ?_) (a' := ?_) #[true, true, true, true, false, true, false, true, false, true, false, true, false, true, true, true, true, true, true, true, false, false, false, false, false, false, false, false, false] rfl rfl (by kernel_rfl) (fun _ _ _ h => h) (Or.inl ⟨by rfl, ?_⟩) ?_ ?_
    rotate_left
    · intro w'
      go_simp
      with_reducible rfl
    rotate_left
    · simp only [Act.put, List.setIfInBounds_toArray, List.set_cons_zero, List.set_cons_succ, i64_w, i32_w]
      rfl
    refine pure_ (i := 20) (N := some 55) (v := ?_) (a' := ?_) #[true, true, true, true, false, true, false, true, false, true, false, true, false, true, true, true, true, true, true, true, true, false, false, false, false, false, false, false, false] rfl rfl (by kernel_rfl) (fun _ _ _ h => h) (Or.inl ⟨by rfl, ?_⟩) ?_ ?_
    rotate_left
    · intro w'
      go_simp
      with_reducible rfl
    rotate_left
    · simp only [Act.put, List.setIfInBounds_toArray, List.set_cons_zero, List.set_cons_succ, i64_w, i32_w]
      rfl
    refine pure_ (i := 21) (N := some 56) (v := ?_) (a' := ?_) #[true, true, true, true, false, true, false, true, false, true, false, true, false, true, true, true, true, true, true, true, true, true, false, false, false, false, false, false, false] rfl rfl (by kernel_rfl) (fun _ _ _ h => h) (Or.inl ⟨by rfl, ?_⟩) ?_ ?_
    rotate_left
    · intro w'
      go_simp
      with_reducible rfl
    rotate_left
    · simp only [Act.put, List.setIfInBounds_toArray, List.set_cons_zero, List.set_cons_succ, i64_w, i32_w]
      rfl
    refine pure_ (i := 22) (N := some 57) (v := ?_) (a' := ?_) #[true, true, true, true, false, true, false, true, false, true, false, true, false, true, true, true, true, true, true, true, true, true, true, false, false, false, false, false, false] rfl rfl (by kernel_rfl) (fun _ _ _ h => h) (Or.inl ⟨by rfl, ?_⟩) ?_ ?_
    rotate_left
    · intro w'
      go_simp
      with_reducible rfl
    rotate_left
    · simp only [Act.put, List.setIfInBounds_toArray, List.set_cons_zero, List.set_cons_succ, i64_w, i32_w]
      rfl
    refine take_ (i := 4) (N := some 39) (v := ?_) (a' := ?_) #[true, true, true, true, true, true, false, true, false, true, false, true, false, true, true, true, true, true, true, true, true, true, true, false, false, false, false, false, false] rfl rfl (by kernel_rfl) (fun _ _ _ h => h) (Or.inl ⟨by rfl, ?_⟩) hHeld ?_ ?_
    rotate_left
    · rintro w' ⟨s0, s1, s2, s3, s4⟩
      go_simp
      with_reducible rfl
    rotate_left
    · simp only [Act.put, List.setIfInBounds_toArray, List.set_cons_zero, List.set_cons_succ, i64_w, i32_w]
      rfl
    refine take_ (i := 6) (N := some 41) (v := ?_) (a' := ?_) #[true, true, true, true, true, true, true, true, false, true, false, true, false, true, true, true, true, true, true, true, true, true, true, false, false, false, false, false, false] rfl rfl (by kernel_rfl) (fun _ _ _ h => h) (Or.inl ⟨by rfl, ?_⟩) hHeld ?_ ?_
    rotate_left
    · rintro w' ⟨s0, s1, s2, s3, s4⟩
      go_simp
      with_reducible rfl
    rotate_left
    · simp only [Act.put, List.setIfInBounds_toArray, List.set_cons_zero, List.set_cons_succ, i64_w, i32_w]
      rfl
    refine take_ (i := 8) (N := some 43) (v := ?_) (a' := ?_) #[true, true, true, true, true, true, true, true, true, true, false, true, false, true, true, true, true, true, true, true, true, true, true, false, false, false, false, false, false] rfl rfl (by kernel_rfl) (fun _ _ _ h => h) (Or.inl ⟨by rfl, ?_⟩) hHeld ?_ ?_
    rotate_left
    · rintro w' ⟨s0, s1, s2, s3, s4⟩
      go_simp
      with_reducible rfl
    rotate_left
    · simp only [Act.put, List.setIfInBounds_toArray, List.set_cons_zero, List.set_cons_succ, i64_w, i32_w]
      rfl
    refine take_ (i := 10) (N := some 45) (v := ?_) (a' := ?_) #[true, true, true, true, true, true, true, true, true, true, true, true, false, true, true, true, true, true, true, true, true, true, true, false, false, false, false, false, false] rfl rfl (by kernel_rfl) (fun _ _ _ h => h) (Or.inl ⟨by rfl, ?_⟩) hHeld ?_ ?_
    rotate_left
    · rintro w' ⟨s0, s1, s2, s3, s4⟩
      go_simp
      with_reducible rfl
    rotate_left
    · simp only [Act.put, List.setIfInBounds_toArray, List.set_cons_zero, List.set_cons_succ, i64_w, i32_w]
      rfl
    refine take_ (i := 12) (N := some 47) (v := ?_) (a' := ?_) #[true, true, true, true, true, true, true, true, true, true, true, true, true, true, true, true, true, true, true, true, true, true, true, false, false, false, false, false, false] rfl rfl (by kernel_rfl) (fun _ _ _ h => h) (Or.inl ⟨by rfl, ?_⟩) hHeld ?_ ?_
    rotate_left
    · rintro w' ⟨s0, s1, s2, s3, s4⟩
      go_simp
      with_reducible rfl
    rotate_left
    · simp only [Act.put, List.setIfInBounds_toArray, List.set_cons_zero, List.set_cons_succ, i64_w, i32_w]
      rfl
    refine pure_ (i := 23) (N := some 58) (v := ?_) (a' := ?_) #[true, true, true, true, true, true, true, true, true, true, true, true, true, true, true, true, true, true, true, true, true, true, true, true, false, false, false, false, false] rfl rfl (by kernel_rfl) (fun _ _ _ h => h) (Or.inl ⟨by rfl, ?_⟩) ?_ ?_
    rotate_left
    · intro w'
      go_simp
      with_reducible rfl
    rotate_left
    · simp only [Act.put, List.setIfInBounds_toArray, List.set_cons_zero, List.set_cons_succ, i64_w, i32_w]
      rfl
    refine one_ (i := 24) (N := some 59) #[true, true, true, true, true, true, true, true, true, true, true, true, true, true, true, true, true, true, true, true, true, true, true, true, true, false, false, false, false] rfl rfl (by kernel_rfl) (by decide) (fun K hK => ?_)
    refine value_ (w1 := ?_) (v := ?_) (by rfl) rfl ?_ ?_
    rotate_left 2
    · go_simp
      constructor
      · rfl
      · rfl
    refine hK.out _ _ ⟨(cell_alloc hHeld.1 _), (cell_alloc hHeld.2.1 _), (cell_alloc hHeld.2.2.1 _), (cell_alloc hHeld.2.2.2.1 _), (cell_alloc hHeld.2.2.2.2 _)⟩ (fun hHeld => ?_)
    clear hK K
    refine norm_ (a' := ?_) ?_ ?_
    rotate_left
    · show Act.put _ (some 59) _ = _
      simp only [Act.put, List.setIfInBounds_toArray, List.set_cons_zero, List.set_cons_succ, i64_w, i32_w]
      rfl
    refine one_ (i := 25) (N := some 60) #[true, true, true, true, true, true, true, true, true, true, true, true, true, true, true, true, true, true, true, true, true, true, true, true, true, true, false, false, false] rfl rfl (by kernel_rfl) (by decide) (fun K hK => ?_)
    refine step_append_cells (w0 := w1.drew) (W := w1.drew) base (by rfl) (.tmp 39) (.tmp 59) 131 144 (.agg #[(.string ⟨#[]⟩), (.string ⟨#[]⟩), (.string ⟨#[]⟩), (.int .i64 0), (.bool false)]) 5 64 rfl Try.underlying131 info144 rfl (by decide) (by decide) (.slice A recs.length cp) recs.length (recs.flatMap A98.l) [.string key, .string pa, .string cu, .int .i64 am, .bool true] (by rfl) (by rfl) rfl (by simp [Value.oneCell']) HR2.drew (Below.refl _ _) hbb (by omega) ?_
    intro v4 w4 ho4 hb4 hg4 hat4
    have hO4 := Own.snoc (p := (⟨key, pa, cu, am, true⟩ : A98)) ho4
    obtain ⟨b4, c4, rfl⟩ : ∃ b4 c4, v4 = .slice (some ⟨b4, 0, none⟩) (recs.length + 1) c4 := by
      rcases hO4.cases_ with ⟨_, h⟩ | ⟨b, c, h, _⟩
      · simp at h
      · exact ⟨b, c, by simpa using h⟩
    have hB4 : Blk w4 g #[.slice A recs.length cp, .slice AL late.length cL] 134 := Blk.gb (B1.dr) hg4 (Ne.symm NG.out)
    have lB4 := hB4.lt; have fB4 := hB4.f; have cB4 := hB4.c
    refine hK.out _ _ ⟨(gcell hg4 NG.out (by simp [c1])), (gcell hg4 NB.out (by simp [c2])), (gcell hg4 NB.out (by simp [c2])), (gcell hg4 NB.out (by simp [c2])), (gcell hg4 NB.out (by simp [c2]))⟩ (fun hHeld => ?_)
    clear hK K
    refine norm_ (a' := ?_) ?_ ?_
    rotate_left
    · show Act.put _ (some 60) _ = _
      simp only [Act.put, List.setIfInBounds_toArray, List.set_cons_zero, List.set_cons_succ, i64_w, i32_w]
      rfl
    refine pure_ (i := 26) (N := some 61) (v := ?_) (a' := ?_) #[true, true, true, true, true, true, true, true, true, true, true, true, true, true, true, true, true, true, true, true, true, true, true, true, true, true, true, false, false] rfl rfl (by kernel_rfl) (fun _ _ _ h => h) (Or.inl ⟨by rfl, ?_⟩) ?_ ?_
    rotate_left
    · intro w'
      go_simp
      with_reducible rfl
    rotate_left
    · simp only [Act.put, List.setIfInBounds_toArray, List.set_cons_zero, List.set_cons_succ, i64_w, i32_w]
      rfl
    refine pure_ (i := 27) (N := some 62) (v := ?_) (a' := ?_) #[true, true, true, true, true, true, true, true, true, true, true, true, true, true, true, true, true, true, true, true, true, true, true, true, true, true, true, true, false] rfl rfl (by kernel_rfl) (fun _ _ _ h => h) (Or.inl ⟨by rfl, ?_⟩) ?_ ?_
    rotate_left
    · intro w'
      go_simp
      with_reducible rfl
    rotate_left
    · simp only [Act.put, List.setIfInBounds_toArray, List.set_cons_zero, List.set_cons_succ, i64_w, i32_w]
      rfl
    refine last_ (i := 28) (N := none) #[true, true, true, true, true, true, true, true, true, true, true, true, true, true, true, true, true, true, true, true, true, true, true, true, true, true, true, true, true] rfl rfl (by kernel_rfl) (by decide) (fun K hK => ?_)
    refine skip_ (w1 := ?_) (by rfl) rfl ?_ ?_
    rotate_left
    · go_simp
      rfl
    refine hK.out _ _ ?_
    clear hK K
    refine done_ (by kernel_rfl) ?_
    have hL4 : Own A102.l 3 137 w4 base (.slice AL late.length cL) late := (hR1.lat.drew).kept (fun k hk => hg4.block k (hR1.lat.lt hk) (fun h => hR1.lat.ne_own HR2 (by decide) k hk h.symm))
    have nbl := own_nb hR1.lat B1 (by decide)
    have nb4 : (Value.slice (some ⟨b4, 0, none⟩) (recs.length + 1) c4).ownBlock ≠ some g := own_nb hO4 hB4 (by decide)
    have hR5 : Rt (w4.setCell ⟨g, 0, none⟩ (.slice (some ⟨b4, 0, none⟩) (recs.length + 1) c4)) base g (.slice (some ⟨b4, 0, none⟩) (recs.length + 1) c4) (.slice AL late.length cL) (recs ++ [⟨key, pa, cu, am, true⟩]) late :=
      ⟨(hB4.st 0 _).of rfl, hO4.far (p := ⟨g, 0, none⟩) nb4 _, hL4.far (p := ⟨g, 0, none⟩) nbl _⟩
    have hF5 : Fr (fun k => k = g ∨ (Value.slice A recs.length cp).ownBlock = some k ∨ (Value.slice AL late.length cL).ownBlock = some k) w (w4.setCell ⟨g, 0, none⟩ (.slice (some ⟨b4, 0, none⟩) (recs.length + 1) c4)) :=
      ((hF1.drew).grown hg4 (fun b h _ => Or.inr (Or.inl h))).setCell (fun _ => Or.inl rfl) _
    have hQ5 : Blk (w4.setCell ⟨g, 0, none⟩ (.slice (some ⟨b4, 0, none⟩) (recs.length + 1) c4)) w.heap.size #[.string kd, .string key, .string pa, .string cu, .int .i64 am, .int .i64 att] 34 := (Blk.gb (hQ1.dr) hg4 (Ne.symm NB.out)).so (by simp; omega)
    have hsX : w.heap.size + 1 ≤ (w4.setCell ⟨g, 0, none⟩ (.slice (some ⟨b4, 0, none⟩) (recs.length + 1) c4)).heap.size := by have := hF5.size; have := hQ5.lt; omega
    generalize w4.setCell ⟨g, 0, none⟩ (.slice (some ⟨b4, 0, none⟩) (recs.length + 1) c4) = wX at *
    obtain ⟨A5, c5, hv5, _, hC5⟩ := own98e hR5.rec_
    obtain rfl : (some ⟨b4, 0, none⟩ : Option Addr) = A5 := by injection hv5
    have c5' := hQ5.c; have l5 := hQ5.lt
    clear hO4 ho4 hb4 hg4 hat4 hB4 lB4 fB4 cB4 nb4 hL4 nbl c1 l1 f1 c2 l2 B1 HR2 hv5 hR1 hQ1 hF1 hbb hww
    go_wp2_with fail
    refine (kind_any' g _ _ c4 _ key (recs ++ [⟨key, pa, cu, am, true⟩]) _ (by simp) hR5.blk hC5 (by simp; omega)).mono ?_
    rintro e w1' ⟨rfl, rfl⟩
    rw [hkd.out]
    clear hC5
    have hRX : Rt wX base g (.slice (some ⟨b4, 0, none⟩) (recs.length + 1) c4) (.slice AL late.length cL) (sRecs key kd pa cu am 2 recs) late := by rw [hsr.out]; exact hR5
    have hFX := hF5
    have hQX := hQ5
    have c5' := hQX.c; have l5 := hQX.lt
    obtain ⟨kk, hkk⟩ : ∃ kk, kk = sKind key kd 2 recs := ⟨_, rfl⟩
    rw [← hkk]
    have HKK := hidI hkk
    clear hkk hR5 hF5 hQ5
    generalize hvr : (Value.slice (some ⟨b4, 0, none⟩) (recs.length + 1) c4) = vrX at *
    clear hvr
    clear c5' l5
    have c5' := hQX.c; have l5 := hQX.lt
    go_wp2
    go_ret
    exact hend.out (.slice none 0 0) vrX _ _ (Own.nil _ _ _ _ _) (hRX.alloc _) (hFX.alloc _)
  · skip
    have hsr : Hid (sRecs key kd pa cu am 2 recs = recs) := by show _ = _; exact sr_same hno
    have hkd : Hid (sKind key kd 2 recs = rKind key recs) := by show _ = _; exact sk_same hno
    clear hno
    rcases hw with ⟨hp, hu⟩ | ⟨hp, hq⟩
    all_goals
      go_enter Try.func71, Try.ntmps71
      go_wp2_with fail
      obtain ⟨hR1, hQ1, hF1, hC1, hs1⟩ := HPACK.out
      refine (kind_any g A cp _ key recs _ hR1.blk hC1 (by omega)).mono ?_
      rintro e w1 ⟨rfl, rfl⟩
      obtain ⟨kk, hkk⟩ : ∃ kk, kk = rKind key recs := ⟨_, rfl⟩
      have HKK : Hid (kk = sKind key kd 2 recs) := by show _ = _; rw [hkd.out]; exact hkk
      try rw [← hkk] at hu
      rw [← hkk]
      have hRX : Rt (w.alloc (.cells #[.string kd, .string key, .string pa, .string cu, .int .i64 am, .int .i64 att] 34)) base g (.slice A recs.length cp) (.slice AL late.length cL) (sRecs key kd pa cu am 2 recs) late := by rw [hsr.out]; exact hR1
      have hFX := hF1
      have hQX := hQ1
      have c5' := hQX.c; have l5 := hQX.lt
      have hsX : w.heap.size + 1 ≤ (w.alloc (.cells #[.string kd, .string key, .string pa, .string cu, .int .i64 am, .int .i64 att] 34)).heap.size := by omega
      clear hkk hC1 hR1 hF1 hQ1 hs1
      generalize w.alloc _ = wX at *
      generalize hvr : (Value.slice A recs.length cp) = vrX at *
      clear hvr
      clear c5' l5
      have c5' := hQX.c; have l5 := hQX.lt
      go_wp2
      go_ret
      exact hend.out (.slice none 0 0) vrX _ _ (Own.nil _ _ _ _ _) (hRX.alloc _) (hFX.alloc _)

set_option maxRecDepth 100000 in
set_option maxHeartbeats 4000000 in
theorem rask_3 (base g : Nat) (vr vl : Value) (key kd pa cu : ByteArray) (am att c : Int) (recs : List A98) (late : List A102) (w : World)
    (hG : Rt w base g vr vl recs late) (hb : base ≤ w.heap.size) (hl : recs.length ≤ 100000) (hl2 : late.length ≤ 100000) (hc : 0 ≤ c ∧ c < 256) (h : gOk kd (c % 8) = true) (hm : c % 8 = 3) :
    Calls Try.prog 71 #[.pointer (some ⟨g, 0, none⟩), .agg #[.string kd, .string key, .string pa, .string cu, .int .i64 am, .int .i64 att], .int .u8 c] w (RAskP base g vr vl key kd pa cu am att (c % 8) recs late w) := by
  have hpq : kd.toList = [112, 97, 121] ∨ ((kd.toList == [112, 97, 121]) = false ∧ kd.toList = [113, 117, 101, 114, 121]) := by
    simp only [gOk, asks, Bool.and_eq_true, Bool.or_eq_true, beq_iff_eq] at h
    by_cases hp : kd.toList = [112, 97, 121]
    · exact Or.inl hp
    · exact Or.inr ⟨by simpa using hp, h.2.resolve_left hp⟩
  have hend : Hid (∀ v vr' vl' w', Own A102.l 3 137 w' w.heap.size v ([sX key kd att 3 recs]) → Rt w' base g vr' vl' (sRecs key kd pa cu am 3 recs) (late) →
      Fr (fun k => k = g ∨ vr.ownBlock = some k ∨ vl.ownBlock = some k) w w' → RAskP base g vr vl key kd pa cu am att (c % 8) recs late w (.returned v) w') := by
    intro v vr' vl' w' h1 h2 h3
    rw [hm] at h ⊢
    refine ⟨v, vr', vl', rfl, ?_, ?_, h3⟩
    · simpa [tTold, h] using h1
    · simpa [tRecs, tLate, h] using h2
  obtain ⟨A, cp, rfl, hcp, hC⟩ := own98e hG.rec_
  obtain ⟨AL, cL, rfl, hcL, _⟩ := own102e hG.lat
  have hg := hG.blk.lt
  have hR1 := hG.alloc (.cells #[.string kd, .string key, .string pa, .string cu, .int .i64 am, .int .i64 att] 34)
  have hQ1 := Blk.new' (w := w) (b := w.heap.size) (cs := #[.string kd, .string key, .string pa, .string cu, .int .i64 am, .int .i64 att]) (T := 34) rfl
  have hF1 : Fr (fun k => k = g ∨ (Value.slice A recs.length cp).ownBlock = some k ∨ (Value.slice AL late.length cL).ownBlock = some k) w (w.alloc (.cells #[.string kd, .string key, .string pa, .string cu, .int .i64 am, .int .i64 att] 34)) := (Fr.refl _ w).alloc _
  have hC1 := Kd.C_below hC (below_new (Below.refl _ _) (.cells #[.string kd, .string key, .string pa, .string cu, .int .i64 am, .int .i64 att] 34))
  have hs1 : (w.alloc (.cells #[.string kd, .string key, .string pa, .string cu, .int .i64 am, .int .i64 att] 34)).heap.size = w.heap.size + 1 := by simp
  have HPACK := hidI (And.intro hR1 (And.intro hQ1 (And.intro hF1 (And.intro hC1 hs1))))
  clear hC hG h hR1 hQ1 hF1 hC1 hs1
  have hways : (kd.toList = [112, 97, 121] ∧ fidx key 0 recs = -1) ∨ (¬ (fidx key 0 recs = -1 ∧ kd.toList = [112, 97, 121]) ∧ ((kd.toList = [112, 97, 121] ∧ ((rKind key recs).toList == [117, 110, 107, 110, 111, 119, 110]) = false) ∨ ((kd.toList == [112, 97, 121]) = false ∧ kd.toList = [113, 117, 101, 114, 121]))) := by
    rcases hpq with hp | ⟨hp, hq⟩
    · by_cases h0 : fidx key 0 recs = -1
      · exact Or.inl ⟨hp, h0⟩
      · exact Or.inr ⟨fun g => h0 g.1, Or.inl ⟨hp, rk_old h0⟩⟩
    · exact Or.inr ⟨fun g => (by rw [g.2] at hq; cases hq), Or.inr ⟨hp, hq⟩⟩
  clear hpq
  rcases hways with ⟨hp, h0⟩ | ⟨hno, hw⟩
  · skip
    have H0 := hidI h0
    have HP := hidI hp
    have hsr : Hid (sRecs key kd pa cu am 3 recs = recs ++ [⟨key, pa, cu, am, false⟩]) := by show _ = _; exact sr_made h0 hp
    have hkd : Hid (rKind key (recs ++ [⟨key, pa, cu, am, false⟩]) = sKind key kd 3 recs) := by show _ = _; exact sk_made (m := 3) h0 hp
    clear h0
    go_enter Try.func71, Try.ntmps71
    go_wp2_with fail
    obtain ⟨hR1, hQ1, hF1, hC1, hs1'⟩ := HPACK.out
    refine (kind_any g A cp _ key recs _ hR1.blk hC1 (by omega)).mono ?_
    rintro e w1 ⟨rfl, rfl⟩
    rw [rKind_no H0.out]
    unfold kUnknown
    clear hC1
    go_wp2_with fail
    generalize w.alloc _ = w1 at *
    have hs1 := hidI hs1'
    have B1 := hR1.blk
    have c1 := B1.c; have l1 := B1.lt; have f1 := B1.f
    have c2 := hQ1.c; have l2 := hQ1.lt
    have HR2 := hR1.rec_
    have hbb : base ≤ w1.heap.size := by omega
    have hww : w.heap.size ≤ w1.heap.size := by omega
    clear hs1'
    have NG : Hid ((Value.slice A recs.length cp).ownBlock ≠ some g) := own_nb HR2 B1 (by decide)
    have NB : Hid ((Value.slice A recs.length cp).ownBlock ≠ some w.heap.size) := own_nb HR2 hQ1 (by decide)
    refine start_ (n := 29) (S := fun w' => w'.cell? ⟨g, 0, none⟩ = some (.slice A recs.length cp) ∧ w'.cell? ⟨w.heap.size, 1, none⟩ = some (.string key) ∧ w'.cell? ⟨w.heap.size, 2, none⟩ = some (.string pa) ∧ w'.cell? ⟨w.heap.size, 3, none⟩ = some (.string cu) ∧ w'.cell? ⟨w.heap.size, 4, none⟩ = some (.int .i64 am)) (ds := [28]) #[false, false, false, false, false, false, false, false, false, false, false, false, false, false, false, false, false, false, false, false, false, false, false, false, false, false, false, false, false] (by kernel_rfl) rfl rfl ⟨(by simp [c1]), (by simp [c2]), (by simp [c2]), (by simp [c2]), (by simp [c2])⟩ (fun hHeld => ?_)
    refine pure_ (i := 0) (N := some 35) (v := ?_) (a' := ?_) #[true, false, false, false, false, false, false, false, false, false, false, false, false, false, false, false, false, false, false, false, false, false, false, false, false, false, false, false, false] rfl rfl (by kernel_rfl) (fun _ _ _ h => h) (Or.inl ⟨by rfl, ?_⟩) ?_ ?_
    rotate_left
    · intro w'
      go_simp
      with_reducible rfl
    rotate_left
    · simp only [Act.put, List.setIfInBounds_toArray, List.set_cons_zero, List.set_cons_succ, i64_w, i32_w]
      rfl
    refine pure_ (i := 1) (N := some 36) (v := ?_) (a' := ?_) #[true, true, false, false, false, false, false, false, false, false, false, false, false, false, false, false, false, false, false, false, false, false, false, false, false, false, false, false, false] rfl rfl (by kernel_rfl) (fun _ _ _ h => h) (Or.inl ⟨by rfl, ?_⟩) ?_ ?_
    rotate_left
    · intro w'
      go_simp
      with_reducible rfl
    rotate_left
    · simp only [Act.put, List.setIfInBounds_toArray, List.set_cons_zero, List.set_cons_succ, i64_w, i32_w]
      rfl
    refine pure_ (i := 2) (N := some 37) (v := ?_) (a' := ?_) #[true, true, true, false, false, false, false, false, false, false, false, false, false, false, false, false, false, false, false, false, false, false, false, false, false, false, false, false, false] rfl rfl (by kernel_rfl) (fun _ _ _ h => h) (Or.inl ⟨by rfl, ?_⟩) ?_ ?_
    rotate_left
    · intro w'
      go_simp
      with_reducible rfl
    rotate_left
    · simp only [Act.put, List.setIfInBounds_toArray, List.set_cons_zero, List.set_cons_succ, i64_w, i32_w]
      rfl
    refine pure_ (i := 3) (N := some 38) (v := ?_) (a' := ?_) #[true, true, true, true, false, false, false, false, false, false, false, false, false, false, false, false, false, false, false, false, false, false, false, false, false, false, false, false, false] rfl rfl (by kernel_rfl) (fun _ _ _ h => h) (Or.inl ⟨by rfl, ?_⟩) ?_ ?_
    rotate_left
    · intro w'
      go_simp
      with_reducible rfl
    rotate_left
    · simp only [Act.put, List.setIfInBounds_toArray, List.set_cons_zero, List.set_cons_succ, i64_w, i32_w]
      rfl
    refine pure_ (i := 5) (N := some 40) (v := ?_) (a' := ?_) #[true, true, true, true, false, true, false, false, false, false, false, false, false, false, false, false, false, false, false, false, false, false, false, false, false, false, false, false, false] rfl rfl (by kernel_rfl) (fun _ _ _ h => h) (Or.inl ⟨by rfl, ?_⟩) ?_ ?_
    rotate_left
    · intro w'
      go_simp
      with_reducible rfl
    rotate_left
    · simp only [Act.put, List.setIfInBounds_toArray, List.set_cons_zero, List.set_cons_succ, i64_w, i32_w]
      rfl
    refine pure_ (i := 7) (N := some 42) (v := ?_) (a' := ?_) #[true, true, true, true, false, true, false, true, false, false, false, false, false, false, false, false, false, false, false, false, false, false, false, false, false, false, false, false, false] rfl rfl (by kernel_rfl) (fun _ _ _ h => h) (Or.inl ⟨by rfl, ?_⟩) ?_ ?_
    rotate_left
    · intro w'
      go_simp
      with_reducible rfl
    rotate_left
    · simp only [Act.put, List.setIfInBounds_toArray, List.set_cons_zero, List.set_cons_succ, i64_w, i32_w]
      rfl
    refine pure_ (i := 9) (N := some 44) (v := ?_) (a' := ?_) #[true, true, true, true, false, true, false, true, false, true, false, false, false, false, false, false, false, false, false, false, false, false, false, false, false, false, false, false, false] rfl rfl (by kernel_rfl) (fun _ _ _ h => h) (Or.inl ⟨by rfl, ?_⟩) ?_ ?_
    rotate_left
    · intro w'
      go_simp
      with_reducible rfl
    rotate_left
    · simp only [Act.put, List.setIfInBounds_toArray, List.set_cons_zero, List.set_cons_succ, i64_w, i32_w]
      rfl
    refine pure_ (i := 11) (N := some 46) (v := ?_) (a' := ?_) #[true, true, true, true, false, true, false, true, false, true, false, true, false, false, false, false, false, false, false, false, false, false, false, false, false, false, false, false, false] rfl rfl (by kernel_rfl) (fun _ _ _ h => h) (Or.inl ⟨by rfl, ?_⟩) ?_ ?_
    rotate_left
    · intro w'
      go_simp
      with_reducible rfl
    rotate_left
    · simp only [Act.put, List.setIfInBounds_toArray, List.set_cons_zero, List.set_cons_succ, i64_w, i32_w]
      rfl
    refine pure_ (i := 13) (N := some 48) (v := ?_) (a' := ?_) #[true, true, true, true, false, true, false, true, false, true, false, true, false, true, false, false, false, false, false, false, false, false, false, false, false, false, false, false, false] rfl rfl (by kernel_rfl) (fun _ _ _ h => h) (Or.inl ⟨by rfl, ?_⟩) ?_ ?_
    rotate_left
    · intro w'
      go_simp
      with_reducible rfl
    rotate_left
    · simp only [Act.put, List.setIfInBounds_toArray, List.set_cons_zero, List.set_cons_succ, i64_w, i32_w]
      rfl
    refine pure_ (i := 14) (N := some 49) (v := ?_) (a' := ?_) #[true, true, true, true, false, true, false, true, false, true, false, true, false, true, true, false, false, false, false, false, false, false, false, false, false, false, false, false, false] rfl rfl (by kernel_rfl) (fun _ _ _ h => h) (Or.inl ⟨by rfl, ?_⟩) ?_ ?_
    rotate_left
    · intro w'
      go_simp
      with_reducible rfl
    rotate_left
    · simp only [Act.put, List.setIfInBounds_toArray, List.set_cons_zero, List.set_cons_succ, i64_w, i32_w]
      rfl
    refine pure_ (i := 15) (N := some 50) (v := ?_) (a' := ?_) #[true, true, true, true, false, true, false, true, false, true, false, true, false, true, true, true, false, false, false, false, false, false, false, false, false, false, false, false, false] rfl rfl (by kernel_rfl) (fun _ _ _ h => h) (Or.inl ⟨by rfl, ?_⟩) ?_ ?_
    rotate_left
    · intro w'
      go_simp
      with_reducible rfl
    rotate_left
    · simp only [Act.put, List.setIfInBounds_toArray, List.set_cons_zero, List.set_cons_succ, i64_w, i32_w]
      rfl
    refine pure_ (i := 16) (N := some 51) (v := undef) (a' := ?_) #[true, true, true, true, false, true, false, true, false, true, false, true, false, true, true, true, true, false, false, false, false, false, false, false, false, false, false, false, false] rfl rfl (by kernel_rfl) (fun _ _ _ h => h) (Or.inr ⟨by rfl, rfl⟩) ?_ ?_
    rotate_left
    · simp only [Act.put, List.setIfInBounds_toArray, List.set_cons_zero, List.set_cons_succ, i64_w, i32_w]
      rfl
    refine pure_ (i := 17) (N := some 52) (v := undef) (a' := ?_) #[true, true, true, true, false, true, false, true, false, true, false, true, false, true, true, true, true, true, false, false, false, false, false, false, false, false, false, false, false] rfl rfl (by kernel_rfl) (fun _ _ _ h => h) (Or.inr ⟨by rfl, rfl⟩) ?_ ?_
    rotate_left
    · simp only [Act.put, List.setIfInBounds_toArray, List.set_cons_zero, List.set_cons_succ, i64_w, i32_w]
      rfl
    refine pure_ (i := 18) (N := some 53) (v := ?_) (a' := ?_) #[true, true, true, true, false, true, false, true, false, true, false, true, false, true, true, true, true, true, true, false, false, false, false, false, false, false, false, false, false] rfl rfl (by kernel_rfl) (fun _ _ _ h => h) (Or.inl ⟨by rfl, ?_⟩) ?_ ?_
    rotate_left
    · intro w'
      go_simp
      with_reducible rfl
    rotate_left
    · simp only [Act.put, List.setIfInBounds_toArray, List.set_cons_zero, List.set_cons_succ, i64_w, i32_w]
      rfl
    refine pure_ (i := 19) (N := some 54) (v := ?_) (a' := ?_) #[true, true, true, true, false, true, false, true, false, true, false, true, false, true, true, true, true, true, true, true, false, false, false, false, false, false, false, false, false] rfl rfl (by kernel_rfl) (fun _ _ _ h => h) (Or.inl ⟨by rfl, ?_⟩) ?_ ?_
    rotate_left
    · intro w'
      go_simp
      with_reducible rfl
    rotate_left
    · simp only [Act.put, List.setIfInBounds_toArray, List.set_cons_zero, List.set_cons_succ, i64_w, i32_w]
      rfl
    refine pure_ (i := 20) (N := some 55) (v := undef) (a' := ?_) #[true, true, true, true, false, true, false, true, false, true, false, true, false, true, true, true, true, true, true, true, true, false, false, false, false, false, false, false, false] rfl rfl (by kernel_rfl) (fun _ _ _ h => h) (Or.inr ⟨by rfl, rfl⟩) ?_ ?_
    rotate_left
    · simp only [Act.put, List.setIfInBounds_toArray, List.set_cons_zero, List.set_cons_succ, i64_w, i32_w]
      rfl
    refine pure_ (i := 21) (N := some 56) (v := undef) (a' := ?_) #[true, true, true, true, false, true, false, true, false, true, false, true, false, true, true, true, true, true, true, true, true, true, false, false, false, false, false, false, false] rfl rfl (by kernel_rfl) (fun _ _ _ h => h) (Or.inr ⟨by rfl, rfl⟩) ?_ ?_
    rotate_left
    · simp only [Act.put, List.setIfInBounds_toArray, List.set_cons_zero, List.set_cons_succ, i64_w, i32_w]
      rfl
    refine pure_ (i := 22) (N := some 57) (v := ?_) (a' := ?_) #[true, true, true, true, false, true, false, true, false, true, false, true, false, true, true, true, true, true, true, true, true, true, true, false, false, false, false, false, false] rfl rfl (by kernel_rfl) (fun _ _ _ h => h) (Or.inl ⟨by rfl, ?_⟩) ?_ ?_
    rotate_left
    · intro w'
      go_simp
      with_reducible rfl
    rotate_left
    · simp only [Act.put, List.setIfInBounds_toArray, List.set_cons_zero, List.set_cons_succ, i64_w, i32_w]
      rfl
    refine take_ (i := 4) (N := some 39) (v := ?_) (a' := ?_) #[true, true, true, true, true, true, false, true, false, true, false, true, false, true, true, true, true, true, true, true, true, true, true, false, false, false, false, false, false] rfl rfl (by kernel_rfl) (fun _ _ _ h => h) (Or.inl ⟨by rfl, ?_⟩) hHeld ?_ ?_
    rotate_left
    · rintro w' ⟨s0, s1, s2, s3, s4⟩
      go_simp
      with_reducible rfl
    rotate_left
    · simp only [Act.put, List.setIfInBounds_toArray, List.set_cons_zero, List.set_cons_succ, i64_w, i32_w]
      rfl
    refine take_ (i := 6) (N := some 41) (v := ?_) (a' := ?_) #[true, true, true, true, true, true, true, true, false, true, false, true, false, true, true, true, true, true, true, true, true, true, true, false, false, false, false, false, false] rfl rfl (by kernel_rfl) (fun _ _ _ h => h) (Or.inl ⟨by rfl, ?_⟩) hHeld ?_ ?_
    rotate_left
    · rintro w' ⟨s0, s1, s2, s3, s4⟩
      go_simp
      with_reducible rfl
    rotate_left
    · simp only [Act.put, List.setIfInBounds_toArray, List.set_cons_zero, List.set_cons_succ, i64_w, i32_w]
      rfl
    refine take_ (i := 8) (N := some 43) (v := ?_) (a' := ?_) #[true, true, true, true, true, true, true, true, true, true, false, true, false, true, true, true, true, true, true, true, true, true, true, false, false, false, false, false, false] rfl rfl (by kernel_rfl) (fun _ _ _ h => h) (Or.inl ⟨by rfl, ?_⟩) hHeld ?_ ?_
    rotate_left
    · rintro w' ⟨s0, s1, s2, s3, s4⟩
      go_simp
      with_reducible rfl
    rotate_left
    · simp only [Act.put, List.setIfInBounds_toArray, List.set_cons_zero, List.set_cons_succ, i64_w, i32_w]
      rfl
    refine take_ (i := 10) (N := some 45) (v := ?_) (a' := ?_) #[true, true, true, true, true, true, true, true, true, true, true, true, false, true, true, true, true, true, true, true, true, true, true, false, false, false, false, false, false] rfl rfl (by kernel_rfl) (fun _ _ _ h => h) (Or.inl ⟨by rfl, ?_⟩) hHeld ?_ ?_
    rotate_left
    · rintro w' ⟨s0, s1, s2, s3, s4⟩
      go_simp
      with_reducible rfl
    rotate_left
    · simp only [Act.put, List.setIfInBounds_toArray, List.set_cons_zero, List.set_cons_succ, i64_w, i32_w]
      rfl
    refine take_ (i := 12) (N := some 47) (v := ?_) (a' := ?_) #[true, true, true, true, true, true, true, true, true, true, true, true, true, true, true, true, true, true, true, true, true, true, true, false, false, false, false, false, false] rfl rfl (by kernel_rfl) (fun _ _ _ h => h) (Or.inl ⟨by rfl, ?_⟩) hHeld ?_ ?_
    rotate_left
    · rintro w' ⟨s0, s1, s2, s3, s4⟩
      go_simp
      with_reducible rfl
    rotate_left
    · simp only [Act.put, List.setIfInBounds_toArray, List.set_cons_zero, List.set_cons_succ, i64_w, i32_w]
      rfl
    refine pure_ (i := 23) (N := some 58) (v := ?_) (a' := ?_) #[true, true, true, true, true, true, true, true, true, true, true, true, true, true, true, true, true, true, true, true, true, true, true, true, false, false, false, false, false] rfl rfl (by kernel_rfl) (fun _ _ _ h => h) (Or.inl ⟨by rfl, ?_⟩) ?_ ?_
    rotate_left
    · intro w'
      go_simp
      with_reducible rfl
    rotate_left
    · simp only [Act.put, List.setIfInBounds_toArray, List.set_cons_zero, List.set_cons_succ, i64_w, i32_w]
      rfl
    refine one_ (i := 24) (N := some 59) #[true, true, true, true, true, true, true, true, true, true, true, true, true, true, true, true, true, true, true, true, true, true, true, true, true, false, false, false, false] rfl rfl (by kernel_rfl) (by decide) (fun K hK => ?_)
    refine value_ (w1 := ?_) (v := ?_) (by rfl) rfl ?_ ?_
    rotate_left 2
    · go_simp
      constructor
      · rfl
      · rfl
    refine hK.out _ _ ⟨(cell_alloc hHeld.1 _), (cell_alloc hHeld.2.1 _), (cell_alloc hHeld.2.2.1 _), (cell_alloc hHeld.2.2.2.1 _), (cell_alloc hHeld.2.2.2.2 _)⟩ (fun hHeld => ?_)
    clear hK K
    refine norm_ (a' := ?_) ?_ ?_
    rotate_left
    · show Act.put _ (some 59) _ = _
      simp only [Act.put, List.setIfInBounds_toArray, List.set_cons_zero, List.set_cons_succ, i64_w, i32_w]
      rfl
    refine one_ (i := 25) (N := some 60) #[true, true, true, true, true, true, true, true, true, true, true, true, true, true, true, true, true, true, true, true, true, true, true, true, true, true, false, false, false] rfl rfl (by kernel_rfl) (by decide) (fun K hK => ?_)
    refine step_append_cells (w0 := w1.drew) (W := w1.drew) base (by rfl) (.tmp 39) (.tmp 59) 131 144 (.agg #[(.string ⟨#[]⟩), (.string ⟨#[]⟩), (.string ⟨#[]⟩), (.int .i64 0), (.bool false)]) 5 64 rfl Try.underlying131 info144 rfl (by decide) (by decide) (.slice A recs.length cp) recs.length (recs.flatMap A98.l) [.string key, .string pa, .string cu, .int .i64 am, .bool false] (by rfl) (by rfl) rfl (by simp [Value.oneCell']) HR2.drew (Below.refl _ _) hbb (by omega) ?_
    intro v4 w4 ho4 hb4 hg4 hat4
    have hO4 := Own.snoc (p := (⟨key, pa, cu, am, false⟩ : A98)) ho4
    obtain ⟨b4, c4, rfl⟩ : ∃ b4 c4, v4 = .slice (some ⟨b4, 0, none⟩) (recs.length + 1) c4 := by
      rcases hO4.cases_ with ⟨_, h⟩ | ⟨b, c, h, _⟩
      · simp at h
      · exact ⟨b, c, by simpa using h⟩
    have hB4 : Blk w4 g #[.slice A recs.length cp, .slice AL late.length cL] 134 := Blk.gb (B1.dr) hg4 (Ne.symm NG.out)
    have lB4 := hB4.lt; have fB4 := hB4.f; have cB4 := hB4.c
    refine hK.out _ _ ⟨(gcell hg4 NG.out (by simp [c1])), (gcell hg4 NB.out (by simp [c2])), (gcell hg4 NB.out (by simp [c2])), (gcell hg4 NB.out (by simp [c2])), (gcell hg4 NB.out (by simp [c2]))⟩ (fun hHeld => ?_)
    clear hK K
    refine norm_ (a' := ?_) ?_ ?_
    rotate_left
    · show Act.put _ (some 60) _ = _
      simp only [Act.put, List.setIfInBounds_toArray, List.set_cons_zero, List.set_cons_succ, i64_w, i32_w]
      rfl
    refine pure_ (i := 26) (N := some 61) (v := ?_) (a' := ?_) #[true, true, true, true, true, true, true, true, true, true, true, true, true, true, true, true, true, true, true, true, true, true, true, true, true, true, true, false, false] rfl rfl (by kernel_rfl) (fun _ _ _ h => h) (Or.inl ⟨by rfl, ?_⟩) ?_ ?_
    rotate_left
    · intro w'
      go_simp
      with_reducible rfl
    rotate_left
    · simp only [Act.put, List.setIfInBounds_toArray, List.set_cons_zero, List.set_cons_succ, i64_w, i32_w]
      rfl
    refine pure_ (i := 27) (N := some 62) (v := ?_) (a' := ?_) #[true, true, true, true, true, true, true, true, true, true, true, true, true, true, true, true, true, true, true, true, true, true, true, true, true, true, true, true, false] rfl rfl (by kernel_rfl) (fun _ _ _ h => h) (Or.inl ⟨by rfl, ?_⟩) ?_ ?_
    rotate_left
    · intro w'
      go_simp
      with_reducible rfl
    rotate_left
    · simp only [Act.put, List.setIfInBounds_toArray, List.set_cons_zero, List.set_cons_succ, i64_w, i32_w]
      rfl
    refine last_ (i := 28) (N := none) #[true, true, true, true, true, true, true, true, true, true, true, true, true, true, true, true, true, true, true, true, true, true, true, true, true, true, true, true, true] rfl rfl (by kernel_rfl) (by decide) (fun K hK => ?_)
    refine skip_ (w1 := ?_) (by rfl) rfl ?_ ?_
    rotate_left
    · go_simp
      rfl
    refine hK.out _ _ ?_
    clear hK K
    refine done_ (by kernel_rfl) ?_
    have hL4 : Own A102.l 3 137 w4 base (.slice AL late.length cL) late := (hR1.lat.drew).kept (fun k hk => hg4.block k (hR1.lat.lt hk) (fun h => hR1.lat.ne_own HR2 (by decide) k hk h.symm))
    have nbl := own_nb hR1.lat B1 (by decide)
    have nb4 : (Value.slice (some ⟨b4, 0, none⟩) (recs.length + 1) c4).ownBlock ≠ some g := own_nb hO4 hB4 (by decide)
    have hR5 : Rt (w4.setCell ⟨g, 0, none⟩ (.slice (some ⟨b4, 0, none⟩) (recs.length + 1) c4)) base g (.slice (some ⟨b4, 0, none⟩) (recs.length + 1) c4) (.slice AL late.length cL) (recs ++ [⟨key, pa, cu, am, false⟩]) late :=
      ⟨(hB4.st 0 _).of rfl, hO4.far (p := ⟨g, 0, none⟩) nb4 _, hL4.far (p := ⟨g, 0, none⟩) nbl _⟩
    have hF5 : Fr (fun k => k = g ∨ (Value.slice A recs.length cp).ownBlock = some k ∨ (Value.slice AL late.length cL).ownBlock = some k) w (w4.setCell ⟨g, 0, none⟩ (.slice (some ⟨b4, 0, none⟩) (recs.length + 1) c4)) :=
      ((hF1.drew).grown hg4 (fun b h _ => Or.inr (Or.inl h))).setCell (fun _ => Or.inl rfl) _
    have hQ5 : Blk (w4.setCell ⟨g, 0, none⟩ (.slice (some ⟨b4, 0, none⟩) (recs.length + 1) c4)) w.heap.size #[.string kd, .string key, .string pa, .string cu, .int .i64 am, .int .i64 att] 34 := (Blk.gb (hQ1.dr) hg4 (Ne.symm NB.out)).so (by simp; omega)
    have hsX : w.heap.size + 1 ≤ (w4.setCell ⟨g, 0, none⟩ (.slice (some ⟨b4, 0, none⟩) (recs.length + 1) c4)).heap.size := by have := hF5.size; have := hQ5.lt; omega
    generalize w4.setCell ⟨g, 0, none⟩ (.slice (some ⟨b4, 0, none⟩) (recs.length + 1) c4) = wX at *
    obtain ⟨A5, c5, hv5, _, hC5⟩ := own98e hR5.rec_
    obtain rfl : (some ⟨b4, 0, none⟩ : Option Addr) = A5 := by injection hv5
    have c5' := hQ5.c; have l5 := hQ5.lt
    clear hO4 ho4 hb4 hg4 hat4 hB4 lB4 fB4 cB4 nb4 hL4 nbl c1 l1 f1 c2 l2 B1 HR2 hv5 hR1 hQ1 hF1 hbb hww
    go_wp2_with fail
    refine (kind_any' g _ _ c4 _ key (recs ++ [⟨key, pa, cu, am, false⟩]) _ (by simp) hR5.blk hC5 (by simp; omega)).mono ?_
    rintro e w1' ⟨rfl, rfl⟩
    rw [hkd.out]
    clear hC5
    have hRX : Rt wX base g (.slice (some ⟨b4, 0, none⟩) (recs.length + 1) c4) (.slice AL late.length cL) (sRecs key kd pa cu am 3 recs) late := by rw [hsr.out]; exact hR5
    have hFX := hF5
    have hQX := hQ5
    have c5' := hQX.c; have l5 := hQX.lt
    obtain ⟨kk, hkk⟩ : ∃ kk, kk = sKind key kd 3 recs := ⟨_, rfl⟩
    rw [← hkk]
    have HKK := hidI hkk
    clear hkk hR5 hF5 hQ5
    generalize hvr : (Value.slice (some ⟨b4, 0, none⟩) (recs.length + 1) c4) = vrX at *
    clear hvr
    clear c5' l5
    have c5' := hQX.c; have l5 := hQX.lt
    go_wp2
    go_ret
    refine hend.out (.slice (some ⟨wX.heap.size + 1, 0, none⟩) 1 1) vrX _ _ ?_ ((hRX.alloc _).alloc _) ((hFX.alloc _).alloc _)
    simp only [sX]
    rw [← HKK.out]
    exact Own.lit (xs := [(⟨key, kk, att⟩ : A102)]) (Blk.new' (by simp)) rfl rfl (by omega) (by simp)
  · skip
    have hsr : Hid (sRecs key kd pa cu am 3 recs = recs) := by show _ = _; exact sr_same hno
    have hkd : Hid (sKind key kd 3 recs = rKind key recs) := by show _ = _; exact sk_same hno
    clear hno
    rcases hw with ⟨hp, hu⟩ | ⟨hp, hq⟩
    all_goals
      go_enter Try.func71, Try.ntmps71
      go_wp2_with fail
      obtain ⟨hR1, hQ1, hF1, hC1, hs1⟩ := HPACK.out
      refine (kind_any g A cp _ key recs _ hR1.blk hC1 (by omega)).mono ?_
      rintro e w1 ⟨rfl, rfl⟩
      obtain ⟨kk, hkk⟩ : ∃ kk, kk = rKind key recs := ⟨_, rfl⟩
      have HKK : Hid (kk = sKind key kd 3 recs) := by show _ = _; rw [hkd.out]; exact hkk
      try rw [← hkk] at hu
      rw [← hkk]
      have hRX : Rt (w.alloc (.cells #[.string kd, .string key, .string pa, .string cu, .int .i64 am, .int .i64 att] 34)) base g (.slice A recs.length cp) (.slice AL late.length cL) (sRecs key kd pa cu am 3 recs) late := by rw [hsr.out]; exact hR1
      have hFX := hF1
      have hQX := hQ1
      have c5' := hQX.c; have l5 := hQX.lt
      have hsX : w.heap.size + 1 ≤ (w.alloc (.cells #[.string kd, .string key, .string pa, .string cu, .int .i64 am, .int .i64 att] 34)).heap.size := by omega
      clear hkk hC1 hR1 hF1 hQ1 hs1
      generalize w.alloc _ = wX at *
      generalize hvr : (Value.slice A recs.length cp) = vrX at *
      clear hvr
      clear c5' l5
      have c5' := hQX.c; have l5 := hQX.lt
      go_wp2
      go_ret
      refine hend.out (.slice (some ⟨wX.heap.size + 1, 0, none⟩) 1 1) vrX _ _ ?_ ((hRX.alloc _).alloc _) ((hFX.alloc _).alloc _)
      simp only [sX]
      rw [← HKK.out]
      exact Own.lit (xs := [(⟨key, kk, att⟩ : A102)]) (Blk.new' (by simp)) rfl rfl (by omega) (by simp)

end Go.Proofs.Ytliacfjdenfldaa
