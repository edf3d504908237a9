import Derived.Test.YtliacfjdenfldaaSg
namespace Go.Proofs.Ytliacfjdenfldaa
open Go.RowKit Go.Proofs.Kq
open Go.Proofs.YtliacfjdenfldaaW.PrintWords (pw_cell_below step_append_cells print_append_cells Kd Kd.C Kd.C_below)
open Go.Proofs.YtliacfjdenfldaaW.PrintLast
set_option linter.unusedSimpArgs false
set_option linter.unusedVariables false

theorem lLate_len' (n : Int) (late : List A102) : (lLate n late).length ≤ late.length := by
  unfold lLate; split <;> simp; omega
theorem tTold_len' (key kd : ByteArray) (att m : Int) (recs : List A98) : (tTold key kd att m recs).length ≤ 2 := by
  unfold tTold; split <;> (try split) <;> (try split) <;> simp
theorem toC102 {e : TypeId} {w : World} {base : Nat} {A : Option Addr} {n c : Nat} {xs : List A102} (h : Own A102.l 3 e w base (.slice A n c) xs) : Kd.C d102 w A xs.length xs := by
  obtain ⟨A', c', hv, _, hC⟩ := own102e h
  obtain rfl : A = A' := by injection hv
  exact hC
theorem toC98 {e : TypeId} {w : World} {base : Nat} {A : Option Addr} {n c : Nat} {xs : List A98} (h : Own A98.l 5 e w base (.slice A n c) xs) : Kd.C d98 w A xs.length xs := by
  obtain ⟨A', c', hv, _, hC⟩ := own98e h
  obtain rfl : A = A' := by injection hv
  exact hC
/-- how a round of GateAsks begins -/
def RdA (w0 : World) (g m : Nat) (k : Nat) (w : World) : Prop := ∃ recs late, recs.length ≤ k ∧ late.length ≤ k ∧ GG w0 g m w.heap.size recs late recs late w

set_option maxRecDepth 100000 in
set_option maxHeartbeats 8000000 in
theorem walk12 (ad : Option Addr) (xs : List A93) (cap : Nat) (w : World) (hw : Rk.RdSl w k93.cells k93.ok 9 ad xs cap) (hy : xs.length * 88 ≤ 140737488351232) :
    Calls Try.prog 12 #[.slice ad xs.length cap] w fun e w' => e = .returned (.bool true) ∧ Below w.heap.size w w' := by
  have hl : Hid (∀ w', Below w.heap.size w w' → Calls Try.prog 47 #[] w' fun e w'' => e = .returned (.bool true) ∧ Below w.heap.size w w'') := fun w' hb => (lives47 w').mono fun e w'' h => ⟨h.1, below_step hb h.2⟩
  by_cases h100 : 100 < xs.length
  · have hgt : decide ((xs.length : Int) > 100) = true := by simp; omega
    go_enter Try.func12, Try.ntmps12
    go_wp2_with (first | (go_at_call 47; refine (hl.out _ (by first | exact Below.refl _ _ | assumption)).mono ?_; rintro e w1 ⟨rfl, hb⟩) | fail)
    go_ret
    exact ⟨rfl, by assumption⟩
  have hread : Hid (∀ k (h : k < xs.length), ∃ b off, ad = some ⟨b, off, none⟩ ∧ ∀ w', Below w.heap.size w w' →
     (w'.cell? ⟨b, off + k * 9, none⟩ = some (.string xs[k].f0.f0) ∧ w'.cell? ⟨b, off + k * 9 + 1, none⟩ = some (.string xs[k].f0.f1) ∧ w'.cell? ⟨b, off + k * 9 + 2, none⟩ = some (.string xs[k].f0.f2) ∧ w'.cell? ⟨b, off + k * 9 + 3, none⟩ = some (.string xs[k].f0.f3) ∧ w'.cell? ⟨b, off + k * 9 + 4, none⟩ = some (.int .i64 xs[k].f0.f4) ∧
      w'.cell? ⟨b, off + k * 9 + 5, none⟩ = some (.int .i64 xs[k].f0.f5) ∧ w'.cell? ⟨b, off + k * 9 + 6, none⟩ = some (.int .u8 xs[k].f1) ∧ w'.cell? ⟨b, off + k * 9 + 7, none⟩ = some (.bool xs[k].f2) ∧ w'.cell? ⟨b, off + k * 9 + 8, none⟩ = some (.int .i8 xs[k].f3))) := by
    intro k hk
    have hC : Kd.C d93 w ad xs.length xs := Kp.C_of_rd (by decide) hw
    obtain ⟨b, off, rfl, hx⟩ := Kp.C_open hC (by omega) (by decide)
    exact ⟨b, off, rfl, fun w' hb => ⟨pw_cell_below hb (hx k hk 0 _ rfl), pw_cell_below hb (hx k hk 1 _ rfl), pw_cell_below hb (hx k hk 2 _ rfl), pw_cell_below hb (hx k hk 3 _ rfl), pw_cell_below hb (hx k hk 4 _ rfl), pw_cell_below hb (hx k hk 5 _ rfl), pw_cell_below hb (hx k hk 6 _ rfl), pw_cell_below hb (hx k hk 7 _ rfl), pw_cell_below hb (hx k hk 8 _ rfl)⟩⟩
  have HOK := hidI (Kp.ok_of_rd hw)
  clear hw
  go_enter Try.func12, Try.ntmps12
  go_wp2_with (first | (go_at_call 47; refine (hl.out _ (by first | exact Below.refl _ _ | assumption)).mono ?_; rintro e w1 ⟨rfl, hb⟩) | fail)
  have hG0 : RdA w w1.heap.size (w1.heap.size + 1) 0 ((w1.alloc (.cells #[.slice none 0 0, .slice none 0 0] 90)).alloc (.cells #[.slice none 0 0, .slice none 0 0] 134)) := ⟨[], [], Nat.le_refl _, Nat.le_refl _, (GG.new hb).top⟩
  obtain ⟨g, hg⟩ : ∃ g, g = w1.heap.size := ⟨_, rfl⟩
  obtain ⟨m, hm⟩ : ∃ m, m = w1.heap.size + 1 := ⟨_, rfl⟩
  rw [← hm, ← hg] at hG0
  rw [← hm, ← hg]
  clear hm hg
  go_loopw [28] (fun i wr => ∃ k : Nat, k ≤ xs.length ∧ i = .int .i64 k ∧ Hid (RdA w g m k wr)) (fun i _ => xs.length - (intOf i).toNat)
  case atStart => exact ⟨0, Nat.zero_le _, rfl, hidI hG0⟩
  case round =>
    obtain ⟨k, hk, rfl, hR⟩ := hrel
    clear hG0 hb
    by_cases hlt : k < xs.length
    · obtain ⟨recs, late, hl1, hl2, hGG⟩ := hR.out
      obtain ⟨b, off, rfl, hq⟩ := hread.out k hlt
      obtain ⟨q0, q1, q2, q3, q4, q5, q6, q7, q8⟩ := hq wr hGG.bel
      have hok := HOK.out xs[k] (List.getElem_mem _)
      obtain ⟨x, hxe⟩ : ∃ x, x = xs[k] := ⟨_, rfl⟩
      rw [← hxe] at q0 q1 q2 q3 q4 q5 q6 q7 q8 hok
      have hc8 : 0 ≤ x.f1 ∧ x.f1 < 256 := by
        have h4 : (Lit.int .u8 x.f1).wf = true := hok.2.1
        simp only [Lit.wf, Bool.and_eq_true, decide_eq_true_eq] at h4
        have e1 : IntKind.u8.min = 0 := by decide
        have e2 : IntKind.u8.max = 255 := by decide
        omega
      have hn8 : -128 ≤ x.f3 ∧ x.f3 ≤ 127 := by
        have h4 : (Lit.int .i8 x.f3).wf = true := hok.2.2.2
        simp only [Lit.wf, Bool.and_eq_true, decide_eq_true_eq] at h4
        have e1 : IntKind.i8.min = -128 := by decide
        have e2 : IntKind.i8.max = 127 := by decide
        omega
      clear hxe hq hok
      cases hlate : x.f2
      · rw [hlate] at q7
        clear hlate
        go_wp2_with fail
        clear q0 q1 q2 q3 q4 q5 q6 q7 q8
        have hBA := Blk.new' (w := wr) (b := wr.heap.size) (cs := #[.string x.f0.f0, .string x.f0.f1, .string x.f0.f2, .string x.f0.f3, .int .i64 x.f0.f4, .int .i64 x.f0.f5, .int .u8 x.f1, .bool false, .int .i8 x.f3]) (T := 93) rfl
        have hGG := (hGG.below (below_new (Below.refl wr.heap.size wr) (.cells #[.string x.f0.f0, .string x.f0.f1, .string x.f0.f2, .string x.f0.f3, .int .i64 x.f0.f4, .int .i64 x.f0.f5, .int .u8 x.f1, .bool false, .int .i8 x.f3] 93))).top
        obtain ⟨bA, hbA⟩ : ∃ bA, bA = wr.heap.size := ⟨_, rfl⟩
        rw [← hbA] at hBA
        rw [← hbA]
        clear hbA
        generalize wr.alloc _ = W at *
        refine start_ (n := 15) (S := fun w' => w'.cell? ⟨bA, 0, none⟩ = some (.string x.f0.f0) ∧ w'.cell? ⟨bA, 1, none⟩ = some (.string x.f0.f1) ∧ w'.cell? ⟨bA, 2, none⟩ = some (.string x.f0.f2) ∧ w'.cell? ⟨bA, 3, none⟩ = some (.string x.f0.f3) ∧ w'.cell? ⟨bA, 4, none⟩ = some (.int .i64 x.f0.f4) ∧ w'.cell? ⟨bA, 5, none⟩ = some (.int .i64 x.f0.f5) ∧ w'.cell? ⟨bA, 6, none⟩ = some (.int .u8 x.f1)) (ds := []) #[false, false, false, false, false, false, false, false, false, false, false, false, false, false, false] (by kernel_rfl) rfl rfl ⟨(by rw [World.cell?_drew, hBA.c]; rfl), (by rw [World.cell?_drew, hBA.c]; rfl), (by rw [World.cell?_drew, hBA.c]; rfl), (by rw [World.cell?_drew, hBA.c]; rfl), (by rw [World.cell?_drew, hBA.c]; rfl), (by rw [World.cell?_drew, hBA.c]; rfl), (by rw [World.cell?_drew, hBA.c]; rfl)⟩ (fun hHeld => ?_)
        refine pure_ (i := 0) (N := some 58) (v := ?_) (a' := ?_) #[true, false, false, false, false, false, false, false, false, false, false, false, false, false, false] rfl rfl (by kernel_rfl) (fun _ _ _ h => h) (Or.inl ⟨by rfl, ?_⟩) ?_ ?_
        rotate_left
        · intro w'
          go_simp
          with_reducible rfl
        rotate_left
        · simp only [Act.put, List.setIfInBounds_toArray, List.set_cons_zero, List.set_cons_succ, i64_w, i32_w]
          rfl
        refine pure_ (i := 1) (N := some 59) (v := ?_) (a' := ?_) #[true, true, false, false, false, false, false, false, false, false, false, false, false, false, false] rfl rfl (by kernel_rfl) (fun _ _ _ h => h) (Or.inl ⟨by rfl, ?_⟩) ?_ ?_
        rotate_left
        · intro w'
          go_simp
          with_reducible rfl
        rotate_left
        · simp only [Act.put, List.setIfInBounds_toArray, List.set_cons_zero, List.set_cons_succ, i64_w, i32_w]
          rfl
        refine pure_ (i := 3) (N := some 61) (v := ?_) (a' := ?_) #[true, true, false, true, false, false, false, false, false, false, false, false, false, false, false] rfl rfl (by kernel_rfl) (fun _ _ _ h => h) (Or.inl ⟨by rfl, ?_⟩) ?_ ?_
        rotate_left
        · intro w'
          go_simp
          with_reducible rfl
        rotate_left
        · simp only [Act.put, List.setIfInBounds_toArray, List.set_cons_zero, List.set_cons_succ, i64_w, i32_w]
          rfl
        refine pure_ (i := 7) (N := some 65) (v := ?_) (a' := ?_) #[true, true, false, true, false, false, false, true, false, false, false, false, false, false, false] rfl rfl (by kernel_rfl) (fun _ _ _ h => h) (Or.inl ⟨by rfl, ?_⟩) ?_ ?_
        rotate_left
        · intro w'
          go_simp
          with_reducible rfl
        rotate_left
        · simp only [Act.put, List.setIfInBounds_toArray, List.set_cons_zero, List.set_cons_succ, i64_w, i32_w]
          rfl
        refine pure_ (i := 8) (N := some 66) (v := ?_) (a' := ?_) #[true, true, false, true, false, false, false, true, true, false, false, false, false, false, false] rfl rfl (by kernel_rfl) (fun _ _ _ h => h) (Or.inl ⟨by rfl, ?_⟩) ?_ ?_
        rotate_left
        · intro w'
          go_simp
          with_reducible rfl
        rotate_left
        · simp only [Act.put, List.setIfInBounds_toArray, List.set_cons_zero, List.set_cons_succ, i64_w, i32_w]
          rfl
        refine pure_ (i := 10) (N := some 68) (v := ?_) (a' := ?_) #[true, true, false, true, false, false, false, true, true, false, true, false, false, false, false] rfl rfl (by kernel_rfl) (fun _ _ _ h => h) (Or.inl ⟨by rfl, ?_⟩) ?_ ?_
        rotate_left
        · intro w'
          go_simp
          with_reducible rfl
        rotate_left
        · simp only [Act.put, List.setIfInBounds_toArray, List.set_cons_zero, List.set_cons_succ, i64_w, i32_w]
          rfl
        refine take_ (i := 2) (N := some 60) (v := ?_) (a' := ?_) #[true, true, true, true, false, false, false, true, true, false, true, false, false, false, false] rfl rfl (by kernel_rfl) (fun _ _ _ h => h) (Or.inl ⟨by rfl, ?_⟩) hHeld ?_ ?_
        rotate_left
        · rintro w' ⟨s0, s1, s2, s3, s4, s5, s6⟩
          go_simp
          with_reducible rfl
        rotate_left
        · simp only [Act.put, List.setIfInBounds_toArray, List.set_cons_zero, List.set_cons_succ, i64_w, i32_w]
          rfl
        refine take_ (i := 4) (N := some 62) (v := ?_) (a' := ?_) #[true, true, true, true, true, false, false, true, true, false, true, false, false, false, false] rfl rfl (by kernel_rfl) (fun _ _ _ h => h) (Or.inl ⟨by rfl, ?_⟩) hHeld ?_ ?_
        rotate_left
        · rintro w' ⟨s0, s1, s2, s3, s4, s5, s6⟩
          go_simp
          with_reducible rfl
        rotate_left
        · simp only [Act.put, List.setIfInBounds_toArray, List.set_cons_zero, List.set_cons_succ, i64_w, i32_w]
          rfl
        refine take_ (i := 9) (N := some 67) (v := ?_) (a' := ?_) #[true, true, true, true, true, false, false, true, true, true, true, false, false, false, false] rfl rfl (by kernel_rfl) (fun _ _ _ h => h) (Or.inl ⟨by rfl, ?_⟩) hHeld ?_ ?_
        rotate_left
        · rintro w' ⟨s0, s1, s2, s3, s4, s5, s6⟩
          go_simp
          with_reducible rfl
        rotate_left
        · simp only [Act.put, List.setIfInBounds_toArray, List.set_cons_zero, List.set_cons_succ, i64_w, i32_w]
          rfl
        refine take_ (i := 11) (N := some 69) (v := ?_) (a' := ?_) #[true, true, true, true, true, false, false, true, true, true, true, true, false, false, false] rfl rfl (by kernel_rfl) (fun _ _ _ h => h) (Or.inl ⟨by rfl, ?_⟩) hHeld ?_ ?_
        rotate_left
        · rintro w' ⟨s0, s1, s2, s3, s4, s5, s6⟩
          go_simp
          with_reducible rfl
        rotate_left
        · simp only [Act.put, List.setIfInBounds_toArray, List.set_cons_zero, List.set_cons_succ, i64_w, i32_w]
          rfl
        refine one_ (i := 5) (N := some 63) #[true, true, true, true, true, true, false, true, true, true, true, true, false, false, false] rfl rfl (by kernel_rfl) (by decide) (fun K hK => ?_)
        have hGG := hGG.below (w1 := W.drew) (Below.refl W.heap.size W).drew
        have hBA := hBA.dr
        refine goes_ Try.func49 (by kernel_rfl) rfl #[.pointer (some ⟨g, 0, none⟩), .agg #[.string x.f0.f0, .string x.f0.f1, .string x.f0.f2, .string x.f0.f3, .int .i64 x.f0.f4, .int .i64 x.f0.f5], .int .u8 x.f1] (by rfl) rfl rfl (by simp only [List.map_toArray, List.map_cons, List.map_nil]; rfl) ?_
        with_reducible refine (ask_gg x.f0.f1 x.f0.f0 x.f0.f2 x.f0.f3 x.f0.f4 x.f0.f5 x.f1 hGG (by omega) (by omega) hc8).mono ?_
        rintro e w3 ⟨A1, n1, c1, rfl, hn1, hO1, hGG, hK1⟩
        refine ⟨_, rfl, ?_⟩
        have hBA := hK1.2 _ _ _ hBA (by unfold Tg; decide)
        subst hn1
        have hN5 : W.heap.size ≤ w3.heap.size := by have := hK1.1; simpa using this
        refine hK.out _ _ ⟨(by rw [hBA.c]; rfl), (by rw [hBA.c]; rfl), (by rw [hBA.c]; rfl), (by rw [hBA.c]; rfl), (by rw [hBA.c]; rfl), (by rw [hBA.c]; rfl), (by rw [hBA.c]; rfl)⟩ (fun hHeld => ?_)
        clear hK K
        refine norm_ (a' := ?_) ?_ ?_
        rotate_left
        · show Act.put _ (some 63) _ = _
          simp only [Act.put, List.setIfInBounds_toArray, List.set_cons_zero, List.set_cons_succ, i64_w, i32_w]
          rfl
        refine one_ (i := 6) (N := some 64) #[true, true, true, true, true, true, true, true, true, true, true, true, false, false, false] rfl rfl (by kernel_rfl) (by decide) (fun K hK => ?_)
        obtain ⟨A1', c1', hv1, _, hC1⟩ := own102 hO1
        obtain rfl : A1 = A1' := by injection hv1
        have hsz1 := hO1
        refine goes_ Try.func70 (by kernel_rfl) rfl #[.slice A1 (tTold x.f0.f1 x.f0.f0 x.f0.f5 (x.f1 % 8) recs).length c1] (by rfl) rfl rfl (by simp only [List.map_toArray, List.map_cons, List.map_nil]; rfl) ?_
        with_reducible refine (of_any A1 _ c1 _ hC1 (by have := tTold_len' x.f0.f1 x.f0.f0 x.f0.f5 (x.f1 % 8) recs; omega)).mono ?_
        rintro e w4 ⟨A2, c2, rfl, hO2, hb4⟩
        refine ⟨_, rfl, ?_⟩
        have hBA := hBA.be hb4
        have hGG := hGG.below hb4
        have hN6 : W.heap.size ≤ w3.heap.size := hN5
        refine hK.out _ _ ⟨(by rw [hBA.c]; rfl), (by rw [hBA.c]; rfl), (by rw [hBA.c]; rfl), (by rw [hBA.c]; rfl), (by rw [hBA.c]; rfl), (by rw [hBA.c]; rfl), (by rw [hBA.c]; rfl)⟩ (fun hHeld => ?_)
        clear hK K
        refine norm_ (a' := ?_) ?_ ?_
        rotate_left
        · show Act.put _ (some 64) _ = _
          simp only [Act.put, List.setIfInBounds_toArray, List.set_cons_zero, List.set_cons_succ, i64_w, i32_w]
          rfl
        refine one_ (i := 12) (N := some 70) #[true, true, true, true, true, true, true, true, true, true, true, true, true, false, false] rfl rfl (by kernel_rfl) (by decide) (fun K hK => ?_)
        refine goes_ Try.func71 (by kernel_rfl) rfl #[.pointer (some ⟨m, 0, none⟩), .agg #[.string x.f0.f0, .string x.f0.f1, .string x.f0.f2, .string x.f0.f3, .int .i64 x.f0.f4, .int .i64 x.f0.f5], .int .u8 x.f1] (by rfl) rfl rfl (by simp only [List.map_toArray, List.map_cons, List.map_nil]; rfl) ?_
        with_reducible refine (rask_gg x.f0.f1 x.f0.f0 x.f0.f2 x.f0.f3 x.f0.f4 x.f0.f5 x.f1 hGG (by omega) (by omega) hc8).mono ?_
        rintro e w5 ⟨A3, n3, c3, rfl, hn3, hO3, hGG, hK3⟩
        refine ⟨_, rfl, ?_⟩
        have hBA := hK3.2 _ _ _ hBA (Or.inl (by unfold Tr; decide))
        subst hn3
        have hO2 := own_keeps hO2 (fun b cs hbb hB => hK3.2 _ _ _ hB (Or.inr (Nat.le_trans hN6 hbb)))
        have hC2 := toC102 hO2
        have hC3 := toC102 hO3
        refine hK.out _ _ ⟨(by rw [hBA.c]; rfl), (by rw [hBA.c]; rfl), (by rw [hBA.c]; rfl), (by rw [hBA.c]; rfl), (by rw [hBA.c]; rfl), (by rw [hBA.c]; rfl), (by rw [hBA.c]; rfl)⟩ (fun hHeld => ?_)
        clear hK K
        refine norm_ (a' := ?_) ?_ ?_
        rotate_left
        · show Act.put _ (some 70) _ = _
          simp only [Act.put, List.setIfInBounds_toArray, List.set_cons_zero, List.set_cons_succ, i64_w, i32_w]
          rfl
        refine one_ (i := 13) (N := some 71) #[true, true, true, true, true, true, true, true, true, true, true, true, true, true, false] rfl rfl (by kernel_rfl) (by decide) (fun K hK => ?_)
        refine goes_ Try.func69 (by kernel_rfl) rfl #[.slice A2 (tTold x.f0.f1 x.f0.f0 x.f0.f5 (x.f1 % 8) recs).length c2, .slice A3 (tTold x.f0.f1 x.f0.f0 x.f0.f5 (x.f1 % 8) recs).length c3] (by rfl) rfl rfl (by simp only [List.map_toArray, List.map_cons, List.map_nil]; rfl) ?_
        with_reducible refine (equal69 _ A2 A3 c2 c3 _ hC2 hC3 (by have := tTold_len' x.f0.f1 x.f0.f0 x.f0.f5 (x.f1 % 8) recs; omega)).mono ?_
        rintro e w7 ⟨rfl, hb7⟩
        refine ⟨_, rfl, ?_⟩
        have hBA := hBA.be hb7
        have hGG := hGG.below hb7
        refine hK.out _ _ ⟨(by rw [hBA.c]; rfl), (by rw [hBA.c]; rfl), (by rw [hBA.c]; rfl), (by rw [hBA.c]; rfl), (by rw [hBA.c]; rfl), (by rw [hBA.c]; rfl), (by rw [hBA.c]; rfl)⟩ (fun hHeld => ?_)
        clear hK K
        refine norm_ (a' := ?_) ?_ ?_
        rotate_left
        · show Act.put _ (some 71) _ = _
          simp only [Act.put, List.setIfInBounds_toArray, List.set_cons_zero, List.set_cons_succ, i64_w, i32_w]
          rfl
        refine pure_ (i := 14) (N := some 72) (v := ?_) (a' := ?_) #[true, true, true, true, true, true, true, true, true, true, true, true, true, true, true] rfl rfl (by kernel_rfl) (fun _ _ _ h => h) (Or.inl ⟨by rfl, ?_⟩) ?_ ?_
        rotate_left
        · intro w'
          go_simp
          with_reducible rfl
        rotate_left
        · simp only [Act.put, List.setIfInBounds_toArray, List.set_cons_zero, List.set_cons_succ, i64_w, i32_w]
          rfl
        refine done_ (by kernel_rfl) ?_
        have hZ := hGG.top
        have e1 := tRecs_len x.f0.f1 x.f0.f0 x.f0.f2 x.f0.f3 x.f0.f4 (x.f1 % 8) recs
        have e2 := tLate_len x.f0.f1 x.f0.f0 x.f0.f5 (x.f1 % 8) recs late
        generalize tRecs x.f0.f1 x.f0.f0 x.f0.f2 x.f0.f3 x.f0.f4 (x.f1 % 8) recs = recs1 at *
        generalize tLate x.f0.f1 x.f0.f0 x.f0.f5 (x.f1 % 8) recs late = late1 at *
        clear hBA hHeld hC2 hC3 hGG hb7
        go_wp2_with fail
        generalize w7 = W at *
        obtain ⟨AR, cR, AL, cL, hm0, hm1, hmC⟩ := hZ.mem
        have hr1 : recs1.length ≤ 1000 := by omega
        have ht1 : late1.length ≤ 1000 := by omega
        refine start_ (n := 19) (S := fun w' => w'.cell? ⟨m, 0, none⟩ = some (.slice AR recs1.length cR) ∧ w'.cell? ⟨m, 1, none⟩ = some (.slice AL late1.length cL) ∧ Below W.heap.size W w') (ds := []) #[false, false, false, false, false, false, false, false, false, false, false, false, false, false, false, false, false, false, false] (by kernel_rfl) rfl rfl ⟨(by rw [World.cell?_drew]; exact hm0), (by rw [World.cell?_drew]; exact hm1), (Below.refl _ _).drew⟩ (fun hHeld => ?_)
        refine pure_ (i := 0) (N := some 73) (v := ?_) (a' := ?_) #[true, false, false, false, false, false, false, false, false, false, false, false, false, false, false, false, false, false, false] rfl rfl (by kernel_rfl) (fun _ _ _ h => h) (Or.inl ⟨by rfl, ?_⟩) ?_ ?_
        rotate_left
        · intro w'
          go_simp
          with_reducible rfl
        rotate_left
        · simp only [Act.put, List.setIfInBounds_toArray, List.set_cons_zero, List.set_cons_succ, i64_w, i32_w]
          rfl
        refine pure_ (i := 3) (N := some 76) (v := ?_) (a' := ?_) #[true, false, false, true, false, false, false, false, false, false, false, false, false, false, false, false, false, false, false] rfl rfl (by kernel_rfl) (fun _ _ _ h => h) (Or.inl ⟨by rfl, ?_⟩) ?_ ?_
        rotate_left
        · intro w'
          go_simp
          with_reducible rfl
        rotate_left
        · simp only [Act.put, List.setIfInBounds_toArray, List.set_cons_zero, List.set_cons_succ, i64_w, i32_w]
          rfl
        refine pure_ (i := 4) (N := some 77) (v := ?_) (a' := ?_) #[true, false, false, true, true, false, false, false, false, false, false, false, false, false, false, false, false, false, false] rfl rfl (by kernel_rfl) (fun _ _ _ h => h) (Or.inl ⟨by rfl, ?_⟩) ?_ ?_
        rotate_left
        · intro w'
          go_simp
          with_reducible rfl
        rotate_left
        · simp only [Act.put, List.setIfInBounds_toArray, List.set_cons_zero, List.set_cons_succ, i64_w, i32_w]
          rfl
        refine pure_ (i := 5) (N := some 78) (v := ?_) (a' := ?_) #[true, false, false, true, true, true, false, false, false, false, false, false, false, false, false, false, false, false, false] rfl rfl (by kernel_rfl) (fun _ _ _ h => h) (Or.inl ⟨by rfl, ?_⟩) ?_ ?_
        rotate_left
        · intro w'
          go_simp
          with_reducible rfl
        rotate_left
        · simp only [Act.put, List.setIfInBounds_toArray, List.set_cons_zero, List.set_cons_succ, i64_w, i32_w]
          rfl
        refine take_ (i := 6) (N := some 79) (v := ?_) (a' := ?_) #[true, false, false, true, true, true, true, false, false, false, false, false, false, false, false, false, false, false, false] rfl rfl (by kernel_rfl) (fun _ _ _ h => h) (Or.inl ⟨by rfl, ?_⟩) hHeld ?_ ?_
        rotate_left
        · rintro w' ⟨s0, s1, s2⟩
          go_simp
          with_reducible rfl
        rotate_left
        · simp only [Act.put, List.setIfInBounds_toArray, List.set_cons_zero, List.set_cons_succ, i64_w, i32_w]
          rfl
        refine one_ (i := 1) (N := some 74) #[true, true, false, true, true, true, true, false, false, false, false, false, false, false, false, false, false, false, false] rfl rfl (by kernel_rfl) (by decide) (fun K hK => ?_)
        refine goes_ Try.func48 (by kernel_rfl) rfl #[.pointer (some ⟨g, 0, none⟩)] (by rfl) rfl rfl (by simp only [List.map_toArray, List.map_cons, List.map_nil]; rfl) ?_
        with_reducible refine (records_gg (hZ.below hHeld.2.2) (by omega)).mono ?_
        rintro e w3 ⟨A3, c3, rfl, hC3, hb3⟩
        refine ⟨_, rfl, ?_⟩
        refine hK.out _ _ ⟨(pw_cell_below hb3 hHeld.1), (pw_cell_below hb3 hHeld.2.1), (below_step hHeld.2.2 hb3)⟩ (fun hHeld => ?_)
        clear hK K
        refine norm_ (a' := ?_) ?_ ?_
        rotate_left
        · show Act.put _ (some 74) _ = _
          simp only [Act.put, List.setIfInBounds_toArray, List.set_cons_zero, List.set_cons_succ, i64_w, i32_w]
          rfl
        refine one_ (i := 2) (N := some 75) #[true, true, true, true, true, true, true, false, false, false, false, false, false, false, false, false, false, false, false] rfl rfl (by kernel_rfl) (by decide) (fun K hK => ?_)
        refine goes_ Try.func73 (by kernel_rfl) rfl #[.slice A3 recs1.length c3] (by rfl) rfl rfl (by simp only [List.map_toArray, List.map_cons, List.map_nil]; rfl) ?_
        with_reducible refine (recsof_any A3 recs1 c3 _ hC3 (by omega)).mono ?_
        rintro e w4 ⟨A4, c4, rfl, hO4, hb4⟩
        refine ⟨_, rfl, ?_⟩
        refine hK.out _ _ ⟨(pw_cell_below hb4 hHeld.1), (pw_cell_below hb4 hHeld.2.1), (below_step hHeld.2.2 hb4)⟩ (fun hHeld => ?_)
        clear hK K
        refine norm_ (a' := ?_) ?_ ?_
        rotate_left
        · show Act.put _ (some 75) _ = _
          simp only [Act.put, List.setIfInBounds_toArray, List.set_cons_zero, List.set_cons_succ, i64_w, i32_w]
          rfl
        refine one_ (i := 7) (N := some 80) #[true, true, true, true, true, true, true, true, false, false, false, false, false, false, false, false, false, false, false] rfl rfl (by kernel_rfl) (by decide) (fun K hK => ?_)
        refine goes_ Try.func72 (by kernel_rfl) rfl #[.slice A4 recs1.length c4, .slice AR recs1.length cR] (by rfl) rfl rfl (by simp only [List.map_toArray, List.map_cons, List.map_nil]; rfl) ?_
        with_reducible refine (equal72 recs1 A4 AR c4 cR _ (toC98 hO4) (Kd.C_below hmC hHeld.2.2) (by omega)).mono ?_
        rintro e w5 ⟨rfl, hb5⟩
        refine ⟨_, rfl, ?_⟩
        refine hK.out _ _ ⟨(pw_cell_below hb5 hHeld.1), (pw_cell_below hb5 hHeld.2.1), (below_step hHeld.2.2 hb5)⟩ (fun hHeld => ?_)
        clear hK K
        refine norm_ (a' := ?_) ?_ ?_
        rotate_left
        · show Act.put _ (some 80) _ = _
          simp only [Act.put, List.setIfInBounds_toArray, List.set_cons_zero, List.set_cons_succ, i64_w, i32_w]
          rfl
        refine pure_ (i := 8) (N := some 81) (v := ?_) (a' := ?_) #[true, true, true, true, true, true, true, true, true, false, false, false, false, false, false, false, false, false, false] rfl rfl (by kernel_rfl) (fun _ _ _ h => h) (Or.inl ⟨by rfl, ?_⟩) ?_ ?_
        rotate_left
        · intro w'
          go_simp
          with_reducible rfl
        rotate_left
        · simp only [Act.put, List.setIfInBounds_toArray, List.set_cons_zero, List.set_cons_succ, i64_w, i32_w]
          rfl
        refine pure_ (i := 9) (N := some 82) (v := ?_) (a' := ?_) #[true, true, true, true, true, true, true, true, true, true, false, false, false, false, false, false, false, false, false] rfl rfl (by kernel_rfl) (fun _ _ _ h => h) (Or.inl ⟨by rfl, ?_⟩) ?_ ?_
        rotate_left
        · intro w'
          go_simp
          with_reducible rfl
        rotate_left
        · simp only [Act.put, List.setIfInBounds_toArray, List.set_cons_zero, List.set_cons_succ, i64_w, i32_w]
          rfl
        refine pure_ (i := 10) (N := some 83) (v := ?_) (a' := ?_) #[true, true, true, true, true, true, true, true, true, true, true, false, false, false, false, false, false, false, false] rfl rfl (by kernel_rfl) (fun _ _ _ h => h) (Or.inl ⟨by rfl, ?_⟩) ?_ ?_
        rotate_left
        · intro w'
          go_simp
          with_reducible rfl
        rotate_left
        · simp only [Act.put, List.setIfInBounds_toArray, List.set_cons_zero, List.set_cons_succ, i64_w, i32_w]
          rfl
        refine pure_ (i := 12) (N := some 85) (v := ?_) (a' := ?_) #[true, true, true, true, true, true, true, true, true, true, true, false, true, false, false, false, false, false, false] rfl rfl (by kernel_rfl) (fun _ _ _ h => h) (Or.inl ⟨by rfl, ?_⟩) ?_ ?_
        rotate_left
        · intro w'
          go_simp
          with_reducible rfl
        rotate_left
        · simp only [Act.put, List.setIfInBounds_toArray, List.set_cons_zero, List.set_cons_succ, i64_w, i32_w]
          rfl
        refine pure_ (i := 13) (N := some 86) (v := ?_) (a' := ?_) #[true, true, true, true, true, true, true, true, true, true, true, false, true, true, false, false, false, false, false] rfl rfl (by kernel_rfl) (fun _ _ _ h => h) (Or.inl ⟨by rfl, ?_⟩) ?_ ?_
        rotate_left
        · intro w'
          go_simp
          with_reducible rfl
        rotate_left
        · simp only [Act.put, List.setIfInBounds_toArray, List.set_cons_zero, List.set_cons_succ, i64_w, i32_w]
          rfl
        refine pure_ (i := 14) (N := some 87) (v := ?_) (a' := ?_) #[true, true, true, true, true, true, true, true, true, true, true, false, true, true, true, false, false, false, false] rfl rfl (by kernel_rfl) (fun _ _ _ h => h) (Or.inl ⟨by rfl, ?_⟩) ?_ ?_
        rotate_left
        · intro w'
          go_simp
          with_reducible rfl
        rotate_left
        · simp only [Act.put, List.setIfInBounds_toArray, List.set_cons_zero, List.set_cons_succ, i64_w, i32_w]
          rfl
        refine take_ (i := 15) (N := some 88) (v := ?_) (a' := ?_) #[true, true, true, true, true, true, true, true, true, true, true, false, true, true, true, true, false, false, false] rfl rfl (by kernel_rfl) (fun _ _ _ h => h) (Or.inl ⟨by rfl, ?_⟩) hHeld ?_ ?_
        rotate_left
        · rintro w' ⟨s0, s1, s2⟩
          go_simp
          with_reducible rfl
        rotate_left
        · simp only [Act.put, List.setIfInBounds_toArray, List.set_cons_zero, List.set_cons_succ, i64_w, i32_w]
          rfl
        refine pure_ (i := 16) (N := some 89) (v := ?_) (a' := ?_) #[true, true, true, true, true, true, true, true, true, true, true, false, true, true, true, true, true, false, false] rfl rfl (by kernel_rfl) (fun _ _ _ h => h) (Or.inl ⟨by rfl, ?_⟩) ?_ ?_
        rotate_left
        · intro w'
          go_simp
          with_reducible rfl
        rotate_left
        · simp only [Act.put, List.setIfInBounds_toArray, List.set_cons_zero, List.set_cons_succ, i64_w, i32_w]
          rfl
        refine one_ (i := 11) (N := some 84) #[true, true, true, true, true, true, true, true, true, true, true, true, true, true, true, true, true, false, false] rfl rfl (by kernel_rfl) (by decide) (fun K hK => ?_)
        refine goes_ Try.func74 (by kernel_rfl) rfl #[.pointer (some ⟨g, 0, none⟩)] (by rfl) rfl rfl (by simp only [List.map_toArray, List.map_cons, List.map_nil]; rfl) ?_
        with_reducible refine (waiting_gg (hZ.below hHeld.2.2)).mono ?_
        rintro e w6 ⟨rfl, rfl⟩
        refine ⟨_, rfl, ?_⟩
        refine hK.out _ _ ⟨hHeld.1, hHeld.2.1, hHeld.2.2⟩ (fun hHeld => ?_)
        clear hK K
        refine norm_ (a' := ?_) ?_ ?_
        rotate_left
        · show Act.put _ (some 84) _ = _
          simp only [Act.put, List.setIfInBounds_toArray, List.set_cons_zero, List.set_cons_succ, i64_w, i32_w]
          rfl
        refine pure_ (i := 17) (N := some 90) (v := ?_) (a' := ?_) #[true, true, true, true, true, true, true, true, true, true, true, true, true, true, true, true, true, true, false] rfl rfl (by kernel_rfl) (fun _ _ _ h => h) (Or.inl ⟨by rfl, ?_⟩) ?_ ?_
        rotate_left
        · intro w'
          go_simp
          with_reducible rfl
        rotate_left
        · simp only [Act.put, List.setIfInBounds_toArray, List.set_cons_zero, List.set_cons_succ, i64_w, i32_w]
          rfl
        refine pure_ (i := 18) (N := some 91) (v := ?_) (a' := ?_) #[true, true, true, true, true, true, true, true, true, true, true, true, true, true, true, true, true, true, true] rfl rfl (by kernel_rfl) (fun _ _ _ h => h) (Or.inl ⟨by rfl, ?_⟩) ?_ ?_
        rotate_left
        · intro w'
          go_simp
          with_reducible rfl
        rotate_left
        · simp only [Act.put, List.setIfInBounds_toArray, List.set_cons_zero, List.set_cons_succ, i64_w, i32_w]
          rfl
        refine done_ (by kernel_rfl) ?_
        have hfin : RdA w g m (k + 1) w5 := ⟨recs1, late1, by omega, by omega, (hZ.below hHeld.2.2).top⟩
        have HF := hidI hfin
        clear hfin hHeld hZ hm0 hm1 hmC hO4 hb4 hb5 hC3 hb3
        go_wp2
        go_roundw
        case rel => exact ⟨k + 1, by omega, by go_num, HF⟩
        case measure => simp [intOf]; omega
      · rw [hlate] at q7
        clear hlate
        go_wp2_with fail
        clear q0 q1 q2 q3 q4 q5 q6 q7 q8
        have hBA := Blk.new' (w := wr) (b := wr.heap.size) (cs := #[.string x.f0.f0, .string x.f0.f1, .string x.f0.f2, .string x.f0.f3, .int .i64 x.f0.f4, .int .i64 x.f0.f5, .int .u8 x.f1, .bool true, .int .i8 x.f3]) (T := 93) rfl
        have hGG2 := (hGG.below (below_new (Below.refl wr.heap.size wr) (.cells #[.string x.f0.f0, .string x.f0.f1, .string x.f0.f2, .string x.f0.f3, .int .i64 x.f0.f4, .int .i64 x.f0.f5, .int .u8 x.f1, .bool true, .int .i8 x.f3] 93))).top
        have e2 := lLate_len' x.f3 late
        refine (late_gg x.f3 hGG2 (by omega)).mono ?_
        rintro e w3 ⟨rfl, hGG3, hK3⟩
        have hBA3 := hK3.2 _ _ _ hBA (by unfold Tg; decide)
        have hc3 := hBA3.c; have hl3 := hBA3.lt
        simp only []
        obtain ⟨y, hy⟩ : ∃ y, y = lX x.f3 late := ⟨_, rfl⟩
        obtain ⟨is, his⟩ : ∃ is, is = lIs x.f3 late := ⟨_, rfl⟩
        rw [← hy, ← his]
        have HY := hidI hy
        have HIS := hidI his
        clear hy his
        go_wp2_with fail
        refine (take_gg x.f3 (hGG3.below (below_new (Below.refl w3.heap.size w3) (.cells #[.string y.f0, .string y.f1, .int .i64 y.f2] 102))) (by omega)).mono ?_
        rintro e w4 ⟨rfl, hGG4, hK4⟩
        rw [← HY.out, ← HIS.out]
        have hB4 := hK4.2 _ _ _ (Blk.new' (w := w3) (b := w3.heap.size) (cs := #[.string y.f0, .string y.f1, .int .i64 y.f2]) (T := 102) rfl) (Or.inl (by unfold Tr; decide))
        have hc4 := hB4.c; have hl4 := hB4.lt
        have hZ := (hGG4.below (below_new (Below.refl w4.heap.size w4) (.cells #[.string y.f0, .string y.f1, .int .i64 y.f2] 137))).top
        have e1 : recs.length ≤ recs.length + 1 := by omega
        clear hc3 hl3 hBA hGG2 hGG3 hK3 hK4 hGG4 hGG hBA3
        simp only []
        go_wp2_with fail
        clear hc4 hl4 hB4
        generalize lLate x.f3 late = late1 at *
        obtain ⟨recs1, hr1⟩ : ∃ r, r = recs := ⟨_, rfl⟩
        have e1 : recs1.length ≤ recs.length + 1 := by rw [hr1]; omega
        rw [← hr1] at hZ
        clear hr1
        generalize w4.alloc _ = W at *
        obtain ⟨AR, cR, AL, cL, hm0, hm1, hmC⟩ := hZ.mem
        have hr1 : recs1.length ≤ 1000 := by omega
        have ht1 : late1.length ≤ 1000 := by omega
        refine start_ (n := 19) (S := fun w' => w'.cell? ⟨m, 0, none⟩ = some (.slice AR recs1.length cR) ∧ w'.cell? ⟨m, 1, none⟩ = some (.slice AL late1.length cL) ∧ Below W.heap.size W w') (ds := []) #[false, false, false, false, false, false, false, false, false, false, false, false, false, false, false, false, false, false, false] (by kernel_rfl) rfl rfl ⟨(by rw [World.cell?_drew]; exact hm0), (by rw [World.cell?_drew]; exact hm1), (Below.refl _ _).drew⟩ (fun hHeld => ?_)
        refine pure_ (i := 0) (N := some 73) (v := ?_) (a' := ?_) #[true, false, false, false, false, false, false, false, false, false, false, false, false, false, false, false, false, false, false] rfl rfl (by kernel_rfl) (fun _ _ _ h => h) (Or.inl ⟨by rfl, ?_⟩) ?_ ?_
        rotate_left
        · intro w'
          go_simp
          with_reducible rfl
        rotate_left
        · simp only [Act.put, List.setIfInBounds_toArray, List.set_cons_zero, List.set_cons_succ, i64_w, i32_w]
          rfl
        refine pure_ (i := 3) (N := some 76) (v := ?_) (a' := ?_) #[true, false, false, true, false, false, false, false, false, false, false, false, false, false, false, false, false, false, false] rfl rfl (by kernel_rfl) (fun _ _ _ h => h) (Or.inl ⟨by rfl, ?_⟩) ?_ ?_
        rotate_left
        · intro w'
          go_simp
          with_reducible rfl
        rotate_left
        · simp only [Act.put, List.setIfInBounds_toArray, List.set_cons_zero, List.set_cons_succ, i64_w, i32_w]
          rfl
        refine pure_ (i := 4) (N := some 77) (v := ?_) (a' := ?_) #[true, false, false, true, true, false, false, false, false, false, false, false, false, false, false, false, false, false, false] rfl rfl (by kernel_rfl) (fun _ _ _ h => h) (Or.inl ⟨by rfl, ?_⟩) ?_ ?_
        rotate_left
        · intro w'
          go_simp
          with_reducible rfl
        rotate_left
        · simp only [Act.put, List.setIfInBounds_toArray, List.set_cons_zero, List.set_cons_succ, i64_w, i32_w]
          rfl
        refine pure_ (i := 5) (N := some 78) (v := ?_) (a' := ?_) #[true, false, false, true, true, true, false, false, false, false, false, false, false, false, false, false, false, false, false] rfl rfl (by kernel_rfl) (fun _ _ _ h => h) (Or.inl ⟨by rfl, ?_⟩) ?_ ?_
        rotate_left
        · intro w'
          go_simp
          with_reducible rfl
        rotate_left
        · simp only [Act.put, List.setIfInBounds_toArray, List.set_cons_zero, List.set_cons_succ, i64_w, i32_w]
          rfl
        refine take_ (i := 6) (N := some 79) (v := ?_) (a' := ?_) #[true, false, false, true, true, true, true, false, false, false, false, false, false, false, false, false, false, false, false] rfl rfl (by kernel_rfl) (fun _ _ _ h => h) (Or.inl ⟨by rfl, ?_⟩) hHeld ?_ ?_
        rotate_left
        · rintro w' ⟨s0, s1, s2⟩
          go_simp
          with_reducible rfl
        rotate_left
        · simp only [Act.put, List.setIfInBounds_toArray, List.set_cons_zero, List.set_cons_succ, i64_w, i32_w]
          rfl
        refine one_ (i := 1) (N := some 74) #[true, true, false, true, true, true, true, false, false, false, false, false, false, false, false, false, false, false, false] rfl rfl (by kernel_rfl) (by decide) (fun K hK => ?_)
        refine goes_ Try.func48 (by kernel_rfl) rfl #[.pointer (some ⟨g, 0, none⟩)] (by rfl) rfl rfl (by simp only [List.map_toArray, List.map_cons, List.map_nil]; rfl) ?_
        with_reducible refine (records_gg (hZ.below hHeld.2.2) (by omega)).mono ?_
        rintro e w3 ⟨A3, c3, rfl, hC3, hb3⟩
        refine ⟨_, rfl, ?_⟩
        refine hK.out _ _ ⟨(pw_cell_below hb3 hHeld.1), (pw_cell_below hb3 hHeld.2.1), (below_step hHeld.2.2 hb3)⟩ (fun hHeld => ?_)
        clear hK K
        refine norm_ (a' := ?_) ?_ ?_
        rotate_left
        · show Act.put _ (some 74) _ = _
          simp only [Act.put, List.setIfInBounds_toArray, List.set_cons_zero, List.set_cons_succ, i64_w, i32_w]
          rfl
        refine one_ (i := 2) (N := some 75) #[true, true, true, true, true, true, true, false, false, false, false, false, false, false, false, false, false, false, false] rfl rfl (by kernel_rfl) (by decide) (fun K hK => ?_)
        refine goes_ Try.func73 (by kernel_rfl) rfl #[.slice A3 recs1.length c3] (by rfl) rfl rfl (by simp only [List.map_toArray, List.map_cons, List.map_nil]; rfl) ?_
        with_reducible refine (recsof_any A3 recs1 c3 _ hC3 (by omega)).mono ?_
        rintro e w4 ⟨A4, c4, rfl, hO4, hb4⟩
        refine ⟨_, rfl, ?_⟩
        refine hK.out _ _ ⟨(pw_cell_below hb4 hHeld.1), (pw_cell_below hb4 hHeld.2.1), (below_step hHeld.2.2 hb4)⟩ (fun hHeld => ?_)
        clear hK K
        refine norm_ (a' := ?_) ?_ ?_
        rotate_left
        · show Act.put _ (some 75) _ = _
          simp only [Act.put, List.setIfInBounds_toArray, List.set_cons_zero, List.set_cons_succ, i64_w, i32_w]
          rfl
        refine one_ (i := 7) (N := some 80) #[true, true, true, true, true, true, true, true, false, false, false, false, false, false, false, false, false, false, false] rfl rfl (by kernel_rfl) (by decide) (fun K hK => ?_)
        refine goes_ Try.func72 (by kernel_rfl) rfl #[.slice A4 recs1.length c4, .slice AR recs1.length cR] (by rfl) rfl rfl (by simp only [List.map_toArray, List.map_cons, List.map_nil]; rfl) ?_
        with_reducible refine (equal72 recs1 A4 AR c4 cR _ (toC98 hO4) (Kd.C_below hmC hHeld.2.2) (by omega)).mono ?_
        rintro e w5 ⟨rfl, hb5⟩
        refine ⟨_, rfl, ?_⟩
        refine hK.out _ _ ⟨(pw_cell_below hb5 hHeld.1), (pw_cell_below hb5 hHeld.2.1), (below_step hHeld.2.2 hb5)⟩ (fun hHeld => ?_)
        clear hK K
        refine norm_ (a' := ?_) ?_ ?_
        rotate_left
        · show Act.put _ (some 80) _ = _
          simp only [Act.put, List.setIfInBounds_toArray, List.set_cons_zero, List.set_cons_succ, i64_w, i32_w]
          rfl
        refine pure_ (i := 8) (N := some 81) (v := ?_) (a' := ?_) #[true, true, true, true, true, true, true, true, true, false, false, false, false, false, false, false, false, false, false] rfl rfl (by kernel_rfl) (fun _ _ _ h => h) (Or.inl ⟨by rfl, ?_⟩) ?_ ?_
        rotate_left
        · intro w'
          go_simp
          with_reducible rfl
        rotate_left
        · simp only [Act.put, List.setIfInBounds_toArray, List.set_cons_zero, List.set_cons_succ, i64_w, i32_w]
          rfl
        refine pure_ (i := 9) (N := some 82) (v := ?_) (a' := ?_) #[true, true, true, true, true, true, true, true, true, true, false, false, false, false, false, false, false, false, false] rfl rfl (by kernel_rfl) (fun _ _ _ h => h) (Or.inl ⟨by rfl, ?_⟩) ?_ ?_
        rotate_left
        · intro w'
          go_simp
          with_reducible rfl
        rotate_left
        · simp only [Act.put, List.setIfInBounds_toArray, List.set_cons_zero, List.set_cons_succ, i64_w, i32_w]
          rfl
        refine pure_ (i := 10) (N := some 83) (v := ?_) (a' := ?_) #[true, true, true, true, true, true, true, true, true, true, true, false, false, false, false, false, false, false, false] rfl rfl (by kernel_rfl) (fun _ _ _ h => h) (Or.inl ⟨by rfl, ?_⟩) ?_ ?_
        rotate_left
        · intro w'
          go_simp
          with_reducible rfl
        rotate_left
        · simp only [Act.put, List.setIfInBounds_toArray, List.set_cons_zero, List.set_cons_succ, i64_w, i32_w]
          rfl
        refine pure_ (i := 12) (N := some 85) (v := ?_) (a' := ?_) #[true, true, true, true, true, true, true, true, true, true, true, false, true, false, false, false, false, false, false] rfl rfl (by kernel_rfl) (fun _ _ _ h => h) (Or.inl ⟨by rfl, ?_⟩) ?_ ?_
        rotate_left
        · intro w'
          go_simp
          with_reducible rfl
        rotate_left
        · simp only [Act.put, List.setIfInBounds_toArray, List.set_cons_zero, List.set_cons_succ, i64_w, i32_w]
          rfl
        refine pure_ (i := 13) (N := some 86) (v := ?_) (a' := ?_) #[true, true, true, true, true, true, true, true, true, true, true, false, true, true, false, false, false, false, false] rfl rfl (by kernel_rfl) (fun _ _ _ h => h) (Or.inl ⟨by rfl, ?_⟩) ?_ ?_
        rotate_left
        · intro w'
          go_simp
          with_reducible rfl
        rotate_left
        · simp only [Act.put, List.setIfInBounds_toArray, List.set_cons_zero, List.set_cons_succ, i64_w, i32_w]
          rfl
        refine pure_ (i := 14) (N := some 87) (v := ?_) (a' := ?_) #[true, true, true, true, true, true, true, true, true, true, true, false, true, true, true, false, false, false, false] rfl rfl (by kernel_rfl) (fun _ _ _ h => h) (Or.inl ⟨by rfl, ?_⟩) ?_ ?_
        rotate_left
        · intro w'
          go_simp
          with_reducible rfl
        rotate_left
        · simp only [Act.put, List.setIfInBounds_toArray, List.set_cons_zero, List.set_cons_succ, i64_w, i32_w]
          rfl
        refine take_ (i := 15) (N := some 88) (v := ?_) (a' := ?_) #[true, true, true, true, true, true, true, true, true, true, true, false, true, true, true, true, false, false, false] rfl rfl (by kernel_rfl) (fun _ _ _ h => h) (Or.inl ⟨by rfl, ?_⟩) hHeld ?_ ?_
        rotate_left
        · rintro w' ⟨s0, s1, s2⟩
          go_simp
          with_reducible rfl
        rotate_left
        · simp only [Act.put, List.setIfInBounds_toArray, List.set_cons_zero, List.set_cons_succ, i64_w, i32_w]
          rfl
        refine pure_ (i := 16) (N := some 89) (v := ?_) (a' := ?_) #[true, true, true, true, true, true, true, true, true, true, true, false, true, true, true, true, true, false, false] rfl rfl (by kernel_rfl) (fun _ _ _ h => h) (Or.inl ⟨by rfl, ?_⟩) ?_ ?_
        rotate_left
        · intro w'
          go_simp
          with_reducible rfl
        rotate_left
        · simp only [Act.put, List.setIfInBounds_toArray, List.set_cons_zero, List.set_cons_succ, i64_w, i32_w]
          rfl
        refine one_ (i := 11) (N := some 84) #[true, true, true, true, true, true, true, true, true, true, true, true, true, true, true, true, true, false, false] rfl rfl (by kernel_rfl) (by decide) (fun K hK => ?_)
        refine goes_ Try.func74 (by kernel_rfl) rfl #[.pointer (some ⟨g, 0, none⟩)] (by rfl) rfl rfl (by simp only [List.map_toArray, List.map_cons, List.map_nil]; rfl) ?_
        with_reducible refine (waiting_gg (hZ.below hHeld.2.2)).mono ?_
        rintro e w6 ⟨rfl, rfl⟩
        refine ⟨_, rfl, ?_⟩
        refine hK.out _ _ ⟨hHeld.1, hHeld.2.1, hHeld.2.2⟩ (fun hHeld => ?_)
        clear hK K
        refine norm_ (a' := ?_) ?_ ?_
        rotate_left
        · show Act.put _ (some 84) _ = _
          simp only [Act.put, List.setIfInBounds_toArray, List.set_cons_zero, List.set_cons_succ, i64_w, i32_w]
          rfl
        refine pure_ (i := 17) (N := some 90) (v := ?_) (a' := ?_) #[true, true, true, true, true, true, true, true, true, true, true, true, true, true, true, true, true, true, false] rfl rfl (by kernel_rfl) (fun _ _ _ h => h) (Or.inl ⟨by rfl, ?_⟩) ?_ ?_
        rotate_left
        · intro w'
          go_simp
          with_reducible rfl
        rotate_left
        · simp only [Act.put, List.setIfInBounds_toArray, List.set_cons_zero, List.set_cons_succ, i64_w, i32_w]
          rfl
        refine pure_ (i := 18) (N := some 91) (v := ?_) (a' := ?_) #[true, true, true, true, true, true, true, true, true, true, true, true, true, true, true, true, true, true, true] rfl rfl (by kernel_rfl) (fun _ _ _ h => h) (Or.inl ⟨by rfl, ?_⟩) ?_ ?_
        rotate_left
        · intro w'
          go_simp
          with_reducible rfl
        rotate_left
        · simp only [Act.put, List.setIfInBounds_toArray, List.set_cons_zero, List.set_cons_succ, i64_w, i32_w]
          rfl
        refine done_ (by kernel_rfl) ?_
        have hfin : RdA w g m (k + 1) w5 := ⟨recs1, late1, by omega, by omega, (hZ.below hHeld.2.2).top⟩
        have HF := hidI hfin
        clear hfin hHeld hZ hm0 hm1 hmC hO4 hb4 hb5 hC3 hb3
        go_wp2
        go_roundw
        case rel => exact ⟨k + 1, by omega, by go_num, HF⟩
        case measure => simp [intOf]; omega
    · obtain ⟨recs, late, hl1, hl2, hGG⟩ := hR.out
      have hbz := hGG.bel
      clear hGG hR
      go_wp2_with fail
      refine (late_nil _).mono ?_
      rintro e w3 ⟨rfl, hb3⟩
      have hb3' := below_step hbz hb3
      clear hb3 hbz
      simp only []
      go_wp2_with fail
      refine (ask_nil _ _ _ _ _ _ _ _ (by decide)).mono ?_
      rintro e w4 ⟨rfl, hb4⟩
      have hb4' := below_step (below_new hb3' _) hb4
      clear hb4 hb3'
      simp only []
      go_wp2_with (first | (go_at_call 74; refine (waiting_nil _).mono ?_; rintro e w5 ⟨rfl, rfl⟩) | (go_at_call 48; refine (records_nil _).mono ?_; rintro e w5 ⟨rfl, rfl⟩) | fail)
      go_ret
      exact ⟨rfl, hb4'⟩
end Go.Proofs.Ytliacfjdenfldaa
