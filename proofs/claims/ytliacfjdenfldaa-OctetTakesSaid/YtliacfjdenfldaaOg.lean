import Derived.Test.YtliacfjdenfldaaOf
import Derived.Laws.BytesArg
namespace Go.Proofs.Ytliacfjdenfldaa
open Go.RowKit Go.Proofs.Kq
open Go.Proofs.YtliacfjdenfldaaW.PrintWords (pw_cell_below step_append_cells print_append_cells Kd Kd.C Kd.C_below)
open Go.Proofs.YtliacfjdenfldaaW.PrintLast
set_option linter.unusedSimpArgs false
set_option linter.unusedVariables false

theorem rint_at (g : Nat) (s : ByteArray) (n : Int) (s2 : ByteArray) (w : World) (hB : Blk w g #[.string s, .bool false] 164) (h : intB s false = (n, s2, false)) :
    Calls Try.prog 44 #[.pointer (some ⟨g, 0, none⟩)] w fun e w' => e = .returned (.int .i64 n) ∧ Blk w' g #[.string s2, .bool false] 164 ∧ Fr (fun k => k = g) w w' := by
  have z := rint_any g s false w hB
  rw [h] at z
  exact z
theorem rtext_at (g : Nat) (s : ByteArray) (n : ByteArray) (s2 : ByteArray) (w : World) (hB : Blk w g #[.string s, .bool false] 164) (h : textB s false = (n, s2, false)) :
    Calls Try.prog 43 #[.pointer (some ⟨g, 0, none⟩)] w fun e w' => e = .returned (.string n) ∧ Blk w' g #[.string s2, .bool false] 164 ∧ Fr (fun k => k = g) w w' := by
  have z := rtext_any g s false w hB
  rw [h] at z
  exact z
theorem Fr.bel {w0 w w' : World} {g : Nat} (hb : Below w0.heap.size w0 w) (h : Fr (fun k => k = g) w w') (hg : w0.heap.size ≤ g) : Below w0.heap.size w0 w' := by
  refine ((Fr.of_below (S := fun k => w0.heap.size ≤ k) hb).trans h (fun b _ e => ?_)).toBelow (fun b hb2 hk => by omega)
  subst e; exact hg
def i64r (n : Int) : Prop := -9223372036854775808 ≤ n ∧ n ≤ 9223372036854775807
set_option maxRecDepth 100000 in
set_option maxHeartbeats 4000000 in
theorem walk8 (ad : Option Addr) (xs : List A68) (cap : Nat) (w : World) (hC : Kd.C d68 w ad xs.length xs) (hx : ∀ x ∈ xs, i64r x.f1 ∧ x.f2.size ≤ 140737488351232) (hy : xs.length ≤ 140737488351232) :
    Calls Try.prog 8 #[.slice ad xs.length cap] w fun e w' => e = .returned (.bool true) ∧ Below w.heap.size w w' := by
  have hl : Hid (∀ w', Below w.heap.size w w' → Calls Try.prog 36 #[] w' fun e w'' => e = .returned (.bool true) ∧ Below w.heap.size w w'') := fun w' hb => (lives36 w').mono fun e w'' h => ⟨h.1, below_step hb h.2⟩
  have hsB : ∃ b0, (∀ w', Kd.C d68 w' ad xs.length xs → Calls Try.prog 37 #[.slice ad xs.length cap] w' fun e w'' => e = .returned (.bool b0) ∧ Below w'.heap.size w' w'') ∧ (b0 = true → xs.length ≤ 200 ∧ smN xs ≤ 200000) := by
    by_cases h200 : xs.length ≤ 200
    · refine ⟨smallBB xs, fun w' h => osmall_any ad cap xs w' h h200 (fun x h => (hx x h).2), fun h => ?_⟩
      simp only [smallBB, Bool.and_eq_true, decide_eq_true_eq] at h
      exact ⟨h.2, h.1⟩
    · exact ⟨false, fun w' h => osmall_many ad cap xs w' h (by omega) (fun x h => (hx x h).2) hy, fun h => by cases h⟩
  obtain ⟨b0, hs0, hb0⟩ := hsB
  have HS := hidI hs0
  have HK := hidI hC
  have HX := hidI hx
  clear hs0 hx
  cases b0
  · clear hb0 hC
    go_enter Try.func8, Try.ntmps8
    go_wp2_with (first | (go_at_call 36; refine (hl.out _ (by first | exact Below.refl _ _ | assumption)).mono ?_; rintro e w1 ⟨rfl, hb⟩) | fail)
    refine (HS.out _ (Kd.C_below HK.out hb)).mono ?_
    rintro e w2 ⟨rfl, hb2⟩
    have hb := below_step hb hb2
    clear hb2
    simp only []
    go_wp2_with (first | (go_at_call 36; refine (hl.out _ (by first | exact Below.refl _ _ | assumption)).mono ?_; rintro e w1 ⟨rfl, hb⟩) | fail)
    go_ret
    exact ⟨rfl, by assumption⟩
  obtain ⟨h200, hsm⟩ := hb0 rfl
  clear hb0
  have hread : Hid (∀ k (h : k < xs.length), ∃ b off, ad = some ⟨b, off, none⟩ ∧ ∀ w', Below w.heap.size w w' →
     (w'.cell? ⟨b, off + k * 3, none⟩ = some (.bool xs[k].f0) ∧ w'.cell? ⟨b, off + k * 3 + 1, none⟩ = some (.int .i64 xs[k].f1) ∧ w'.cell? ⟨b, off + k * 3 + 2, none⟩ = some (.string xs[k].f2))) := by
    intro k hk
    obtain ⟨b, off, rfl, hx⟩ := Kp.C_open hC (by omega) (by decide)
    exact ⟨b, off, rfl, fun w' hb => ⟨pw_cell_below hb (hx k hk 0 _ rfl), pw_cell_below hb (hx k hk 1 _ rfl), pw_cell_below hb (hx k hk 2 _ rfl)⟩⟩
  clear hC
  go_enter Try.func8, Try.ntmps8
  go_wp2_with (first | (go_at_call 36; refine (hl.out _ (by first | exact Below.refl _ _ | assumption)).mono ?_; rintro e w1 ⟨rfl, hb⟩) | fail)
  refine (HS.out _ (Kd.C_below HK.out hb)).mono ?_
  rintro e w2 ⟨rfl, hb2⟩
  have hb3 := below_step hb hb2
  clear hb2 hb HS
  simp only []
  go_wp2_with fail
  have hG0 := WG.new hb3
  obtain ⟨g, hg⟩ : ∃ g, g = w2.heap.size := ⟨_, rfl⟩
  rw [← hg] at hG0
  rw [← hg]
  clear hg hb3
  go_loopw [3, 25] (fun p i wr => ∃ k : Nat, k ≤ xs.length ∧ i = .int .i64 k ∧ p = .pointer (some ⟨g, 0, none⟩) ∧ WG w g (wB (xs.take k)) (longL (xs.take k)) wr) (fun _ i _ => xs.length - (intOf i).toNat)
  case atStart => exact ⟨0, Nat.zero_le _, rfl, rfl, hG0⟩
  case round =>
    obtain ⟨k, hk, rfl, rfl, hW⟩ := hrel
    clear hG0
    by_cases hlt : k < xs.length
    · obtain ⟨b, off, rfl, hq⟩ := hread.out k hlt
      have hbw : Below w.heap.size w wr := by obtain ⟨_, _, _, h⟩ := hW; exact h
      obtain ⟨q0, q1, q2⟩ := hq wr hbw
      obtain ⟨x, hxe⟩ : ∃ x, x = xs[k] := ⟨_, rfl⟩
      rw [← hxe] at q0 q1 q2
      have htk : xs.take (k + 1) = xs.take k ++ [x] := by rw [hxe]; exact List.take_succ_eq_append_getElem hlt
      have hlen : (wB (xs.take k)).length ≤ 1000000000 := by
        have h1 := wB_len (xs.take k)
        have h2 := smN_take xs k
        have : (xs.take k).length ≤ 200 := by rw [List.length_take]; omega
        omega
      have hstB : Hid (wB (xs.take (k + 1)) = wB (xs.take k) ++ wX8 x) := by show _ = _; rw [htk, wB_snoc]
      have hstL : Hid (longL (xs.take (k + 1)) = (longL (xs.take k) || longX x)) := by show _ = _; rw [htk, longL_snoc]
      clear hxe htk hq hbw
      cases hf : x.f0
      · rw [hf] at q0
        have hT : Hid (x.f0 = false) := hf
        clear hf
        go_wp2_with fail
        clear q0 q1 q2
        have hW := hW.below (below_new (Below.refl wr.heap.size wr) (.cells #[.bool false, .int .i64 x.f1, .string x.f2] 68))
        generalize wr.alloc _ = W at *
        refine (wint_wg x.f1 hW hlen).mono ?_
        rintro e w3 ⟨rfl, hW⟩
        simp only []
        go_wp2
        go_roundw
        case rel =>
          refine ⟨k + 1, by omega, by go_num, rfl, ?_⟩
          rw [hstB.out, hstL.out, ← wT_int _ x hT.out]
          have : longX x = false := by unfold longX; rw [hT.out]; rfl
          rw [this, Bool.or_false]
          exact hW
        case measure => simp [intOf]; omega
      · rw [hf] at q0
        have hT : Hid (x.f0 = true) := hf
        clear hf
        go_wp2_with fail
        clear q0 q1 q2
        have hW := hW.below (below_new (Below.refl wr.heap.size wr) (.cells #[.bool true, .int .i64 x.f1, .string x.f2] 68))
        generalize wr.alloc _ = W at *
        refine (wtext_wg x.f2 hW hlen).mono ?_
        rintro e w3 ⟨rfl, hW⟩
        simp only []
        go_wp2
        go_roundw
        case rel =>
          refine ⟨k + 1, by omega, by go_num, rfl, ?_⟩
          rw [hstB.out, hstL.out, ← wT_text _ x hT.out]
          have : longX x = decide (65535 < x.f2.size) := by unfold longX; rw [hT.out]; rfl
          rw [this]
          exact hW
        case measure => simp [intOf]; omega
    · have e : k = xs.length := by omega
      rw [e, List.take_length] at hW
      have hbw : Below w.heap.size w wr := by obtain ⟨_, _, _, h⟩ := hW; exact h
      have hkl : ¬ (k < xs.length) := hlt
      clear e
      go_wp2_with fail
      refine (wbytes_wg hW).mono ?_
      rintro e w3 ⟨rfl, rfl⟩
      clear hW
      simp only []
      cases hlo : longL xs
      · have hlo2 := hidI hlo
        have hwe : Hid (wB xs = encL xs) := wB_enc xs hlo
        simp only [hwe.out, Bool.false_eq_true, if_false]
        clear hlo
        go_wp2_with fail
        refine (put_any ad cap xs _ (Kd.C_below HK.out hbw) h200 hsm).mono ?_
        rintro e w4 ⟨rfl, hb4⟩
        have hbw := below_step hbw hb4
        rw [hlo2.out]
        simp only [Bool.false_eq_true, if_false, Bool.not_false]
        clear hb4
        go_wp2_with fail
        refine (read_any _ _).mono ?_
        rintro e w5 ⟨rfl, rfl⟩
        have hR := Blk.new' (w := w4) (b := w4.heap.size) (cs := #[.string (strOfNums (encL xs)), .bool false]) (T := 164) rfl
        have hrg := hbw.size
        have hbw := below_new hbw (.cells #[.string (strOfNums (encL xs)), .bool false] 164)
        generalize w4.alloc _ = W4 at *
        obtain ⟨rd, hrd⟩ : ∃ rd, rd = w4.heap.size := ⟨_, rfl⟩
        rw [← hrd] at hR hrg
        rw [← hrd]
        clear hrd
        simp only []
        go_wp2_with fail
        have hRH : Hid (Blk W4 rd #[.string (strOfNums (encL (xs.drop 0))), .bool false] 164) := by rw [List.drop_zero]; exact hR
        clear hR
        go_loopw [69] (fun i wr => ∃ k : Nat, k ≤ xs.length ∧ i = .int .i64 k ∧ Hid (Blk wr rd #[.string (strOfNums (encL (xs.drop k))), .bool false] 164) ∧ Below w.heap.size w wr) (fun i _ => xs.length - (intOf i).toNat)
        case atStart => exact ⟨0, Nat.zero_le _, rfl, hRH, hbw⟩
        case round =>
          obtain ⟨k, hk, rfl, hRK, hbk⟩ := hrel
          clear hRH hbw
          by_cases hlt : k < xs.length
          · obtain ⟨b, off, rfl, hq⟩ := hread.out k hlt
            obtain ⟨q0, q1, q2⟩ := hq wr hbk
            obtain ⟨x, hxe⟩ : ∃ x, x = xs[k] := ⟨_, rfl⟩
            rw [← hxe] at q0 q1 q2
            have hdk : xs.drop k = x :: xs.drop (k + 1) := by rw [hxe]; exact List.drop_eq_getElem_cons hlt
            have hlx : longX x = false := by
              have h := hlo2.out
              unfold longL at h
              rw [List.any_eq_false] at h
              have := h x (by rw [hxe]; exact List.getElem_mem _)
              simpa using this
            have hxr : i64r x.f1 := by rw [hxe]; exact (HX.out _ (List.getElem_mem _)).1
            obtain ⟨sK, hsK⟩ : ∃ sK, sK = strOfNums (encL (xs.drop k)) := ⟨_, rfl⟩
            obtain ⟨s2, hs2⟩ : ∃ s2, s2 = strOfNums (encL (xs.drop (k + 1))) := ⟨_, rfl⟩
            have hsK2 : sK = strOfNums (encX x ++ encL (xs.drop (k + 1))) := by rw [hsK, hdk]; rfl
            have hRd := hRK.out
            rw [← hsK] at hRd
            have HS2 := hidI hs2
            clear hxe hq hdk hsK hRK
            cases hf : x.f0
            · rw [hf] at q0
              have hin : intB sK false = (x.f1, s2, false) := by
                have e : encX x = lowI 8 (IntKind.u64.wrap x.f1) := by simp [encX, hf]
                rw [hsK2, e, int_again _ _ hxr, hs2]
              have HIN := hidI hin
              have hlt0 := hRd.lt
              clear hf hin hsK2 hs2 hlx hxr
              go_wp2_with fail
              clear q0 q1 q2
              have hBA := Blk.new' (w := wr) (b := wr.heap.size) (cs := #[.bool false, .int .i64 x.f1, .string x.f2]) (T := 68) rfl
              have hRd := hRd.be (below_new (Below.refl wr.heap.size wr) (.cells #[.bool false, .int .i64 x.f1, .string x.f2] 68))
              have hbk := below_new hbk (.cells #[.bool false, .int .i64 x.f1, .string x.f2] 68)
              generalize wr.alloc _ = W at *
              obtain ⟨bA, hbA⟩ : ∃ bA, bA = wr.heap.size := ⟨_, rfl⟩
              rw [← hbA] at hBA
              rw [← hbA]
              have hne : Hid (bA ≠ rd) := by show _ ≠ _; omega
              clear hbA
              have HBK := hidI hbk
              clear hbk hlt0
              refine start_ (n := 21) (S := fun w' => w'.cell? ⟨bA, 0, none⟩ = some (.bool false) ∧ w'.cell? ⟨bA, 1, none⟩ = some (.int .i64 x.f1) ∧ w'.cell? ⟨bA, 2, none⟩ = some (.string x.f2)) (ds := []) #[false, false, false, false, false, false, false, false, false, false, false, false, false, false, false, false, false, false, false, false, false] (by kernel_rfl) rfl rfl ⟨(by rw [World.cell?_drew, hBA.c]; rfl), (by rw [World.cell?_drew, hBA.c]; rfl), (by rw [World.cell?_drew, hBA.c]; rfl)⟩ (fun hHeld => ?_)
              refine pure_ (i := 0) (N := some 73) (v := ?_) (a' := ?_) #[true, false, false, false, false, false, false, false, false, false, false, false, false, false, false, false, false, false, false, false, false] rfl rfl (by kernel_rfl) (fun _ _ _ h => h) (Or.inl ⟨by rfl, ?_⟩) ?_ ?_
              rotate_left
              · intro w'
                go_simp
                with_reducible rfl
              rotate_left
              · simp only [Act.put, List.setIfInBounds_toArray, List.set_cons_zero, List.set_cons_succ, i64_w, i32_w]
                rfl
              refine take_ (i := 1) (N := some 74) (v := ?_) (a' := ?_) #[true, true, false, false, false, false, false, false, false, false, false, false, false, false, false, false, false, false, false, false, false] rfl rfl (by kernel_rfl) (fun _ _ _ h => h) (Or.inl ⟨by rfl, ?_⟩) hHeld ?_ ?_
              rotate_left
              · rintro w' ⟨s0, s1, s2⟩
                go_simp
                with_reducible rfl
              rotate_left
              · simp only [Act.put, List.setIfInBounds_toArray, List.set_cons_zero, List.set_cons_succ, i64_w, i32_w]
                rfl
              refine pure_ (i := 2) (N := some 75) (v := ?_) (a' := ?_) #[true, true, true, false, false, false, false, false, false, false, false, false, false, false, false, false, false, false, false, false, false] rfl rfl (by kernel_rfl) (fun _ _ _ h => h) (Or.inl ⟨by rfl, ?_⟩) ?_ ?_
              rotate_left
              · intro w'
                go_simp
                with_reducible rfl
              rotate_left
              · simp only [Act.put, List.setIfInBounds_toArray, List.set_cons_zero, List.set_cons_succ, i64_w, i32_w]
                rfl
              refine pure_ (i := 3) (N := some 76) (v := undef) (a' := ?_) #[true, true, true, true, false, false, false, false, false, false, false, false, false, false, false, false, false, false, false, false, false] rfl rfl (by kernel_rfl) (fun _ _ _ h => h) (Or.inr ⟨by rfl, rfl⟩) ?_ ?_
              rotate_left
              · simp only [Act.put, List.setIfInBounds_toArray, List.set_cons_zero, List.set_cons_succ, i64_w, i32_w]
                rfl
              refine pure_ (i := 4) (N := some 77) (v := undef) (a' := ?_) #[true, true, true, true, true, false, false, false, false, false, false, false, false, false, false, false, false, false, false, false, false] rfl rfl (by kernel_rfl) (fun _ _ _ h => h) (Or.inr ⟨by rfl, rfl⟩) ?_ ?_
              rotate_left
              · simp only [Act.put, List.setIfInBounds_toArray, List.set_cons_zero, List.set_cons_succ, i64_w, i32_w]
                rfl
              refine pure_ (i := 5) (N := some 78) (v := undef) (a' := ?_) #[true, true, true, true, true, true, false, false, false, false, false, false, false, false, false, false, false, false, false, false, false] rfl rfl (by kernel_rfl) (fun _ _ _ h => h) (Or.inr ⟨by rfl, rfl⟩) ?_ ?_
              rotate_left
              · simp only [Act.put, List.setIfInBounds_toArray, List.set_cons_zero, List.set_cons_succ, i64_w, i32_w]
                rfl
              refine pure_ (i := 6) (N := some 79) (v := undef) (a' := ?_) #[true, true, true, true, true, true, true, false, false, false, false, false, false, false, false, false, false, false, false, false, false] rfl rfl (by kernel_rfl) (fun _ _ _ h => h) (Or.inr ⟨by rfl, rfl⟩) ?_ ?_
              rotate_left
              · simp only [Act.put, List.setIfInBounds_toArray, List.set_cons_zero, List.set_cons_succ, i64_w, i32_w]
                rfl
              refine pure_ (i := 7) (N := some 80) (v := undef) (a' := ?_) #[true, true, true, true, true, true, true, true, false, false, false, false, false, false, false, false, false, false, false, false, false] rfl rfl (by kernel_rfl) (fun _ _ _ h => h) (Or.inr ⟨by rfl, rfl⟩) ?_ ?_
              rotate_left
              · simp only [Act.put, List.setIfInBounds_toArray, List.set_cons_zero, List.set_cons_succ, i64_w, i32_w]
                rfl
              refine pure_ (i := 8) (N := some 81) (v := ?_) (a' := ?_) #[true, true, true, true, true, true, true, true, true, false, false, false, false, false, false, false, false, false, false, false, false] rfl rfl (by kernel_rfl) (fun _ _ _ h => h) (Or.inl ⟨by rfl, ?_⟩) ?_ ?_
              rotate_left
              · intro w'
                go_simp
                with_reducible rfl
              rotate_left
              · simp only [Act.put, List.setIfInBounds_toArray, List.set_cons_zero, List.set_cons_succ, i64_w, i32_w]
                rfl
              refine pure_ (i := 9) (N := some 82) (v := ?_) (a' := ?_) #[true, true, true, true, true, true, true, true, true, true, false, false, false, false, false, false, false, false, false, false, false] rfl rfl (by kernel_rfl) (fun _ _ _ h => h) (Or.inl ⟨by rfl, ?_⟩) ?_ ?_
              rotate_left
              · intro w'
                go_simp
                with_reducible rfl
              rotate_left
              · simp only [Act.put, List.setIfInBounds_toArray, List.set_cons_zero, List.set_cons_succ, i64_w, i32_w]
                rfl
              refine pure_ (i := 10) (N := some 83) (v := ?_) (a' := ?_) #[true, true, true, true, true, true, true, true, true, true, true, false, false, false, false, false, false, false, false, false, false] rfl rfl (by kernel_rfl) (fun _ _ _ h => h) (Or.inl ⟨by rfl, ?_⟩) ?_ ?_
              rotate_left
              · intro w'
                go_simp
                with_reducible rfl
              rotate_left
              · simp only [Act.put, List.setIfInBounds_toArray, List.set_cons_zero, List.set_cons_succ, i64_w, i32_w]
                rfl
              refine take_ (i := 11) (N := some 84) (v := ?_) (a' := ?_) #[true, true, true, true, true, true, true, true, true, true, true, true, false, false, false, false, false, false, false, false, false] rfl rfl (by kernel_rfl) (fun _ _ _ h => h) (Or.inl ⟨by rfl, ?_⟩) hHeld ?_ ?_
              rotate_left
              · rintro w' ⟨s0, s1, s2⟩
                go_simp
                with_reducible rfl
              rotate_left
              · simp only [Act.put, List.setIfInBounds_toArray, List.set_cons_zero, List.set_cons_succ, i64_w, i32_w]
                rfl
              refine pure_ (i := 12) (N := some 85) (v := ?_) (a' := ?_) #[true, true, true, true, true, true, true, true, true, true, true, true, true, false, false, false, false, false, false, false, false] rfl rfl (by kernel_rfl) (fun _ _ _ h => h) (Or.inl ⟨by rfl, ?_⟩) ?_ ?_
              rotate_left
              · intro w'
                go_simp
                with_reducible rfl
              rotate_left
              · simp only [Act.put, List.setIfInBounds_toArray, List.set_cons_zero, List.set_cons_succ, i64_w, i32_w]
                rfl
              refine pure_ (i := 13) (N := some 86) (v := ?_) (a' := ?_) #[true, true, true, true, true, true, true, true, true, true, true, true, true, true, false, false, false, false, false, false, false] rfl rfl (by kernel_rfl) (fun _ _ _ h => h) (Or.inl ⟨by rfl, ?_⟩) ?_ ?_
              rotate_left
              · intro w'
                go_simp
                with_reducible rfl
              rotate_left
              · simp only [Act.put, List.setIfInBounds_toArray, List.set_cons_zero, List.set_cons_succ, i64_w, i32_w]
                rfl
              refine pure_ (i := 14) (N := some 87) (v := ?_) (a' := ?_) #[true, true, true, true, true, true, true, true, true, true, true, true, true, true, true, false, false, false, false, false, false] rfl rfl (by kernel_rfl) (fun _ _ _ h => h) (Or.inl ⟨by rfl, ?_⟩) ?_ ?_
              rotate_left
              · intro w'
                go_simp
                with_reducible rfl
              rotate_left
              · simp only [Act.put, List.setIfInBounds_toArray, List.set_cons_zero, List.set_cons_succ, i64_w, i32_w]
                rfl
              refine pure_ (i := 16) (N := some 89) (v := ?_) (a' := ?_) #[true, true, true, true, true, true, true, true, true, true, true, true, true, true, true, false, true, false, false, false, false] rfl rfl (by kernel_rfl) (fun _ _ _ h => h) (Or.inl ⟨by rfl, ?_⟩) ?_ ?_
              rotate_left
              · intro w'
                go_simp
                with_reducible rfl
              rotate_left
              · simp only [Act.put, List.setIfInBounds_toArray, List.set_cons_zero, List.set_cons_succ, i64_w, i32_w]
                rfl
              refine take_ (i := 17) (N := some 90) (v := ?_) (a' := ?_) #[true, true, true, true, true, true, true, true, true, true, true, true, true, true, true, false, true, true, false, false, false] rfl rfl (by kernel_rfl) (fun _ _ _ h => h) (Or.inl ⟨by rfl, ?_⟩) hHeld ?_ ?_
              rotate_left
              · rintro w' ⟨s0, s1, s2⟩
                go_simp
                with_reducible rfl
              rotate_left
              · simp only [Act.put, List.setIfInBounds_toArray, List.set_cons_zero, List.set_cons_succ, i64_w, i32_w]
                rfl
              refine one_ (i := 15) (N := some 88) #[true, true, true, true, true, true, true, true, true, true, true, true, true, true, true, true, true, true, false, false, false] rfl rfl (by kernel_rfl) (by decide) (fun K hK => ?_)
              have hBA := hBA.dr
              refine goes_ Try.func44 (by kernel_rfl) rfl #[.pointer (some ⟨rd, 0, none⟩)] (by rfl) rfl rfl (by simp only [List.map_toArray, List.map_cons, List.map_nil]; rfl) ?_
              with_reducible refine (rint_at rd sK _ _ _ hRd.dr HIN.out).mono ?_
              rintro e w3 ⟨rfl, hRd3, hF3⟩
              refine ⟨_, rfl, ?_⟩
              have hBA : Blk w3 bA _ 68 := hF3.blk hBA (fun e => hne.out e)
              refine hK.out _ _ ⟨(by rw [hBA.c]; rfl), (by rw [hBA.c]; rfl), (by rw [hBA.c]; rfl)⟩ (fun hHeld => ?_)
              clear hK K
              refine norm_ (a' := ?_) ?_ ?_
              rotate_left
              · show Act.put _ (some 88) _ = _
                simp only [Act.put, List.setIfInBounds_toArray, List.set_cons_zero, List.set_cons_succ, i64_w, i32_w]
                rfl
              refine pure_ (i := 18) (N := some 91) (v := ?_) (a' := ?_) #[true, true, true, true, true, true, true, true, true, true, true, true, true, true, true, true, true, true, true, false, false] rfl rfl (by kernel_rfl) (fun _ _ _ h => h) (Or.inl ⟨by rfl, ?_⟩) ?_ ?_
              rotate_left
              · intro w'
                go_simp
                with_reducible rfl
              rotate_left
              · simp only [Act.put, List.setIfInBounds_toArray, List.set_cons_zero, List.set_cons_succ, i64_w, i32_w]
                rfl
              refine pure_ (i := 19) (N := some 92) (v := ?_) (a' := ?_) #[true, true, true, true, true, true, true, true, true, true, true, true, true, true, true, true, true, true, true, true, false] rfl rfl (by kernel_rfl) (fun _ _ _ h => h) (Or.inl ⟨by rfl, ?_⟩) ?_ ?_
              rotate_left
              · intro w'
                go_simp
                with_reducible rfl
              rotate_left
              · simp only [Act.put, List.setIfInBounds_toArray, List.set_cons_zero, List.set_cons_succ, i64_w, i32_w]
                rfl
              refine pure_ (i := 20) (N := some 93) (v := ?_) (a' := ?_) #[true, true, true, true, true, true, true, true, true, true, true, true, true, true, true, true, true, true, true, true, true] rfl rfl (by kernel_rfl) (fun _ _ _ h => h) (Or.inl ⟨by rfl, ?_⟩) ?_ ?_
              rotate_left
              · intro w'
                go_simp
                with_reducible rfl
              rotate_left
              · simp only [Act.put, List.setIfInBounds_toArray, List.set_cons_zero, List.set_cons_succ, i64_w, i32_w]
                rfl
              refine done_ (by kernel_rfl) ?_
              have hbk := Fr.bel HBK.out.drew hF3 hrg
              have hfin : Hid (Blk w3 rd #[.string (strOfNums (encL (xs.drop (k + 1)))), .bool false] 164) := by show Blk _ _ _ _; rw [← HS2.out]; exact hRd3
              clear hRd3 hF3 hBA hRd HS2 HIN hne HBK
              go_wp2
              go_roundw
              case rel => exact ⟨k + 1, by omega, by go_num, hfin, hbk⟩
              case measure => simp [intOf]; omega
            · rw [hf] at q0
              have hin : textB sK false = (x.f2, s2, false) := by
                have e : encX x = lowI 2 (x.f2.size : Int) ++ bn x.f2 := by simp [encX, hf]
                have h65 : x.f2.size ≤ 65535 := by simpa [longX, hf] using hlx
                rw [hsK2, e, text_again _ _ h65, hs2]
              have HIN := hidI hin
              have hlt0 := hRd.lt
              clear hf hin hsK2 hs2 hlx hxr
              go_wp2_with fail
              clear q0 q1 q2
              have hBA := Blk.new' (w := wr) (b := wr.heap.size) (cs := #[.bool true, .int .i64 x.f1, .string x.f2]) (T := 68) rfl
              have hRd := hRd.be (below_new (Below.refl wr.heap.size wr) (.cells #[.bool true, .int .i64 x.f1, .string x.f2] 68))
              have hbk := below_new hbk (.cells #[.bool true, .int .i64 x.f1, .string x.f2] 68)
              generalize wr.alloc _ = W at *
              obtain ⟨bA, hbA⟩ : ∃ bA, bA = wr.heap.size := ⟨_, rfl⟩
              rw [← hbA] at hBA
              rw [← hbA]
              have hne : Hid (bA ≠ rd) := by show _ ≠ _; omega
              clear hbA
              have HBK := hidI hbk
              clear hbk hlt0
              refine start_ (n := 21) (S := fun w' => w'.cell? ⟨bA, 0, none⟩ = some (.bool true) ∧ w'.cell? ⟨bA, 1, none⟩ = some (.int .i64 x.f1) ∧ w'.cell? ⟨bA, 2, none⟩ = some (.string x.f2)) (ds := []) #[false, false, false, false, false, false, false, false, false, false, false, false, false, false, false, false, false, false, false, false, false] (by kernel_rfl) rfl rfl ⟨(by rw [World.cell?_drew, hBA.c]; rfl), (by rw [World.cell?_drew, hBA.c]; rfl), (by rw [World.cell?_drew, hBA.c]; rfl)⟩ (fun hHeld => ?_)
              refine pure_ (i := 0) (N := some 73) (v := ?_) (a' := ?_) #[true, false, false, false, false, false, false, false, false, false, false, false, false, false, false, false, false, false, false, false, false] rfl rfl (by kernel_rfl) (fun _ _ _ h => h) (Or.inl ⟨by rfl, ?_⟩) ?_ ?_
              rotate_left
              · intro w'
                go_simp
                with_reducible rfl
              rotate_left
              · simp only [Act.put, List.setIfInBounds_toArray, List.set_cons_zero, List.set_cons_succ, i64_w, i32_w]
                rfl
              refine take_ (i := 1) (N := some 74) (v := ?_) (a' := ?_) #[true, true, false, false, false, false, false, false, false, false, false, false, false, false, false, false, false, false, false, false, false] rfl rfl (by kernel_rfl) (fun _ _ _ h => h) (Or.inl ⟨by rfl, ?_⟩) hHeld ?_ ?_
              rotate_left
              · rintro w' ⟨s0, s1, s2⟩
                go_simp
                with_reducible rfl
              rotate_left
              · simp only [Act.put, List.setIfInBounds_toArray, List.set_cons_zero, List.set_cons_succ, i64_w, i32_w]
                rfl
              refine pure_ (i := 2) (N := some 75) (v := ?_) (a' := ?_) #[true, true, true, false, false, false, false, false, false, false, false, false, false, false, false, false, false, false, false, false, false] rfl rfl (by kernel_rfl) (fun _ _ _ h => h) (Or.inl ⟨by rfl, ?_⟩) ?_ ?_
              rotate_left
              · intro w'
                go_simp
                with_reducible rfl
              rotate_left
              · simp only [Act.put, List.setIfInBounds_toArray, List.set_cons_zero, List.set_cons_succ, i64_w, i32_w]
                rfl
              refine pure_ (i := 3) (N := some 76) (v := ?_) (a' := ?_) #[true, true, true, true, false, false, false, false, false, false, false, false, false, false, false, false, false, false, false, false, false] rfl rfl (by kernel_rfl) (fun _ _ _ h => h) (Or.inl ⟨by rfl, ?_⟩) ?_ ?_
              rotate_left
              · intro w'
                go_simp
                with_reducible rfl
              rotate_left
              · simp only [Act.put, List.setIfInBounds_toArray, List.set_cons_zero, List.set_cons_succ, i64_w, i32_w]
                rfl
              refine pure_ (i := 5) (N := some 78) (v := ?_) (a' := ?_) #[true, true, true, true, false, true, false, false, false, false, false, false, false, false, false, false, false, false, false, false, false] rfl rfl (by kernel_rfl) (fun _ _ _ h => h) (Or.inl ⟨by rfl, ?_⟩) ?_ ?_
              rotate_left
              · intro w'
                go_simp
                with_reducible rfl
              rotate_left
              · simp only [Act.put, List.setIfInBounds_toArray, List.set_cons_zero, List.set_cons_succ, i64_w, i32_w]
                rfl
              refine take_ (i := 6) (N := some 79) (v := ?_) (a' := ?_) #[true, true, true, true, false, true, true, false, false, false, false, false, false, false, false, false, false, false, false, false, false] rfl rfl (by kernel_rfl) (fun _ _ _ h => h) (Or.inl ⟨by rfl, ?_⟩) hHeld ?_ ?_
              rotate_left
              · rintro w' ⟨s0, s1, s2⟩
                go_simp
                with_reducible rfl
              rotate_left
              · simp only [Act.put, List.setIfInBounds_toArray, List.set_cons_zero, List.set_cons_succ, i64_w, i32_w]
                rfl
              refine one_ (i := 4) (N := some 77) #[true, true, true, true, true, true, true, false, false, false, false, false, false, false, false, false, false, false, false, false, false] rfl rfl (by kernel_rfl) (by decide) (fun K hK => ?_)
              have hBA := hBA.dr
              refine goes_ Try.func43 (by kernel_rfl) rfl #[.pointer (some ⟨rd, 0, none⟩)] (by rfl) rfl rfl (by simp only [List.map_toArray, List.map_cons, List.map_nil]; rfl) ?_
              with_reducible refine (rtext_at rd sK _ _ _ hRd.dr HIN.out).mono ?_
              rintro e w3 ⟨rfl, hRd3, hF3⟩
              refine ⟨_, rfl, ?_⟩
              have hBA : Blk w3 bA _ 68 := hF3.blk hBA (fun e => hne.out e)
              refine hK.out _ _ ⟨(by rw [hBA.c]; rfl), (by rw [hBA.c]; rfl), (by rw [hBA.c]; rfl)⟩ (fun hHeld => ?_)
              clear hK K
              refine norm_ (a' := ?_) ?_ ?_
              rotate_left
              · show Act.put _ (some 77) _ = _
                simp only [Act.put, List.setIfInBounds_toArray, List.set_cons_zero, List.set_cons_succ, i64_w, i32_w]
                rfl
              refine pure_ (i := 7) (N := some 80) (v := ?_) (a' := ?_) #[true, true, true, true, true, true, true, true, false, false, false, false, false, false, false, false, false, false, false, false, false] rfl rfl (by kernel_rfl) (fun _ _ _ h => h) (Or.inl ⟨by rfl, ?_⟩) ?_ ?_
              rotate_left
              · intro w'
                go_simp
                with_reducible rfl
              rotate_left
              · simp only [Act.put, List.setIfInBounds_toArray, List.set_cons_zero, List.set_cons_succ, i64_w, i32_w]
                rfl
              refine pure_ (i := 8) (N := some 81) (v := ?_) (a' := ?_) #[true, true, true, true, true, true, true, true, true, false, false, false, false, false, false, false, false, false, false, false, false] rfl rfl (by kernel_rfl) (fun _ _ _ h => h) (Or.inl ⟨by rfl, ?_⟩) ?_ ?_
              rotate_left
              · intro w'
                go_simp
                with_reducible rfl
              rotate_left
              · simp only [Act.put, List.setIfInBounds_toArray, List.set_cons_zero, List.set_cons_succ, i64_w, i32_w]
                rfl
              refine pure_ (i := 9) (N := some 82) (v := ?_) (a' := ?_) #[true, true, true, true, true, true, true, true, true, true, false, false, false, false, false, false, false, false, false, false, false] rfl rfl (by kernel_rfl) (fun _ _ _ h => h) (Or.inl ⟨by rfl, ?_⟩) ?_ ?_
              rotate_left
              · intro w'
                go_simp
                with_reducible rfl
              rotate_left
              · simp only [Act.put, List.setIfInBounds_toArray, List.set_cons_zero, List.set_cons_succ, i64_w, i32_w]
                rfl
              refine pure_ (i := 10) (N := some 83) (v := ?_) (a' := ?_) #[true, true, true, true, true, true, true, true, true, true, true, false, false, false, false, false, false, false, false, false, false] rfl rfl (by kernel_rfl) (fun _ _ _ h => h) (Or.inl ⟨by rfl, ?_⟩) ?_ ?_
              rotate_left
              · intro w'
                go_simp
                with_reducible rfl
              rotate_left
              · simp only [Act.put, List.setIfInBounds_toArray, List.set_cons_zero, List.set_cons_succ, i64_w, i32_w]
                rfl
              refine take_ (i := 11) (N := some 84) (v := ?_) (a' := ?_) #[true, true, true, true, true, true, true, true, true, true, true, true, false, false, false, false, false, false, false, false, false] rfl rfl (by kernel_rfl) (fun _ _ _ h => h) (Or.inl ⟨by rfl, ?_⟩) hHeld ?_ ?_
              rotate_left
              · rintro w' ⟨s0, s1, s2⟩
                go_simp
                with_reducible rfl
              rotate_left
              · simp only [Act.put, List.setIfInBounds_toArray, List.set_cons_zero, List.set_cons_succ, i64_w, i32_w]
                rfl
              refine pure_ (i := 12) (N := some 85) (v := ?_) (a' := ?_) #[true, true, true, true, true, true, true, true, true, true, true, true, true, false, false, false, false, false, false, false, false] rfl rfl (by kernel_rfl) (fun _ _ _ h => h) (Or.inl ⟨by rfl, ?_⟩) ?_ ?_
              rotate_left
              · intro w'
                go_simp
                with_reducible rfl
              rotate_left
              · simp only [Act.put, List.setIfInBounds_toArray, List.set_cons_zero, List.set_cons_succ, i64_w, i32_w]
                rfl
              refine pure_ (i := 13) (N := some 86) (v := ?_) (a' := ?_) #[true, true, true, true, true, true, true, true, true, true, true, true, true, true, false, false, false, false, false, false, false] rfl rfl (by kernel_rfl) (fun _ _ _ h => h) (Or.inl ⟨by rfl, ?_⟩) ?_ ?_
              rotate_left
              · intro w'
                go_simp
                with_reducible rfl
              rotate_left
              · simp only [Act.put, List.setIfInBounds_toArray, List.set_cons_zero, List.set_cons_succ, i64_w, i32_w]
                rfl
              refine pure_ (i := 14) (N := some 87) (v := undef) (a' := ?_) #[true, true, true, true, true, true, true, true, true, true, true, true, true, true, true, false, false, false, false, false, false] rfl rfl (by kernel_rfl) (fun _ _ _ h => h) (Or.inr ⟨by rfl, rfl⟩) ?_ ?_
              rotate_left
              · simp only [Act.put, List.setIfInBounds_toArray, List.set_cons_zero, List.set_cons_succ, i64_w, i32_w]
                rfl
              refine pure_ (i := 15) (N := some 88) (v := undef) (a' := ?_) #[true, true, true, true, true, true, true, true, true, true, true, true, true, true, true, true, false, false, false, false, false] rfl rfl (by kernel_rfl) (fun _ _ _ h => h) (Or.inr ⟨by rfl, rfl⟩) ?_ ?_
              rotate_left
              · simp only [Act.put, List.setIfInBounds_toArray, List.set_cons_zero, List.set_cons_succ, i64_w, i32_w]
                rfl
              refine pure_ (i := 16) (N := some 89) (v := undef) (a' := ?_) #[true, true, true, true, true, true, true, true, true, true, true, true, true, true, true, true, true, false, false, false, false] rfl rfl (by kernel_rfl) (fun _ _ _ h => h) (Or.inr ⟨by rfl, rfl⟩) ?_ ?_
              rotate_left
              · simp only [Act.put, List.setIfInBounds_toArray, List.set_cons_zero, List.set_cons_succ, i64_w, i32_w]
                rfl
              refine pure_ (i := 17) (N := some 90) (v := undef) (a' := ?_) #[true, true, true, true, true, true, true, true, true, true, true, true, true, true, true, true, true, true, false, false, false] rfl rfl (by kernel_rfl) (fun _ _ _ h => h) (Or.inr ⟨by rfl, rfl⟩) ?_ ?_
              rotate_left
              · simp only [Act.put, List.setIfInBounds_toArray, List.set_cons_zero, List.set_cons_succ, i64_w, i32_w]
                rfl
              refine pure_ (i := 18) (N := some 91) (v := undef) (a' := ?_) #[true, true, true, true, true, true, true, true, true, true, true, true, true, true, true, true, true, true, true, false, false] rfl rfl (by kernel_rfl) (fun _ _ _ h => h) (Or.inr ⟨by rfl, rfl⟩) ?_ ?_
              rotate_left
              · simp only [Act.put, List.setIfInBounds_toArray, List.set_cons_zero, List.set_cons_succ, i64_w, i32_w]
                rfl
              refine pure_ (i := 19) (N := some 92) (v := ?_) (a' := ?_) #[true, true, true, true, true, true, true, true, true, true, true, true, true, true, true, true, true, true, true, true, false] rfl rfl (by kernel_rfl) (fun _ _ _ h => h) (Or.inl ⟨by rfl, ?_⟩) ?_ ?_
              rotate_left
              · intro w'
                go_simp
                with_reducible rfl
              rotate_left
              · simp only [Act.put, List.setIfInBounds_toArray, List.set_cons_zero, List.set_cons_succ, i64_w, i32_w]
                rfl
              refine pure_ (i := 20) (N := some 93) (v := ?_) (a' := ?_) #[true, true, true, true, true, true, true, true, true, true, true, true, true, true, true, true, true, true, true, true, true] rfl rfl (by kernel_rfl) (fun _ _ _ h => h) (Or.inl ⟨by rfl, ?_⟩) ?_ ?_
              rotate_left
              · intro w'
                go_simp
                with_reducible rfl
              rotate_left
              · simp only [Act.put, List.setIfInBounds_toArray, List.set_cons_zero, List.set_cons_succ, i64_w, i32_w]
                rfl
              refine done_ (by kernel_rfl) ?_
              have hbk := Fr.bel HBK.out.drew hF3 hrg
              have hfin : Hid (Blk w3 rd #[.string (strOfNums (encL (xs.drop (k + 1)))), .bool false] 164) := by show Blk _ _ _ _; rw [← HS2.out]; exact hRd3
              clear hRd3 hF3 hBA hRd HS2 HIN hne HBK
              go_wp2
              go_roundw
              case rel => exact ⟨k + 1, by omega, by go_num, hfin, hbk⟩
              case measure => simp [intOf]; omega
          · have e : k = xs.length := by omega
            have hRd := hRK.out
            rw [e, List.drop_length] at hRd
            clear e hRK
            go_wp2_with fail
            refine (rend_any rd _ false _ hRd).mono ?_
            rintro e w7 ⟨rfl, rfl⟩
            have he : endB (strOfNums (encL ([] : List A68))) false = 0 := rfl
            rw [he]
            clear hRd he
            simp only []
            go_wp2
            go_ret
            exact ⟨rfl, hbk⟩
      · have hlo2 := hidI hlo
        simp only [if_true]
        clear hlo
        go_wp2_with fail
        refine (put_any ad cap xs _ (Kd.C_below HK.out hbw) h200 hsm).mono ?_
        rintro e w4 ⟨rfl, hb4⟩
        have hbw := below_step hbw hb4
        rw [hlo2.out]
        simp only [if_true, Bool.not_true]
        clear hb4
        go_wp2
        go_ret
        exact ⟨rfl, hbw⟩
end Go.Proofs.Ytliacfjdenfldaa
