/- lex: a number without a part behind a point; number whole. -/
import Derived.Test.YtliacfjdenfldaaXf
namespace Go.Proofs.Ytliacfjdenfldaa
open Go.RowKit Go.Proofs.Kq
set_option linter.unusedSimpArgs false
set_option linter.unusedVariables false
set_option maxHeartbeats 1000000 in
theorem number_p1 (s : ByteArray) (w : World) (hs : s.size ≤ 140737488351232) (i : Nat) (n : Int) (hi : i ≤ 16) (hn : 0 ≤ n) (hn2 : n < 10000000000000000) (hil : i ≤ s.size)
    (hf : Hid (figs (bn s) = (i, n))) (hpt : Hid (point ((bn s).drop i) = (0, 0))) (h1 : s.size ≤ i + 1) :
    Calls Try.prog 81 #[.string s] w (NumP (bn s) w) := by
  have hfin1 : Hid ((s.size = i + 0 ∨ (∀ h : i + 0 < s.size, ¬ ((s[i + 0].toNat : Int) = 37)) ∨ 3 < 0) → ∀ w', Below w.heap.size w w' → NumP (bn s) w (.returned (.tuple #[.agg #[.int .i64 1, .string (s.extract 0 i), .int .i64 n, .int .i64 0], .int .i64 i])) w') := fun h w' hb => num1 hf hpt hn hb h
  have hfin3 : Hid (∀ hik : i < s.size, (s[i].toNat : Int) = 37 → n ≤ 1000000 → ∀ w', Below w.heap.size w w' → NumP (bn s) w (.returned (.tuple #[.agg #[.int .i64 2, .string (s.extract 0 (i + 1)), .int .i64 (100 * n), .int .i64 0], .int .i64 (i + 1)])) w') := fun hik h37 h4 w' hb => by
    have := num3 hf hpt hn hb hik h37 (by omega) h4 (p' := 0) (by simp) (j := (i : Int) + 1) (by omega) (m := i + 1) rfl
    simpa using this
  by_cases e1 : i = s.size
  · have e1b : ((i : Int) == (s.size : Int)) = true := by simp [e1]
    have e1c : Hid (i = s.size) := e1
    have e1d : ¬ ((i : Int) + 1 < (s.size : Int)) := by omega
    clear e1
    go_enter Try.func81, Try.ntmps81
    go_wp2_with fail
    refine (figs_any s _ hs).mono ?_
    rintro e1 w1 ⟨rfl, rfl⟩
    rw [hf.out]
    simp only []
    go_wp2
    exact bodyPost_ret (v := .tuple #[.agg #[.int .i64 1, .string (s.extract 0 i), .int .i64 n, .int .i64 0], .int .i64 i]) (by simp [results, Try.results81, go_sem]) rfl (hfin1.out (.inl (by rw [e1c.out]; rfl)) _ (below_new (Below.refl _ _) _))
  have e0 : i < s.size := by omega
  have e1b : ((i : Int) == (s.size : Int)) = false := beq_eq_false_iff_ne.2 (by omega)
  have e1d : ¬ ((i : Int) + 1 < (s.size : Int)) := by omega
  by_cases e2 : (s[i].toNat : Int) = 37
  · have e2' := hidI e2
    by_cases e4 : 1000000 < n
    · go_enter Try.func81, Try.ntmps81
      go_wp2_with fail
      refine (figs_any s _ hs).mono ?_
      rintro e1 w1 ⟨rfl, rfl⟩
      rw [hf.out]
      simp only []
      go_wp2
      exact bodyPost_ret (v := .tuple #[.agg #[.int .i64 0, .string ⟨#[]⟩, .int .i64 0, .int .i64 0], .int .i64 0]) (by simp [results, Try.results81, go_sem]) rfl (num2 hf hpt hn (below_new (Below.refl _ _) _) (by omega) e2'.out (by omega) e4)
    · have e4' : n ≤ 1000000 := by omega
      go_enter Try.func81, Try.ntmps81
      go_wp2_with fail
      refine (figs_any s _ hs).mono ?_
      rintro e1 w1 ⟨rfl, rfl⟩
      rw [hf.out]
      simp only []
      go_wp2
      exact bodyPost_ret (v := .tuple #[.agg #[.int .i64 2, .string (s.extract 0 (i + 1)), .int .i64 (100 * n), .int .i64 0], .int .i64 (i + 1)]) (by simp [results, Try.results81, go_sem]) rfl (hfin3.out (by omega) e2'.out e4' _ (below_new (Below.refl _ _) _))
  · go_enter Try.func81, Try.ntmps81
    go_wp2_with fail
    refine (figs_any s _ hs).mono ?_
    rintro e1 w1 ⟨rfl, rfl⟩
    rw [hf.out]
    simp only []
    go_wp2
    exact bodyPost_ret (v := .tuple #[.agg #[.int .i64 1, .string (s.extract 0 i), .int .i64 n, .int .i64 0], .int .i64 i]) (by simp [results, Try.results81, go_sem]) rfl (hfin1.out (.inr (.inl (fun _ => e2))) _ (below_new (Below.refl _ _) _))
set_option maxHeartbeats 1000000 in
theorem number_p2 (s : ByteArray) (w : World) (hs : s.size ≤ 140737488351232) (i : Nat) (n : Int) (hi : i ≤ 16) (hn : 0 ≤ n) (hn2 : n < 10000000000000000) (hil : i ≤ s.size)
    (hf : Hid (figs (bn s) = (i, n))) (hpt : Hid (point ((bn s).drop i) = (0, 0))) (h1 : i + 1 < s.size) (h46 : ¬ ((s[i].toNat : Int) = 46)) :
    Calls Try.prog 81 #[.string s] w (NumP (bn s) w) := by
  have hfin1 : Hid ((s.size = i + 0 ∨ (∀ h : i + 0 < s.size, ¬ ((s[i + 0].toNat : Int) = 37)) ∨ 3 < 0) → ∀ w', Below w.heap.size w w' → NumP (bn s) w (.returned (.tuple #[.agg #[.int .i64 1, .string (s.extract 0 i), .int .i64 n, .int .i64 0], .int .i64 i])) w') := fun h w' hb => num1 hf hpt hn hb h
  have hfin3 : Hid (∀ hik : i < s.size, (s[i].toNat : Int) = 37 → n ≤ 1000000 → ∀ w', Below w.heap.size w w' → NumP (bn s) w (.returned (.tuple #[.agg #[.int .i64 2, .string (s.extract 0 (i + 1)), .int .i64 (100 * n), .int .i64 0], .int .i64 (i + 1)])) w') := fun hik h37 h4 w' hb => by
    have := num3 hf hpt hn hb hik h37 (by omega) h4 (p' := 0) (by simp) (j := (i : Int) + 1) (by omega) (m := i + 1) rfl
    simpa using this
  have e0 : i < s.size := by omega
  have e1b : ((i : Int) == (s.size : Int)) = false := beq_eq_false_iff_ne.2 (by omega)
  have e1d : (i : Int) + 1 < (s.size : Int) := by omega
  by_cases e2 : (s[i].toNat : Int) = 37
  · have e2' := hidI e2
    by_cases e4 : 1000000 < n
    · go_enter Try.func81, Try.ntmps81
      go_wp2_with fail
      refine (figs_any s _ hs).mono ?_
      rintro e1 w1 ⟨rfl, rfl⟩
      rw [hf.out]
      simp only []
      go_wp2
      exact bodyPost_ret (v := .tuple #[.agg #[.int .i64 0, .string ⟨#[]⟩, .int .i64 0, .int .i64 0], .int .i64 0]) (by simp [results, Try.results81, go_sem]) rfl (num2 hf hpt hn (below_new (Below.refl _ _) _) (by omega) e2'.out (by omega) e4)
    · have e4' : n ≤ 1000000 := by omega
      go_enter Try.func81, Try.ntmps81
      go_wp2_with fail
      refine (figs_any s _ hs).mono ?_
      rintro e1 w1 ⟨rfl, rfl⟩
      rw [hf.out]
      simp only []
      go_wp2
      exact bodyPost_ret (v := .tuple #[.agg #[.int .i64 2, .string (s.extract 0 (i + 1)), .int .i64 (100 * n), .int .i64 0], .int .i64 (i + 1)]) (by simp [results, Try.results81, go_sem]) rfl (hfin3.out (by omega) e2'.out e4' _ (below_new (Below.refl _ _) _))
  · go_enter Try.func81, Try.ntmps81
    go_wp2_with fail
    refine (figs_any s _ hs).mono ?_
    rintro e1 w1 ⟨rfl, rfl⟩
    rw [hf.out]
    simp only []
    go_wp2
    exact bodyPost_ret (v := .tuple #[.agg #[.int .i64 1, .string (s.extract 0 i), .int .i64 n, .int .i64 0], .int .i64 i]) (by simp [results, Try.results81, go_sem]) rfl (hfin1.out (.inr (.inl (fun _ => e2))) _ (below_new (Below.refl _ _) _))
set_option maxHeartbeats 1000000 in
theorem number_p3 (s : ByteArray) (w : World) (hs : s.size ≤ 140737488351232) (i : Nat) (n : Int) (hi : i ≤ 16) (hn : 0 ≤ n) (hn2 : n < 10000000000000000) (hil : i ≤ s.size)
    (hf : Hid (figs (bn s) = (i, n))) (hpt : Hid (point ((bn s).drop i) = (0, 0))) (h1 : i + 1 < s.size) (h46 : (s[i].toNat : Int) = 46) (hdg : Hid (isDig (s[i + 1].toNat : Int) = false)) :
    Calls Try.prog 81 #[.string s] w (NumP (bn s) w) := by
  have hfin1 : Hid ((s.size = i + 0 ∨ (∀ h : i + 0 < s.size, ¬ ((s[i + 0].toNat : Int) = 37)) ∨ 3 < 0) → ∀ w', Below w.heap.size w w' → NumP (bn s) w (.returned (.tuple #[.agg #[.int .i64 1, .string (s.extract 0 i), .int .i64 n, .int .i64 0], .int .i64 i])) w') := fun h w' hb => num1 hf hpt hn hb h
  have hfin3 : Hid (∀ hik : i < s.size, (s[i].toNat : Int) = 37 → n ≤ 1000000 → ∀ w', Below w.heap.size w w' → NumP (bn s) w (.returned (.tuple #[.agg #[.int .i64 2, .string (s.extract 0 (i + 1)), .int .i64 (100 * n), .int .i64 0], .int .i64 (i + 1)])) w') := fun hik h37 h4 w' hb => by
    have := num3 hf hpt hn hb hik h37 (by omega) h4 (p' := 0) (by simp) (j := (i : Int) + 1) (by omega) (m := i + 1) rfl
    simpa using this
  have hb := s[i + 1].toNat_lt
  have e0 : i < s.size := by omega
  have e1b : ((i : Int) == (s.size : Int)) = false := beq_eq_false_iff_ne.2 (by omega)
  have e1d : (i : Int) + 1 < (s.size : Int) := by omega
  go_enter Try.func81, Try.ntmps81
  go_wp2_with fail
  refine (figs_any s _ hs).mono ?_
  rintro e1 w1 ⟨rfl, rfl⟩
  rw [hf.out]
  simp only []
  go_wp2_with fail
  refine (digit_any _ _).mono ?_
  rintro e1 w1 ⟨rfl, rfl⟩
  rw [hdg.out]
  simp only []
  go_wp2
  exact bodyPost_ret (v := .tuple #[.agg #[.int .i64 1, .string (s.extract 0 i), .int .i64 n, .int .i64 0], .int .i64 i]) (by simp [results, Try.results81, go_sem]) rfl (hfin1.out (.inr (.inl (fun _ => by simp [h46]))) _ (below_new (Below.refl _ _) _))
theorem lexnum_any (s : ByteArray) (w : World) (hs : s.size ≤ 140737488351232) : Calls Try.prog 81 #[.string s] w (NumP (bn s) w) := by
  by_cases h0 : (figs (bn s)).2 < 0
  · exact number_over s w hs h0
  · have h1 := figs_le (bn s)
    have h2 := figs_bd (bn s)
    rw [bn_len] at h1
    obtain ⟨⟨i, n⟩, hf⟩ : ∃ fg, figs (bn s) = fg := ⟨_, rfl⟩
    rw [hf] at h0 h1 h2
    simp only [] at h0 h1 h2
    by_cases e1 : i + 1 < s.size
    · by_cases e2 : (s[i].toNat : Int) = 46
      · by_cases e3 : isDig (s[i + 1].toNat : Int) = true
        · exact number_pt s w hs i n h1.1 (by omega) h2.2 e1 hf e2 e3
        · exact number_p3 s w hs i n h1.1 (by omega) h2.2 h1.2 hf (point_no s i (fun _ _ => eq_false_of_ne_true e3)) e1 e2 (eq_false_of_ne_true e3)
      · exact number_p2 s w hs i n h1.1 (by omega) h2.2 h1.2 hf (point_no s i (fun _ h => absurd h e2)) e1 e2
    · exact number_p1 s w hs i n h1.1 (by omega) h2.2 h1.2 hf (point_no s i (fun h _ => absurd h e1)) (by omega)
end Go.Proofs.Ytliacfjdenfldaa
