/- lex: a number, or a rate (number). -/
import Derived.Test.YtliacfjdenfldaaXe
namespace Go.Proofs.Ytliacfjdenfldaa
open Go.RowKit Go.Proofs.Kq
set_option linter.unusedSimpArgs false
set_option linter.unusedVariables false
set_option linter.unusedSectionVars false
structure A59 where
  f0 : Int
  f1 : ByteArray
  f2 : Int
  f3 : Int
def A59.l (a : A59) : List Value := [.int .i64 a.f0, .string a.f1, .int .i64 a.f2, .int .i64 a.f3]
/-- how many bytes behind the figures are a part behind a point, and that part -/
def point (l : List Int) : Nat × Int :=
  if 1 < l.length ∧ l.getD 0 0 = 46 ∧ isDig (l.getD 1 0) = true then ((figs (l.drop 1)).1 + 1, (figs (l.drop 1)).2) else (0, 0)
def numb (l : List Int) : Option (A59 × Nat) :=
  let i := (figs l).1
  let n := (figs l).2
  if n < 0 then none
  else
    let k := (point (l.drop i)).1
    let part := (point (l.drop i)).2
    if l.length = i + k ∨ ¬ (l.getD (i + k) 0 = 37) ∨ 3 < k then some (⟨1, strOfNums (l.take i), n, 0⟩, i)
    else if 1000000 < n then none
    else some (⟨2, strOfNums (l.take (i + k + 1)), 100 * n + (if k = 2 then 10 * part else part), 0⟩, i + k + 1)
def NumP (l : List Int) (w : World) (e : Ending) (w' : World) : Prop := Below w.heap.size w w' ∧
  e = match numb l with
    | none => .returned (.tuple #[.agg #[.int .i64 0, .string ⟨#[]⟩, .int .i64 0, .int .i64 0], .int .i64 0])
    | some (t, n) => .returned (.tuple #[.agg #[.int .i64 t.f0, .string t.f1, .int .i64 t.f2, .int .i64 t.f3], .int .i64 n])
theorem ext_take (s : ByteArray) (n : Nat) : s.extract 0 n = strOfNums ((bn s).take n) := by
  have := sn_take (bn s) n; rw [sn_bn] at this; exact this
theorem ext_drop (s : ByteArray) (n : Nat) : s.extract n s.size = strOfNums ((bn s).drop n) := by
  have := sn_drop (bn s) n; rw [sn_bn] at this; exact this
theorem bn_drop (s : ByteArray) (n : Nat) : bn (s.extract n s.size) = (bn s).drop n := by
  rw [ext_drop, bn_sn]; intro z hz; exact bn_mem s z (List.mem_of_mem_drop hz)
set_option maxHeartbeats 1000000 in
theorem number_over (s : ByteArray) (w : World) (hs : s.size ≤ 140737488351232) (h : (figs (bn s)).2 < 0) :
    Calls Try.prog 81 #[.string s] w (NumP (bn s) w) := by
  have hn : numb (bn s) = none := by unfold numb; simp only []; rw [if_pos h]
  have hfin : ∀ w', Below w.heap.size w w' → Hid (NumP (bn s) w (.returned (.tuple #[.agg #[.int .i64 0, .string ⟨#[]⟩, .int .i64 0, .int .i64 0], .int .i64 0])) w') := fun w' hb => ⟨hb, by rw [hn]⟩
  have hd : decide ((figs (bn s)).2 < 0) = true := by simpa using h
  clear hn
  go_enter Try.func81, Try.ntmps81
  go_wp2_with fail
  refine (figs_any s _ hs).mono ?_
  rintro e1 w1 ⟨rfl, rfl⟩
  generalize (figs (bn s)).2 = f at *
  go_wp2
  exact bodyPost_ret (v := .tuple #[.agg #[.int .i64 0, .string ⟨#[]⟩, .int .i64 0, .int .i64 0], .int .i64 0]) (by simp [results, Try.results81, go_sem]) rfl (hfin _ (below_new (Below.refl _ _) _)).out
theorem bn_getD (s : ByteArray) (k : Nat) (h : k < s.size) : (bn s).getD k 0 = (s[k].toNat : Int) := by
  rw [List.getD_eq_getElem?_getD, List.getElem?_eq_getElem (by rw [bn_len]; exact h), bn_at s k h]; rfl
theorem point_yes (s : ByteArray) (i : Nat) (hi1 : i + 1 < s.size) (h46 : (s[i].toNat : Int) = 46) (hdg : isDig (s[i + 1].toNat : Int) = true) :
    point ((bn s).drop i) = ((figs ((bn s).drop (i + 1))).1 + 1, (figs ((bn s).drop (i + 1))).2) := by
  have h0 : ((bn s).drop i).getD 0 0 = 46 := by
    rw [List.getD_eq_getElem?_getD, List.getElem?_drop]; have := bn_getD s i (by omega); rw [List.getD_eq_getElem?_getD] at this; simpa [h46] using this
  have h1 : ((bn s).drop i).getD 1 0 = (s[i + 1].toNat : Int) := by
    rw [List.getD_eq_getElem?_getD, List.getElem?_drop]; have := bn_getD s (i + 1) (by omega); rw [List.getD_eq_getElem?_getD] at this; simpa using this
  unfold point
  rw [if_pos ⟨by rw [List.length_drop, bn_len]; omega, h0, by rw [h1]; exact hdg⟩, List.drop_drop]
theorem point_no (s : ByteArray) (i : Nat) (h : ∀ h1 : i + 1 < s.size, (s[i].toNat : Int) = 46 → isDig (s[i + 1].toNat : Int) = false) :
    point ((bn s).drop i) = (0, 0) := by
  unfold point
  rw [if_neg]
  rintro ⟨h1, h2, h3⟩
  rw [List.length_drop, bn_len] at h1
  have h0 : ((bn s).drop i).getD 0 0 = (s[i].toNat : Int) := by
    rw [List.getD_eq_getElem?_getD, List.getElem?_drop]; have := bn_getD s i (by omega); rw [List.getD_eq_getElem?_getD] at this; simpa using this
  have h4 : ((bn s).drop i).getD 1 0 = (s[i + 1].toNat : Int) := by
    rw [List.getD_eq_getElem?_getD, List.getElem?_drop]; have := bn_getD s (i + 1) (by omega); rw [List.getD_eq_getElem?_getD] at this; simpa using this
  rw [h0] at h2
  rw [h4] at h3
  rw [h (by omega) h2] at h3
  cases h3
section
variable {s : ByteArray} {w w' : World} {i k : Nat} {n part : Int} (hf : Hid (figs (bn s) = (i, n))) (hp : Hid (point ((bn s).drop i) = (k, part))) (hn : 0 ≤ n) (hb : Below w.heap.size w w')
include hf hp hn hb
theorem num1 (h : s.size = i + k ∨ (∀ h : i + k < s.size, ¬ ((s[i + k].toNat : Int) = 37)) ∨ 3 < k) : NumP (bn s) w (.returned (.tuple #[.agg #[.int .i64 1, .string (s.extract 0 i), .int .i64 n, .int .i64 0], .int .i64 i])) w' := by
  refine ⟨hb, ?_⟩
  unfold numb
  simp only [hf.out, hp.out]
  rw [if_neg (by omega), if_pos]
  · simp only [ext_take]
  · rw [bn_len]
    by_cases h1 : i + k < s.size
    · rw [bn_getD s _ h1]
      rcases h with h | h | h
      · exact .inl h
      · exact .inr (.inl (h h1))
      · exact .inr (.inr h)
    · by_cases h2 : s.size = i + k
      · exact .inl h2
      · refine .inr (.inl ?_)
        rw [List.getD_eq_getElem?_getD, List.getElem?_eq_none (by rw [bn_len]; omega)]; decide
theorem num2 (hik : i + k < s.size) (h : (s[i + k].toNat : Int) = 37) (h3 : k ≤ 3) (hov : 1000000 < n) : NumP (bn s) w (.returned (.tuple #[.agg #[.int .i64 0, .string ⟨#[]⟩, .int .i64 0, .int .i64 0], .int .i64 0])) w' := by
  refine ⟨hb, ?_⟩
  unfold numb
  simp only [hf.out, hp.out]
  rw [if_neg (by omega), if_neg, if_pos hov]
  rw [bn_len, bn_getD s _ hik]
  rintro (h1 | h1 | h1)
  · omega
  · exact h1 h
  · omega
theorem num3 (hik : i + k < s.size) (h : (s[i + k].toNat : Int) = 37) (h3 : k ≤ 3) (hov : n ≤ 1000000) {p' : Int} (hp' : p' = if k = 2 then 10 * part else part) {j : Int} (hj : j = ((i + k + 1 : Nat) : Int)) {m : Nat} (hm : m = i + k + 1) :
    NumP (bn s) w (.returned (.tuple #[.agg #[.int .i64 2, .string (s.extract 0 m), .int .i64 (100 * n + p'), .int .i64 0], .int .i64 j])) w' := by
  subst hp' hj hm
  refine ⟨hb, ?_⟩
  unfold numb
  simp only [hf.out, hp.out]
  have hc : ¬ ((bn s).length = i + k ∨ ¬ ((bn s).getD (i + k) 0 = 37) ∨ 3 < k) := by
    rw [bn_len, bn_getD s _ hik]
    rintro (h1 | h1 | h1)
    · omega
    · exact h1 h
    · omega
  rw [if_neg (show ¬ n < 0 by omega), if_neg hc, if_neg (show ¬ 1000000 < n by omega)]
  simp only [ext_take]
end
set_option maxHeartbeats 1000000 in
theorem number_pt (s : ByteArray) (w : World) (hs : s.size ≤ 140737488351232) (i : Nat) (n : Int) (hi : i ≤ 16) (hn : 0 ≤ n) (hn2 : n < 10000000000000000) (hi1 : i + 1 < s.size)
    (hf : Hid (figs (bn s) = (i, n))) (h46 : (s[i].toNat : Int) = 46) (hdg : Hid (isDig (s[i + 1].toNat : Int) = true)) :
    Calls Try.prog 81 #[.string s] w (NumP (bn s) w) := by
  have hb := s[i + 1].toNat_lt
  have hpt : Hid (point ((bn s).drop i) = ((figs ((bn s).drop (i + 1))).1 + 1, (figs ((bn s).drop (i + 1))).2)) := point_yes s i hi1 h46 hdg.out
  go_enter Try.func81, Try.ntmps81
  go_wp2_with fail
  refine (figs_any s _ hs).mono ?_
  rintro e1 w1 ⟨rfl, rfl⟩
  rw [hf.out]
  simp only []
  go_wp2_with fail
  refine (digit_any _ _).mono ?_
  rintro e1 w1 ⟨rfl, rfl⟩
  rw [hdg.out]
  simp only []
  go_wp2_with fail
  refine (figs_any _ _ (by simp; omega)).mono ?_
  rintro e1 w1 ⟨rfl, rfl⟩
  have hq1 := figs_le (bn (s.extract (i + 1) s.size))
  have hq2 := figs_bd (bn (s.extract (i + 1) s.size))
  rw [bn_drop, List.length_drop, bn_len] at hq1
  rw [bn_drop] at hq2 ⊢
  generalize hfg : figs ((bn s).drop (i + 1)) = fg at *
  obtain ⟨q, part⟩ := fg
  simp only [] at hq1 hq2 hpt ⊢
  obtain ⟨hq1a, hq1b⟩ := hq1
  obtain ⟨hq2a, hq2b⟩ := hq2
  clear hfg
  have hfin1 : Hid ((s.size = i + (q + 1) ∨ (∀ h : i + (q + 1) < s.size, ¬ ((s[i + (q + 1)].toNat : Int) = 37)) ∨ 3 < q + 1) → ∀ w', Below w.heap.size w w' → NumP (bn s) w (.returned (.tuple #[.agg #[.int .i64 1, .string (s.extract 0 i), .int .i64 n, .int .i64 0], .int .i64 i])) w') := fun h w' hb => num1 hf hpt hn hb h
  by_cases e1 : (i : Int) + ((q : Int) + 1) = (s.size : Int)
  · go_wp2
    exact bodyPost_ret (v := .tuple #[.agg #[.int .i64 1, .string (s.extract 0 i), .int .i64 n, .int .i64 0], .int .i64 i]) (by simp [results, Try.results81, go_sem]) rfl (hfin1.out (.inl (by omega)) _ (below_new (Below.refl _ _) _))
  have hk1 : i + (q + 1) < s.size := by omega
  have e1b : ((i : Int) + ((q : Int) + 1) == (s.size : Int)) = false := beq_eq_false_iff_ne.2 e1
  by_cases e2 : (s[i + (q + 1)].toNat : Int) = 37
  · by_cases e3 : 3 < q + 1
    · have e3' : (3 : Int) < (q : Int) + 1 := by omega
      go_wp2
      exact bodyPost_ret (v := .tuple #[.agg #[.int .i64 1, .string (s.extract 0 i), .int .i64 n, .int .i64 0], .int .i64 i]) (by simp [results, Try.results81, go_sem]) rfl (hfin1.out (.inr (.inr e3)) _ (below_new (Below.refl _ _) _))
    · have e3' : (q : Int) + 1 ≤ 3 := by omega
      have e3b : decide (3 < (q : Int) + 1) = false := by simpa using e3'
      have e2' := hidI e2
      by_cases e4 : 1000000 < n
      · go_wp2
        exact bodyPost_ret (v := .tuple #[.agg #[.int .i64 0, .string ⟨#[]⟩, .int .i64 0, .int .i64 0], .int .i64 0]) (by simp [results, Try.results81, go_sem]) rfl (num2 hf hpt hn (below_new (Below.refl _ _) _) hk1 e2'.out (by omega) e4)
      · have e4' : n ≤ 1000000 := by omega
        by_cases e5 : q = 1
        · subst e5
          go_wp2
          exact bodyPost_ret (v := .tuple #[.agg #[.int .i64 2, .string (s.extract 0 (i + 3)), .int .i64 (100 * n + part * 10), .int .i64 0], .int .i64 (i + 2 + 1)]) (by simp [results, Try.results81, go_sem]) rfl (num3 hf hpt hn (below_new (Below.refl _ _) _) hk1 e2'.out (by omega) e4' (by simp [Int.mul_comm]) (by omega) (by omega))
        · have e5' : ¬ ((q : Int) + 1 = 2) := by omega
          go_wp2
          exact bodyPost_ret (v := .tuple #[.agg #[.int .i64 2, .string (s.extract 0 (i + (q + 1) + 1)), .int .i64 (100 * n + part), .int .i64 0], .int .i64 (i + (q + 1) + 1)]) (by simp [results, Try.results81, go_sem]) rfl (num3 hf hpt hn (below_new (Below.refl _ _) _) hk1 e2'.out (by omega) e4' (by rw [if_neg (by omega)]) (by omega) (by omega))
  · go_wp2
    exact bodyPost_ret (v := .tuple #[.agg #[.int .i64 1, .string (s.extract 0 i), .int .i64 n, .int .i64 0], .int .i64 i]) (by simp [results, Try.results81, go_sem]) rfl (hfin1.out (.inr (.inl (fun _ => e2))) _ (below_new (Below.refl _ _) _))
end Go.Proofs.Ytliacfjdenfldaa
