import Derived.Test.YtliacfjdenfldaaSouC
namespace Go.Proofs.Ytliacfjdenfldaa
open Go.RowKit Go.Proofs.Sm Go.Proofs.YtliacfjdenfldaaW.PrintWords
set_option linter.unusedSimpArgs false
set_option linter.unusedVariables false

/-! the plain law -/
def rl : Nat → List Int → List A48
  | _, [] => []
  | i, n :: ns => ⟨wTier, ⟨#[]⟩, n, i⟩ :: rl (i + 1) ns
theorem rl_length : ∀ (i : Nat) (l : List Int), (rl i l).length = l.length
  | _, [] => rfl
  | i, n :: ns => by simp [rl, rl_length (i + 1) ns]
theorem rl_snoc : ∀ (i : Nat) (l : List Int) (y : Int), rl i (l ++ [y]) = rl i l ++ [⟨wTier, ⟨#[]⟩, y, (i + l.length : Nat)⟩]
  | i, [], y => by simp [rl]
  | i, n :: ns, y => by
    simp only [List.cons_append, rl, rl_snoc (i + 1) ns y, List.length_cons]
    rw [show i + 1 + ns.length = i + (ns.length + 1) from by omega]
theorem rl_tier : ∀ (i : Nat) (l : List Int), i + l.length ≤ 10000 → ∀ x ∈ rl i l, TierRule x
  | _, [], _ => by simp [rl]
  | i, n :: ns, h => by
    intro x hx
    simp only [rl, List.mem_cons] at hx
    simp only [List.length_cons] at h
    rcases hx with rfl | hx
    · exact ⟨rfl, by show (0 : Nat) ≤ _; omega, by show (0 : Int) ≤ (i : Int); omega, by show (i : Int) ≤ 10000; omega⟩
    · exact rl_tier (i + 1) ns (by omega) x hx

/-- whether tiers are sound, behind one of t -/
def rise : Int → List Int → Bool
  | t, [] => !decide (t < 0)
  | t, n :: ns => decide (0 ≤ n) && decide (n ≤ 1125899906842624) && (if t < 0 then n == 0 else decide (t < n)) && rise n ns
theorem chkT_rise : ∀ (l : List Int) (t : Int) (i j : Nat), j + l.length ≤ 10000 → ((chkT t i (rl j l)).2 == 0) = rise t l
  | [], t, i, j, _ => by
    by_cases h : t < 0 <;> simp [rl, chkT, rise, h]
  | n :: ns, t, i, j, h => by
    simp only [List.length_cons] at h
    have ih := chkT_rise ns n (i + 1) (j + 1) (by omega)
    simp only [rl, chkT, rise]
    by_cases h0 : n < 0 ∨ 1125899906842624 < n
    · have e : tierC t n (j : Int) = 2 := by unfold tierC; exact if_pos (by omega)
      rw [e]
      have : (decide (0 ≤ n) && decide (n ≤ 1125899906842624)) = false := by
        simp; intro _; omega
      simp [this]
    · have e : tierC t n (j : Int) = if (t < 0 ∧ n ≠ 0) ∨ (0 ≤ t ∧ n ≤ t) then 12 else 0 := by unfold tierC; exact if_neg (by omega)
      have d1 : decide (0 ≤ n) = true := by simp; omega
      have d2 : decide (n ≤ 1125899906842624) = true := by simp; omega
      rw [d1, d2]
      by_cases ht : t < 0
      · by_cases hn : n = 0
        · have e' : tierC t n (j : Int) = 0 := by rw [e]; exact if_neg (by omega)
          rw [e', if_pos rfl, if_pos ht, ih]; simp [hn]
        · have e' : tierC t n (j : Int) = 12 := by rw [e]; exact if_pos (Or.inl ⟨ht, hn⟩)
          rw [e', if_pos ht]; simp [hn]
      · by_cases hn : n ≤ t
        · have e' : tierC t n (j : Int) = 12 := by rw [e]; exact if_pos (Or.inr ⟨by omega, hn⟩)
          rw [e', if_neg ht]; simp; omega
        · have e' : tierC t n (j : Int) = 0 := by rw [e]; exact if_neg (by omega)
          rw [e', if_pos rfl, if_neg ht, ih]
          have : decide (t < n) = true := by simp; omega
          simp [this]

/-- what the law holds beside it, round by round -/
def okK (zs : List Int) : Nat → Bool
  | 0 => decide (0 < zs.length) && (zs.getD 0 0 == 0)
  | k + 1 => okK zs k && (decide (k = 0) || decide (zs.getD (k - 1) 0 < zs.getD k 0)) && decide (zs.getD k 0 ≤ 1125899906842624)
theorem okK_mono (zs : List Int) : ∀ d k, okK zs k = false → okK zs (k + d) = false
  | 0, _, h => h
  | d + 1, k, h => by
    have := okK_mono zs d k h
    rw [← Nat.add_assoc]
    simp [okK, this]
theorem okK_low (zs : List Int) : ∀ k, 0 < k → okK zs k = true → 0 ≤ zs.getD (k - 1) 0
  | 0, h, _ => absurd h (by omega)
  | 1, _, h => by
    simp only [okK, Bool.and_eq_true, beq_iff_eq] at h
    rw [h.1.1.2]; exact Int.le_refl 0
  | k + 2, _, h => by
    have h' := h
    rw [okK] at h'
    simp only [Bool.and_eq_true, Bool.or_eq_true, decide_eq_true_eq] at h'
    have := okK_low zs (k + 1) (by omega) h'.1.1
    simp only [Nat.add_sub_cancel] at this
    rcases h'.1.2 with h1 | h1
    · omega
    · simp only [Nat.add_sub_cancel] at h1
      show 0 ≤ zs.getD (k + 1) 0
      omega
theorem okK_rise (zs : List Int) : ∀ d k, k + d = zs.length → okK zs k = true → okK zs zs.length = rise (if k = 0 then -1 else zs.getD (k - 1) 0) (zs.drop k)
  | 0, k, hk, h => by
    obtain rfl : k = zs.length := by omega
    rw [h, List.drop_length]
    have h0 : 0 < zs.length := by
      rcases Nat.eq_zero_or_pos zs.length with e | e
      · rw [e] at h; simp [okK, e] at h
      · exact e
    have := okK_low zs zs.length h0 h
    rw [if_neg (by omega), rise]
    have : decide (zs.getD (zs.length - 1) 0 < 0) = false := decide_eq_false (by omega)
    rw [this]; rfl
  | d + 1, k, hk, h => by
    have hlt : k < zs.length := by omega
    have hg : zs.getD k 0 = zs[k] := by simp [List.getD_eq_getElem?_getD, hlt]
    rw [List.drop_eq_getElem_cons hlt, rise]
    by_cases h1 : okK zs (k + 1) = true
    · have ih := okK_rise zs d (k + 1) (by omega) h1
      rw [ih, if_neg (by omega), Nat.add_sub_cancel, hg]
      have hlow := okK_low zs (k + 1) (by omega) h1
      rw [Nat.add_sub_cancel, hg] at hlow
      have h1' := h1
      rw [okK] at h1'
      simp only [Bool.and_eq_true, Bool.or_eq_true, decide_eq_true_eq, hg] at h1'
      have a1 : decide (0 ≤ zs[k]) = true := by simpa using hlow
      have a2 : decide (zs[k] ≤ 1125899906842624) = true := by simpa using h1'.2
      have a3 : (if (if k = 0 then (-1 : Int) else zs.getD (k - 1) 0) < 0 then zs[k] == 0 else decide ((if k = 0 then (-1 : Int) else zs.getD (k - 1) 0) < zs[k])) = true := by
        by_cases hk0 : k = 0
        · subst hk0
          simp only [okK, Bool.and_eq_true, beq_iff_eq] at h
          rw [if_pos rfl, if_pos (by omega), ← hg, h.2]; rfl
        · rw [if_neg hk0]
          have hl := okK_low zs k (by omega) h
          rw [if_neg (by omega)]
          rcases h1'.1.2 with e | e
          · omega
          · simpa using e
      rw [a1, a2, a3]; simp
    · have h1' : okK zs (k + 1) = false := by simpa using h1
      have e : zs.length = k + 1 + d := by omega
      rw [e, okK_mono zs d (k + 1) h1']
      symm
      rw [okK, h, hg] at h1'
      simp only [Bool.true_and, Bool.and_eq_false_iff, Bool.or_eq_false_iff, decide_eq_false_iff_not] at h1'
      rcases h1' with ⟨h2, h3⟩ | h2
      · rw [if_neg h2]
        have hl := okK_low zs k (by omega) h
        rw [if_neg (by omega)]
        have : decide (zs.getD (k - 1) 0 < zs[k]) = false := decide_eq_false h3
        rw [this]; simp
      · have : decide (zs[k] ≤ 1125899906842624) = false := by simpa using h2
        simp [this]
theorem law_tiers (zs : List Int) (h : zs.length ≤ 10000) : ((chkT (-1) 0 (rl 0 zs)).2 == 0) = okK zs zs.length := by
  rw [chkT_rise zs (-1) 0 0 (by omega)]
  by_cases h0 : okK zs 0 = true
  · have := okK_rise zs zs.length 0 (by omega) h0
    simpa using this.symm
  · have h0' : okK zs 0 = false := by simpa using h0
    have := okK_mono zs zs.length 0 h0'
    rw [Nat.zero_add] at this
    rw [this]
    cases zs with
    | nil => rfl
    | cons n ns =>
      simp [okK] at h0'
      simp only [rise]
      rw [if_pos (by omega)]
      simp [h0']

end Go.Proofs.Ytliacfjdenfldaa
