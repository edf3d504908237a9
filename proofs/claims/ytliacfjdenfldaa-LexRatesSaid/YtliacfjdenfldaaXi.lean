/- LexRates: plain laws of rates, and the chapter's example. -/
import Derived.Test.YtliacfjdenfldaaXh
namespace Go.Proofs.Ytliacfjdenfldaa
open Go.RowKit Go.Proofs.Kq
set_option linter.unusedSimpArgs false
set_option linter.unusedVariables false
theorem nd_app (D R : List Int) (hD : ∀ z ∈ D, isDig z = true) (hR : ∀ h : 0 < R.length, isDig R[0] = false) : nd (D ++ R) = D.length := by
  unfold nd
  rw [List.takeWhile_append_of_pos hD]
  cases R with
  | nil => simp
  | cons c R => rw [List.takeWhile_cons, if_neg (by have := hR (by simp); simp at this; simp [this])]; simp
theorem figs_app (D R : List Int) (hD : ∀ z ∈ D, isDig z = true) (h16 : D.length ≤ 16) (hR : ∀ h : 0 < R.length, isDig R[0] = false) : figs (D ++ R) = (D.length, dval D) := by
  unfold figs
  rw [nd_app D R hD hR, if_pos h16]
  simp
theorem numb_rate (D F : List Int) (hD : ∀ z ∈ D, isDig z = true) (h16 : D.length ≤ 16) (hF : ∀ z ∈ F, isDig z = true) (hl : F.length = 1 ∨ F.length = 2) :
    numb (D ++ 46 :: (F ++ [37])) = if 1000000 < dval D then none else some (⟨2, strOfNums (D ++ 46 :: (F ++ [37])), 100 * dval D + (if F.length = 1 then 10 * dval F else dval F), 0⟩, D.length + F.length + 2) := by
  have h1 := figs_app D (46 :: (F ++ [37])) hD h16 (fun _ => rfl)
  have h2 := figs_app F [37] hF (by omega) (fun _ => rfl)
  have hp : point (46 :: (F ++ [37])) = (F.length + 1, dval F) := by
    unfold point
    rw [if_pos]
    · simp [h2]
    · refine ⟨by simp, rfl, ?_⟩
      cases F with
      | nil => simp at hl
      | cons c F => exact hF c (by simp)
  have h0 := (dval_bd D hD).1
  unfold numb
  simp only [h1, List.drop_left, hp]
  rw [if_neg (by omega), if_neg]
  · by_cases hov : 1000000 < dval D
    · rw [if_pos hov, if_pos hov]
    · rw [if_neg hov, if_neg hov]
      have ht : (D ++ 46 :: (F ++ [37])).take (D.length + (F.length + 1) + 1) = D ++ 46 :: (F ++ [37]) := List.take_of_length_le (by simp; omega)
      rw [ht]
      have e : D.length + (F.length + 1) + 1 = D.length + F.length + 2 := by omega
      rw [e]
      rcases hl with h | h <;> simp [h]
  · have hlen : (D ++ 46 :: (F ++ [37])).length = D.length + F.length + 2 := by simp; omega
    have hg : (D ++ 46 :: (F ++ [37])).getD (D.length + (F.length + 1)) 0 = 37 := by
      rw [List.getD_eq_getElem?_getD, List.getElem?_append_right (by omega)]
      have : D.length + (F.length + 1) - D.length = F.length + 1 := by omega
      rw [this, List.getElem?_cons_succ, List.getElem?_append_right (by omega)]
      simp
    rw [hlen, hg]
    omega
theorem toks_rate (D F : List Int) (hD : ∀ z ∈ D, isDig z = true) (h0 : 0 < D.length) (h16 : D.length ≤ 16) (hF : ∀ z ∈ F, isDig z = true) (hl : F.length = 1 ∨ F.length = 2) :
    toks (D ++ 46 :: (F ++ [37])) 0 [] = if 1000000 < dval D then .inr (0, 2) else .inl [⟨2, strOfNums (D ++ 46 :: (F ++ [37])), 100 * dval D + (if F.length = 1 then 10 * dval F else dval F), 0⟩] := by
  have hn := numb_rate D F hD h16 hF hl
  have hst : tokStep (D ++ 46 :: (F ++ [37])) 0 = match numb (D ++ 46 :: (F ++ [37])) with
      | none => .bad 2
      | some (t, n) => if n = 0 then .bad 2 else .go (some ⟨t.f0, t.f1, t.f2, (0 : Nat)⟩) (0 + n) := by
    obtain ⟨c, D', rfl⟩ : ∃ c D', D = c :: D' := by cases D with | nil => simp at h0 | cons c D' => exact ⟨c, D', rfl⟩
    have hc := hD c (by simp)
    have hc' := hc
    simp [isDig] at hc'
    unfold tokStep
    simp only [List.cons_append, List.getD_cons_zero, List.drop_zero]
    rw [if_neg (by omega), if_neg (by omega), if_neg (by simp [isLet]; omega), if_pos hc]
    rfl
  have hlen : (D ++ 46 :: (F ++ [37])).length = D.length + F.length + 2 := by simp; omega
  rw [hn] at hst
  by_cases hov : 1000000 < dval D
  · rw [if_pos hov] at hst ⊢
    exact toks_bad _ _ _ _ (by omega) hst
  · rw [if_neg hov] at hst ⊢
    simp only [] at hst
    rw [if_neg (by omega)] at hst
    rw [toks_go _ _ _ _ _ (by omega) (by omega) hst, toks_end _ _ _ (by omega)]
    rfl
theorem dg_isDig (n : Nat) : ∀ z ∈ dg n, isDig z = true := fun z hz => by have := dg_dig n z hz; simp [isDig]; omega
theorem dg_pos (n : Nat) : 0 < (dg n).length := by rw [dg]; split <;> simp
theorem dg_one (n : Nat) (h : n < 10) : dg n = [48 + (n : Int)] := by rw [dg, if_pos h]
/-- two figures -/
theorem toks_two (M : Nat) (h : M < 100000000) : toks (dg (M / 100) ++ 46 :: ((dg (M / 10 % 10) ++ dg (M % 10)) ++ [37])) 0 [] = .inl [⟨2, strOfNums (dg (M / 100) ++ 46 :: ((dg (M / 10 % 10) ++ dg (M % 10)) ++ [37])), M, 0⟩] := by
  have h1 := dg_one (M / 10 % 10) (by omega)
  have h2 := dg_one (M % 10) (by omega)
  have hl : (dg (M / 10 % 10) ++ dg (M % 10)).length = 2 := by rw [h1, h2]; rfl
  rw [toks_rate _ _ (dg_isDig _) (dg_pos _) (by have := dg_len9 6 (M / 100) (by omega); omega) (by intro z hz; rcases List.mem_append.1 hz with h | h <;> exact dg_isDig _ z h) (.inr hl), dval_dg, if_neg (by omega), hl]
  have hv : dval (dg (M / 10 % 10) ++ dg (M % 10)) = (M / 10 % 10 : Nat) * 10 + (M % 10 : Nat) := by
    rw [h1, h2, dval_snoc]; simp [dval]; omega
  rw [hv]
  simp
  omega
/-- one figure -/
theorem toks_one (M : Nat) (h : M < 100000000) : toks (dg (M / 10) ++ 46 :: (dg (M % 10) ++ [37])) 0 [] = if 1000000 < M / 10 then .inr (0, 2) else .inl [⟨2, strOfNums (dg (M / 10) ++ 46 :: (dg (M % 10) ++ [37])), 10 * M, 0⟩] := by
  have h2 := dg_one (M % 10) (by omega)
  have hl : (dg (M % 10)).length = 1 := by rw [h2]; rfl
  rw [toks_rate _ _ (dg_isDig _) (dg_pos _) (by have := dg_len9 7 (M / 10) (by omega); omega) (dg_isDig _) (.inl hl), dval_dg, dval_dg, hl]
  by_cases hov : 1000000 < M / 10
  · rw [if_pos (by omega), if_pos hov]
  · rw [if_neg (by omega), if_neg hov]
    simp
    omega
/-- the chapter's example -/
theorem toks_lives : toks [116, 105, 101, 114, 32, 48, 32, 50, 46, 57, 37, 59] 0 [] = .inl [⟨0, strOfNums [116, 105, 101, 114], 0, 0⟩, ⟨1, strOfNums [48], 0, 5⟩, ⟨2, strOfNums [50, 46, 57, 37], 290, 7⟩, ⟨3, ⟨#[59]⟩, 0, 11⟩] := by
  rw [toks_go _ 0 _ (some ⟨0, strOfNums [116, 105, 101, 114], 0, (0 : Nat)⟩) 4 (by decide) (by decide) (by rfl)]
  rw [toks_go _ 4 _ none 5 (by decide) (by decide) (by rfl)]
  rw [toks_go _ 5 _ (some ⟨1, strOfNums [48], 0, (5 : Nat)⟩) 6 (by decide) (by decide) (by rfl)]
  rw [toks_go _ 6 _ none 7 (by decide) (by decide) (by rfl)]
  rw [toks_go _ 7 _ (some ⟨2, strOfNums [50, 46, 57, 37], 290, (7 : Nat)⟩) 11 (by decide) (by decide) (by rfl)]
  rw [toks_go _ 11 _ (some ⟨3, ⟨#[59]⟩, 0, (11 : Nat)⟩) 12 (by decide) (by decide) (by rfl)]
  rw [toks_end _ _ _ (by decide)]
  rfl
theorem own59 {w : World} {base : Nat} {v : Value} {xs : List A59} (h : Own A59.l 4 59 w base v xs) (hx : 0 < xs.length) : ∃ b off c, v = .slice (some ⟨b, off, none⟩) xs.length c ∧ xs.length ≤ c ∧ c ≤ 9223372036854775807 ∧
    ∀ (i : Nat) (hi : i < xs.length) (j : Nat) (u : Value), (A59.l xs[i])[j]? = some u → w.cell? ⟨b, off + i * 4 + j, none⟩ = some u := by
  rcases h.2 with ⟨rfl, h0⟩ | ⟨g, cap, cur, rfl, hg, hh, hn, hm, hcs, hcur⟩
  · omega
  · refine ⟨g, 0, cap, rfl, hn, hm, fun i hi j u hu => ?_⟩
    have hc : ∀ o, w.cell? ⟨g, o, none⟩ = cur[o]? := fun o => by simp [World.cell?, hh]
    have := Kp.flat_get (l := A59.l) (sz := 4) (fun _ => rfl) hu xs i (List.getElem?_eq_getElem hi)
    rw [← hcur, List.getElem?_take] at this
    rw [hc]
    split at this
    · rw [Nat.zero_add, ← Array.getElem?_toList]; exact this
    · cases this
end Go.Proofs.Ytliacfjdenfldaa
