import Derived.Test.YtliacfjdenfldaaXb
namespace Go.Proofs.Ytliacfjdenfldaa
open Go.RowKit Go.Proofs.Kq
set_option linter.unusedSimpArgs false
set_option linter.unusedVariables false
def dval (l : List Int) : Int := l.foldl (fun n b => 10 * n + (b - 48)) 0
theorem dval_snoc (l : List Int) (b : Int) : dval (l ++ [b]) = 10 * dval l + (b - 48) := by simp [dval]
theorem pow10_le : ∀ (a b : Nat), a ≤ b → (10 : Int) ^ a ≤ 10 ^ b
  | a, 0, h => by have : a = 0 := by omega
                  subst this; exact Int.le_refl _
  | a, b + 1, h => by
    by_cases e : a = b + 1
    · subst e; exact Int.le_refl _
    · have h1 := pow10_le a b (by omega)
      have h2 : (0 : Int) ≤ 10 ^ b := Int.pow_nonneg (by decide)
      rw [Int.pow_succ]; omega
set_option maxHeartbeats 1000000 in
theorem figures_any (s : ByteArray) (p : Nat) (w : World) (hp : p ≤ s.size) (h9 : p ≤ 16) (hs : s.size ≤ 140737488351232)
    (hd : ∀ i (h : i < p), isDig ((s[i]'(by omega)).toNat : Int) = true) (he : ∀ h : p < s.size, isDig ((s[p]'h).toNat : Int) = false) :
    Calls Try.prog 98 #[.string s] w fun e w' => e = .returned (.tuple #[.int .i64 p, .int .i64 (dval ((bn s).take p))]) ∧ w = w' := by
  have HD := hidI hd
  have HE := hidI he
  clear hd he
  go_enter Try.func98, Try.ntmps98
  go_wp2
  go_loopw [4, 5] (fun n i wr => wr = w ∧ ∃ k : Nat, k ≤ p ∧ i = .int .i64 k ∧ ∃ v : Int, n = .int .i64 v ∧ 0 ≤ v ∧ Hid (v < 10 ^ k) ∧ Hid (v = dval ((bn s).take k))) (fun _ i _ => p - (intOf i).toNat)
  case atStart => exact ⟨rfl, 0, Nat.zero_le _, rfl, 0, rfl, by omega, hidI (by decide), hidI rfl⟩
  case round =>
    obtain ⟨rfl, k, hk, rfl, v, rfl, hv0, hv1, hv⟩ := hrel
    by_cases hlt : k < p
    · have hks : k < s.size := by omega
      have hb := s[k].toNat_lt
      have hdg : isDig (s[k].toNat : Int) = true := HD.out k hlt
      have hrng : 48 ≤ (s[k].toNat : Int) ∧ (s[k].toNat : Int) ≤ 57 := by simpa [isDig] using hdg
      have HDG := hidI hdg
      have h10 : (10 : Int) ^ k ≤ 10 ^ 15 := pow10_le k 15 (by omega)
      have hv2 := hv1.out
      have e1 : v ≤ 1000000000000000 := by
        have : (10 : Int) ^ 15 = 1000000000000000 := by decide
        omega
      have hne : ¬ ((k : Int) = 16) := by omega
      have hst : Hid (10 * v + ((s[k].toNat : Int) - 48) = dval ((bn s).take (k + 1))) := by
        show _ = _
        rw [List.take_succ_eq_append_getElem (by rw [bn_len]; exact hks), bn_at s k hks, dval_snoc, ← hv.out]
      have hst2 : Hid (10 * v + ((s[k].toNat : Int) - 48) < 10 ^ (k + 1)) := by
        show 10 * v + ((s[k].toNat : Int) - 48) < _
        rw [Int.pow_succ]
        generalize (10 : Int) ^ k = q at *
        omega
      clear hdg h10 hv2 hv1 hv
      go_wp2_with (first | (go_at_call 80; refine (digit_any _ _).mono ?_; rintro e w' ⟨rfl, rfl⟩; rw [HDG.out]) | fail)
      go_roundw
      case rel => exact ⟨trivial, k + 1, by omega, by go_num, _, rfl, by omega, hst2, hst⟩
      case measure => simp [intOf]; omega
    · have e : k = p := by omega
      subst e
      have hfin : Hid (v = dval ((bn s).take k)) := hv
      clear hv hv1
      by_cases hks : k < s.size
      · have hdg := hidI (HE.out hks)
        go_wp2_with (first | (go_at_call 80; refine (digit_any _ _).mono ?_; rintro e w' ⟨rfl, rfl⟩; rw [hdg.out]) | fail)
        go_ret2
        exact ⟨by rw [← hfin.out]; rfl, rfl⟩
      · go_wp2
        go_ret2
        exact ⟨by rw [← hfin.out]; rfl, rfl⟩
end Go.Proofs.Ytliacfjdenfldaa
