import Derived.Test.YtliacfjdenfldaaXc
namespace Go.Proofs.Ytliacfjdenfldaa
open Go.RowKit Go.Proofs.Kq
theorem dg_dig : ∀ n : Nat, ∀ z ∈ dg n, 48 ≤ z ∧ z ≤ 57 := by
  intro n
  induction n using Nat.strongRecOn with
  | ind n ih =>
  intro z hz
  rw [dg] at hz
  split at hz
  · rcases List.mem_singleton.1 hz with rfl; omega
  · rcases List.mem_append.1 hz with h | h
    · exact ih (n / 10) (by omega) z h
    · rcases List.mem_singleton.1 h with rfl; omega
theorem dval_dg : ∀ n : Nat, dval (dg n) = n := by
  intro n
  induction n using Nat.strongRecOn with
  | ind n ih =>
  rw [dg]
  split
  · simp [dval]; omega
  · rw [dval_snoc, ih (n / 10) (by omega)]; omega
theorem dg_len9 : ∀ (k n : Nat), n < 10 ^ (k + 1) → (dg n).length ≤ k + 1
  | 0, n, h => by rw [dg, if_pos (by omega)]; simp
  | k + 1, n, h => by
    rw [dg]; split
    · simp
    · have := dg_len9 k (n / 10) (by rw [Nat.pow_succ] at h; exact Nat.div_lt_of_lt_mul (by omega))
      simp; omega
end Go.Proofs.Ytliacfjdenfldaa
