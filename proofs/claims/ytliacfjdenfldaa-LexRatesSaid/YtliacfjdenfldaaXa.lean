import Derived.Test.YtliacfjdenfldaaOd
namespace Go.Proofs.Ytliacfjdenfldaa
open Go.RowKit Go.Proofs.Kq
set_option linter.unusedSimpArgs false
set_option linter.unusedVariables false
/-- a number in figures -/
def dg (n : Nat) : List Int := if n < 10 then [48 + (n : Int)] else dg (n / 10) ++ [48 + ((n % 10 : Nat) : Int)]
termination_by n
theorem dg_len : ∀ n : Nat, (dg n).length ≤ n + 1 := by
  intro n
  induction n using Nat.strongRecOn with
  | ind n ih =>
  rw [dg]
  split
  · simp
  · have := ih (n / 10) (by omega)
    simp; omega
set_option maxRecDepth 100000 in
theorem dig_cv (z : Int) (w : World) (h0 : 0 ≤ z) (h1 : z < 10) : (convert 21 9 (.int .i32 (48 + z))).run Try.prog w = .ok (.string (strOfNums [48 + z])) w := by
  have : z = 0 ∨ z = 1 ∨ z = 2 ∨ z = 3 ∨ z = 4 ∨ z = 5 ∨ z = 6 ∨ z = 7 ∨ z = 8 ∨ z = 9 := by omega
  rcases this with rfl | rfl | rfl | rfl | rfl | rfl | rfl | rfl | rfl | rfl <;> (clear h0 h1; rfl)
theorem digits_any : ∀ (n : Nat) (w : World), n ≤ 100000000 →
    Calls Try.prog 34 #[.int .i64 n] w fun e w' => e = .returned (.string (strOfNums (dg n))) ∧ w = w' := by
  intro n
  induction n using Nat.strongRecOn with
  | ind n ih =>
  intro w hn
  have hcv := dig_cv ((n : Int) % 10)
  have hw : (n : Int) % 10 < 10 := by omega
  have hw0 : 0 ≤ (n : Int) % 10 := by omega
  have HCV : ∀ w, (convert 21 9 (.int .i32 (48 + (n : Int) % 10))).run Try.prog w = .ok (.string (strOfNums [48 + (n : Int) % 10])) w := fun w => hcv w hw0 hw
  clear hcv
  by_cases h : n < 10
  · have e : Hid (dg n = [48 + (n : Int) % 10]) := by show _ = _; rw [dg, if_pos h]; congr 2; omega
    clear ih
    go_enter Try.func34, Try.ntmps34
    go_wp2
    go_ret
    exact ⟨by rw [e.out]; rfl, rfl⟩
  · have e : Hid (dg n = dg (n / 10) ++ [48 + (n : Int) % 10]) := by show _ = _; rw [dg, if_neg h]; congr 2
    have hq : ((n / 10 : Nat) : Int) = (n : Int) / 10 := by omega
    have hc0 := ih (n / 10) (by omega)
    rw [hq] at hc0
    have hc := hidI hc0
    have hl := dg_len (n / 10)
    have hs1 : (strOfNums (dg (n / 10))).size ≤ 100000001 := by rw [sn_size]; omega
    have hs2 : (strOfNums [48 + (n : Int) % 10]).size = 1 := sn_size _
    have hcat : ¬ (9223372036854775807 < (strOfNums (dg (n / 10))).size + 1) := by omega
    clear hq hc0 hl
    clear ih
    go_enter Try.func34, Try.ntmps34
    go_wp2_with fail
    refine (hc.out w (by omega)).mono ?_
    rintro e1 w1 ⟨rfl, rfl⟩
    simp only []
    go_wp2
    go_ret
    exact ⟨by rw [e.out, sn_app]; rfl, rfl⟩
end Go.Proofs.Ytliacfjdenfldaa
