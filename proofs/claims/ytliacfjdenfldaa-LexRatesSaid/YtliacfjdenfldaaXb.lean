import Derived.Test.YtliacfjdenfldaaXa
namespace Go.Proofs.Ytliacfjdenfldaa
open Go.RowKit Go.Proofs.Kq
set_option linter.unusedSimpArgs false
set_option linter.unusedVariables false
def isDig (c : Int) : Bool := decide (48 ≤ c) && decide (c ≤ 57)
def isLet (c : Int) : Bool := decide (97 ≤ c) && decide (c ≤ 122)
theorem digit_any (c : Int) (w : World) : Calls Try.prog 80 #[.int .u8 c] w fun e w' => e = .returned (.bool (isDig c)) ∧ w = w' := by
  go_enter Try.func80, Try.ntmps80
  go_wp2
  all_goals (go_ret; exact ⟨by simp [isDig] <;> omega, rfl⟩)
theorem letter_any (c : Int) (w : World) : Calls Try.prog 79 #[.int .u8 c] w fun e w' => e = .returned (.bool (isLet c)) ∧ w = w' := by
  go_enter Try.func79, Try.ntmps79
  go_wp2
  all_goals (go_ret; exact ⟨by simp [isLet] <;> omega, rfl⟩)
end Go.Proofs.Ytliacfjdenfldaa
