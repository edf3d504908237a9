import Derived.Test.YtliacfjdenfldaaOi
import Derived.Laws.BytesArg
namespace Go.Proofs.Ytliacfjdenfldaa
open Go.RowKit Go.Proofs.Kq
open Go.Proofs.YtliacfjdenfldaaW.PrintWords (pw_cell_below step_append_cells print_append_cells Kd Kd.C Kd.C_below)
open Go.Proofs.YtliacfjdenfldaaW.PrintLast
set_option linter.unusedSimpArgs false
set_option linter.unusedVariables false

theorem rint_at2 (g : Nat) (st : ByteArray × Bool) (n : Int) (s2 : ByteArray × Bool) (w : World) (hB : Blk w g #[.string st.1, .bool st.2] 164) (h : intB st.1 st.2 = (n, s2)) :
    Calls Try.prog 44 #[.pointer (some ⟨g, 0, none⟩)] w fun e w' => e = .returned (.int .i64 n) ∧ Blk w' g #[.string s2.1, .bool s2.2] 164 ∧ Fr (fun k => k = g) w w' := by
  have z := rint_any g st.1 st.2 w hB
  rw [h] at z
  exact z
theorem rtext_at2 (g : Nat) (st : ByteArray × Bool) (n : ByteArray) (s2 : ByteArray × Bool) (w : World) (hB : Blk w g #[.string st.1, .bool st.2] 164) (h : textB st.1 st.2 = (n, s2)) :
    Calls Try.prog 43 #[.pointer (some ⟨g, 0, none⟩)] w fun e w' => e = .returned (.string n) ∧ Blk w' g #[.string s2.1, .bool s2.2] 164 ∧ Fr (fun k => k = g) w w' := by
  have z := rtext_any g st.1 st.2 w hB
  rw [h] at z
  exact z
theorem rtake_nil (n : Int) (w : World) : Calls Try.prog 84 #[.pointer none, .int .i64 n] w fun e w' => e = .returned (.string ⟨#[]⟩) ∧ w = w' := by
  go_enter Try.func84, Try.ntmps84
  go_wp2
  go_ret
  exact ⟨rfl, rfl⟩
theorem rint_nil (w : World) : Calls Try.prog 44 #[.pointer none] w fun e w' => e = .returned (.int .i64 0) ∧ w = w' := by
  go_enter Try.func44, Try.ntmps44
  go_wp2_with (first | (go_at_call 84; refine (rtake_nil _ _).mono ?_; rintro e w' ⟨rfl, rfl⟩) | fail)
  go_ret
  exact ⟨rfl, rfl⟩
theorem rtext_nil (w : World) : Calls Try.prog 43 #[.pointer none] w fun e w' => e = .returned (.string ⟨#[]⟩) ∧ w = w' := by
  go_enter Try.func43, Try.ntmps43
  go_wp2_with (first | (go_at_call 84; refine (rtake_nil _ _).mono ?_; rintro e w' ⟨rfl, rfl⟩) | fail)
  go_ret
  exact ⟨rfl, rfl⟩
theorem rend_nil (w : World) : Calls Try.prog 45 #[.pointer none] w fun e w' => e = .returned (.int .i64 1) ∧ w = w' := by
  go_enter Try.func45, Try.ntmps45
  go_wp2
  go_ret
  exact ⟨rfl, rfl⟩
theorem wint_nil (n : Int) (w : World) : Calls Try.prog 39 #[.pointer none, .int .i64 n] w fun e w' => e = .returned (.pointer none) ∧ w = w' := by
  go_enter Try.func39, Try.ntmps39
  go_wp2
  go_ret
  exact ⟨rfl, rfl⟩
theorem wtext_nil (s : ByteArray) (w : World) : Calls Try.prog 38 #[.pointer none, .string s] w fun e w' => e = .returned (.pointer none) ∧ w = w' := by
  go_enter Try.func38, Try.ntmps38
  go_wp2
  go_ret
  exact ⟨rfl, rfl⟩
theorem wbytes_nil (w : World) : Calls Try.prog 40 #[.pointer none] w fun e w' => e = .returned (.tuple #[.string ⟨#[]⟩, .int .i64 1]) ∧ w = w' := by
  go_enter Try.func40, Try.ntmps40
  go_wp2
  go_ret2
  exact ⟨rfl, rfl⟩
end Go.Proofs.Ytliacfjdenfldaa
