/- math/bits.LeadingZeros64, as the print asks for it: out of the shelf. -/
import Derived.Test.YtncnhhnbjmpomaaQ0
import Derived.Test.YtncnhhnbjmpomaaShelf
namespace Go.Proofs.Ytncnhhnbjmpomaa.Q
open Go.RowKit Go.Proofs.YtncnhhnbjmpomaaW.PrintWords Go.Proofs.YtncnhhnbjmpomaaW.PrintLast
set_option linter.unusedVariables false
set_option linter.unusedSimpArgs false
def bits_LeadingZeros64.f (a0 : Int) : Option Int := if 0 ≤ a0 ∧ a0 ≤ 18446744073709551615 then some (64 - (Lib.bitLen a0.toNat : Int)) else none
theorem bits_LeadingZeros64.calls (a0 : Int) (r : Int) (w : World) (h : bits_LeadingZeros64.f a0 = some r) : Calls Try.prog 64 #[.int .u64 a0] w fun e w' => e = .returned (.int .i64 r) ∧ Drawn0 w w' := by
  unfold bits_LeadingZeros64.f at h
  split at h
  · rename_i hb
    cases h
    exact (Go.Proofs.Try.bits_LeadingZeros64 a0 w hb.1 hb.2).mono fun e w' ⟨he, hw⟩ => ⟨he, hw ▸ Drawn0.refl w⟩
  · cases h
end Go.Proofs.Ytncnhhnbjmpomaa.Q
