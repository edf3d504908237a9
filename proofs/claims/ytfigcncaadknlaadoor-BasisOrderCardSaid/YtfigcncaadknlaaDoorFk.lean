/- BasisOrder's walk, of integers. -/
import Derived.Test.YtfigcncaadknlaaDoorFj
namespace Go.Proofs.YtfigcncaadknlaaDoor
open Go.RowKit
theorem walk5 (a b c : Int) (a0 : 0 ≤ a) (a1 : a ≤ 18446744073709551615) (b0 : 0 ≤ b) (b1 : b ≤ 18446744073709551615) (c0 : 0 ≤ c) (c1 : c ≤ 18446744073709551615) (w : World) :
    Calls Tryd.prog 5 #[.int .u64 a, .int .u64 b, .int .u64 c] w (LvP w) := by
  have := order_any a.toNat b.toNat c.toNat (by omega) (by omega) (by omega) w
  rwa [Int.toNat_of_nonneg a0, Int.toNat_of_nonneg b0, Int.toNat_of_nonneg c0] at this
end Go.Proofs.YtfigcncaadknlaaDoor
