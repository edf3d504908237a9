/- LexRates: the walk, as the row asks for it. -/
import Derived.Test.YtliacfjdenfldaaXj
namespace Go.Proofs.Ytliacfjdenfldaa
open Go.RowKit
theorem walk7 (a : Int) (w : World) (h0 : 0 ≤ a) (h1 : a ≤ 4294967295) : Calls Try.prog 7 #[.int .u32 a] w fun e w' => e = .returned (.bool true) ∧ Below w.heap.size w w' := law7 a w h0 (by omega)
end Go.Proofs.Ytliacfjdenfldaa
