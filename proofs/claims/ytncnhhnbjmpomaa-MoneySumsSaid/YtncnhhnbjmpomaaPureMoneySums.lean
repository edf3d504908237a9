/- Of any amounts, MoneySums answers true. -/
import Derived.Test.YtncnhhnbjmpomaaPSum
namespace Go.Proofs.Ytncnhhnbjmpomaa.Pure
open Go.RowKit Go.Proofs.Ytncnhhnbjmpomaa.Q
theorem MoneySums : souklaw01_MoneySums.Pure := sums_ok
end Go.Proofs.Ytncnhhnbjmpomaa.Pure
