import Derived.Test.YtliacfjdenfldaaAttF
import Derived.Test.YtliacfjdenfldaaRd
namespace Go.Proofs.Ytliacfjdenfldaa
open Go.RowKit

theorem walk5 (a : A29) (kd : ByteArray) (b : A30) (w : World) (_ : k29.ok a) (_ : kd.size ≤ 140737488351232) (_ : k30.ok b) :
    Calls Try.prog 5 #[.agg (A29.l a).toArray, .string kd, .agg (A30.l b).toArray] w fun e w' => e = .returned (.bool true) ∧ Below w.heap.size w w' :=
  law5 a.f0 a.f1 a.f2 a.f3 a.f4 a.f5 a.f6 a.f7 kd b.f0 b.f1 w

end Go.Proofs.Ytliacfjdenfldaa
