import Derived.Test.YtliacfjdenfldaaOk
namespace Go.Proofs.Ytliacfjdenfldaa
open Go.RowKit Go.Proofs.Kq
open Go.Proofs.YtliacfjdenfldaaW.PrintWords (Kd Kd.C)
theorem row9 (s : ByteArray) (ad : Option Addr) (bs : List Bool) (cap : Nat) (w : World) (hs : s.size ≤ 140737488351232) (hw : Rk.RdSl w (Rk.Kn.bool Try.underlying4).cells (Rk.Kn.bool Try.underlying4).ok 1 ad bs cap) (hy : bs.length * 1 ≤ 140737488351232) :
    Calls Try.prog 9 #[.string s, .slice ad bs.length cap] w fun e w' => e = .returned (.bool true) ∧ Below w.heap.size w w' := by
  have hC : Kd.C db w ad bs.length bs := Kp.C_of_rd (l := lb) (hl := fun _ => rfl) (h1 := lb_one) (by decide) hw
  exact walk9 s ad bs cap w hs hC (by omega)
end Go.Proofs.Ytliacfjdenfldaa
