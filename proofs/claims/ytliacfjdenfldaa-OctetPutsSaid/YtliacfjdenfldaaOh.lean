import Derived.Test.YtliacfjdenfldaaOg
import Derived.Test.YtliacfjdenfldaaRw
namespace Go.Proofs.Ytliacfjdenfldaa
open Go.RowKit Go.Proofs.Kq
open Go.Proofs.YtliacfjdenfldaaW.PrintWords (Kd Kd.C)
theorem row8 (ad : Option Addr) (xs : List A68) (cap : Nat) (w : World) (hw : Rk.RdSl w A68.l ok68 3 ad xs cap) (hy : xs.length * 32 ≤ 140737488351232) :
    Calls Try.prog 8 #[.slice ad xs.length cap] w fun e w' => e = .returned (.bool true) ∧ Below w.heap.size w w' := by
  refine walk8 ad xs cap w (Kp.C_of_rd (by decide) hw) (fun x hx => ?_) (by omega)
  have h := Kp.ok_of_rd hw x hx
  refine ⟨?_, h.2⟩
  have h4 : (Lit.int .i64 x.f1).wf = true := h.1
  simp only [Lit.wf, Bool.and_eq_true, decide_eq_true_eq] at h4
  have e1 : IntKind.i64.min = -9223372036854775808 := by decide
  have e2 : IntKind.i64.max = 9223372036854775807 := by decide
  unfold i64r; omega
end Go.Proofs.Ytliacfjdenfldaa
