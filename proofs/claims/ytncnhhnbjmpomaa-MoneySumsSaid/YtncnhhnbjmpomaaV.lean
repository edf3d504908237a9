/- A call of a function value (one that catches nothing) in a region that draws its order: as the print's own word for a call. -/
import Derived.Test.YtncnhhnbjmpomaaWWords
import Derived.Test.YtncnhhnbjmpomaaWLast
namespace Go.Proofs.Ytncnhhnbjmpomaa.Q
open Go.RowKit Go.Proofs.YtncnhhnbjmpomaaW.PrintWords Go.Proofs.YtncnhhnbjmpomaaW.PrintLast
set_option linter.unusedSimpArgs false
theorem goesV_ {P : Program} {Q : Exit → Act → World → Prop} {ops : Array Oper} {oi : Oper} {N : Option Tmp} {a : Act} {w : World} {K : Act → World → Prop} {f : FuncId} {fn : Func} {x : Operand} {as : Array Operand} {ts : Array TypeId} (hf : P.funcs[f]? = some fn) (hname : (fn.name == "runtime.NumGoroutine") = false) (hb : fn.body.isSome = true) (args : Array Value)
    (hw : Region.wanted oi (yielded ops a.tmps) = true) (hN : oi.dst = N) (hop : oi.op = .call { callee := .value x, args := as, argTypes := ts }) (hargs : as.map a.eval = args) (hx : a.eval x = .func (.func f) #[] #[])
    (h : Calls P f args w fun e w' => ∃ v, e = .returned v ∧ K (a.put N v) w') : if Region.wanted oi (yielded ops a.tmps) = true then Oper.wp P oi a w K Q else K (a.put N undef) w := by
  refine call_ f args hw hN ?_ h
  have he := enters_ hf hname hb args w
  unfold execOp
  simp [hop, resolve, Deferred.ofValue, invoke, hargs, he, hx]
end Go.Proofs.Ytncnhhnbjmpomaa.Q
