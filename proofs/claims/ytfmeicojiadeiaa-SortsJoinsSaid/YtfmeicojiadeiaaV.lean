/- Words of this session's own, beside the print's: a call of a function value, as one step. -/
import Derived.Test.YtfmeicojiadeiaaWMore
namespace Go.Proofs.YtfmeicojiadeiaaW.PrintMore
open Go.RowKit Go.Proofs.YtfmeicojiadeiaaW.PrintWords Go.Proofs.YtfmeicojiadeiaaW.PrintLast

theorem fv_gate {P : Program} {F : FuncId} {as : Array Value} {w : World} {R : Ending → World → Prop} (h : Calls P F as w R) : Calls P F as w R := h

section
variable {P : Program} {Q : Exit → Act → World → Prop} {ops : Array Oper}
theorem goesF_ {oi : Oper} {N : Option Tmp} {a : Act} {w : World} {K : Act → World → Prop} {f : FuncId} {x : Operand} {first captured : Array Value} {as : Array Operand} {ts : Array TypeId} (hcall : ∀ (args : Array Value) (W : World), (callFunc f args).run P W = .ok (.enter f args) W) (args : Array Value)
    (hw : Region.wanted oi (yielded ops a.tmps) = true) (hN : oi.dst = N) (hop : oi.op = .call { callee := .value x, args := as, argTypes := ts }) (hx : a.eval x = .func (.func f) first captured) (hargs : first ++ as.map a.eval ++ captured = args)
    (h : Calls P f args w fun e w' => ∃ v, e = .returned v ∧ K (a.put N v) w') : if Region.wanted oi (yielded ops a.tmps) = true then Oper.wp P oi a w K Q else K (a.put N undef) w := by
  refine call_ f args hw hN ?_ h
  have he := hcall args w
  have hx' : Act.eval a x = .func (.func f) first captured := hx
  unfold execOp
  simp [hop, resolve, Deferred.ofValue, invoke, hx', hargs, he]
end
end Go.Proofs.YtfmeicojiadeiaaW.PrintMore
