/- Calls through a function value that is known: steps of the walk, beside the printed words. -/
import Derived.Test.YtladdncfhjjppaaWMore
set_option linter.unusedVariables false
namespace Go.Proofs.YtladdncfhjjppaaW.XCall
open Go.Proofs.YtladdncfhjjppaaW.PrintLast
variable {P : Program} {ops : Array Oper} {Q : Exit → Act → World → Prop} {md : Region.Mode}
theorem gate_calleeT {o : Oper} {rest : List Oper} {a : Act} {W : World} {t : Tmp} {as : Array Operand} {ts : Array TypeId} (_ho : o.op = .call { callee := .value (.tmp t), args := as, argTypes := ts }) (h : wpList P ops Q (o :: rest) a W) : wpList P ops Q (o :: rest) a W := h
theorem hrunT {oi : Oper} {a : Act} {w : World} {f : FuncId} {fn : Func} {t : Tmp} {as : Array Operand} {ts : Array TypeId} {cb : Array Value} (hf : P.funcs[f]? = some fn) (hname : (fn.name == "runtime.NumGoroutine") = false) (hb : fn.body.isSome = true) (args : Array Value)
    (hop : oi.op = .call { callee := .value (.tmp t), args := as, argTypes := ts }) (hv : a.eval (.tmp t) = .func (.func f) #[] cb) (hargs : as.map a.eval = args) : (execOp a.eval oi).run P w = .ok (.enter f (args ++ cb)) w := by
  have he := enters_ hf hname hb (args ++ cb) w
  unfold execOp
  simp [hop, resolve, Deferred.ofValue, invoke, hargs, hv, he]
theorem goesT_ {oi : Oper} {N : Option Tmp} {a : Act} {w : World} {K : Act → World → Prop} (t : Tmp) {f : FuncId} {fn : Func} {as : Array Operand} {ts : Array TypeId} {cb : Array Value} (hf : P.funcs[f]? = some fn) (hname : (fn.name == "runtime.NumGoroutine") = false) (hb : fn.body.isSome = true) (args : Array Value)
    (hw : Region.wanted oi (yielded ops a.tmps) = true) (hN : oi.dst = N) (hop : oi.op = .call { callee := .value (.tmp t), args := as, argTypes := ts }) (hv : a.eval (.tmp t) = .func (.func f) #[] cb) (full : Array Value) (hargs : as.map a.eval = args) (hfull : args ++ cb = full)
    (h : Calls P f full w fun e w' => ∃ v, e = .returned v ∧ K (a.put N v) w') : if Region.wanted oi (yielded ops a.tmps) = true then Oper.wp P oi a w K Q else K (a.put N undef) w := by
  subst hfull
  exact call_ f (args ++ cb) hw hN (hrunT hf hname hb args hop hv hargs) h
theorem goesTL_ {rest : List Oper} {oi : Oper} {a : Act} {w : World} (N : Option Tmp) (hd : oi.dst = N) (hg : oi.guard = none) (t : Tmp) {f : FuncId} {fn : Func} {as : Array Operand} {ts : Array TypeId} {cb : Array Value} (hf : P.funcs[f]? = some fn) (hname : (fn.name == "runtime.NumGoroutine") = false) (hb : fn.body.isSome = true) (args : Array Value)
    (hop : oi.op = .call { callee := .value (.tmp t), args := as, argTypes := ts }) (hv : a.eval (.tmp t) = .func (.func f) #[] cb) (full : Array Value) (hargs : as.map a.eval = args) (hfull : args ++ cb = full)
    (h : Calls P f full w fun e w' => ∃ v, e = .returned v ∧ wpList P ops Q rest (a.put N v) w') : wpList P ops Q (oi :: rest) a w := by
  subst hfull
  refine wpList_plain hg fun K hK => ?_
  unfold Oper.wp
  rw [hrunT hf hname hb args hop hv hargs, Oper.upon_enter]
  refine h.mono fun e w'' hh => ?_
  obtain ⟨v, rfl, hk⟩ := hh
  subst hd
  exact hK _ _ hk
end Go.Proofs.YtladdncfhjjppaaW.XCall
