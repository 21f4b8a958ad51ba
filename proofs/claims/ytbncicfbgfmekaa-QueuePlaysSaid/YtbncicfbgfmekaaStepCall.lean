/-
  A call of a Go function, by its contract, as one step of a region that draws its order.
  No program stands here but as a variable. Conditions: none beyond the theorem's own.
-/
import Derived.Test.YtbncicfbgfmekaaRowOps
namespace Go.Proofs.Ytbncicfbgfmekaa
set_option linter.unusedVariables false
set_option linter.unusedSimpArgs false
open Go.RowKit
section
variable {P : Program} {w : World} {ops : Array Oper} {o : Oper} {a : Act} {K : Act → World → Prop} {Q : Exit → Act → World → Prop} {E : Prop}

theorem run_callFunc {f : FuncId} {fn : Func} (hf : P.funcs[f]? = some fn) (hname : (fn.name == "runtime.NumGoroutine") = false) (hb : fn.body.isNone = false) (args : Array Value) (w : World) :
    (callFunc f args).run P w = .ok (.enter f args) w := by
  have h1 : ¬ fn.name = "runtime.NumGoroutine" := by simpa using hname
  have h2 : ¬ fn.body = none := fun h => by simp [h] at hb
  simp [callFunc, hf, h1, h2]

theorem step_call (hgd : o.guard = none) (f : FuncId) (argOps : Array Operand) (tys : Array TypeId) (ho : o.op = .call { callee := .value (.func f), args := argOps, argTypes := tys })
    {fn : Func} (hf : P.funcs[f]? = some fn) (hname : (fn.name == "runtime.NumGoroutine") = false) (hb : fn.body.isNone = false) (args : Array Value) (hargs0 : (argOps.toList.map a.eval).toArray = args)
    (hc : Calls P f args w fun e w' => ∃ v, e = .returned v ∧ K (a.put o.dst v) w') :
    if Region.wanted o (yielded ops a.tmps) = true then Oper.wp P o a w K Q else E := by
  have hargs : argOps.map a.eval = args := by rw [← hargs0]; apply Array.ext'; simp
  have hw : Region.wanted o (yielded ops a.tmps) = true := by simp [Region.wanted, hgd]
  rw [if_pos hw]
  have hr : (execOp a.eval o).run P w = .ok (.enter f args) w := by
    have he : (a.eval (.func f)) = .func (.func f) #[] #[] := rfl
    simp [execOp, ho, resolve, invoke, he, hargs, Deferred.ofValue, run_callFunc hf hname hb]
  unfold Oper.wp
  rw [hr, Oper.upon_enter]
  refine hc.mono ?_
  rintro e w' ⟨v, rfl, hk⟩
  exact hk
/-- The same where the operation has a guard that lets it run. -/
theorem step_callW (f : FuncId) (argOps : Array Operand) (tys : Array TypeId) (ho : o.op = .call { callee := .value (.func f), args := argOps, argTypes := tys })
    {fn : Func} (hf : P.funcs[f]? = some fn) (hname : (fn.name == "runtime.NumGoroutine") = false) (hb : fn.body.isNone = false) (args : Array Value) (hargs0 : (argOps.toList.map a.eval).toArray = args)
    (hw : Region.wanted o (yielded ops a.tmps) = true)
    (hc : Calls P f args w fun e w' => ∃ v, e = .returned v ∧ K (a.put o.dst v) w') :
    if Region.wanted o (yielded ops a.tmps) = true then Oper.wp P o a w K Q else E := by
  have hargs : argOps.map a.eval = args := by rw [← hargs0]; apply Array.ext'; simp
  rw [if_pos hw]
  have hr : (execOp a.eval o).run P w = .ok (.enter f args) w := by
    have he : (a.eval (.func f)) = .func (.func f) #[] #[] := rfl
    simp [execOp, ho, resolve, invoke, he, hargs, Deferred.ofValue, run_callFunc hf hname hb]
  unfold Oper.wp
  rw [hr, Oper.upon_enter]
  refine hc.mono ?_
  rintro e w' ⟨v, rfl, hk⟩
  exact hk
end
end Go.Proofs.Ytbncicfbgfmekaa
