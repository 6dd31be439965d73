/- Written by hp.py, this session's own program, out of the translation of this seat: Lean functions for the Go functions, and the proof that each call comes to what its Lean function says. -/
import Derived.Test.YtldojbonaecngaaProg
import Derived.Below
import Derived.Deep.Draws
import Derived.Deep.AppendLies
import Derived.Maps.AppendAt
import Derived.OwnWalk
import Derived.Laws.BytesArg
import Derived.Laws.MakeOwn
import Derived.Laws.OwnMore
import Derived.Deep.OwnRows
import Derived.Tactics
import Derived.Lib.ConvBytes
import Derived.Laws.Slices
import Derived.WalkKit
import Derived.KernelRfl
import Derived.RowKit3
import Derived.Deep.LoopGhost
import Derived.Deep.QuietTactic
import Derived.BigQuiet
import Derived.WideLaws
import Derived.Deep.DeepCutAuto
import Derived.Deep.CutBlock
import Derived.Deep.RegionHeld3
import Derived.Laws.Rows
import Derived.Lib.AppendStr
import Derived.ArgAppend
import Derived.Laws.IdiomCopy
import Derived.OrdersHeld
import Derived.Laws.BitsLemmas
import Derived.RowKit
import Derived.Test.YtldojbonaecngaaWWords
import Derived.Test.YtldojbonaecngaaWLast
import Derived.Test.YtldojbonaecngaaWTab
import Derived.Test.YtldojbonaecngaaWFour
import Derived.Test.YtldojbonaecngaaWQPut
import Derived.Test.YtldojbonaecngaaWApart
import Derived.Test.YtldojbonaecngaaWArr
import Derived.Test.YtldojbonaecngaaWZeros
import Derived.Test.YtldojbonaecngaaWFoot
import Derived.Test.YtldojbonaecngaaWKept
import Derived.Test.YtldojbonaecngaaWShare
import Derived.Test.YtldojbonaecngaaWN
import Derived.Test.YtldojbonaecngaaWFootNe
import Derived.Test.YtldojbonaecngaaWAt
import Derived.Test.YtldojbonaecngaaWEqStruct
import Derived.Test.YtldojbonaecngaaWRepsOne
import Derived.Test.YtldojbonaecngaaWInv
import Derived.Test.YtldojbonaecngaaWInvWords
import Derived.Test.YtldojbonaecngaaWGuard
import Derived.Test.YtldojbonaecngaaWNEv
import Derived.Test.YtldojbonaecngaaWMore
import Derived.Test.YtldojbonaecngaaTx0
namespace Go.Proofs.Ytldojbonaecngaa.T
open Go.RowKit Go.Proofs.YtldojbonaecngaaW.PrintWords Go.Proofs.YtldojbonaecngaaW.PrintLast Go.Proofs.YtldojbonaecngaaW.PrintMore
attribute [local go_sem] max2_int min2_int max_two min_two max_three min_three max_four min_four   -- for this text's walks alone
set_option linter.unusedVariables false
set_option linter.unusedSimpArgs false
/-- A call through a function value that is a closure: what it captured stands behind the arguments. -/
theorem goesC_ {P : Program} {ops : Array Oper} {Q : Exit → Act → World → Prop} {rest : List Oper} {oi : Oper} {a : Act} {w : World} (N : Option Tmp) (hd : oi.dst = N) (hg : oi.guard = none) {f : FuncId} {fn : Func} {t : Operand} {as_ : Array Operand} {ts : Array TypeId} (cap args : Array Value) (hf : P.funcs[f]? = some fn) (hname : (fn.name == "runtime.NumGoroutine") = false) (hb : fn.body.isSome = true)
    (hop : oi.op = .call { callee := .value t, args := as_, argTypes := ts }) (ht : a.eval t = .func (.func f) #[] cap) (hargs : as_.map a.eval ++ cap = args)
    (h : Calls P f args w fun e w' => ∃ v, e = .returned v ∧ wpList P ops Q rest (a.put N v) w') : wpList P ops Q (oi :: rest) a w := by
  refine wpList_plain hg fun K hK => ?_
  have he := enters_ hf hname hb args w
  have hrun : (execOp a.eval oi).run P w = .ok (.enter f args) w := by
    unfold execOp
    simp [hop, resolve, Deferred.ofValue, invoke, ht, hargs, he]
  unfold Oper.wp
  rw [hrun, Oper.upon_enter]
  refine h.mono fun e w'' hh => ?_
  obtain ⟨v, rfl, hk⟩ := hh
  subst hd
  exact hK _ _ hk
theorem run_makeFunc_ (P : Program) (fn : Fn) (first cap : Array Value) (w : World) : (Instr.makeFunc fn first cap).run P w = .ok (.func fn first cap) w := rfl

end Go.Proofs.Ytldojbonaecngaa.T
