/- Written by hp.py, this session's own program, out of the translation of this seat: Lean functions for the Go functions, and the proof that each call comes to what its Lean function says. -/
import Derived.Test.YtkdbfeapfcflmaaProg
import Derived.Below
import Derived.WideShapes
import Derived.Deep.Draws
import Derived.Deep.AppendLies
import Derived.Maps.AppendAt
import Derived.OwnWalk
import Derived.Laws.BytesArg
import Derived.Laws.MakeOwn
import Derived.Laws.OwnMore
import Derived.Deep.OwnRows
import Derived.Tactics
import Derived.Lib.ConvBytes
import Derived.Laws.Slices
import Derived.WalkKit
import Derived.KernelRfl
import Derived.RowKit3
import Derived.Deep.LoopGhost
import Derived.Deep.QuietTactic
import Derived.BigQuiet
import Derived.WideLaws
import Derived.Deep.DeepCutAuto
import Derived.Deep.CutBlock
import Derived.Deep.RegionHeld3
import Derived.Laws.Rows
import Derived.Lib.AppendStr
import Derived.ArgAppend
import Derived.Laws.IdiomCopy
import Derived.OrdersHeld
import Derived.Laws.BitsLemmas
import Derived.RowKit
import Derived.Test.YtkdbfeapfcflmaaWWords
import Derived.Test.YtkdbfeapfcflmaaWLast
import Derived.Test.YtkdbfeapfcflmaaWTab
import Derived.Test.YtkdbfeapfcflmaaWFour
import Derived.Test.YtkdbfeapfcflmaaWQPut
import Derived.Test.YtkdbfeapfcflmaaWApart
import Derived.Test.YtkdbfeapfcflmaaWArr
import Derived.Test.YtkdbfeapfcflmaaWZeros
import Derived.Test.YtkdbfeapfcflmaaWFoot
import Derived.Test.YtkdbfeapfcflmaaWKept
import Derived.Test.YtkdbfeapfcflmaaWShare
import Derived.Test.YtkdbfeapfcflmaaWN
import Derived.Test.YtkdbfeapfcflmaaWFootNe
import Derived.Test.YtkdbfeapfcflmaaWAt
import Derived.Test.YtkdbfeapfcflmaaWEqStruct
import Derived.Test.YtkdbfeapfcflmaaWRepsOne
import Derived.Test.YtkdbfeapfcflmaaWInv
import Derived.Test.YtkdbfeapfcflmaaWInvWords
import Derived.Test.YtkdbfeapfcflmaaWGuard
import Derived.Test.YtkdbfeapfcflmaaWNEv
import Derived.Test.YtkdbfeapfcflmaaWMore
import Derived.Test.YtkdbfeapfcflmaaOp
namespace Go.Proofs.Ytkdbfeapfcflmaa.T
open Go.RowKit Go.Proofs.YtkdbfeapfcflmaaW.PrintWords Go.Proofs.YtkdbfeapfcflmaaW.PrintLast Go.Proofs.YtkdbfeapfcflmaaW.PrintMore
attribute [local go_sem] max2_int min2_int max_two min_two max_three min_three max_four min_four   -- for this text's walks alone
set_option linter.unusedVariables false
set_option linter.unusedSimpArgs false
/-! ### hits as arguments -/
theorem opFrac : Opens Try.prog k25 25 (fun y => (Lit.int .u64 y.f0).wf = true ∧ (Lit.int .u64 y.f1).wf = true) :=
  opens_iso (opens_struct2 Try.underlying25 (by kernel_rfl) rfl rfl (opens_int Try.underlying23 (by kernel_rfl)) (opens_int Try.underlying23 (by kernel_rfl))) _ (fun p => ⟨p.1, p.2⟩) (fun _ => rfl)
theorem opHit : Opens Try.prog k27 27 (fun y => y.f0.size ≤ 9223372036854775807 ∧ (Lit.int .i64 y.f1).wf = true ∧ ((Lit.int .u64 y.f2.f0).wf = true ∧ (Lit.int .u64 y.f2.f1).wf = true)) :=
  opens_iso (opens_struct3 Try.underlying27 (by kernel_rfl) rfl rfl rfl (opens_string Try.underlying9 (by kernel_rfl)) (opens_int Try.underlying3 (by kernel_rfl)) opFrac) _ (fun p => ⟨p.1, p.2.1, p.2.2⟩) (fun _ => rfl)
def HitG (y : S27) : Prop := y.f0.size ≤ 9223372036854775807 ∧ (Lit.int .i64 y.f1).wf = true ∧ ((Lit.int .u64 y.f2.f0).wf = true ∧ (Lit.int .u64 y.f2.f1).wf = true)
theorem opHits : Opens Try.prog (Kd.slice 27 k27) 22 (fun l => l.length ≤ 9223372036854775807 ∧ ∀ x ∈ l, HitG x) := opens_slice (P := Try.prog) (t := 22) Try.underlying22 (by kernel_rfl) opHit
theorem opRows : Opens Try.prog (Kd.slice 22 (Kd.slice 27 k27)) 32 (fun ls => ls.length ≤ 9223372036854775807 ∧ ∀ l ∈ ls, l.length ≤ 9223372036854775807 ∧ ∀ x ∈ l, HitG x) := opens_slice (P := Try.prog) (t := 32) Try.underlying32 (by kernel_rfl) opHits
/-- at a hit by value -/
theorem opHitV {H : Type} {enc : TypeId × Value → H} {W : World} {base : Nat} {held : Bool} {r : Reach} {b0 : Nat} {v : Value} {d : DataW H} {ps : List MemPlace} (hv : Value.okWide Try.prog W r b0 27 v) (h : DataW.Trod enc Try.prog W base (fun _ => true) held 27 v d ps) :
    ∃ x : S27, v = .agg #[.string x.f0, .int .i64 x.f1, .int .u64 x.f2.f0, .int .u64 x.f2.f1] ∧ HitG x := by
  obtain ⟨cs, rfl, hsz⟩ := Go.WideShapes.okWide_struct Try.underlying27 hv
  obtain ⟨fuel, hf⟩ := h
  obtain ⟨x, hK, hg⟩ := opHit.op hf
  have e := k27_open hK
  refine ⟨x, ?_, hg⟩
  obtain ⟨l⟩ := cs
  simp only [Value.cells] at e
  first | (rw [← e]; done) | (rw [show l = _ from e]) | (simp_all)

end Go.Proofs.Ytkdbfeapfcflmaa.T
