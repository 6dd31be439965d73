/- Written by hp.py, this session's own program, out of the translation of this seat: Lean functions for the Go functions, and the proof that each call comes to what its Lean function says. -/
import Derived.Test.YtldojbonaecngaaProg
import Derived.Below
import Derived.Deep.Draws
import Derived.Deep.AppendLies
import Derived.Maps.AppendAt
import Derived.OwnWalk
import Derived.Laws.BytesArg
import Derived.Laws.MakeOwn
import Derived.Laws.OwnMore
import Derived.Deep.OwnRows
import Derived.Tactics
import Derived.Lib.ConvBytes
import Derived.Laws.Slices
import Derived.WalkKit
import Derived.KernelRfl
import Derived.RowKit3
import Derived.Deep.LoopGhost
import Derived.Deep.QuietTactic
import Derived.BigQuiet
import Derived.WideLaws
import Derived.Deep.DeepCutAuto
import Derived.Deep.CutBlock
import Derived.Deep.RegionHeld3
import Derived.Laws.Rows
import Derived.Lib.AppendStr
import Derived.ArgAppend
import Derived.Laws.IdiomCopy
import Derived.OrdersHeld
import Derived.Laws.BitsLemmas
import Derived.RowKit
import Derived.Test.YtldojbonaecngaaWWords
import Derived.Test.YtldojbonaecngaaWLast
import Derived.Test.YtldojbonaecngaaWTab
import Derived.Test.YtldojbonaecngaaWFour
import Derived.Test.YtldojbonaecngaaWQPut
import Derived.Test.YtldojbonaecngaaWApart
import Derived.Test.YtldojbonaecngaaWArr
import Derived.Test.YtldojbonaecngaaWZeros
import Derived.Test.YtldojbonaecngaaWFoot
import Derived.Test.YtldojbonaecngaaWKept
import Derived.Test.YtldojbonaecngaaWShare
import Derived.Test.YtldojbonaecngaaWN
import Derived.Test.YtldojbonaecngaaWFootNe
import Derived.Test.YtldojbonaecngaaWAt
import Derived.Test.YtldojbonaecngaaWEqStruct
import Derived.Test.YtldojbonaecngaaWRepsOne
import Derived.Test.YtldojbonaecngaaWInv
import Derived.Test.YtldojbonaecngaaWInvWords
import Derived.Test.YtldojbonaecngaaWGuard
import Derived.Test.YtldojbonaecngaaWNEv
import Derived.Test.YtldojbonaecngaaWMore
import Derived.Test.YtldojbonaecngaaTx0
namespace Go.Proofs.Ytldojbonaecngaa.T
open Go.RowKit Go.Proofs.YtldojbonaecngaaW.PrintWords Go.Proofs.YtldojbonaecngaaW.PrintLast Go.Proofs.YtldojbonaecngaaW.PrintMore
attribute [local go_sem] max2_int min2_int max_two min_two max_three min_three max_four min_four   -- for this text's walks alone
set_option linter.unusedVariables false
set_option linter.unusedSimpArgs false
/-! ### a > b of two texts, as the print spells it: b < a -/
theorem bytesLess_swap : ∀ a b : List UInt8, (!(Op.bytesLess a b || a == b)) = Op.bytesLess b a
  | [], [] => rfl
  | [], _ :: _ => rfl
  | _ :: _, [] => rfl
  | x :: r, y :: s => by
    have ih := bytesLess_swap r s
    simp only [Op.bytesLess]
    by_cases h1 : x < y
    · have h2 : ¬ y < x := by rw [UInt8.lt_iff_toNat_lt] at *; omega
      have h3 : (y == x) = false := by
        rw [beq_eq_false_iff_ne]
        intro he
        subst he
        exact h2 h1
      simp [h1, h2, h3]
    · by_cases h2 : y < x
      · have h3 : (x == y) = false := by
          rw [beq_eq_false_iff_ne]
          intro he
          subst he
          exact h1 h2
        have h4 : ((x :: r) == (y :: s)) = false := by
          rw [beq_eq_false_iff_ne]
          intro he
          injection he with he _
          rw [he] at h3
          simp at h3
        simp [h1, h2, h3, h4]
      · have he : x = y := by
          rw [UInt8.lt_iff_toNat_lt] at *
          exact UInt8.toNat_inj.1 (by omega)
        subst he
        have h4 : ((x :: r) == (x :: s)) = (r == s) := by simp
        rw [h4]
        simp only [h1, decide_false, Bool.false_or, beq_self_eq_true, Bool.true_and]
        exact ih
theorem string_gtr_ (t : TypeId) (a b : ByteArray) : binOp .gtr t (.string a) (.string b) = pure (.bool (Op.bytesLess b.toList a.toList)) := by
  rw [← bytesLess_swap]
  simp [binOp, Op.stringOp]

end Go.Proofs.Ytldojbonaecngaa.T
