import Derived.Test.YtfhcolhiolgikaaQTV
import Derived.ChangeKeysEq
import Derived.Test.YtfhcolhiolgikaaProg
import Derived.Below
import Derived.Deep.Draws
import Derived.Deep.AppendLies
import Derived.Maps.AppendAt
import Derived.OwnWalk
import Derived.Laws.BytesArg
import Derived.Laws.MakeOwn
import Derived.Laws.OwnMore
import Derived.Deep.OwnRows
import Derived.Tactics
import Derived.Lib.ConvBytes
import Derived.Laws.Slices
import Derived.WalkKit
import Derived.KernelRfl
import Derived.RowKit3
import Derived.Deep.LoopGhost
import Derived.Deep.QuietTactic
import Derived.BigQuiet
import Derived.WideLaws
import Derived.Deep.DeepCutAuto
import Derived.Deep.CutBlock
import Derived.Deep.RegionHeld3
import Derived.Laws.Rows
import Derived.Lib.AppendStr
import Derived.ArgAppend
import Derived.Laws.IdiomCopy
import Derived.OrdersHeld
import Derived.Laws.BitsLemmas
import Derived.RowKit
import Derived.Test.YtfhcolhiolgikaaQTA
/- Texts of this claim, laid together by a program (merge.py): Ae. -/
/- Written by hp.py, this session's own program, out of the translation of this seat: Lean functions for the Go functions, and the proof that each call comes to what its Lean function says. -/
namespace Go.Proofs.Ytfhcolhiolgikaa.T
open Go.RowKit Go.Proofs.YtfhcolhiolgikaaW.PrintWords Go.Proofs.YtfhcolhiolgikaaW.PrintLast Go.Proofs.YtfhcolhiolgikaaW.PrintMore
attribute [local go_sem] max2_int min2_int max_two min_two max_three min_three max_four min_four   -- for this text's walks alone
set_option linter.unusedVariables false
set_option linter.unusedSimpArgs false
/-! ### two arrays of four bytes -/
def eqL (a b : List Int) : Bool := decide (a = b)
set_option maxRecDepth 20000 in
theorem arr_eq (a0 a1 a2 a3 b0 b1 b2 b3 : Int) (w : World) : (Op.equalIn 10000 38 (.agg #[.int .u8 a0, .int .u8 a1, .int .u8 a2, .int .u8 a3]) (.agg #[.int .u8 b0, .int .u8 b1, .int .u8 b2, .int .u8 b3])).run Try.prog w = .ok (eqL [a0, a1, a2, a3] [b0, b1, b2, b3]) w := by
 unfold eqL
 have e : ∀ (x y : Int), (Op.equalIn 9999 5 (.int .u8 x) (.int .u8 y)).run Try.prog w = .ok (x == y) w := fun x y => run_equalIn_int w 9998 5 .u8 .u8 x y Try.underlying5
 obtain ⟨i, hi, _⟩ := info_parts info5
 have h0 : (Op.equalIn 10000 38 (.agg #[.int .u8 a0, .int .u8 a1, .int .u8 a2, .int .u8 a3]) (.agg #[.int .u8 b0, .int .u8 b1, .int .u8 b2, .int .u8 b3])).run Try.prog w = (Op.eqItems 9999 5 (Try.prog.cellsOf 5) #[.int .u8 a0, .int .u8 a1, .int .u8 a2, .int .u8 a3] #[.int .u8 b0, .int .u8 b1, .int .u8 b2, .int .u8 b3] (List.range 4)).run Try.prog w := run_equalIn_array w 9999 _ _ Try.underlying38 hi
 have hc : Try.prog.cellsOf 5 = 1 := by kernel_rfl
 rw [h0, hc, show List.range 4 = [0, 1, 2, 3] from rfl]
 clear h0
 generalize (9999 : Nat) = dd at e
 have p : ∀ (c0 c1 c2 c3 : Value) (j : Nat) (v : Value), #[c0, c1, c2, c3][j]? = some v → (part 5 #[c0, c1, c2, c3] j).run Try.prog w = .ok v w := fun c0 c1 c2 c3 j v h => by
  simp [part, isAgg, run_underlying Try.underlying5, Nat.mul_one, h]
 simp only [Op.eqItems, Nat.mul_one, Sem.run_bind, p _ _ _ _ 0 _ rfl, p _ _ _ _ 1 _ rfl, p _ _ _ _ 2 _ rfl, p _ _ _ _ 3 _ rfl, Result.andThen_ok, e]
 by_cases h0 : a0 = b0 <;> by_cases h1 : a1 = b1 <;> by_cases h2 : a2 = b2 <;> by_cases h3 : a3 = b3 <;> simp [h0, h1, h2, h3, Op.eqItems, e, p _ _ _ _ 0 _ rfl, p _ _ _ _ 1 _ rfl, p _ _ _ _ 2 _ rfl, p _ _ _ _ 3 _ rfl, Result.andThen_ok]

end Go.Proofs.Ytfhcolhiolgikaa.T
