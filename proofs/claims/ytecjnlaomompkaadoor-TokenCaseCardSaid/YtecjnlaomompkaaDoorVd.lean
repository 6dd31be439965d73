/- A contract that is proved by hand, in the form of those that hp.py writes. -/
/- Written by hp.py, this session's own program, out of the translation of this seat: Lean functions for the Go functions, and the proof that each call comes to what its Lean function says. -/
import Derived.Test.YtecjnlaomompkaaDoorProg
import Derived.Below
import Derived.Deep.Draws
import Derived.Deep.AppendLies
import Derived.Maps.AppendAt
import Derived.OwnWalk
import Derived.Laws.BytesArg
import Derived.Laws.MakeOwn
import Derived.Laws.OwnMore
import Derived.Deep.OwnRows
import Derived.Tactics
import Derived.Lib.ConvBytes
import Derived.Laws.Slices
import Derived.WalkKit
import Derived.KernelRfl
import Derived.RowKit3
import Derived.Deep.LoopGhost
import Derived.Deep.QuietTactic
import Derived.BigQuiet
import Derived.WideLaws
import Derived.Deep.DeepCutAuto
import Derived.Deep.CutBlock
import Derived.Deep.RegionHeld3
import Derived.Laws.Rows
import Derived.Lib.AppendStr
import Derived.ArgAppend
import Derived.Laws.IdiomCopy
import Derived.OrdersHeld
import Derived.Laws.BitsLemmas
import Derived.RowKit
import Derived.Lib.OthersKept
import Derived.Test.YtecjnlaomompkaaDoorWWords
import Derived.Test.YtecjnlaomompkaaDoorWLast
import Derived.Test.YtecjnlaomompkaaDoorWTab
import Derived.Test.YtecjnlaomompkaaDoorWFour
import Derived.Test.YtecjnlaomompkaaDoorWQPut
import Derived.Test.YtecjnlaomompkaaDoorWApart
import Derived.Test.YtecjnlaomompkaaDoorWArr
import Derived.Test.YtecjnlaomompkaaDoorWZeros
import Derived.Test.YtecjnlaomompkaaDoorWFoot
import Derived.Test.YtecjnlaomompkaaDoorWKept
import Derived.Test.YtecjnlaomompkaaDoorWShare
import Derived.Test.YtecjnlaomompkaaDoorWN
import Derived.Test.YtecjnlaomompkaaDoorWFootNe
import Derived.Test.YtecjnlaomompkaaDoorWAt
import Derived.Test.YtecjnlaomompkaaDoorWEqStruct
import Derived.Test.YtecjnlaomompkaaDoorWRepsOne
import Derived.Test.YtecjnlaomompkaaDoorWInv
import Derived.Test.YtecjnlaomompkaaDoorWInvWords
import Derived.Test.YtecjnlaomompkaaDoorWGuard
import Derived.Test.YtecjnlaomompkaaDoorWNEv
import Derived.Test.YtecjnlaomompkaaDoorWMore
import Derived.Test.YtecjnlaomompkaaDoorSh
import Derived.Shelf.Unicode.ValidAny
import Derived.Test.YtecjnlaomompkaaDoorTx0
namespace Go.Proofs.YtecjnlaomompkaaDoor.T
open Go.RowKit Go.Proofs.YtecjnlaomompkaaDoorW.PrintWords Go.Proofs.YtecjnlaomompkaaDoorW.PrintLast Go.Proofs.YtecjnlaomompkaaDoorW.PrintMore
attribute [local go_sem] max2_int min2_int max_two min_two max_three min_three max_four min_four   -- for this text's walks alone
set_option linter.unusedVariables false
set_option linter.unusedSimpArgs false
/-! ### utf8_ValidString: function 25, by the shelf's contract -/
def GG (w : World) : Prop := Lib.Utf8Tabs 0 1 w
theorem GG_below {w0 w : World} (h : GG w0) (hb : Below w0.heap.size w0 w) : GG w := Utf8Tabs_below h hb
theorem GG_drew {w : World} (h : GG w) : GG w.drew := h
theorem GG_drewN {w : World} (h : GG w) (n : Nat) : GG (w.drewN n) := GG_below h (pw_below_drewN (Below.refl _ _) n)
def utf8_ValidString.f (a0 : ByteArray) : Option (Bool) := if a0.size ≤ 9223372036854775807 then some (Lib.validD a0.data.toList) else none
theorem utf8_ValidString.calls (a0 : ByteArray) (r : Bool) (w : World) (hG : GG w) (h : utf8_ValidString.f a0 = some r) :
    Calls Tryd.prog 25 #[.string a0] w fun e w' => e = .returned (.bool r) ∧ Below w.heap.size w w' := by
  unfold utf8_ValidString.f at h
  by_cases hs : a0.size ≤ 9223372036854775807
  · rw [if_pos hs] at h
    obtain rfl := Option.some.inj h
    exact Any.utf8_ValidString Tryd.laysValid a0 w hs hG
  · rw [if_neg hs] at h
    exact absurd h (by simp)

end Go.Proofs.YtecjnlaomompkaaDoor.T
