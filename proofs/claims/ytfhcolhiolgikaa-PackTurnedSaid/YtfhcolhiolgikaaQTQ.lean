import Derived.Test.YtfhcolhiolgikaaQTV
import Derived.WideShapes
import Derived.Test.YtfhcolhiolgikaaProg
import Derived.Below
import Derived.Deep.Draws
import Derived.Deep.AppendLies
import Derived.Maps.AppendAt
import Derived.OwnWalk
import Derived.Laws.BytesArg
import Derived.Laws.MakeOwn
import Derived.Laws.OwnMore
import Derived.Deep.OwnRows
import Derived.Tactics
import Derived.Lib.ConvBytes
import Derived.Laws.Slices
import Derived.WalkKit
import Derived.KernelRfl
import Derived.RowKit3
import Derived.Deep.LoopGhost
import Derived.Deep.QuietTactic
import Derived.BigQuiet
import Derived.WideLaws
import Derived.Deep.DeepCutAuto
import Derived.Deep.CutBlock
import Derived.Deep.RegionHeld3
import Derived.Laws.Rows
import Derived.Lib.AppendStr
import Derived.ArgAppend
import Derived.Laws.IdiomCopy
import Derived.OrdersHeld
import Derived.Laws.BitsLemmas
import Derived.RowKit
import Derived.Test.YtfhcolhiolgikaaQTA
import Derived.Test.YtfhcolhiolgikaaQTP
import Derived.Test.YtfhcolhiolgikaaQTF
/- Texts of this claim, laid together by a program (merge.py): Os. -/
/- Written by hp.py, this session's own program, out of the translation of this seat: Lean functions for the Go functions, and the proof that each call comes to what its Lean function says. -/
namespace Go.Proofs.Ytfhcolhiolgikaa.T
open Go.RowKit Go.Proofs.YtfhcolhiolgikaaW.PrintWords Go.Proofs.YtfhcolhiolgikaaW.PrintLast Go.Proofs.YtfhcolhiolgikaaW.PrintMore
attribute [local go_sem] max2_int min2_int max_two min_two max_three min_three max_four min_four   -- for this text's walks alone
set_option linter.unusedVariables false
set_option linter.unusedSimpArgs false
/-! ### segments and bytes, as arguments -/
open Go.Proofs.Ytfhcolhiolgikaa.Plain
theorem opPost : Opens Try.prog k64 64 (fun _ => True) := by
 have h : Opens Try.prog k64 64 _ := opens_iso (opens_struct2 (P := Try.prog) Try.underlying64 (by kernel_rfl) rfl rfl (opens_int Try.underlying3 (by kernel_rfl)) (opens_slice (P := Try.prog) (t := 23) (e := 3) Try.underlying23 (by kernel_rfl) (opens_int Try.underlying3 (by kernel_rfl)))) _ (fun p => (⟨p.1, p.2⟩ : S64)) (fun _ => rfl)
 exact ⟨h.sz, fun hh => by obtain ⟨v, h1, _⟩ := h.op hh; exact ⟨v, h1, trivial⟩⟩
theorem byt_wf {l : List Int} (h : ∀ x ∈ l, (Lit.int .u8 x).wf = true) : byt l := fun x hx => by
 have h1 := h x hx
 have e1 : IntKind.u8.min = 0 := by decide
 have e2 : IntKind.u8.max = 255 := by decide
 simp [Lit.wf, e1, e2] at h1
 omega

end Go.Proofs.Ytfhcolhiolgikaa.T
