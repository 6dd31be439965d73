import Derived.Test.YtfhcolhiolgikaaQBV
import Derived.WideShapes
import Derived.Test.YtfhcolhiolgikaaProg
import Derived.Below
import Derived.Deep.Draws
import Derived.Deep.AppendLies
import Derived.Maps.AppendAt
import Derived.OwnWalk
import Derived.Laws.BytesArg
import Derived.Laws.MakeOwn
import Derived.Laws.OwnMore
import Derived.Deep.OwnRows
import Derived.Tactics
import Derived.Lib.ConvBytes
import Derived.Laws.Slices
import Derived.WalkKit
import Derived.KernelRfl
import Derived.RowKit3
import Derived.Deep.LoopGhost
import Derived.Deep.QuietTactic
import Derived.BigQuiet
import Derived.WideLaws
import Derived.Deep.DeepCutAuto
import Derived.Deep.CutBlock
import Derived.Deep.RegionHeld3
import Derived.Laws.Rows
import Derived.Lib.AppendStr
import Derived.ArgAppend
import Derived.Laws.IdiomCopy
import Derived.OrdersHeld
import Derived.Laws.BitsLemmas
import Derived.RowKit
import Derived.Test.YtfhcolhiolgikaaQBA
import Derived.Test.YtfhcolhiolgikaaQBQ
import Derived.Test.YtfhcolhiolgikaaQBG
/- Texts of this claim, laid together by a program (merge.py): Os. -/
/- Written by hp.py, this session's own program, out of the translation of this seat: Lean functions for the Go functions, and the proof that each call comes to what its Lean function says. -/
namespace Go.Proofs.Ytfhcolhiolgikaa.T
open Go.RowKit Go.Proofs.YtfhcolhiolgikaaW.PrintWords Go.Proofs.YtfhcolhiolgikaaW.PrintLast Go.Proofs.YtfhcolhiolgikaaW.PrintMore
attribute [local go_sem] max2_int min2_int max_two min_two max_three min_three max_four min_four   -- for this text's walks alone
set_option linter.unusedVariables false
set_option linter.unusedSimpArgs false
/-! ### segments and bytes, as arguments -/
open Go.Proofs.Ytfhcolhiolgikaa.Plain
theorem opPost : Opens Try.prog k64 64 (fun _ => True) := by
  have h : Opens Try.prog k64 64 _ := opens_iso (opens_struct2 (P := Try.prog) Try.underlying64 (by kernel_rfl) rfl rfl (opens_int Try.underlying3 (by kernel_rfl)) (opens_slice (P := Try.prog) (t := 23) (e := 3) Try.underlying23 (by kernel_rfl) (opens_int Try.underlying3 (by kernel_rfl)))) _ (fun p => (⟨p.1, p.2⟩ : S64)) (fun _ => rfl)
  exact ⟨h.sz, fun hh => by obtain ⟨v, h1, _⟩ := h.op hh; exact ⟨v, h1, trivial⟩⟩
theorem opTerm : Opens Try.prog k44 44 (fun _ => True) := by
  have h : Opens Try.prog k44 44 _ := opens_iso (opens_struct2 (P := Try.prog) Try.underlying44 (by kernel_rfl) rfl rfl (opens_string Try.underlying9 (by kernel_rfl)) (opens_slice (P := Try.prog) (t := 42) (e := 64) Try.underlying42 (by kernel_rfl) opPost)) _ (fun p => (⟨p.1, p.2⟩ : S44)) (fun _ => rfl)
  exact ⟨h.sz, fun hh => by obtain ⟨v, h1, _⟩ := h.op hh; exact ⟨v, h1, trivial⟩⟩
theorem opSeg : Opens Try.prog (Kd.pair (Kd.slice 9 Kd.string) (Kd.pair (Kd.slice 3 (Kd.int .i64)) (Kd.pair (Kd.slice 3 (Kd.int .i64)) (Kd.pair (Kd.slice 44 k44) Kd.bool)))) 26 (fun _ => True) := by
  have h := opens_struct5 (P := Try.prog) Try.underlying26 (by kernel_rfl) rfl rfl rfl rfl rfl (opens_slice (P := Try.prog) (t := 22) (e := 9) Try.underlying22 (by kernel_rfl) (opens_string Try.underlying9 (by kernel_rfl))) (opens_slice (P := Try.prog) (t := 23) (e := 3) Try.underlying23 (by kernel_rfl) (opens_int Try.underlying3 (by kernel_rfl))) (opens_slice (P := Try.prog) (t := 23) (e := 3) Try.underlying23 (by kernel_rfl) (opens_int Try.underlying3 (by kernel_rfl))) (opens_slice (P := Try.prog) (t := 24) (e := 44) Try.underlying24 (by kernel_rfl) opTerm) (opens_bool Try.underlying4 (by kernel_rfl))
  exact ⟨h.sz, fun hh => by obtain ⟨v, h1, _⟩ := h.op hh; exact ⟨v, h1, trivial⟩⟩
set_option maxRecDepth 100000 in
theorem opSegV {H : Type} {enc : TypeId × Value → H} {W : World} {base : Nat} {held : Bool} {r : Reach} {b0 : Nat} {v : Value} {d : DataW H} {ps : List MemPlace} (hv : Value.okWide Try.prog W r b0 26 v) (h : DataW.Trod enc Try.prog W base (fun _ => true) held 26 v d ps) :
    ∃ (A0 : Option Addr) (c0 : Nat) (ids : List ByteArray) (A1 : Option Addr) (c1 : Nat) (keys : List Int) (A2 : Option Addr) (c2 : Nat) (lens : List Int) (A3 : Option Addr) (c3 : Nat) (terms : List S44) (so : Bool),
      v = .agg #[.slice A0 ids.length c0, .slice A1 keys.length c1, .slice A2 lens.length c2, .slice A3 terms.length c3, .bool so] ∧ Kd.C Kd.string W A0 ids.length ids ∧ ids.length ≤ c0 ∧ Kd.C (Kd.int .i64) W A1 keys.length keys ∧ keys.length ≤ c1 ∧ Kd.C (Kd.int .i64) W A2 lens.length lens ∧ lens.length ≤ c2 ∧ Kd.C k44 W A3 terms.length terms ∧ terms.length ≤ c3 := by
  obtain ⟨cs, rfl, hsz⟩ := Go.WideShapes.okWide_struct Try.underlying26 hv
  obtain ⟨fuel, hf⟩ := h
  obtain ⟨⟨ids, keys, lens, terms, so⟩, ⟨x1, x2, e, ⟨A0, c0, e0, hl0, hC0⟩, ⟨x3, x4, e3, ⟨A1, c1, e1, hl1, hC1⟩, ⟨x5, x6, e5, ⟨A2, c2, e2, hl2, hC2⟩, ⟨x7, x8, e7, ⟨A3, c3, e4, hl3, hC3⟩, h8⟩⟩⟩⟩, _⟩ := opSeg.op hf
  replace h8 : x8 = [.bool so] := h8
  subst h8; subst e0; subst e1; subst e2; subst e4; subst e7; subst e5; subst e3
  refine ⟨A0, c0, ids, A1, c1, keys, A2, c2, lens, A3, c3, terms, so, ?_, hC0, hl0, hC1, hl1, hC2, hl2, hC3, hl3⟩
  obtain ⟨cl⟩ := cs
  simp only [Value.cells] at e
  first | (rw [show cl = _ from e]; rfl) | (simp_all)
end Go.Proofs.Ytfhcolhiolgikaa.T
