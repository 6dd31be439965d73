import Derived.Test.YtfhcolhiolgikaaQTV
import Derived.OpenShut
import Derived.WideShapes
import Derived.Test.YtfhcolhiolgikaaProg
import Derived.Below
import Derived.Deep.Draws
import Derived.Deep.AppendLies
import Derived.Maps.AppendAt
import Derived.OwnWalk
import Derived.Laws.BytesArg
import Derived.Laws.MakeOwn
import Derived.Laws.OwnMore
import Derived.Deep.OwnRows
import Derived.Tactics
import Derived.Lib.ConvBytes
import Derived.Laws.Slices
import Derived.WalkKit
import Derived.KernelRfl
import Derived.RowKit3
import Derived.Deep.LoopGhost
import Derived.Deep.QuietTactic
import Derived.BigQuiet
import Derived.WideLaws
import Derived.Deep.DeepCutAuto
import Derived.Deep.CutBlock
import Derived.Deep.RegionHeld3
import Derived.Laws.Rows
import Derived.Lib.AppendStr
import Derived.ArgAppend
import Derived.Laws.IdiomCopy
import Derived.OrdersHeld
import Derived.Laws.BitsLemmas
import Derived.RowKit
import Derived.Test.YtfhcolhiolgikaaQTA
import Derived.Test.YtfhcolhiolgikaaQTQ
import Derived.Test.YtfhcolhiolgikaaQTP
/- Texts of this claim, laid together by a program (merge.py): Oz. -/
/- Written by hp.py, this session's own program, out of the translation of this seat: Lean functions for the Go functions, and the proof that each call comes to what its Lean function says. -/
namespace Go.Proofs.Ytfhcolhiolgikaa.T
open Go.RowKit Go.Proofs.YtfhcolhiolgikaaW.PrintWords Go.Proofs.YtfhcolhiolgikaaW.PrintLast Go.Proofs.YtfhcolhiolgikaaW.PrintMore
attribute [local go_sem] max2_int min2_int max_two min_two max_three min_three max_four min_four   -- for this text's walks alone
set_option linter.unusedVariables false
set_option linter.unusedSimpArgs false
/-! ### segments with what they take, and four bytes, as arguments -/
open Go.Proofs.Ytfhcolhiolgikaa.Plain
theorem b44 : Try.prog.bytesOf 44 = 40 := by kernel_rfl
theorem b64 : Try.prog.bytesOf 64 = 32 := by kernel_rfl
def GdT (t : S44) : Prop := t.f1.length ≤ 4398046511104
def GdS (x : List ByteArray × List Int × List Int × List S44 × Bool) : Prop := (∀ y ∈ x.1, y.size ≤ 9223372036854775807) ∧ x.2.2.2.1.length ≤ 4398046511104 ∧ ∀ t ∈ x.2.2.2.1, t.f1.length ≤ 4398046511104
theorem opPostW : OpensW Try.prog k64 64 (fun _ => True) := opensw_of opPost
theorem opTermW : OpensW Try.prog k44 44 GdT := by
 have h : OpensW Try.prog k44 44 _ := opensw_iso (opensw_struct2 (P := Try.prog) Try.underlying44 (by kernel_rfl) rfl rfl (opensw_of (opens_string Try.underlying9 (by kernel_rfl))) (opensw_slice (P := Try.prog) (t := 42) (e := 64) Try.underlying42 (by kernel_rfl) opPostW)) _ (fun p => (⟨p.1, p.2⟩ : S44)) (fun _ => rfl)
 refine ⟨h.sz, fun hh hw => ?_⟩
 obtain ⟨v, h1, _, h2, _⟩ := h.op hh hw
 refine ⟨v, h1, ?_⟩
 rw [b64] at h2
 have h3 : v.f1.length * 32 < 2 ^ 47 := h2
 unfold GdT
 omega
theorem opSegWd : OpensW Try.prog (Kd.pair (Kd.slice 9 Kd.string) (Kd.pair (Kd.slice 3 (Kd.int .i64)) (Kd.pair (Kd.slice 3 (Kd.int .i64)) (Kd.pair (Kd.slice 44 k44) Kd.bool)))) 26 GdS := by
 have h := opensw_struct5 (P := Try.prog) Try.underlying26 (by kernel_rfl) rfl rfl rfl rfl rfl (opensw_of (opens_slice (P := Try.prog) (t := 22) (e := 9) Try.underlying22 (by kernel_rfl) (opens_string Try.underlying9 (by kernel_rfl)))) (opensw_of (opens_slice (P := Try.prog) (t := 23) (e := 3) Try.underlying23 (by kernel_rfl) (opens_int Try.underlying3 (by kernel_rfl)))) (opensw_of (opens_slice (P := Try.prog) (t := 23) (e := 3) Try.underlying23 (by kernel_rfl) (opens_int Try.underlying3 (by kernel_rfl)))) (opensw_slice (P := Try.prog) (t := 24) (e := 44) Try.underlying24 (by kernel_rfl) opTermW) (opensw_of (opens_bool Try.underlying4 (by kernel_rfl)))
 refine ⟨h.sz, fun hh hw => ?_⟩
 obtain ⟨v, h1, h2, _, _, h3, _⟩ := h.op hh hw
 refine ⟨v, h1, h2.2, ?_, fun t ht => h3.2 t ht⟩
 have h4 := h3.1
 rw [b44] at h4
 have h5 : v.2.2.2.1.length * 40 < 2 ^ 47 := h4
 omega
set_option maxRecDepth 100000 in
theorem opSegW {H : Type} {enc : TypeId × Value → H} {W : World} {base : Nat} {held : Bool} {r : Reach} {b0 : Nat} {v : Value} {d : DataW H} {ps : List MemPlace} (hv : Value.okWide Try.prog W r b0 26 v) (hw : ∀ n ∈ d.weights Try.prog 26, n < 2 ^ 47) (h : DataW.Trod enc Try.prog W base (fun _ => true) held 26 v d ps) :
  ∃ (A0 : Option Addr) (c0 : Nat) (ids : List ByteArray) (A1 : Option Addr) (c1 : Nat) (keys : List Int) (A2 : Option Addr) (c2 : Nat) (lens : List Int) (A3 : Option Addr) (c3 : Nat) (terms : List S44) (so : Bool),
   v = .agg #[.slice A0 ids.length c0, .slice A1 keys.length c1, .slice A2 lens.length c2, .slice A3 terms.length c3, .bool so] ∧ Kd.C Kd.string W A0 ids.length ids ∧ ids.length ≤ c0 ∧ Kd.C (Kd.int .i64) W A1 keys.length keys ∧ keys.length ≤ c1 ∧ Kd.C (Kd.int .i64) W A2 lens.length lens ∧ lens.length ≤ c2 ∧ Kd.C k44 W A3 terms.length terms ∧ terms.length ≤ c3 ∧
    (∀ y ∈ ids, y.size ≤ 9223372036854775807) ∧ terms.length ≤ 4398046511104 ∧ ∀ t ∈ terms, t.f1.length ≤ 4398046511104 := by
 obtain ⟨cs, rfl, hsz⟩ := Go.WideShapes.okWide_struct Try.underlying26 hv
 obtain ⟨fuel, hf⟩ := h
 obtain ⟨⟨ids, keys, lens, terms, so⟩, ⟨x1, x2, e, ⟨A0, c0, e0, hl0, hC0⟩, ⟨x3, x4, e3, ⟨A1, c1, e1, hl1, hC1⟩, ⟨x5, x6, e5, ⟨A2, c2, e2, hl2, hC2⟩, ⟨x7, x8, e7, ⟨A3, c3, e4, hl3, hC3⟩, h8⟩⟩⟩⟩, g1, g2, g3⟩ := opSegWd.op hf hw
 replace h8 : x8 = [.bool so] := h8
 subst h8; subst e0; subst e1; subst e2; subst e4; subst e7; subst e5; subst e3
 refine ⟨A0, c0, ids, A1, c1, keys, A2, c2, lens, A3, c3, terms, so, ?_, hC0, hl0, hC1, hl1, hC2, hl2, hC3, hl3, g1, g2, g3⟩
 obtain ⟨cl⟩ := cs
 simp only [Value.cells] at e
 first | (rw [show cl = _ from e]; rfl) | (simp_all)
set_option maxRecDepth 100000 in
theorem opArr4 {H : Type} {enc : TypeId × Value → H} {W : World} {base : Nat} {held : Bool} {r : Reach} {b0 : Nat} {v : Value} {d : DataW H} {ps : List MemPlace} (hv : Value.okWide Try.prog W r b0 38 v) (h : DataW.Trod enc Try.prog W base (fun _ => true) held 38 v d ps) :
  ∃ (y0 y1 y2 y3 : Int), v = .agg #[.int .u8 y0, .int .u8 y1, .int .u8 y2, .int .u8 y3] ∧ byt [y0, y1, y2, y3] := by
 obtain ⟨cs, rfl, hsz⟩ : ∃ cs, v = .agg cs ∧ cs.size = Try.prog.cellsOf 38 := by
  simp only [Value.okWide, Try.underlying38] at hv
  obtain ⟨cs, h1, h2, _⟩ := hv
  exact ⟨cs, h1, h2⟩
 obtain ⟨fuel, hf⟩ := h
 obtain ⟨xs, m, _, _, hl, hxs, hel⟩ := DataW.trod_array Try.underlying38 hf
 have c5 : Try.prog.cellsOf 5 = 1 := by kernel_rfl
 have key : ∀ i, i < 4 → ∃ z, ((Value.agg cs).cells.toList.drop i).take 1 = [.int .u8 z] ∧ (Lit.int .u8 z).wf = true := fun i hi => by
  have hE := hel i hi
  rw [c5, Nat.mul_one, List.getElem?_eq_getElem (by omega)] at hE
  obtain ⟨z, e1, _, e3⟩ := DataW.trod_int Try.underlying5 hE
  exact ⟨z, e1, e3⟩
 obtain ⟨y0, a0, g0⟩ := key 0 (by decide)
 obtain ⟨y1, a1, g1⟩ := key 1 (by decide)
 obtain ⟨y2, a2, g2⟩ := key 2 (by decide)
 obtain ⟨y3, a3, g3⟩ := key 3 (by decide)
 have h4 : cs.size = 4 := hsz.trans (by kernel_rfl)
 obtain ⟨cl⟩ := cs
 simp only [Value.cells] at a0 a1 a2 a3
 match cl, h4, a0, a1, a2, a3 with
 | [p0, p1, p2, p3], _, a0, a1, a2, a3 =>
  simp only [List.drop_zero, List.drop_succ_cons, List.take_succ_cons, List.take_zero, List.cons.injEq, and_true] at a0 a1 a2 a3
  subst a0; subst a1; subst a2; subst a3
  refine ⟨y0, y1, y2, y3, rfl, byt_wf (fun x hx => ?_)⟩
  simp only [List.mem_cons, List.not_mem_nil, or_false] at hx
  rcases hx with rfl | rfl | rfl | rfl
  ·
   exact g0
  ·
   exact g1
  ·
   exact g2
  ·
   exact g3

end Go.Proofs.Ytfhcolhiolgikaa.T
