import Derived.Test.YtfhcolhiolgikaaQOV
import Derived.SliceStrings
import Derived.ChangeSame
import Derived.Deep.Slices
import Derived.Test.YtfhcolhiolgikaaProg
import Derived.Below
import Derived.Deep.Draws
import Derived.Deep.AppendLies
import Derived.Maps.AppendAt
import Derived.OwnWalk
import Derived.Laws.BytesArg
import Derived.Laws.MakeOwn
import Derived.Laws.OwnMore
import Derived.Deep.OwnRows
import Derived.Tactics
import Derived.Lib.ConvBytes
import Derived.Laws.Slices
import Derived.WalkKit
import Derived.KernelRfl
import Derived.RowKit3
import Derived.Deep.LoopGhost
import Derived.Deep.QuietTactic
import Derived.BigQuiet
import Derived.WideLaws
import Derived.Deep.DeepCutAuto
import Derived.Deep.CutBlock
import Derived.Deep.RegionHeld3
import Derived.Laws.Rows
import Derived.Lib.AppendStr
import Derived.ArgAppend
import Derived.Laws.IdiomCopy
import Derived.OrdersHeld
import Derived.Laws.BitsLemmas
import Derived.RowKit
import Derived.Test.YtfhcolhiolgikaaQOA
/- Texts of this claim, laid together by a program (merge.py): Op. -/
/- Written by hp.py, this session's own program, out of the translation of this seat: Lean functions for the Go functions, and the proof that each call comes to what its Lean function says. -/
namespace Go.Proofs.Ytfhcolhiolgikaa.T
open Go.RowKit Go.Proofs.YtfhcolhiolgikaaW.PrintWords Go.Proofs.YtfhcolhiolgikaaW.PrintLast Go.Proofs.YtfhcolhiolgikaaW.PrintMore
attribute [local go_sem] max2_int min2_int max_two min_two max_three min_three max_four min_four   -- for this text's walks alone
set_option linter.unusedVariables false
set_option linter.unusedSimpArgs false
/-! ### arguments of whatever kind: what the call reads of them -/
section
open Go.Deep Go.ChangeShapes Go.WideShapes
/-- whatever reads as a datum of type t reads as a value of kind d -/
structure Opens {α : Type} (P : Program) (d : Kd α) (t : TypeId) (good : α → Prop) : Prop where
 sz : P.cellsOf t = d.sz
 op : ∀ {H : Type} {enc : TypeId × Value → H} {W : World} {base : Nat} {held : Bool} {fuel : Nat} {cs : List Value} {x : DataW H × List MemPlace}, DataW.trod enc P W base (fun _ => true) held fuel t cs = some x → ∃ v, d.K W v cs ∧ good v
variable {α β γ δ ε : Type} {P : Program} {a : Kd α} {b : Kd β} {c : Kd γ} {dd : Kd δ} {ee : Kd ε} {ga : α → Prop} {gb : β → Prop} {gc : γ → Prop} {gd : δ → Prop} {ge : ε → Prop} {t e : TypeId}
theorem opens_int {k : IntKind} (ht : P.underlying t = some (.int k)) (hc : P.cellsOf t = 1) : Opens P (Kd.int k) t (fun z => (Lit.int k z).wf = true) := by
 refine ⟨hc, fun h => ?_⟩
 obtain ⟨z, rfl, _, hz⟩ := DataW.trod_int ht h
 exact ⟨z, rfl, hz⟩
theorem list_of {Q : Nat → α → Prop} : ∀ (n : Nat), (∀ i, i < n → ∃ x, Q i x) → ∃ l : List α, l.length = n ∧ ∀ i x, l[i]? = some x → Q i x
 | 0, _ => ⟨[], rfl, fun i x h => by simp at h⟩
 | n + 1, h => by
  obtain ⟨l, hl, hq⟩ := list_of n (fun i hi => h i (by omega))
  obtain ⟨x, hx⟩ := h n (by omega)
  refine ⟨l ++ [x], by simp [hl], fun i y hy => ?_⟩
  rcases Nat.lt_or_ge i n with hi | hi
  ·
   rw [List.getElem?_append_left (by omega)] at hy
   exact hq i y hy
  ·
   have : i = n := by have := (List.getElem?_eq_some_iff.1 hy).1; simp at this; omega
   subst this
   rw [← hl, List.getElem?_append_right (Nat.le_refl _)] at hy
   simp at hy
   subst hy
   rw [← hl] at hx
   rw [← hl]
   exact hx
theorem opens_slice (ht : P.underlying t = some (.slice e)) (hc : P.cellsOf t = 1) (E : Opens P a e ga) : Opens P (Kd.slice e a) t (fun l => l.length ≤ 9223372036854775807 ∧ ∀ x ∈ l, ga x) := by
 refine ⟨hc, fun h => ?_⟩
 rename_i H enc W base held fuel cs x
 rcases open_slice ht h with ⟨rfl, _⟩ | ⟨ad, len, cap, m, n, D, Pl, rfl, hb, hl, hm, hmm, _, hi⟩
 ·
  exact ⟨[], ⟨none, 0, rfl, Nat.le_refl _, rfl, by simp, fun h => absurd h (by simp)⟩, by simp, fun x hx => by cases hx⟩
 ·
  have hmm' : m = cap := by simpa using hmm
  have hm' : cap ≤ 9223372036854775807 := hm
  obtain ⟨l, hll, hq⟩ := list_of (Q := fun i (v : α) => (∃ cs', W.cells? base (ad.add (i * P.cellsOf e)) (P.cellsOf e) = some cs' ∧ a.K W v cs') ∧ ga v) len (fun i hil => by
   obtain ⟨cs', h1, h2⟩ := hi i (by omega)
   obtain ⟨v, h3, h4⟩ := E.op h2
   exact ⟨v, ⟨cs', h1, h3⟩, h4⟩)
  subst hll
  refine ⟨l, ⟨some ad, cap, rfl, hl, rfl, by omega, fun _ => ⟨ad, rfl, fun j p hj => ?_⟩⟩, by omega, fun y hy => ?_⟩
  ·
   obtain ⟨⟨cs', h1, h2⟩, _⟩ := hq j p hj
   obtain ⟨_, hcl, hat⟩ := World.cells?_some h1
   refine ⟨cs', a.K_len h2, h2, fun i u hu => ?_⟩
   have hi' : i < cs'.length := (List.getElem?_eq_some_iff.1 hu).1
   have := hat i (by omega)
   rw [E.sz] at this
   rw [← Go.Deep.add_add, this, hu]
  ·
   obtain ⟨j, hj, rfl⟩ := List.getElem_of_mem hy
   exact (hq j _ (List.getElem?_eq_getElem hj)).2
/-- at a slice argument -/
theorem opens_slice_arg {ga' : List α → Prop} (h : Opens P (Kd.slice e a) t ga') {H : Type} {enc : TypeId × Value → H} {W : World} {base : Nat} {held : Bool} {A : Option Addr} {len cap : Nat} {d : DataW H} {ps : List MemPlace} (hh : DataW.Trod enc P W base (fun _ => true) held t (.slice A len cap) d ps) : ∃ l : List α, len = l.length ∧ a.C W A l.length l ∧ l.length ≤ cap ∧ ga' l := by
 obtain ⟨fuel, hf⟩ := hh
 obtain ⟨l, ⟨A', c', he, h1, h2⟩, hg⟩ := h.op hf
 simp [Value.cells] at he
 obtain ⟨rfl, rfl, rfl⟩ := he
 exact ⟨l, rfl, h2, h1, hg⟩
end

end Go.Proofs.Ytfhcolhiolgikaa.T
