/- Written by hp.py, this session's own program, out of the translation of this seat: Lean functions for the Go functions, and the proof that each call comes to what its Lean function says. -/
import Derived.Test.YtldojbonaecngaaProg
import Derived.Below
import Derived.Deep.Matrix
import Derived.Deep.Grids
import Derived.SliceStrings
import Derived.Deep.Draws
import Derived.Deep.AppendLies
import Derived.Maps.AppendAt
import Derived.OwnWalk
import Derived.Laws.BytesArg
import Derived.Laws.MakeOwn
import Derived.Laws.OwnMore
import Derived.Deep.OwnRows
import Derived.Tactics
import Derived.Lib.ConvBytes
import Derived.Laws.Slices
import Derived.WalkKit
import Derived.KernelRfl
import Derived.RowKit3
import Derived.Deep.LoopGhost
import Derived.Deep.QuietTactic
import Derived.BigQuiet
import Derived.WideLaws
import Derived.Deep.DeepCutAuto
import Derived.Deep.CutBlock
import Derived.Deep.RegionHeld3
import Derived.Laws.Rows
import Derived.Lib.AppendStr
import Derived.ArgAppend
import Derived.Laws.IdiomCopy
import Derived.OrdersHeld
import Derived.Laws.BitsLemmas
import Derived.RowKit
import Derived.Test.YtldojbonaecngaaWWords
import Derived.Test.YtldojbonaecngaaWLast
import Derived.Test.YtldojbonaecngaaWTab
import Derived.Test.YtldojbonaecngaaWFour
import Derived.Test.YtldojbonaecngaaWQPut
import Derived.Test.YtldojbonaecngaaWApart
import Derived.Test.YtldojbonaecngaaWArr
import Derived.Test.YtldojbonaecngaaWZeros
import Derived.Test.YtldojbonaecngaaWFoot
import Derived.Test.YtldojbonaecngaaWKept
import Derived.Test.YtldojbonaecngaaWShare
import Derived.Test.YtldojbonaecngaaWN
import Derived.Test.YtldojbonaecngaaWFootNe
import Derived.Test.YtldojbonaecngaaWAt
import Derived.Test.YtldojbonaecngaaWEqStruct
import Derived.Test.YtldojbonaecngaaWRepsOne
import Derived.Test.YtldojbonaecngaaWInv
import Derived.Test.YtldojbonaecngaaWInvWords
import Derived.Test.YtldojbonaecngaaWGuard
import Derived.Test.YtldojbonaecngaaWNEv
import Derived.Test.YtldojbonaecngaaWMore
import Derived.Test.YtldojbonaecngaaTx0
namespace Go.Proofs.Ytldojbonaecngaa.T
open Go.RowKit Go.Proofs.YtldojbonaecngaaW.PrintWords Go.Proofs.YtldojbonaecngaaW.PrintLast Go.Proofs.YtldojbonaecngaaW.PrintMore
attribute [local go_sem] max2_int min2_int max_two min_two max_three min_three max_four min_four   -- for this text's walks alone
set_option linter.unusedVariables false
set_option linter.unusedSimpArgs false
/-! ### arguments that are slices (of numbers, bools, strings, slices of numbers or bools): what the call reads of them -/
section
open Go.Deep
variable {H : Type} {enc : TypeId × Value → H} {P : Program} {W : World} {base : Nat} {held : Bool} {t e q : TypeId} {a : Option Addr} {len cap : Nat} {d : DataW H} {ps : List MemPlace}
theorem C_of_fn {β : Type} {encb : β → Value} {h1 : ∀ x, (encb x).oneCell' = true} (dflt : β) (A : Option Addr) (n : Nat) (Z : Nat → β) (hn : n ≤ 9223372036854775807) (h : 0 < n → ∃ ad, A = some ad ∧ ∀ i, i < n → W.cell? (ad.add i) = some (encb (Z i))) :
    (Kd.scalar encb h1).C W A n ((List.range n).map Z) := by
  refine Kd.C_of_reads (d := dflt) ⟨by simp, hn, fun hp => ?_⟩
  obtain ⟨ad, e, hc⟩ := h hp
  refine ⟨ad, e, fun j hj => ?_⟩
  rw [hc j hj]
  congr 2
  simp [List.getD_eq_getElem?_getD, hj]
theorem op_ints {k : IntKind} (ht : P.underlying t = some (.slice e)) (he : P.underlying e = some (.int k)) (hc : P.cellsOf e = 1) (h : DataW.Trod enc P W base (fun _ => true) held t (.slice a len cap) d ps) :
    ∃ l : List Int, len = l.length ∧ (Kd.int k).C W a l.length l ∧ l.length ≤ cap ∧ l.length ≤ 9223372036854775807 ∧ ∀ x ∈ l, (Lit.int k x).wf = true := by
  obtain ⟨fuel, hf⟩ := h
  rcases ChangeShapes.open_ints ht he hc hf with ⟨hcs, _⟩ | ⟨x, l, c, zs, hcs, _, hl, hm, hz, _, hcell, hwz⟩
  · simp [Value.cells] at hcs
    obtain ⟨rfl, rfl, rfl⟩ := hcs
    exact ⟨[], rfl, ⟨rfl, by decide, fun h => absurd h (by decide)⟩, Nat.le_refl _, by decide, by simp⟩
  · simp [Value.cells] at hcs
    obtain ⟨rfl, rfl, rfl⟩ := hcs
    simp only [if_true] at hz
    have hm' : cap ≤ 9223372036854775807 := hm
    refine ⟨(List.range len).map fun i => zs.getD i 0, by simp, ?_, by simpa using hl, by simp; omega, ?_⟩
    · rw [List.length_map, List.length_range]
      exact C_of_fn (0 : Int) _ _ _ (by omega) fun _ => ⟨x, rfl, fun i hi => hcell i (by omega)⟩
    · intro y hy
      obtain ⟨i, hi, rfl⟩ := List.mem_map.1 hy
      have hi' := List.mem_range.1 hi
      refine hwz _ ?_
      rw [List.getD_eq_getElem?_getD, List.getElem?_eq_getElem (by omega)]
      exact List.getElem_mem _
theorem op_bools (ht : P.underlying t = some (.slice e)) (he : P.underlying e = some .bool) (hc : P.cellsOf e = 1) (h : DataW.Trod enc P W base (fun _ => true) held t (.slice a len cap) d ps) :
    ∃ l : List Bool, len = l.length ∧ Kd.bool.C W a l.length l ∧ l.length ≤ cap ∧ l.length ≤ 9223372036854775807 := by
  obtain ⟨fuel, hf⟩ := h
  rcases open_bools ht he hc hf with ⟨hcs, _⟩ | ⟨x, l, c, B, hcs, _, hl, hm, _, hcell⟩
  · simp [Value.cells] at hcs
    obtain ⟨rfl, rfl, rfl⟩ := hcs
    exact ⟨[], rfl, ⟨rfl, by decide, fun h => absurd h (by decide)⟩, Nat.le_refl _, by decide⟩
  · simp [Value.cells] at hcs
    obtain ⟨rfl, rfl, rfl⟩ := hcs
    have hm' : cap ≤ 9223372036854775807 := hm
    refine ⟨(List.range len).map B, by simp, ?_, by simpa using hl, by simp; omega⟩
    rw [List.length_map, List.length_range]
    exact C_of_fn false _ _ _ (by omega) fun _ => ⟨x, rfl, fun i hi => hcell i (by omega)⟩
theorem op_strings (ht : P.underlying t = some (.slice e)) (he : P.underlying e = some .string) (hc : P.cellsOf e = 1) (h : DataW.Trod enc P W base (fun _ => true) held t (.slice a len cap) d ps) :
    ∃ l : List ByteArray, len = l.length ∧ Kd.string.C W a l.length l ∧ l.length ≤ cap ∧ l.length ≤ 9223372036854775807 ∧ ∀ s ∈ l, s.size ≤ 9223372036854775807 := by
  obtain ⟨fuel, hf⟩ := h
  rcases ChangeShapes.open_strings ht he hc hf with ⟨hcs, _⟩ | ⟨x, l, c, ss, hcs, _, hl, hm, hz, _, hcell, hs⟩
  · simp [Value.cells] at hcs
    obtain ⟨rfl, rfl, rfl⟩ := hcs
    exact ⟨[], rfl, ⟨rfl, by decide, fun h => absurd h (by decide)⟩, Nat.le_refl _, by decide, by simp⟩
  · simp [Value.cells] at hcs
    obtain ⟨rfl, rfl, rfl⟩ := hcs
    simp only [if_true] at hz
    have hm' : cap ≤ 9223372036854775807 := hm
    refine ⟨(List.range len).map fun i => ss.getD i ByteArray.empty, by simp, ?_, by simpa using hl, by simp; omega, ?_⟩
    · rw [List.length_map, List.length_range]
      exact C_of_fn ByteArray.empty _ _ _ (by omega) fun _ => ⟨x, rfl, fun i hi => hcell i (by omega)⟩
    · intro y hy
      obtain ⟨i, hi, rfl⟩ := List.mem_map.1 hy
      have hi' := List.mem_range.1 hi
      refine hs _ ?_
      rw [List.getD_eq_getElem?_getD, List.getElem?_eq_getElem (by omega)]
      exact List.getElem_mem _
theorem C_rows {β : Type} {dd : Kd β} (A : Option Addr) (n : Nat) (F : Nat → List β) (hn : n ≤ 9223372036854775807) (h : 0 < n → ∃ ad, A = some ad ∧ ∀ i, i < n → ∃ Ai ci, W.cell? (ad.add i) = some (.slice Ai (F i).length ci) ∧ (F i).length ≤ ci ∧ dd.C W Ai (F i).length (F i)) :
    (Kd.slice e dd).C W A n ((List.range n).map F) := by
  refine ⟨by simp, hn, fun hp => ?_⟩
  obtain ⟨ad, ea, hc⟩ := h hp
  refine ⟨ad, ea, fun j p hj => ?_⟩
  obtain ⟨hl, hp⟩ := List.getElem?_eq_some_iff.1 hj
  have hl' : j < n := by simpa using hl
  simp at hp
  subst hp
  obtain ⟨Ai, ci, h1, h2, h3⟩ := hc j hl'
  refine ⟨[.slice Ai (F j).length ci], rfl, ⟨Ai, ci, rfl, h2, h3⟩, fun i u hu => ?_⟩
  obtain ⟨hi, hu'⟩ := List.getElem?_eq_some_iff.1 hu
  obtain rfl : i = 0 := by simpa using hi
  subst hu'
  have : j * (Kd.slice e dd).sz + 0 = j := by show j * 1 + 0 = j; omega
  rw [this]
  exact h1
theorem op_int_rows {k : IntKind} (ht : P.underlying t = some (.slice e)) (he : P.underlying e = some (.slice q)) (hq : P.underlying q = some (.int k)) (ce : P.cellsOf e = 1) (cq : P.cellsOf q = 1) (h : DataW.Trod enc P W base (fun _ => true) held t (.slice a len cap) d ps) :
    ∃ l : List (List Int), len = l.length ∧ (Kd.slice q (Kd.int k)).C W a l.length l ∧ l.length ≤ cap ∧ l.length ≤ 9223372036854775807 ∧ ∀ r ∈ l, r.length ≤ 9223372036854775807 := by
  obtain ⟨fuel, hf⟩ := h
  rcases open_int_rows ht he hq ce cq hf with ⟨hcs, _⟩ | ⟨x, l, c, A, L, C, Z, hcs, _, hl, hm, _, hall⟩
  · simp [Value.cells] at hcs
    obtain ⟨rfl, rfl, rfl⟩ := hcs
    exact ⟨[], rfl, ⟨rfl, by decide, fun h => absurd h (by decide)⟩, Nat.le_refl _, by decide, by simp⟩
  · simp [Value.cells] at hcs
    obtain ⟨rfl, rfl, rfl⟩ := hcs
    have hm' : cap ≤ 9223372036854775807 := hm
    have each : ∀ i, i < len → ∃ Ai ci, W.cell? (x.add i) = some (.slice Ai ((List.range (L i)).map fun j => (Z i).getD j 0).length ci) ∧ ((List.range (L i)).map fun j => (Z i).getD j 0).length ≤ ci ∧ (Kd.int k).C W Ai ((List.range (L i)).map fun j => (Z i).getD j 0).length ((List.range (L i)).map fun j => (Z i).getD j 0) := by
      intro i hi
      obtain ⟨h1, h2, h3, h4, _, h6, h7⟩ := hall i (by omega)
      have h3' : C i ≤ 9223372036854775807 := h3
      rw [List.length_map, List.length_range]
      refine ⟨A i, C i, h1, h2, C_of_fn (0 : Int) _ _ _ (by omega) fun hp => ?_⟩
      cases hA : A i with
      | none => have := h6 hA; omega
      | some a' => exact ⟨a', rfl, fun j hj => (h7 a' hA).2 j (by omega)⟩
    refine ⟨(List.range len).map fun i => (List.range (L i)).map fun j => (Z i).getD j 0, by simp, ?_, by simpa using hl, by simp; omega, ?_⟩
    · rw [List.length_map, List.length_range]
      exact C_rows _ _ _ (by omega) fun _ => ⟨x, rfl, each⟩
    · intro r hr
      obtain ⟨i, hi, rfl⟩ := List.mem_map.1 hr
      obtain ⟨h1, h2, h3, _⟩ := hall i (by have := List.mem_range.1 hi; omega)
      have h3' : C i ≤ 9223372036854775807 := h3
      simp
      omega
theorem op_bool_rows (ht : P.underlying t = some (.slice e)) (he : P.underlying e = some (.slice q)) (hq : P.underlying q = some .bool) (ce : P.cellsOf e = 1) (cq : P.cellsOf q = 1) (h : DataW.Trod enc P W base (fun _ => true) held t (.slice a len cap) d ps) :
    ∃ l : List (List Bool), len = l.length ∧ (Kd.slice q Kd.bool).C W a l.length l ∧ l.length ≤ cap ∧ l.length ≤ 9223372036854775807 ∧ ∀ r ∈ l, r.length ≤ 9223372036854775807 := by
  obtain ⟨fuel, hf⟩ := h
  rcases open_bool_rows ht he hq ce cq hf with ⟨hcs, _⟩ | ⟨x, l, c, A, L, C, B, hcs, _, hl, hm, _, hall⟩
  · simp [Value.cells] at hcs
    obtain ⟨rfl, rfl, rfl⟩ := hcs
    exact ⟨[], rfl, ⟨rfl, by decide, fun h => absurd h (by decide)⟩, Nat.le_refl _, by decide, by simp⟩
  · simp [Value.cells] at hcs
    obtain ⟨rfl, rfl, rfl⟩ := hcs
    have hm' : cap ≤ 9223372036854775807 := hm
    have each : ∀ i, i < len → ∃ Ai ci, W.cell? (x.add i) = some (.slice Ai ((List.range (L i)).map (B i)).length ci) ∧ ((List.range (L i)).map (B i)).length ≤ ci ∧ Kd.bool.C W Ai ((List.range (L i)).map (B i)).length ((List.range (L i)).map (B i)) := by
      intro i hi
      obtain ⟨h1, h2, h3, h6, h7⟩ := hall i (by omega)
      have h3' : C i ≤ 9223372036854775807 := h3
      rw [List.length_map, List.length_range]
      refine ⟨A i, C i, h1, h2, C_of_fn false _ _ _ (by omega) fun hp => ?_⟩
      cases hA : A i with
      | none => have := h6 hA; omega
      | some a' => exact ⟨a', rfl, fun j hj => (h7 a' hA).2 j (by omega)⟩
    refine ⟨(List.range len).map fun i => (List.range (L i)).map (B i), by simp, ?_, by simpa using hl, by simp; omega, ?_⟩
    · rw [List.length_map, List.length_range]
      exact C_rows _ _ _ (by omega) fun _ => ⟨x, rfl, each⟩
    · intro r hr
      obtain ⟨i, hi, rfl⟩ := List.mem_map.1 hr
      obtain ⟨h1, h2, h3, _⟩ := hall i (by have := List.mem_range.1 hi; omega)
      have h3' : C i ≤ 9223372036854775807 := h3
      simp
      omega
end

end Go.Proofs.Ytldojbonaecngaa.T
