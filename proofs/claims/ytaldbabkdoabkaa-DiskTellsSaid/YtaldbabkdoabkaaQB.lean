import Derived.Test.YtaldbabkdoabkaaProg
import Derived.Test.YtaldbabkdoabkaaQV
import Derived.Test.YtaldbabkdoabkaaQA
import Derived.Below
import Derived.Deep.Draws
import Derived.Deep.AppendLies
import Derived.Maps.AppendAt
import Derived.OwnWalk
import Derived.Laws.BytesArg
import Derived.Laws.MakeOwn
import Derived.Laws.OwnMore
import Derived.Deep.OwnRows
import Derived.Tactics
import Derived.Lib.ConvBytes
import Derived.Laws.Slices
import Derived.WalkKit
import Derived.KernelRfl
import Derived.RowKit3
import Derived.Deep.LoopGhost
import Derived.Deep.QuietTactic
import Derived.BigQuiet
import Derived.WideLaws
import Derived.Deep.DeepCutAuto
import Derived.Deep.CutBlock
import Derived.Deep.RegionHeld3
import Derived.Laws.Rows
import Derived.Lib.AppendStr
import Derived.ArgAppend
import Derived.Laws.IdiomCopy
import Derived.OrdersHeld
import Derived.Laws.BitsLemmas
import Derived.RowKit
namespace Go.Proofs.Ytaldbabkdoabkaa.T
open Go.RowKit Go.Proofs.YtaldbabkdoabkaaW.PrintWords Go.Proofs.YtaldbabkdoabkaaW.PrintLast Go.Proofs.YtaldbabkdoabkaaW.PrintMore
attribute [local go_sem] max2_int min2_int max_two min_two max_three min_three max_four min_four   -- for this text's walks alone
set_option linter.unusedVariables false
set_option linter.unusedSimpArgs false
/-! ### files whose bytes are told by their slice alone: a row of files may be sorted, cut and added to without a look at bytes -/
structure SF where
  f0 : ByteArray
  f1 : Option Addr × Nat × Nat
  f2 : Bool
def encSl (x : Option Addr × Nat × Nat) : Value := .slice x.1 x.2.1 x.2.2
def zF : SF := ⟨(⟨#[]⟩ : ByteArray), (none, 0, 0), false⟩
def kF : Kd SF := Kd.iso (Kd.pair Kd.string (Kd.pair (Kd.scalar encSl (fun _ => rfl)) Kd.bool)) (fun x : SF => (x.f0, x.f1, x.f2))
theorem kF_open {w : World} {x : SF} {cs : List Value} (h : kF.K w x cs) : cs = [.string x.f0, encSl x.f1, .bool x.f2] := by
  obtain ⟨_, _, rfl, rfl, ⟨_, _, rfl, rfl, rfl⟩⟩ := h
  exact rfl
theorem kF_openM {w : World} {base : Nat} {ok : Nat → Prop} {x : SF} {cs : List Value} (h : kF.M w base ok x cs) : cs = [.string x.f0, encSl x.f1, .bool x.f2] := by
  obtain ⟨_, _, rfl, rfl, ⟨_, _, rfl, rfl, rfl⟩⟩ := h
  exact rfl
theorem kF_mk (w : World) (x : SF) : kF.K w x [.string x.f0, encSl x.f1, .bool x.f2] := ⟨[.string x.f0], [encSl x.f1, .bool x.f2], rfl, rfl, ⟨[encSl x.f1], [.bool x.f2], rfl, rfl, rfl⟩⟩
theorem kF_mkM (w : World) (base : Nat) (ok : Nat → Prop) (x : SF) : kF.M w base ok x [.string x.f0, encSl x.f1, .bool x.f2] := ⟨[.string x.f0], [encSl x.f1, .bool x.f2], rfl, rfl, ⟨[encSl x.f1], [.bool x.f2], rfl, rfl, rfl⟩⟩
def rd_TF (xs : List SF) (i : Int) : SF := xs.getD i.toNat zF
theorem at_TF {w : World} {A : Option Addr} {n : Nat} {xs : List SF} (h : Kd.C kF w A n xs) (i : Int) (h0 : 0 ≤ i) (h1 : i < n) : ∃ ad, A = some ad ∧ w.cell? (ad.add (i.toNat * 3)) = some (.string (rd_TF xs i).f0) ∧ w.cell? ⟨(ad.add (i.toNat * 3)).block, (ad.add (i.toNat * 3)).off + 1, none⟩ = some (encSl (rd_TF xs i).f1) ∧ w.cell? ⟨(ad.add (i.toNat * 3)).block, (ad.add (i.toNat * 3)).off + 2, none⟩ = some (.bool (rd_TF xs i).f2) := by
  obtain ⟨ad, c, e, _, hK, hc0⟩ := Kd.C_get h zF i h0 h1
  have hc : ∀ j u, c[j]? = some u → w.cell? (ad.add (i.toNat * 3 + j)) = some u := hc0
  obtain rfl := kF_open hK
  exact ⟨ad, e, hc 0 _ rfl, by rw [← add_field _ _ 1 (by omega)]; exact hc 1 _ rfl, by rw [← add_field _ _ 2 (by omega)]; exact hc 2 _ rfl⟩
/-- what a file's slice is, and its bytes -/
def Bears (w : World) (s : SF) (x : S48) : Prop := s.f0 = x.f0 ∧ s.f2 = x.f2 ∧ s.f1.2.1 = x.f1.length ∧ x.f1.length ≤ s.f1.2.2 ∧ (Kd.int .u8).C w s.f1.1 x.f1.length x.f1
def BearsAll (w : World) (fs : List SF) (xs : List S48) : Prop := fs.length = xs.length ∧ ∀ (j : Nat) (s : SF) (x : S48), fs[j]? = some s → xs[j]? = some x → Bears w s x
theorem Bears.below {w w1 : World} {s : SF} {x : S48} (h : Bears w s x) (hb : Below w.heap.size w w1) : Bears w1 s x := ⟨h.1, h.2.1, h.2.2.1, h.2.2.2.1, Kd.C_below h.2.2.2.2 hb⟩
theorem BearsAll.below {w w1 : World} {fs : List SF} {xs : List S48} (h : BearsAll w fs xs) (hb : Below w.heap.size w w1) : BearsAll w1 fs xs := ⟨h.1, fun j s x hs hx => (h.2 j s x hs hx).below hb⟩
theorem k48_of_bears {w : World} {s : SF} {x : S48} (h : Bears w s x) : k48.K w x [.string s.f0, encSl s.f1, .bool s.f2] := by
  obtain ⟨h0, h2, h3, h4, hC⟩ := h
  refine ⟨[.string s.f0], [encSl s.f1, .bool s.f2], rfl, by rw [h0]; rfl, ⟨[encSl s.f1], [.bool s.f2], rfl, ⟨s.f1.1, s.f1.2.2, ?_, h4, hC⟩, by rw [h2]; rfl⟩⟩
  unfold encSl
  rw [h3]
theorem C48_of {w : World} {A : Option Addr} {n : Nat} {fs : List SF} {xs : List S48} (h : Kd.C kF w A n fs) (hb : BearsAll w fs xs) : Kd.C k48 w A n xs := by
  obtain ⟨h1, h2, h3⟩ := h
  refine ⟨by rw [← hb.1]; exact h1, h2, fun hp => ?_⟩
  obtain ⟨ad, e, hr⟩ := h3 hp
  refine ⟨ad, e, fun j x hx => ?_⟩
  have hj : j < fs.length := by rw [hb.1]; exact (List.getElem?_eq_some_iff.1 hx).1
  obtain ⟨cs, hl, hK, hc⟩ := hr j fs[j] (List.getElem?_eq_getElem hj)
  obtain rfl := kF_open hK
  exact ⟨_, rfl, k48_of_bears (hb.2 j fs[j] x (List.getElem?_eq_getElem hj) hx), hc⟩
theorem CF_of {w : World} {A : Option Addr} {n : Nat} {xs : List S48} (h : Kd.C k48 w A n xs) : ∃ fs : List SF, Kd.C kF w A n fs ∧ BearsAll w fs xs := by
  obtain ⟨h1, h2, h3⟩ := h
  by_cases hp : 0 < n
  · obtain ⟨ad, e, hr⟩ := h3 hp
    have hone : ∀ (j : Nat) (hj : j < xs.length), ∃ s : SF, Bears w s xs[j] ∧ ∀ i u, [Value.string s.f0, encSl s.f1, .bool s.f2][i]? = some u → w.cell? (ad.add (j * kF.sz + i)) = some u := by
      intro j hj
      obtain ⟨cs, hl, hK, hc⟩ := hr j xs[j] (List.getElem?_eq_getElem hj)
      obtain ⟨A1, c1, rfl, l1, g1⟩ := k48_open hK
      exact ⟨⟨xs[j].f0, (A1, xs[j].f1.length, c1), xs[j].f2⟩, ⟨rfl, rfl, rfl, l1, g1⟩, hc⟩
    obtain ⟨f, hf⟩ : ∃ f : Nat → SF, ∀ j (hj : j < xs.length), Bears w (f j) xs[j] ∧ ∀ i u, [Value.string (f j).f0, encSl (f j).f1, .bool (f j).f2][i]? = some u → w.cell? (ad.add (j * kF.sz + i)) = some u := by
      refine ⟨fun j => if hj : j < xs.length then (hone j hj).choose else zF, fun j hj => ?_⟩
      simp only [dif_pos hj]
      exact (hone j hj).choose_spec
    refine ⟨(List.range xs.length).map f, ⟨by rw [List.length_map, List.length_range]; exact h1, h2, fun _ => ⟨ad, e, fun j s hs => ?_⟩⟩, by rw [List.length_map, List.length_range], fun j s x hs hx => ?_⟩
    · rw [List.getElem?_map] at hs
      obtain ⟨j', hj', rfl⟩ := Option.map_eq_some_iff.1 hs
      obtain ⟨hlt, rfl⟩ := List.getElem?_eq_some_iff.1 hj'
      simp only [List.length_range] at hlt
      rw [List.getElem_range]
      exact ⟨_, rfl, kF_mk w (f j), (hf j hlt).2⟩
    · rw [List.getElem?_map] at hs
      obtain ⟨j', hj', rfl⟩ := Option.map_eq_some_iff.1 hs
      obtain ⟨hlt, rfl⟩ := List.getElem?_eq_some_iff.1 hj'
      simp only [List.length_range] at hlt
      obtain ⟨hlt2, rfl⟩ := List.getElem?_eq_some_iff.1 hx
      rw [List.getElem_range]
      exact (hf j hlt).1
  · have hn : n = 0 := by omega
    subst hn
    have hx : xs = [] := List.eq_nil_of_length_eq_zero h1
    subst hx
    exact ⟨[], ⟨rfl, h2, fun h => absurd h hp⟩, rfl, fun j s x hs => by simp at hs⟩
/-! bytes that lie in blocks told by ok, and are read as long as these stand -/
def BearsV (w : World) (ok : Nat → Prop) (s : SF) (x : S48) : Prop := s.f0 = x.f0 ∧ s.f2 = x.f2 ∧ Kd.V (Kd.int .u8) 5 w 0 ok (encSl s.f1) x.f1
theorem BearsV.bears {w : World} {ok : Nat → Prop} {s : SF} {x : S48} (h : BearsV w ok s x) : Bears w s x := by
  obtain ⟨h0, h2, hV⟩ := h
  obtain ⟨hn, hc, hC⟩ := Kd.V_reads' hV
  exact ⟨h0, h2, hn, by rw [← hn]; exact hc, hC⟩
theorem BearsV.step {w w1 : World} {ok : Nat → Prop} {s : SF} {x : S48} (h : BearsV w ok s x) (hm : ∀ k, ok k → k < w.heap.size → w1.heap[k]? = w.heap[k]?) : BearsV w1 ok s x := ⟨h.1, h.2.1, Kd.V_step h.2.2 hm⟩
theorem BearsV.below {w w1 : World} {ok : Nat → Prop} {s : SF} {x : S48} (h : BearsV w ok s x) (hb : Below w.heap.size w w1) : BearsV w1 ok s x := ⟨h.1, h.2.1, Kd.V_below h.2.2 hb⟩
theorem BearsV.mono {w : World} {ok ok' : Nat → Prop} {s : SF} {x : S48} (h : BearsV w ok s x) (hk : ∀ k, ok k → ok' k) : BearsV w ok' s x := ⟨h.1, h.2.1, Kd.V_mono h.2.2 hk⟩
def AllV (w : World) (ok : Nat → Prop) (fs : List SF) (xs : List S48) : Prop := fs.length = xs.length ∧ ∀ (j : Nat) (s : SF) (x : S48), fs[j]? = some s → xs[j]? = some x → BearsV w ok s x
theorem AllV.all {w : World} {ok : Nat → Prop} {fs : List SF} {xs : List S48} (h : AllV w ok fs xs) : BearsAll w fs xs := ⟨h.1, fun j s x hs hx => (h.2 j s x hs hx).bears⟩
theorem AllV.step {w w1 : World} {ok : Nat → Prop} {fs : List SF} {xs : List S48} (h : AllV w ok fs xs) (hm : ∀ k, ok k → k < w.heap.size → w1.heap[k]? = w.heap[k]?) : AllV w1 ok fs xs := ⟨h.1, fun j s x hs hx => (h.2 j s x hs hx).step hm⟩
theorem AllV.below {w w1 : World} {ok : Nat → Prop} {fs : List SF} {xs : List S48} (h : AllV w ok fs xs) (hb : Below w.heap.size w w1) : AllV w1 ok fs xs := ⟨h.1, fun j s x hs hx => (h.2 j s x hs hx).below hb⟩
/-- a row of files of one's own, whose bytes lie in ok: a view of files -/
theorem V48_of {w : World} {base : Nat} {ok : Nat → Prop} {v : Value} {fs : List SF} {xs : List S48} (h : Kd.R kF 48 w base ok v fs) (ha : AllV w ok fs xs) (b : Nat) : Kd.V k48 48 w b ok v xs := by
  obtain ⟨A, c, rfl, hl, hF⟩ := Kd.R_V (base' := 0) h
  refine ⟨A, c, by rw [ha.1], by rw [← ha.1]; exact hl, fun W' hW => ?_⟩
  rw [← ha.1]
  exact C48_of (hF W' hW) (ha.step hW).all
end Go.Proofs.Ytaldbabkdoabkaa.T
