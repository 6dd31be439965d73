import Derived.Test.YtfhcolhiolgikaaQTV
import Derived.SliceStrings
import Derived.ChangeSame
import Derived.Deep.Slices
import Derived.Test.YtfhcolhiolgikaaProg
import Derived.Below
import Derived.Deep.Draws
import Derived.Deep.AppendLies
import Derived.Maps.AppendAt
import Derived.OwnWalk
import Derived.Laws.BytesArg
import Derived.Laws.MakeOwn
import Derived.Laws.OwnMore
import Derived.Deep.OwnRows
import Derived.Tactics
import Derived.Lib.ConvBytes
import Derived.Laws.Slices
import Derived.WalkKit
import Derived.KernelRfl
import Derived.RowKit3
import Derived.Deep.LoopGhost
import Derived.Deep.QuietTactic
import Derived.BigQuiet
import Derived.WideLaws
import Derived.Deep.DeepCutAuto
import Derived.Deep.CutBlock
import Derived.Deep.RegionHeld3
import Derived.Laws.Rows
import Derived.Lib.AppendStr
import Derived.ArgAppend
import Derived.Laws.IdiomCopy
import Derived.OrdersHeld
import Derived.Laws.BitsLemmas
import Derived.RowKit
import Derived.Test.YtfhcolhiolgikaaQTA
/- Texts of this claim, laid together by a program (merge.py): Op, Ow. -/
/- Written by hp.py, this session's own program, out of the translation of this seat: Lean functions for the Go functions, and the proof that each call comes to what its Lean function says. -/
namespace Go.Proofs.Ytfhcolhiolgikaa.T
open Go.RowKit Go.Proofs.YtfhcolhiolgikaaW.PrintWords Go.Proofs.YtfhcolhiolgikaaW.PrintLast Go.Proofs.YtfhcolhiolgikaaW.PrintMore
attribute [local go_sem] max2_int min2_int max_two min_two max_three min_three max_four min_four   -- for this text's walks alone
set_option linter.unusedVariables false
set_option linter.unusedSimpArgs false
/-! ### arguments of whatever kind: what the call reads of them -/
section
open Go.Deep Go.ChangeShapes Go.WideShapes
/-- whatever reads as a datum of type t reads as a value of kind d -/
structure Opens {α : Type} (P : Program) (d : Kd α) (t : TypeId) (good : α → Prop) : Prop where
 sz : P.cellsOf t = d.sz
 op : ∀ {H : Type} {enc : TypeId × Value → H} {W : World} {base : Nat} {held : Bool} {fuel : Nat} {cs : List Value} {x : DataW H × List MemPlace}, DataW.trod enc P W base (fun _ => true) held fuel t cs = some x → ∃ v, d.K W v cs ∧ good v
variable {α β γ δ ε : Type} {P : Program} {a : Kd α} {b : Kd β} {c : Kd γ} {dd : Kd δ} {ee : Kd ε} {ga : α → Prop} {gb : β → Prop} {gc : γ → Prop} {gd : δ → Prop} {ge : ε → Prop} {t e : TypeId}
theorem opens_int {k : IntKind} (ht : P.underlying t = some (.int k)) (hc : P.cellsOf t = 1) : Opens P (Kd.int k) t (fun z => (Lit.int k z).wf = true) := by
 refine ⟨hc, fun h => ?_⟩
 obtain ⟨z, rfl, _, hz⟩ := DataW.trod_int ht h
 exact ⟨z, rfl, hz⟩
theorem opens_bool (ht : P.underlying t = some .bool) (hc : P.cellsOf t = 1) : Opens P Kd.bool t (fun _ => True) := by
 refine ⟨hc, fun h => ?_⟩
 obtain ⟨z, rfl, _⟩ := DataW.trod_bool ht h
 exact ⟨z, rfl, trivial⟩
theorem opens_string (ht : P.underlying t = some .string) (hc : P.cellsOf t = 1) : Opens P Kd.string t (fun s => s.size ≤ 9223372036854775807) := by
 refine ⟨hc, fun h => ?_⟩
 obtain ⟨z, rfl, _, hz⟩ := DataW.trod_string ht h
 exact ⟨z, rfl, hz⟩
theorem opens_iso (h : Opens P a t ga) (f : β → α) (g : α → β) (hfg : ∀ x, f (g x) = x) : Opens P (Kd.iso a f) t (fun y => ga (f y)) := by
 refine ⟨h.sz, fun hh => ?_⟩
 obtain ⟨v, hK, hg⟩ := h.op hh
 exact ⟨g v, by show a.K _ (f (g v)) _; rw [hfg]; exact hK, by rw [hfg]; exact hg⟩
theorem opens_struct2 {f0 f1 : Field} (hs : P.underlying t = some (.struct #[f0, f1])) (hC : P.cellsOf t = a.sz + b.sz) (o0 : f0.offset = 0) (o1 : f1.offset = a.sz) (A : Opens P a f0.type ga) (B : Opens P b f1.type gb) : Opens P (Kd.pair a b) t (fun x => ga x.1 ∧ gb x.2) := by
 refine ⟨hC, fun h => ?_⟩
 rename_i H enc W base held fuel cs x
 obtain ⟨xs, n, _, _, hl, hlen, hf⟩ := DataW.trod_struct hs h
 have hf' : ∀ (j : Nat) (f : Field), #[f0, f1][j]? = some f → ∃ y, DataW.trod enc P W base (fun _ => true) held n f.type ((cs.drop f.offset).take (P.cellsOf f.type)) = some y := fun j f hj => by
  have h1 := hf j f hj
  have hj' : j < xs.length := by rw [hlen]; exact (Array.getElem?_eq_some_iff.1 hj).1
  exact ⟨xs[j], by rw [h1, List.getElem?_eq_getElem hj']⟩
 obtain ⟨y0, h0⟩ := hf' 0 f0 rfl
 obtain ⟨y1, h1⟩ := hf' 1 f1 rfl
 rw [o0, A.sz, List.drop_zero] at h0
 rw [o1, B.sz] at h1
 obtain ⟨v0, k0, g0⟩ := A.op h0
 obtain ⟨v1, k1, g1⟩ := B.op h1
 refine ⟨(v0, v1), ⟨_, _, ?_, k0, k1⟩, g0, g1⟩
 rw [List.take_of_length_le (by rw [List.length_drop]; omega : (cs.drop a.sz).length ≤ b.sz), List.take_append_drop]
theorem list_of {Q : Nat → α → Prop} : ∀ (n : Nat), (∀ i, i < n → ∃ x, Q i x) → ∃ l : List α, l.length = n ∧ ∀ i x, l[i]? = some x → Q i x
 | 0, _ => ⟨[], rfl, fun i x h => by simp at h⟩
 | n + 1, h => by
  obtain ⟨l, hl, hq⟩ := list_of n (fun i hi => h i (by omega))
  obtain ⟨x, hx⟩ := h n (by omega)
  refine ⟨l ++ [x], by simp [hl], fun i y hy => ?_⟩
  rcases Nat.lt_or_ge i n with hi | hi
  ·
   rw [List.getElem?_append_left (by omega)] at hy
   exact hq i y hy
  ·
   have : i = n := by have := (List.getElem?_eq_some_iff.1 hy).1; simp at this; omega
   subst this
   rw [← hl, List.getElem?_append_right (Nat.le_refl _)] at hy
   simp at hy
   subst hy
   rw [← hl] at hx
   rw [← hl]
   exact hx
theorem opens_slice (ht : P.underlying t = some (.slice e)) (hc : P.cellsOf t = 1) (E : Opens P a e ga) : Opens P (Kd.slice e a) t (fun l => l.length ≤ 9223372036854775807 ∧ ∀ x ∈ l, ga x) := by
 refine ⟨hc, fun h => ?_⟩
 rename_i H enc W base held fuel cs x
 rcases open_slice ht h with ⟨rfl, _⟩ | ⟨ad, len, cap, m, n, D, Pl, rfl, hb, hl, hm, hmm, _, hi⟩
 ·
  exact ⟨[], ⟨none, 0, rfl, Nat.le_refl _, rfl, by simp, fun h => absurd h (by simp)⟩, by simp, fun x hx => by cases hx⟩
 ·
  have hmm' : m = cap := by simpa using hmm
  have hm' : cap ≤ 9223372036854775807 := hm
  obtain ⟨l, hll, hq⟩ := list_of (Q := fun i (v : α) => (∃ cs', W.cells? base (ad.add (i * P.cellsOf e)) (P.cellsOf e) = some cs' ∧ a.K W v cs') ∧ ga v) len (fun i hil => by
   obtain ⟨cs', h1, h2⟩ := hi i (by omega)
   obtain ⟨v, h3, h4⟩ := E.op h2
   exact ⟨v, ⟨cs', h1, h3⟩, h4⟩)
  subst hll
  refine ⟨l, ⟨some ad, cap, rfl, hl, rfl, by omega, fun _ => ⟨ad, rfl, fun j p hj => ?_⟩⟩, by omega, fun y hy => ?_⟩
  ·
   obtain ⟨⟨cs', h1, h2⟩, _⟩ := hq j p hj
   obtain ⟨_, hcl, hat⟩ := World.cells?_some h1
   refine ⟨cs', a.K_len h2, h2, fun i u hu => ?_⟩
   have hi' : i < cs'.length := (List.getElem?_eq_some_iff.1 hu).1
   have := hat i (by omega)
   rw [E.sz] at this
   rw [← Go.Deep.add_add, this, hu]
  ·
   obtain ⟨j, hj, rfl⟩ := List.getElem_of_mem hy
   exact (hq j _ (List.getElem?_eq_getElem hj)).2
end

end Go.Proofs.Ytfhcolhiolgikaa.T
/- Written by hp.py, this session's own program, out of the translation of this seat: Lean functions for the Go functions, and the proof that each call comes to what its Lean function says. -/
namespace Go.Proofs.Ytfhcolhiolgikaa.T
open Go.RowKit Go.Proofs.YtfhcolhiolgikaaW.PrintWords Go.Proofs.YtfhcolhiolgikaaW.PrintLast Go.Proofs.YtfhcolhiolgikaaW.PrintMore
attribute [local go_sem] max2_int min2_int max_two min_two max_three min_three max_four min_four   -- for this text's walks alone
set_option linter.unusedVariables false
set_option linter.unusedSimpArgs false
/-! ### arguments of whatever kind, with what they take -/
section
open Go.Deep Go.ChangeShapes Go.WideShapes
/-- as Opens; no part of the datum takes more than 2^47 bytes -/
structure OpensW {α : Type} (P : Program) (d : Kd α) (t : TypeId) (good : α → Prop) : Prop where
 sz : P.cellsOf t = d.sz
 op : ∀ {H : Type} {enc : TypeId × Value → H} {W : World} {base : Nat} {held : Bool} {fuel : Nat} {cs : List Value} {x : DataW H × List MemPlace}, DataW.trod enc P W base (fun _ => true) held fuel t cs = some x → (∀ n ∈ x.1.weights P t, n < 2 ^ 47) → ∃ v, d.K W v cs ∧ good v
variable {α β γ δ ε : Type} {P : Program} {a : Kd α} {b : Kd β} {c : Kd γ} {dd : Kd δ} {ee : Kd ε} {ga : α → Prop} {gb : β → Prop} {gc : γ → Prop} {gd : δ → Prop} {ge : ε → Prop} {t e : TypeId}
theorem opensw_of (h : Opens P a t ga) : OpensW P a t ga := ⟨h.sz, fun hh _ => h.op hh⟩
theorem opensw_iso (h : OpensW P a t ga) (f : β → α) (g : α → β) (hfg : ∀ x, f (g x) = x) : OpensW P (Kd.iso a f) t (fun y => ga (f y)) := by
 refine ⟨h.sz, fun hh hw => ?_⟩
 obtain ⟨v, hK, hg⟩ := h.op hh hw
 exact ⟨g v, by show a.K _ (f (g v)) _; rw [hfg]; exact hK, by rw [hfg]; exact hg⟩
theorem opensw_struct2 {f0 f1 : Field} (hs : P.underlying t = some (.struct #[f0, f1])) (hC : P.cellsOf t = a.sz + b.sz) (o0 : f0.offset = 0) (o1 : f1.offset = a.sz) (A : OpensW P a f0.type ga) (B : OpensW P b f1.type gb) : OpensW P (Kd.pair a b) t (fun x => ga x.1 ∧ gb x.2) := by
 refine ⟨hC, fun h hw => ?_⟩
 rename_i H enc W base held fuel cs x
 obtain ⟨xs, n, _, hx, hl, hlen, hf⟩ := DataW.trod_struct hs h
 match xs, hlen, hx, hf with
 | [x0, x1], _, hx, hf =>
  have hwt : x.1.weights P t = DataW.weightsEach P [f0.type, f1.type] [x0.1, x1.1] := by rw [hx]; simp [DataW.weights, hs]
  have h0 : DataW.trod enc P W base (fun _ => true) held n f0.type ((cs.drop f0.offset).take (P.cellsOf f0.type)) = some x0 := hf 0 f0 rfl
  have h1 : DataW.trod enc P W base (fun _ => true) held n f1.type ((cs.drop f1.offset).take (P.cellsOf f1.type)) = some x1 := hf 1 f1 rfl
  rw [o0, A.sz, List.drop_zero] at h0
  rw [o1, B.sz] at h1
  obtain ⟨v0, k0, g0⟩ := A.op h0 (fun m hm => hw m (by rw [hwt]; simp [DataW.weightsEach, hm]))
  obtain ⟨v1, k1, g1⟩ := B.op h1 (fun m hm => hw m (by rw [hwt]; simp [DataW.weightsEach, hm]))
  refine ⟨(v0, v1), ⟨_, _, ?_, k0, k1⟩, g0, g1⟩
  rw [List.take_of_length_le (by rw [List.length_drop]; omega : (cs.drop a.sz).length ≤ b.sz), List.take_append_drop]
theorem opensw_struct5 {f0 f1 f2 f3 f4 : Field} (hs : P.underlying t = some (.struct #[f0, f1, f2, f3, f4])) (hC : P.cellsOf t = a.sz + (b.sz + (c.sz + (dd.sz + ee.sz)))) (o0 : f0.offset = 0) (o1 : f1.offset = a.sz) (o2 : f2.offset = a.sz + b.sz) (o3 : f3.offset = a.sz + b.sz + c.sz) (o4 : f4.offset = a.sz + b.sz + c.sz + dd.sz) (A : OpensW P a f0.type ga) (B : OpensW P b f1.type gb) (C : OpensW P c f2.type gc) (D : OpensW P dd f3.type gd) (E : OpensW P ee f4.type ge) : OpensW P (Kd.pair a (Kd.pair b (Kd.pair c (Kd.pair dd ee)))) t (fun x => ga x.1 ∧ gb x.2.1 ∧ gc x.2.2.1 ∧ gd x.2.2.2.1 ∧ ge x.2.2.2.2) := by
 refine ⟨hC, fun h hw => ?_⟩
 rename_i H enc W base held fuel cs x
 obtain ⟨xs, n, _, hx, hl, hlen, hf⟩ := DataW.trod_struct hs h
 match xs, hlen, hx, hf with
 | [x0, x1, x2, x3, x4], _, hx, hf =>
  have hwt : x.1.weights P t = DataW.weightsEach P [f0.type, f1.type, f2.type, f3.type, f4.type] [x0.1, x1.1, x2.1, x3.1, x4.1] := by rw [hx]; simp [DataW.weights, hs]
  have h0 : DataW.trod enc P W base (fun _ => true) held n f0.type ((cs.drop f0.offset).take (P.cellsOf f0.type)) = some x0 := hf 0 f0 rfl
  have h1 : DataW.trod enc P W base (fun _ => true) held n f1.type ((cs.drop f1.offset).take (P.cellsOf f1.type)) = some x1 := hf 1 f1 rfl
  have h2 : DataW.trod enc P W base (fun _ => true) held n f2.type ((cs.drop f2.offset).take (P.cellsOf f2.type)) = some x2 := hf 2 f2 rfl
  have h3 : DataW.trod enc P W base (fun _ => true) held n f3.type ((cs.drop f3.offset).take (P.cellsOf f3.type)) = some x3 := hf 3 f3 rfl
  have h4 : DataW.trod enc P W base (fun _ => true) held n f4.type ((cs.drop f4.offset).take (P.cellsOf f4.type)) = some x4 := hf 4 f4 rfl
  rw [o0, A.sz, List.drop_zero] at h0
  rw [o1, B.sz] at h1
  rw [o2, C.sz] at h2
  rw [o3, D.sz] at h3
  rw [o4, E.sz] at h4
  obtain ⟨v0, k0, g0⟩ := A.op h0 (fun m hm => hw m (by rw [hwt]; simp [DataW.weightsEach, hm]))
  obtain ⟨v1, k1, g1⟩ := B.op h1 (fun m hm => hw m (by rw [hwt]; simp [DataW.weightsEach, hm]))
  obtain ⟨v2, k2, g2⟩ := C.op h2 (fun m hm => hw m (by rw [hwt]; simp [DataW.weightsEach, hm]))
  obtain ⟨v3, k3, g3⟩ := D.op h3 (fun m hm => hw m (by rw [hwt]; simp [DataW.weightsEach, hm]))
  obtain ⟨v4, k4, g4⟩ := E.op h4 (fun m hm => hw m (by rw [hwt]; simp [DataW.weightsEach, hm]))
  refine ⟨(v0, v1, v2, v3, v4), ⟨_, _, ?_, k0, ⟨_, _, rfl, k1, ⟨_, _, rfl, k2, ⟨_, _, rfl, k3, k4⟩⟩⟩⟩, g0, g1, g2, g3, g4⟩
  rw [List.take_of_length_le (by rw [List.length_drop]; omega : (cs.drop (a.sz + b.sz + c.sz + dd.sz)).length ≤ ee.sz)]
  simp only [← List.drop_drop, List.take_append_drop]
theorem weightsAll_mem {H : Type} {P : Program} {e : TypeId} : ∀ (l : List (DataW H)) (d : DataW H), d ∈ l → ∀ n ∈ d.weights P e, n ∈ DataW.weightsAll P e l
 | [], d, h, n, hn => by cases h
 | x :: r, d, h, n, hn => by
  simp only [DataW.weightsAll, List.mem_append]
  rcases List.mem_cons.1 h with rfl | h
  ·
   exact Or.inl hn
  ·
   exact Or.inr (weightsAll_mem r d h n hn)
theorem opensw_slice (ht : P.underlying t = some (.slice e)) (hc : P.cellsOf t = 1) (E : OpensW P a e ga) : OpensW P (Kd.slice e a) t (fun l => l.length * P.bytesOf e < 2 ^ 47 ∧ ∀ x ∈ l, ga x) := by
 refine ⟨hc, fun h hw => ?_⟩
 rename_i H enc W base held fuel cs x
 rcases open_slice ht h with ⟨rfl, _⟩ | ⟨ad, len, cap, m, n, D, Pl, rfl, hb, hl, hm, hmm, hx, hi⟩
 ·
  exact ⟨[], ⟨none, 0, rfl, Nat.le_refl _, rfl, by simp, fun h => absurd h (by simp)⟩, by simp, fun x hx => by cases hx⟩
 ·
  have hmm' : m = cap := by simpa using hmm
  have hm' : cap ≤ 9223372036854775807 := hm
  have hwt : x.1.weights P t = (((List.range len).map D).length + ((List.range (m - len)).map fun j => D (len + j)).length) * P.bytesOf e :: (DataW.weightsAll P e ((List.range len).map D) ++ DataW.weightsAll P e ((List.range (m - len)).map fun j => D (len + j))) := by rw [hx]; simp [DataW.weights, ht]
  have hlen : len * P.bytesOf e < 2 ^ 47 := by
   have h1 := hw _ (by rw [hwt]; exact List.mem_cons_self)
   refine Nat.lt_of_le_of_lt ?_ h1
   rw [List.length_map, List.length_range]
   exact Nat.mul_le_mul_right _ (Nat.le_add_right _ _)
  obtain ⟨l, hll, hq⟩ := list_of (Q := fun i (v : α) => (∃ cs', W.cells? base (ad.add (i * P.cellsOf e)) (P.cellsOf e) = some cs' ∧ a.K W v cs') ∧ ga v) len (fun i hil => by
   obtain ⟨cs', h1, h2⟩ := hi i (by omega)
   obtain ⟨v, h3, h4⟩ := E.op h2 (fun q hq => hw q (by
    rw [hwt]
    exact List.mem_cons_of_mem _ (List.mem_append.2 (Or.inl (weightsAll_mem _ (D i) (List.mem_map.2 ⟨i, List.mem_range.2 hil, rfl⟩) q hq)))))
   exact ⟨v, ⟨cs', h1, h3⟩, h4⟩)
  subst hll
  refine ⟨l, ⟨some ad, cap, rfl, hl, rfl, by omega, fun _ => ⟨ad, rfl, fun j p hj => ?_⟩⟩, hlen, fun y hy => ?_⟩
  ·
   obtain ⟨⟨cs', h1, h2⟩, _⟩ := hq j p hj
   obtain ⟨_, hcl, hat⟩ := World.cells?_some h1
   refine ⟨cs', a.K_len h2, h2, fun i u hu => ?_⟩
   have hi' : i < cs'.length := (List.getElem?_eq_some_iff.1 hu).1
   have := hat i (by omega)
   rw [E.sz] at this
   rw [← Go.Deep.add_add, this, hu]
  ·
   obtain ⟨j, hj, rfl⟩ := List.getElem_of_mem hy
   exact (hq j _ (List.getElem?_eq_getElem hj)).2
end

end Go.Proofs.Ytfhcolhiolgikaa.T
