import Derived.SliceStrings
import Derived.Deep.Slices
import Derived.Test.YtbbmdakdghefnaaGreatDoorQGA
/- Texts of this claim, laid together by a program (merge.py): Op. -/
namespace Go.Proofs.YtbbmdakdghefnaaGreatDoor.T
open Go.RowKit Go.Proofs.YtbbmdakdghefnaaGreatDoorW.PrintWords Go.Proofs.YtbbmdakdghefnaaGreatDoorW.PrintLast Go.Proofs.YtbbmdakdghefnaaGreatDoorW.PrintMore
attribute [local go_sem] max2_int min2_int max_two min_two max_three min_three max_four min_four
set_option linter.unusedVariables false
set_option linter.unusedSimpArgs false
section
open Go.Deep Go.ChangeShapes Go.WideShapes
/-- whatever reads as a datum of type t reads as a value of kind d -/
structure Opens {α : Type} (P : Program) (d : Kd α) (t : TypeId) (good : α → Prop) : Prop where
 sz : P.cellsOf t = d.sz
 op : ∀ {H : Type} {enc : TypeId × Value → H} {W : World} {base : Nat} {held : Bool} {fuel : Nat} {cs : List Value} {x : DataW H × List MemPlace}, DataW.trod enc P W base (fun _ => true) held fuel t cs = some x → ∃ v, d.K W v cs ∧ good v
variable {α β γ δ ε : Type} {P : Program} {a : Kd α} {b : Kd β} {c : Kd γ} {dd : Kd δ} {ee : Kd ε} {ga : α → Prop} {gb : β → Prop} {gc : γ → Prop} {gd : δ → Prop} {ge : ε → Prop} {t e : TypeId}
theorem opens_int {k : IntKind} (ht : P.underlying t = some (.int k)) (hc : P.cellsOf t = 1) : Opens P (Kd.int k) t (fun z => (Lit.int k z).wf = true) := by
 refine ⟨hc, fun h => ?_⟩; obtain ⟨z, rfl, _, hz⟩ := DataW.trod_int ht h; exact ⟨z, rfl, hz⟩
theorem opens_string (ht : P.underlying t = some .string) (hc : P.cellsOf t = 1) : Opens P Kd.string t (fun s => s.size ≤ 9223372036854775807) := by
 refine ⟨hc, fun h => ?_⟩; obtain ⟨z, rfl, _, hz⟩ := DataW.trod_string ht h; exact ⟨z, rfl, hz⟩
theorem opens_iso (h : Opens P a t ga) (f : β → α) (g : α → β) (hfg : ∀ x, f (g x) = x) : Opens P (Kd.iso a f) t (fun y => ga (f y)) := by
 refine ⟨h.sz, fun hh => ?_⟩; obtain ⟨v, hK, hg⟩ := h.op hh; exact ⟨g v, by show a.K _ (f (g v)) _; rw [hfg]; exact hK, by rw [hfg]; exact hg⟩
theorem opens_struct4 {f0 f1 f2 f3 : Field} (hs : P.underlying t = some (.struct #[f0, f1, f2, f3])) (hC : P.cellsOf t = a.sz + (b.sz + (c.sz + dd.sz))) (o0 : f0.offset = 0) (o1 : f1.offset = a.sz) (o2 : f2.offset = a.sz + b.sz) (o3 : f3.offset = a.sz + b.sz + c.sz) (A : Opens P a f0.type ga) (B : Opens P b f1.type gb) (C : Opens P c f2.type gc) (D : Opens P dd f3.type gd) : Opens P (Kd.pair a (Kd.pair b (Kd.pair c dd))) t (fun x => ga x.1 ∧ gb x.2.1 ∧ gc x.2.2.1 ∧ gd x.2.2.2) := by
 refine ⟨hC, fun h => ?_⟩
 rename_i H enc W base held fuel cs x
 obtain ⟨xs, n, _, _, hl, hlen, hf⟩ := DataW.trod_struct hs h
 have hf' : ∀ (j : Nat) (f : Field), #[f0, f1, f2, f3][j]? = some f → ∃ y, DataW.trod enc P W base (fun _ => true) held n f.type ((cs.drop f.offset).take (P.cellsOf f.type)) = some y := fun j f hj => by
  have h1 := hf j f hj
  have hj' : j < xs.length := by rw [hlen]; exact (Array.getElem?_eq_some_iff.1 hj).1
  exact ⟨xs[j], by rw [h1, List.getElem?_eq_getElem hj']⟩
 obtain ⟨y0, h0⟩ := hf' 0 f0 rfl; obtain ⟨y1, h1⟩ := hf' 1 f1 rfl; obtain ⟨y2, h2⟩ := hf' 2 f2 rfl; obtain ⟨y3, h3⟩ := hf' 3 f3 rfl; rw [o0, A.sz, List.drop_zero] at h0; rw [o1, B.sz] at h1; rw [o2, C.sz] at h2; rw [o3, D.sz] at h3; obtain ⟨v0, k0, g0⟩ := A.op h0; obtain ⟨v1, k1, g1⟩ := B.op h1; obtain ⟨v2, k2, g2⟩ := C.op h2; obtain ⟨v3, k3, g3⟩ := D.op h3; refine ⟨(v0, v1, v2, v3), ⟨_, _, ?_, k0, ⟨_, _, rfl, k1, ⟨_, _, rfl, k2, k3⟩⟩⟩, g0, g1, g2, g3⟩; rw [List.take_of_length_le (by rw [List.length_drop]; omega : (cs.drop (a.sz + b.sz + c.sz)).length ≤ dd.sz)]; simp only [← List.drop_drop, List.take_append_drop]
theorem list_of {Q : Nat → α → Prop} : ∀ (n : Nat), (∀ i, i < n → ∃ x, Q i x) → ∃ l : List α, l.length = n ∧ ∀ i x, l[i]? = some x → Q i x
 | 0, _ => ⟨[], rfl, fun i x h => by simp at h⟩
 | n + 1, h => by
  obtain ⟨l, hl, hq⟩ := list_of n (fun i hi => h i z131_); obtain ⟨x, hx⟩ := h n z131_; refine ⟨l ++ [x], by simp [hl], fun i y hy => ?_⟩
  rcases Nat.lt_or_ge i n with hi | hi
  ·
   rw [List.getElem?_append_left z131_] at hy; exact hq i y hy
  ·
   have : i = n := by have := (List.getElem?_eq_some_iff.1 hy).1; simp at this; omega
   subst this; rw [← hl, List.getElem?_append_right (Nat.le_refl _)] at hy
   simp at hy
   subst hy; rw [← hl] at hx; rw [← hl]; exact hx
theorem opens_slice (ht : P.underlying t = some (.slice e)) (hc : P.cellsOf t = 1) (E : Opens P a e ga) : Opens P (Kd.slice e a) t (fun l => l.length ≤ 9223372036854775807 ∧ ∀ x ∈ l, ga x) := by
 refine ⟨hc, fun h => ?_⟩
 rename_i H enc W base held fuel cs x
 rcases open_slice ht h with ⟨rfl, _⟩ | ⟨ad, len, cap, m, n, D, Pl, rfl, hb, hl, hm, hmm, _, hi⟩
 · exact ⟨[], ⟨none, 0, rfl, Nat.le_refl _, rfl, z183_, fun h => absurd h z183_⟩, z183_, fun x hx => by cases hx⟩
 ·
  have hmm' : m = cap := by simpa using hmm
  have hm' : cap ≤ 9223372036854775807 := hm
  obtain ⟨l, hll, hq⟩ := list_of (Q := fun i (v : α) => (∃ cs', W.cells? base (ad.add (i * P.cellsOf e)) (P.cellsOf e) = some cs' ∧ a.K W v cs') ∧ ga v) len (fun i hil => by
   obtain ⟨cs', h1, h2⟩ := hi i z131_; obtain ⟨v, h3, h4⟩ := E.op h2
   exact ⟨v, ⟨cs', h1, h3⟩, h4⟩)
  subst hll; refine ⟨l, ⟨some ad, cap, rfl, hl, rfl, z131_, fun _ => ⟨ad, rfl, fun j p hj => ?_⟩⟩, z131_, fun y hy => ?_⟩
  ·
   obtain ⟨⟨cs', h1, h2⟩, _⟩ := hq j p hj; obtain ⟨_, hcl, hat⟩ := World.cells?_some h1; refine ⟨cs', a.K_len h2, h2, fun i u hu => ?_⟩; have hi' : i < cs'.length := (List.getElem?_eq_some_iff.1 hu).1; have := hat i z131_; rw [E.sz] at this; rw [← Go.Deep.add_add, this, hu]
  ·
   obtain ⟨j, hj, rfl⟩ := List.getElem_of_mem hy; exact (hq j _ (List.getElem?_eq_getElem hj)).2
/-- at a slice argument -/
theorem opens_slice_arg {ga' : List α → Prop} (h : Opens P (Kd.slice e a) t ga') {H : Type} {enc : TypeId × Value → H} {W : World} {base : Nat} {held : Bool} {A : Option Addr} {len cap : Nat} {d : DataW H} {ps : List MemPlace} (hh : DataW.Trod enc P W base (fun _ => true) held t (.slice A len cap) d ps) : ∃ l : List α, len = l.length ∧ a.C W A l.length l ∧ l.length ≤ cap ∧ ga' l := by
 obtain ⟨fuel, hf⟩ := hh; obtain ⟨l, ⟨A', c', he, h1, h2⟩, hg⟩ := h.op hf; simp [Value.cells] at he; obtain ⟨rfl, rfl, rfl⟩ := he; exact ⟨l, rfl, h2, h1, hg⟩
end
theorem opStrs : Opens Tryz.prog (Kd.slice 9 Kd.string) 23 (fun _ => True) := by
 have h := opens_slice (P := Tryz.prog) (t := 23) (e := 9) Tryz.underlying23 z128_ (opens_string Tryz.underlying9 z128_); exact ⟨h.sz, fun hh => z130_⟩
theorem opNode : Opens Tryz.prog k37 37 (fun _ => True) := by
 have h : Opens Tryz.prog k37 37 _ := opens_iso (opens_struct4 (P := Tryz.prog) Tryz.underlying37 z128_ rfl rfl rfl rfl (opens_int Tryz.underlying3 z128_) opStrs (opens_int Tryz.underlying3 z128_) (opens_int Tryz.underlying3 z128_)) _ (fun p => (⟨p.1, p.2.1, p.2.2.1, p.2.2.2⟩ : S37)) (fun _ => rfl); exact ⟨h.sz, fun hh => z130_⟩
theorem opNodes : Opens Tryz.prog (Kd.slice 37 k37) 22 (fun _ => True) := by
 have h := opens_slice (P := Tryz.prog) (t := 22) (e := 37) Tryz.underlying22 z128_ opNode; exact ⟨h.sz, fun hh => z130_⟩
end Go.Proofs.YtbbmdakdghefnaaGreatDoor.T
