import Derived.Test.YtaldbabkdoabkaaProg
import Derived.Test.YtaldbabkdoabkaaQV
import Derived.Test.YtaldbabkdoabkaaQA
import Derived.SliceStrings
import Derived.ChangeSame
import Derived.Deep.Slices
import Derived.Below
import Derived.Deep.Draws
import Derived.Deep.AppendLies
import Derived.Maps.AppendAt
import Derived.OwnWalk
import Derived.Laws.BytesArg
import Derived.Laws.MakeOwn
import Derived.Laws.OwnMore
import Derived.Deep.OwnRows
import Derived.Tactics
import Derived.Lib.ConvBytes
import Derived.Laws.Slices
import Derived.WalkKit
import Derived.KernelRfl
import Derived.RowKit3
import Derived.Deep.LoopGhost
import Derived.Deep.QuietTactic
import Derived.BigQuiet
import Derived.WideLaws
import Derived.Deep.DeepCutAuto
import Derived.Deep.CutBlock
import Derived.Deep.RegionHeld3
import Derived.Laws.Rows
import Derived.Lib.AppendStr
import Derived.ArgAppend
import Derived.Laws.IdiomCopy
import Derived.OrdersHeld
import Derived.Laws.BitsLemmas
import Derived.RowKit
import Derived.WideShapes
namespace Go.Proofs.Ytaldbabkdoabkaa.T
open Go.RowKit Go.Proofs.YtaldbabkdoabkaaW.PrintWords Go.Proofs.YtaldbabkdoabkaaW.PrintLast Go.Proofs.YtaldbabkdoabkaaW.PrintMore
attribute [local go_sem] max2_int min2_int max_two min_two max_three min_three max_four min_four   -- for this text's walks alone
set_option linter.unusedVariables false
set_option linter.unusedSimpArgs false
/-! ### arguments of whatever kind: what the call reads of them -/
section
open Go.Deep Go.ChangeShapes Go.WideShapes
/-- whatever reads as a datum of type t reads as a value of kind d -/
structure Opens {α : Type} (P : Program) (d : Kd α) (t : TypeId) (good : α → Prop) : Prop where
  sz : P.cellsOf t = d.sz
  op : ∀ {H : Type} {enc : TypeId × Value → H} {W : World} {base : Nat} {held : Bool} {fuel : Nat} {cs : List Value} {x : DataW H × List MemPlace}, DataW.trod enc P W base (fun _ => true) held fuel t cs = some x → ∃ v, d.K W v cs ∧ good v
variable {α β γ δ ε : Type} {P : Program} {a : Kd α} {b : Kd β} {c : Kd γ} {dd : Kd δ} {ee : Kd ε} {ga : α → Prop} {gb : β → Prop} {gc : γ → Prop} {gd : δ → Prop} {ge : ε → Prop} {t e : TypeId}
theorem opens_int {k : IntKind} (ht : P.underlying t = some (.int k)) (hc : P.cellsOf t = 1) : Opens P (Kd.int k) t (fun z => (Lit.int k z).wf = true) := by
  refine ⟨hc, fun h => ?_⟩
  obtain ⟨z, rfl, _, hz⟩ := DataW.trod_int ht h
  exact ⟨z, rfl, hz⟩
theorem opens_bool (ht : P.underlying t = some .bool) (hc : P.cellsOf t = 1) : Opens P Kd.bool t (fun _ => True) := by
  refine ⟨hc, fun h => ?_⟩
  obtain ⟨z, rfl, _⟩ := DataW.trod_bool ht h
  exact ⟨z, rfl, trivial⟩
theorem opens_string (ht : P.underlying t = some .string) (hc : P.cellsOf t = 1) : Opens P Kd.string t (fun s => s.size ≤ 9223372036854775807) := by
  refine ⟨hc, fun h => ?_⟩
  obtain ⟨z, rfl, _, hz⟩ := DataW.trod_string ht h
  exact ⟨z, rfl, hz⟩
theorem opens_iso (h : Opens P a t ga) (f : β → α) (g : α → β) (hfg : ∀ x, f (g x) = x) : Opens P (Kd.iso a f) t (fun y => ga (f y)) := by
  refine ⟨h.sz, fun hh => ?_⟩
  obtain ⟨v, hK, hg⟩ := h.op hh
  exact ⟨g v, by show a.K _ (f (g v)) _; rw [hfg]; exact hK, by rw [hfg]; exact hg⟩
theorem opens_struct2 {f0 f1 : Field} (hs : P.underlying t = some (.struct #[f0, f1])) (hC : P.cellsOf t = a.sz + b.sz) (o0 : f0.offset = 0) (o1 : f1.offset = a.sz) (A : Opens P a f0.type ga) (B : Opens P b f1.type gb) : Opens P (Kd.pair a b) t (fun x => ga x.1 ∧ gb x.2) := by
  refine ⟨hC, fun h => ?_⟩
  rename_i H enc W base held fuel cs x
  obtain ⟨xs, n, _, _, hl, hlen, hf⟩ := DataW.trod_struct hs h
  have hf' : ∀ (j : Nat) (f : Field), #[f0, f1][j]? = some f → ∃ y, DataW.trod enc P W base (fun _ => true) held n f.type ((cs.drop f.offset).take (P.cellsOf f.type)) = some y := fun j f hj => by
    have h1 := hf j f hj
    have hj' : j < xs.length := by rw [hlen]; exact (Array.getElem?_eq_some_iff.1 hj).1
    exact ⟨xs[j], by rw [h1, List.getElem?_eq_getElem hj']⟩
  obtain ⟨y0, h0⟩ := hf' 0 f0 rfl
  obtain ⟨y1, h1⟩ := hf' 1 f1 rfl
  rw [o0, A.sz, List.drop_zero] at h0
  rw [o1, B.sz] at h1
  obtain ⟨v0, k0, g0⟩ := A.op h0
  obtain ⟨v1, k1, g1⟩ := B.op h1
  refine ⟨(v0, v1), ⟨_, _, ?_, k0, k1⟩, g0, g1⟩
  rw [List.take_of_length_le (by rw [List.length_drop]; omega : (cs.drop a.sz).length ≤ b.sz), List.take_append_drop]
theorem opens_struct3 {f0 f1 f2 : Field} (hs : P.underlying t = some (.struct #[f0, f1, f2])) (hC : P.cellsOf t = a.sz + (b.sz + c.sz)) (o0 : f0.offset = 0) (o1 : f1.offset = a.sz) (o2 : f2.offset = a.sz + b.sz) (A : Opens P a f0.type ga) (B : Opens P b f1.type gb) (C : Opens P c f2.type gc) : Opens P (Kd.pair a (Kd.pair b c)) t (fun x => ga x.1 ∧ gb x.2.1 ∧ gc x.2.2) := by
  refine ⟨hC, fun h => ?_⟩
  rename_i H enc W base held fuel cs x
  obtain ⟨xs, n, _, _, hl, hlen, hf⟩ := DataW.trod_struct hs h
  have hf' : ∀ (j : Nat) (f : Field), #[f0, f1, f2][j]? = some f → ∃ y, DataW.trod enc P W base (fun _ => true) held n f.type ((cs.drop f.offset).take (P.cellsOf f.type)) = some y := fun j f hj => by
    have h1 := hf j f hj
    have hj' : j < xs.length := by rw [hlen]; exact (Array.getElem?_eq_some_iff.1 hj).1
    exact ⟨xs[j], by rw [h1, List.getElem?_eq_getElem hj']⟩
  obtain ⟨y0, h0⟩ := hf' 0 f0 rfl
  obtain ⟨y1, h1⟩ := hf' 1 f1 rfl
  obtain ⟨y2, h2⟩ := hf' 2 f2 rfl
  rw [o0, A.sz, List.drop_zero] at h0
  rw [o1, B.sz] at h1
  rw [o2, C.sz] at h2
  obtain ⟨v0, k0, g0⟩ := A.op h0
  obtain ⟨v1, k1, g1⟩ := B.op h1
  obtain ⟨v2, k2, g2⟩ := C.op h2
  refine ⟨(v0, v1, v2), ⟨_, _, ?_, k0, ⟨_, _, rfl, k1, k2⟩⟩, g0, g1, g2⟩
  rw [List.take_of_length_le (by rw [List.length_drop]; omega : (cs.drop (a.sz + b.sz)).length ≤ c.sz), ← List.drop_drop, List.take_append_drop, List.take_append_drop]
theorem opens_struct4 {f0 f1 f2 f3 : Field} (hs : P.underlying t = some (.struct #[f0, f1, f2, f3])) (hC : P.cellsOf t = a.sz + (b.sz + (c.sz + dd.sz))) (o0 : f0.offset = 0) (o1 : f1.offset = a.sz) (o2 : f2.offset = a.sz + b.sz) (o3 : f3.offset = a.sz + b.sz + c.sz) (A : Opens P a f0.type ga) (B : Opens P b f1.type gb) (C : Opens P c f2.type gc) (D : Opens P dd f3.type gd) : Opens P (Kd.pair a (Kd.pair b (Kd.pair c dd))) t (fun x => ga x.1 ∧ gb x.2.1 ∧ gc x.2.2.1 ∧ gd x.2.2.2) := by
  refine ⟨hC, fun h => ?_⟩
  rename_i H enc W base held fuel cs x
  obtain ⟨xs, n, _, _, hl, hlen, hf⟩ := DataW.trod_struct hs h
  have hf' : ∀ (j : Nat) (f : Field), #[f0, f1, f2, f3][j]? = some f → ∃ y, DataW.trod enc P W base (fun _ => true) held n f.type ((cs.drop f.offset).take (P.cellsOf f.type)) = some y := fun j f hj => by
    have h1 := hf j f hj
    have hj' : j < xs.length := by rw [hlen]; exact (Array.getElem?_eq_some_iff.1 hj).1
    exact ⟨xs[j], by rw [h1, List.getElem?_eq_getElem hj']⟩
  obtain ⟨y0, h0⟩ := hf' 0 f0 rfl
  obtain ⟨y1, h1⟩ := hf' 1 f1 rfl
  obtain ⟨y2, h2⟩ := hf' 2 f2 rfl
  obtain ⟨y3, h3⟩ := hf' 3 f3 rfl
  rw [o0, A.sz, List.drop_zero] at h0
  rw [o1, B.sz] at h1
  rw [o2, C.sz] at h2
  rw [o3, D.sz] at h3
  obtain ⟨v0, k0, g0⟩ := A.op h0
  obtain ⟨v1, k1, g1⟩ := B.op h1
  obtain ⟨v2, k2, g2⟩ := C.op h2
  obtain ⟨v3, k3, g3⟩ := D.op h3
  refine ⟨(v0, v1, v2, v3), ⟨_, _, ?_, k0, ⟨_, _, rfl, k1, ⟨_, _, rfl, k2, k3⟩⟩⟩, g0, g1, g2, g3⟩
  rw [List.take_of_length_le (by rw [List.length_drop]; omega : (cs.drop (a.sz + b.sz + c.sz)).length ≤ dd.sz)]
  simp only [← List.drop_drop, List.take_append_drop]
theorem opens_struct5 {f0 f1 f2 f3 f4 : Field} (hs : P.underlying t = some (.struct #[f0, f1, f2, f3, f4])) (hC : P.cellsOf t = a.sz + (b.sz + (c.sz + (dd.sz + ee.sz)))) (o0 : f0.offset = 0) (o1 : f1.offset = a.sz) (o2 : f2.offset = a.sz + b.sz) (o3 : f3.offset = a.sz + b.sz + c.sz) (o4 : f4.offset = a.sz + b.sz + c.sz + dd.sz) (A : Opens P a f0.type ga) (B : Opens P b f1.type gb) (C : Opens P c f2.type gc) (D : Opens P dd f3.type gd) (E : Opens P ee f4.type ge) : Opens P (Kd.pair a (Kd.pair b (Kd.pair c (Kd.pair dd ee)))) t (fun x => ga x.1 ∧ gb x.2.1 ∧ gc x.2.2.1 ∧ gd x.2.2.2.1 ∧ ge x.2.2.2.2) := by
  refine ⟨hC, fun h => ?_⟩
  rename_i H enc W base held fuel cs x
  obtain ⟨xs, n, _, _, hl, hlen, hf⟩ := DataW.trod_struct hs h
  have hf' : ∀ (j : Nat) (f : Field), #[f0, f1, f2, f3, f4][j]? = some f → ∃ y, DataW.trod enc P W base (fun _ => true) held n f.type ((cs.drop f.offset).take (P.cellsOf f.type)) = some y := fun j f hj => by
    have h1 := hf j f hj
    have hj' : j < xs.length := by rw [hlen]; exact (Array.getElem?_eq_some_iff.1 hj).1
    exact ⟨xs[j], by rw [h1, List.getElem?_eq_getElem hj']⟩
  obtain ⟨y0, h0⟩ := hf' 0 f0 rfl
  obtain ⟨y1, h1⟩ := hf' 1 f1 rfl
  obtain ⟨y2, h2⟩ := hf' 2 f2 rfl
  obtain ⟨y3, h3⟩ := hf' 3 f3 rfl
  obtain ⟨y4, h4⟩ := hf' 4 f4 rfl
  rw [o0, A.sz, List.drop_zero] at h0
  rw [o1, B.sz] at h1
  rw [o2, C.sz] at h2
  rw [o3, D.sz] at h3
  rw [o4, E.sz] at h4
  obtain ⟨v0, k0, g0⟩ := A.op h0
  obtain ⟨v1, k1, g1⟩ := B.op h1
  obtain ⟨v2, k2, g2⟩ := C.op h2
  obtain ⟨v3, k3, g3⟩ := D.op h3
  obtain ⟨v4, k4, g4⟩ := E.op h4
  refine ⟨(v0, v1, v2, v3, v4), ⟨_, _, ?_, k0, ⟨_, _, rfl, k1, ⟨_, _, rfl, k2, ⟨_, _, rfl, k3, k4⟩⟩⟩⟩, g0, g1, g2, g3, g4⟩
  rw [List.take_of_length_le (by rw [List.length_drop]; omega : (cs.drop (a.sz + b.sz + c.sz + dd.sz)).length ≤ ee.sz)]
  simp only [← List.drop_drop, List.take_append_drop]
theorem list_of {Q : Nat → α → Prop} : ∀ (n : Nat), (∀ i, i < n → ∃ x, Q i x) → ∃ l : List α, l.length = n ∧ ∀ i x, l[i]? = some x → Q i x
  | 0, _ => ⟨[], rfl, fun i x h => by simp at h⟩
  | n + 1, h => by
    obtain ⟨l, hl, hq⟩ := list_of n (fun i hi => h i (by omega))
    obtain ⟨x, hx⟩ := h n (by omega)
    refine ⟨l ++ [x], by simp [hl], fun i y hy => ?_⟩
    rcases Nat.lt_or_ge i n with hi | hi
    · rw [List.getElem?_append_left (by omega)] at hy
      exact hq i y hy
    · have : i = n := by have := (List.getElem?_eq_some_iff.1 hy).1; simp at this; omega
      subst this
      rw [← hl, List.getElem?_append_right (Nat.le_refl _)] at hy
      simp at hy
      subst hy
      rw [← hl] at hx
      rw [← hl]
      exact hx
theorem opens_slice (ht : P.underlying t = some (.slice e)) (hc : P.cellsOf t = 1) (E : Opens P a e ga) : Opens P (Kd.slice e a) t (fun l => l.length ≤ 9223372036854775807 ∧ ∀ x ∈ l, ga x) := by
  refine ⟨hc, fun h => ?_⟩
  rename_i H enc W base held fuel cs x
  rcases open_slice ht h with ⟨rfl, _⟩ | ⟨ad, len, cap, m, n, D, Pl, rfl, hb, hl, hm, hmm, _, hi⟩
  · exact ⟨[], ⟨none, 0, rfl, Nat.le_refl _, rfl, by simp, fun h => absurd h (by simp)⟩, by simp, fun x hx => by cases hx⟩
  · have hmm' : m = cap := by simpa using hmm
    have hm' : cap ≤ 9223372036854775807 := hm
    obtain ⟨l, hll, hq⟩ := list_of (Q := fun i (v : α) => (∃ cs', W.cells? base (ad.add (i * P.cellsOf e)) (P.cellsOf e) = some cs' ∧ a.K W v cs') ∧ ga v) len (fun i hil => by
      obtain ⟨cs', h1, h2⟩ := hi i (by omega)
      obtain ⟨v, h3, h4⟩ := E.op h2
      exact ⟨v, ⟨cs', h1, h3⟩, h4⟩)
    subst hll
    refine ⟨l, ⟨some ad, cap, rfl, hl, rfl, by omega, fun _ => ⟨ad, rfl, fun j p hj => ?_⟩⟩, by omega, fun y hy => ?_⟩
    · obtain ⟨⟨cs', h1, h2⟩, _⟩ := hq j p hj
      obtain ⟨_, hcl, hat⟩ := World.cells?_some h1
      refine ⟨cs', a.K_len h2, h2, fun i u hu => ?_⟩
      have hi' : i < cs'.length := (List.getElem?_eq_some_iff.1 hu).1
      have := hat i (by omega)
      rw [E.sz] at this
      rw [← Go.Deep.add_add, this, hu]
    · obtain ⟨j, hj, rfl⟩ := List.getElem_of_mem hy
      exact (hq j _ (List.getElem?_eq_getElem hj)).2
/-- at a slice argument -/
theorem opens_slice_arg {ga' : List α → Prop} (h : Opens P (Kd.slice e a) t ga') {H : Type} {enc : TypeId × Value → H} {W : World} {base : Nat} {held : Bool} {A : Option Addr} {len cap : Nat} {d : DataW H} {ps : List MemPlace} (hh : DataW.Trod enc P W base (fun _ => true) held t (.slice A len cap) d ps) : ∃ l : List α, len = l.length ∧ a.C W A l.length l ∧ l.length ≤ cap ∧ ga' l := by
  obtain ⟨fuel, hf⟩ := hh
  obtain ⟨l, ⟨A', c', he, h1, h2⟩, hg⟩ := h.op hf
  simp [Value.cells] at he
  obtain ⟨rfl, rfl, rfl⟩ := he
  exact ⟨l, rfl, h2, h1, hg⟩
end
/-! ### disks, and what is done to them, as arguments -/
theorem opFile : Opens Try.prog k48 48 (fun _ => True) := by
  have h : Opens Try.prog k48 48 _ := opens_iso (opens_struct3 (P := Try.prog) Try.underlying48 (by kernel_rfl) rfl rfl rfl (opens_string Try.underlying9 (by kernel_rfl)) (opens_slice (P := Try.prog) (t := 27) (e := 5) Try.underlying27 (by kernel_rfl) (opens_int Try.underlying5 (by kernel_rfl))) (opens_bool Try.underlying4 (by kernel_rfl))) _ (fun p => (⟨p.1, p.2.1, p.2.2⟩ : S48)) (fun _ => rfl)
  exact ⟨h.sz, fun hh => by obtain ⟨v, h1, _⟩ := h.op hh; exact ⟨v, h1, trivial⟩⟩
theorem opDisk : Opens Try.prog (Kd.pair (Kd.int .i64) (Kd.slice 48 k48)) 24 (fun _ => True) := by
  have h := opens_struct2 (P := Try.prog) Try.underlying24 (by kernel_rfl) rfl rfl (opens_int Try.underlying3 (by kernel_rfl)) (opens_slice (P := Try.prog) (t := 22) (e := 48) Try.underlying22 (by kernel_rfl) opFile)
  exact ⟨h.sz, fun hh => by obtain ⟨v, h1, _⟩ := h.op hh; exact ⟨v, h1, trivial⟩⟩
theorem opOp : Opens Try.prog (Kd.pair (Kd.int .i64) (Kd.pair Kd.string (Kd.pair Kd.string (Kd.slice 5 (Kd.int .u8))))) 39 (fun _ => True) := by
  have h := opens_struct4 (P := Try.prog) Try.underlying39 (by kernel_rfl) rfl rfl rfl rfl (opens_int Try.underlying3 (by kernel_rfl)) (opens_string Try.underlying9 (by kernel_rfl)) (opens_string Try.underlying9 (by kernel_rfl)) (opens_slice (P := Try.prog) (t := 27) (e := 5) Try.underlying27 (by kernel_rfl) (opens_int Try.underlying5 (by kernel_rfl)))
  exact ⟨h.sz, fun hh => by obtain ⟨v, h1, _⟩ := h.op hh; exact ⟨v, h1, trivial⟩⟩
theorem opInts : Opens Try.prog (Kd.slice 3 (Kd.int .i64)) 44 (fun _ => True) := by
  have h := opens_slice (P := Try.prog) (t := 44) (e := 3) Try.underlying44 (by kernel_rfl) (opens_int Try.underlying3 (by kernel_rfl))
  exact ⟨h.sz, fun hh => by obtain ⟨v, h1, _⟩ := h.op hh; exact ⟨v, h1, trivial⟩⟩
theorem opBytes : Opens Try.prog (Kd.slice 5 (Kd.int .u8)) 27 (fun _ => True) := by
  have h := opens_slice (P := Try.prog) (t := 27) (e := 5) Try.underlying27 (by kernel_rfl) (opens_int Try.underlying5 (by kernel_rfl))
  exact ⟨h.sz, fun hh => by obtain ⟨v, h1, _⟩ := h.op hh; exact ⟨v, h1, trivial⟩⟩
theorem opDiskV {H : Type} {enc : TypeId × Value → H} {W : World} {base : Nat} {held : Bool} {r : Reach} {b0 : Nat} {v : Value} {d : DataW H} {ps : List MemPlace} (hv : Value.okWide Try.prog W r b0 24 v) (h : DataW.Trod enc Try.prog W base (fun _ => true) held 24 v d ps) :
    ∃ (cap : Int) (A : Option Addr) (c : Nat) (l : List S48), v = .agg #[.int .i64 cap, .slice A l.length c] ∧ Kd.C k48 W A l.length l ∧ l.length ≤ c := by
  obtain ⟨cs, rfl, hsz⟩ := Go.WideShapes.okWide_struct Try.underlying24 hv
  obtain ⟨fuel, hf⟩ := h
  obtain ⟨⟨cap, l⟩, ⟨c1, c2, e, h1, ⟨A, c, e2, hl, hC⟩⟩, _⟩ := opDisk.op hf
  replace h1 : c1 = [.int .i64 cap] := h1
  subst h1; subst e2
  refine ⟨cap, A, c, l, ?_, hC, hl⟩
  obtain ⟨cl⟩ := cs
  simp only [Value.cells] at e
  first | (rw [show cl = _ from e]; rfl) | (simp_all)
theorem opOpV {H : Type} {enc : TypeId × Value → H} {W : World} {base : Nat} {held : Bool} {r : Reach} {b0 : Nat} {v : Value} {d : DataW H} {ps : List MemPlace} (hv : Value.okWide Try.prog W r b0 39 v) (h : DataW.Trod enc Try.prog W base (fun _ => true) held 39 v d ps) :
    ∃ (kind : Int) (a b : ByteArray) (A : Option Addr) (c : Nat) (l : List Int), v = .agg #[.int .i64 kind, .string a, .string b, .slice A l.length c] ∧ Kd.C (Kd.int .u8) W A l.length l ∧ l.length ≤ c := by
  obtain ⟨cs, rfl, hsz⟩ := Go.WideShapes.okWide_struct Try.underlying39 hv
  obtain ⟨fuel, hf⟩ := h
  obtain ⟨⟨kind, a, b, l⟩, ⟨c1, c2, e, h1, ⟨c3, c4, e3, h3, ⟨c5, c6, e5, h5, ⟨A, c, e2, hl, hC⟩⟩⟩⟩, _⟩ := opOp.op hf
  replace h1 : c1 = [.int .i64 kind] := h1
  replace h3 : c3 = [.string a] := h3
  replace h5 : c5 = [.string b] := h5
  subst h1; subst h3; subst h5; subst e2; subst e5; subst e3
  refine ⟨kind, a, b, A, c, l, ?_, hC, hl⟩
  obtain ⟨cl⟩ := cs
  simp only [Value.cells] at e
  first | (rw [show cl = _ from e]; rfl) | (simp_all)
end Go.Proofs.Ytaldbabkdoabkaa.T
