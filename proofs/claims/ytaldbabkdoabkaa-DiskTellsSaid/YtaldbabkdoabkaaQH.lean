import Derived.Test.YtaldbabkdoabkaaProg
import Derived.Test.YtaldbabkdoabkaaQV
import Derived.Test.YtaldbabkdoabkaaQA
import Derived.Test.YtaldbabkdoabkaaQB
import Derived.Test.YtaldbabkdoabkaaQE
import Derived.Test.YtaldbabkdoabkaaQG
namespace Go.Proofs.Ytaldbabkdoabkaa.T
open Go.RowKit Go.Proofs.YtaldbabkdoabkaaW.PrintWords Go.Proofs.YtaldbabkdoabkaaW.PrintLast Go.Proofs.YtaldbabkdoabkaaW.PrintMore
attribute [local go_sem] max2_int min2_int max_two min_two max_three min_three max_four min_four   -- for this text's walks alone
set_option linter.unusedVariables false
set_option linter.unusedSimpArgs false
/-! ### a disk at which something is done: its one block, its files; gone (49), sorted (48) -/
def wk (cap : Int) (v : Value) (kind : Int) (a b : ByteArray) (dat mp : Value) : Obj := .cells #[.int .i64 cap, v, .int .i64 kind, .string a, .string b, dat, mp] 67 (0, 0)
structure WS (W : World) (D base : Nat) (ok : Nat → Prop) (v : Value) (fs : List SF) (xs : List S48) : Prop where
  row : Kd.R kF 48 W base (fun _ => True) v fs
  all : AllV W ok fs xs
  far : ∀ k, ok k → base ≤ k ∧ k < W.heap.size ∧ k ≠ D ∧ some k ≠ v.ownBlock
def SD (D : Nat) (v : Value) (k : Nat) : Prop := k = D ∨ some k = v.ownBlock
theorem WS.turn {W W' : World} {D base : Nat} {ok : Nat → Prop} {v v' : Value} {fs fs' : List SF} {xs xs' : List S48} (h : WS W D base ok v fs xs) (hk : Kept W W' (SD D v)) (hr : Kd.R kF 48 W' base (fun _ => True) v' fs') (ha : AllV W' ok fs' xs') (ho : v'.ownBlock = v.ownBlock ∨ ∀ k, v'.ownBlock = some k → W.heap.size ≤ k) : WS W' D base ok v' fs' xs' := by
  refine ⟨hr, ha, fun k hk1 => ?_⟩
  · obtain ⟨h1, h2, h3, h4⟩ := h.far k hk1
    refine ⟨h1, Nat.lt_of_lt_of_le h2 hk.1, h3, ?_⟩
    rcases ho with ho | ho
    · rw [ho]; exact h4
    · intro e
      have := ho k e.symm
      omega
theorem WS.below {W W' : World} {D base : Nat} {ok : Nat → Prop} {v : Value} {fs : List SF} {xs : List S48} (h : WS W D base ok v fs xs) (hb : Below W.heap.size W W') : WS W' D base ok v fs xs :=
  ⟨Kd.R_below h.row hb, h.all.step (fun k _ hk => hb.block k hk), fun k hk => ⟨(h.far k hk).1, Nat.lt_of_lt_of_le (h.far k hk).2.1 hb.size, (h.far k hk).2.2⟩⟩
theorem WS.apart {W : World} {D base : Nat} {ok : Nat → Prop} {v : Value} {fs : List SF} {xs : List S48} (h : WS W D base ok v fs xs) {k : Nat} (hk : ok k) : ¬ SD D v k := by
  obtain ⟨_, _, h3, h4⟩ := h.far k hk
  rintro (e | e)
  · exact h3 e
  · exact h4 e
theorem drawn_below {w w' : World} (h : Drawn0 w w') : Below w.heap.size w w' := by
  obtain ⟨nd, rfl⟩ := h.out
  exact pw_below_drewN (Below.refl _ _) nd
theorem AllV.cons_iff {W : World} {ok : Nat → Prop} {s : SF} {x : S48} {fs : List SF} {xs : List S48} : AllV W ok (s :: fs) (x :: xs) ↔ BearsV W ok s x ∧ AllV W ok fs xs := by
  constructor
  · rintro ⟨hl, h⟩
    exact ⟨h 0 s x rfl rfl, by simpa using hl, fun j s' x' h1 h2 => h (j + 1) s' x' (by simpa using h1) (by simpa using h2)⟩
  · rintro ⟨h1, hl, h⟩
    refine ⟨by simpa using hl, fun j s' x' h2 h3 => ?_⟩
    cases j with
    | zero =>
      obtain rfl : s = s' := by simpa using h2
      obtain rfl : x = x' := by simpa using h3
      exact h1
    | succ j => exact h j s' x' (by simpa using h2) (by simpa using h3)
theorem AllV.nil (W : World) (ok : Nat → Prop) : AllV W ok [] [] := ⟨rfl, fun j s x h => by simp at h⟩
theorem AllV.snoc {W : World} {ok : Nat → Prop} {s : SF} {x : S48} : ∀ {fs : List SF} {xs : List S48}, AllV W ok fs xs → BearsV W ok s x → AllV W ok (fs ++ [s]) (xs ++ [x])
  | [], [], _, h => AllV.cons_iff.2 ⟨h, AllV.nil _ _⟩
  | [], _ :: _, h, _ => by have := h.1; simp at this
  | _ :: _, [], h, _ => by have := h.1; simp at this
  | _ :: fs, _ :: xs, h, hb => AllV.cons_iff.2 ⟨(AllV.cons_iff.1 h).1, AllV.snoc (AllV.cons_iff.1 h).2 hb⟩
theorem AllV.monoV {W : World} {ok ok' : Nat → Prop} {fs : List SF} {xs : List S48} (h : AllV W ok fs xs) (hk : ∀ k, ok k → ok' k) : AllV W ok' fs xs := ⟨h.1, fun j s x hs hx => (h.2 j s x hs hx).mono hk⟩
def keepX (nm : ByteArray) (x : S48) : Bool := !(x.f0.toList == nm.toList)
def delX (nm : ByteArray) (xs : List S48) : List S48 := xs.filter (keepX nm)
theorem AllV.del {W : World} {ok : Nat → Prop} (nm : ByteArray) : ∀ {fs : List SF} {xs : List S48}, AllV W ok fs xs → AllV W ok (delN nm fs) (delX nm xs)
  | [], [], _ => AllV.nil _ _
  | [], _ :: _, h => by have := h.1; simp at this
  | _ :: _, [], h => by have := h.1; simp at this
  | s :: fs, x :: xs, h => by
    obtain ⟨h1, h2⟩ := AllV.cons_iff.1 h
    have ih := AllV.del nm h2
    have e : keepN nm s = keepX nm x := by unfold keepN keepX; rw [h1.1]
    unfold delN delX at *
    rw [List.filter_cons, List.filter_cons, e]
    cases keepX nm x with
    | true => exact AllV.cons_iff.2 ⟨h1, ih⟩
    | false => exact ih
theorem AllV.names {W : World} {ok : Nat → Prop} : ∀ {fs : List SF} {xs : List S48}, AllV W ok fs xs → fs.map (fun x => x.f0) = xs.map (fun x => x.f0)
  | [], [], _ => rfl
  | [], _ :: _, h => by have := h.1; simp at this
  | _ :: _, [], h => by have := h.1; simp at this
  | s :: fs, x :: xs, h => by
    obtain ⟨h1, h2⟩ := AllV.cons_iff.1 h
    rw [List.map_cons, List.map_cons, h1.1, AllV.names h2]
theorem AllV.perm {W : World} {ok : Nat → Prop} {fs s : List SF} (hp : s.Perm fs) : ∀ {xs : List S48}, AllV W ok fs xs → ∃ ys, ys.Perm xs ∧ AllV W ok s ys := by
  induction hp with
  | nil => exact fun h => ⟨_, List.Perm.refl _, h⟩
  | cons a _ ih =>
    intro xs h
    cases xs with
    | nil => have := h.1; simp at this
    | cons x xs =>
      obtain ⟨h1, h2⟩ := AllV.cons_iff.1 h
      obtain ⟨ys, h3, h4⟩ := ih h2
      exact ⟨x :: ys, h3.cons x, AllV.cons_iff.2 ⟨h1, h4⟩⟩
  | swap a b l =>
    intro xs h
    match xs, h with
    | [], h => have := h.1; simp at this
    | [_], h => have := h.1; simp at this
    | x :: y :: xs, h =>
      obtain ⟨h1, h2⟩ := AllV.cons_iff.1 h
      obtain ⟨h3, h4⟩ := AllV.cons_iff.1 h2
      exact ⟨y :: x :: xs, List.Perm.swap x y xs, AllV.cons_iff.2 ⟨h3, AllV.cons_iff.2 ⟨h1, h4⟩⟩⟩
  | trans _ _ ih1 ih2 =>
    intro xs h
    obtain ⟨ys, h1, h2⟩ := ih2 h
    obtain ⟨zs, h3, h4⟩ := ih1 h2
    exact ⟨zs, h3.trans h1, h4⟩
theorem kF_E {q : Nat} (h : q ∈ 48 :: kF.E) : q = 48 := by
  have e : kF.E = [] := rfl
  rw [e] at h
  simpa using h
set_option maxHeartbeats 8000000 in
set_option maxRecDepth 100000 in
theorem gone_calls (W : World) (D base : Nat) (ok : Nat → Prop) (cap : Int) (v : Value) (kind : Int) (a b : ByteArray) (dat mp : Value) (fs : List SF) (xs : List S48) (nm : ByteArray) (hD : W.heap[D]? = some (wk cap v kind a b dat mp)) (hbD : base ≤ D) (hS : WS W D base ok v fs xs) (hfew : fs.length ≤ 1200) :
    Calls Try.prog 49 #[.pointer (some ⟨D, 0, none⟩), .string nm] W fun e w' => e = .returned (.tuple #[]) ∧ ∃ v', Aside0 (w'.heap[D]? = some (wk cap v' kind a b dat mp)) ∧ Aside0 (WS w' D base ok v' (delN nm fs) (delX nm xs)) ∧ Aside0 (v'.ownBlock = v.ownBlock) ∧ Below base W w' ∧ Aside0 (Kept W w' (SD D v)) := by
  obtain ⟨A, c, rfl⟩ := Kd.R_slice hS.row
  have HD := Aside0.mk hD
  have HS := Aside0.mk hS
  have HBD := Aside0.mk hbD
  have hne := Kd.R_ne hS.row hD (by decide)
  have HNE := Aside0.mk hne
  unfold wk at hD
  have cD : (W.alloc (.cells #[.string nm] 9)).cell? ⟨D, 1, none⟩ = some (.slice A fs.length c) := (blk_cell (blk_alloc hD _) 1).trans rfl
  have hu67 := Try.underlying67
  have hu24 := Try.underlying24
  clear hD hS hbD hne
  go_enter Try.func49, Try.ntmps49
  go_wp2_with (first | (go_at_call 55; (refine (delF_calls A c fs nm W.heap.size base (fun _ => True) _ (Kd.R_alloc HS.out.row _) (blk_new _ _) hfew).mono ?_); rintro e w1 ⟨v', rfl, hR, hG, hO⟩; obtain ⟨A', c', ev⟩ := Kd.R_slice hR; subst ev; have HR := Aside0.mk hR; have HG := Aside0.mk hG; have HO := Aside0.mk hO; have BX := Aside0.mk (blk_grown (blk_alloc HD.out _) HG.out HNE.out); have c1 : w1.cell? ⟨D, 1, none⟩ = some (.slice A fs.length c) := (blk_cell BX.out 1).trans rfl; have f1 := blk_frozen BX.out 1; clear hR hG hO cD))
  refine bodyPost_end (v := .tuple #[]) (by simp [results, Try.results49, go_sem]) rfl ?_
  have hwk : (w1.setCell ⟨D, 1, none⟩ (.slice A' (delN nm fs).length c')).heap[D]? = some (wk cap (.slice A' (delN nm fs).length c') kind a b dat mp) := blk_set BX.out 1 _
  have hrow := Kd.R_set HR.out BX.out (fun q hq => by rw [kF_E hq]; decide) 1 (.slice A' (delN nm fs).length c')
  have hkept : Kept W (w1.setCell ⟨D, 1, none⟩ (.slice A' (delN nm fs).length c')) (SD D (.slice A fs.length c)) :=
    Kept.setCell (Kept.of_grown HG.out ((Kept.refl W _).alloc _) (fun k hk => .inl (.inr hk.symm))) (.inl (.inl rfl)) _
  have hbs : base ≤ W.heap.size := by have := blk_lt HD.out; have := HBD.out; omega
  refine ⟨rfl, _, ⟨hwk⟩, ⟨HS.out.turn hkept hrow (HS.out.all.del nm |>.step (fun k hk1 hk2 => hkept.2 k hk2 (HS.out.apart hk1))) (.inl HO.out)⟩, HO, ?_, ⟨hkept⟩⟩
  exact (((Below.refl base W).alloc hbs _).grown HG.out (Nat.le_trans hbs (below_alloc (Below.refl _ _) _).size) (fun k hk => Kd.R_base HS.out.row k hk)).setCell HBD.out _
set_option maxHeartbeats 8000000 in
set_option maxRecDepth 100000 in
theorem sorted_calls (W : World) (D base : Nat) (ok : Nat → Prop) (cap : Int) (v : Value) (kind : Int) (a b : ByteArray) (dat mp : Value) (fs : List SF) (xs : List S48) (hD : W.heap[D]? = some (wk cap v kind a b dat mp)) (hbD : base ≤ D) (hS : WS W D base ok v fs xs) (hfew : fs.length ≤ 1200) (hn : (xs.map fun x => x.f0.toList).Nodup) :
    Calls Try.prog 48 #[.pointer (some ⟨D, 0, none⟩)] W fun e w' => e = .returned (.tuple #[]) ∧ ∃ fs' xs', Aside0 (w'.heap[D]? = some (wk cap v kind a b dat mp)) ∧ Aside0 (WS w' D base ok v fs' xs') ∧ Aside0 (xs'.Perm xs ∧ xs'.Pairwise (fun a b => Op.bytesLess a.f0.toList b.f0.toList = true)) ∧ Below base W w' ∧ Aside0 (Kept W w' (SD D v)) := by
  obtain ⟨A, c, rfl⟩ := Kd.R_slice hS.row
  have HD := Aside0.mk hD
  have HS := Aside0.mk hS
  have HBD := Aside0.mk hbD
  have hne := Kd.R_ne hS.row hD (by decide)
  have HNE := Aside0.mk hne
  have hnm : fs.map (fun x => x.f0.toList) = xs.map (fun x => x.f0.toList) := by
    have := congrArg (List.map ByteArray.toList) hS.all.names
    rwa [List.map_map, List.map_map] at this
  rw [← hnm] at hn
  unfold wk at hD
  have cD : W.cell? ⟨D, 1, none⟩ = some (.slice A fs.length c) := (blk_cell hD 1).trans rfl
  have hu67 := Try.underlying67
  have hu24 := Try.underlying24
  have HN := Aside0.mk hn
  clear hD hS hbD hne hnm hn
  go_enter Try.func48, Try.ntmps48
  go_wp2_with (first | (go_at_call 52; (refine (sortF_calls W base (fun _ => True) fs HN.out hfew _ HS.out.row).mono ?_); rintro e w1 ⟨rfl, s, hp, hs, hR, hG⟩; have HR := Aside0.mk hR; have HG := Aside0.mk hG; have HP := Aside0.mk hp; have HSS := Aside0.mk hs; clear hR hG hp hs cD))
  refine bodyPost_end (v := .tuple #[]) (by simp [results, Try.results48, go_sem]) rfl ?_
  obtain ⟨ys, h1, h2⟩ := HS.out.all.perm HP.out
  have hkept : Kept W w1 (SD D (.slice A fs.length c)) := Kept.of_grown HG.out (Kept.refl W _) (fun k hk => .inl (.inr hk.symm))
  have h3 : AllV w1 ok s ys := h2.step (fun k hk1 hk2 => hkept.2 k hk2 (HS.out.apart hk1))
  have hl : s.length = fs.length := HP.out.length_eq
  refine ⟨rfl, s, ys, ⟨blk_grown HD.out HG.out HNE.out⟩, ⟨HS.out.turn hkept HR.out h3 (.inl rfl)⟩, ⟨h1, ?_⟩, ?_, ⟨hkept⟩⟩
  · have hm : s.map (fun x => x.f0) = ys.map (fun x => x.f0) := h3.names
    have hp : (s.map fun x => x.f0).Pairwise (fun a b => Op.bytesLess a.toList b.toList = true) := List.pairwise_map.2 HSS.out
    rw [hm] at hp
    exact List.pairwise_map.1 hp
  · exact (Below.refl base W).grown HG.out (by have := blk_lt HD.out; have := HBD.out; omega) (fun k hk => Kd.R_base HS.out.row k hk)
/-! ### what is done, in words -/
def ltX (x y : S48) : Bool := Op.bytesLess x.f0.toList y.f0.toList
def insX (x : S48) : List S48 → List S48
  | [] => [x]
  | y :: l => if ltX y x = true then y :: insX x l else x :: y :: l
theorem insX_perm (x : S48) : ∀ l, (insX x l).Perm (l ++ [x])
  | [] => List.Perm.refl _
  | y :: l => by
    rw [insX]
    split
    · exact (insX_perm x l).cons y
    · exact (List.perm_append_comm (l₁ := [x]) (l₂ := y :: l))
theorem insX_mem {x y : S48} {l : List S48} : y ∈ insX x l ↔ y ∈ l ∨ y = x := by rw [(insX_perm x l).mem_iff, List.mem_append, List.mem_singleton]
theorem ltX_tr {x y z : S48} (h : ltX x y = true) (k : ltX y z = true) : ltX x z = true := bl_tr _ _ _ h k
theorem insX_sorted (x : S48) : ∀ l : List S48, l.Pairwise (fun a b => ltX a b = true) → (∀ y ∈ l, y.f0.toList ≠ x.f0.toList) → (insX x l).Pairwise (fun a b => ltX a b = true)
  | [], _, _ => List.pairwise_singleton _ _
  | y :: l, hs, hx => by
    obtain ⟨h1, h2⟩ := List.pairwise_cons.1 hs
    rw [insX]
    by_cases h : ltX y x = true
    · rw [if_pos h, List.pairwise_cons]
      refine ⟨fun z hz => ?_, insX_sorted x l h2 (fun z hz => hx z (List.mem_cons_of_mem _ hz))⟩
      rcases insX_mem.1 hz with hz | rfl
      · exact h1 z hz
      · exact h
    · rw [if_neg h, List.pairwise_cons]
      have hxy : ltX x y = true := by
        rcases bl_tot y.f0.toList x.f0.toList (hx y List.mem_cons_self) with h3 | h3
        · exact absurd h3 h
        · exact h3
      refine ⟨fun z hz => ?_, hs⟩
      rcases List.mem_cons.1 hz with rfl | hz
      · exact hxy
      · exact ltX_tr hxy (h1 z hz)
theorem sorted_eq {l m : List S48} (hp : l.Perm m) (hl : l.Pairwise (fun a b => ltX a b = true)) (hm : m.Pairwise (fun a b => ltX a b = true)) : l = m := by
  refine hp.eq_of_pairwise (le := fun a b => ltX a b = true) (fun a b _ _ h1 h2 => ?_) hl hm
  have h3 := ltX_tr h1 h2
  unfold ltX at h3
  rw [bl_irr] at h3
  cases h3
theorem ins_unique {l ys : List S48} {x : S48} (hl : l.Pairwise (fun a b => ltX a b = true)) (hx : ∀ y ∈ l, y.f0.toList ≠ x.f0.toList) (hp : ys.Perm (l ++ [x])) (hs : ys.Pairwise (fun a b => Op.bytesLess a.f0.toList b.f0.toList = true)) : ys = insX x l :=
  sorted_eq (hp.trans (insX_perm x l).symm) hs (insX_sorted x l hl hx)
theorem sorted_nodup {l : List S48} (hl : l.Pairwise (fun a b => ltX a b = true)) : (l.map fun x => x.f0.toList).Nodup := by
  unfold List.Nodup
  rw [List.pairwise_map]
  refine hl.imp ?_
  intro a b h e
  unfold ltX at h
  rw [e, bl_irr] at h
  cases h
theorem nodup_snoc {l : List S48} {x : S48} (hl : l.Pairwise (fun a b => ltX a b = true)) (hx : ∀ y ∈ l, y.f0.toList ≠ x.f0.toList) : ((l ++ [x]).map fun x => x.f0.toList).Nodup := by
  rw [List.map_append, List.nodup_append]
  refine ⟨sorted_nodup hl, by simp, fun a ha b hb => ?_⟩
  obtain ⟨y, hy, rfl⟩ := List.mem_map.1 ha
  simp only [List.map_cons, List.map_nil, List.mem_singleton] at hb
  subst hb
  exact hx y hy
theorem delX_sorted {l : List S48} (nm : ByteArray) (hl : l.Pairwise (fun a b => ltX a b = true)) : (delX nm l).Pairwise (fun a b => ltX a b = true) := hl.filter _
theorem delX_ne {l : List S48} {nm : ByteArray} : ∀ y ∈ delX nm l, y.f0.toList ≠ nm.toList := by
  intro y hy
  unfold delX at hy
  have h := (List.mem_filter.1 hy).2
  unfold keepX at h
  simpa using h
theorem isX_iff {a : ByteArray} {l : List S48} : a.data.toList ∈ namesOf l ↔ ∃ y ∈ l, y.f0.toList = a.toList := by
  unfold namesOf
  simp only [List.mem_map, toList_data]
def isX (a : ByteArray) (l : List S48) : Bool := decide (a.data.toList ∈ namesOf l)
def posX (a : ByteArray) (l : List S48) : Nat := (namesOf l).idxOf a.data.toList
def atX (a : ByteArray) (l : List S48) : S48 := rd_T48 l (posX a l : Int)
def doP (cap : Int) (l : List S48) (kind : Int) (a b : ByteArray) (dat : List Int) (u : Int) (bn : Bool) : List S48 × Int :=
  if kind = 0 then (if isX a l = true then (l, 3) else if l.length = 64 ∨ cap - u < (dat.length : Int) then (l, 4) else (insX ⟨a, dat, false⟩ l, 0))
  else if kind = 1 then (if isX a l = true then (l.set (posX a l) ⟨(atX a l).f0, (atX a l).f1, true⟩, 0) else (l, 2))
  else if kind = 2 then (if bn = false then (l, 1) else if isX a l = true then (if (a.toList == b.toList) = true then (l, 0) else (insX ⟨b, (atX a l).f1, (atX a l).f2⟩ (delX b (delX a l)), 0)) else (l, 2))
  else (if isX a l = true then (delX a l, 0) else (l, 2))
def refP (cap : Int) (l : List S48) (kind : Int) (a b : ByteArray) (dat : List Int) (u : Int) (bn : Bool) (i : Int) : List S48 × Int :=
  if kind = 0 then (if 0 ≤ i then (l, 3) else if l.length = 64 ∨ cap < u + (dat.length : Int) then (l, 4) else (insX ⟨a, dat, false⟩ l, 0))
  else if kind = 2 ∧ bn = false then (l, 1)
  else if i < 0 then (l, 2)
  else if kind = 1 then (insX ⟨(rd_T48 l i).f0, (rd_T48 l i).f1, true⟩ (delX a l), 0)
  else if kind = 2 then (insX ⟨b, (rd_T48 l i).f1, (rd_T48 l i).f2⟩ (delX b (delX a l)), 0)
  else (delX a l, 0)
def doOk (cap : Int) (l : List S48) (u : Int) : Bool := decide (l.Pairwise (fun a b => ltX a b = true)) && decide (0 ≤ u) && decide (u ≤ cap) && decide (cap ≤ 1048576) && decide (l.length ≤ 64)
theorem posX_lt {a : ByteArray} {l : List S48} (h : isX a l = true) : posX a l < l.length := by
  have h1 : a.data.toList ∈ namesOf l := of_decide_eq_true h
  have := List.idxOf_lt_length_of_mem h1
  unfold namesOf at this
  rw [List.length_map] at this
  exact this
theorem atX_at {a : ByteArray} {l : List S48} (h : isX a l = true) : l[posX a l]? = some (atX a l) := by
  unfold atX rd_T48
  rw [Int.toNat_natCast, List.getD_eq_getElem?_getD, List.getElem?_eq_getElem (posX_lt h)]
  rfl
theorem isX_ne {a : ByteArray} {l : List S48} (h : isX a l = false) : ∀ y ∈ l, y.f0.toList ≠ a.toList := fun y hy e => of_decide_eq_false h (isX_iff.2 ⟨y, hy, e⟩)
/-- what a way leaves -/
def WayP (base D : Nat) (W : World) (cap : Int) (r : List S48 × Int) (e : Ending) (w' : World) : Prop :=
  e = .returned (.int .i64 r.2) ∧ Below base W w' ∧ (r.2 = 0 → ∃ v' ok' fs' kind a b dat mp, w'.heap[D]? = some (wk cap v' kind a b dat mp) ∧ WS w' D base ok' v' fs' r.1)
theorem btL_at (a : ByteArray) (i : Nat) (h : i < a.size) : bt a (i : Int) = ((a.data.toList[i]'(by simpa using h)).toNat : Int) := by
  unfold bt
  rw [Int.toNat_natCast, dif_pos h]
  rfl
theorem size_list (a : ByteArray) : a.data.toList.length = a.size := by simp
end Go.Proofs.Ytaldbabkdoabkaa.T
