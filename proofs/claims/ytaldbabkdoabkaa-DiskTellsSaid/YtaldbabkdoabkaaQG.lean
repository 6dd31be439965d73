import Derived.Test.YtaldbabkdoabkaaProg
import Derived.Test.YtaldbabkdoabkaaQV
import Derived.Test.YtaldbabkdoabkaaQB
import Derived.Test.YtaldbabkdoabkaaSh
import Derived.Shelf.GgSortFunc.Insertion
import Derived.Shelf.GgSortFunc.InsertionK
import Derived.Below
import Derived.Deep.Draws
import Derived.Deep.AppendLies
import Derived.Maps.AppendAt
import Derived.OwnWalk
import Derived.Laws.BytesArg
import Derived.Laws.MakeOwn
import Derived.Laws.OwnMore
import Derived.Deep.OwnRows
import Derived.Tactics
import Derived.Lib.ConvBytes
import Derived.Laws.Slices
import Derived.WalkKit
import Derived.KernelRfl
import Derived.RowKit3
import Derived.Deep.LoopGhost
import Derived.Deep.QuietTactic
import Derived.BigQuiet
import Derived.WideLaws
import Derived.Deep.DeepCutAuto
import Derived.Deep.CutBlock
import Derived.Deep.RegionHeld3
import Derived.Laws.Rows
import Derived.Lib.AppendStr
import Derived.ArgAppend
import Derived.Laws.IdiomCopy
import Derived.OrdersHeld
import Derived.Laws.BitsLemmas
import Derived.RowKit
namespace Go.Proofs.Ytaldbabkdoabkaa.T
open Go.RowKit Go.Proofs.YtaldbabkdoabkaaW.PrintWords Go.Proofs.YtaldbabkdoabkaaW.PrintLast Go.Proofs.YtaldbabkdoabkaaW.PrintMore
attribute [local go_sem] max2_int min2_int max_two min_two max_three min_three max_four min_four   -- for this text's walks alone
set_option linter.unusedVariables false
set_option linter.unusedSimpArgs false
/-! ### the order of names: cmp.Compare (54), the comparator (53), by hand -/
def Lays_ (w w' : World) : Prop := ∃ q os', w' = Sort.grow (w.drewN q) os'
theorem Lays_.refl (w : World) : Lays_ w w := ⟨0, #[], by rw [Sort.grow_empty]; rfl⟩
theorem Lays_.alloc {w w' : World} (h : Lays_ w w') (o : Obj) : Lays_ w (w'.alloc o) := by
  obtain ⟨q, os', rfl⟩ := h
  refine ⟨q, os'.push o, ?_⟩
  simp [Sort.grow, World.alloc]
/-! ### a > b of two texts, as the print spells it: b < a -/
theorem bytesLess_swap : ∀ a b : List UInt8, (!(Op.bytesLess a b || a == b)) = Op.bytesLess b a
  | [], [] => rfl
  | [], _ :: _ => rfl
  | _ :: _, [] => rfl
  | x :: r, y :: s => by
    have ih := bytesLess_swap r s
    simp only [Op.bytesLess]
    by_cases h1 : x < y
    · have h2 : ¬ y < x := by rw [UInt8.lt_iff_toNat_lt] at *; omega
      have h3 : (y == x) = false := by
        rw [beq_eq_false_iff_ne]
        intro he
        subst he
        exact h2 h1
      simp [h1, h2, h3]
    · by_cases h2 : y < x
      · have h3 : (x == y) = false := by
          rw [beq_eq_false_iff_ne]
          intro he
          subst he
          exact h1 h2
        have h4 : ((x :: r) == (y :: s)) = false := by
          rw [beq_eq_false_iff_ne]
          intro he
          injection he with he _
          rw [he] at h3
          simp at h3
        simp [h1, h2, h3, h4]
      · have he : x = y := by
          rw [UInt8.lt_iff_toNat_lt] at *
          exact UInt8.toNat_inj.1 (by omega)
        subst he
        have h4 : ((x :: r) == (x :: s)) = (r == s) := by simp
        rw [h4]
        simp only [h1, decide_false, Bool.false_or, beq_self_eq_true, Bool.true_and]
        exact ih
theorem string_gtr_ (t : TypeId) (a b : ByteArray) : binOp .gtr t (.string a) (.string b) = pure (.bool (Op.bytesLess b.toList a.toList)) := by
  rw [← bytesLess_swap]
  simp [binOp, Op.stringOp]
attribute [local go_sem] string_gtr_
def cmpI (a b : ByteArray) : Int := if Op.bytesLess a.toList b.toList = true then -1 else if Op.bytesLess b.toList a.toList = true then 1 else 0
set_option maxRecDepth 100000 in
theorem nan_calls (a : ByteArray) (w : World) : Calls Try.prog 59 #[.string a] w fun e w' => e = .returned (.bool false) ∧ w' = w := by
  go_enter Try.func59, Try.ntmps59
  go_wp2
  go_ret
  exact ⟨by simp, rfl⟩
set_option maxHeartbeats 1000000 in
set_option maxRecDepth 100000 in
theorem cmp_calls (a b : ByteArray) (w : World) : Calls Try.prog 54 #[.string a, .string b] w fun e w' => e = .returned (.int .i64 (cmpI a b)) ∧ w' = w := by
  unfold cmpI
  cases h1 : Op.bytesLess a.toList b.toList with
  | true =>
    go_enter Try.func54, Try.ntmps54
    go_wp2_with (first | (go_at_call 59; refine (nan_calls _ _).mono ?_; rintro e w' ⟨rfl, rfl⟩))
    go_ret
    exact ⟨by simp, rfl⟩
  | false =>
    cases h2 : Op.bytesLess b.toList a.toList with
    | true =>
      go_enter Try.func54, Try.ntmps54
      go_wp2_with (first | (go_at_call 59; refine (nan_calls _ _).mono ?_; rintro e w' ⟨rfl, rfl⟩))
      go_ret
      exact ⟨by simp, rfl⟩
    | false =>
      go_enter Try.func54, Try.ntmps54
      go_wp2_with (first | (go_at_call 59; refine (nan_calls _ _).mono ?_; rintro e w' ⟨rfl, rfl⟩))
      go_ret
      exact ⟨by simp, rfl⟩
def cellsF (x : SF) : Array Value := #[.string x.f0, encSl x.f1, .bool x.f2]
set_option maxHeartbeats 1000000 in
set_option maxRecDepth 100000 in
theorem byName_calls (a b : SF) (w : World) : Calls Try.prog 53 #[.agg (cellsF a), .agg (cellsF b)] w fun e w' => e = .returned (.int .i64 (cmpI a.f0 b.f0)) ∧ Lays_ w w' := by
  unfold cellsF
  go_enter Try.func53, Try.ntmps53
  go_wp2_with (first | (go_at_call 54; refine (cmp_calls _ _ _).mono ?_; rintro e w' ⟨rfl, rfl⟩))
  go_ret
  exact ⟨rfl, ((Lays_.refl w).alloc _).alloc _⟩
/-! ### a file taken away: the closure (56), slices.IndexFunc (60), by hand -/
theorem byteq (a b : ByteArray) : (a.toList == b.toList) = decide (a.toList = b.toList) := by
  cases h : decide (a.toList = b.toList) with
  | true => exact beq_iff_eq.2 (of_decide_eq_true h)
  | false => exact beq_eq_false_iff_ne.2 (of_decide_eq_false h)
set_option maxHeartbeats 1000000 in
set_option maxRecDepth 100000 in
theorem isNm_calls (x : SF) (nm : ByteArray) (B : Nat) (W : World) (hB : W.cell? ⟨B, 0, none⟩ = some (.string nm)) (b : Bool) (hb : (x.f0.toList == nm.toList) = b) :
    Calls Try.prog 56 #[.agg (cellsF x), .pointer (some ⟨B, 0, none⟩)] W fun e w' => e = .returned (.bool b) ∧ Below W.heap.size W w' := by
  unfold cellsF
  have h2 : (W.alloc (.cells #[.string x.f0, encSl x.f1, .bool x.f2] 48)).cell? ⟨B, 0, none⟩ = some (.string nm) := pw_cell_below (below_alloc (Below.refl _ _) _) hB
  go_enter Try.func56, Try.ntmps56
  go_wp2
  go_ret
  exact ⟨by first | rfl | simp [hb], below_alloc (Below.refl _ _) _⟩
def nmIdx (nm : ByteArray) : List SF → Nat → Int
  | [], _ => -1
  | x :: l, i => if (x.f0.toList == nm.toList) = true then (i : Int) else nmIdx nm l (i + 1)
set_option maxHeartbeats 8000000 in
set_option maxRecDepth 100000 in
theorem idxF_calls (A : Option Addr) (c : Nat) (fs : List SF) (nm : ByteArray) (B : Nat) (W : World) (hC : Kd.C kF W A fs.length fs) (hc : fs.length ≤ c) (hB : W.cell? ⟨B, 0, none⟩ = some (.string nm)) :
    Calls Try.prog 60 #[.slice A fs.length c, .func (.func 56) #[] #[.pointer (some ⟨B, 0, none⟩)]] W fun e w' => e = .returned (.int .i64 (nmIdx nm fs 0)) ∧ Below W.heap.size W w' := by
  have hlm : fs.length ≤ 9223372036854775807 := hC.2.1
  have HR := Aside0.mk hC
  have HBN := Aside0.mk hB
  have hu48 := Try.underlying48
  clear hC hB
  go_enter Try.func60, Try.ntmps60
  go_wp2
  go_loopg [8] fs.length (fun kq v8 w' => ∃ (i : Nat), v8 = .int .i64 (i : Int) ∧ Aside0 (fs.length ≤ kq + i) ∧ Aside0 (i ≤ fs.length) ∧ Aside0 (nmIdx nm (fs.drop i) i = nmIdx nm fs 0) ∧ Aside0 (Below W.heap.size W w'))
  case atStart => exact ⟨0, rfl, ⟨Nat.le_refl _⟩, ⟨Nat.zero_le _⟩, ⟨rfl⟩, ⟨Below.refl _ _⟩⟩
  case round =>
    obtain ⟨i, rfl, HK, HI, HN, HB⟩ := hrel
    obtain ⟨wo, rfl⟩ : ∃ wo : World, wo = wr := ⟨_, rfl⟩
    by_cases hlt : i < fs.length
    · obtain ⟨kj, rfl⟩ : ∃ m, gk = m + 1 := ⟨gk - 1, by have := HK.out; omega⟩
      have d1 : decide ((i : Int) < (fs.length : Int)) = true := decide_eq_true (by omega)
      obtain ⟨ad, e1, g0, g1, g2⟩ := at_TF (Kd.C_below HR.out HB.out) (i : Int) (by omega) (by omega)
      subst e1
      rw [Int.toNat_natCast] at g0 g1 g2
      have hstep : nmIdx nm (fs.drop i) i = if ((rd_TF fs (i : Int)).f0.toList == nm.toList) = true then (i : Int) else nmIdx nm (fs.drop (i + 1)) (i + 1) := by
        rw [List.drop_eq_getElem_cons hlt, nmIdx]
        unfold rd_TF
        rw [Int.toNat_natCast, List.getD_eq_getElem?_getD, List.getElem?_eq_getElem hlt]
        rfl
      rw [HN.out] at hstep
      generalize rd_TF fs (i : Int) = x at g0 g1 g2 hstep
      have HBN2 := Aside0.mk (pw_cell_below HB.out HBN.out)
      cases hq : (x.f0.toList == nm.toList) with
      | true =>
        rw [hq, if_pos rfl] at hstep
        have HS := Aside0.mk hstep
        have HQ := Aside0.mk hq
        clear hstep hq
        go_wp2_with (first | (go_at_call 56; (refine (isNm_calls x nm B _ HBN2.out true HQ.out).mono ?_); rintro e w1 ⟨rfl, hb⟩; have HB1 := Aside0.mk (below_step HB.out hb); clear hb))
        go_ret
        exact ⟨by rw [HS.out]; rfl, HB1.out⟩
      | false =>
        rw [hq, if_neg (by simp)] at hstep
        have HS := Aside0.mk hstep.symm
        have HQ := Aside0.mk hq
        clear hstep hq
        go_wp2_with (first | (go_at_call 56; (refine (isNm_calls x nm B _ HBN2.out false HQ.out).mono ?_); rintro e w1 ⟨rfl, hb⟩; have HB1 := Aside0.mk (below_step HB.out hb); clear hb))
        go_roundg kj
        case measure => omega
        case rel => exact ⟨i + 1, congrArg (Value.int .i64) (by omega), ⟨by have := HK.out; omega⟩, ⟨by omega⟩, HS, HB1⟩
    · have d1 : decide ((i : Int) < (fs.length : Int)) = false := decide_eq_false (by omega)
      have HN2 := Aside0.mk (show (-1 : Int) = nmIdx nm fs 0 by have := HN.out; rw [List.drop_eq_nil_of_le (by omega)] at this; exact this)
      go_wp2
      go_ret
      exact ⟨by rw [← HN2.out]; rfl, HB.out⟩
/-! ### slices.DeleteFunc (55) at files, by hand -/
theorem own_beyond {w : World} {base e size n cap g : Nat} {xs : List Value} (h : w.ownsRow base e size (.slice (some ⟨g, 0, none⟩) n cap) n xs) (j : Nat) (u : Value) (hj : n * size ≤ j) : (w.setCell ⟨g, j, none⟩ u).ownsRow base e size (.slice (some ⟨g, 0, none⟩) n cap) n xs := by
  obtain ⟨h1, h2⟩ := h
  refine ⟨h1, ?_⟩
  rcases h2 with ⟨e1, _⟩ | ⟨g', cap', cur, e1, hb, hh, hn, hm, hs, ht⟩
  · cases e1
  · injection e1 with e1 e2 e3
    injection e1 with e1
    injection e1 with e1
    subst e1; subst e3
    refine .inr ⟨g, cap, cur.setIfInBounds j u, rfl, hb, blk_set hh j u, hn, hm, by rw [Array.size_setIfInBounds]; exact hs, ?_⟩
    rw [Array.toList_setIfInBounds, List.take_set_of_le hj]
    exact ht
theorem RF_beyond {w : World} {base : Nat} {ok : Nat → Prop} {n cap g : Nat} {xs : List SF} (h : Kd.R kF 48 w base ok (.slice (some ⟨g, 0, none⟩) n cap) xs) (j : Nat) (u : Value) (hj : n * 3 ≤ j) : Kd.R kF 48 (w.setCell ⟨g, j, none⟩ u) base ok (.slice (some ⟨g, 0, none⟩) n cap) xs := by
  obtain ⟨hn, _, _⟩ := Kd.R_reads' h
  subst hn
  obtain ⟨h0, inner, ho, hr⟩ := h
  exact ⟨h0, inner, own_beyond ho j u hj, hr.imp_ (fun x c hp => by obtain rfl := kF_openM hp; exact kF_mkM _ _ _ _)⟩
theorem RF_beyonds {base : Nat} {ok : Nat → Prop} {n cap g : Nat} {xs : List SF} : ∀ (vs : List Value) (j : Nat) (w : World), Kd.R kF 48 w base ok (.slice (some ⟨g, 0, none⟩) n cap) xs → n * 3 ≤ j → Kd.R kF 48 (w.setCells g j vs) base ok (.slice (some ⟨g, 0, none⟩) n cap) xs
  | [], _, _, h, _ => h
  | v :: r, j, w, h, hj => RF_beyonds r (j + 1) _ (RF_beyond h j v hj) (by omega)
theorem grown_setCells (w : World) (g : Nat) : ∀ (vs : List Value) (j : Nat), w.grownBy (w.setCells g j vs) (some g) := fun vs j => by
  obtain ⟨s1, s2, s3, s4⟩ := setCells_same g vs j w
  exact ⟨s1, s2, s3, by rw [s4]; exact Nat.le_refl _, fun k _ hk => setCells_far vs _ k (fun he => hk (by rw [he]))⟩
theorem run_clear_agg {P : Program} (w : World) (t e ty : TypeId) (z : Value) (ht : P.underlying t = some (.slice e)) (hv : ∀ w, (zeroValue e).run P w = .ok z w) (h1 : ∀ v ∈ (Builtin.zeroCells z.cells 0).toList ++ z.cells.toList, v.oneCell' = true) (b o n c : Nat) (hn : 0 < n)
    (hc : ∀ j, j < n * z.cells.size → (w.cell? ⟨b, o + j, none⟩).isSome = true) (hf : ∀ j, w.frozen? ⟨b, o + j, none⟩ = false) :
    (Builtin.clear_ #[t] ty #[.slice (some ⟨b, o, none⟩) n c]).run P w = .ok (.tuple #[]) (w.setCells b o (Builtin.zeroCells z.cells n).toList) := by
  have hl : (Builtin.zeroCells z.cells n).toList.length = n * z.cells.size := by simp [Builtin.zeroCells]
  have hst := run_storeCells_cells (P := P) b o (Builtin.zeroCells z.cells n).toList 0 w (by rw [hl]; simpa using hc) (fun j _ => by simp [hf j]) (by
    intro v hv'
    have hs : 0 < z.cells.size := by
      rcases Nat.eq_zero_or_pos z.cells.size with h | h
      · rw [h, Nat.mul_zero] at hl
        rw [List.eq_nil_of_length_eq_zero hl] at hv'
        cases hv'
      · exact h
    simp only [Builtin.zeroCells, Array.toList_map, List.mem_map] at hv'
    obtain ⟨i, _, rfl⟩ := hv'
    have hm : i % z.cells.size < z.cells.size := Nat.mod_lt _ hs
    rw [getElem!_pos z.cells _ hm]
    exact h1 _ (List.mem_append_right _ (by simp)))
  simp only [Nat.add_zero] at hst
  obtain ⟨m, rfl⟩ : ∃ m, n = m + 1 := ⟨n - 1, by omega⟩
  simp [Builtin.clear_, run_underlying ht, hv, hst]
def keepN (nm : ByteArray) (x : SF) : Bool := !(x.f0.toList == nm.toList)
theorem nmIdx_spec (nm : ByteArray) : ∀ (l : List SF) (i : Nat), (nmIdx nm l i = -1 ∧ l.filter (keepN nm) = l) ∨ (∃ j : Nat, j < l.length ∧ nmIdx nm l i = ((i + j : Nat) : Int) ∧ (l.take j).filter (keepN nm) = l.take j ∧ ∀ x, l[j]? = some x → keepN nm x = false)
  | [], i => .inl ⟨rfl, rfl⟩
  | x :: l, i => by
    rw [nmIdx]
    by_cases h : (x.f0.toList == nm.toList) = true
    · rw [if_pos h]
      refine .inr ⟨0, by simp, rfl, rfl, fun y hy => ?_⟩
      obtain rfl := Option.some.inj hy
      simp [keepN, h]
    · rw [if_neg h]
      have hk : keepN nm x = true := by simp only [keepN, Bool.not_eq_true']; exact Bool.not_eq_true _ ▸ h
      rcases nmIdx_spec nm l (i + 1) with ⟨h1, h2⟩ | ⟨j, h1, h2, h3, h4⟩
      · exact .inl ⟨h1, by rw [List.filter_cons, if_pos hk, h2]⟩
      · refine .inr ⟨j + 1, by simp; omega, by rw [h2]; congr 1; omega, ?_, fun y hy => h4 y hy⟩
        rw [List.take_succ_cons, List.filter_cons, if_pos hk, h3]
def delN (nm : ByteArray) (fs : List SF) : List SF := fs.filter (keepN nm)
theorem keepN_of {nm : ByteArray} {x : SF} {b : Bool} (h : (x.f0.toList == nm.toList) = b) : keepN nm x = !b := by unfold keepN; rw [h]
theorem take_filter_succ (nm : ByteArray) (fs : List SF) (j : Nat) (hj : j < fs.length) : (fs.take (j + 1)).filter (keepN nm) = (fs.take j).filter (keepN nm) ++ (if keepN nm (rd_TF fs (j : Int)) = true then [rd_TF fs (j : Int)] else []) := by
  rw [List.take_succ_eq_append_getElem hj, List.filter_append]
  unfold rd_TF
  rw [Int.toNat_natCast, List.getD_eq_getElem?_getD, List.getElem?_eq_getElem hj]
  congr 1
  rw [Option.getD_some, List.filter_cons]
  split <;> rfl
set_option maxHeartbeats 8000000 in
set_option maxRecDepth 100000 in
theorem delF_calls (A : Option Addr) (c : Nat) (fs : List SF) (nm : ByteArray) (B base : Nat) (ok : Nat → Prop) (W : World) (HO : Kd.R kF 48 W base ok (.slice A fs.length c) fs) (hB : W.heap[B]? = some (.cells #[.string nm] 9 (0, 0))) (hfew : fs.length ≤ 1200) :
    Calls Try.prog 55 #[.slice A fs.length c, .func (.func 56) #[] #[.pointer (some ⟨B, 0, none⟩)]] W fun e w' => ∃ v', e = .returned v' ∧ Kd.R kF 48 w' base ok v' (delN nm fs) ∧ W.grownBy w' (Value.slice A fs.length c).ownBlock ∧ v'.ownBlock = (Value.slice A fs.length c).ownBlock := by
  obtain ⟨_, hc, hC⟩ := Kd.R_reads' HO
  have hu48 := Try.underlying48
  have HOO := Aside0.mk HO
  have HB0 := Aside0.mk hB
  have cB : W.cell? ⟨B, 0, none⟩ = some (.string nm) := (blk_cell hB 0).trans rfl
  have HIX := Aside0.mk (idxF_calls A c fs nm B W hC hc cB)
  clear HO hB hC
  rcases nmIdx_spec nm fs 0 with ⟨h1, h2⟩ | ⟨i0, hi0, h1, h3, h4⟩
  · have HE := Aside0.mk h2
    rw [h1] at HIX
    clear h1 h2
    go_enter Try.func55, Try.ntmps55
    go_wp2_with (first | (go_at_call 60; (refine HIX.out.mono ?_); rintro e w1 ⟨rfl, hb⟩; have HB := Aside0.mk hb; clear hb))
    go_ret
    refine ⟨_, rfl, ?_, grown_of_below HB.out _, rfl⟩
    unfold delN
    rw [HE.out]
    exact Kd.R_below HOO.out HB.out
  · rw [h1, Nat.zero_add] at HIX
    obtain ⟨g, cv, ef, hgb, hgs, cells, hgc⟩ := Kd.R_form HOO.out (by omega)
    injection ef with e1 e2 e3
    subst e1; subst e3
    have hgB : B ≠ g := blk_ne HB0.out hgc (by decide)
    have HI0 := Aside0.mk hi0
    have HGS := Aside0.mk hgs
    have HGB := Aside0.mk hgB
    have H3 := Aside0.mk h3
    have H4 := Aside0.mk h4
    clear h1 h3 h4 hgb hgs hgc cells
    have d0 : decide ((i0 : Int) = -1) = false := decide_eq_false (by omega)
    have d0b : ((i0 : Int) == -1) = false := beq_eq_false_iff_ne.2 (by omega)
    go_enter Try.func55, Try.ntmps55
    go_upto_block 0 with (first | (go_at_call 60; (refine HIX.out.mono ?_); rintro e w1 ⟨rfl, hb⟩; have HB := Aside0.mk hb; clear hb))
    go_cut [5] (fun v5 wc => ∃ (i : Nat) (gs : List SF), v5 = .int .i64 (i : Int) ∧ Aside0 (i < fs.length) ∧ Aside0 (gs.length = fs.length) ∧ Aside0 (gs.take i = delN nm fs) ∧ Aside0 (Kd.R kF 48 wc base ok (.slice (some ⟨g, 0, none⟩) fs.length c) gs) ∧ Aside0 (W.grownBy wc (some g)))
    case first =>
      go_wp2
      go_loopg [5, 6] fs.length (fun kq v5 v6 w' => ∃ (i j : Nat) (gs : List SF), v5 = .int .i64 (i : Int) ∧ v6 = .int .i64 (j : Int) ∧ Aside0 (fs.length ≤ kq + j) ∧ Aside0 (i < j ∧ j ≤ fs.length) ∧ Aside0 (gs.length = fs.length) ∧ Aside0 (gs.take i = (fs.take j).filter (keepN nm)) ∧ Aside0 (gs.drop j = fs.drop j) ∧ Aside0 (Kd.R kF 48 w' base ok (.slice (some ⟨g, 0, none⟩) fs.length c) gs) ∧ Aside0 (W.grownBy w' (some g)))
      case atStart =>
        have hi := HI0.out
        refine ⟨i0, i0 + 1, fs, rfl, congrArg (Value.int .i64) (by first | omega | (unfold wrap64; omega)), ⟨by omega⟩, ⟨by omega, by omega⟩, ⟨rfl⟩, ⟨?_⟩, ⟨rfl⟩, ⟨Kd.R_below HOO.out HB.out⟩, ⟨grown_of_below HB.out _⟩⟩
        rw [take_filter_succ nm fs i0 hi, H3.out, H4.out (rd_TF fs (i0 : Int)) (by unfold rd_TF; rw [Int.toNat_natCast, List.getD_eq_getElem?_getD, List.getElem?_eq_getElem hi]; rfl)]
        simp
      case round =>
        clear HB
        obtain ⟨i, j, gs, rfl, rfl, HK, HIJ, HGL, HGT, HGD, HROW, HG⟩ := hrel
        obtain ⟨wo, rfl⟩ : ∃ wo : World, wo = wr := ⟨_, rfl⟩
        by_cases hlt : j < fs.length
        · obtain ⟨kj, rfl⟩ : ∃ m, gk = m + 1 := ⟨gk - 1, by have := HK.out; omega⟩
          have d1 : decide ((j : Int) < (fs.length : Int)) = true := decide_eq_true (by omega)
          have hij := HIJ.out
          obtain ⟨cc, hcl, hM, hcc, hfz⟩ := Kd.R_elem HROW.out zF (j : Int) (by omega) (by omega)
          rw [Int.toNat_natCast] at hM hcc hfz
          have hgj : gs.getD j zF = rd_TF fs (j : Int) := by
            unfold rd_TF
            rw [Int.toNat_natCast, List.getD_eq_getElem?_getD, List.getD_eq_getElem?_getD]
            have := congrArg (fun l => l[0]?) HGD.out
            simp only [List.getElem?_drop, Nat.add_zero] at this
            rw [this]
          rw [hgj] at hM
          obtain rfl := kF_openM hM
          have r0 : wo.cell? ⟨g, j * 3, none⟩ = some (.string (rd_TF fs (j : Int)).f0) := hcc 0 _ rfl
          have r1 : wo.cell? ⟨g, j * 3 + 1, none⟩ = some (encSl (rd_TF fs (j : Int)).f1) := hcc 1 _ rfl
          have r2 : wo.cell? ⟨g, j * 3 + 2, none⟩ = some (.bool (rd_TF fs (j : Int)).f2) := hcc 2 _ rfl
          have HTF := Aside0.mk (take_filter_succ nm fs j hlt)
          generalize rd_TF fs (j : Int) = x at r0 r1 r2 HTF
          obtain ⟨x0, ⟨A1, n1, c1⟩, x2⟩ := x
          replace r0 : wo.cell? ⟨g, j * 3, none⟩ = some (.string x0) := r0
          replace r1 : wo.cell? ⟨g, j * 3 + 1, none⟩ = some (.slice A1 n1 c1) := r1
          replace r2 : wo.cell? ⟨g, j * 3 + 2, none⟩ = some (.bool x2) := r2
          clear hM hcc hfz hcl hgj
          have HBN := Aside0.mk (show wo.cell? ⟨B, 0, none⟩ = some (.string nm) from (blk_cell (blk_grown HB0.out HG.out (by simpa using HGB.out)) 0).trans rfl)
          cases hq : (x0.toList == nm.toList) with
          | true =>
            have HQ := Aside0.mk hq
            clear hq hij
            go_wp2_with (first | (go_at_call 56; (refine (isNm_calls ⟨x0, (A1, n1, c1), x2⟩ nm B _ (pw_cell_below (below_alloc (Below.refl _ _) _) HBN.out) true HQ.out).mono ?_); rintro e w1 ⟨rfl, hb⟩; have HB1 := Aside0.mk (below_step (below_alloc (Below.refl _ _) _) hb); clear hb))
            go_roundg kj
            case measure => omega
            case rel => exact ⟨i, j + 1, gs, rfl, congrArg (Value.int .i64) (by first | omega | (unfold wrap64; omega)), ⟨by have := HK.out; omega⟩, ⟨by have := HIJ.out; omega, by omega⟩, HGL, ⟨by rw [HTF.out, keepN_of HQ.out]; simpa using HGT.out⟩, ⟨by
              have := congrArg (List.drop 1) HGD.out
              rwa [List.drop_drop, List.drop_drop] at this⟩, ⟨Kd.R_below HROW.out HB1.out⟩, ⟨HG.out.trans (grown_of_below HB1.out _)⟩⟩
          | false =>
            have HQ := Aside0.mk hq
            clear hq hij
            have hil : i < fs.length := by have := HIJ.out; omega
            have di : decide ((i : Int) < (fs.length : Int)) = true := decide_eq_true (by omega)
            obtain ⟨ci, hcil, hMi, hcci, hfzi⟩ := Kd.R_elem HROW.out zF (i : Int) (by omega) (by omega)
            rw [Int.toNat_natCast] at hMi hcci hfzi
            obtain rfl := kF_openM hMi
            have q0 : wo.cell? ⟨g, i * 3, none⟩ = some _ := hcci 0 _ rfl
            have q1 : wo.cell? ⟨g, i * 3 + 1, none⟩ = some _ := hcci 1 _ rfl
            have q2 : wo.cell? ⟨g, i * 3 + 2, none⟩ = some _ := hcci 2 _ rfl
            obtain ⟨gg, cv2, ef, _, hgs2, cells, hgc⟩ := Kd.R_form HROW.out (by have := HGL.out; omega)
            injection ef with e1 e2 e3
            injection e1 with e1
            injection e1 with e1
            subst e1
            clear e2 e3
            have HCC := Aside0.mk hcci
            have HGC := Aside0.mk hgc
            clear hcil hMi hcci hfzi hgs2 hgc
            go_wp2_with (first | (go_at_call 56; (refine (isNm_calls ⟨x0, (A1, n1, c1), x2⟩ nm B _ (pw_cell_below (below_alloc (Below.refl _ _) _) HBN.out) false HQ.out).mono ?_); rintro e w1 ⟨rfl, hb⟩; have BX := Aside0.mk (blk_below (blk_new wo (.cells #[.string x0, .slice A1 n1 c1, .bool x2] 48 (0, 0))) hb); have HB1 := Aside0.mk (below_step (below_alloc (Below.refl _ _) _) hb); have b0 : w1.cell? ⟨wo.heap.size, 0, none⟩ = some (.string x0) := (blk_cell BX.out 0).trans rfl; have b1 : w1.cell? ⟨wo.heap.size, 1, none⟩ = some (.slice A1 n1 c1) := (blk_cell BX.out 1).trans rfl; have b2 : w1.cell? ⟨wo.heap.size, 2, none⟩ = some (.bool x2) := (blk_cell BX.out 2).trans rfl; have p0 := pw_cell_below HB1.out q0; have p1 := pw_cell_below HB1.out q1; have p2 := pw_cell_below HB1.out q2; have z0 := blk_frozen (blk_below HGC.out HB1.out) (i * 3); have z1 := blk_frozen (blk_below HGC.out HB1.out) (i * 3 + 1); have z2 := blk_frozen (blk_below HGC.out HB1.out) (i * 3 + 2); clear hb q0 q1 q2))
            have HBX := Aside0.mk (Kd.R_seg (j := 0) (seg := [.string x0, .slice A1 n1 c1, .bool x2]) (okp := fun _ => False) (x' := (⟨x0, (A1, n1, c1), x2⟩ : SF)) (Kd.R_below HROW.out HB1.out) (i : Int) (by omega) (by omega) (c := [.string (gs.getD i zF).f0, encSl (gs.getD i zF).f1, .bool (gs.getD i zF).f2]) rfl (fun j u hu => by rw [Int.toNat_natCast]; exact pw_cell_below HB1.out (HCC.out j u hu)) (by show 0 + 3 ≤ 3; omega) (kF_mkM _ _ _ (⟨x0, (A1, n1, c1), x2⟩ : SF)) (fun _ hk => hk.elim))
            rw [Int.toNat_natCast] at HBX
            have HIJ2 := Aside0.mk (show i + 1 < j + 1 ∧ j + 1 ≤ fs.length by have := HIJ.out; omega)
            have HGL2 := Aside0.mk (show (gs.set i (⟨x0, (A1, n1, c1), x2⟩ : SF)).length = fs.length by rw [List.length_set]; exact HGL.out)
            have HGT2 := Aside0.mk (show (gs.set i (⟨x0, (A1, n1, c1), x2⟩ : SF)).take (i + 1) = (fs.take (j + 1)).filter (keepN nm) by
              rw [HTF.out, keepN_of HQ.out, ← HGT.out, List.take_succ_eq_append_getElem (by rw [List.length_set, HGL.out]; exact hil), List.take_set_of_le (Nat.le_refl _), List.getElem_set_self]
              rfl)
            have HGD2 := Aside0.mk (show (gs.set i (⟨x0, (A1, n1, c1), x2⟩ : SF)).drop (j + 1) = fs.drop (j + 1) by
              have h1 := congrArg (List.drop 1) HGD.out
              rw [List.drop_drop, List.drop_drop] at h1
              rw [List.drop_set_of_lt (by have := HIJ.out; omega)]
              exact h1)
            have HG2 := Aside0.mk (HG.out.trans (grown_of_below HB1.out (some g)))
            go_roundg kj
            case measure => omega
            case rel => exact ⟨i + 1, j + 1, _, congrArg (Value.int .i64) (by first | omega | (unfold wrap64; omega)), congrArg (Value.int .i64) (by first | omega | (unfold wrap64; omega)), ⟨by have := HK.out; omega⟩, HIJ2, HGL2, HGT2, HGD2, ⟨HBX.out.1⟩, ⟨HG2.out.trans HBX.out.2⟩⟩
        · have d1 : decide ((j : Int) < (fs.length : Int)) = false := decide_eq_false (by omega)
          have hij := HIJ.out
          have HE := Aside0.mk (show gs.take i = delN nm fs by rw [HGT.out, List.take_of_length_le (by omega)]; rfl)
          have HIL := Aside0.mk (show i < fs.length by omega)
          clear hij
          go_wp2
          go_meet
          case rel => exact ⟨i, gs, rfl, HIL, HGL, HE, HROW, HG⟩
    case rest =>
      obtain ⟨i, gs, rfl, HIL, HGL, HE, HROW, HG⟩ := hcut
      have hil := HIL.out
      have hic : ¬ c = i := by omega
      have hile : i ≤ fs.length := by omega
      have hlen : gs.length = fs.length := HGL.out
      have hrow0 := HROW.out
      obtain ⟨gg, cv2, ef, _, hgs2, cells, hgc⟩ := Kd.R_form hrow0 (by omega)
      injection ef with e1 e2 e3
      injection e1 with e1
      injection e1 with e1
      subst e1
      clear e2 e3
      have hsz3 : fs.length * 3 ≤ cells.size := by
        obtain ⟨_, inner, ⟨_, ho⟩, _⟩ := hrow0
        rcases ho with ⟨e, _⟩ | ⟨g', cap', cur, e, _, hh, hn, _, hs, _⟩
        · cases e
        · injection e with e4 e5 e6
          injection e4 with e4
          injection e4 with e4
          subst e4
          rw [hgc] at hh
          injection hh with hh
          injection hh with hh
          subst hh
          rw [hs]
          show _ ≤ _ * 3
          omega
      have hcl := run_clear_agg (P := Try.prog) wc 22 48 0 (.agg #[.string ⟨#[]⟩, .slice none 0 0, .bool false]) Try.underlying22 (fun w => by kernel_rfl) (by intro v hv; simp [Builtin.zeroCells, Value.cells] at hv; rcases hv with rfl | rfl | rfl <;> rfl) g (i * 3) (fs.length - i) (c - i) (by omega) (fun j hj => by
        rw [blk_cell hgc, Array.getElem?_eq_getElem (by
          have : j < (fs.length - i) * 3 := hj
          omega)]
        rfl) (fun j => blk_frozen hgc _)
      have HSET := Aside0.mk (show Kd.R kF 48 (wc.setCells g (i * 3) (Builtin.zeroCells (Value.agg #[.string ⟨#[]⟩, .slice none 0 0, .bool false]).cells (fs.length - i)).toList) base ok (.slice (some ⟨g, 0, none⟩) i c) (delN nm fs) from by
        rw [← HE.out]
        exact RF_beyonds _ _ _ (Kd.R_take hrow0 (by omega)) (Nat.le_refl _))
      have HGR := Aside0.mk (show W.grownBy (wc.setCells g (i * 3) (Builtin.zeroCells (Value.agg #[.string ⟨#[]⟩, .slice none 0 0, .bool false]).cells (fs.length - i)).toList) (some g) from HG.out.trans (grown_setCells _ _ _ _))
      clear hrow0 hgc hgs2 hlen hsz3 hil
      generalize (wc.setCells g (i * 3) (Builtin.zeroCells (Value.agg #[.string ⟨#[]⟩, .slice none 0 0, .bool false]).cells (fs.length - i)).toList) = wz at *
      go_wp2
      go_ret
      exact ⟨_, rfl, HSET.out, HGR.out, rfl⟩
/-! ### a row of one's own, sorted by the shelf's slices.SortFunc -/
section
open Go.Sort
variable {α β : Type} [Inhabited α] {enc : α → Value} {W : World} {blk m : Nat} {dk : Array α} {os : Array Obj}
theorem sw_other {k : Nat} (hk : k ≠ blk) (hlt : k < W.heap.size) (off : Nat) : (sortWorld enc W blk off m dk os).heap[k]? = W.heap[k]? := by
  unfold sortWorld grow putRow mapBlock
  simp only [Sort.ahead]
  rw [Array.getElem?_append_left (by simpa using hlt), Array.getElem?_modify, if_neg (fun h => hk h.symm)]
theorem sw_same {cur : Array Value} {e : TypeId} {fr : Nat × Nat} (off : Nat) (h : W.heap[blk]? = some (.cells cur e fr)) : (sortWorld enc W blk off m dk os).heap[blk]? = some (.cells (putCells enc off dk cur) e fr) := by
  unfold sortWorld grow putRow mapBlock
  simp only [Sort.ahead]
  have hlt : blk < W.heap.size := blk_lt h
  rw [Array.getElem?_append_left (by simpa using hlt), Array.getElem?_modify, if_pos rfl, h]
  rfl
theorem sw_below {B : Nat} {w : World} (off : Nat) (h : Below B w W) (hB : B ≤ blk) (hs : B ≤ W.heap.size) : Below B w (sortWorld enc W blk off m dk os) :=
  ⟨h.os, h.tape, h.output, Nat.le_trans h.size (by simp [sortWorld, grow, putRow, mapBlock, Sort.ahead]), fun k hk => (sw_other (by omega) (by omega) off).trans (h.block k hk)⟩
variable {encb : β → Value} {h1 : ∀ x, (encb x).oneCell' = true} {f : α → β} {e base N cap : Nat} {ok : Nat → Prop} {xs : List β}
theorem sw_holds (HO : (Kd.scalar encb h1).R e W base ok (.slice (some ⟨blk, 0, none⟩) N cap) xs) (d : Array α) (hx : xs = d.toList.map f) (he : ∀ x, enc x = encb (f x)) : Holds enc W blk 0 d := by
  intro j hj
  have hN := (Kd.R_reads' HO).1
  have hl : xs.length = d.size := by rw [hx]; simp
  subst hN
  have hc := Kd.R_cell (f default) HO (j : Int) (by omega) (by omega)
  rw [Int.toNat_natCast] at hc
  rw [Nat.zero_add]
  refine ⟨hc.1.trans ?_, hc.2⟩
  rw [he]
  congr 2
  simp [rdOf, hx, hj, List.getD_eq_getElem?_getD]
theorem sw_row (HO : (Kd.scalar encb h1).R e W base ok (.slice (some ⟨blk, 0, none⟩) N cap) xs) (hs : dk.size = N) (he : ∀ x, enc x = encb (f x)) : (Kd.scalar encb h1).R e (sortWorld enc W blk 0 m dk os) base ok (.slice (some ⟨blk, 0, none⟩) N cap) (dk.toList.map f) := by
  have hown := Kd.own_of_R HO
  have hN := (Kd.R_reads' HO).1
  rcases hown.2 with ⟨hv, _⟩ | ⟨g', cap', cur, hv, hb, hh, hnc, hcm, hcs, htake⟩
  · cases hv
  injection hv with ha _ hc
  injection ha with ha
  injection ha with hg'
  subst hg'; subst hc
  have hl : (dk.toList.map f).length = N := by simp [hs]
  refine Kd.R_of_own ?_ HO.1
  rw [hl]
  refine ⟨by rw [encs_length, hl, Nat.mul_one], .inr ⟨blk, cap, _, rfl, hb, sw_same 0 hh, by omega, hcm, by simp [putCells, hcs], ?_⟩⟩
  apply List.ext_getElem?
  intro j
  rw [Nat.mul_one, List.getElem?_take]
  by_cases hj : j < N
  · rw [if_pos hj]
    have hjc : j < cur.size := by omega
    simp only [putCells, encs, Array.getElem?_toList, Array.getElem?_mapIdx, List.getElem?_map]
    rw [Array.getElem?_eq_getElem hjc, Array.getElem?_eq_getElem (by omega)]
    simp only [Option.map_some, Nat.zero_add, Nat.sub_zero]
    rw [if_pos ⟨Nat.zero_le _, by omega⟩, he, getElem!_pos dk j (by omega)]
  · rw [if_neg hj, List.getElem?_eq_none (by rw [encs_length, hl]; omega)]
end
/-! ### a row of one's own, of elements of several plain cells, sorted by the shelf's slices.SortFunc -/
section
open Go.Sort
theorem sortWorldK_flat {α : Type} [Inhabited α] (enc : α → List Value) (k : Nat) (W : World) (blk m : Nat) (dk : Array α) (os : Array Obj) : sortWorldK enc k W blk 0 m dk os = sortWorld id W blk 0 m (flatK enc k dk) os := rfl
theorem reps_at {β : Type} {R : β → List Value → Prop} {k : Nat} {xs : List β} {inner : List Value} {enc : β → List Value} (h : Reps R k xs inner) (hR : ∀ x cs, R x cs → cs = enc x) (t : Nat) (x : β) (hx : xs[t / k]? = some x) (hk : 0 < k) : inner[t]? = (enc x)[t % k]? := by
  have h1 := hR _ _ (h.2 (t / k) x hx)
  rw [← h1, List.getElem?_take, if_pos (Nat.mod_lt _ hk), List.getElem?_drop]
  congr 1
  have := Nat.div_add_mod t k
  rw [Nat.mul_comm] at this
  omega
variable {α β : Type} [Inhabited α] {d : Kd β} {enc : α → List Value} {encb : β → List Value} {W : World} {blk m e base N cap : Nat} {ok : Nat → Prop} {xs : List β} {f : α → β} {dk : Array α} {os : Array Obj}
theorem swk_holds (HO : d.R e W base ok (.slice (some ⟨blk, 0, none⟩) N cap) xs) (hk : 0 < d.sz) (hM : ∀ w base ok x cs, d.M w base ok x cs → cs = encb x) (hl : ∀ x, (encb x).length = d.sz) (dd : Array α) (hx : xs = dd.toList.map f) (he : ∀ x, enc x = encb (f x)) : HoldsK enc d.sz W blk 0 dd := by
  intro t ht
  obtain ⟨_, inner, ho, hr⟩ := HO
  rw [size_flatK] at ht
  have hlen : xs.length = dd.size := by rw [hx]; simp
  rcases ho.2 with ⟨hv, _⟩ | ⟨g', cap', cur, hv, hb, hh, hnc, hcm, hcs, htake⟩
  · cases hv
  injection hv with ha hn hc
  injection ha with ha
  injection ha with hg'
  subst hg'; subst hc
  have hin : inner[t]? = cur[t]? := by
    rw [← htake, List.getElem?_take, if_pos (by rw [hlen]; exact ht), Array.getElem?_toList]
  have hdiv : t / d.sz < dd.size := Nat.div_lt_of_lt_mul (by rw [Nat.mul_comm]; exact ht)
  have hxe : xs[t / d.sz]? = some (f dd[t / d.sz]!) := by
    rw [hx, List.getElem?_map, Array.getElem?_toList, getElem!_pos dd _ hdiv, Array.getElem?_eq_getElem hdiv]
    rfl
  have h2 := reps_at hr (fun x cs hc => hM _ _ _ x cs hc) t _ hxe hk
  have hlt : t % d.sz < (encb (f dd[t / d.sz]!)).length := by rw [hl]; exact Nat.mod_lt _ hk
  refine ⟨?_, blk_frozen hh _⟩
  rw [Nat.zero_add, blk_cell hh, ← hin, h2, get_flatK _ _ _ _ ht, he]
  rw [List.getElem?_eq_getElem hlt]
  simp [hlt]
theorem swk_row (HO : d.R e W base ok (.slice (some ⟨blk, 0, none⟩) N cap) xs) (hk : 0 < d.sz) (hM : ∀ w base ok x cs, d.M w base ok x cs ↔ cs = encb x) (hl : ∀ x, (encb x).length = d.sz) (hs : dk.size = N) (he : ∀ x, enc x = encb (f x)) : d.R e (sortWorldK enc d.sz W blk 0 m dk os) base ok (.slice (some ⟨blk, 0, none⟩) N cap) (dk.toList.map f) := by
  obtain ⟨h0, inner, ho, hr⟩ := HO
  have hlen : (dk.toList.map f).length = N := by simp [hs]
  have hN : N = xs.length := by
    rcases ho.2 with ⟨hv, _⟩ | ⟨g', cap', cur, hv, _⟩
    · cases hv
    · injection hv
  rcases ho.2 with ⟨hv, _⟩ | ⟨g', cap', cur, hv, hb, hh, hnc, hcm, hcs, htake⟩
  · cases hv
  injection hv with ha hn hc
  injection ha with ha
  injection ha with hg'
  subst hg'; subst hc
  rw [← hN] at hnc htake
  refine ⟨h0, (putCells id 0 (flatK enc d.sz dk) cur).toList.take (N * d.sz), ?_, ?_⟩
  · rw [hlen]
    have hsz : (putCells id 0 (flatK enc d.sz dk) cur).size = cap * d.sz := by simp [putCells, hcs]
    have hle : N * d.sz ≤ cap * d.sz := Nat.mul_le_mul_right _ hnc
    refine ⟨?_, .inr ⟨blk, cap, _, rfl, hb, ?_, hnc, hcm, hsz, rfl⟩⟩
    · rw [List.length_take, Array.length_toList, hsz]
      omega
    · rw [sortWorldK_flat]
      exact sw_same 0 hh
  · have hsz : (putCells id 0 (flatK enc d.sz dk) cur).size = cap * d.sz := by simp [putCells, hcs]
    have hle : N * d.sz ≤ cap * d.sz := Nat.mul_le_mul_right _ hnc
    refine ⟨by rw [List.length_take, Array.length_toList, hsz, hlen]; omega, fun j p hp => ?_⟩
    rw [hM]
    have hj : j < dk.size := by have := (List.getElem?_eq_some_iff.1 hp).1; simpa using this
    have hpe : p = f dk[j]! := by
      rw [List.getElem?_map, Array.getElem?_toList, Array.getElem?_eq_getElem hj] at hp
      rw [getElem!_pos dk j hj]
      simpa using hp.symm
    subst hpe
    have hjk : j * d.sz + d.sz ≤ N * d.sz := by
      have := Nat.mul_le_mul_right d.sz (show j + 1 ≤ N by omega)
      rwa [Nat.add_mul, Nat.one_mul] at this
    apply List.ext_getElem?
    intro i
    rw [List.getElem?_take]
    by_cases hi : i < d.sz
    · rw [if_pos hi, List.getElem?_drop, List.getElem?_take, if_pos (by omega), Array.getElem?_toList]
      have ht : j * d.sz + i < dk.size * d.sz := by rw [hs]; omega
      have e1 : (j * d.sz + i) / d.sz = j := (blk_iff d.sz j _ hk).1 ⟨by omega, by omega⟩
      have e2 : (j * d.sz + i) % d.sz = i := by rw [Nat.mod_eq_sub_div_mul, e1]; omega
      have hcl : j * d.sz + i < cur.size := by omega
      have hil : i < (encb (f dk[j]!)).length := by rw [hl]; exact hi
      simp only [putCells, Array.getElem?_mapIdx, Array.getElem?_eq_getElem hcl, Option.map_some]
      rw [if_pos ⟨Nat.zero_le _, by rw [size_flatK]; omega⟩, Nat.sub_zero, get_flatK _ _ _ _ ht, e1, e2, he, List.getElem?_eq_getElem hil]
      simp [hil]
    · rw [if_neg hi, List.getElem?_eq_none (by rw [hl]; omega)]
end
/-! ### files in the order of their names: slices.SortFunc (52), by the shelf -/
theorem toList_data (a : ByteArray) : a.toList = a.data.toList := ByteArray.toList_eq a
theorem u8_eq_of (x y : UInt8) (h1 : ¬ x < y) (h2 : ¬ y < x) : x = y := by
  rw [UInt8.lt_iff_toNat_lt] at h1 h2
  exact UInt8.toNat_inj.1 (by omega)
theorem bl_cons (x y : UInt8) (r s : List UInt8) : Op.bytesLess (x :: r) (y :: s) = true ↔ x < y ∨ x = y ∧ Op.bytesLess r s = true := by
  rw [Op.bytesLess]
  by_cases h1 : x < y
  · simp [h1]
  · by_cases h2 : y < x
    · have h3 : ¬ x = y := by intro e; subst e; exact h1 h2
      simp [h1, h2, h3]
    · obtain rfl := u8_eq_of _ _ h1 h2
      simp [h1]
theorem bl_nil (s : List UInt8) : Op.bytesLess s [] = false := by cases s <;> simp [Op.bytesLess]
theorem bl_irr : ∀ a : List UInt8, Op.bytesLess a a = false
  | [] => bl_nil _
  | x :: r => by
    rw [← Bool.not_eq_true, bl_cons]
    rintro (h | ⟨_, h⟩)
    · exact absurd h (UInt8.lt_irrefl x)
    · rw [bl_irr r] at h; cases h
theorem bl_tr : ∀ a b c : List UInt8, Op.bytesLess a b = true → Op.bytesLess b c = true → Op.bytesLess a c = true
  | _, _, [], _, h => by rw [bl_nil] at h; cases h
  | _, [], _, h, _ => by rw [bl_nil] at h; cases h
  | [], y :: s, z :: t, _, _ => by simp [Op.bytesLess]
  | x :: r, y :: s, z :: t, h1, h2 => by
    rw [bl_cons] at *
    rcases h1 with h1 | ⟨e1, h1⟩
    · rcases h2 with h2 | ⟨e2, h2⟩
      · exact .inl (UInt8.lt_trans h1 h2)
      · subst e2; exact .inl h1
    · subst e1
      rcases h2 with h2 | ⟨e2, h2⟩
      · exact .inl h2
      · exact .inr ⟨e2, bl_tr r s t h1 h2⟩
theorem bl_tot : ∀ a b : List UInt8, a ≠ b → Op.bytesLess a b = true ∨ Op.bytesLess b a = true
  | [], [], h => absurd rfl h
  | [], _ :: _, _ => by simp [Op.bytesLess]
  | _ :: _, [], _ => by simp [Op.bytesLess]
  | x :: r, y :: s, h => by
    rw [bl_cons, bl_cons]
    by_cases h1 : x < y
    · exact .inl (.inl h1)
    · by_cases h2 : y < x
      · exact .inr (.inl h2)
      · obtain rfl := u8_eq_of _ _ h1 h2
        rcases bl_tot r s (fun e => h (by rw [e])) with h | h
        · exact .inl (.inr ⟨rfl, h⟩)
        · exact .inr (.inr ⟨rfl, h⟩)
section
open Go.Sort
def nmLess (a b : SF) : Bool := Op.bytesLess a.f0.toList b.f0.toList
def hitF (x : SF) : List Value := [.string x.f0, encSl x.f1, .bool x.f2]
def cmpF {D : SF → Prop} (x y : {x : SF // D x}) : Int := cmpI x.1.f0 y.1.f0
theorem ltOf_cmpF {D : SF → Prop} (x y : {x : SF // D x}) : ltOf cmpF x y = nmLess x.1 y.1 := by
  unfold ltOf cmpF cmpI nmLess
  cases Op.bytesLess x.1.f0.toList y.1.f0.toList <;> cases Op.bytesLess y.1.f0.toList x.1.f0.toList <;> rfl
theorem nm_ntrans (a b c : List UInt8) (h : Op.bytesLess a b = false) (k : Op.bytesLess b c = false) : Op.bytesLess a c = false := by
  cases hac : Op.bytesLess a c with
  | false => rfl
  | true =>
    by_cases e : a = b
    · subst e; rw [hac] at k; cases k
    · rcases bl_tot a b e with h1 | h1
      · rw [h1] at h; cases h
      · rw [bl_tr b a c h1 hac] at k; cases k
theorem cmpF_swo {D : SF → Prop} : SWO (ltOf (cmpF (D := D))) := by
  refine ⟨fun x => ?_, fun x y z => ?_, fun x y z => ?_⟩
  · rw [ltOf_cmpF]; exact bl_irr _
  · rw [ltOf_cmpF, ltOf_cmpF, ltOf_cmpF]; exact bl_tr _ _ _
  · rw [ltOf_cmpF, ltOf_cmpF, ltOf_cmpF]; exact nm_ntrans _ _ _
theorem nodup_inj {fs : List SF} (hn : (fs.map fun x => x.f0.toList).Nodup) {a b : SF} (ha : a ∈ fs) (hb : b ∈ fs) (h : a.f0.toList = b.f0.toList) : a = b := by
  obtain ⟨i, hi, rfl⟩ := List.getElem_of_mem ha
  obtain ⟨j, hj, rfl⟩ := List.getElem_of_mem hb
  have hi' : i < (fs.map fun x => x.f0.toList).length := by rw [List.length_map]; exact hi
  have hj' : j < (fs.map fun x => x.f0.toList).length := by rw [List.length_map]; exact hj
  have e : (fs.map fun x => x.f0.toList)[i] = (fs.map fun x => x.f0.toList)[j] := by rw [List.getElem_map, List.getElem_map]; exact h
  rcases Nat.lt_trichotomy i j with h1 | h1 | h1
  · exact absurd e (List.pairwise_iff_getElem.1 hn i j hi' hj' h1)
  · subst h1; rfl
  · exact absurd e.symm (List.pairwise_iff_getElem.1 hn j i hj' hi' h1)
def subF (h : List SF) : List {x : SF // x ∈ h} := h.attachWith (fun x => x ∈ h) (fun _ h => h)
theorem subF_map (h : List SF) : (subF h).map (fun x => x.1) = h := by
  unfold subF
  simp
theorem sorted_subF (h : List SF) (hn : (h.map fun x => x.f0.toList).Nodup) (s : List {x : SF // x ∈ h}) (hs : s = (subF h).mergeSort fun x y => !(ltOf cmpF) y x) :
    (s.map (fun x => x.1)).Perm h ∧ (s.map (fun x => x.1)).Pairwise (fun a b => nmLess a b = true) := by
  have hp : s.Perm (subF h) := by rw [hs]; exact List.mergeSort_perm _ _
  have hpm : (s.map (fun x => x.1)).Perm h := by have := hp.map (fun x => x.1); rwa [subF_map] at this
  refine ⟨hpm, ?_⟩
  have hsw := cmpF_swo (D := fun x => x ∈ h)
  have hpw : s.Pairwise (fun x y => (!(ltOf cmpF) y x) = true) := by
    rw [hs]
    apply List.pairwise_mergeSort
    · intro a b c h1 h2
      simp only [Bool.not_eq_true'] at h1 h2 ⊢
      exact hsw.ntrans _ _ _ h2 h1
    · intro a b
      cases h1 : ltOf cmpF b a with
      | false => simp
      | true =>
        cases h2 : ltOf cmpF a b with
        | false => simp
        | true => have := hsw.trans _ _ _ h1 h2; rw [hsw.irrefl] at this; cases this
  rw [List.pairwise_map]
  have hnd : (s.map (fun x => x.1)).Nodup := hpm.nodup_iff.2 (List.Pairwise.of_map (fun x : SF => x.f0.toList) (fun a b hab e => hab (by rw [e])) hn)
  have hnd2 : s.Nodup := List.Pairwise.of_map (fun x : {x : SF // x ∈ h} => x.1) (fun a b hab e => hab (by rw [e])) hnd
  refine List.Pairwise.imp_of_mem ?_ (List.pairwise_and_iff.2 ⟨hpw, hnd2⟩)
  rintro a b _ _ ⟨h1, h2⟩
  simp only [Bool.not_eq_true'] at h1
  rw [ltOf_cmpF] at h1
  rcases bl_tot a.1.f0.toList b.1.f0.toList (fun e => h2 (Subtype.ext (nodup_inj hn a.2 b.2 e))) with h | h
  · exact h
  · have h1' : Op.bytesLess b.1.f0.toList a.1.f0.toList = false := h1
    rw [h] at h1'
    cases h1'
theorem sortF_calls (W : World) (base : Nat) (ok : Nat → Prop) (h : List SF) (hn : (h.map fun x => x.f0.toList).Nodup) (hfew : h.length ≤ 1200) (v : Value) (HO : Kd.R kF 48 W base ok v h) :
    Calls Try.prog 52 #[v, .func (.func 53) #[] #[]] W fun e w' =>
      e = .returned (.tuple #[]) ∧ ∃ s, s.Perm h ∧ s.Pairwise (fun a b => nmLess a b = true) ∧ Kd.R kF 48 w' base ok v s ∧ W.grownBy w' v.ownBlock := by
  rcases Nat.eq_zero_or_pos h.length with h0 | hp
  · obtain ⟨A, c, rfl⟩ := Kd.R_slice HO
    have e : h = [] := List.eq_nil_of_length_eq_zero h0
    subst e
    have hc := AnyF.slices_SortFunc_none Try.laysSort A c (.func (.func 53) #[] #[]) W
    change Calls Try.prog 52 _ W _ at hc
    refine hc.mono ?_
    rintro e w' ⟨rfl, rfl⟩
    exact ⟨rfl, [], List.Perm.refl _, List.Pairwise.nil, HO, grown_of_below (Below.refl _ _) _⟩
  · obtain ⟨b, cap, rfl, hb, hbl, _⟩ := Kd.R_form HO hp
    haveI : Inhabited {x : SF // x ∈ h} := ⟨⟨h[0], List.getElem_mem hp⟩⟩
    have hsz : (subF h).toArray.size = h.length := by simp [subF]
    have hl4 : ∀ x : SF, (hitF x).length = kF.sz := fun _ => rfl
    have hM : ∀ w base ok x cs, kF.M w base ok x cs ↔ cs = hitF x := fun w base ok x cs => ⟨fun hh => kF_openM hh, fun hh => by subst hh; exact kF_mkM w base ok x⟩
    have hH : HoldsK (fun x : {x : SF // x ∈ h} => hitF x.1) 3 W b 0 (subF h).toArray :=
      swk_holds (f := fun x : {x : SF // x ∈ h} => x.1) HO (by decide) (fun w base ok x cs => (hM w base ok x cs).1) hl4 _ (by rw [List.toList_toArray, subF_map]) (fun _ => rfl)
    have eg : ∀ args w, (callFunc 53 args).run Try.prog w = .ok (.enter 53 args) w := enters_of Try.func53 (by kernel_rfl) rfl
    have hcmp : CmpLays Try.prog 53 #[] (fun x : {x : SF // x ∈ h} => hitF x.1) 3 cmpF b 0 (subF h).toArray.size W := by
      intro m dos dk hs x y
      exact byName_calls x.1 y.1 _
    have hc := AnyQ.slices_SortFunc_total Try.laysSort 3 Try.isAgg48 Try.sizeOf48 (fun x : {x : SF // x ∈ h} => hitF x.1) (fun _ => rfl) (fun x v hv => by
      simp only [hitF, List.mem_cons, List.not_mem_nil, or_false] at hv
      rcases hv with rfl | rfl | rfl <;> rfl) cmpF cmpF_swo 53 #[] b 0 cap (subF h).toArray W eg hcmp hH hbl (by rw [hsz]; omega) (fun x y h1 h2 => by
        rw [ltOf_cmpF] at h1 h2
        apply Subtype.ext
        refine nodup_inj hn x.2 y.2 ?_
        by_cases e : x.1.f0.toList = y.1.f0.toList
        · exact e
        · rcases bl_tot _ _ e with hh | hh
          · have h1' : Op.bytesLess x.1.f0.toList y.1.f0.toList = false := h1
            rw [hh] at h1'; cases h1'
          · have h2' : Op.bytesLess y.1.f0.toList x.1.f0.toList = false := h2
            rw [hh] at h2'; cases h2')
    rw [hsz] at hc
    change Calls Try.prog 52 _ W _ at hc
    refine hc.mono ?_
    rintro e w' ⟨rfl, n, os', rfl⟩
    obtain ⟨hpm, hpw⟩ := sorted_subF h hn _ rfl
    refine ⟨rfl, _, hpm, hpw, ?_, ?_⟩
    · have hr := swk_row (m := n) (os := os') (dk := ((subF h).mergeSort fun x y => !(ltOf cmpF) y x).toArray) (f := fun x : {x : SF // x ∈ h} => x.1) (enc := fun x => hitF x.1) HO (by decide) hM hl4 (by simp [subF]) (fun _ => rfl)
      rw [List.toList_toArray] at hr
      exact hr
    · rw [sortWorldK_flat]
      have hz := sw_below (enc := id) (blk := b) (m := n) (dk := flatK (fun x : {x : SF // x ∈ h} => hitF x.1) 3 ((subF h).mergeSort fun x y => !(ltOf cmpF) y x).toArray) (os := os') (B := 0) 0 (Below.refl 0 W) (Nat.zero_le _) (Nat.zero_le _)
      exact ⟨hz.os, hz.tape, hz.output, hz.size, fun i hi hne => sw_other (fun e => hne (by rw [e]; rfl)) hi 0⟩
end
end Go.Proofs.Ytaldbabkdoabkaa.T
