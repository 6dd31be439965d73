/- Written by hp.py, this session's own program, out of the translation of this seat: Lean functions for the Go functions, and the proof that each call comes to what its Lean function says. -/
import Derived.Test.YtkdbfeapfcflmaaProg
import Derived.Below
import Derived.Maps.Own
import Derived.Maps.OwnOps
import Derived.Maps.OwnSet
import Derived.Maps.Views
import Derived.Deep.Draws
import Derived.Deep.AppendLies
import Derived.Maps.AppendAt
import Derived.OwnWalk
import Derived.Laws.BytesArg
import Derived.Laws.MakeOwn
import Derived.Laws.OwnMore
import Derived.Deep.OwnRows
import Derived.Tactics
import Derived.Lib.ConvBytes
import Derived.Laws.Slices
import Derived.WalkKit
import Derived.KernelRfl
import Derived.RowKit3
import Derived.Deep.LoopGhost
import Derived.Deep.QuietTactic
import Derived.BigQuiet
import Derived.WideLaws
import Derived.Deep.DeepCutAuto
import Derived.Deep.CutBlock
import Derived.Deep.RegionHeld3
import Derived.Laws.Rows
import Derived.Lib.AppendStr
import Derived.ArgAppend
import Derived.Laws.IdiomCopy
import Derived.OrdersHeld
import Derived.Laws.BitsLemmas
import Derived.RowKit
import Derived.Test.YtkdbfeapfcflmaaWWords
import Derived.Test.YtkdbfeapfcflmaaWLast
import Derived.Test.YtkdbfeapfcflmaaWTab
import Derived.Test.YtkdbfeapfcflmaaWFour
import Derived.Test.YtkdbfeapfcflmaaWQPut
import Derived.Test.YtkdbfeapfcflmaaWApart
import Derived.Test.YtkdbfeapfcflmaaWArr
import Derived.Test.YtkdbfeapfcflmaaWZeros
import Derived.Test.YtkdbfeapfcflmaaWFoot
import Derived.Test.YtkdbfeapfcflmaaWKept
import Derived.Test.YtkdbfeapfcflmaaWShare
import Derived.Test.YtkdbfeapfcflmaaWN
import Derived.Test.YtkdbfeapfcflmaaWFootNe
import Derived.Test.YtkdbfeapfcflmaaWAt
import Derived.Test.YtkdbfeapfcflmaaWEqStruct
import Derived.Test.YtkdbfeapfcflmaaWRepsOne
import Derived.Test.YtkdbfeapfcflmaaWInv
import Derived.Test.YtkdbfeapfcflmaaWInvWords
import Derived.Test.YtkdbfeapfcflmaaWGuard
import Derived.Test.YtkdbfeapfcflmaaWNEv
import Derived.Test.YtkdbfeapfcflmaaWMore
import Derived.Test.YtkdbfeapfcflmaaTx3
namespace Go.Proofs.Ytkdbfeapfcflmaa.T
open Go.RowKit Go.Proofs.YtkdbfeapfcflmaaW.PrintWords Go.Proofs.YtkdbfeapfcflmaaW.PrintLast Go.Proofs.YtkdbfeapfcflmaaW.PrintMore
attribute [local go_sem] max2_int min2_int max_two min_two max_three min_three max_four min_four   -- for this text's walks alone
set_option linter.unusedVariables false
set_option linter.unusedSimpArgs false
/-! ### best.May (function 11): a map that counts, by hand -/
section
open Go.Maps Go.WideMaps
theorem mlaw : Keyed Try.prog 9 := string_keyed Try.underlying9
theorem mzero (w : World) : (zeroValue 3).run Try.prog w = .ok (.int .i64 0) w := by kernel_rfl
def distinct {β : Type} [DecidableEq β] (l : List β) : List β := l.foldl (fun acc x => if x ∈ acc then acc else acc ++ [x]) []
theorem distinct_snoc {β : Type} [DecidableEq β] (l : List β) (x : β) : distinct (l ++ [x]) = if x ∈ distinct l then distinct l else distinct l ++ [x] := by
  unfold distinct
  rw [List.foldl_append]
  rfl
theorem snoc_ind {β : Type} {P : List β → Prop} (h0 : P []) (h1 : ∀ l x, P l → P (l ++ [x])) (l : List β) : P l := by
  have : ∀ r : List β, P r.reverse := fun r => by
    induction r with
    | nil => exact h0
    | cons x r ih => rw [List.reverse_cons]; exact h1 _ _ ih
  have h := this l.reverse
  rwa [List.reverse_reverse] at h
theorem distinct_mem {β : Type} [DecidableEq β] (l : List β) (x : β) : x ∈ distinct l ↔ x ∈ l := by
  induction l using snoc_ind with
  | h0 => simp [distinct]
  | h1 l y ih =>
    rw [distinct_snoc]
    split
    · rename_i h
      simp only [List.mem_append, List.mem_singleton]
      constructor
      · intro hx; exact .inl (ih.1 hx)
      · rintro (hx | rfl)
        · exact ih.2 hx
        · exact h
    · simp [ih]
theorem distinct_le {β : Type} [DecidableEq β] (l : List β) : (distinct l).length ≤ l.length := by
  induction l using snoc_ind with
  | h0 => simp [distinct]
  | h1 l y ih =>
    rw [distinct_snoc]
    split <;> simp <;> omega
theorem distinct_all {β : Type} [DecidableEq β] (l : List β) : (distinct l).length = l.length ↔ l.Nodup := by
  induction l using snoc_ind with
  | h0 => simp [distinct]
  | h1 l y ih =>
    have hle := distinct_le l
    rw [distinct_snoc, List.nodup_append]
    split
    · rename_i h
      rw [distinct_mem] at h
      constructor
      · intro e; simp at e; omega
      · intro e; exact absurd rfl (e.2.2 y h y (by simp))
    · rename_i h
      rw [distinct_mem] at h
      simp only [List.length_append, List.length_cons, List.length_nil, Nat.zero_add, Nat.add_right_cancel_iff, ih]
      constructor
      · intro e; exact ⟨e, by simp, fun a ha b hb => by simp at hb; subst hb; intro e; subst e; exact h ha⟩
      · intro e; exact e.1
structure KeysOf (Dm : DataW Unit) (ids : List (List UInt8)) : Prop where
  tidy : Tidy Dm
  has_ : ∀ y, Go.Maps.has Dm (.string y) = decide (y ∈ ids)
  size_ : Go.Maps.size Dm = (distinct ids).length
theorem KeysOf.nil : KeysOf (.map []) [] := ⟨tidy_empty, fun y => rfl, rfl⟩
theorem KeysOf.put {Dm : DataW Unit} {ids : List (List UInt8)} (h : KeysOf Dm ids) (y : List UInt8) (d : DataW Unit) : KeysOf (Dm.put (.string y) d) (ids ++ [y]) := by
  refine ⟨h.tidy.put (k := .string y) (show WideAt.IsKeyLit (.string y) from trivial) d, fun z => ?_, ?_⟩
  · by_cases e : z = y
    · subst e; rw [has_put_same h.tidy.isMap (show WideAt.IsKeyLit (.string z) from trivial)]; simp
    · rw [has_put_other (by intro e2; injection e2 with e2; exact e e2), h.has_]
      simp [e]
  · rw [size_put h.tidy, h.has_, h.size_, distinct_snoc]
    by_cases c : y ∈ ids
    · rw [if_pos (by simpa using c), if_pos ((distinct_mem _ _).2 c)]
    · rw [if_neg (by simpa using c), if_neg (fun hh => c ((distinct_mem _ _).1 hh))]; simp
end
def idsOf (l : List S27) : List (List UInt8) := l.map fun x => x.f0.data.toList
def okHit (k : Nat) (x : S27) : Option Bool := if x.f0.size < 1 then some false else if 16 < x.f0.size then some false else if x.f1 < 0 then some false else if 1073741824 < x.f1 then some false else score_May.f k x.f2.f0 x.f2.f1
def mayLoop (k : Nat) : List S27 → Option Bool
  | [] => some true
  | x :: l => (okHit k x).bind fun b => if b = true then mayLoop k l else some false
def best_May.f (k : Nat) (l : List S27) : Option Bool :=
  if l.all (fun x => decide (x.f0.size ≤ 9223372036854775807)) = true then (mayLoop k l).bind fun b => if b = true then some (decide ((distinct (idsOf l)).length = l.length) && decide (l.length ≤ 1100)) else some false else none
theorem okHit_mono (k : Nat) (x : S27) : LeO (okHit k x) (okHit (k + 1) x) := by
  unfold okHit
  repeat' first | exact LeO.refl _ | exact score_May.mono _ _ _ | refine LeO.ite ?_ ?_
theorem mayLoop_mono (k : Nat) : ∀ l, LeO (mayLoop k l) (mayLoop (k + 1) l)
  | [] => LeO.refl _
  | x :: l => LeO.bind (okHit_mono k x) (fun b => LeO.ite (mayLoop_mono k l) (LeO.refl _))
theorem best_May.mono : ∀ l k, LeO (best_May.f k l) (best_May.f (k + 1) l) := by
  intro l k
  unfold best_May.f
  exact LeO.ite (LeO.bind (mayLoop_mono k l) (fun b => LeO.refl _)) (LeO.refl _)
section
open Go.Maps Go.WideMaps
theorem idsOf_take (l : List S27) (i : Nat) (hi : i < l.length) : idsOf (l.take (i + 1)) = idsOf (l.take i) ++ [(rd_T27 l (i : Int)).f0.data.toList] := by
  unfold idsOf rd_T27
  rw [List.take_succ_eq_append_getElem hi, List.map_append, Int.toNat_natCast, List.getD_eq_getElem?_getD, List.getElem?_eq_getElem hi]
  rfl
theorem mayLoop_drop (k : Nat) (l : List S27) (i : Nat) (hi : i < l.length) : mayLoop k (l.drop i) = (okHit k (rd_T27 l (i : Int))).bind fun b => if b = true then mayLoop k (l.drop (i + 1)) else some false := by
  rw [List.drop_eq_getElem_cons hi, mayLoop]
  unfold rd_T27
  rw [Int.toNat_natCast, List.getD_eq_getElem?_getD, List.getElem?_eq_getElem hi]
  rfl
theorem owns_of {w w1 : World} {P : Program} {k : TypeId} {R : Value → Option (DataW Unit × List MemPlace)} {b n : Nat} {D : DataW Unit} (h : w.ownsMap P k R b n D) (hb : w1.heap[b]? = w.heap[b]?) : w1.ownsMap P k R b n D := by
  obtain ⟨es, clock, h1, h2⟩ := h
  exact ⟨es, clock, hb.trans h1, h2⟩
theorem owns_lt {w : World} {P : Program} {k : TypeId} {R : Value → Option (DataW Unit × List MemPlace)} {b n : Nat} {D : DataW Unit} (h : w.ownsMap P k R b n D) : b < w.heap.size := by
  obtain ⟨es, clock, h1, h2⟩ := h
  exact blk_lt h1
theorem owns_alloc {w : World} {P : Program} {k : TypeId} {R : Value → Option (DataW Unit × List MemPlace)} {b n : Nat} {D : DataW Unit} (h : w.ownsMap P k R b n D) (o : Obj) : (w.alloc o).ownsMap P k R b n D :=
  owns_of h ((below_alloc (Below.refl w.heap.size w) o).block b (owns_lt h))
theorem owns_below {w w1 : World} {P : Program} {k : TypeId} {R : Value → Option (DataW Unit × List MemPlace)} {b n : Nat} {D : DataW Unit} (h : w.ownsMap P k R b n D) (hb : Below w.heap.size w w1) : w1.ownsMap P k R b n D :=
  owns_of h (hb.block b (owns_lt h))
set_option maxHeartbeats 8000000 in
set_option maxRecDepth 100000 in
theorem best_May.calls (k : Nat) (A0 : Option Addr) (c0 : Nat) (l0 : List S27) (r : Bool) (w : World) (hr0 : Kd.C k27 w A0 l0.length l0) (hc0 : l0.length ≤ c0) (h : best_May.f k l0 = some r) :
    Calls Try.prog 11 #[.slice A0 l0.length c0] w fun e w' => e = .returned (.bool r) ∧ Below w.heap.size w w' := by
  have hmm := @run_makeMap Try.prog
  have hlm : l0.length ≤ 9223372036854775807 := hr0.2.1
  unfold best_May.f at h
  by_cases hall : l0.all (fun x => decide (x.f0.size ≤ 9223372036854775807)) = true
  · rw [if_pos hall] at h
    have HS := Aside0.mk (fun x (hx : x ∈ l0) => of_decide_eq_true (List.all_eq_true.1 hall x hx))
    have H := Aside0.mk h
    have HR := Aside0.mk hr0
    clear h hall hr0
    go_enter Try.func11, Try.ntmps11
    go_wp2
    go_loopg [9] l0.length (fun kq v9 w' => ∃ (i : Nat) (Dm : DataW Unit), v9 = .int .i64 (i : Int) ∧ Aside0 (l0.length ≤ kq + i) ∧ Aside0 (i ≤ l0.length) ∧ Aside0 (w'.ownsMap Try.prog 9 (plainElem Try.prog 3) w.heap.size i Dm) ∧ Aside0 (KeysOf Dm (idsOf (l0.take i))) ∧ Aside0 ((mayLoop k (l0.drop i)).bind (fun b => if b = true then some (decide ((distinct (idsOf l0)).length = l0.length) && decide (l0.length ≤ 1100)) else some false) = some r) ∧ Aside0 (Below w.heap.size w w'))
    case atStart => exact ⟨0, .map [], rfl, ⟨Nat.le_refl _⟩, ⟨Nat.zero_le _⟩, ⟨World.ownsMap_made _ _ _ _⟩, ⟨KeysOf.nil⟩, H, ⟨below_alloc (Below.refl _ _) _⟩⟩
    case round =>
      clear H
      obtain ⟨i, Dm, rfl, HK, HI, HM, HKS, H, HB⟩ := hrel
      obtain ⟨wo, rfl⟩ : ∃ wo : World, wo = wr := ⟨_, rfl⟩
      by_cases hlt : i < l0.length
      · obtain ⟨kj, rfl⟩ : ∃ m, gk = m + 1 := ⟨gk - 1, by have := HK.out; omega⟩
        have d1 : decide ((i : Int) < (l0.length : Int)) = true := decide_eq_true (by omega)
        obtain ⟨ad, e1, g0, g1, g2, g3⟩ := at_T27 (Kd.C_below HR.out HB.out) (i : Int) (by omega) (by omega)
        subst e1
        rw [Int.toNat_natCast] at g0 g1 g2 g3
        have HIT := Aside0.mk (idsOf_take l0 i hlt)
        have HX := Aside0.mk (HS.out (rd_T27 l0 (i : Int)) (by
          unfold rd_T27
          rw [Int.toNat_natCast, List.getD_eq_getElem?_getD, List.getElem?_eq_getElem hlt]
          exact List.getElem_mem hlt))
        have H0 := H.out
        rw [mayLoop_drop k l0 i hlt] at H0
        generalize rd_T27 l0 (i : Int) = x at g0 g1 g2 g3 HIT HX H0
        have hkey : keyOf Try.prog 9 (.string x.f0) = some (.string x.f0.data.toList) := keyOf_string_mk Try.underlying9 HX.out
        have HKEY := Aside0.mk hkey
        clear hkey H
        by_cases t1 : x.f0.size < 1
        · have e1 : okHit k x = some false := by unfold okHit; rw [if_pos t1]
          rw [e1] at H0
          have er : r = false := by simpa using H0.symm
          subst er
          clear H0 e1
          have b1 : decide ((x.f0.size : Int) < 1) = true := decide_eq_true (by omega)
          have b1n : decide (x.f0.size < 1) = true := decide_eq_true (by omega)
          go_wp2_with (first | (at_lookup; refine wpList_lookup_own_int _ rfl _ _ 42 rfl 9 3 .i64 mlaw Try.underlying42 Try.underlying3 (mzero _) w.heap.size i _ rfl (owns_alloc HM.out _) _ _ rfl HKEY.out ?_; intro c hat hwc; clear hat hwc) | (at_mapUpdate; refine wpList_mapUpdate_own _ rfl _ _ _ 42 rfl 9 3 mlaw Try.underlying42 _ w.heap.size i _ rfl (owns_alloc HM.out _) (by unfold maxLen; omega) _ _ _ rfl rfl HKEY.out _ [] (plainElem_int Try.underlying3 (wrap64_wf _)) ?_; intro w1 hown1 hgrow1; have HM1 := Aside0.mk hown1; have BX := Aside0.mk (blk_grown (blk_new wo _) hgrow1 (by intro e; injection e with e; have := owns_lt HM.out; omega)); have HB1 := Aside0.mk ((below_alloc HB.out _).grown hgrow1 (below_size (below_alloc HB.out _)) (fun k hk => by injection hk with hk; omega)); have c0_ : w1.cell? ⟨wo.heap.size, 0, none⟩ = some (.string x.f0) := (blk_cell BX.out 0).trans rfl; have c1_ : w1.cell? ⟨wo.heap.size, 1, none⟩ = some (.int .i64 x.f1) := (blk_cell BX.out 1).trans rfl; have c2_ : w1.cell? ⟨wo.heap.size, 2, none⟩ = some (.int .u64 x.f2.f0) := (blk_cell BX.out 2).trans rfl; have c3_ : w1.cell? ⟨wo.heap.size, 3, none⟩ = some (.int .u64 x.f2.f1) := (blk_cell BX.out 3).trans rfl; clear hown1 hgrow1))
          go_ret
          exact ⟨rfl, HB1.out⟩
        · have b1 : decide ((x.f0.size : Int) < 1) = false := decide_eq_false (by omega)
          have b1n : decide (x.f0.size < 1) = false := decide_eq_false (by omega)
          by_cases t2 : 16 < x.f0.size
          · have e1 : okHit k x = some false := by unfold okHit; rw [if_neg t1, if_pos t2]
            rw [e1] at H0
            have er : r = false := by simpa using H0.symm
            subst er
            clear H0 e1
            have b2 : decide (16 < (x.f0.size : Int)) = true := decide_eq_true (by omega)
            have b2n : decide (16 < x.f0.size) = true := decide_eq_true (by omega)
            go_wp2_with (first | (at_lookup; refine wpList_lookup_own_int _ rfl _ _ 42 rfl 9 3 .i64 mlaw Try.underlying42 Try.underlying3 (mzero _) w.heap.size i _ rfl (owns_alloc HM.out _) _ _ rfl HKEY.out ?_; intro c hat hwc; clear hat hwc) | (at_mapUpdate; refine wpList_mapUpdate_own _ rfl _ _ _ 42 rfl 9 3 mlaw Try.underlying42 _ w.heap.size i _ rfl (owns_alloc HM.out _) (by unfold maxLen; omega) _ _ _ rfl rfl HKEY.out _ [] (plainElem_int Try.underlying3 (wrap64_wf _)) ?_; intro w1 hown1 hgrow1; have HM1 := Aside0.mk hown1; have BX := Aside0.mk (blk_grown (blk_new wo _) hgrow1 (by intro e; injection e with e; have := owns_lt HM.out; omega)); have HB1 := Aside0.mk ((below_alloc HB.out _).grown hgrow1 (below_size (below_alloc HB.out _)) (fun k hk => by injection hk with hk; omega)); have c0_ : w1.cell? ⟨wo.heap.size, 0, none⟩ = some (.string x.f0) := (blk_cell BX.out 0).trans rfl; have c1_ : w1.cell? ⟨wo.heap.size, 1, none⟩ = some (.int .i64 x.f1) := (blk_cell BX.out 1).trans rfl; have c2_ : w1.cell? ⟨wo.heap.size, 2, none⟩ = some (.int .u64 x.f2.f0) := (blk_cell BX.out 2).trans rfl; have c3_ : w1.cell? ⟨wo.heap.size, 3, none⟩ = some (.int .u64 x.f2.f1) := (blk_cell BX.out 3).trans rfl; clear hown1 hgrow1))
            go_ret
            exact ⟨rfl, HB1.out⟩
          · have b2 : decide (16 < (x.f0.size : Int)) = false := decide_eq_false (by omega)
            have b2n : decide (16 < x.f0.size) = false := decide_eq_false (by omega)
            by_cases t3 : x.f1 < 0
            · have e1 : okHit k x = some false := by unfold okHit; rw [if_neg t1, if_neg t2, if_pos t3]
              rw [e1] at H0
              have er : r = false := by simpa using H0.symm
              subst er
              clear H0 e1
              have b3 : decide (x.f1 < 0) = true := decide_eq_true t3
              go_wp2_with (first | (at_lookup; refine wpList_lookup_own_int _ rfl _ _ 42 rfl 9 3 .i64 mlaw Try.underlying42 Try.underlying3 (mzero _) w.heap.size i _ rfl (owns_alloc HM.out _) _ _ rfl HKEY.out ?_; intro c hat hwc; clear hat hwc) | (at_mapUpdate; refine wpList_mapUpdate_own _ rfl _ _ _ 42 rfl 9 3 mlaw Try.underlying42 _ w.heap.size i _ rfl (owns_alloc HM.out _) (by unfold maxLen; omega) _ _ _ rfl rfl HKEY.out _ [] (plainElem_int Try.underlying3 (wrap64_wf _)) ?_; intro w1 hown1 hgrow1; have HM1 := Aside0.mk hown1; have BX := Aside0.mk (blk_grown (blk_new wo _) hgrow1 (by intro e; injection e with e; have := owns_lt HM.out; omega)); have HB1 := Aside0.mk ((below_alloc HB.out _).grown hgrow1 (below_size (below_alloc HB.out _)) (fun k hk => by injection hk with hk; omega)); have c0_ : w1.cell? ⟨wo.heap.size, 0, none⟩ = some (.string x.f0) := (blk_cell BX.out 0).trans rfl; have c1_ : w1.cell? ⟨wo.heap.size, 1, none⟩ = some (.int .i64 x.f1) := (blk_cell BX.out 1).trans rfl; have c2_ : w1.cell? ⟨wo.heap.size, 2, none⟩ = some (.int .u64 x.f2.f0) := (blk_cell BX.out 2).trans rfl; have c3_ : w1.cell? ⟨wo.heap.size, 3, none⟩ = some (.int .u64 x.f2.f1) := (blk_cell BX.out 3).trans rfl; clear hown1 hgrow1))
              go_ret
              exact ⟨rfl, HB1.out⟩
            · have b3 : decide (x.f1 < 0) = false := decide_eq_false t3
              by_cases t4 : 1073741824 < x.f1
              · have e1 : okHit k x = some false := by unfold okHit; rw [if_neg t1, if_neg t2, if_neg t3, if_pos t4]
                rw [e1] at H0
                have er : r = false := by simpa using H0.symm
                subst er
                clear H0 e1
                have b4 : decide (1073741824 < x.f1) = true := decide_eq_true t4
                go_wp2_with (first | (at_lookup; refine wpList_lookup_own_int _ rfl _ _ 42 rfl 9 3 .i64 mlaw Try.underlying42 Try.underlying3 (mzero _) w.heap.size i _ rfl (owns_alloc HM.out _) _ _ rfl HKEY.out ?_; intro c hat hwc; clear hat hwc) | (at_mapUpdate; refine wpList_mapUpdate_own _ rfl _ _ _ 42 rfl 9 3 mlaw Try.underlying42 _ w.heap.size i _ rfl (owns_alloc HM.out _) (by unfold maxLen; omega) _ _ _ rfl rfl HKEY.out _ [] (plainElem_int Try.underlying3 (wrap64_wf _)) ?_; intro w1 hown1 hgrow1; have HM1 := Aside0.mk hown1; have BX := Aside0.mk (blk_grown (blk_new wo _) hgrow1 (by intro e; injection e with e; have := owns_lt HM.out; omega)); have HB1 := Aside0.mk ((below_alloc HB.out _).grown hgrow1 (below_size (below_alloc HB.out _)) (fun k hk => by injection hk with hk; omega)); have c0_ : w1.cell? ⟨wo.heap.size, 0, none⟩ = some (.string x.f0) := (blk_cell BX.out 0).trans rfl; have c1_ : w1.cell? ⟨wo.heap.size, 1, none⟩ = some (.int .i64 x.f1) := (blk_cell BX.out 1).trans rfl; have c2_ : w1.cell? ⟨wo.heap.size, 2, none⟩ = some (.int .u64 x.f2.f0) := (blk_cell BX.out 2).trans rfl; have c3_ : w1.cell? ⟨wo.heap.size, 3, none⟩ = some (.int .u64 x.f2.f1) := (blk_cell BX.out 3).trans rfl; clear hown1 hgrow1))
                go_ret
                exact ⟨rfl, HB1.out⟩
              · have b4 : decide (1073741824 < x.f1) = false := decide_eq_false t4
                have e1 : okHit k x = score_May.f k x.f2.f0 x.f2.f1 := by unfold okHit; rw [if_neg t1, if_neg t2, if_neg t3, if_neg t4]
                rw [e1] at H0
                cases hsm : score_May.f k x.f2.f0 x.f2.f1 with
                | none => rw [hsm] at H0; exact absurd H0 (by simp)
                | some q =>
                  have HSM := Aside0.mk hsm
                  rw [hsm] at H0
                  clear hsm e1
                  cases q with
                  | false =>
                    have er : r = false := by simpa using H0.symm
                    subst er
                    clear H0
                    go_wp2_with (first | (at_lookup; refine wpList_lookup_own_int _ rfl _ _ 42 rfl 9 3 .i64 mlaw Try.underlying42 Try.underlying3 (mzero _) w.heap.size i _ rfl (owns_alloc HM.out _) _ _ rfl HKEY.out ?_; intro c hat hwc; clear hat hwc) | (at_mapUpdate; refine wpList_mapUpdate_own _ rfl _ _ _ 42 rfl 9 3 mlaw Try.underlying42 _ w.heap.size i _ rfl (owns_alloc HM.out _) (by unfold maxLen; omega) _ _ _ rfl rfl HKEY.out _ [] (plainElem_int Try.underlying3 (wrap64_wf _)) ?_; intro w1 hown1 hgrow1; have HM1 := Aside0.mk hown1; have BX := Aside0.mk (blk_grown (blk_new wo _) hgrow1 (by intro e; injection e with e; have := owns_lt HM.out; omega)); have HB1 := Aside0.mk ((below_alloc HB.out _).grown hgrow1 (below_size (below_alloc HB.out _)) (fun k hk => by injection hk with hk; omega)); have c0_ : w1.cell? ⟨wo.heap.size, 0, none⟩ = some (.string x.f0) := (blk_cell BX.out 0).trans rfl; have c1_ : w1.cell? ⟨wo.heap.size, 1, none⟩ = some (.int .i64 x.f1) := (blk_cell BX.out 1).trans rfl; have c2_ : w1.cell? ⟨wo.heap.size, 2, none⟩ = some (.int .u64 x.f2.f0) := (blk_cell BX.out 2).trans rfl; have c3_ : w1.cell? ⟨wo.heap.size, 3, none⟩ = some (.int .u64 x.f2.f1) := (blk_cell BX.out 3).trans rfl; clear hown1 hgrow1) | (go_at_call 23; (with_reducible refine (score_May.calls k _ _ _ _ HSM.out).mono ?_); rintro e w2 ⟨rfl, hb2⟩; have HB2 := Aside0.mk (below_step HB1.out hb2); have HM2 := Aside0.mk (owns_below HM1.out hb2); clear hb2))
                    go_ret
                    exact ⟨rfl, HB2.out⟩
                  | true =>
                    have HN := Aside0.mk (show (mayLoop k (l0.drop (i + 1))).bind (fun b => if b = true then some (decide ((distinct (idsOf l0)).length = l0.length) && decide (l0.length ≤ 1100)) else some false) = some r by simpa using H0)
                    clear H0
                    go_wp2_with (first | (at_lookup; refine wpList_lookup_own_int _ rfl _ _ 42 rfl 9 3 .i64 mlaw Try.underlying42 Try.underlying3 (mzero _) w.heap.size i _ rfl (owns_alloc HM.out _) _ _ rfl HKEY.out ?_; intro c hat hwc; clear hat hwc) | (at_mapUpdate; refine wpList_mapUpdate_own _ rfl _ _ _ 42 rfl 9 3 mlaw Try.underlying42 _ w.heap.size i _ rfl (owns_alloc HM.out _) (by unfold maxLen; omega) _ _ _ rfl rfl HKEY.out _ [] (plainElem_int Try.underlying3 (wrap64_wf _)) ?_; intro w1 hown1 hgrow1; have HM1 := Aside0.mk hown1; have BX := Aside0.mk (blk_grown (blk_new wo _) hgrow1 (by intro e; injection e with e; have := owns_lt HM.out; omega)); have HB1 := Aside0.mk ((below_alloc HB.out _).grown hgrow1 (below_size (below_alloc HB.out _)) (fun k hk => by injection hk with hk; omega)); have c0_ : w1.cell? ⟨wo.heap.size, 0, none⟩ = some (.string x.f0) := (blk_cell BX.out 0).trans rfl; have c1_ : w1.cell? ⟨wo.heap.size, 1, none⟩ = some (.int .i64 x.f1) := (blk_cell BX.out 1).trans rfl; have c2_ : w1.cell? ⟨wo.heap.size, 2, none⟩ = some (.int .u64 x.f2.f0) := (blk_cell BX.out 2).trans rfl; have c3_ : w1.cell? ⟨wo.heap.size, 3, none⟩ = some (.int .u64 x.f2.f1) := (blk_cell BX.out 3).trans rfl; clear hown1 hgrow1) | (go_at_call 23; (with_reducible refine (score_May.calls k _ _ _ _ HSM.out).mono ?_); rintro e w2 ⟨rfl, hb2⟩; have HB2 := Aside0.mk (below_step HB1.out hb2); have HM2 := Aside0.mk (owns_below HM1.out hb2); clear hb2))
                    clear c0_ c1_ c2_ c3_
                    go_roundg kj
                    case measure => omega
                    case rel => exact ⟨i + 1, _, congrArg (Value.int .i64) (by omega), ⟨by have := HK.out; omega⟩, ⟨by omega⟩, HM2, ⟨by rw [HIT.out]; exact HKS.out.put _ _⟩, HN, HB2⟩
      · have d1 : decide ((i : Int) < (l0.length : Int)) = false := decide_eq_false (by omega)
        have ei : i = l0.length := by have := HI.out; omega
        subst ei
        have H1 := H.out
        rw [List.drop_length, mayLoop] at H1
        simp only [Option.bind_some, if_true] at H1
        have hr := Option.some.inj H1
        clear H1 H
        have hks := HKS.out.size_
        rw [List.take_length] at hks
        have HSZ := Aside0.mk hks
        have HR2 := Aside0.mk hr
        clear hks hr
        by_cases q1 : (distinct (idsOf l0)).length = l0.length
        · have f1 : (((Go.Maps.size Dm : Nat) : Int) == (l0.length : Int)) = true := by rw [HSZ.out, q1]; simp
          have f1n : ((Go.Maps.size Dm) == l0.length) = true := by rw [HSZ.out, q1]; simp
          by_cases q2 : l0.length ≤ 1100
          · have f2 : decide ((l0.length : Int) ≤ 1100) = true := decide_eq_true (by omega)
            have er : r = true := by rw [← HR2.out]; simp [q1, q2]
            subst er
            clear HR2 q1 HSZ
            go_wp2_with (first | (at_len; refine wpList_len_own _ rfl _ 42 rfl 9 3 Try.underlying42 _ w.heap.size _ Dm rfl HM.out ?_))
            go_ret
            exact ⟨rfl, HB.out⟩
          · have f2 : decide ((l0.length : Int) ≤ 1100) = false := decide_eq_false (by omega)
            have er : r = false := by rw [← HR2.out]; simp [q2]
            subst er
            clear HR2 q1 HSZ
            go_wp2_with (first | (at_len; refine wpList_len_own _ rfl _ 42 rfl 9 3 Try.underlying42 _ w.heap.size _ Dm rfl HM.out ?_))
            go_ret
            exact ⟨rfl, HB.out⟩
        · have f1 : (((Go.Maps.size Dm : Nat) : Int) == (l0.length : Int)) = false := by rw [HSZ.out]; simp; omega
          have f1n : ((Go.Maps.size Dm) == l0.length) = false := by rw [HSZ.out]; simp [q1]
          have er : r = false := by rw [← HR2.out]; simp [q1]
          subst er
          clear HR2 q1 HSZ
          go_wp2_with (first | (at_len; refine wpList_len_own _ rfl _ 42 rfl 9 3 Try.underlying42 _ w.heap.size _ Dm rfl HM.out ?_))
          go_ret
          exact ⟨rfl, HB.out⟩
  · rw [if_neg hall] at h
    exact absurd h (by simp)
end

end Go.Proofs.Ytkdbfeapfcflmaa.T
