/- Written by hp.py, this session's own program, out of the translation of this seat: Lean functions for the Go functions, and the proof that each call comes to what its Lean function says. -/
import Derived.Test.YtkdbfeapfcflmaaProg
import Derived.Below
import Derived.Deep.Draws
import Derived.Deep.AppendLies
import Derived.Maps.AppendAt
import Derived.OwnWalk
import Derived.Laws.BytesArg
import Derived.Laws.MakeOwn
import Derived.Laws.OwnMore
import Derived.Deep.OwnRows
import Derived.Tactics
import Derived.Lib.ConvBytes
import Derived.Laws.Slices
import Derived.WalkKit
import Derived.KernelRfl
import Derived.RowKit3
import Derived.Deep.LoopGhost
import Derived.Deep.QuietTactic
import Derived.BigQuiet
import Derived.WideLaws
import Derived.Deep.DeepCutAuto
import Derived.Deep.CutBlock
import Derived.Deep.RegionHeld3
import Derived.Laws.Rows
import Derived.Lib.AppendStr
import Derived.ArgAppend
import Derived.Laws.IdiomCopy
import Derived.OrdersHeld
import Derived.Laws.BitsLemmas
import Derived.RowKit
import Derived.Test.YtkdbfeapfcflmaaWWords
import Derived.Test.YtkdbfeapfcflmaaWLast
import Derived.Test.YtkdbfeapfcflmaaWTab
import Derived.Test.YtkdbfeapfcflmaaWFour
import Derived.Test.YtkdbfeapfcflmaaWQPut
import Derived.Test.YtkdbfeapfcflmaaWApart
import Derived.Test.YtkdbfeapfcflmaaWArr
import Derived.Test.YtkdbfeapfcflmaaWZeros
import Derived.Test.YtkdbfeapfcflmaaWFoot
import Derived.Test.YtkdbfeapfcflmaaWKept
import Derived.Test.YtkdbfeapfcflmaaWShare
import Derived.Test.YtkdbfeapfcflmaaWN
import Derived.Test.YtkdbfeapfcflmaaWFootNe
import Derived.Test.YtkdbfeapfcflmaaWAt
import Derived.Test.YtkdbfeapfcflmaaWEqStruct
import Derived.Test.YtkdbfeapfcflmaaWRepsOne
import Derived.Test.YtkdbfeapfcflmaaWInv
import Derived.Test.YtkdbfeapfcflmaaWInvWords
import Derived.Test.YtkdbfeapfcflmaaWGuard
import Derived.Test.YtkdbfeapfcflmaaWNEv
import Derived.Test.YtkdbfeapfcflmaaWMore
import Derived.Test.YtkdbfeapfcflmaaOb
import Derived.Test.YtkdbfeapfcflmaaSh
import Derived.Test.YtkdbfeapfcflmaaHa
namespace Go.Proofs.Ytkdbfeapfcflmaa.T
open Go.RowKit Go.Proofs.YtkdbfeapfcflmaaW.PrintWords Go.Proofs.YtkdbfeapfcflmaaW.PrintLast Go.Proofs.YtkdbfeapfcflmaaW.PrintMore
attribute [local go_sem] max2_int min2_int max_two min_two max_three min_three max_four min_four   -- for this text's walks alone
set_option linter.unusedVariables false
set_option linter.unusedSimpArgs false
/-! ### told (function 36) -/
open Go.Proofs.Ytkdbfeapfcflmaa.Plain (Order)
section
open Go.Sort
theorem ltOf_cmp {D : S27 → Prop} (lt : S27 → S27 → Bool) (x y : {x : S27 // D x}) : ltOf (cmpOf lt) x y = lt x.1 y.1 := by
  unfold ltOf cmpOf
  cases lt x.1 y.1 <;> rfl
theorem cmp_swo {D : S27 → Prop} {lt : S27 → S27 → Bool} (o : Order lt D) : SWO (ltOf (cmpOf (D := D) lt)) := by
  refine ⟨fun x => ?_, fun x y z => ?_, fun x y z => ?_⟩
  · rw [ltOf_cmp]; exact o.irr _ x.2
  · rw [ltOf_cmp, ltOf_cmp, ltOf_cmp]; exact o.tr _ _ _ x.2 y.2 z.2
  · rw [ltOf_cmp, ltOf_cmp, ltOf_cmp]; exact o.ge_tr x.2 y.2 z.2
theorem cmp_tot {D : S27 → Prop} {lt : S27 → S27 → Bool} (o : Order lt D) (x y : {x : S27 // D x}) (h1 : ltOf (cmpOf lt) x y = false) (h2 : ltOf (cmpOf lt) y x = false) : x = y := by
  rw [ltOf_cmp] at h1 h2
  apply Subtype.ext
  by_cases e : x.1 = y.1
  · exact e
  · rcases o.tot _ _ x.2 y.2 e with h | h
    · rw [h1] at h; cases h
    · rw [h2] at h; cases h
def sub (D : S27 → Prop) (h : List S27) (hD : ∀ x ∈ h, D x) : List {x : S27 // D x} := h.attachWith D hD
theorem sub_map (D : S27 → Prop) (h : List S27) (hD : ∀ x ∈ h, D x) : (sub D h hD).map (fun x => x.1) = h := by
  unfold sub
  simp
/-- all of a row, in order -/
theorem sorted_sub {D : S27 → Prop} {lt : S27 → S27 → Bool} (o : Order lt D) (h : List S27) (hD : ∀ x ∈ h, D x) (hn : h.Nodup) (s : List {x : S27 // D x}) (hs : s = (sub D h hD).mergeSort fun x y => !(ltOf (cmpOf lt)) y x) :
    (s.map (fun x => x.1)).Perm h ∧ (s.map (fun x => x.1)).Pairwise (Plain.Lt lt) := by
  have hp : s.Perm (sub D h hD) := by rw [hs]; exact List.mergeSort_perm _ _
  have hpm : (s.map (fun x => x.1)).Perm h := by have := hp.map (fun x => x.1); rwa [sub_map] at this
  refine ⟨hpm, ?_⟩
  have hsw := cmp_swo (D := D) o
  have hpw : s.Pairwise (fun x y => (!(ltOf (cmpOf lt)) y x) = true) := by
    rw [hs]
    apply List.pairwise_mergeSort
    · intro a b c h1 h2
      simp only [Bool.not_eq_true'] at h1 h2 ⊢
      exact hsw.ntrans _ _ _ h2 h1
    · intro a b
      by_cases e : a = b
      · subst e; simp [hsw.irrefl a]
      · cases h1 : ltOf (cmpOf lt) b a with
        | false => simp
        | true =>
          cases h2 : ltOf (cmpOf lt) a b with
          | false => simp
          | true => have := hsw.trans _ _ _ h1 h2; rw [hsw.irrefl] at this; cases this
  rw [List.pairwise_map]
  have hnd : s.Nodup := by
    have : (s.map (fun x => x.1)).Nodup := hpm.nodup_iff.2 hn
    exact List.Pairwise.of_map (fun x : {x : S27 // D x} => x.1) (fun a b hab e => hab (by rw [e])) this
  refine List.Pairwise.imp_of_mem ?_ (List.pairwise_and_iff.2 ⟨hpw, hnd⟩)
  rintro a b _ _ ⟨h1, h2⟩
  simp only [Bool.not_eq_true'] at h1
  rw [ltOf_cmp] at h1
  exact (o.tot _ _ a.2 b.2 (fun e => h2 (Subtype.ext e))).resolve_right (by rw [h1]; simp)
theorem told_sort {F : Nat} {lt : S27 → S27 → Bool} {D : S27 → Prop} (hF : CmpOk F lt D) (o : Order lt D) (w W : World) (bt G : Nat) (h : List S27) (hD : ∀ x ∈ h, D x) (hn : h.Nodup) (hfew : h.length ≤ 1200) (v : Value)
    (HO : Kd.R k27 27 W w.heap.size (fun k => k ≠ bt ∧ k ≠ G) v h) (h1 : W.cell? ⟨bt, 0, none⟩ = some (.pointer (some ⟨G, 0, none⟩))) (h2 : W.cell? ⟨G, 2, none⟩ = some (.func (.func F) #[] #[])) (HB : Below w.heap.size w W) :
    Calls Try.prog 41 #[v, .func (.func 42) #[] #[.pointer (some ⟨bt, 0, none⟩)]] W fun e w' =>
      e = .returned (.tuple #[]) ∧ ∃ s, s.Perm h ∧ s.Pairwise (Plain.Lt lt) ∧ Kd.R k27 27 w' w.heap.size (fun _ => True) v s ∧ Below w.heap.size w w' := by
  rcases Nat.eq_zero_or_pos h.length with h0 | hp
  · obtain ⟨A, c, rfl⟩ := Kd.R_slice HO
    have e : h = [] := List.eq_nil_of_length_eq_zero h0
    subst e
    have hc := AnyF.slices_SortFunc_none Try.laysSort A c (.func (.func 42) #[] #[.pointer (some ⟨bt, 0, none⟩)]) W
    change Calls Try.prog 41 _ W _ at hc
    refine hc.mono ?_
    rintro e w' ⟨rfl, rfl⟩
    exact ⟨rfl, [], List.Perm.refl _, List.Pairwise.nil, Kd.R_mono HO (fun _ _ => trivial), HB⟩
  · obtain ⟨b, cap, rfl, hb, hbl, _⟩ := Kd.R_form HO hp
    obtain ⟨hb1, hb2⟩ := HO.1 b (by simp [Value.ownBlock])
    haveI : Inhabited {x : S27 // D x} := ⟨⟨h[0], hD _ (List.getElem_mem hp)⟩⟩
    have hsz : (sub D h hD).toArray.size = h.length := by simp [sub]
    have hl4 : ∀ x : S27, (hitL x).length = k27.sz := fun _ => rfl
    have hM : ∀ w base ok x cs, k27.M w base ok x cs ↔ cs = hitL x := fun w base ok x cs => ⟨fun hh => k27_openM hh, fun hh => by subst hh; exact k27_mkM w base ok x⟩
    have hH : HoldsK (fun x : {x : S27 // D x} => hitL x.1) 4 W b 0 (sub D h hD).toArray :=
      swk_holds (f := fun x : {x : S27 // D x} => x.1) HO (by decide) (fun w base ok x cs => (hM w base ok x cs).1) hl4 _ (by rw [List.toList_toArray, sub_map]) (fun _ => rfl)
    have eg : ∀ args w, (callFunc 42 args).run Try.prog w = .ok (.enter 42 args) w := enters_of Try.func42 (by kernel_rfl) rfl
    have lt1 : bt < W.heap.size := World.block_lt_of_cell? W _ h1
    have lt2 : G < W.heap.size := World.block_lt_of_cell? W _ h2
    have hcmp : CmpLays Try.prog 42 #[.pointer (some ⟨bt, 0, none⟩)] (fun x : {x : S27 // D x} => hitL x.1) 4 (cmpOf lt) b 0 (sub D h hD).toArray.size W := by
      intro m dos dk hs x y
      refine told1 hF bt G _ x.1 y.1 x.2 y.2 ?_ ?_
      · unfold World.cell? at h1 ⊢
        rw [sortWorldK_flat, sw_other (Ne.symm hb1) lt1 0]
        exact h1
      · unfold World.cell? at h2 ⊢
        rw [sortWorldK_flat, sw_other (Ne.symm hb2) lt2 0]
        exact h2
    have hc := AnyQ.slices_SortFunc_total Try.laysSort 4 Try.isAgg27 Try.sizeOf27 (fun x : {x : S27 // D x} => hitL x.1) (fun _ => rfl) (fun x v hv => by
      simp only [hitL, List.mem_cons, List.not_mem_nil, or_false] at hv
      rcases hv with rfl | rfl | rfl | rfl <;> rfl) (cmpOf lt) (cmp_swo o) 42 #[.pointer (some ⟨bt, 0, none⟩)] b 0 cap (sub D h hD).toArray W eg hcmp hH hbl (by rw [hsz]; omega) (cmp_tot o)
    rw [hsz] at hc
    change Calls Try.prog 41 _ W _ at hc
    refine hc.mono ?_
    rintro e w' ⟨rfl, n, os, rfl⟩
    obtain ⟨hpm, hpw⟩ := sorted_sub o h hD hn _ rfl
    refine ⟨rfl, _, hpm, hpw, ?_, ?_⟩
    · have hr := swk_row (m := n) (os := os) (dk := ((sub D h hD).mergeSort fun x y => !(ltOf (cmpOf lt)) y x).toArray) (f := fun x : {x : S27 // D x} => x.1) (enc := fun x => hitL x.1) HO (by decide) hM hl4 (by simp [sub]) (fun _ => rfl)
      rw [List.toList_toArray] at hr
      exact Kd.R_mono hr (fun _ _ => trivial)
    · rw [sortWorldK_flat]
      exact sw_below 0 HB (Nat.le_trans hb (Nat.le_refl _)) HB.size
end
/-- a heap whose row may be nil yet -/
structure TopV (F : Nat) (D : S27 → Prop) (w0 W : World) (base G most : Nat) (v : Value) (h : List S27) : Prop where
  top : W.heap[G]? = some (.cells #[v, .int .i64 most, .func (.func F) #[] #[]] 57 (0, 0))
  row : Kd.R k27 27 W base (fun k => k ≠ G) v h
  dom : ∀ x ∈ h, D x
  few : h.length ≤ 1200
  bel : Below base w0 W
  gb : base ≤ G
set_option maxHeartbeats 4000000 in
set_option maxRecDepth 100000 in
theorem told_calls {F : Nat} {lt : S27 → S27 → Bool} {D : S27 → Prop} (hF : CmpOk F lt D) (o : Order lt D) (w0 w : World) (base G most : Nat) (v0 : Value) (h : List S27) (hn : h.Nodup) (t : TopV F D w0 w base G most v0 h) :
    Calls Try.prog 36 #[.pointer (some ⟨G, 0, none⟩)] w fun e w' => ∃ v s, e = .returned v ∧ s.Perm h ∧ s.Pairwise (Plain.Lt lt) ∧ Kd.R k27 27 w' w.heap.size (fun _ => True) v s ∧ Below w.heap.size w w' := by
  have hmf : ∀ (fn : Fn) (first cap : Array Value) (w : World), (Instr.makeFunc fn first cap).run Try.prog w = .ok (.func fn first cap) w := fun _ _ _ _ => rfl
  obtain ⟨A, c, rfl⟩ := Kd.R_slice t.row
  obtain ⟨_, hc1, hC⟩ := Kd.R_reads' t.row
  have HC := Aside0.mk hC
  have HT := Aside0.mk t
  have HB := Aside0.mk (Below.refl w.heap.size w)
  have HF := Aside0.mk (show slices_Clone_Hit.f h = some h by unfold slices_Clone_Hit.f; rw [if_pos (by have := t.few; omega)])
  have ltG := blk_lt t.top
  have hG : w.cell? ⟨G, 0, none⟩ = some (.slice A h.length c) := (blk_cell t.top 0).trans rfl
  clear hC t
  go_enter Try.func36, Try.ntmps36
  have hsz : ∀ o, (w.alloc o).heap.size = w.heap.size + 1 := fun o => by unfold World.alloc; exact Array.size_push _
  go_wp2_with (first | (go_at_call 40; (with_reducible refine (slices_Clone_Hit.calls _ _ h h _ (Kd.C_alloc HC.out _) hc1 HF.out).mono ?_); rintro e w1 ⟨v, rfl, hR, hB⟩; have HR := Aside0.mk hR; have HB1 := Aside0.mk hB; clear hR hB; have HBT := Aside0.mk (blk_below (blk_new w _) HB1.out); have HGT := Aside0.mk (blk_below (blk_alloc HT.out.top _) HB1.out); have HBW := Aside0.mk (below_step (below_alloc HB.out _) HB1.out)) | (go_at_call 41; (refine (told_sort hF o w _ w.heap.size G h HT.out.dom hn HT.out.few v (Kd.R_mono (Kd.R_lower (Kd.R_bound HR.out) (by rw [hsz]; omega)) (fun k hk => by have := hk.2.1; rw [hsz] at this; omega)) ((blk_cell HBT.out 0).trans rfl) ((blk_cell HGT.out 2).trans rfl) HBW.out).mono ?_); (rintro e w2 ⟨rfl, s, hp, hpw, hR, hB⟩; have HP := Aside0.mk hp; have HPW := Aside0.mk hpw; have HR2 := Aside0.mk hR; have HB2 := Aside0.mk hB; clear hp hpw hR hB)))
  go_ret
  exact ⟨_, s, rfl, HP.out, HPW.out, HR2.out, HB2.out⟩

end Go.Proofs.Ytkdbfeapfcflmaa.T
