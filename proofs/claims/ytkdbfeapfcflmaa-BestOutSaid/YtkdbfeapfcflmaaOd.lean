/- Written by hp.py, this session's own program, out of the translation of this seat: Lean functions for the Go functions, and the proof that each call comes to what its Lean function says. -/
import Derived.Test.YtkdbfeapfcflmaaProg
import Derived.Below
import Derived.Deep.Draws
import Derived.Deep.AppendLies
import Derived.Maps.AppendAt
import Derived.OwnWalk
import Derived.Laws.BytesArg
import Derived.Laws.MakeOwn
import Derived.Laws.OwnMore
import Derived.Deep.OwnRows
import Derived.Tactics
import Derived.Lib.ConvBytes
import Derived.Laws.Slices
import Derived.WalkKit
import Derived.KernelRfl
import Derived.RowKit3
import Derived.Deep.LoopGhost
import Derived.Deep.QuietTactic
import Derived.BigQuiet
import Derived.WideLaws
import Derived.Deep.DeepCutAuto
import Derived.Deep.CutBlock
import Derived.Deep.RegionHeld3
import Derived.Laws.Rows
import Derived.Lib.AppendStr
import Derived.ArgAppend
import Derived.Laws.IdiomCopy
import Derived.OrdersHeld
import Derived.Laws.BitsLemmas
import Derived.RowKit
import Derived.Test.YtkdbfeapfcflmaaWWords
import Derived.Test.YtkdbfeapfcflmaaWLast
import Derived.Test.YtkdbfeapfcflmaaWTab
import Derived.Test.YtkdbfeapfcflmaaWFour
import Derived.Test.YtkdbfeapfcflmaaWQPut
import Derived.Test.YtkdbfeapfcflmaaWApart
import Derived.Test.YtkdbfeapfcflmaaWArr
import Derived.Test.YtkdbfeapfcflmaaWZeros
import Derived.Test.YtkdbfeapfcflmaaWFoot
import Derived.Test.YtkdbfeapfcflmaaWKept
import Derived.Test.YtkdbfeapfcflmaaWShare
import Derived.Test.YtkdbfeapfcflmaaWN
import Derived.Test.YtkdbfeapfcflmaaWFootNe
import Derived.Test.YtkdbfeapfcflmaaWAt
import Derived.Test.YtkdbfeapfcflmaaWEqStruct
import Derived.Test.YtkdbfeapfcflmaaWRepsOne
import Derived.Test.YtkdbfeapfcflmaaWInv
import Derived.Test.YtkdbfeapfcflmaaWInvWords
import Derived.Test.YtkdbfeapfcflmaaWGuard
import Derived.Test.YtkdbfeapfcflmaaWNEv
import Derived.Test.YtkdbfeapfcflmaaWMore
import Derived.Test.YtkdbfeapfcflmaaOc
namespace Go.Proofs.Ytkdbfeapfcflmaa.T
open Go.RowKit Go.Proofs.YtkdbfeapfcflmaaW.PrintWords Go.Proofs.YtkdbfeapfcflmaaW.PrintLast Go.Proofs.YtkdbfeapfcflmaaW.PrintMore
attribute [local go_sem] max2_int min2_int max_two min_two max_three min_three max_four min_four   -- for this text's walks alone
set_option linter.unusedVariables false
set_option linter.unusedSimpArgs false
/-! ### put (function 35) -/
/-- A call through a function value in a region that draws its order. -/
theorem goesF_ {P : Program} {ops : Array Oper} {Q : Exit → Act → World → Prop} {oi : Oper} {N : Option Tmp} {a : Act} {w : World} {K : Act → World → Prop} {f : FuncId} {t : Operand} {as_ : Array Operand} {ts : Array TypeId} (cap args : Array Value)
    (he : ∀ args w, (callFunc f args).run P w = .ok (.enter f args) w)
    (hw : Region.wanted oi (yielded ops a.tmps) = true) (hN : oi.dst = N) (hop : oi.op = .call { callee := .value t, args := as_, argTypes := ts }) (ht : a.eval t = .func (.func f) #[] cap) (hargs : as_.map a.eval ++ cap = args)
    (h : Calls P f args w fun e w' => ∃ v, e = .returned v ∧ K (a.put N v) w') : if Region.wanted oi (yielded ops a.tmps) = true then Oper.wp P oi a w K Q else K (a.put N undef) w := by
  refine call_ f args hw hN ?_ h
  have he := he args w
  unfold execOp
  simp [hop, resolve, Deferred.ofValue, invoke, ht, hargs, he]
open Go.Proofs.Ytkdbfeapfcflmaa.Plain (Order g sw up put down)
theorem TopV.drew {F : Nat} {D : S27 → Prop} {w0 W : World} {base G most : Nat} {v : Value} {h : List S27} (t : TopV F D w0 W base G most v h) : TopV F D w0 W.drew base G most v h := ⟨blk_drew t.top, Kd.R_drew t.row, t.dom, t.few, below_drew t.bel, t.gb⟩
theorem TopV.to {F : Nat} {D : S27 → Prop} {w0 W : World} {base G most : Nat} {v : Value} {h : List S27} (t : TopV F D w0 W base G most v h) (hp : 0 < h.length) : ∃ b cap, v = .slice (some ⟨b, 0, none⟩) h.length cap ∧ Top F D w0 W base G most b cap h := by
  obtain ⟨b, cap, rfl, _⟩ := Kd.R_form t.row hp
  exact ⟨b, cap, rfl, t.top, t.row, t.dom, t.few, t.bel, t.gb⟩
theorem Top.of {F : Nat} {D : S27 → Prop} {w0 W : World} {base G most b cap : Nat} {h : List S27} (t : Top F D w0 W base G most b cap h) : TopV F D w0 W base G most (.slice (some ⟨b, 0, none⟩) h.length cap) h := ⟨t.top, t.row, t.dom, t.few, t.bel, t.gb⟩
theorem TopV.step {F : Nat} {D : S27 → Prop} {w0 W W' : World} {base G most : Nat} {v : Value} {h : List S27} (t : TopV F D w0 W base G most v h) (hb : Below W.heap.size W W') (hbs : base ≤ W.heap.size) : TopV F D w0 W' base G most v h :=
  ⟨blk_below t.top hb, Kd.R_below t.row hb, t.dom, t.few, Below.trans t.bel (hb.mono hbs), t.gb⟩
set_option maxHeartbeats 8000000 in
set_option maxRecDepth 100000 in
theorem put_grow {F : Nat} {lt : S27 → S27 → Bool} {D : S27 → Prop} (hF : CmpOk F lt D) (w0 W : World) (base G most : Nat) (v : Value) (hs : List S27) (x : S27) (hx : D x) (hm : most ≤ 1000) (c1 : hs.length < most) (hbs : base ≤ W.heap.size) (t : TopV F D w0 W base G most v hs) :
    Calls Try.prog 35 #[.pointer (some ⟨G, 0, none⟩), .agg (hitV x)] W fun e w' => e = .returned (.tuple #[]) ∧ base ≤ w'.heap.size ∧ ∃ v', TopV F D w0 w' base G most v' (put z27 lt most hs x) := by
  have hu27 := Try.underlying27
  have eF := hF.eg
  have CF := Aside0.mk hF.calls
  have T := Aside0.mk t
  have few := t.few
  have hG : W.cell? ⟨G, 0, none⟩ = some v := (blk_cell t.top 0).trans rfl
  have hG1 : W.cell? ⟨G, 1, none⟩ = some (.int .i64 most) := (blk_cell t.top 1).trans rfl
  have fG : W.frozen? ⟨G, 0, none⟩ = false := blk_frozen t.top 0
  have ltG := blk_lt t.top
  obtain ⟨A, c, rfl⟩ := Kd.R_slice t.row
  have hsz : ∀ o, (W.alloc o).heap.size = W.heap.size + 1 := fun o => by unfold World.alloc; exact Array.size_push _
  clear t
  unfold hitV
  have d1 : decide ((hs.length : Int) < (most : Int)) = true := decide_eq_true (by omega)
  go_enter Try.func35, Try.ntmps35
  go_wp2
  go_region
  go_wp2
  have T1 := Aside0.mk ((T.out.step (below_drew (below_alloc (Below.refl _ _) (.cells #[.string x.f0, .int .i64 x.f1, .int .u64 x.f2.f0, .int .u64 x.f2.f1] 27))) hbs))
  have X1 := Aside0.mk (blk_drew (blk_new W (.cells #[.string x.f0, .int .i64 x.f1, .int .u64 x.f2.f0, .int .u64 x.f2.f1] 27)))
  have S1 := Aside0.mk (show base ≤ (W.alloc (.cells #[.string x.f0, .int .i64 x.f1, .int .u64 x.f2.f0, .int .u64 x.f2.f1] 27)).drew.heap.size by show base ≤ (W.alloc _).heap.size; rw [hsz]; omega)
  have Z1 := Aside0.mk (show W.heap.size < (W.alloc (.cells #[.string x.f0, .int .i64 x.f1, .int .u64 x.f2.f0, .int .u64 x.f2.f1] 27)).drew.heap.size by show W.heap.size < (W.alloc _).heap.size; rw [hsz]; omega)
  generalize (W.alloc (.cells #[.string x.f0, .int .i64 x.f1, .int .u64 x.f2.f0, .int .u64 x.f2.f1] 27)).drew = W1 at T1 X1 S1 Z1 ⊢
  generalize W.heap.size = gx at X1 Z1 ltG hbs hsz ⊢
  clear hG hG1 fG hsz T hbs
  have hG : W1.cell? ⟨G, 0, none⟩ = some (.slice A hs.length c) := (blk_cell T1.out.top 0).trans rfl
  have hx0 : W1.cell? ⟨gx, 0, none⟩ = some (.string x.f0) := (blk_cell X1.out 0).trans rfl
  have hx1 : W1.cell? ⟨gx, 1, none⟩ = some (.int .i64 x.f1) := (blk_cell X1.out 1).trans rfl
  have hx2 : W1.cell? ⟨gx, 2, none⟩ = some (.int .u64 x.f2.f0) := (blk_cell X1.out 2).trans rfl
  have hx3 : W1.cell? ⟨gx, 3, none⟩ = some (.int .u64 x.f2.f1) := (blk_cell X1.out 3).trans rfl
  refine start_ (n := 11) (S := fun w' => w'.cell? ⟨G, 0, none⟩ = some (.slice A hs.length c) ∧ w'.cell? ⟨gx, 0, none⟩ = some (.string x.f0) ∧ w'.cell? ⟨gx, 1, none⟩ = some (.int .i64 x.f1) ∧ w'.cell? ⟨gx, 2, none⟩ = some (.int .u64 x.f2.f0) ∧ w'.cell? ⟨gx, 3, none⟩ = some (.int .u64 x.f2.f1)) (ds := [7, 10]) #[false, false, false, false, false, false, false, false, false, false, false] (by kernel_rfl) rfl rfl ⟨hG, hx0, hx1, hx2, hx3⟩ (fun hHeld => ?_)
  refine pure_ (i := 0) (N := some 17) (v := ?_) (a' := ?_) #[true, false, false, false, false, false, false, false, false, false, false] rfl rfl (by kernel_rfl) (fun _ _ _ h => h) (Or.inl ⟨by rfl, ?_⟩) ?_ ?_
  rotate_left
  · intro w'
    go_simp
    with_reducible rfl
  rotate_left
  · simp only [Act.put, List.setIfInBounds_toArray, List.set_cons_zero, List.set_cons_succ, i64_w, i32_w]
    rfl
  refine pure_ (i := 1) (N := some 18) (v := ?_) (a' := ?_) #[true, true, false, false, false, false, false, false, false, false, false] rfl rfl (by kernel_rfl) (fun _ _ _ h => h) (Or.inl ⟨by rfl, ?_⟩) ?_ ?_
  rotate_left
  · intro w'
    go_simp
    with_reducible rfl
  rotate_left
  · simp only [Act.put, List.setIfInBounds_toArray, List.set_cons_zero, List.set_cons_succ, i64_w, i32_w]
    rfl
  refine pure_ (i := 2) (N := some 19) (v := ?_) (a' := ?_) #[true, true, true, false, false, false, false, false, false, false, false] rfl rfl (by kernel_rfl) (fun _ _ _ h => h) (Or.inl ⟨by rfl, ?_⟩) ?_ ?_
  rotate_left
  · intro w'
    go_simp
    with_reducible rfl
  rotate_left
  · simp only [Act.put, List.setIfInBounds_toArray, List.set_cons_zero, List.set_cons_succ, i64_w, i32_w]
    rfl
  refine pure_ (i := 3) (N := some 20) (v := ?_) (a' := ?_) #[true, true, true, true, false, false, false, false, false, false, false] rfl rfl (by kernel_rfl) (fun _ _ _ h => h) (Or.inl ⟨by rfl, ?_⟩) ?_ ?_
  rotate_left
  · intro w'
    go_simp
    with_reducible rfl
  rotate_left
  · simp only [Act.put, List.setIfInBounds_toArray, List.set_cons_zero, List.set_cons_succ, i64_w, i32_w]
    rfl
  refine take_ (i := 4) (N := some 21) (v := ?_) (a' := ?_) #[true, true, true, true, true, false, false, false, false, false, false] rfl rfl (by kernel_rfl) (fun _ _ _ h => h) (Or.inl ⟨by rfl, ?_⟩) hHeld ?_ ?_
  rotate_left
  · rintro w' ⟨s0, s1, s2, s3, s4⟩
    go_simp
    with_reducible rfl
  rotate_left
  · simp only [Act.put, List.setIfInBounds_toArray, List.set_cons_zero, List.set_cons_succ, i64_w, i32_w]
    rfl
  refine take_ (i := 5) (N := some 22) (v := ?_) (a' := ?_) #[true, true, true, true, true, true, false, false, false, false, false] rfl rfl (by kernel_rfl) (fun _ _ _ h => h) (Or.inl ⟨by rfl, ?_⟩) hHeld ?_ ?_
  rotate_left
  · rintro w' ⟨s0, s1, s2, s3, s4⟩
    go_simp
    with_reducible rfl
  rotate_left
  · simp only [Act.put, List.setIfInBounds_toArray, List.set_cons_zero, List.set_cons_succ, i64_w, i32_w]
    rfl
  refine one_ (i := 6) (N := some 23) #[true, true, true, true, true, true, true, false, false, false, false] rfl rfl (by kernel_rfl) (by decide) (fun K hK => ?_)
  refine value_ (w1 := ?_) (v := ?_) (by rfl) rfl ?_ ?_
  rotate_left 2
  · go_simp
    constructor
    · rfl
    · rfl
  refine hK.out _ _ ⟨pw_cell_below (below_alloc (Below.refl _ _) _) hG, pw_cell_below (below_alloc (Below.refl _ _) _) hx0, pw_cell_below (below_alloc (Below.refl _ _) _) hx1, pw_cell_below (below_alloc (Below.refl _ _) _) hx2, pw_cell_below (below_alloc (Below.refl _ _) _) hx3⟩ (fun hHeld => ?_)
  clear hK K
  refine norm_ (a' := ?_) ?_ ?_
  rotate_left
  · show Act.put _ (some 23) _ = _
    simp only [Act.put, List.setIfInBounds_toArray, List.set_cons_zero, List.set_cons_succ, i64_w, i32_w]
    rfl
  refine last_ (i := 7) (N := some 24) #[true, true, true, true, true, true, true, true, false, false, false] rfl rfl (by kernel_rfl) (by decide) (fun K hK => ?_)
  refine Kd.R_append_step k27 (w0 := w0) (W := W1.drew) base (by rfl) (.tmp 21) (.tmp 23) 22 27 (.agg #[.string ⟨#[]⟩, .int .i64 0, .int .u64 0, .int .u64 0]) 40 rfl Try.underlying22 info27 rfl (by decide) (by omega) (.slice A hs.length c) hs x (hitL x) (fun k => k ≠ G) (fun _ => False) rfl rfl (k27_mkM _ _ _ x) (fun _ h => h.elim) (fun k hk => by have := blk_lt T1.out.top; have hk2 : W1.heap.size ≤ k := hk; omega) (Kd.R_drew T1.out.row) (below_drew T1.out.bel) S1.out (by have := few; omega) ?_
  intro v1 w3 hr1 hb1 hg1 hat1
  obtain ⟨b1, cap1, e1, hbb1, hbl1, _⟩ := Kd.R_form hr1 (by simp)
  subst e1
  have TG := Aside0.mk (blk_grown (blk_drew T1.out.top) hg1 (Kd.R_away (Kd.R_drew T1.out.row) (g := G) (fun k hk => hk)))
  have R1 := Aside0.mk hr1
  have B1 := Aside0.mk hb1
  have G1 := Aside0.mk (show base ≤ w3.heap.size from Nat.le_trans S1.out hg1.size)
  clear hr1 hb1 hg1 hat1
  refine hK.out _ _ ?_
  clear hK K
  refine norm_ (a' := ?_) ?_ ?_
  rotate_left
  · show Act.put _ (some 24) _ = _
    simp only [Act.put, List.setIfInBounds_toArray, List.set_cons_zero, List.set_cons_succ, i64_w, i32_w]
    rfl
  refine pure_ (i := 8) (N := some 25) (v := ?_) (a' := ?_) #[true, true, true, true, true, true, true, true, true, false, false] rfl rfl (by kernel_rfl) (fun _ _ _ h => h) (Or.inl ⟨by rfl, ?_⟩) ?_ ?_
  rotate_left
  · intro w'
    go_simp
    with_reducible rfl
  rotate_left
  · simp only [Act.put, List.setIfInBounds_toArray, List.set_cons_zero, List.set_cons_succ, i64_w, i32_w]
    rfl
  refine pure_ (i := 9) (N := some 26) (v := ?_) (a' := ?_) #[true, true, true, true, true, true, true, true, true, true, false] rfl rfl (by kernel_rfl) (fun _ _ _ h => h) (Or.inl ⟨by rfl, ?_⟩) ?_ ?_
  rotate_left
  · intro w'
    go_simp
    with_reducible rfl
  rotate_left
  · simp only [Act.put, List.setIfInBounds_toArray, List.set_cons_zero, List.set_cons_succ, i64_w, i32_w]
    rfl
  refine last_ (i := 10) (N := none) #[true, true, true, true, true, true, true, true, true, true, true] rfl rfl (by kernel_rfl) (by decide) (fun K hK => ?_)
  have hG3 : w3.cell? ⟨G, 0, none⟩ = some (.slice A hs.length c) := (blk_cell TG.out 0).trans rfl
  have fG3 := blk_frozen TG.out 0
  refine skip_ (w1 := ?_) (by rfl) rfl ?_ ?_
  rotate_left
  · go_simp
    rfl
  refine hK.out _ _ ?_
  clear hK K
  refine done_ (by kernel_rfl) ?_
  have ln : (hs ++ [x]).length = hs.length + 1 := by simp
  have TT0 := (show Top F D w0 (w3.setCell ⟨G, 0, none⟩ (.slice (some ⟨b1, 0, none⟩) (hs ++ [x]).length cap1)) base G most b1 cap1 (hs ++ [x]) from
    ⟨blk_set TG.out 0 _, Kd.R_far R1.out (p := ⟨G, 0, none⟩) (fun k hk => hk) _, fun y hy => by
      rcases List.mem_append.1 hy with h1 | h1
      · exact T1.out.dom y h1
      · rw [List.mem_singleton.1 h1]; exact hx, by omega, B1.out.setCell T1.out.gb _, T1.out.gb⟩)
  have hG40 : (w3.setCell ⟨G, 0, none⟩ (.slice (some ⟨b1, 0, none⟩) (hs ++ [x]).length cap1)).cell? ⟨G, 0, none⟩ = some (.slice (some ⟨b1, 0, none⟩) (hs ++ [x]).length cap1) := (blk_cell TT0.top 0).trans rfl
  rw [ln] at TT0 hG40
  have TT := Aside0.mk TT0
  have G4 := Aside0.mk (show base ≤ (w3.setCell ⟨G, 0, none⟩ (.slice (some ⟨b1, 0, none⟩) (hs.length + 1) cap1)).heap.size by rw [Go.Deep.nblk_setCell]; exact G1.out)
  have EP := Aside0.mk (show put z27 lt most hs x = up z27 lt (hs ++ [x]) hs.length by unfold Plain.put; rw [if_pos c1])
  clear hG hx0 hx1 hx2 hx3 hHeld hG3 fG3
  clear TG R1 B1 G1 T1 X1 S1 Z1
  clear TT0
  simp only [ln]
  generalize w3.setCell ⟨G, 0, none⟩ (.slice (some ⟨b1, 0, none⟩) (hs.length + 1) cap1) = W4 at TT G4 hG40 ⊢
  generalize hsq : hs ++ [x] = hq at TT EP ln
  have HSQ := Aside0.mk hsq
  clear hsq
  have LN := Aside0.mk ln
  clear ln
  go_wp2
  clear hG40
  go_loopg [4] hs.length (fun kq v4 w' => ∃ (i' : Nat) (h' : List S27), v4 = .int .i64 (i' : Int) ∧ Aside0 (h'.length = hs.length + 1) ∧ Aside0 (i' ≤ kq) ∧ Aside0 (i' < hs.length + 1) ∧ Aside0 (up z27 lt h' i' = put z27 lt most hs x) ∧ Aside0 (Top F D w0 w' base G most b1 cap1 h') ∧ Aside0 (base ≤ w'.heap.size))
  case atStart => exact ⟨hs.length, hq, congrArg (Value.int .i64) (by omega), LN, ⟨Nat.le_refl _⟩, ⟨by omega⟩, ⟨EP.out.symm⟩, TT, G4⟩
  case round =>
    clear TT G4
    obtain ⟨i', h', rfl, HL, HK, HI, HE, T, HS⟩ := hrel
    have hl := HL.out
    have hi' := HI.out
    obtain ⟨wo, rfl⟩ : ∃ wo : World, wo = wr := ⟨_, rfl⟩
    by_cases c0 : i' = 0
    · subst c0
      go_wp2
      go_end0
      exact ⟨rfl, HS.out, _, by have := HE.out; rw [Plain.up, dif_pos rfl] at this; rw [← this]; exact T.out.of⟩
    · obtain ⟨kj, rfl⟩ : ∃ m, gk = m + 1 := ⟨gk - 1, by have := HK.out; omega⟩
      have hG : wo.cell? ⟨G, 0, none⟩ = some (.slice (some ⟨b1, 0, none⟩) (hs.length + 1) cap1) := by rw [← hl]; exact (blk_cell T.out.top 0).trans rfl
      have hG2 : wo.cell? ⟨G, 2, none⟩ = some (.func (.func F) #[] #[]) := (blk_cell T.out.top 2).trans rfl
      obtain ⟨l, hlu⟩ : ∃ l, l = (i' - 1) / 2 := ⟨_, rfl⟩
      have HLU := Aside0.mk hlu
      have eq1 : ((i' : Int) - 1) / 2 = (l : Int) := by omega
      obtain ⟨a0, a1, a2, a3⟩ := T.out.cells l (by omega)
      obtain ⟨b0, b1_, b2, b3⟩ := T.out.cells i' (by omega)
      have cF := fun w => CF.out (g z27 h' l) (g z27 h' i') w (T.out.dom _ (Plain.g_mem _ _ _ (by omega))) (T.out.dom _ (Plain.g_mem _ _ _ (by omega)))
      unfold hitV at cF
      generalize hlq : lt (g z27 h' l) (g z27 h' i') = q at cF
      have HQ := Aside0.mk hlq
      clear hlq
      have d0 : decide ((0 : Int) < (i' : Int)) = true := decide_eq_true (by omega)
      have lz : (l : Int) < (hs.length : Int) + 1 := by omega
      have l0 : (0 : Int) ≤ (l : Int) := by omega
      have kz : (i' : Int) < (hs.length : Int) + 1 := by omega
      have k0 : (0 : Int) ≤ (i' : Int) := by omega
      clear hlu
      go_wp2
      go_region_held3 (fun w_ => w_.cell? ⟨G, 0, none⟩ = some (.slice (some ⟨b1, 0, none⟩) (hs.length + 1) cap1) ∧ w_.cell? ⟨G, 2, none⟩ = some (.func (.func F) #[] #[]) ∧ w_.cell? ⟨b1, l * 4, none⟩ = some (.string (g z27 h' l).f0) ∧ w_.cell? ⟨b1, l * 4 + 1, none⟩ = some (.int .i64 (g z27 h' l).f1) ∧ w_.cell? ⟨b1, l * 4 + 2, none⟩ = some (.int .u64 (g z27 h' l).f2.f0) ∧ w_.cell? ⟨b1, l * 4 + 3, none⟩ = some (.int .u64 (g z27 h' l).f2.f1) ∧ w_.cell? ⟨b1, i' * 4, none⟩ = some (.string (g z27 h' i').f0) ∧ w_.cell? ⟨b1, i' * 4 + 1, none⟩ = some (.int .i64 (g z27 h' i').f1) ∧ w_.cell? ⟨b1, i' * 4 + 2, none⟩ = some (.int .u64 (g z27 h' i').f2.f0) ∧ w_.cell? ⟨b1, i' * 4 + 3, none⟩ = some (.int .u64 (g z27 h' i').f2.f1) ∧ Lays_ wo w_) (first | ((repeat' apply And.intro) <;> (first | assumption | exact Lays_.drew1 _ | go_keep)) | (go_split_ands; ((repeat' apply And.intro) <;> (first | assumption | exact pw_cell_below (Lays_.below hL) (by assumption) | exact Lays_.trans (by assumption) hL)))) (first | (go_at_fn F; refine (cF _).mono ?_; rintro e w' ⟨rfl, hL⟩))
      have hLW : Lays_ wo w' := (Lays_.drew1 wo).trans hL
      clear hL
      have T2 := Aside0.mk (T.out.step (Lays_.below hLW) HS.out)
      have HS2 := Aside0.mk (Nat.le_trans HS.out (Lays_.below hLW).size)
      clear hLW a0 a1 a2 a3 b0 b1_ b2 b3 hG hG2 cF
      have HU := HE.out
      rw [Plain.up, dif_neg c0, ← HLU.out, HQ.out] at HU
      cases q with
      | false =>
        simp only [Bool.false_eq_true, if_false] at HU
        go_wp2
        refine bodyPost_ret (v := .tuple #[]) (by simp [results, Try.results35, go_sem]) rfl ?_
        exact ⟨rfl, HS2.out, _, by rw [← HU]; exact T2.out.of⟩
      | true =>
        simp only [if_true] at HU
        have HU2 := Aside0.mk HU
        clear HU HE
        have hG : w'.cell? ⟨G, 0, none⟩ = some (.slice (some ⟨b1, 0, none⟩) (hs.length + 1) cap1) := by rw [← hl]; exact (blk_cell T2.out.top 0).trans rfl
        obtain ⟨a0, a1, a2, a3⟩ := T2.out.cells l (by omega)
        obtain ⟨b0, b1_, b2, b3⟩ := T2.out.cells i' (by omega)
        have fz := fun j => T2.out.free (by omega) j
        go_wp2
        go_big_region
        have T3 := Aside0.mk (T2.out.sw l i' (by omega) (by omega)).drew
        have HS3 := HS2.out
        clear fz a0 a1 a2 a3 b0 b1_ b2 b3
        go_wp2
        go_roundg kj
        case measure => omega
        case rel => exact ⟨l, sw z27 h' l i', congrArg (Value.int .i64) (by have := HLU.out; omega), ⟨by rw [Plain.sw_length]; exact hl⟩, ⟨by have := HK.out; have := HLU.out; omega⟩, ⟨by omega⟩, HU2, T3, ⟨by simpa [Go.Deep.nblk_setCell] using HS3⟩⟩
set_option maxHeartbeats 8000000 in
set_option maxRecDepth 100000 in
theorem put_full {F : Nat} {lt : S27 → S27 → Bool} {D : S27 → Prop} (hF : CmpOk F lt D) (w0 W : World) (base G most : Nat) (v : Value) (hs : List S27) (x : S27) (hx : D x) (hm : most ≤ 1000) (c1 : ¬ hs.length < most) (hbs : base ≤ W.heap.size) (t : TopV F D w0 W base G most v hs) :
    Calls Try.prog 35 #[.pointer (some ⟨G, 0, none⟩), .agg (hitV x)] W fun e w' => e = .returned (.tuple #[]) ∧ base ≤ w'.heap.size ∧ ∃ v', TopV F D w0 w' base G most v' (put z27 lt most hs x) := by
  have hu27 := Try.underlying27
  have eF := hF.eg
  have CF := Aside0.mk hF.calls
  have T := Aside0.mk t
  have few := t.few
  have hG : W.cell? ⟨G, 0, none⟩ = some v := (blk_cell t.top 0).trans rfl
  have hG1 : W.cell? ⟨G, 1, none⟩ = some (.int .i64 most) := (blk_cell t.top 1).trans rfl
  have fG : W.frozen? ⟨G, 0, none⟩ = false := blk_frozen t.top 0
  have ltG := blk_lt t.top
  obtain ⟨A, c, rfl⟩ := Kd.R_slice t.row
  have hsz : ∀ o, (W.alloc o).heap.size = W.heap.size + 1 := fun o => by unfold World.alloc; exact Array.size_push _
  clear t
  unfold hitV
  have d1 : decide ((hs.length : Int) < (most : Int)) = false := decide_eq_false (by omega)
  by_cases c2 : most = 0
  · have d2 : decide ((0 : Int) < (most : Int)) = false := decide_eq_false (by omega)
    have EP : put z27 lt most hs x = hs := by unfold Plain.put; rw [if_neg c1, if_neg (by omega)]
    have HEP := Aside0.mk EP
    clear EP
    go_enter Try.func35, Try.ntmps35
    go_wp2
    go_region
    go_wp2
    go_region
    go_wp2
    refine bodyPost_end (v := .tuple #[]) (by simp [results, Try.results35, go_sem]) rfl ?_
    refine ⟨rfl, ?_, _, by rw [HEP.out]; exact ((T.out.step (below_alloc (Below.refl _ _) _) hbs).drew).drew⟩
    show base ≤ (W.alloc _).heap.size
    rw [hsz]; omega
  · have d2 : decide ((0 : Int) < (most : Int)) = true := decide_eq_true (by omega)
    obtain ⟨b, cap, e1, t⟩ := T.out.to (by omega)
    obtain ⟨e1, e2⟩ : A = some ⟨b, 0, none⟩ ∧ c = cap := by injection e1 with h1 h2 h3; exact ⟨h1, h3⟩
    subst e1; subst e2
    have TB := Aside0.mk t
    clear t T
    have cF := fun w => CF.out x (g z27 hs 0) w hx (TB.out.dom _ (Plain.g_mem _ _ _ (by omega)))
    unfold hitV at cF
    generalize hlq : lt x (g z27 hs 0) = q at cF
    have HQ := Aside0.mk hlq
    clear hlq
    have kz : (0 : Int) < (hs.length : Int) := by omega
    have kzn : 0 < hs.length := by omega
    have pm : 0 < most := by omega
    have d2n : decide (0 < most) = true := decide_eq_true pm
    have d3n : decide (0 < hs.length) = true := decide_eq_true kzn
    go_enter Try.func35, Try.ntmps35
    go_wp2
    go_region
    go_wp2
    have T1 := Aside0.mk ((TB.out.step (below_drew (below_alloc (Below.refl _ _) (.cells #[.string x.f0, .int .i64 x.f1, .int .u64 x.f2.f0, .int .u64 x.f2.f1] 27))) hbs))
    have X1 := Aside0.mk (blk_drew (blk_new W (.cells #[.string x.f0, .int .i64 x.f1, .int .u64 x.f2.f0, .int .u64 x.f2.f1] 27)))
    have S1 := Aside0.mk (show base ≤ (W.alloc (.cells #[.string x.f0, .int .i64 x.f1, .int .u64 x.f2.f0, .int .u64 x.f2.f1] 27)).drew.heap.size by show base ≤ (W.alloc _).heap.size; rw [hsz]; omega)
    generalize (W.alloc (.cells #[.string x.f0, .int .i64 x.f1, .int .u64 x.f2.f0, .int .u64 x.f2.f1] 27)).drew = W1 at T1 X1 S1 ⊢
    have N1 := Aside0.mk (show b ≠ W.heap.size by have := (Kd.R_lt TB.out.row) b (by simp [Value.ownBlock]); omega)
    generalize W.heap.size = gx at X1 ltG hbs hsz N1 ⊢
    clear hG hG1 fG hsz TB hbs
    have hG : W1.cell? ⟨G, 0, none⟩ = some (.slice (some ⟨b, 0, none⟩) hs.length c) := (blk_cell T1.out.top 0).trans rfl
    have hG1 : W1.cell? ⟨G, 1, none⟩ = some (.int .i64 most) := (blk_cell T1.out.top 1).trans rfl
    have hG2 : W1.cell? ⟨G, 2, none⟩ = some (.func (.func F) #[] #[]) := (blk_cell T1.out.top 2).trans rfl
    have hx0 : W1.cell? ⟨gx, 0, none⟩ = some (.string x.f0) := (blk_cell X1.out 0).trans rfl
    have hx1 : W1.cell? ⟨gx, 1, none⟩ = some (.int .i64 x.f1) := (blk_cell X1.out 1).trans rfl
    have hx2 : W1.cell? ⟨gx, 2, none⟩ = some (.int .u64 x.f2.f0) := (blk_cell X1.out 2).trans rfl
    have hx3 : W1.cell? ⟨gx, 3, none⟩ = some (.int .u64 x.f2.f1) := (blk_cell X1.out 3).trans rfl
    obtain ⟨a0, a1, a2, a3⟩ := T1.out.cells 0 (by omega)
    simp only [Nat.zero_mul, Nat.zero_add] at a0 a1 a2 a3
    refine start_ (n := 20) (S := fun w' => w'.cell? ⟨G, 0, none⟩ = some (.slice (some ⟨b, 0, none⟩) hs.length c) ∧ w'.cell? ⟨G, 1, none⟩ = some (.int .i64 most) ∧ w'.cell? ⟨G, 2, none⟩ = some (.func (.func F) #[] #[]) ∧ w'.cell? ⟨gx, 0, none⟩ = some (.string x.f0) ∧ w'.cell? ⟨gx, 1, none⟩ = some (.int .i64 x.f1) ∧ w'.cell? ⟨gx, 2, none⟩ = some (.int .u64 x.f2.f0) ∧ w'.cell? ⟨gx, 3, none⟩ = some (.int .u64 x.f2.f1) ∧ w'.cell? ⟨b, 0, none⟩ = some (.string (g z27 hs 0).f0) ∧ w'.cell? ⟨b, 1, none⟩ = some (.int .i64 (g z27 hs 0).f1) ∧ w'.cell? ⟨b, 2, none⟩ = some (.int .u64 (g z27 hs 0).f2.f0) ∧ w'.cell? ⟨b, 3, none⟩ = some (.int .u64 (g z27 hs 0).f2.f1)) (ds := []) #[false, false, false, false, false, false, false, false, false, false, false, false, false, false, false, false, false, false, false, false] (by kernel_rfl) rfl rfl ⟨hG, hG1, hG2, hx0, hx1, hx2, hx3, a0, a1, a2, a3⟩ (fun hHeld => ?_)
    refine pure_ (i := 0) (N := some 88) (v := ?_) (a' := ?_) #[true, false, false, false, false, false, false, false, false, false, false, false, false, false, false, false, false, false, false, false] rfl rfl (by kernel_rfl) (fun _ _ _ h => h) (Or.inl ⟨by rfl, ?_⟩) ?_ ?_
    rotate_left
    · intro w'
      go_simp
      with_reducible rfl
    rotate_left
    · simp only [Act.put, List.setIfInBounds_toArray, List.set_cons_zero, List.set_cons_succ, i64_w, i32_w]
      rfl
    refine pure_ (i := 1) (N := some 89) (v := ?_) (a' := ?_) #[true, true, false, false, false, false, false, false, false, false, false, false, false, false, false, false, false, false, false, false] rfl rfl (by kernel_rfl) (fun _ _ _ h => h) (Or.inl ⟨by rfl, ?_⟩) ?_ ?_
    rotate_left
    · intro w'
      go_simp
      with_reducible rfl
    rotate_left
    · simp only [Act.put, List.setIfInBounds_toArray, List.set_cons_zero, List.set_cons_succ, i64_w, i32_w]
      rfl
    refine pure_ (i := 2) (N := some 90) (v := ?_) (a' := ?_) #[true, true, true, false, false, false, false, false, false, false, false, false, false, false, false, false, false, false, false, false] rfl rfl (by kernel_rfl) (fun _ _ _ h => h) (Or.inl ⟨by rfl, ?_⟩) ?_ ?_
    rotate_left
    · intro w'
      go_simp
      with_reducible rfl
    rotate_left
    · simp only [Act.put, List.setIfInBounds_toArray, List.set_cons_zero, List.set_cons_succ, i64_w, i32_w]
      rfl
    refine take_ (i := 3) (N := some 91) (v := ?_) (a' := ?_) #[true, true, true, true, false, false, false, false, false, false, false, false, false, false, false, false, false, false, false, false] rfl rfl (by kernel_rfl) (fun _ _ _ h => h) (Or.inl ⟨by rfl, ?_⟩) hHeld ?_ ?_
    rotate_left
    · rintro w' ⟨s0, s1, s2, s3, s4, s5, s6, s7, s8, s9, s10⟩
      go_simp
      with_reducible rfl
    rotate_left
    · simp only [Act.put, List.setIfInBounds_toArray, List.set_cons_zero, List.set_cons_succ, i64_w, i32_w]
      rfl
    refine pure_ (i := 4) (N := some 92) (v := ?_) (a' := ?_) #[true, true, true, true, true, false, false, false, false, false, false, false, false, false, false, false, false, false, false, false] rfl rfl (by kernel_rfl) (fun _ _ _ h => h) (Or.inl ⟨by rfl, ?_⟩) ?_ ?_
    rotate_left
    · intro w'
      go_simp
      with_reducible rfl
    rotate_left
    · simp only [Act.put, List.setIfInBounds_toArray, List.set_cons_zero, List.set_cons_succ, i64_w, i32_w]
      rfl
    refine pure_ (i := 5) (N := some 93) (v := ?_) (a' := ?_) #[true, true, true, true, true, true, false, false, false, false, false, false, false, false, false, false, false, false, false, false] rfl rfl (by kernel_rfl) (fun _ _ _ h => h) (Or.inl ⟨by rfl, ?_⟩) ?_ ?_
    rotate_left
    · intro w'
      go_simp
      with_reducible rfl
    rotate_left
    · simp only [Act.put, List.setIfInBounds_toArray, List.set_cons_zero, List.set_cons_succ, i64_w, i32_w]
      rfl
    refine pure_ (i := 6) (N := some 94) (v := ?_) (a' := ?_) #[true, true, true, true, true, true, true, false, false, false, false, false, false, false, false, false, false, false, false, false] rfl rfl (by kernel_rfl) (fun _ _ _ h => h) (Or.inl ⟨by rfl, ?_⟩) ?_ ?_
    rotate_left
    · intro w'
      go_simp
      with_reducible rfl
    rotate_left
    · simp only [Act.put, List.setIfInBounds_toArray, List.set_cons_zero, List.set_cons_succ, i64_w, i32_w]
      rfl
    refine pure_ (i := 7) (N := some 95) (v := ?_) (a' := ?_) #[true, true, true, true, true, true, true, true, false, false, false, false, false, false, false, false, false, false, false, false] rfl rfl (by kernel_rfl) (fun _ _ _ h => h) (Or.inl ⟨by rfl, ?_⟩) ?_ ?_
    rotate_left
    · intro w'
      go_simp
      with_reducible rfl
    rotate_left
    · simp only [Act.put, List.setIfInBounds_toArray, List.set_cons_zero, List.set_cons_succ, i64_w, i32_w]
      rfl
    refine pure_ (i := 8) (N := some 96) (v := ?_) (a' := ?_) #[true, true, true, true, true, true, true, true, true, false, false, false, false, false, false, false, false, false, false, false] rfl rfl (by kernel_rfl) (fun _ _ _ h => h) (Or.inl ⟨by rfl, ?_⟩) ?_ ?_
    rotate_left
    · intro w'
      go_simp
      with_reducible rfl
    rotate_left
    · simp only [Act.put, List.setIfInBounds_toArray, List.set_cons_zero, List.set_cons_succ, i64_w, i32_w]
      rfl
    refine pure_ (i := 11) (N := some 99) (v := ?_) (a' := ?_) #[true, true, true, true, true, true, true, true, true, false, false, true, false, false, false, false, false, false, false, false] rfl rfl (by kernel_rfl) (fun _ _ _ h => h) (Or.inl ⟨by rfl, ?_⟩) ?_ ?_
    rotate_left
    · intro w'
      go_simp
      with_reducible rfl
    rotate_left
    · simp only [Act.put, List.setIfInBounds_toArray, List.set_cons_zero, List.set_cons_succ, i64_w, i32_w]
      rfl
    refine pure_ (i := 12) (N := some 100) (v := ?_) (a' := ?_) #[true, true, true, true, true, true, true, true, true, false, false, true, true, false, false, false, false, false, false, false] rfl rfl (by kernel_rfl) (fun _ _ _ h => h) (Or.inl ⟨by rfl, ?_⟩) ?_ ?_
    rotate_left
    · intro w'
      go_simp
      with_reducible rfl
    rotate_left
    · simp only [Act.put, List.setIfInBounds_toArray, List.set_cons_zero, List.set_cons_succ, i64_w, i32_w]
      rfl
    refine pure_ (i := 13) (N := some 101) (v := ?_) (a' := ?_) #[true, true, true, true, true, true, true, true, true, false, false, true, true, true, false, false, false, false, false, false] rfl rfl (by kernel_rfl) (fun _ _ _ h => h) (Or.inl ⟨by rfl, ?_⟩) ?_ ?_
    rotate_left
    · intro w'
      go_simp
      with_reducible rfl
    rotate_left
    · simp only [Act.put, List.setIfInBounds_toArray, List.set_cons_zero, List.set_cons_succ, i64_w, i32_w]
      rfl
    refine take_ (i := 9) (N := some 97) (v := ?_) (a' := ?_) #[true, true, true, true, true, true, true, true, true, true, false, true, true, true, false, false, false, false, false, false] rfl rfl (by kernel_rfl) (fun _ _ _ h => h) (Or.inl ⟨by rfl, ?_⟩) hHeld ?_ ?_
    rotate_left
    · rintro w' ⟨s0, s1, s2, s3, s4, s5, s6, s7, s8, s9, s10⟩
      go_simp
      with_reducible rfl
    rotate_left
    · simp only [Act.put, List.setIfInBounds_toArray, List.set_cons_zero, List.set_cons_succ, i64_w, i32_w]
      rfl
    refine take_ (i := 10) (N := some 98) (v := ?_) (a' := ?_) #[true, true, true, true, true, true, true, true, true, true, true, true, true, true, false, false, false, false, false, false] rfl rfl (by kernel_rfl) (fun _ _ _ h => h) (Or.inl ⟨by rfl, ?_⟩) hHeld ?_ ?_
    rotate_left
    · rintro w' ⟨s0, s1, s2, s3, s4, s5, s6, s7, s8, s9, s10⟩
      go_simp
      with_reducible rfl
    rotate_left
    · simp only [Act.put, List.setIfInBounds_toArray, List.set_cons_zero, List.set_cons_succ, i64_w, i32_w]
      rfl
    refine take_ (i := 14) (N := some 102) (v := ?_) (a' := ?_) #[true, true, true, true, true, true, true, true, true, true, true, true, true, true, true, false, false, false, false, false] rfl rfl (by kernel_rfl) (fun _ _ _ h => h) (Or.inl ⟨by rfl, ?_⟩) hHeld ?_ ?_
    rotate_left
    · rintro w' ⟨s0, s1, s2, s3, s4, s5, s6, s7, s8, s9, s10⟩
      go_simp
      with_reducible rfl
    rotate_left
    · simp only [Act.put, List.setIfInBounds_toArray, List.set_cons_zero, List.set_cons_succ, i64_w, i32_w]
      rfl
    refine pure_ (i := 15) (N := some 103) (v := ?_) (a' := ?_) #[true, true, true, true, true, true, true, true, true, true, true, true, true, true, true, true, false, false, false, false] rfl rfl (by kernel_rfl) (fun _ _ _ h => h) (Or.inl ⟨by rfl, ?_⟩) ?_ ?_
    rotate_left
    · intro w'
      go_simp
      with_reducible rfl
    rotate_left
    · simp only [Act.put, List.setIfInBounds_toArray, List.set_cons_zero, List.set_cons_succ, i64_w, i32_w]
      rfl
    refine take_ (i := 16) (N := some 104) (v := ?_) (a' := ?_) #[true, true, true, true, true, true, true, true, true, true, true, true, true, true, true, true, true, false, false, false] rfl rfl (by kernel_rfl) (fun _ _ _ h => h) (Or.inl ⟨by rfl, ?_⟩) hHeld ?_ ?_
    rotate_left
    · rintro w' ⟨s0, s1, s2, s3, s4, s5, s6, s7, s8, s9, s10⟩
      go_simp
      with_reducible rfl
    rotate_left
    · simp only [Act.put, List.setIfInBounds_toArray, List.set_cons_zero, List.set_cons_succ, i64_w, i32_w]
      rfl
    refine one_ (i := 17) (N := some 105) #[true, true, true, true, true, true, true, true, true, true, true, true, true, true, true, true, true, true, false, false] rfl rfl (by kernel_rfl) (by decide) (fun K hK => ?_)
    refine goesF_ #[] #[.agg #[.string x.f0, .int .i64 x.f1, .int .u64 x.f2.f0, .int .u64 x.f2.f1], .agg #[.string (g z27 hs 0).f0, .int .i64 (g z27 hs 0).f1, .int .u64 (g z27 hs 0).f2.f0, .int .u64 (g z27 hs 0).f2.f1]] eF (by rfl) rfl rfl rfl (by simp only [List.map_toArray, List.map_cons, List.map_nil]; rfl) ?_
    (with_reducible refine (cF _).mono ?_)
    rintro e w' ⟨rfl, hL⟩
    refine ⟨_, rfl, ?_⟩
    refine hK.out _ _ ⟨pw_cell_below (Lays_.below hL) hG, pw_cell_below (Lays_.below hL) hG1, pw_cell_below (Lays_.below hL) hG2, pw_cell_below (Lays_.below hL) hx0, pw_cell_below (Lays_.below hL) hx1, pw_cell_below (Lays_.below hL) hx2, pw_cell_below (Lays_.below hL) hx3, pw_cell_below (Lays_.below hL) a0, pw_cell_below (Lays_.below hL) a1, pw_cell_below (Lays_.below hL) a2, pw_cell_below (Lays_.below hL) a3⟩ (fun hHeld => ?_)
    clear hK K
    refine norm_ (a' := ?_) ?_ ?_
    rotate_left
    · show Act.put _ (some 105) _ = _
      simp only [Act.put, List.setIfInBounds_toArray, List.set_cons_zero, List.set_cons_succ, i64_w, i32_w]
      rfl
    refine pure_ (i := 18) (N := some 106) (v := ?_) (a' := ?_) #[true, true, true, true, true, true, true, true, true, true, true, true, true, true, true, true, true, true, true, false] rfl rfl (by kernel_rfl) (fun _ _ _ h => h) (Or.inl ⟨by rfl, ?_⟩) ?_ ?_
    rotate_left
    · intro w'
      go_simp
      with_reducible rfl
    rotate_left
    · simp only [Act.put, List.setIfInBounds_toArray, List.set_cons_zero, List.set_cons_succ, i64_w, i32_w]
      rfl
    refine pure_ (i := 19) (N := some 87) (v := ?_) (a' := ?_) #[true, true, true, true, true, true, true, true, true, true, true, true, true, true, true, true, true, true, true, true] rfl rfl (by kernel_rfl) (fun _ _ _ h => h) (Or.inl ⟨by rfl, ?_⟩) ?_ ?_
    rotate_left
    · intro w'
      go_simp
      with_reducible rfl
    rotate_left
    · simp only [Act.put, List.setIfInBounds_toArray, List.set_cons_zero, List.set_cons_succ, i64_w, i32_w]
      rfl
    refine done_ (by kernel_rfl) ?_
    have hLW : Lays_ W1 w' := (Lays_.drew1 W1).trans hL
    clear hL
    have T2 := Aside0.mk (T1.out.step (Lays_.below hLW) S1.out)
    have X2 := Aside0.mk (blk_below X1.out (Lays_.below hLW))
    have HS2 := Aside0.mk (Nat.le_trans S1.out (Lays_.below hLW).size)
    clear hLW a0 a1 a2 a3 hG hG1 hG2 hx0 hx1 hx2 hx3 cF T1 X1 S1
    cases q with
    | false =>
      have EP : put z27 lt most hs x = hs := by unfold Plain.put; rw [if_neg c1, if_neg (by rw [HQ.out]; simp)]
      have HEP := Aside0.mk EP
      clear EP
      go_wp2
      refine bodyPost_end (v := .tuple #[]) (by simp [results, Try.results35, go_sem]) rfl ?_
      exact ⟨rfl, HS2.out, _, by rw [HEP.out]; exact T2.out.of⟩
    | true =>
      have EP : put z27 lt most hs x = down z27 lt hs.length (hs.set 0 x) 0 := by unfold Plain.put; rw [if_neg c1, if_pos ⟨by omega, HQ.out⟩]
      have HEP := Aside0.mk EP
      clear EP
      have hG : w'.cell? ⟨G, 0, none⟩ = some (.slice (some ⟨b, 0, none⟩) hs.length c) := (blk_cell T2.out.top 0).trans rfl
      have hx0 : w'.cell? ⟨gx, 0, none⟩ = some (.string x.f0) := (blk_cell X2.out 0).trans rfl
      have hx1 : w'.cell? ⟨gx, 1, none⟩ = some (.int .i64 x.f1) := (blk_cell X2.out 1).trans rfl
      have hx2 : w'.cell? ⟨gx, 2, none⟩ = some (.int .u64 x.f2.f0) := (blk_cell X2.out 2).trans rfl
      have hx3 : w'.cell? ⟨gx, 3, none⟩ = some (.int .u64 x.f2.f1) := (blk_cell X2.out 3).trans rfl
      obtain ⟨a0, a1, a2, a3⟩ := T2.out.cells 0 (by omega)
      simp only [Nat.zero_mul, Nat.zero_add] at a0 a1 a2 a3
      have fz := fun j => T2.out.free (by omega) j
      go_wp2
      go_big_region
      have T3 := Aside0.mk (show Top F D w0 ((((w'.setCell ⟨b, 0, none⟩ (.string x.f0)).setCell ⟨b, 1, none⟩ (.int .i64 x.f1)).setCell ⟨b, 2, none⟩ (.int .u64 x.f2.f0)).setCell ⟨b, 3, none⟩ (.int .u64 x.f2.f1)).drew base G most b c (hs.set 0 x) from (T2.out.put 0 (by omega) x hx).drew)
      have HS3 := Aside0.mk (show base ≤ ((((w'.setCell ⟨b, 0, none⟩ (.string x.f0)).setCell ⟨b, 1, none⟩ (.int .i64 x.f1)).setCell ⟨b, 2, none⟩ (.int .u64 x.f2.f0)).setCell ⟨b, 3, none⟩ (.int .u64 x.f2.f1)).drew.heap.size by have := HS2.out; simpa [Go.Deep.nblk_setCell] using this)
      clear fz a0 a1 a2 a3 hG hx0 hx1 hx2 hx3
      generalize ((((w'.setCell ⟨b, 0, none⟩ (.string x.f0)).setCell ⟨b, 1, none⟩ (.int .i64 x.f1)).setCell ⟨b, 2, none⟩ (.int .u64 x.f2.f0)).setCell ⟨b, 3, none⟩ (.int .u64 x.f2.f1)).drew = W3 at T3 HS3 ⊢
      go_wp2_with (go_at_call 39; (refine (down_calls hF w0 _ base G most b c (hs.set 0 x) 0 (by rw [List.length_set]; omega) HS3.out T3.out).mono ?_); rintro e w4 ⟨rfl, t4, s4⟩; have T4 := Aside0.mk t4; have HS4 := Aside0.mk s4; clear t4 s4)
      refine bodyPost_end (v := .tuple #[]) (by simp [results, Try.results35, go_sem]) rfl ?_
      refine ⟨rfl, HS4.out, ?_⟩
      rw [HEP.out]
      have hT := T4.out.of
      rw [List.length_set] at hT
      exact ⟨_, hT⟩
theorem put_calls {F : Nat} {lt : S27 → S27 → Bool} {D : S27 → Prop} (hF : CmpOk F lt D) (w0 W : World) (base G most : Nat) (v : Value) (hs : List S27) (x : S27) (hx : D x) (hm : most ≤ 1000) (hbs : base ≤ W.heap.size) (t : TopV F D w0 W base G most v hs) :
    Calls Try.prog 35 #[.pointer (some ⟨G, 0, none⟩), .agg (hitV x)] W fun e w' => e = .returned (.tuple #[]) ∧ base ≤ w'.heap.size ∧ ∃ v', TopV F D w0 w' base G most v' (put z27 lt most hs x) := by
  by_cases c1 : hs.length < most
  · exact put_grow hF w0 W base G most v hs x hx hm c1 hbs t
  · exact put_full hF w0 W base G most v hs x hx hm c1 hbs t

end Go.Proofs.Ytkdbfeapfcflmaa.T
