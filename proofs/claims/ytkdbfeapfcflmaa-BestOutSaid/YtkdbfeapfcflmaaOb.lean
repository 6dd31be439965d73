/- Written by hp.py, this session's own program, out of the translation of this seat: Lean functions for the Go functions, and the proof that each call comes to what its Lean function says. -/
import Derived.Test.YtkdbfeapfcflmaaProg
import Derived.Below
import Derived.Deep.Draws
import Derived.Deep.AppendLies
import Derived.Maps.AppendAt
import Derived.OwnWalk
import Derived.Laws.BytesArg
import Derived.Laws.MakeOwn
import Derived.Laws.OwnMore
import Derived.Deep.OwnRows
import Derived.Tactics
import Derived.Lib.ConvBytes
import Derived.Laws.Slices
import Derived.WalkKit
import Derived.KernelRfl
import Derived.RowKit3
import Derived.Deep.LoopGhost
import Derived.Deep.QuietTactic
import Derived.BigQuiet
import Derived.WideLaws
import Derived.Deep.DeepCutAuto
import Derived.Deep.CutBlock
import Derived.Deep.RegionHeld3
import Derived.Laws.Rows
import Derived.Lib.AppendStr
import Derived.ArgAppend
import Derived.Laws.IdiomCopy
import Derived.OrdersHeld
import Derived.Laws.BitsLemmas
import Derived.RowKit
import Derived.Test.YtkdbfeapfcflmaaWWords
import Derived.Test.YtkdbfeapfcflmaaWLast
import Derived.Test.YtkdbfeapfcflmaaWTab
import Derived.Test.YtkdbfeapfcflmaaWFour
import Derived.Test.YtkdbfeapfcflmaaWQPut
import Derived.Test.YtkdbfeapfcflmaaWApart
import Derived.Test.YtkdbfeapfcflmaaWArr
import Derived.Test.YtkdbfeapfcflmaaWZeros
import Derived.Test.YtkdbfeapfcflmaaWFoot
import Derived.Test.YtkdbfeapfcflmaaWKept
import Derived.Test.YtkdbfeapfcflmaaWShare
import Derived.Test.YtkdbfeapfcflmaaWN
import Derived.Test.YtkdbfeapfcflmaaWFootNe
import Derived.Test.YtkdbfeapfcflmaaWAt
import Derived.Test.YtkdbfeapfcflmaaWEqStruct
import Derived.Test.YtkdbfeapfcflmaaWRepsOne
import Derived.Test.YtkdbfeapfcflmaaWInv
import Derived.Test.YtkdbfeapfcflmaaWInvWords
import Derived.Test.YtkdbfeapfcflmaaWGuard
import Derived.Test.YtkdbfeapfcflmaaWNEv
import Derived.Test.YtkdbfeapfcflmaaWMore
import Derived.Test.YtkdbfeapfcflmaaOa
import Derived.Test.YtkdbfeapfcflmaaPA
namespace Go.Proofs.Ytkdbfeapfcflmaa.T
open Go.RowKit Go.Proofs.YtkdbfeapfcflmaaW.PrintWords Go.Proofs.YtkdbfeapfcflmaaW.PrintLast Go.Proofs.YtkdbfeapfcflmaaW.PrintMore
attribute [local go_sem] max2_int min2_int max_two min_two max_three min_three max_four min_four   -- for this text's walks alone
set_option linter.unusedVariables false
set_option linter.unusedSimpArgs false
/-! ### down (function 39) -/
open Go.Proofs.Ytkdbfeapfcflmaa.Plain (g sw low low1 down up put)
/-- a heap in memory: the struct at block G (list, most, comparison), its row in a block of its own -/
structure Top (F : Nat) (D : S27 → Prop) (w0 W : World) (base G : Nat) (most : Nat) (b cap : Nat) (h : List S27) : Prop where
  top : W.heap[G]? = some (.cells #[.slice (some ⟨b, 0, none⟩) h.length cap, .int .i64 most, .func (.func F) #[] #[]] 57 (0, 0))
  row : Kd.R k27 27 W base (fun k => k ≠ G) (.slice (some ⟨b, 0, none⟩) h.length cap) h
  dom : ∀ x ∈ h, D x
  few : h.length ≤ 1200
  bel : Below base w0 W
  gb : base ≤ G
theorem Top.step {F : Nat} {D : S27 → Prop} {w0 W W' : World} {base G most b cap : Nat} {h : List S27} (t : Top F D w0 W base G most b cap h) (hb : Below W.heap.size W W') (hbs : base ≤ W.heap.size) : Top F D w0 W' base G most b cap h :=
  ⟨blk_below t.top hb, Kd.R_below t.row hb, t.dom, t.few, Below.trans t.bel (hb.mono hbs), t.gb⟩
theorem Top.cells {F : Nat} {D : S27 → Prop} {w0 W : World} {base G most b cap : Nat} {h : List S27} (t : Top F D w0 W base G most b cap h) (i : Nat) (hi : i < h.length) :
    W.cell? ⟨b, i * 4, none⟩ = some (.string (g z27 h i).f0) ∧ W.cell? ⟨b, i * 4 + 1, none⟩ = some (.int .i64 (g z27 h i).f1) ∧ W.cell? ⟨b, i * 4 + 2, none⟩ = some (.int .u64 (g z27 h i).f2.f0) ∧ W.cell? ⟨b, i * 4 + 3, none⟩ = some (.int .u64 (g z27 h i).f2.f1) := by
  obtain ⟨c, hcl, hM, hcc, hf⟩ := Kd.R_elem t.row z27 (i : Int) (by omega) (by omega)
  have e := k27_openM hM
  rw [Int.toNat_natCast] at e hcc
  subst e
  exact ⟨hcc 0 _ rfl, hcc 1 _ rfl, hcc 2 _ rfl, hcc 3 _ rfl⟩
theorem Top.free {F : Nat} {D : S27 → Prop} {w0 W : World} {base G most b cap : Nat} {h : List S27} (t : Top F D w0 W base G most b cap h) (hp : 0 < h.length) (j : Nat) : W.frozen? ⟨b, j, none⟩ = false := by
  obtain ⟨b', cap', e, h1, h2, cells, hc⟩ := Kd.R_form t.row hp
  cases e
  exact blk_frozen hc j
theorem Top.ne {F : Nat} {D : S27 → Prop} {w0 W : World} {base G most b cap : Nat} {h : List S27} (t : Top F D w0 W base G most b cap h) : b ≠ G := t.row.1 b (by simp [Value.ownBlock])
theorem Top.put {F : Nat} {D : S27 → Prop} {w0 W : World} {base G most b cap : Nat} {h : List S27} (t : Top F D w0 W base G most b cap h) (i : Nat) (hi : i < h.length) (x : S27) (hx : D x) :
    Top F D w0 ((((W.setCell ⟨b, i * 4, none⟩ (.string x.f0)).setCell ⟨b, i * 4 + 1, none⟩ (.int .i64 x.f1)).setCell ⟨b, i * 4 + 2, none⟩ (.int .u64 x.f2.f0)).setCell ⟨b, i * 4 + 3, none⟩ (.int .u64 x.f2.f1)) base G most b cap (h.set i x) := by
  obtain ⟨c, hcl, hM, hcc, hf⟩ := Kd.R_elem t.row z27 (i : Int) (by omega) (by omega)
  have hs := Kd.R_seg t.row (i : Int) (by omega) (by omega) (c := c) (seg := hitL x) (j := 0) (okp := fun _ => False) (x' := x) hcl hcc (Nat.le_refl _) (by
    have e := k27_openM hM
    subst e
    exact k27_mkM W base _ x) (fun _ h => h.elim)
  rw [Int.toNat_natCast] at hs
  have hne := t.ne
  have hb : base ≤ b := Kd.R_base t.row b (by simp [Value.ownBlock])
  refine ⟨?_, ?_, ?_, ?_, ?_, t.gb⟩
  · rw [List.length_set]
    exact blk_far (blk_far (blk_far (blk_far t.top (Ne.symm hne) _) (Ne.symm hne) _) (Ne.symm hne) _) (Ne.symm hne) _
  · rw [List.length_set]
    exact hs.1
  · intro y hy
    rcases List.mem_or_eq_of_mem_set hy with h1 | h1
    · exact t.dom y h1
    · rw [h1]; exact hx
  · rw [List.length_set]; exact t.few
  · exact (((t.bel.setCell hb _).setCell hb _).setCell hb _).setCell hb _
theorem Top.sw {F : Nat} {D : S27 → Prop} {w0 W : World} {base G most b cap : Nat} {h : List S27} (t : Top F D w0 W base G most b cap h) (i l : Nat) (hi : i < h.length) (hl : l < h.length) :
    Top F D w0 ((((((((W.setCell ⟨b, i * 4, none⟩ (.string (g z27 h l).f0)).setCell ⟨b, i * 4 + 1, none⟩ (.int .i64 (g z27 h l).f1)).setCell ⟨b, i * 4 + 2, none⟩ (.int .u64 (g z27 h l).f2.f0)).setCell ⟨b, i * 4 + 3, none⟩ (.int .u64 (g z27 h l).f2.f1)).setCell ⟨b, l * 4, none⟩ (.string (g z27 h i).f0)).setCell ⟨b, l * 4 + 1, none⟩ (.int .i64 (g z27 h i).f1)).setCell ⟨b, l * 4 + 2, none⟩ (.int .u64 (g z27 h i).f2.f0)).setCell ⟨b, l * 4 + 3, none⟩ (.int .u64 (g z27 h i).f2.f1)) base G most b cap (sw z27 h i l) :=
  (t.put i hi _ (t.dom _ (Plain.g_mem _ _ _ hl))).put l (by rw [List.length_set]; exact hl) _ (t.dom _ (Plain.g_mem _ _ _ hi))
theorem Top.drew {F : Nat} {D : S27 → Prop} {w0 W : World} {base G most b cap : Nat} {h : List S27} (t : Top F D w0 W base G most b cap h) : Top F D w0 W.drew base G most b cap h :=
  ⟨blk_drew t.top, Kd.R_drew t.row, t.dom, t.few, below_drew t.bel, t.gb⟩
def lowAt (lt : S27 → S27 → Bool) (h : List S27) (i kk : Nat) : Nat := if kk = 2 * i + 1 then i else if kk = 2 * i + 2 then low1 z27 lt h i (2 * i + 1) else low z27 lt h i
theorem lowAt_next (lt : S27 → S27 → Bool) (h : List S27) (i kk l : Nat) (q : Bool) (h1 : 2 * i + 1 ≤ kk) (h2 : kk < 2 * i + 3) (hl : l = lowAt lt h i kk) (hk : kk < h.length) (hq : lt (g z27 h l) (g z27 h kk) = q) : (if q then kk else l) = lowAt lt h i (kk + 1) := by
  have e : low1 z27 lt h l kk = if q then kk else l := by unfold low1; rw [if_pos hk, hq]
  rw [← e]
  unfold lowAt at hl ⊢
  rw [if_neg (by omega)]
  by_cases c : kk = 2 * i + 1
  · rw [if_pos c] at hl
    rw [if_pos (by omega), hl, c]
  · rw [if_neg c, if_pos (by omega)] at hl
    rw [if_neg (by omega), hl]
    unfold low
    rw [show kk = 2 * i + 2 by omega]
theorem lowAt_end (lt : S27 → S27 → Bool) (h : List S27) (i kk l : Nat) (h1 : 2 * i + 1 ≤ kk) (h2 : kk ≤ 2 * i + 3) (hl : l = lowAt lt h i kk) (hk : h.length ≤ kk ∨ kk = 2 * i + 3) : l = low z27 lt h i := by
  rw [hl]
  unfold lowAt low low1
  by_cases c : kk = 2 * i + 1
  · rw [if_pos c, if_neg (by omega), if_neg (by omega)]
  · rw [if_neg c]
    by_cases c2 : kk = 2 * i + 2
    · rw [if_pos c2]
      rw [if_neg (show ¬ 2 * i + 2 < h.length by omega)]
    · rw [if_neg c2]
theorem low_or_ {lt : S27 → S27 → Bool} {h : List S27} {i l : Nat} (e : l = low z27 lt h i) (hn : ¬ l = i) : i < l := by
  have := Plain.low_or z27 lt h i
  omega
set_option maxHeartbeats 8000000 in
set_option maxRecDepth 100000 in
theorem down_calls {F : Nat} {lt : S27 → S27 → Bool} {D : S27 → Prop} (hF : CmpOk F lt D) (w0 W : World) (base G most b cap : Nat) (hs : List S27) (i : Nat) (hi : i < hs.length) (hbs : base ≤ W.heap.size) (t : Top F D w0 W base G most b cap hs) :
    Calls Try.prog 39 #[.pointer (some ⟨G, 0, none⟩), .int .i64 i] W fun e w' => e = .returned (.tuple #[]) ∧ Top F D w0 w' base G most b cap (down z27 lt hs.length hs i) ∧ base ≤ w'.heap.size := by
  have hu27 := Try.underlying27
  have eF := hF.eg
  have CF := Aside0.mk hF.calls
  have T := Aside0.mk t
  have few := t.few
  clear hF t
  go_enter Try.func39, Try.ntmps39
  go_wp2
  go_loopg [1] hs.length (fun kq v1 w' => ∃ (i' : Nat) (h' : List S27), v1 = .int .i64 (i' : Int) ∧ Aside0 (h'.length = hs.length) ∧ Aside0 (hs.length ≤ kq + i') ∧ Aside0 (i' < hs.length) ∧ Aside0 (down z27 lt kq h' i' = down z27 lt hs.length hs i) ∧ Aside0 (Top F D w0 w' base G most b cap h') ∧ Aside0 (base ≤ w'.heap.size))
  case atStart => exact ⟨i, hs, rfl, ⟨rfl⟩, ⟨by omega⟩, ⟨hi⟩, ⟨rfl⟩, T, ⟨hbs⟩⟩
  case round =>
    clear T hbs
    obtain ⟨i', h', rfl, HL, HK, HI, HE, T, HS⟩ := hrel
    have hl := HL.out
    have hi' := HI.out
    obtain ⟨kj, rfl⟩ : ∃ m, gk = m + 1 := ⟨gk - 1, by have := HK.out; omega⟩
    obtain ⟨wo, rfl⟩ : ∃ wo : World, wo = wr := ⟨_, rfl⟩
    have hG : wo.cell? ⟨G, 0, none⟩ = some (.slice (some ⟨b, 0, none⟩) hs.length cap) := by rw [← hl]; exact (blk_cell T.out.top 0).trans rfl
    have hG2 : wo.cell? ⟨G, 2, none⟩ = some (.func (.func F) #[] #[]) := (blk_cell T.out.top 2).trans rfl
    go_wp2
    clear hG hG2
    go_loopg [4, 5] 4 (fun k2 v4 v5 w' => ∃ (l kk : Nat), v4 = .int .i64 (l : Int) ∧ v5 = .int .i64 (kk : Int) ∧ Aside0 (2 * i' + 4 ≤ k2 + kk) ∧ Aside0 (2 * i' + 1 ≤ kk ∧ kk ≤ 2 * i' + 3) ∧ Aside0 (l < hs.length) ∧ Aside0 (l = lowAt lt h' i' kk) ∧ Aside0 (Top F D w0 w' base G most b cap h') ∧ Aside0 (base ≤ w'.heap.size))
    case atStart => exact ⟨i', 2 * i' + 1, rfl, congrArg (Value.int .i64) (by omega), ⟨by omega⟩, ⟨by omega⟩, ⟨hi'⟩, ⟨by rw [lowAt, if_pos rfl]⟩, T, HS⟩
    case round =>
      clear T HS
      obtain ⟨l, kk, rfl, rfl, HM, HKK, HLL, HLE, T, HS⟩ := hrel
      obtain ⟨wi, rfl⟩ : ∃ wi : World, wi = wr := ⟨_, rfl⟩
      have hG : wi.cell? ⟨G, 0, none⟩ = some (.slice (some ⟨b, 0, none⟩) hs.length cap) := by rw [← hl]; exact (blk_cell T.out.top 0).trans rfl
      have hG2 : wi.cell? ⟨G, 2, none⟩ = some (.func (.func F) #[] #[]) := (blk_cell T.out.top 2).trans rfl
      have hk2 := HKK.out
      obtain ⟨k2, rfl⟩ : ∃ m, gk = m + 1 := ⟨gk - 1, by have := HM.out; omega⟩
      by_cases hkn : kk < hs.length ∧ kk < 2 * i' + 3
      · obtain ⟨hkn, hk3⟩ := hkn
        · have hll := HLL.out
          obtain ⟨a0, a1, a2, a3⟩ := T.out.cells l (by omega)
          obtain ⟨b0, b1, b2, b3⟩ := T.out.cells kk (by omega)
          have cF := fun w => CF.out (g z27 h' l) (g z27 h' kk) w (T.out.dom _ (Plain.g_mem _ _ _ (by omega))) (T.out.dom _ (Plain.g_mem _ _ _ (by omega)))
          unfold hitV at cF
          generalize hlq : lt (g z27 h' l) (g z27 h' kk) = q at cF
          have HQ := Aside0.mk hlq
          clear hlq
          have d1 : decide ((kk : Int) < (hs.length : Int)) = true := decide_eq_true (by omega)
          have d2 : decide ((kk : Int) < 2 * (i' : Int) + 3) = true := decide_eq_true (by omega)
          have lz : (l : Int) < (hs.length : Int) := by omega
          have l0 : (0 : Int) ≤ (l : Int) := by omega
          have kz : (kk : Int) < (hs.length : Int) := by omega
          have k0 : (0 : Int) ≤ (kk : Int) := by omega
          go_wp2
          all_goals
            go_region_held3 (fun w_ => w_.cell? ⟨G, 0, none⟩ = some (.slice (some ⟨b, 0, none⟩) hs.length cap) ∧ w_.cell? ⟨G, 2, none⟩ = some (.func (.func F) #[] #[]) ∧ w_.cell? ⟨b, l * 4, none⟩ = some (.string (g z27 h' l).f0) ∧ w_.cell? ⟨b, l * 4 + 1, none⟩ = some (.int .i64 (g z27 h' l).f1) ∧ w_.cell? ⟨b, l * 4 + 2, none⟩ = some (.int .u64 (g z27 h' l).f2.f0) ∧ w_.cell? ⟨b, l * 4 + 3, none⟩ = some (.int .u64 (g z27 h' l).f2.f1) ∧ w_.cell? ⟨b, kk * 4, none⟩ = some (.string (g z27 h' kk).f0) ∧ w_.cell? ⟨b, kk * 4 + 1, none⟩ = some (.int .i64 (g z27 h' kk).f1) ∧ w_.cell? ⟨b, kk * 4 + 2, none⟩ = some (.int .u64 (g z27 h' kk).f2.f0) ∧ w_.cell? ⟨b, kk * 4 + 3, none⟩ = some (.int .u64 (g z27 h' kk).f2.f1) ∧ Lays_ wi w_) (first | ((repeat' apply And.intro) <;> (first | assumption | exact Lays_.drew1 _ | go_keep)) | (go_split_ands; ((repeat' apply And.intro) <;> (first | assumption | exact pw_cell_below (Lays_.below hL) (by assumption) | exact Lays_.trans (by assumption) hL)))) (first | (go_at_fn F; refine (cF _).mono ?_; rintro e w' ⟨rfl, hL⟩))
            have hLW : Lays_ wi w' := (Lays_.drew1 wi).trans hL
            clear hL
            have T2 := Aside0.mk (T.out.step (Lays_.below hLW) HS.out)
            have HS2 := Aside0.mk (Nat.le_trans HS.out (Lays_.below hLW).size)
            have HN := Aside0.mk (lowAt_next lt h' i' kk l q hk2.1 hk3 HLE.out (by omega) HQ.out)
            clear hLW
            cases q
            all_goals
              go_wp2
              go_roundg k2
              case measure => omega
              case rel => exact ⟨_, kk + 1, by first | rfl | exact congrArg (Value.int .i64) (by simp), congrArg (Value.int .i64) (by omega), ⟨by have := HM.out; omega⟩, ⟨by omega⟩, ⟨by simp only [if_true, Bool.false_eq_true, if_false]; omega⟩, HN, T2, HS2⟩
      · have HEND := Aside0.mk (lowAt_end lt h' i' kk l hk2.1 hk2.2 HLE.out (by omega))
        have hex : (hs.length : Int) ≤ (kk : Int) ∨ 2 * (i' : Int) + 3 ≤ (kk : Int) := by omega
        have hll := HLL.out
        by_cases cl : l = i'
        · subst cl
          go_wp2
          all_goals
            refine bodyPost_ret (v := .tuple #[]) (by simp [results, Try.results39, go_sem]) rfl ?_
            exact ⟨rfl, by have := HE.out; rw [down, if_pos HEND.out.symm] at this; rw [← this]; exact T.out, HS.out⟩
        · have clz : ((l : Int) == (i' : Int)) = false := by simp; omega
          obtain ⟨a0, a1, a2, a3⟩ := T.out.cells l (by omega)
          obtain ⟨b0, b1, b2, b3⟩ := T.out.cells i' (by omega)
          have fz := fun j => T.out.free (by omega) j
          have lz : (l : Int) < (hs.length : Int) := by omega
          have l0 : (0 : Int) ≤ (l : Int) := by omega
          have kz : (i' : Int) < (hs.length : Int) := by omega
          have k0 : (0 : Int) ≤ (i' : Int) := by omega
          go_wp2
          all_goals
            go_big_region
            have T2 := Aside0.mk (T.out.sw i' l (by omega) (by omega)).drew
            rw [HEND.out] at T2
            have HE2 := HE.out
            rw [down, if_neg (by rw [← HEND.out]; exact cl), ← HEND.out] at HE2
            rw [← HEND.out] at T2
            have HE3 := Aside0.mk HE2
            clear HE2 a0 a1 a2 a3 b0 b1 b2 b3 fz clz
            go_wp2
            go_roundg kj
            case measure => omega
            case rel => exact ⟨l, sw z27 h' i' l, rfl, ⟨by rw [Plain.sw_length]; exact hl⟩, ⟨by have := HK.out; have := (low_or_ HEND.out cl); omega⟩, ⟨hll⟩, HE3, T2, ⟨by have := HS.out; simpa [Go.Deep.nblk_setCell] using this⟩⟩

end Go.Proofs.Ytkdbfeapfcflmaa.T
