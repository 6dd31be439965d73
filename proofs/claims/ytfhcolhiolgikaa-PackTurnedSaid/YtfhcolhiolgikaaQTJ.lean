import Derived.Test.YtfhcolhiolgikaaQTV
import Derived.WalkSpells
import Derived.Test.YtfhcolhiolgikaaProg
import Derived.Below
import Derived.Deep.Draws
import Derived.Deep.AppendLies
import Derived.Maps.AppendAt
import Derived.OwnWalk
import Derived.Laws.BytesArg
import Derived.Laws.MakeOwn
import Derived.Laws.OwnMore
import Derived.Deep.OwnRows
import Derived.Tactics
import Derived.Lib.ConvBytes
import Derived.Laws.Slices
import Derived.WalkKit
import Derived.KernelRfl
import Derived.RowKit3
import Derived.Deep.LoopGhost
import Derived.Deep.QuietTactic
import Derived.BigQuiet
import Derived.WideLaws
import Derived.Deep.DeepCutAuto
import Derived.Deep.CutBlock
import Derived.Deep.RegionHeld3
import Derived.Laws.Rows
import Derived.Lib.AppendStr
import Derived.ArgAppend
import Derived.Laws.IdiomCopy
import Derived.OrdersHeld
import Derived.Laws.BitsLemmas
import Derived.RowKit
import Derived.Test.YtfhcolhiolgikaaQTA
import Derived.Test.YtfhcolhiolgikaaSh
/- Texts of this claim, laid together by a program (merge.py): Cc. -/
/- Written by hp.py, this session's own program, out of the translation of this seat: Lean functions for the Go functions, and the proof that each call comes to what its Lean function says. -/
namespace Go.Proofs.Ytfhcolhiolgikaa.T
open Go.RowKit Go.Proofs.YtfhcolhiolgikaaW.PrintWords Go.Proofs.YtfhcolhiolgikaaW.PrintLast Go.Proofs.YtfhcolhiolgikaaW.PrintMore
attribute [local go_sem] max2_int min2_int max_two min_two max_three min_three max_four min_four   -- for this text's walks alone
set_option linter.unusedVariables false
set_option linter.unusedSimpArgs false
/-! ### slices.Grow at nil (function 33), slices.Concat (function 17), by hand: KD=(Kd.int .i64) (element type 3, slice type 23, rows type 67) -/
theorem size_zeroCells_ (zs : Array Value) (n : Nat) : (Builtin.zeroCells zs n).size = n * zs.size := by
 first | exact Builtin.size_zeroCells zs n | (unfold Builtin.zeroCells; simp)
theorem grow_nil (n : Nat) (w : World) (hn : n * 8 ≤ 140737488355328) :
  Calls Try.prog 33 #[.slice none 0 0, .int .i64 n] w fun e w' => ∃ v, e = .returned v ∧ Kd.R (Kd.int .i64) 3 w' w.heap.size (fun _ => True) v [] ∧ Below w.heap.size w w' := by
 rcases Nat.eq_zero_or_pos n with h0 | hp
 ·
  subst h0
  have hc := Any8.slices_Grow_room Try.laysGrow none 0 0 0 w (Nat.le_refl _) (by omega) (by omega) (by omega)
  change Calls Try.prog 33 _ w _ at hc
  refine hc.mono ?_
  rintro e w' ⟨rfl, rfl⟩
  exact ⟨_, rfl, Kd.R_nil _ _ _ _ _, Below.refl _ _⟩
 ·
  obtain ⟨i0, hi, hz⟩ := Option.map_eq_some_iff.1 info3
  simp only [Prod.mk.injEq] at hz
  obtain ⟨hz0, hz1, hz2⟩ := hz
  have hc := Any8.slices_Grow_grow Try.laysGrow i0 (.int .i64 0) hi hz0 (by omega) none 0 0 n [] w (Nat.le_refl _) (by omega) (by rw [hz2]; omega) (by omega) (by simp) (fun _ => rfl) (fun a ha => by cases ha)
  change Calls Try.prog 33 _ w _ at hc
  refine hc.mono ?_
  rintro e w' ⟨rfl, rfl⟩
  have hG : grownCap w (0 + n) 0 3 ≤ maxLen := grownCap_le_maxLen w _ _ _ (by unfold maxLen; omega)
  have hG2 : 0 + n ≤ grownCap w (0 + n) 0 3 := grownCap_ge w _ _ _
  refine ⟨_, rfl, ⟨fun _ _ => trivial, [], ⟨by simp, .inr ⟨w.heap.size, _, _, rfl, Nat.le_refl _, blk_new w.drew _, Nat.zero_le _, hG, ?_, by simp⟩⟩, Reps.none _ _⟩, below_alloc (below_drew (Below.refl _ _)) _⟩
  rw [Array.size_append, Array.size_append, size_zeroCells_, size_zeroCells_]
  have hs : (Value.cells (.int .i64 0)).size = 1 := rfl
  rw [hs]
  show 0 + (0 + n - 0) * 1 + (grownCap w (0 + n) 0 3 - (0 + n)) * 1 = grownCap w (0 + n) 0 3 * 1
  omega
def slices_Concat_int.f (ls : List (List Int)) : Option (List Int) := if ls.flatten.length * 8 ≤ 140737488355328 then some ls.flatten else none
theorem sum_drop_ {β : Type} (ls : List (List β)) (i : Nat) (hi : i < ls.length) : (ls.take (i + 1)).flatten = (ls.take i).flatten ++ ls.getD i [] := by
 rw [List.take_succ_eq_append_getElem hi, List.flatten_append, List.getD_eq_getElem?_getD, List.getElem?_eq_getElem hi]
 simp
theorem flat_take_le {β : Type} (ls : List (List β)) (i : Nat) : (ls.take i).flatten.length ≤ ls.flatten.length := by
 conv => rhs; rw [← List.take_append_drop i ls, List.flatten_append, List.length_append]
 omega
set_option maxHeartbeats 4000000 in
set_option maxRecDepth 100000 in
theorem slices_Concat_int.calls (A0 : Option Addr) (c0 : Nat) (l0 : List (List Int)) (r : List Int) (w : World) (hr0 : Kd.C (Kd.slice 3 (Kd.int .i64)) w A0 l0.length l0) (hc0 : l0.length ≤ c0) (h : slices_Concat_int.f l0 = some r) :
  Calls Try.prog 17 #[.slice A0 l0.length c0] w fun e w' => ∃ v0_ : Value, e = .returned (v0_) ∧ Kd.R (Kd.int .i64) 3 w' w.heap.size (fun _ => True) v0_ r ∧ Below w.heap.size w w' := by
 unfold slices_Concat_int.f at h
 by_cases hl : l0.flatten.length * 8 ≤ 140737488355328
 ·
  rw [if_pos hl] at h
  obtain rfl := Option.some.inj h
  have HR := Aside0.mk hr0
  have HL := Aside0.mk hl
  have hlm : l0.length ≤ 9223372036854775807 := hr0.2.1
  clear h hr0 hl
  go_enter Try.func17, Try.ntmps17
  go_wp2
  go_loopg [3, 11] l0.length (fun kq v3 v11 w' => ∃ (i : Nat) (q : Nat), v11 = .int .i64 (i : Int) ∧ v3 = .int .i64 (q : Int) ∧ Aside0 (l0.length ≤ kq + i) ∧ Aside0 (i ≤ l0.length) ∧ Aside0 (q = (l0.take i).flatten.length) ∧ w' = w)
  case atStart => exact ⟨0, 0, rfl, rfl, ⟨Nat.le_refl _⟩, ⟨Nat.zero_le _⟩, ⟨rfl⟩, rfl⟩
  case round =>
   obtain ⟨i, q, rfl, rfl, HK, HI, HQ, rfl⟩ := hrel
   by_cases hlt : i < l0.length
   ·
    obtain ⟨kj, rfl⟩ : ∃ m, gk = m + 1 := ⟨gk - 1, by have := HK.out; omega⟩
    have d1 : decide ((i : Int) < (l0.length : Int)) = true := decide_eq_true (by omega)
    obtain ⟨ad, A1, c1, e1, g0, g1, g2⟩ := at_L3 HR.out (i : Int) (by omega) (by omega)
    subst e1
    rw [Int.toNat_natCast] at g0
    have hs := sum_drop_ l0 i hlt
    have hle := flat_take_le l0 (i + 1)
    have hrd : rd_L3 l0 (i : Int) = l0.getD i [] := by unfold rd_L3; rw [Int.toNat_natCast]
    rw [← hrd] at hs
    have hsl : (l0.take (i + 1)).flatten.length = q + (rd_L3 l0 (i : Int)).length := by rw [hs, List.length_append, ← HQ.out]
    generalize rd_L3 l0 (i : Int) = x at g0 g1 g2 hsl
    have hb : q + x.length ≤ 140737488355328 := by have := HL.out; omega
    have HSL := Aside0.mk hsl
    have d2 : decide ((q : Int) + (x.length : Int) < 0) = false := decide_eq_false (by omega)
    clear hsl hs hrd hle g2
    go_wp2
    go_roundg kj
    case measure => omega
    case rel => exact ⟨i + 1, q + x.length, congrArg (Value.int .i64) (by omega), congrArg (Value.int .i64) (by omega), ⟨by have := HK.out; omega⟩, ⟨by omega⟩, ⟨HSL.out.symm⟩, rfl⟩
   ·
    have d1 : decide ((i : Int) < (l0.length : Int)) = false := decide_eq_false (by omega)
    have ei : i = l0.length := by have := HI.out; omega
    subst ei
    have eq : q = l0.flatten.length := by rw [HQ.out, List.take_length]
    have EQ := Aside0.mk eq
    clear eq HQ HI HK
    go_wp2_with (first | (go_at_call 33; (refine (grow_nil q _ (by rw [EQ.out]; exact HL.out)).mono ?_); rintro e w1 ⟨v, rfl, hR, hB⟩; have HO := Aside0.mk hR; have HB := Aside0.mk hB; clear hR hB; obtain ⟨Av, cv, ev⟩ := Kd.R_slice HO.out; subst ev))
    obtain ⟨wq, rfl⟩ : ∃ wq : World, wq = wr := ⟨_, rfl⟩
    go_loopg [6, 27] l0.length (fun kq v6 v27 w' => ∃ (i : Nat), v27 = .int .i64 (i : Int) ∧ Aside0 (l0.length ≤ kq + i) ∧ Aside0 (i ≤ l0.length) ∧ Aside0 (Kd.R (Kd.int .i64) 3 w' wq.heap.size (fun _ => True) v6 (l0.take i).flatten) ∧ Aside0 (Below wq.heap.size wq w'))
    case atStart => exact ⟨0, rfl, ⟨Nat.le_refl _⟩, ⟨Nat.zero_le _⟩, HO, HB⟩
    case round =>
     clear HO HB
     obtain ⟨i, rfl, HK, HI, HO, HB⟩ := hrel
     by_cases hlt : i < l0.length
     ·
      obtain ⟨kj, rfl⟩ : ∃ m, gk = m + 1 := ⟨gk - 1, by have := HK.out; omega⟩
      have d1 : decide ((i : Int) < (l0.length : Int)) = true := decide_eq_true (by omega)
      obtain ⟨ad, A1, c1, e1, g0, g1, g2⟩ := at_L3 (Kd.C_below HR.out HB.out) (i : Int) (by omega) (by omega)
      subst e1
      rw [Int.toNat_natCast] at g0
      have hs := sum_drop_ l0 i hlt
      have hle := flat_take_le l0 (i + 1)
      have hrd : rd_L3 l0 (i : Int) = l0.getD i [] := by unfold rd_L3; rw [Int.toNat_natCast]
      rw [← hrd] at hs
      generalize rd_L3 l0 (i : Int) = x at g0 g1 g2 hs
      have HSL := Aside0.mk hs
      have HX := Aside0.mk g2
      have hb : (l0.take i).flatten.length + x.length ≤ l0.flatten.length := by rw [← List.length_append, ← hs]; exact hle
      have HBD := Aside0.mk hb
      clear hs hrd hle g2 hb
      obtain ⟨Av, cv, ev⟩ := Kd.R_slice HO.out
      subst ev
      go_wp2_with (first | ((with_reducible refine gate_builtin (b := .append) (xs := #[.tmp 31, .tmp 32]) rfl ?_); at_builtin; refine Kd.R_append_rows (Kd.int .i64) (w0 := wq) wq.heap.size rfl (.tmp 31) (.tmp 32) 23 3 (.int .i64 0) 8 rfl Try.underlying23 info3 rfl (by decide) (by omega) (.slice Av (l0.take i).flatten.length cv) (l0.take i).flatten x _ _ _ (fun _ => True) (fun _ => False) rfl rfl HO.out HX.out (fun _ _ h => h) (fun _ h => h.elim) (fun _ _ => trivial) HB.out (below_size HB.out) (by have := HBD.out; have := HL.out; omega) ?_; intro v1 w1 ho hb hg hat; clear hg hat; have HO2 := Aside0.mk ho; have HB2 := Aside0.mk hb; clear ho hb))
      go_roundg kj
      case measure => omega
      case rel => exact ⟨i + 1, congrArg (Value.int .i64) (by omega), ⟨by have := HK.out; omega⟩, ⟨by omega⟩, ⟨by rw [HSL.out]; exact HO2.out⟩, HB2⟩
     ·
      have d1 : decide ((i : Int) < (l0.length : Int)) = false := decide_eq_false (by omega)
      have ei : i = l0.length := by have := HI.out; omega
      subst ei
      go_wp2
      go_ret
      exact ⟨_, rfl, by have := HO.out; rwa [List.take_length] at this, HB.out⟩
 ·
  rw [if_neg hl] at h
  exact absurd h (by simp)

end Go.Proofs.Ytfhcolhiolgikaa.T
