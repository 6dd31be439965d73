/- Written by hp.py, this session's own program, out of the translation of this seat: Lean functions for the Go functions, and the proof that each call comes to what its Lean function says. -/
import Derived.Test.YtldojbonaecngaaProg
import Derived.Below
import Derived.Deep.Draws
import Derived.Deep.AppendLies
import Derived.Maps.AppendAt
import Derived.OwnWalk
import Derived.Laws.BytesArg
import Derived.Laws.MakeOwn
import Derived.Laws.OwnMore
import Derived.Deep.OwnRows
import Derived.Tactics
import Derived.Lib.ConvBytes
import Derived.Laws.Slices
import Derived.WalkKit
import Derived.KernelRfl
import Derived.RowKit3
import Derived.Deep.LoopGhost
import Derived.Deep.QuietTactic
import Derived.BigQuiet
import Derived.WideLaws
import Derived.Deep.DeepCutAuto
import Derived.Deep.CutBlock
import Derived.Deep.RegionHeld3
import Derived.Laws.Rows
import Derived.Lib.AppendStr
import Derived.ArgAppend
import Derived.Laws.IdiomCopy
import Derived.OrdersHeld
import Derived.Laws.BitsLemmas
import Derived.RowKit
import Derived.Test.YtldojbonaecngaaWWords
import Derived.Test.YtldojbonaecngaaWLast
import Derived.Test.YtldojbonaecngaaWTab
import Derived.Test.YtldojbonaecngaaWFour
import Derived.Test.YtldojbonaecngaaWQPut
import Derived.Test.YtldojbonaecngaaWApart
import Derived.Test.YtldojbonaecngaaWArr
import Derived.Test.YtldojbonaecngaaWZeros
import Derived.Test.YtldojbonaecngaaWFoot
import Derived.Test.YtldojbonaecngaaWKept
import Derived.Test.YtldojbonaecngaaWShare
import Derived.Test.YtldojbonaecngaaWN
import Derived.Test.YtldojbonaecngaaWFootNe
import Derived.Test.YtldojbonaecngaaWAt
import Derived.Test.YtldojbonaecngaaWEqStruct
import Derived.Test.YtldojbonaecngaaWRepsOne
import Derived.Test.YtldojbonaecngaaWInv
import Derived.Test.YtldojbonaecngaaWInvWords
import Derived.Test.YtldojbonaecngaaWGuard
import Derived.Test.YtldojbonaecngaaWNEv
import Derived.Test.YtldojbonaecngaaWMore
import Derived.Test.YtldojbonaecngaaTx0
import Derived.Test.YtldojbonaecngaaSh
namespace Go.Proofs.Ytldojbonaecngaa.T
open Go.RowKit Go.Proofs.YtldojbonaecngaaW.PrintWords Go.Proofs.YtldojbonaecngaaW.PrintLast Go.Proofs.YtldojbonaecngaaW.PrintMore
attribute [local go_sem] max2_int min2_int max_two min_two max_three min_three max_four min_four   -- for this text's walks alone
set_option linter.unusedVariables false
set_option linter.unusedSimpArgs false
/-! ### a row of one's own, sorted by the shelf's slices.SortFunc -/
section
open Go.Sort
variable {α β : Type} [Inhabited α] {enc : α → Value} {W : World} {blk m : Nat} {dk : Array α} {os : Array Obj}
theorem sw_other {k : Nat} (hk : k ≠ blk) (hlt : k < W.heap.size) (off : Nat) : (sortWorld enc W blk off m dk os).heap[k]? = W.heap[k]? := by
  unfold sortWorld grow putRow mapBlock
  simp only [Sort.ahead]
  rw [Array.getElem?_append_left (by simpa using hlt), Array.getElem?_modify, if_neg (fun h => hk h.symm)]
theorem sw_same {cur : Array Value} {e : TypeId} {fr : Nat × Nat} (off : Nat) (h : W.heap[blk]? = some (.cells cur e fr)) : (sortWorld enc W blk off m dk os).heap[blk]? = some (.cells (putCells enc off dk cur) e fr) := by
  unfold sortWorld grow putRow mapBlock
  simp only [Sort.ahead]
  have hlt : blk < W.heap.size := blk_lt h
  rw [Array.getElem?_append_left (by simpa using hlt), Array.getElem?_modify, if_pos rfl, h]
  rfl
theorem sw_below {B : Nat} {w : World} (off : Nat) (h : Below B w W) (hB : B ≤ blk) (hs : B ≤ W.heap.size) : Below B w (sortWorld enc W blk off m dk os) :=
  ⟨h.os, h.tape, h.output, Nat.le_trans h.size (by simp [sortWorld, grow, putRow, mapBlock, Sort.ahead]), fun k hk => (sw_other (by omega) (by omega) off).trans (h.block k hk)⟩
variable {encb : β → Value} {h1 : ∀ x, (encb x).oneCell' = true} {f : α → β} {e base N cap : Nat} {ok : Nat → Prop} {xs : List β}
theorem sw_holds (HO : (Kd.scalar encb h1).R e W base ok (.slice (some ⟨blk, 0, none⟩) N cap) xs) (d : Array α) (hx : xs = d.toList.map f) (he : ∀ x, enc x = encb (f x)) : Holds enc W blk 0 d := by
  intro j hj
  have hN := (Kd.R_reads' HO).1
  have hl : xs.length = d.size := by rw [hx]; simp
  subst hN
  have hc := Kd.R_cell (f default) HO (j : Int) (by omega) (by omega)
  rw [Int.toNat_natCast] at hc
  rw [Nat.zero_add]
  refine ⟨hc.1.trans ?_, hc.2⟩
  rw [he]
  congr 2
  simp [rdOf, hx, hj, List.getD_eq_getElem?_getD]
theorem sw_row (HO : (Kd.scalar encb h1).R e W base ok (.slice (some ⟨blk, 0, none⟩) N cap) xs) (hs : dk.size = N) (he : ∀ x, enc x = encb (f x)) : (Kd.scalar encb h1).R e (sortWorld enc W blk 0 m dk os) base ok (.slice (some ⟨blk, 0, none⟩) N cap) (dk.toList.map f) := by
  have hown := Kd.own_of_R HO
  have hN := (Kd.R_reads' HO).1
  rcases hown.2 with ⟨hv, _⟩ | ⟨g', cap', cur, hv, hb, hh, hnc, hcm, hcs, htake⟩
  · cases hv
  injection hv with ha _ hc
  injection ha with ha
  injection ha with hg'
  subst hg'; subst hc
  have hl : (dk.toList.map f).length = N := by simp [hs]
  refine Kd.R_of_own ?_ HO.1
  rw [hl]
  refine ⟨by rw [encs_length, hl, Nat.mul_one], .inr ⟨blk, cap, _, rfl, hb, sw_same 0 hh, by omega, hcm, by simp [putCells, hcs], ?_⟩⟩
  apply List.ext_getElem?
  intro j
  rw [Nat.mul_one, List.getElem?_take]
  by_cases hj : j < N
  · rw [if_pos hj]
    have hjc : j < cur.size := by omega
    simp only [putCells, encs, Array.getElem?_toList, Array.getElem?_mapIdx, List.getElem?_map]
    rw [Array.getElem?_eq_getElem hjc, Array.getElem?_eq_getElem (by omega)]
    simp only [Option.map_some, Nat.zero_add, Nat.sub_zero]
    rw [if_pos ⟨Nat.zero_le _, by omega⟩, he, getElem!_pos dk j (by omega)]
  · rw [if_neg hj, List.getElem?_eq_none (by rw [encs_length, hl]; omega)]
end

end Go.Proofs.Ytldojbonaecngaa.T
