/- Written by hp.py, this session's own program, out of the translation of this seat: Lean functions for the Go functions, and the proof that each call comes to what its Lean function says. -/
import Derived.Test.YtkdbfeapfcflmaaProg
import Derived.Below
import Derived.Shelf.GgSortFunc.InsertionK
import Derived.Shelf.GgSortFunc.Insertion
import Derived.Deep.Draws
import Derived.Deep.AppendLies
import Derived.Maps.AppendAt
import Derived.OwnWalk
import Derived.Laws.BytesArg
import Derived.Laws.MakeOwn
import Derived.Laws.OwnMore
import Derived.Deep.OwnRows
import Derived.Tactics
import Derived.Lib.ConvBytes
import Derived.Laws.Slices
import Derived.WalkKit
import Derived.KernelRfl
import Derived.RowKit3
import Derived.Deep.LoopGhost
import Derived.Deep.QuietTactic
import Derived.BigQuiet
import Derived.WideLaws
import Derived.Deep.DeepCutAuto
import Derived.Deep.CutBlock
import Derived.Deep.RegionHeld3
import Derived.Laws.Rows
import Derived.Lib.AppendStr
import Derived.ArgAppend
import Derived.Laws.IdiomCopy
import Derived.OrdersHeld
import Derived.Laws.BitsLemmas
import Derived.RowKit
import Derived.Test.YtkdbfeapfcflmaaWWords
import Derived.Test.YtkdbfeapfcflmaaWLast
import Derived.Test.YtkdbfeapfcflmaaWTab
import Derived.Test.YtkdbfeapfcflmaaWFour
import Derived.Test.YtkdbfeapfcflmaaWQPut
import Derived.Test.YtkdbfeapfcflmaaWApart
import Derived.Test.YtkdbfeapfcflmaaWArr
import Derived.Test.YtkdbfeapfcflmaaWZeros
import Derived.Test.YtkdbfeapfcflmaaWFoot
import Derived.Test.YtkdbfeapfcflmaaWKept
import Derived.Test.YtkdbfeapfcflmaaWShare
import Derived.Test.YtkdbfeapfcflmaaWN
import Derived.Test.YtkdbfeapfcflmaaWFootNe
import Derived.Test.YtkdbfeapfcflmaaWAt
import Derived.Test.YtkdbfeapfcflmaaWEqStruct
import Derived.Test.YtkdbfeapfcflmaaWRepsOne
import Derived.Test.YtkdbfeapfcflmaaWInv
import Derived.Test.YtkdbfeapfcflmaaWInvWords
import Derived.Test.YtkdbfeapfcflmaaWGuard
import Derived.Test.YtkdbfeapfcflmaaWNEv
import Derived.Test.YtkdbfeapfcflmaaWMore
import Derived.Test.YtkdbfeapfcflmaaTx0
namespace Go.Proofs.Ytkdbfeapfcflmaa.T
open Go.RowKit Go.Proofs.YtkdbfeapfcflmaaW.PrintWords Go.Proofs.YtkdbfeapfcflmaaW.PrintLast Go.Proofs.YtkdbfeapfcflmaaW.PrintMore
attribute [local go_sem] max2_int min2_int max_two min_two max_three min_three max_four min_four   -- for this text's walks alone
set_option linter.unusedVariables false
set_option linter.unusedSimpArgs false
/-! ### a row of one's own, sorted by the shelf's slices.SortFunc -/
section
open Go.Sort
variable {α β : Type} [Inhabited α] {enc : α → Value} {W : World} {blk m : Nat} {dk : Array α} {os : Array Obj}
theorem sw_other {k : Nat} (hk : k ≠ blk) (hlt : k < W.heap.size) (off : Nat) : (sortWorld enc W blk off m dk os).heap[k]? = W.heap[k]? := by
  unfold sortWorld grow putRow mapBlock
  simp only [Sort.ahead]
  rw [Array.getElem?_append_left (by simpa using hlt), Array.getElem?_modify, if_neg (fun h => hk h.symm)]
theorem sw_same {cur : Array Value} {e : TypeId} {fr : Nat × Nat} (off : Nat) (h : W.heap[blk]? = some (.cells cur e fr)) : (sortWorld enc W blk off m dk os).heap[blk]? = some (.cells (putCells enc off dk cur) e fr) := by
  unfold sortWorld grow putRow mapBlock
  simp only [Sort.ahead]
  have hlt : blk < W.heap.size := blk_lt h
  rw [Array.getElem?_append_left (by simpa using hlt), Array.getElem?_modify, if_pos rfl, h]
  rfl
theorem sw_below {B : Nat} {w : World} (off : Nat) (h : Below B w W) (hB : B ≤ blk) (hs : B ≤ W.heap.size) : Below B w (sortWorld enc W blk off m dk os) :=
  ⟨h.os, h.tape, h.output, Nat.le_trans h.size (by simp [sortWorld, grow, putRow, mapBlock, Sort.ahead]), fun k hk => (sw_other (by omega) (by omega) off).trans (h.block k hk)⟩
variable {encb : β → Value} {h1 : ∀ x, (encb x).oneCell' = true} {f : α → β} {e base N cap : Nat} {ok : Nat → Prop} {xs : List β}
theorem sw_holds (HO : (Kd.scalar encb h1).R e W base ok (.slice (some ⟨blk, 0, none⟩) N cap) xs) (d : Array α) (hx : xs = d.toList.map f) (he : ∀ x, enc x = encb (f x)) : Holds enc W blk 0 d := by
  intro j hj
  have hN := (Kd.R_reads' HO).1
  have hl : xs.length = d.size := by rw [hx]; simp
  subst hN
  have hc := Kd.R_cell (f default) HO (j : Int) (by omega) (by omega)
  rw [Int.toNat_natCast] at hc
  rw [Nat.zero_add]
  refine ⟨hc.1.trans ?_, hc.2⟩
  rw [he]
  congr 2
  simp [rdOf, hx, hj, List.getD_eq_getElem?_getD]
theorem sw_row (HO : (Kd.scalar encb h1).R e W base ok (.slice (some ⟨blk, 0, none⟩) N cap) xs) (hs : dk.size = N) (he : ∀ x, enc x = encb (f x)) : (Kd.scalar encb h1).R e (sortWorld enc W blk 0 m dk os) base ok (.slice (some ⟨blk, 0, none⟩) N cap) (dk.toList.map f) := by
  have hown := Kd.own_of_R HO
  have hN := (Kd.R_reads' HO).1
  rcases hown.2 with ⟨hv, _⟩ | ⟨g', cap', cur, hv, hb, hh, hnc, hcm, hcs, htake⟩
  · cases hv
  injection hv with ha _ hc
  injection ha with ha
  injection ha with hg'
  subst hg'; subst hc
  have hl : (dk.toList.map f).length = N := by simp [hs]
  refine Kd.R_of_own ?_ HO.1
  rw [hl]
  refine ⟨by rw [encs_length, hl, Nat.mul_one], .inr ⟨blk, cap, _, rfl, hb, sw_same 0 hh, by omega, hcm, by simp [putCells, hcs], ?_⟩⟩
  apply List.ext_getElem?
  intro j
  rw [Nat.mul_one, List.getElem?_take]
  by_cases hj : j < N
  · rw [if_pos hj]
    have hjc : j < cur.size := by omega
    simp only [putCells, encs, Array.getElem?_toList, Array.getElem?_mapIdx, List.getElem?_map]
    rw [Array.getElem?_eq_getElem hjc, Array.getElem?_eq_getElem (by omega)]
    simp only [Option.map_some, Nat.zero_add, Nat.sub_zero]
    rw [if_pos ⟨Nat.zero_le _, by omega⟩, he, getElem!_pos dk j (by omega)]
  · rw [if_neg hj, List.getElem?_eq_none (by rw [encs_length, hl]; omega)]
end
/-! ### a row of one's own, of elements of several plain cells, sorted by the shelf's slices.SortFunc -/
section
open Go.Sort
theorem sortWorldK_flat {α : Type} [Inhabited α] (enc : α → List Value) (k : Nat) (W : World) (blk m : Nat) (dk : Array α) (os : Array Obj) : sortWorldK enc k W blk 0 m dk os = sortWorld id W blk 0 m (flatK enc k dk) os := rfl
theorem reps_at {β : Type} {R : β → List Value → Prop} {k : Nat} {xs : List β} {inner : List Value} {enc : β → List Value} (h : Reps R k xs inner) (hR : ∀ x cs, R x cs → cs = enc x) (t : Nat) (x : β) (hx : xs[t / k]? = some x) (hk : 0 < k) : inner[t]? = (enc x)[t % k]? := by
  have h1 := hR _ _ (h.2 (t / k) x hx)
  rw [← h1, List.getElem?_take, if_pos (Nat.mod_lt _ hk), List.getElem?_drop]
  congr 1
  have := Nat.div_add_mod t k
  rw [Nat.mul_comm] at this
  omega
variable {α β : Type} [Inhabited α] {d : Kd β} {enc : α → List Value} {encb : β → List Value} {W : World} {blk m e base N cap : Nat} {ok : Nat → Prop} {xs : List β} {f : α → β} {dk : Array α} {os : Array Obj}
theorem swk_holds (HO : d.R e W base ok (.slice (some ⟨blk, 0, none⟩) N cap) xs) (hk : 0 < d.sz) (hM : ∀ w base ok x cs, d.M w base ok x cs → cs = encb x) (hl : ∀ x, (encb x).length = d.sz) (dd : Array α) (hx : xs = dd.toList.map f) (he : ∀ x, enc x = encb (f x)) : HoldsK enc d.sz W blk 0 dd := by
  intro t ht
  obtain ⟨_, inner, ho, hr⟩ := HO
  rw [size_flatK] at ht
  have hlen : xs.length = dd.size := by rw [hx]; simp
  rcases ho.2 with ⟨hv, _⟩ | ⟨g', cap', cur, hv, hb, hh, hnc, hcm, hcs, htake⟩
  · cases hv
  injection hv with ha hn hc
  injection ha with ha
  injection ha with hg'
  subst hg'; subst hc
  have hin : inner[t]? = cur[t]? := by
    rw [← htake, List.getElem?_take, if_pos (by rw [hlen]; exact ht), Array.getElem?_toList]
  have hdiv : t / d.sz < dd.size := Nat.div_lt_of_lt_mul (by rw [Nat.mul_comm]; exact ht)
  have hxe : xs[t / d.sz]? = some (f dd[t / d.sz]!) := by
    rw [hx, List.getElem?_map, Array.getElem?_toList, getElem!_pos dd _ hdiv, Array.getElem?_eq_getElem hdiv]
    rfl
  have h2 := reps_at hr (fun x cs hc => hM _ _ _ x cs hc) t _ hxe hk
  have hlt : t % d.sz < (encb (f dd[t / d.sz]!)).length := by rw [hl]; exact Nat.mod_lt _ hk
  refine ⟨?_, blk_frozen hh _⟩
  rw [Nat.zero_add, blk_cell hh, ← hin, h2, get_flatK _ _ _ _ ht, he]
  rw [List.getElem?_eq_getElem hlt]
  simp [hlt]
theorem swk_row (HO : d.R e W base ok (.slice (some ⟨blk, 0, none⟩) N cap) xs) (hk : 0 < d.sz) (hM : ∀ w base ok x cs, d.M w base ok x cs ↔ cs = encb x) (hl : ∀ x, (encb x).length = d.sz) (hs : dk.size = N) (he : ∀ x, enc x = encb (f x)) : d.R e (sortWorldK enc d.sz W blk 0 m dk os) base ok (.slice (some ⟨blk, 0, none⟩) N cap) (dk.toList.map f) := by
  obtain ⟨h0, inner, ho, hr⟩ := HO
  have hlen : (dk.toList.map f).length = N := by simp [hs]
  have hN : N = xs.length := by
    rcases ho.2 with ⟨hv, _⟩ | ⟨g', cap', cur, hv, _⟩
    · cases hv
    · injection hv
  rcases ho.2 with ⟨hv, _⟩ | ⟨g', cap', cur, hv, hb, hh, hnc, hcm, hcs, htake⟩
  · cases hv
  injection hv with ha hn hc
  injection ha with ha
  injection ha with hg'
  subst hg'; subst hc
  rw [← hN] at hnc htake
  refine ⟨h0, (putCells id 0 (flatK enc d.sz dk) cur).toList.take (N * d.sz), ?_, ?_⟩
  · rw [hlen]
    have hsz : (putCells id 0 (flatK enc d.sz dk) cur).size = cap * d.sz := by simp [putCells, hcs]
    have hle : N * d.sz ≤ cap * d.sz := Nat.mul_le_mul_right _ hnc
    refine ⟨?_, .inr ⟨blk, cap, _, rfl, hb, ?_, hnc, hcm, hsz, rfl⟩⟩
    · rw [List.length_take, Array.length_toList, hsz]
      omega
    · rw [sortWorldK_flat]
      exact sw_same 0 hh
  · have hsz : (putCells id 0 (flatK enc d.sz dk) cur).size = cap * d.sz := by simp [putCells, hcs]
    have hle : N * d.sz ≤ cap * d.sz := Nat.mul_le_mul_right _ hnc
    refine ⟨by rw [List.length_take, Array.length_toList, hsz, hlen]; omega, fun j p hp => ?_⟩
    rw [hM]
    have hj : j < dk.size := by have := (List.getElem?_eq_some_iff.1 hp).1; simpa using this
    have hpe : p = f dk[j]! := by
      rw [List.getElem?_map, Array.getElem?_toList, Array.getElem?_eq_getElem hj] at hp
      rw [getElem!_pos dk j hj]
      simpa using hp.symm
    subst hpe
    have hjk : j * d.sz + d.sz ≤ N * d.sz := by
      have := Nat.mul_le_mul_right d.sz (show j + 1 ≤ N by omega)
      rwa [Nat.add_mul, Nat.one_mul] at this
    apply List.ext_getElem?
    intro i
    rw [List.getElem?_take]
    by_cases hi : i < d.sz
    · rw [if_pos hi, List.getElem?_drop, List.getElem?_take, if_pos (by omega), Array.getElem?_toList]
      have ht : j * d.sz + i < dk.size * d.sz := by rw [hs]; omega
      have e1 : (j * d.sz + i) / d.sz = j := (blk_iff d.sz j _ hk).1 ⟨by omega, by omega⟩
      have e2 : (j * d.sz + i) % d.sz = i := by rw [Nat.mod_eq_sub_div_mul, e1]; omega
      have hcl : j * d.sz + i < cur.size := by omega
      have hil : i < (encb (f dk[j]!)).length := by rw [hl]; exact hi
      simp only [putCells, Array.getElem?_mapIdx, Array.getElem?_eq_getElem hcl, Option.map_some]
      rw [if_pos ⟨Nat.zero_le _, by rw [size_flatK]; omega⟩, Nat.sub_zero, get_flatK _ _ _ _ ht, e1, e2, he, List.getElem?_eq_getElem hil]
      simp [hil]
    · rw [if_neg hi, List.getElem?_eq_none (by rw [hl]; omega)]
end

end Go.Proofs.Ytkdbfeapfcflmaa.T
