import Derived.Shelf.Slices.In.SortNone
import Derived.Lib.RowBridge
import Derived.Test.YtbbmdakdghefnaaGreatDoorSh
import Derived.Test.YtbbmdakdghefnaaGreatDoorQPA
/- Texts of this claim, laid together by a program (merge.py): St. -/
namespace Go.Proofs.YtbbmdakdghefnaaGreatDoor.T
open Go.RowKit Go.Proofs.YtbbmdakdghefnaaGreatDoorW.PrintWords Go.Proofs.YtbbmdakdghefnaaGreatDoorW.PrintLast Go.Proofs.YtbbmdakdghefnaaGreatDoorW.PrintMore
attribute [local go_sem] max2_int min2_int max_two min_two max_three min_three max_four min_four
set_option linter.unusedVariables false
set_option linter.unusedSimpArgs false
def sortWorld {α : Type} [Inhabited α] (enc : α → Value) (w : World) (blk off m : Nat) (dk : Array α) (os : Array Obj) : World := Go.Sort.grow (Go.Sort.putRow enc (Go.Sort.ahead w m) blk off dk) os
section
open Go.Sort
variable {α β : Type} [Inhabited α] {enc : α → Value} {W : World} {blk m : Nat} {dk : Array α} {os : Array Obj}
theorem sw_other {k : Nat} (hk : k ≠ blk) (hlt : k < W.heap.size) (off : Nat) : (sortWorld enc W blk off m dk os).heap[k]? = W.heap[k]? := by
 unfold sortWorld grow putRow mapBlock; simp only [Sort.ahead]; rw [Array.getElem?_append_left (by simpa using hlt), Array.getElem?_modify, if_neg (fun h => hk h.symm)]
theorem sw_same {cur : Array Value} {e : TypeId} {fr : Nat × Nat} (off : Nat) (h : W.heap[blk]? = some (.cells cur e fr)) : (sortWorld enc W blk off m dk os).heap[blk]? = some (.cells (putCells enc off dk cur) e fr) := by
 unfold sortWorld grow putRow mapBlock; simp only [Sort.ahead]; have hlt : blk < W.heap.size := blk_lt h; rw [Array.getElem?_append_left (by simpa using hlt), Array.getElem?_modify, if_pos rfl, h]
 rfl
theorem sw_below {B : Nat} {w : World} (off : Nat) (h : Below B w W) (hB : B ≤ blk) (hs : B ≤ W.heap.size) : Below B w (sortWorld enc W blk off m dk os) :=
 ⟨h.os, h.tape, h.output, Nat.le_trans h.size (by simp [sortWorld, grow, putRow, mapBlock, Sort.ahead]), fun k hk => (sw_other z161_ z161_ off).trans (h.block k hk)⟩
variable {encb : β → Value} {h1 : ∀ x, (encb x).oneCell' = true} {f : α → β} {e base N cap : Nat} {ok : Nat → Prop} {xs : List β}
theorem sw_holds (HO : (Kd.scalar encb h1).R e W base ok (.slice (some ⟨blk, 0, none⟩) N cap) xs) (d : Array α) (hx : xs = d.toList.map f) (he : ∀ x, enc x = encb (f x)) : Holds enc W blk 0 d := by
 intro j hj; have hN := (Kd.R_reads' HO).1
 have hl : xs.length = d.size := by rw [hx]; simp
 subst hN; have hc := Kd.R_cell (f default) HO (j : Int) z161_ z161_; rw [Int.toNat_natCast] at hc; rw [Nat.zero_add]; refine ⟨hc.1.trans ?_, hc.2⟩; rw [he]
 congr 2
 simp [rdOf, hx, hj, List.getD_eq_getElem?_getD]
theorem sw_row (HO : (Kd.scalar encb h1).R e W base ok (.slice (some ⟨blk, 0, none⟩) N cap) xs) (hs : dk.size = N) (he : ∀ x, enc x = encb (f x)) : (Kd.scalar encb h1).R e (sortWorld enc W blk 0 m dk os) base ok (.slice (some ⟨blk, 0, none⟩) N cap) (dk.toList.map f) := by
 have hown := Kd.own_of_R HO; have hN := (Kd.R_reads' HO).1
 rcases hown.2 with ⟨hv, _⟩ | ⟨g', cap', cur, hv, hb, hh, hnc, hcm, hcs, htake⟩
 · cases hv
 injection hv with ha _ hc
 injection ha with ha
 injection ha with hg'
 subst hg'; subst hc
 have hl : (dk.toList.map f).length = N := by simp [hs]
 refine Kd.R_of_own ?_ HO.1; rw [hl]; refine ⟨by rw [encs_length, hl, Nat.mul_one], .inr ⟨blk, cap, _, rfl, hb, sw_same 0 hh, z161_, hcm, by simp [putCells, hcs], ?_⟩⟩; apply List.ext_getElem?; intro j; rw [Nat.mul_one, List.getElem?_take]
 by_cases hj : j < N
 ·
  rw [if_pos hj]; have hjc : j < cur.size := z161_; simp only [putCells, encs, Array.getElem?_toList, Array.getElem?_mapIdx, List.getElem?_map]; rw [Array.getElem?_eq_getElem hjc, Array.getElem?_eq_getElem z161_]; simp only [Option.map_some, Nat.zero_add, Nat.sub_zero]; rw [if_pos ⟨Nat.zero_le _, z161_⟩, he, getElem!_pos dk j z161_]
 · rw [if_neg hj, List.getElem?_eq_none (by rw [encs_length, hl]; omega)]
end
def toB_ (l : List UInt8) : ByteArray := ⟨l.toArray⟩
def ofB_ (b : ByteArray) : List UInt8 := b.data.toList
theorem toB_ofB (b : ByteArray) : toB_ (ofB_ b) = b := by cases b; simp [toB_, ofB_]
def sortB (xs : List ByteArray) : List ByteArray := ((xs.map ofB_).mergeSort fun x y => decide (x ≤ y)).map toB_
def compB (xs : List ByteArray) : List ByteArray := (Lib.compact (xs.map ofB_)).map toB_
theorem sortB_length (xs : List ByteArray) : (sortB xs).length = xs.length := by simp [sortB]
theorem compB_length (xs : List ByteArray) : (compB xs).length = (Lib.compact (xs.map ofB_)).length := by simp [compB]
theorem R_take_s {α : Type} {enc : α → Value} {h1 : ∀ x, (enc x).oneCell' = true} {e : Nat} {w : World} {base : Nat} {ok : Nat → Prop} {A : Option Addr} {n c : Nat} {xs : List α} (h : (Kd.scalar enc h1).R e w base ok (.slice A n c) xs) (hA : A ≠ none) (m : Nat) (hm : m ≤ n) :
  (Kd.scalar enc h1).R e w base ok (.slice A m c) (xs.take m) := by
 have hown := Kd.own_of_R h; have hN := (Kd.R_reads' h).1; have hk := h.1
 rcases hown.2 with ⟨hv, _⟩ | ⟨g', cap', cur, hv, hb, hh, hnc, hcm, hcs, htake⟩
 ·
  injection hv with ha
  exact absurd ha hA
 injection hv with ha _ hc
 subst ha; subst hc; have hl : (xs.take m).length = m := z216_; refine Kd.R_of_own ?_ (fun k hk' => hk k hk'); rw [hl]; refine ⟨by rw [encs_length, hl, Nat.mul_one], .inr ⟨g', c, cur, rfl, hb, hh, z161_, hcm, hcs, ?_⟩⟩; rw [Nat.mul_one] at htake ⊢
 have : cur.toList.take m = (cur.toList.take xs.length).take m := by rw [List.take_take]; congr 1; omega
 rw [this, htake]; simp [encs]
theorem own_off_zero {α : Type} {enc : α → Value} {h1 : ∀ x, (enc x).oneCell' = true} {e : Nat} {w : World} {base : Nat} {ok : Nat → Prop} {ad : Addr} {n c : Nat} {xs : List α} (h : (Kd.scalar enc h1).R e w base ok (.slice (some ad) n c) xs) : ∃ b, ad = ⟨b, 0, none⟩ ∧ base ≤ b ∧ b < w.heap.size := by
 rcases (Kd.own_of_R h).2 with ⟨hv, _⟩ | ⟨g', cap', cur, hv, hb, hh, hnc, hcm, hcs, htake⟩
 · cases hv
 injection hv with ha _ hc
 injection ha with ha
 exact ⟨g', ha, hb, blk_lt hh⟩
theorem sort_calls (base : Nat) (ok : Nat → Prop) (A : Option Addr) (c : Nat) (xs : List ByteArray) (w0 w : World) (hl : xs.length < 4611686018427387904) (HO : Kd.R Kd.string 9 w base ok (.slice A xs.length c) xs) (HB : Below base w0 w) (hs : base ≤ w.heap.size) :
  Calls Tryz.prog 94 #[.slice A xs.length c] w fun e w' => e = .returned (.tuple #[]) ∧ Kd.R Kd.string 9 w' base ok (.slice A xs.length c) (sortB xs) ∧ Below base w0 w' := by
 cases A with
 | none =>
  have h0 : xs.length = 0 := by
   rcases (Kd.own_of_R HO).2 with ⟨hv, hn⟩ | ⟨g', cap', cur, hv, _⟩
   · injection hv
   · cases hv
  rw [h0]; refine (Any.slices_Sort_string_none Tryz.lays190 none c w).mono ?_; rintro e w' ⟨rfl, rfl⟩; have hx : xs = [] := List.eq_nil_of_length_eq_zero h0; subst hx; exact ⟨rfl, by rw [show sortB [] = [] from by simp [sortB]]; exact HO, HB⟩
 | some ad =>
  obtain ⟨b, rfl, hb1, hb2⟩ := own_off_zero HO; have hH : Sort.Holds encStr w b 0 (xs.map ofB_).toArray := sw_holds (f := toB_) HO (xs.map ofB_).toArray (by simp [List.map_map, Function.comp_def, toB_ofB]) (fun x => rfl); have hc := Any.slices_Sort_string Tryz.lays190 b 0 c (xs.map ofB_) w hH hb2 (by simpa using hl); rw [List.length_map] at hc; refine Calls.mono hc ?_; rintro e w' ⟨rfl, m, os, rfl⟩; have hr := sw_row (f := toB_) (m := m) (os := os) (dk := ((xs.map ofB_).mergeSort fun x y => decide (x ≤ y)).toArray) HO z219_ (fun x => rfl); exact ⟨rfl, hr, sw_below 0 HB hb1 hs⟩
theorem compact_calls (base : Nat) (ok : Nat → Prop) (A : Option Addr) (c : Nat) (xs : List ByteArray) (w0 w : World) (hl : xs.length ≤ 9223372036854775807) (HO : Kd.R Kd.string 9 w base ok (.slice A xs.length c) xs) (HB : Below base w0 w) (hs : base ≤ w.heap.size) :
  Calls Tryz.prog 59 #[.slice A xs.length c] w fun e w' => e = .returned (.slice A (compB xs).length c) ∧ Kd.R Kd.string 9 w' base ok (.slice A (compB xs).length c) (compB xs) ∧ Below base w0 w' := by
 cases A with
 | none =>
  have h0 : xs.length = 0 := by
   rcases (Kd.own_of_R HO).2 with ⟨hv, hn⟩ | ⟨g', cap', cur, hv, _⟩
   · injection hv
   · cases hv
  have hx : xs = [] := List.eq_nil_of_length_eq_zero h0; subst hx; refine (Any.slices_Compact_string_empty Tryz.lays194 none c w).mono ?_; rintro e w' ⟨rfl, rfl⟩; exact ⟨rfl, HO, HB⟩
 | some ad =>
  obtain ⟨b, rfl, hb1, hb2⟩ := own_off_zero HO; have hcap := (Kd.R_reads' HO).2.1; have hH : Sort.Holds encStr w b 0 (xs.map ofB_).toArray := sw_holds (f := toB_) HO (xs.map ofB_).toArray (by simp [List.map_map, Function.comp_def, toB_ofB]) (fun x => rfl); have hc := Any.slices_Compact_string Tryz.lays194 b 0 c (xs.map ofB_) w hH (by simpa using hl) (by simpa using hcap); rw [List.length_map] at hc; refine Calls.mono hc ?_; rintro e w' ⟨rfl, q, rfl⟩; have hle := Lib.compact_length_le (xs.map ofB_); rw [List.length_map] at hle; have hr := sw_row (f := toB_) (m := q) (os := #[]) (dk := (Lib.compact (xs.map ofB_) ++ List.replicate (xs.length - (Lib.compact (xs.map ofB_)).length) []).toArray) HO z223_ (fun x => rfl); have hbw := sw_below (enc := encStr) (m := q) (os := #[]) (dk := (Lib.compact (xs.map ofB_) ++ List.replicate (xs.length - (Lib.compact (xs.map ofB_)).length) []).toArray) 0 HB hb1 hs; unfold sortWorld at hr hbw; rw [Sort.grow_empty] at hr hbw; refine ⟨by rw [compB_length], ?_, hbw⟩; have := R_take_s hr z219_ (compB xs).length (by rw [compB_length]; omega)
  have e1 : (((Lib.compact (xs.map ofB_) ++ List.replicate (xs.length - (Lib.compact (xs.map ofB_)).length) []).toArray).toList.map toB_).take (compB xs).length = compB xs := by
   rw [compB_length]; simp [compB]
  rw [e1] at this; exact this
end Go.Proofs.YtbbmdakdghefnaaGreatDoor.T
