import Derived.Test.YtaldbabkdoabkaaProg
import Derived.Test.YtaldbabkdoabkaaQV
import Derived.Test.YtaldbabkdoabkaaQA
import Derived.Test.YtaldbabkdoabkaaQK
namespace Go.Proofs.Ytaldbabkdoabkaa.T
open Go.RowKit Go.Proofs.YtaldbabkdoabkaaW.PrintWords Go.Proofs.YtaldbabkdoabkaaW.PrintLast Go.Proofs.YtaldbabkdoabkaaW.PrintMore
attribute [local go_sem] max2_int min2_int max_two min_two max_three min_three max_four min_four   -- for this text's walks alone
set_option linter.unusedVariables false
set_option linter.unusedSimpArgs false

/-! ### catchwordref03_Same: function 17 -/
mutual
def catchwordref03_Same.j0 : Nat → Bool → Int → List (S48) → Int → List (S48) → Option (Bool)
  | 0, _, _, _, _, _ => none
  | k + 1, x20, x152000, x152001, x153000, x153001 => if x20 = true then (some false) else (catchwordref03_Same.l0 k 0 x152000 x152001 x153000 x153001)
def catchwordref03_Same.l0 : Nat → Int → Int → List (S48) → Int → List (S48) → Option (Bool)
  | 0, _, _, _, _, _ => none
  | k + 1, x5, x152000, x152001, x153000, x153001 => if x5 < (x152001.length : Int) then (if 0 ≤ x5 then (if x5 < (x153001.length : Int) then ((catchwordref01_Bytes.f k ((rd_T48 x152001 x5).f1) ((rd_T48 x153001 x5).f1)).bind fun t155 => (if t155 = true then (if ((rd_T48 x152001 x5).f0).toList = ((rd_T48 x153001 x5).f0).toList then (if (((rd_T48 x152001 x5).f2) != ((rd_T48 x153001 x5).f2)) = true then (some false) else (catchwordref03_Same.l0 k (wrap64 (x5 + 1)) x152000 x152001 x153000 x153001)) else (some false)) else (some false))) else (none)) else (none)) else (some true)
end
def catchwordref03_Same.f (k : Nat) (a0_0 : Int) (l0_1 : List (S48)) (a1_0 : Int) (l1_1 : List (S48)) : Option (Bool) := if a0_0 = a1_0 then (catchwordref03_Same.j0 k ((l0_1.length : Int) != (l1_1.length : Int)) a0_0 l0_1 a1_0 l1_1) else (catchwordref03_Same.j0 k true a0_0 l0_1 a1_0 l1_1)
theorem catchwordref03_Same.mono_l : ∀ k, (∀ y0 y1 y2 y3 y4, LeO (catchwordref03_Same.j0 k y0 y1 y2 y3 y4) (catchwordref03_Same.j0 (k + 1) y0 y1 y2 y3 y4)) ∧ (∀ y0 y1 y2 y3 y4, LeO (catchwordref03_Same.l0 k y0 y1 y2 y3 y4) (catchwordref03_Same.l0 (k + 1) y0 y1 y2 y3 y4))
  | 0 => ⟨fun _ _ _ _ _ r h => by simp [catchwordref03_Same.j0] at h, fun _ _ _ _ _ r h => by simp [catchwordref03_Same.l0] at h⟩
  | k + 1 => by
    obtain ⟨ih0, ih1⟩ := catchwordref03_Same.mono_l k
    refine ⟨?_, ?_⟩
    · intro y0 y1 y2 y3 y4
      unfold catchwordref03_Same.j0
      repeat' first
      | (with_reducible exact ih0 _ _ _ _ _)
      | (with_reducible exact ih1 _ _ _ _ _)
      | (with_reducible exact catchwordref01_Bytes.mono _ _ _)
      | (with_reducible exact LeO.refl _)
      | (with_reducible exact LeO.none _)
      | (with_reducible refine LeO.ite ?_ ?_)
      | (with_reducible refine LeO.bind ?_ (fun _ => ?_))
      | exact ih0 _ _ _ _ _
      | exact ih1 _ _ _ _ _
      | exact catchwordref01_Bytes.mono _ _ _
      | exact LeO.none _
      | refine LeO.ite ?_ ?_
      | refine LeO.bind ?_ (fun _ => ?_)
    · intro y0 y1 y2 y3 y4
      unfold catchwordref03_Same.l0
      repeat' first
      | (with_reducible exact ih0 _ _ _ _ _)
      | (with_reducible exact ih1 _ _ _ _ _)
      | (with_reducible exact catchwordref01_Bytes.mono _ _ _)
      | (with_reducible exact LeO.refl _)
      | (with_reducible exact LeO.none _)
      | (with_reducible refine LeO.ite ?_ ?_)
      | (with_reducible refine LeO.bind ?_ (fun _ => ?_))
      | exact ih0 _ _ _ _ _
      | exact ih1 _ _ _ _ _
      | exact catchwordref01_Bytes.mono _ _ _
      | exact LeO.none _
      | refine LeO.ite ?_ ?_
      | refine LeO.bind ?_ (fun _ => ?_)
theorem catchwordref03_Same.mono : ∀ a0 a1 a2 a3 k, LeO (catchwordref03_Same.f k a0 a1 a2 a3) (catchwordref03_Same.f (k + 1) a0 a1 a2 a3) := by
  intro a0 a1 a2 a3 k
  obtain ⟨ih0, ih1⟩ := catchwordref03_Same.mono_l k
  unfold catchwordref03_Same.f
  repeat' first
      | (with_reducible exact ih0 _ _ _ _ _)
      | (with_reducible exact ih1 _ _ _ _ _)
      | (with_reducible exact catchwordref01_Bytes.mono _ _ _)
      | (with_reducible exact LeO.refl _)
      | (with_reducible exact LeO.none _)
      | (with_reducible refine LeO.ite ?_ ?_)
      | (with_reducible refine LeO.bind ?_ (fun _ => ?_))
      | exact ih0 _ _ _ _ _
      | exact ih1 _ _ _ _ _
      | exact catchwordref01_Bytes.mono _ _ _
      | exact LeO.none _
      | refine LeO.ite ?_ ?_
      | refine LeO.bind ?_ (fun _ => ?_)
set_option maxHeartbeats 8000000 in
set_option maxRecDepth 100000 in
theorem catchwordref03_Same.calls (k : Nat) (a0_0 : Int) (A0_1 : Option Addr) (c0_1 : Nat) (l0_1 : List (S48)) (a1_0 : Int) (A1_1 : Option Addr) (c1_1 : Nat) (l1_1 : List (S48)) (r : Bool) (w : World) (hr0_1 : Kd.C k48 w A0_1 l0_1.length l0_1) (hc0_1 : l0_1.length ≤ c0_1) (hr1_1 : Kd.C k48 w A1_1 l1_1.length l1_1) (hc1_1 : l1_1.length ≤ c1_1) (h : catchwordref03_Same.f k a0_0 l0_1 a1_0 l1_1 = some r) :
    Calls Try.prog 17 #[.agg #[.int .i64 a0_0, .slice A0_1 l0_1.length c0_1], .agg #[.int .i64 a1_0, .slice A1_1 l1_1.length c1_1]] w fun e w' => e = .returned (.bool r) ∧ Below w.heap.size w w' := by
  have hu24 := Try.underlying24
  have HR0_1 := Aside0.mk hr0_1
  have HC0_1 := Aside0.mk hc0_1
  clear hr0_1 hc0_1
  have HR1_1 := Aside0.mk hr1_1
  have HC1_1 := Aside0.mk hc1_1
  clear hr1_1 hc1_1
  have HB := Aside0.mk (Below.refl w.heap.size w)
  have H : (if a0_0 = a1_0 then (catchwordref03_Same.j0 k ((l0_1.length : Int) != (l1_1.length : Int)) a0_0 l0_1 a1_0 l1_1) else (catchwordref03_Same.j0 k true a0_0 l0_1 a1_0 l1_1)) = some r := h
  clear h
  have HC3 := Aside0.mk H
  clear H
  go_enter Try.func17, Try.ntmps17
  go_upto_region 1 with (first | ((with_reducible refine gate_dst (N := 2) rfl ?_); (try (refine gate_guard (by rfl) ?_; dsimp only)); refine box_event ?hg (N := 2) ?hd (cs := #[.int .i64 a0_0, .slice A0_1 l0_1.length c0_1]) (t := 24) ?hr ?_; (case hd => rfl); (case hg => rfl); (case hr => first | (go_simp; done) | (go_simp; rfl)); intro gb151 hg w4 hbox hb; have n0_ := Aside0.mk (below_step (by repeat (first | (with_reducible first | exact HB.out | apply below_alloc | apply pw_below_drewN | apply below_drew1) | exact HB.out)) hb); have n1_ := Aside0.mk (hbox); have n2_ := Aside0.mk ((by rw [hg]; exact (below_size (by repeat (first | (with_reducible first | exact HB.out | apply below_alloc | apply pw_below_drewN | apply below_drew1) | exact HB.out))) : w.heap.size ≤ gb151)); have n3_ := Aside0.mk ((by rw [hg]; exact (below_size (by repeat (first | (with_reducible first | exact HB.out | apply below_alloc | apply pw_below_drewN | apply below_drew1) | exact HB.out))) : w.heap.size ≤ gb151)); clear HB; have HB := n0_; have BK151 := n1_; have GW151 := n2_; have GE151 := n3_; clear n0_ n1_ n2_ n3_; clear hb hbox hg) | ((with_reducible refine gate_dst (N := 3) rfl ?_); (try (refine gate_guard (by rfl) ?_; dsimp only)); refine box_event ?hg (N := 3) ?hd (cs := #[.int .i64 a1_0, .slice A1_1 l1_1.length c1_1]) (t := 24) ?hr ?_; (case hd => rfl); (case hg => rfl); (case hr => first | (go_simp; done) | (go_simp; rfl)); intro gb152 hg w5 hbox hb; have n0_ := Aside0.mk (blk_below (g := gb151) (o := .cells #[.int .i64 a0_0, .slice A0_1 l0_1.length c0_1] 24 (0, 0)) (by (with_reducible repeat (first | refine blk_drewN ?_ _ | refine blk_drew ?_ | refine blk_alloc ?_ _)); exact BK151.out) hb); have n1_ := Aside0.mk (below_step (by repeat (first | (with_reducible first | exact HB.out | apply below_alloc | apply pw_below_drewN | apply below_drew1 | refine below_set ?_ GE151.out) | exact HB.out)) hb); have n2_ := Aside0.mk (hbox); have n3_ := Aside0.mk ((by rw [hg]; exact (below_size (by repeat (first | (with_reducible first | exact HB.out | apply below_alloc | apply pw_below_drewN | apply below_drew1 | refine below_set ?_ GE151.out) | exact HB.out))) : w.heap.size ≤ gb152)); have n4_ := Aside0.mk ((by rw [hg]; exact (below_size (by repeat (first | (with_reducible first | exact HB.out | apply below_alloc | apply pw_below_drewN | apply below_drew1 | refine below_set ?_ GE151.out) | exact HB.out))) : w.heap.size ≤ gb152)); have n5_ := Aside0.mk ((by rw [hg]; exact Nat.ne_of_lt (blk_lt (g := gb151) (o := .cells #[.int .i64 a0_0, .slice A0_1 l0_1.length c0_1] 24 (0, 0)) (by (with_reducible repeat (first | refine blk_drewN ?_ _ | refine blk_drew ?_ | refine blk_alloc ?_ _)); exact BK151.out)) : gb151 ≠ gb152)); have n6_ := Aside0.mk ((by rw [hg]; exact Nat.ne_of_gt (blk_lt (g := gb151) (o := .cells #[.int .i64 a0_0, .slice A0_1 l0_1.length c0_1] 24 (0, 0)) (by (with_reducible repeat (first | refine blk_drewN ?_ _ | refine blk_drew ?_ | refine blk_alloc ?_ _)); exact BK151.out)) : gb152 ≠ gb151)); clear BK151; clear HB; have BK151 := n0_; have HB := n1_; have BK152 := n2_; have GW152 := n3_; have GE152 := n4_; have NB151_152 := n5_; have NB152_151 := n6_; clear n0_ n1_ n2_ n3_ n4_ n5_ n6_; clear hb hbox hg))
  repeat (go_quiet (first | ((with_reducible refine gate_dst (N := 2) rfl ?_); (try (refine gate_guard (by rfl) ?_; dsimp only)); refine box_event ?hg (N := 2) ?hd (cs := #[.int .i64 a0_0, .slice A0_1 l0_1.length c0_1]) (t := 24) ?hr ?_; (case hd => rfl); (case hg => rfl); (case hr => first | (go_simp; done) | (go_simp; rfl)); intro gb151 hg w4 hbox hb; have n0_ := Aside0.mk (below_step (by repeat (first | (with_reducible first | exact HB.out | apply below_alloc | apply pw_below_drewN | apply below_drew1) | exact HB.out)) hb); have n1_ := Aside0.mk (hbox); have n2_ := Aside0.mk ((by rw [hg]; exact (below_size (by repeat (first | (with_reducible first | exact HB.out | apply below_alloc | apply pw_below_drewN | apply below_drew1) | exact HB.out))) : w.heap.size ≤ gb151)); have n3_ := Aside0.mk ((by rw [hg]; exact (below_size (by repeat (first | (with_reducible first | exact HB.out | apply below_alloc | apply pw_below_drewN | apply below_drew1) | exact HB.out))) : w.heap.size ≤ gb151)); clear HB; have HB := n0_; have BK151 := n1_; have GW151 := n2_; have GE151 := n3_; clear n0_ n1_ n2_ n3_; clear hb hbox hg) | ((with_reducible refine gate_dst (N := 3) rfl ?_); (try (refine gate_guard (by rfl) ?_; dsimp only)); refine box_event ?hg (N := 3) ?hd (cs := #[.int .i64 a1_0, .slice A1_1 l1_1.length c1_1]) (t := 24) ?hr ?_; (case hd => rfl); (case hg => rfl); (case hr => first | (go_simp; done) | (go_simp; rfl)); intro gb152 hg w5 hbox hb; have n0_ := Aside0.mk (blk_below (g := gb151) (o := .cells #[.int .i64 a0_0, .slice A0_1 l0_1.length c0_1] 24 (0, 0)) (by (with_reducible repeat (first | refine blk_drewN ?_ _ | refine blk_drew ?_ | refine blk_alloc ?_ _)); exact BK151.out) hb); have n1_ := Aside0.mk (below_step (by repeat (first | (with_reducible first | exact HB.out | apply below_alloc | apply pw_below_drewN | apply below_drew1 | refine below_set ?_ GE151.out) | exact HB.out)) hb); have n2_ := Aside0.mk (hbox); have n3_ := Aside0.mk ((by rw [hg]; exact (below_size (by repeat (first | (with_reducible first | exact HB.out | apply below_alloc | apply pw_below_drewN | apply below_drew1 | refine below_set ?_ GE151.out) | exact HB.out))) : w.heap.size ≤ gb152)); have n4_ := Aside0.mk ((by rw [hg]; exact (below_size (by repeat (first | (with_reducible first | exact HB.out | apply below_alloc | apply pw_below_drewN | apply below_drew1 | refine below_set ?_ GE151.out) | exact HB.out))) : w.heap.size ≤ gb152)); have n5_ := Aside0.mk ((by rw [hg]; exact Nat.ne_of_lt (blk_lt (g := gb151) (o := .cells #[.int .i64 a0_0, .slice A0_1 l0_1.length c0_1] 24 (0, 0)) (by (with_reducible repeat (first | refine blk_drewN ?_ _ | refine blk_drew ?_ | refine blk_alloc ?_ _)); exact BK151.out)) : gb151 ≠ gb152)); have n6_ := Aside0.mk ((by rw [hg]; exact Nat.ne_of_gt (blk_lt (g := gb151) (o := .cells #[.int .i64 a0_0, .slice A0_1 l0_1.length c0_1] 24 (0, 0)) (by (with_reducible repeat (first | refine blk_drewN ?_ _ | refine blk_drew ?_ | refine blk_alloc ?_ _)); exact BK151.out)) : gb152 ≠ gb151)); clear BK151; clear HB; have BK151 := n0_; have HB := n1_; have BK152 := n2_; have GW152 := n3_; have GE152 := n4_; have NB151_152 := n5_; have NB152_151 := n6_; clear n0_ n1_ n2_ n3_ n4_ n5_ n6_; clear hb hbox hg)); go_upto_region 1 with (first | ((with_reducible refine gate_dst (N := 2) rfl ?_); (try (refine gate_guard (by rfl) ?_; dsimp only)); refine box_event ?hg (N := 2) ?hd (cs := #[.int .i64 a0_0, .slice A0_1 l0_1.length c0_1]) (t := 24) ?hr ?_; (case hd => rfl); (case hg => rfl); (case hr => first | (go_simp; done) | (go_simp; rfl)); intro gb151 hg w4 hbox hb; have n0_ := Aside0.mk (below_step (by repeat (first | (with_reducible first | exact HB.out | apply below_alloc | apply pw_below_drewN | apply below_drew1) | exact HB.out)) hb); have n1_ := Aside0.mk (hbox); have n2_ := Aside0.mk ((by rw [hg]; exact (below_size (by repeat (first | (with_reducible first | exact HB.out | apply below_alloc | apply pw_below_drewN | apply below_drew1) | exact HB.out))) : w.heap.size ≤ gb151)); have n3_ := Aside0.mk ((by rw [hg]; exact (below_size (by repeat (first | (with_reducible first | exact HB.out | apply below_alloc | apply pw_below_drewN | apply below_drew1) | exact HB.out))) : w.heap.size ≤ gb151)); clear HB; have HB := n0_; have BK151 := n1_; have GW151 := n2_; have GE151 := n3_; clear n0_ n1_ n2_ n3_; clear hb hbox hg) | ((with_reducible refine gate_dst (N := 3) rfl ?_); (try (refine gate_guard (by rfl) ?_; dsimp only)); refine box_event ?hg (N := 3) ?hd (cs := #[.int .i64 a1_0, .slice A1_1 l1_1.length c1_1]) (t := 24) ?hr ?_; (case hd => rfl); (case hg => rfl); (case hr => first | (go_simp; done) | (go_simp; rfl)); intro gb152 hg w5 hbox hb; have n0_ := Aside0.mk (blk_below (g := gb151) (o := .cells #[.int .i64 a0_0, .slice A0_1 l0_1.length c0_1] 24 (0, 0)) (by (with_reducible repeat (first | refine blk_drewN ?_ _ | refine blk_drew ?_ | refine blk_alloc ?_ _)); exact BK151.out) hb); have n1_ := Aside0.mk (below_step (by repeat (first | (with_reducible first | exact HB.out | apply below_alloc | apply pw_below_drewN | apply below_drew1 | refine below_set ?_ GE151.out) | exact HB.out)) hb); have n2_ := Aside0.mk (hbox); have n3_ := Aside0.mk ((by rw [hg]; exact (below_size (by repeat (first | (with_reducible first | exact HB.out | apply below_alloc | apply pw_below_drewN | apply below_drew1 | refine below_set ?_ GE151.out) | exact HB.out))) : w.heap.size ≤ gb152)); have n4_ := Aside0.mk ((by rw [hg]; exact (below_size (by repeat (first | (with_reducible first | exact HB.out | apply below_alloc | apply pw_below_drewN | apply below_drew1 | refine below_set ?_ GE151.out) | exact HB.out))) : w.heap.size ≤ gb152)); have n5_ := Aside0.mk ((by rw [hg]; exact Nat.ne_of_lt (blk_lt (g := gb151) (o := .cells #[.int .i64 a0_0, .slice A0_1 l0_1.length c0_1] 24 (0, 0)) (by (with_reducible repeat (first | refine blk_drewN ?_ _ | refine blk_drew ?_ | refine blk_alloc ?_ _)); exact BK151.out)) : gb151 ≠ gb152)); have n6_ := Aside0.mk ((by rw [hg]; exact Nat.ne_of_gt (blk_lt (g := gb151) (o := .cells #[.int .i64 a0_0, .slice A0_1 l0_1.length c0_1] 24 (0, 0)) (by (with_reducible repeat (first | refine blk_drewN ?_ _ | refine blk_drew ?_ | refine blk_alloc ?_ _)); exact BK151.out)) : gb152 ≠ gb151)); clear BK151; clear HB; have BK151 := n0_; have HB := n1_; have BK152 := n2_; have GW152 := n3_; have GE152 := n4_; have NB151_152 := n5_; have NB152_151 := n6_; clear n0_ n1_ n2_ n3_ n4_ n5_ n6_; clear hb hbox hg)))
  (try simp only [Act.put, List.setIfInBounds_toArray, List.set_cons_zero, List.set_cons_succ])
  go_cut [20] (fun v20 wc => ∃ (kq : Nat) (x20_2 : Bool), v20 = .bool x20_2 ∧ Aside0 (catchwordref03_Same.j0 kq x20_2 a0_0 l0_1 a1_0 l1_1 = some r) ∧ Aside0 (kq ≤ k) ∧ Aside0 (wc.heap[gb151]? = some (.cells #[.int .i64 a0_0, (.slice A0_1 l0_1.length c0_1)] 24 (0, 0))) ∧ Aside0 (wc.heap[gb152]? = some (.cells #[.int .i64 a1_0, (.slice A1_1 l1_1.length c1_1)] 24 (0, 0))) ∧ Aside0 (Below w.heap.size w wc))
  case first =>
    have H := HC3.out
    clear HC3
    by_cases c6 : a0_0 = a1_0
    · rw [if_pos c6] at H
      have c6b0 : (a0_0 == a1_0) = true := beq_iff_eq.mpr c6
      have c6b1 : (a0_0 != a1_0) = false := bne_eq_false_iff_eq.mpr c6
      clear c6
      (first | rw [c6b0] | (simp only [i64_w, i32_w]; rw [c6b0]) | skip)
      have H' := Aside0.mk H
      clear H
      have hnb7 := NB151_152.out
      have hnc7 := NB152_151.out
      have hcz8_0 : w5.cell? ⟨gb151, 0, none⟩ = some (.int .i64 a0_0) := (blk_cell BK151.out 0).trans rfl
      have hcz8_1 : w5.cell? ⟨gb151, 1, none⟩ = some (.slice A0_1 l0_1.length c0_1) := (blk_cell BK151.out 1).trans rfl
      have hfz8_0 := blk_frozen BK151.out 0
      have hfz8_1 := blk_frozen BK151.out 1
      have hcz9_0 : w5.cell? ⟨gb152, 0, none⟩ = some (.int .i64 a1_0) := (blk_cell BK152.out 0).trans rfl
      have hcz9_1 : w5.cell? ⟨gb152, 1, none⟩ = some (.slice A1_1 l1_1.length c1_1) := (blk_cell BK152.out 1).trans rfl
      have hfz9_0 := blk_frozen BK152.out 0
      have hfz9_1 := blk_frozen BK152.out 1
      go_wp2
      repeat (go_quiet (fail); try go_wp2)
      go_meet
      case rel => exact ⟨_, (((l0_1.length : Int) != (l1_1.length : Int))), (by first | rfl | (simp; done) | (simp [*]; done)), H', ⟨by first | omega | exact Nat.le_refl _⟩, ⟨by (with_reducible repeat (first | refine blk_drewN ?_ _ | refine blk_drew ?_ | refine blk_alloc ?_ _)); exact BK151.out⟩, ⟨by (with_reducible repeat (first | refine blk_drewN ?_ _ | refine blk_drew ?_ | refine blk_alloc ?_ _)); exact BK152.out⟩, ⟨by repeat (first | (with_reducible first | exact HB.out | apply below_alloc | apply pw_below_drewN | apply below_drew1 | refine below_set ?_ GE151.out | refine below_set ?_ GE152.out) | exact HB.out)⟩⟩
    · rw [if_neg c6] at H
      have c6b0 : (a0_0 == a1_0) = false := beq_eq_false_iff_ne.mpr c6
      have c6b1 : (a0_0 != a1_0) = true := bne_iff_ne.mpr c6
      (first | rw [c6b0] | (simp only [i64_w, i32_w]; rw [c6b0]) | skip)
      have H' := Aside0.mk H
      clear H
      have hnb10 := NB151_152.out
      have hnc10 := NB152_151.out
      have hcz11_0 : w5.cell? ⟨gb151, 0, none⟩ = some (.int .i64 a0_0) := (blk_cell BK151.out 0).trans rfl
      have hcz11_1 : w5.cell? ⟨gb151, 1, none⟩ = some (.slice A0_1 l0_1.length c0_1) := (blk_cell BK151.out 1).trans rfl
      have hfz11_0 := blk_frozen BK151.out 0
      have hfz11_1 := blk_frozen BK151.out 1
      have hcz12_0 : w5.cell? ⟨gb152, 0, none⟩ = some (.int .i64 a1_0) := (blk_cell BK152.out 0).trans rfl
      have hcz12_1 : w5.cell? ⟨gb152, 1, none⟩ = some (.slice A1_1 l1_1.length c1_1) := (blk_cell BK152.out 1).trans rfl
      have hfz12_0 := blk_frozen BK152.out 0
      have hfz12_1 := blk_frozen BK152.out 1
      go_wp2
      repeat (go_quiet (fail); try go_wp2)
      go_meet
      case rel => exact ⟨_, (true), (by first | rfl | (simp; done) | (simp [*]; done)), H', ⟨by first | omega | exact Nat.le_refl _⟩, ⟨by (with_reducible repeat (first | refine blk_drewN ?_ _ | refine blk_drew ?_ | refine blk_alloc ?_ _)); exact BK151.out⟩, ⟨by (with_reducible repeat (first | refine blk_drewN ?_ _ | refine blk_drew ?_ | refine blk_alloc ?_ _)); exact BK152.out⟩, ⟨by repeat (first | (with_reducible first | exact HB.out | apply below_alloc | apply pw_below_drewN | apply below_drew1 | refine below_set ?_ GE151.out | refine below_set ?_ GE152.out) | exact HB.out)⟩⟩
  case rest =>
    clear HC3
    try clear c1
    try clear p2
    try clear c6
    try clear c6b0
    try clear c6b1
    try clear c7
    try clear c10
    try clear hcz11_0
    try clear hcz11_1
    try clear hcz12_0
    try clear hcz12_1
    try clear hcz8_0
    try clear hcz8_1
    try clear hcz9_0
    try clear hcz9_1
    try clear hfz11_0
    try clear hfz11_1
    try clear hfz12_0
    try clear hfz12_1
    try clear hfz8_0
    try clear hfz8_1
    try clear hfz9_0
    try clear hfz9_1
    obtain ⟨kq, x20_2, rfl, HA, HJ2, BK151, BK152, HB⟩ := hcut
    cases kq with
    | zero => exact absurd HA.out (by simp [catchwordref03_Same.j0])
    | succ kj2 =>
      have H := HA.out
      clear HA
      simp only [catchwordref03_Same.j0] at H
      by_cases c13 : x20_2 = true
      · subst c13
        have H1 : (some false) = some r := by rw [if_pos rfl] at H; exact H
        clear H
        have H := H1
        clear H1
        obtain rfl := Option.some.inj H
        go_wp2
        repeat (go_quiet (fail); try go_wp2)
        go_ret
        exact ⟨by first | rfl | (simp [errW_none, errW_some] <;> rfl) | (simp [*, errW_none, errW_some] <;> rfl), by repeat (first | (with_reducible first | exact HB.out | apply below_alloc | apply pw_below_drewN | apply below_drew1 | refine below_set ?_ GE151.out | refine below_set ?_ GE152.out) | exact HB.out)⟩
      · replace c13 := Bool.eq_false_iff.mpr c13
        subst c13
        have H1 : (catchwordref03_Same.l0 kj2 0 a0_0 l0_1 a1_0 l1_1) = some r := by rw [if_neg (show ¬ (false = true) by decide)] at H; exact H
        clear H
        have H := H1
        clear H1
        have H' := Aside0.mk H
        clear H
        go_wp2
        repeat (go_quiet (fail); try go_wp2)
        go_loopg [5] kj2 (fun kq v5 w' => ∃ (x5_2 : Int), v5 = .int .i64 x5_2 ∧ Aside0 (catchwordref03_Same.l0 kq x5_2 a0_0 l0_1 a1_0 l1_1 = some r) ∧ Aside0 (kq ≤ kj2) ∧ Aside0 (w'.heap[gb151]? = some (.cells #[.int .i64 a0_0, (.slice A0_1 l0_1.length c0_1)] 24 (0, 0))) ∧ Aside0 (w'.heap[gb152]? = some (.cells #[.int .i64 a1_0, (.slice A1_1 l1_1.length c1_1)] 24 (0, 0))) ∧ Aside0 (Below w.heap.size w w'))
        case atStart => exact ⟨(0), (by first | rfl | (simp; done) | (simp [*]; done)), H', ⟨Nat.le_refl _⟩, ⟨by (with_reducible repeat (first | refine blk_drewN ?_ _ | refine blk_drew ?_ | refine blk_alloc ?_ _)); exact BK151.out⟩, ⟨by (with_reducible repeat (first | refine blk_drewN ?_ _ | refine blk_drew ?_ | refine blk_alloc ?_ _)); exact BK152.out⟩, ⟨by repeat (first | (with_reducible first | exact HB.out | apply below_alloc | apply pw_below_drewN | apply below_drew1 | refine below_set ?_ GE151.out | refine below_set ?_ GE152.out) | exact HB.out)⟩⟩
        case round =>
          clear H'
          try clear c1
          try clear p2
          try clear c6
          try clear c6b0
          try clear c6b1
          try clear c7
          try clear c10
          try clear c13
          try clear hcz11_0
          try clear hcz11_1
          try clear hcz12_0
          try clear hcz12_1
          try clear hcz8_0
          try clear hcz8_1
          try clear hcz9_0
          try clear hcz9_1
          try clear hfz11_0
          try clear hfz11_1
          try clear hfz12_0
          try clear hfz12_1
          try clear hfz8_0
          try clear hfz8_1
          try clear hfz9_0
          try clear hfz9_1
          try clear p2
          obtain ⟨x5_2, rfl, HA, HK2, BK151, BK152, HB⟩ := hrel
          cases gk with
          | zero => exact absurd HA.out (by simp [catchwordref03_Same.l0])
          | succ k2 =>
            have H := HA.out
            clear HA
            simp only [catchwordref03_Same.l0] at H
            by_cases c14 : x5_2 < (l0_1.length : Int)
            · rw [if_pos c14] at H
              have c14b0 : decide (x5_2 < (l0_1.length : Int)) = true := decide_eq_true c14
              clear c14
              by_cases c15 : 0 ≤ x5_2
              · rw [if_pos c15] at H
                have c15b0 : decide (0 ≤ x5_2) = true := decide_eq_true c15
                clear c15
                by_cases c16 : x5_2 < (l1_1.length : Int)
                · rw [if_pos c16] at H
                  have c16b0 : decide (x5_2 < (l1_1.length : Int)) = true := decide_eq_true c16
                  clear c16
                  replace H := Option.bind_eq_some_iff.mp H
                  obtain ⟨t155, A170, H⟩ := H
                  replace H : (if t155 = true then (if ((rd_T48 l0_1 x5_2).f0).toList = ((rd_T48 l1_1 x5_2).f0).toList then (if (((rd_T48 l0_1 x5_2).f2) != ((rd_T48 l1_1 x5_2).f2)) = true then (some false) else (catchwordref03_Same.l0 k2 (wrap64 (x5_2 + 1)) a0_0 l0_1 a1_0 l1_1)) else (some false)) else (some false)) = some r := H
                  have A17 := Aside0.mk A170
                  clear A170
                  by_cases c18 : t155 = true
                  · subst c18
                    have H1 : (if ((rd_T48 l0_1 x5_2).f0).toList = ((rd_T48 l1_1 x5_2).f0).toList then (if (((rd_T48 l0_1 x5_2).f2) != ((rd_T48 l1_1 x5_2).f2)) = true then (some false) else (catchwordref03_Same.l0 k2 (wrap64 (x5_2 + 1)) a0_0 l0_1 a1_0 l1_1)) else (some false)) = some r := by rw [if_pos rfl] at H; exact H
                    clear H
                    have H := H1
                    clear H1
                    by_cases c19 : ((rd_T48 l0_1 x5_2).f0).toList = ((rd_T48 l1_1 x5_2).f0).toList
                    · rw [if_pos c19] at H
                      have c19b0 : (((rd_T48 l0_1 x5_2).f0).toList == ((rd_T48 l1_1 x5_2).f0).toList) = true := beq_iff_eq.mpr c19
                      have c19b1 : (((rd_T48 l0_1 x5_2).f0).toList != ((rd_T48 l1_1 x5_2).f0).toList) = false := bne_eq_false_iff_eq.mpr c19
                      clear c19
                      by_cases c20 : (((rd_T48 l0_1 x5_2).f2) != ((rd_T48 l1_1 x5_2).f2)) = true
                      · rw [if_pos c20] at H
                        have c20b0 : (((rd_T48 l0_1 x5_2).f2) != ((rd_T48 l1_1 x5_2).f2)) = true := c20
                        (try (have c20b1 : decide (((rd_T48 l0_1 x5_2).f2) = ((rd_T48 l1_1 x5_2).f2)) = false := by simpa using c20))
                        (try (have c20b2 : (((rd_T48 l0_1 x5_2).f2) == ((rd_T48 l1_1 x5_2).f2)) = false := by simpa using c20))
                        (try (have c20b3 : ¬ (((rd_T48 l0_1 x5_2).f2) = ((rd_T48 l1_1 x5_2).f2)) := by simpa using c20))
                        clear c20
                        obtain rfl := Option.some.inj H
                        have hnb21 := NB151_152.out
                        have hnc21 := NB152_151.out
                        have hcz22_0 : wr.cell? ⟨gb151, 0, none⟩ = some (.int .i64 a0_0) := (blk_cell BK151.out 0).trans rfl
                        have hcz22_1 : wr.cell? ⟨gb151, 1, none⟩ = some (.slice A0_1 l0_1.length c0_1) := (blk_cell BK151.out 1).trans rfl
                        have hfz22_0 := blk_frozen BK151.out 0
                        have hfz22_1 := blk_frozen BK151.out 1
                        have p153 : 0 ≤ (x5_2 : Int) := of_decide_eq_true (by first | (with_reducible assumption) | assumption)
                        have q153 : x5_2 < (l0_1.length : Int) := of_decide_eq_true (by first | (with_reducible assumption) | assumption)
                        obtain ⟨ad153, A153_1, c153_1, e153, hx153_0, hx153_1, hx153_2, hl153_1, hi153_1⟩ := at_T48 HR0_1.out x5_2 p153 q153
                        cases e153
                        replace hx153_0 := (HB.out.cell (World.block_lt_of_cell? w _ hx153_0)).trans hx153_0
                        replace hx153_1 := (HB.out.cell (World.block_lt_of_cell? w _ hx153_1)).trans hx153_1
                        replace hx153_2 := (HB.out.cell (World.block_lt_of_cell? w _ hx153_2)).trans hx153_2
                        have HR153_1 := Aside0.mk hi153_1
                        have HC153_1 := Aside0.mk hl153_1
                        clear hi153_1 hl153_1
                        replace p153 := eq_true p153
                        replace q153 := eq_true q153
                        have hcz23_0 : wr.cell? ⟨gb152, 0, none⟩ = some (.int .i64 a1_0) := (blk_cell BK152.out 0).trans rfl
                        have hcz23_1 : wr.cell? ⟨gb152, 1, none⟩ = some (.slice A1_1 l1_1.length c1_1) := (blk_cell BK152.out 1).trans rfl
                        have hfz23_0 := blk_frozen BK152.out 0
                        have hfz23_1 := blk_frozen BK152.out 1
                        have p154 : 0 ≤ (x5_2 : Int) := of_decide_eq_true (by first | (with_reducible assumption) | assumption)
                        have q154 : x5_2 < (l1_1.length : Int) := of_decide_eq_true (by first | (with_reducible assumption) | assumption)
                        obtain ⟨ad154, A154_1, c154_1, e154, hx154_0, hx154_1, hx154_2, hl154_1, hi154_1⟩ := at_T48 HR1_1.out x5_2 p154 q154
                        cases e154
                        replace hx154_0 := (HB.out.cell (World.block_lt_of_cell? w _ hx154_0)).trans hx154_0
                        replace hx154_1 := (HB.out.cell (World.block_lt_of_cell? w _ hx154_1)).trans hx154_1
                        replace hx154_2 := (HB.out.cell (World.block_lt_of_cell? w _ hx154_2)).trans hx154_2
                        have HR154_1 := Aside0.mk hi154_1
                        have HC154_1 := Aside0.mk hl154_1
                        clear hi154_1 hl154_1
                        replace p154 := eq_true p154
                        replace q154 := eq_true q154
                        go_wp2_with (first | (go_at_call 14; (with_reducible refine (catchwordref01_Bytes.calls k2 _ _ ((rd_T48 l0_1 x5_2).f1) _ _ ((rd_T48 l1_1 x5_2).f1) true _ ?side1 ?side2 ?side3 ?side4 A17.out).mono ?_); (case side1 => repeat (first | exact (Kd.C_below HR153_1.out HB.out) | (with_reducible refine Kd.C_alloc ?_ _) | (with_reducible refine Kd.C_drewN ?_ _) | (with_reducible refine Kd.C_drew ?_))); (case side2 => exact HC153_1.out); (case side3 => repeat (first | exact (Kd.C_below HR154_1.out HB.out) | (with_reducible refine Kd.C_alloc ?_ _) | (with_reducible refine Kd.C_drewN ?_ _) | (with_reducible refine Kd.C_drew ?_))); (case side4 => exact HC154_1.out); rintro e w' ⟨rfl, ⟨nd, rfl⟩⟩; (try first | exact ⟨rfl, _, World.drewN_drewN _ _ _⟩ | exact ⟨rfl, _, Eq.trans (World.drewN_drewN _ _ _) (congrArg (World.drewN _) (Nat.add_assoc _ _ _))⟩); have p156 : 0 ≤ (x5_2 : Int) := of_decide_eq_true (by first | (with_reducible assumption) | assumption); have q156 : x5_2 < (l0_1.length : Int) := of_decide_eq_true (by first | (with_reducible assumption) | assumption); obtain ⟨ad156, A156_1, c156_1, e156, hx156_0, hx156_1, hx156_2, hl156_1, hi156_1⟩ := at_T48 HR0_1.out x5_2 p156 q156; obtain rfl : ad153 = ad156 := (by injection e156); replace hx156_0 := (HB.out.cell (World.block_lt_of_cell? w _ hx156_0)).trans hx156_0; replace hx156_1 := (HB.out.cell (World.block_lt_of_cell? w _ hx156_1)).trans hx156_1; replace hx156_2 := (HB.out.cell (World.block_lt_of_cell? w _ hx156_2)).trans hx156_2; have HR156_1 := Aside0.mk hi156_1; have HC156_1 := Aside0.mk hl156_1; clear hi156_1 hl156_1; replace p156 := eq_true p156; replace q156 := eq_true q156; have ea_ := Option.some.inj (hx153_1.symm.trans hx156_1); injection ea_ with ea_ en_ ec_; subst ea_; subst ec_; clear en_; have p157 : 0 ≤ (x5_2 : Int) := of_decide_eq_true (by first | (with_reducible assumption) | assumption); have q157 : x5_2 < (l1_1.length : Int) := of_decide_eq_true (by first | (with_reducible assumption) | assumption); obtain ⟨ad157, A157_1, c157_1, e157, hx157_0, hx157_1, hx157_2, hl157_1, hi157_1⟩ := at_T48 HR1_1.out x5_2 p157 q157; obtain rfl : ad154 = ad157 := (by injection e157); replace hx157_0 := (HB.out.cell (World.block_lt_of_cell? w _ hx157_0)).trans hx157_0; replace hx157_1 := (HB.out.cell (World.block_lt_of_cell? w _ hx157_1)).trans hx157_1; replace hx157_2 := (HB.out.cell (World.block_lt_of_cell? w _ hx157_2)).trans hx157_2; have HR157_1 := Aside0.mk hi157_1; have HC157_1 := Aside0.mk hl157_1; clear hi157_1 hl157_1; replace p157 := eq_true p157; replace q157 := eq_true q157; have ea_ := Option.some.inj (hx154_1.symm.trans hx157_1); injection ea_ with ea_ en_ ec_; subst ea_; subst ec_; clear en_; have p158 : 0 ≤ (x5_2 : Int) := of_decide_eq_true (by first | (with_reducible assumption) | assumption); have q158 : x5_2 < (l0_1.length : Int) := of_decide_eq_true (by first | (with_reducible assumption) | assumption); obtain ⟨ad158, A158_1, c158_1, e158, hx158_0, hx158_1, hx158_2, hl158_1, hi158_1⟩ := at_T48 HR0_1.out x5_2 p158 q158; obtain rfl : ad153 = ad158 := (by injection e158); replace hx158_0 := (HB.out.cell (World.block_lt_of_cell? w _ hx158_0)).trans hx158_0; replace hx158_1 := (HB.out.cell (World.block_lt_of_cell? w _ hx158_1)).trans hx158_1; replace hx158_2 := (HB.out.cell (World.block_lt_of_cell? w _ hx158_2)).trans hx158_2; have HR158_1 := Aside0.mk hi158_1; have HC158_1 := Aside0.mk hl158_1; clear hi158_1 hl158_1; replace p158 := eq_true p158; replace q158 := eq_true q158; have ea_ := Option.some.inj (hx153_1.symm.trans hx158_1); injection ea_ with ea_ en_ ec_; subst ea_; subst ec_; clear en_; have p159 : 0 ≤ (x5_2 : Int) := of_decide_eq_true (by first | (with_reducible assumption) | assumption); have q159 : x5_2 < (l1_1.length : Int) := of_decide_eq_true (by first | (with_reducible assumption) | assumption); obtain ⟨ad159, A159_1, c159_1, e159, hx159_0, hx159_1, hx159_2, hl159_1, hi159_1⟩ := at_T48 HR1_1.out x5_2 p159 q159; obtain rfl : ad154 = ad159 := (by injection e159); replace hx159_0 := (HB.out.cell (World.block_lt_of_cell? w _ hx159_0)).trans hx159_0; replace hx159_1 := (HB.out.cell (World.block_lt_of_cell? w _ hx159_1)).trans hx159_1; replace hx159_2 := (HB.out.cell (World.block_lt_of_cell? w _ hx159_2)).trans hx159_2; have HR159_1 := Aside0.mk hi159_1; have HC159_1 := Aside0.mk hl159_1; clear hi159_1 hl159_1; replace p159 := eq_true p159; replace q159 := eq_true q159; have ea_ := Option.some.inj (hx154_1.symm.trans hx159_1); injection ea_ with ea_ en_ ec_; subst ea_; subst ec_; clear en_))
                        repeat (go_quiet (first | (go_at_call 14; (with_reducible refine (catchwordref01_Bytes.calls k2 _ _ ((rd_T48 l0_1 x5_2).f1) _ _ ((rd_T48 l1_1 x5_2).f1) true _ ?side1 ?side2 ?side3 ?side4 A17.out).mono ?_); (case side1 => repeat (first | exact (Kd.C_below HR153_1.out HB.out) | (with_reducible refine Kd.C_alloc ?_ _) | (with_reducible refine Kd.C_drewN ?_ _) | (with_reducible refine Kd.C_drew ?_))); (case side2 => exact HC153_1.out); (case side3 => repeat (first | exact (Kd.C_below HR154_1.out HB.out) | (with_reducible refine Kd.C_alloc ?_ _) | (with_reducible refine Kd.C_drewN ?_ _) | (with_reducible refine Kd.C_drew ?_))); (case side4 => exact HC154_1.out); rintro e w' ⟨rfl, ⟨nd, rfl⟩⟩; (try first | exact ⟨rfl, _, World.drewN_drewN _ _ _⟩ | exact ⟨rfl, _, Eq.trans (World.drewN_drewN _ _ _) (congrArg (World.drewN _) (Nat.add_assoc _ _ _))⟩); have p156 : 0 ≤ (x5_2 : Int) := of_decide_eq_true (by first | (with_reducible assumption) | assumption); have q156 : x5_2 < (l0_1.length : Int) := of_decide_eq_true (by first | (with_reducible assumption) | assumption); obtain ⟨ad156, A156_1, c156_1, e156, hx156_0, hx156_1, hx156_2, hl156_1, hi156_1⟩ := at_T48 HR0_1.out x5_2 p156 q156; obtain rfl : ad153 = ad156 := (by injection e156); replace hx156_0 := (HB.out.cell (World.block_lt_of_cell? w _ hx156_0)).trans hx156_0; replace hx156_1 := (HB.out.cell (World.block_lt_of_cell? w _ hx156_1)).trans hx156_1; replace hx156_2 := (HB.out.cell (World.block_lt_of_cell? w _ hx156_2)).trans hx156_2; have HR156_1 := Aside0.mk hi156_1; have HC156_1 := Aside0.mk hl156_1; clear hi156_1 hl156_1; replace p156 := eq_true p156; replace q156 := eq_true q156; have ea_ := Option.some.inj (hx153_1.symm.trans hx156_1); injection ea_ with ea_ en_ ec_; subst ea_; subst ec_; clear en_; have p157 : 0 ≤ (x5_2 : Int) := of_decide_eq_true (by first | (with_reducible assumption) | assumption); have q157 : x5_2 < (l1_1.length : Int) := of_decide_eq_true (by first | (with_reducible assumption) | assumption); obtain ⟨ad157, A157_1, c157_1, e157, hx157_0, hx157_1, hx157_2, hl157_1, hi157_1⟩ := at_T48 HR1_1.out x5_2 p157 q157; obtain rfl : ad154 = ad157 := (by injection e157); replace hx157_0 := (HB.out.cell (World.block_lt_of_cell? w _ hx157_0)).trans hx157_0; replace hx157_1 := (HB.out.cell (World.block_lt_of_cell? w _ hx157_1)).trans hx157_1; replace hx157_2 := (HB.out.cell (World.block_lt_of_cell? w _ hx157_2)).trans hx157_2; have HR157_1 := Aside0.mk hi157_1; have HC157_1 := Aside0.mk hl157_1; clear hi157_1 hl157_1; replace p157 := eq_true p157; replace q157 := eq_true q157; have ea_ := Option.some.inj (hx154_1.symm.trans hx157_1); injection ea_ with ea_ en_ ec_; subst ea_; subst ec_; clear en_; have p158 : 0 ≤ (x5_2 : Int) := of_decide_eq_true (by first | (with_reducible assumption) | assumption); have q158 : x5_2 < (l0_1.length : Int) := of_decide_eq_true (by first | (with_reducible assumption) | assumption); obtain ⟨ad158, A158_1, c158_1, e158, hx158_0, hx158_1, hx158_2, hl158_1, hi158_1⟩ := at_T48 HR0_1.out x5_2 p158 q158; obtain rfl : ad153 = ad158 := (by injection e158); replace hx158_0 := (HB.out.cell (World.block_lt_of_cell? w _ hx158_0)).trans hx158_0; replace hx158_1 := (HB.out.cell (World.block_lt_of_cell? w _ hx158_1)).trans hx158_1; replace hx158_2 := (HB.out.cell (World.block_lt_of_cell? w _ hx158_2)).trans hx158_2; have HR158_1 := Aside0.mk hi158_1; have HC158_1 := Aside0.mk hl158_1; clear hi158_1 hl158_1; replace p158 := eq_true p158; replace q158 := eq_true q158; have ea_ := Option.some.inj (hx153_1.symm.trans hx158_1); injection ea_ with ea_ en_ ec_; subst ea_; subst ec_; clear en_; have p159 : 0 ≤ (x5_2 : Int) := of_decide_eq_true (by first | (with_reducible assumption) | assumption); have q159 : x5_2 < (l1_1.length : Int) := of_decide_eq_true (by first | (with_reducible assumption) | assumption); obtain ⟨ad159, A159_1, c159_1, e159, hx159_0, hx159_1, hx159_2, hl159_1, hi159_1⟩ := at_T48 HR1_1.out x5_2 p159 q159; obtain rfl : ad154 = ad159 := (by injection e159); replace hx159_0 := (HB.out.cell (World.block_lt_of_cell? w _ hx159_0)).trans hx159_0; replace hx159_1 := (HB.out.cell (World.block_lt_of_cell? w _ hx159_1)).trans hx159_1; replace hx159_2 := (HB.out.cell (World.block_lt_of_cell? w _ hx159_2)).trans hx159_2; have HR159_1 := Aside0.mk hi159_1; have HC159_1 := Aside0.mk hl159_1; clear hi159_1 hl159_1; replace p159 := eq_true p159; replace q159 := eq_true q159; have ea_ := Option.some.inj (hx154_1.symm.trans hx159_1); injection ea_ with ea_ en_ ec_; subst ea_; subst ec_; clear en_)); try go_wp2_with (first | (go_at_call 14; (with_reducible refine (catchwordref01_Bytes.calls k2 _ _ ((rd_T48 l0_1 x5_2).f1) _ _ ((rd_T48 l1_1 x5_2).f1) true _ ?side1 ?side2 ?side3 ?side4 A17.out).mono ?_); (case side1 => repeat (first | exact (Kd.C_below HR153_1.out HB.out) | (with_reducible refine Kd.C_alloc ?_ _) | (with_reducible refine Kd.C_drewN ?_ _) | (with_reducible refine Kd.C_drew ?_))); (case side2 => exact HC153_1.out); (case side3 => repeat (first | exact (Kd.C_below HR154_1.out HB.out) | (with_reducible refine Kd.C_alloc ?_ _) | (with_reducible refine Kd.C_drewN ?_ _) | (with_reducible refine Kd.C_drew ?_))); (case side4 => exact HC154_1.out); rintro e w' ⟨rfl, ⟨nd, rfl⟩⟩; (try first | exact ⟨rfl, _, World.drewN_drewN _ _ _⟩ | exact ⟨rfl, _, Eq.trans (World.drewN_drewN _ _ _) (congrArg (World.drewN _) (Nat.add_assoc _ _ _))⟩); have p156 : 0 ≤ (x5_2 : Int) := of_decide_eq_true (by first | (with_reducible assumption) | assumption); have q156 : x5_2 < (l0_1.length : Int) := of_decide_eq_true (by first | (with_reducible assumption) | assumption); obtain ⟨ad156, A156_1, c156_1, e156, hx156_0, hx156_1, hx156_2, hl156_1, hi156_1⟩ := at_T48 HR0_1.out x5_2 p156 q156; obtain rfl : ad153 = ad156 := (by injection e156); replace hx156_0 := (HB.out.cell (World.block_lt_of_cell? w _ hx156_0)).trans hx156_0; replace hx156_1 := (HB.out.cell (World.block_lt_of_cell? w _ hx156_1)).trans hx156_1; replace hx156_2 := (HB.out.cell (World.block_lt_of_cell? w _ hx156_2)).trans hx156_2; have HR156_1 := Aside0.mk hi156_1; have HC156_1 := Aside0.mk hl156_1; clear hi156_1 hl156_1; replace p156 := eq_true p156; replace q156 := eq_true q156; have ea_ := Option.some.inj (hx153_1.symm.trans hx156_1); injection ea_ with ea_ en_ ec_; subst ea_; subst ec_; clear en_; have p157 : 0 ≤ (x5_2 : Int) := of_decide_eq_true (by first | (with_reducible assumption) | assumption); have q157 : x5_2 < (l1_1.length : Int) := of_decide_eq_true (by first | (with_reducible assumption) | assumption); obtain ⟨ad157, A157_1, c157_1, e157, hx157_0, hx157_1, hx157_2, hl157_1, hi157_1⟩ := at_T48 HR1_1.out x5_2 p157 q157; obtain rfl : ad154 = ad157 := (by injection e157); replace hx157_0 := (HB.out.cell (World.block_lt_of_cell? w _ hx157_0)).trans hx157_0; replace hx157_1 := (HB.out.cell (World.block_lt_of_cell? w _ hx157_1)).trans hx157_1; replace hx157_2 := (HB.out.cell (World.block_lt_of_cell? w _ hx157_2)).trans hx157_2; have HR157_1 := Aside0.mk hi157_1; have HC157_1 := Aside0.mk hl157_1; clear hi157_1 hl157_1; replace p157 := eq_true p157; replace q157 := eq_true q157; have ea_ := Option.some.inj (hx154_1.symm.trans hx157_1); injection ea_ with ea_ en_ ec_; subst ea_; subst ec_; clear en_; have p158 : 0 ≤ (x5_2 : Int) := of_decide_eq_true (by first | (with_reducible assumption) | assumption); have q158 : x5_2 < (l0_1.length : Int) := of_decide_eq_true (by first | (with_reducible assumption) | assumption); obtain ⟨ad158, A158_1, c158_1, e158, hx158_0, hx158_1, hx158_2, hl158_1, hi158_1⟩ := at_T48 HR0_1.out x5_2 p158 q158; obtain rfl : ad153 = ad158 := (by injection e158); replace hx158_0 := (HB.out.cell (World.block_lt_of_cell? w _ hx158_0)).trans hx158_0; replace hx158_1 := (HB.out.cell (World.block_lt_of_cell? w _ hx158_1)).trans hx158_1; replace hx158_2 := (HB.out.cell (World.block_lt_of_cell? w _ hx158_2)).trans hx158_2; have HR158_1 := Aside0.mk hi158_1; have HC158_1 := Aside0.mk hl158_1; clear hi158_1 hl158_1; replace p158 := eq_true p158; replace q158 := eq_true q158; have ea_ := Option.some.inj (hx153_1.symm.trans hx158_1); injection ea_ with ea_ en_ ec_; subst ea_; subst ec_; clear en_; have p159 : 0 ≤ (x5_2 : Int) := of_decide_eq_true (by first | (with_reducible assumption) | assumption); have q159 : x5_2 < (l1_1.length : Int) := of_decide_eq_true (by first | (with_reducible assumption) | assumption); obtain ⟨ad159, A159_1, c159_1, e159, hx159_0, hx159_1, hx159_2, hl159_1, hi159_1⟩ := at_T48 HR1_1.out x5_2 p159 q159; obtain rfl : ad154 = ad159 := (by injection e159); replace hx159_0 := (HB.out.cell (World.block_lt_of_cell? w _ hx159_0)).trans hx159_0; replace hx159_1 := (HB.out.cell (World.block_lt_of_cell? w _ hx159_1)).trans hx159_1; replace hx159_2 := (HB.out.cell (World.block_lt_of_cell? w _ hx159_2)).trans hx159_2; have HR159_1 := Aside0.mk hi159_1; have HC159_1 := Aside0.mk hl159_1; clear hi159_1 hl159_1; replace p159 := eq_true p159; replace q159 := eq_true q159; have ea_ := Option.some.inj (hx154_1.symm.trans hx159_1); injection ea_ with ea_ en_ ec_; subst ea_; subst ec_; clear en_)))
                        go_ret
                        exact ⟨by first | rfl | (simp [errW_none, errW_some] <;> rfl) | (simp [*, errW_none, errW_some] <;> rfl), by repeat (first | (with_reducible first | exact HB.out | apply below_alloc | apply pw_below_drewN | apply below_drew1 | refine below_set ?_ GE151.out | refine below_set ?_ GE152.out) | exact HB.out)⟩
                      · rw [if_neg c20] at H
                        have c20b0 : (((rd_T48 l0_1 x5_2).f2) != ((rd_T48 l1_1 x5_2).f2)) = false := by simpa using c20
                        (try (have c20b1 : decide (((rd_T48 l0_1 x5_2).f2) = ((rd_T48 l1_1 x5_2).f2)) = true := by simpa using c20))
                        (try (have c20b2 : (((rd_T48 l0_1 x5_2).f2) == ((rd_T48 l1_1 x5_2).f2)) = true := by simpa using c20))
                        clear c20
                        have H' := Aside0.mk H
                        clear H
                        have hnb24 := NB151_152.out
                        have hnc24 := NB152_151.out
                        have hcz25_0 : wr.cell? ⟨gb151, 0, none⟩ = some (.int .i64 a0_0) := (blk_cell BK151.out 0).trans rfl
                        have hcz25_1 : wr.cell? ⟨gb151, 1, none⟩ = some (.slice A0_1 l0_1.length c0_1) := (blk_cell BK151.out 1).trans rfl
                        have hfz25_0 := blk_frozen BK151.out 0
                        have hfz25_1 := blk_frozen BK151.out 1
                        have p153 : 0 ≤ (x5_2 : Int) := of_decide_eq_true (by first | (with_reducible assumption) | assumption)
                        have q153 : x5_2 < (l0_1.length : Int) := of_decide_eq_true (by first | (with_reducible assumption) | assumption)
                        obtain ⟨ad153, A153_1, c153_1, e153, hx153_0, hx153_1, hx153_2, hl153_1, hi153_1⟩ := at_T48 HR0_1.out x5_2 p153 q153
                        cases e153
                        replace hx153_0 := (HB.out.cell (World.block_lt_of_cell? w _ hx153_0)).trans hx153_0
                        replace hx153_1 := (HB.out.cell (World.block_lt_of_cell? w _ hx153_1)).trans hx153_1
                        replace hx153_2 := (HB.out.cell (World.block_lt_of_cell? w _ hx153_2)).trans hx153_2
                        have HR153_1 := Aside0.mk hi153_1
                        have HC153_1 := Aside0.mk hl153_1
                        clear hi153_1 hl153_1
                        replace p153 := eq_true p153
                        replace q153 := eq_true q153
                        have hcz26_0 : wr.cell? ⟨gb152, 0, none⟩ = some (.int .i64 a1_0) := (blk_cell BK152.out 0).trans rfl
                        have hcz26_1 : wr.cell? ⟨gb152, 1, none⟩ = some (.slice A1_1 l1_1.length c1_1) := (blk_cell BK152.out 1).trans rfl
                        have hfz26_0 := blk_frozen BK152.out 0
                        have hfz26_1 := blk_frozen BK152.out 1
                        have p154 : 0 ≤ (x5_2 : Int) := of_decide_eq_true (by first | (with_reducible assumption) | assumption)
                        have q154 : x5_2 < (l1_1.length : Int) := of_decide_eq_true (by first | (with_reducible assumption) | assumption)
                        obtain ⟨ad154, A154_1, c154_1, e154, hx154_0, hx154_1, hx154_2, hl154_1, hi154_1⟩ := at_T48 HR1_1.out x5_2 p154 q154
                        cases e154
                        replace hx154_0 := (HB.out.cell (World.block_lt_of_cell? w _ hx154_0)).trans hx154_0
                        replace hx154_1 := (HB.out.cell (World.block_lt_of_cell? w _ hx154_1)).trans hx154_1
                        replace hx154_2 := (HB.out.cell (World.block_lt_of_cell? w _ hx154_2)).trans hx154_2
                        have HR154_1 := Aside0.mk hi154_1
                        have HC154_1 := Aside0.mk hl154_1
                        clear hi154_1 hl154_1
                        replace p154 := eq_true p154
                        replace q154 := eq_true q154
                        go_wp2_with (first | (go_at_call 14; (with_reducible refine (catchwordref01_Bytes.calls k2 _ _ ((rd_T48 l0_1 x5_2).f1) _ _ ((rd_T48 l1_1 x5_2).f1) true _ ?side1 ?side2 ?side3 ?side4 A17.out).mono ?_); (case side1 => repeat (first | exact (Kd.C_below HR153_1.out HB.out) | (with_reducible refine Kd.C_alloc ?_ _) | (with_reducible refine Kd.C_drewN ?_ _) | (with_reducible refine Kd.C_drew ?_))); (case side2 => exact HC153_1.out); (case side3 => repeat (first | exact (Kd.C_below HR154_1.out HB.out) | (with_reducible refine Kd.C_alloc ?_ _) | (with_reducible refine Kd.C_drewN ?_ _) | (with_reducible refine Kd.C_drew ?_))); (case side4 => exact HC154_1.out); rintro e w' ⟨rfl, ⟨nd, rfl⟩⟩; (try first | exact ⟨rfl, _, World.drewN_drewN _ _ _⟩ | exact ⟨rfl, _, Eq.trans (World.drewN_drewN _ _ _) (congrArg (World.drewN _) (Nat.add_assoc _ _ _))⟩); have p156 : 0 ≤ (x5_2 : Int) := of_decide_eq_true (by first | (with_reducible assumption) | assumption); have q156 : x5_2 < (l0_1.length : Int) := of_decide_eq_true (by first | (with_reducible assumption) | assumption); obtain ⟨ad156, A156_1, c156_1, e156, hx156_0, hx156_1, hx156_2, hl156_1, hi156_1⟩ := at_T48 HR0_1.out x5_2 p156 q156; obtain rfl : ad153 = ad156 := (by injection e156); replace hx156_0 := (HB.out.cell (World.block_lt_of_cell? w _ hx156_0)).trans hx156_0; replace hx156_1 := (HB.out.cell (World.block_lt_of_cell? w _ hx156_1)).trans hx156_1; replace hx156_2 := (HB.out.cell (World.block_lt_of_cell? w _ hx156_2)).trans hx156_2; have HR156_1 := Aside0.mk hi156_1; have HC156_1 := Aside0.mk hl156_1; clear hi156_1 hl156_1; replace p156 := eq_true p156; replace q156 := eq_true q156; have ea_ := Option.some.inj (hx153_1.symm.trans hx156_1); injection ea_ with ea_ en_ ec_; subst ea_; subst ec_; clear en_; have p157 : 0 ≤ (x5_2 : Int) := of_decide_eq_true (by first | (with_reducible assumption) | assumption); have q157 : x5_2 < (l1_1.length : Int) := of_decide_eq_true (by first | (with_reducible assumption) | assumption); obtain ⟨ad157, A157_1, c157_1, e157, hx157_0, hx157_1, hx157_2, hl157_1, hi157_1⟩ := at_T48 HR1_1.out x5_2 p157 q157; obtain rfl : ad154 = ad157 := (by injection e157); replace hx157_0 := (HB.out.cell (World.block_lt_of_cell? w _ hx157_0)).trans hx157_0; replace hx157_1 := (HB.out.cell (World.block_lt_of_cell? w _ hx157_1)).trans hx157_1; replace hx157_2 := (HB.out.cell (World.block_lt_of_cell? w _ hx157_2)).trans hx157_2; have HR157_1 := Aside0.mk hi157_1; have HC157_1 := Aside0.mk hl157_1; clear hi157_1 hl157_1; replace p157 := eq_true p157; replace q157 := eq_true q157; have ea_ := Option.some.inj (hx154_1.symm.trans hx157_1); injection ea_ with ea_ en_ ec_; subst ea_; subst ec_; clear en_; have p158 : 0 ≤ (x5_2 : Int) := of_decide_eq_true (by first | (with_reducible assumption) | assumption); have q158 : x5_2 < (l0_1.length : Int) := of_decide_eq_true (by first | (with_reducible assumption) | assumption); obtain ⟨ad158, A158_1, c158_1, e158, hx158_0, hx158_1, hx158_2, hl158_1, hi158_1⟩ := at_T48 HR0_1.out x5_2 p158 q158; obtain rfl : ad153 = ad158 := (by injection e158); replace hx158_0 := (HB.out.cell (World.block_lt_of_cell? w _ hx158_0)).trans hx158_0; replace hx158_1 := (HB.out.cell (World.block_lt_of_cell? w _ hx158_1)).trans hx158_1; replace hx158_2 := (HB.out.cell (World.block_lt_of_cell? w _ hx158_2)).trans hx158_2; have HR158_1 := Aside0.mk hi158_1; have HC158_1 := Aside0.mk hl158_1; clear hi158_1 hl158_1; replace p158 := eq_true p158; replace q158 := eq_true q158; have ea_ := Option.some.inj (hx153_1.symm.trans hx158_1); injection ea_ with ea_ en_ ec_; subst ea_; subst ec_; clear en_; have p159 : 0 ≤ (x5_2 : Int) := of_decide_eq_true (by first | (with_reducible assumption) | assumption); have q159 : x5_2 < (l1_1.length : Int) := of_decide_eq_true (by first | (with_reducible assumption) | assumption); obtain ⟨ad159, A159_1, c159_1, e159, hx159_0, hx159_1, hx159_2, hl159_1, hi159_1⟩ := at_T48 HR1_1.out x5_2 p159 q159; obtain rfl : ad154 = ad159 := (by injection e159); replace hx159_0 := (HB.out.cell (World.block_lt_of_cell? w _ hx159_0)).trans hx159_0; replace hx159_1 := (HB.out.cell (World.block_lt_of_cell? w _ hx159_1)).trans hx159_1; replace hx159_2 := (HB.out.cell (World.block_lt_of_cell? w _ hx159_2)).trans hx159_2; have HR159_1 := Aside0.mk hi159_1; have HC159_1 := Aside0.mk hl159_1; clear hi159_1 hl159_1; replace p159 := eq_true p159; replace q159 := eq_true q159; have ea_ := Option.some.inj (hx154_1.symm.trans hx159_1); injection ea_ with ea_ en_ ec_; subst ea_; subst ec_; clear en_))
                        repeat (go_quiet (first | (go_at_call 14; (with_reducible refine (catchwordref01_Bytes.calls k2 _ _ ((rd_T48 l0_1 x5_2).f1) _ _ ((rd_T48 l1_1 x5_2).f1) true _ ?side1 ?side2 ?side3 ?side4 A17.out).mono ?_); (case side1 => repeat (first | exact (Kd.C_below HR153_1.out HB.out) | (with_reducible refine Kd.C_alloc ?_ _) | (with_reducible refine Kd.C_drewN ?_ _) | (with_reducible refine Kd.C_drew ?_))); (case side2 => exact HC153_1.out); (case side3 => repeat (first | exact (Kd.C_below HR154_1.out HB.out) | (with_reducible refine Kd.C_alloc ?_ _) | (with_reducible refine Kd.C_drewN ?_ _) | (with_reducible refine Kd.C_drew ?_))); (case side4 => exact HC154_1.out); rintro e w' ⟨rfl, ⟨nd, rfl⟩⟩; (try first | exact ⟨rfl, _, World.drewN_drewN _ _ _⟩ | exact ⟨rfl, _, Eq.trans (World.drewN_drewN _ _ _) (congrArg (World.drewN _) (Nat.add_assoc _ _ _))⟩); have p156 : 0 ≤ (x5_2 : Int) := of_decide_eq_true (by first | (with_reducible assumption) | assumption); have q156 : x5_2 < (l0_1.length : Int) := of_decide_eq_true (by first | (with_reducible assumption) | assumption); obtain ⟨ad156, A156_1, c156_1, e156, hx156_0, hx156_1, hx156_2, hl156_1, hi156_1⟩ := at_T48 HR0_1.out x5_2 p156 q156; obtain rfl : ad153 = ad156 := (by injection e156); replace hx156_0 := (HB.out.cell (World.block_lt_of_cell? w _ hx156_0)).trans hx156_0; replace hx156_1 := (HB.out.cell (World.block_lt_of_cell? w _ hx156_1)).trans hx156_1; replace hx156_2 := (HB.out.cell (World.block_lt_of_cell? w _ hx156_2)).trans hx156_2; have HR156_1 := Aside0.mk hi156_1; have HC156_1 := Aside0.mk hl156_1; clear hi156_1 hl156_1; replace p156 := eq_true p156; replace q156 := eq_true q156; have ea_ := Option.some.inj (hx153_1.symm.trans hx156_1); injection ea_ with ea_ en_ ec_; subst ea_; subst ec_; clear en_; have p157 : 0 ≤ (x5_2 : Int) := of_decide_eq_true (by first | (with_reducible assumption) | assumption); have q157 : x5_2 < (l1_1.length : Int) := of_decide_eq_true (by first | (with_reducible assumption) | assumption); obtain ⟨ad157, A157_1, c157_1, e157, hx157_0, hx157_1, hx157_2, hl157_1, hi157_1⟩ := at_T48 HR1_1.out x5_2 p157 q157; obtain rfl : ad154 = ad157 := (by injection e157); replace hx157_0 := (HB.out.cell (World.block_lt_of_cell? w _ hx157_0)).trans hx157_0; replace hx157_1 := (HB.out.cell (World.block_lt_of_cell? w _ hx157_1)).trans hx157_1; replace hx157_2 := (HB.out.cell (World.block_lt_of_cell? w _ hx157_2)).trans hx157_2; have HR157_1 := Aside0.mk hi157_1; have HC157_1 := Aside0.mk hl157_1; clear hi157_1 hl157_1; replace p157 := eq_true p157; replace q157 := eq_true q157; have ea_ := Option.some.inj (hx154_1.symm.trans hx157_1); injection ea_ with ea_ en_ ec_; subst ea_; subst ec_; clear en_; have p158 : 0 ≤ (x5_2 : Int) := of_decide_eq_true (by first | (with_reducible assumption) | assumption); have q158 : x5_2 < (l0_1.length : Int) := of_decide_eq_true (by first | (with_reducible assumption) | assumption); obtain ⟨ad158, A158_1, c158_1, e158, hx158_0, hx158_1, hx158_2, hl158_1, hi158_1⟩ := at_T48 HR0_1.out x5_2 p158 q158; obtain rfl : ad153 = ad158 := (by injection e158); replace hx158_0 := (HB.out.cell (World.block_lt_of_cell? w _ hx158_0)).trans hx158_0; replace hx158_1 := (HB.out.cell (World.block_lt_of_cell? w _ hx158_1)).trans hx158_1; replace hx158_2 := (HB.out.cell (World.block_lt_of_cell? w _ hx158_2)).trans hx158_2; have HR158_1 := Aside0.mk hi158_1; have HC158_1 := Aside0.mk hl158_1; clear hi158_1 hl158_1; replace p158 := eq_true p158; replace q158 := eq_true q158; have ea_ := Option.some.inj (hx153_1.symm.trans hx158_1); injection ea_ with ea_ en_ ec_; subst ea_; subst ec_; clear en_; have p159 : 0 ≤ (x5_2 : Int) := of_decide_eq_true (by first | (with_reducible assumption) | assumption); have q159 : x5_2 < (l1_1.length : Int) := of_decide_eq_true (by first | (with_reducible assumption) | assumption); obtain ⟨ad159, A159_1, c159_1, e159, hx159_0, hx159_1, hx159_2, hl159_1, hi159_1⟩ := at_T48 HR1_1.out x5_2 p159 q159; obtain rfl : ad154 = ad159 := (by injection e159); replace hx159_0 := (HB.out.cell (World.block_lt_of_cell? w _ hx159_0)).trans hx159_0; replace hx159_1 := (HB.out.cell (World.block_lt_of_cell? w _ hx159_1)).trans hx159_1; replace hx159_2 := (HB.out.cell (World.block_lt_of_cell? w _ hx159_2)).trans hx159_2; have HR159_1 := Aside0.mk hi159_1; have HC159_1 := Aside0.mk hl159_1; clear hi159_1 hl159_1; replace p159 := eq_true p159; replace q159 := eq_true q159; have ea_ := Option.some.inj (hx154_1.symm.trans hx159_1); injection ea_ with ea_ en_ ec_; subst ea_; subst ec_; clear en_)); try go_wp2_with (first | (go_at_call 14; (with_reducible refine (catchwordref01_Bytes.calls k2 _ _ ((rd_T48 l0_1 x5_2).f1) _ _ ((rd_T48 l1_1 x5_2).f1) true _ ?side1 ?side2 ?side3 ?side4 A17.out).mono ?_); (case side1 => repeat (first | exact (Kd.C_below HR153_1.out HB.out) | (with_reducible refine Kd.C_alloc ?_ _) | (with_reducible refine Kd.C_drewN ?_ _) | (with_reducible refine Kd.C_drew ?_))); (case side2 => exact HC153_1.out); (case side3 => repeat (first | exact (Kd.C_below HR154_1.out HB.out) | (with_reducible refine Kd.C_alloc ?_ _) | (with_reducible refine Kd.C_drewN ?_ _) | (with_reducible refine Kd.C_drew ?_))); (case side4 => exact HC154_1.out); rintro e w' ⟨rfl, ⟨nd, rfl⟩⟩; (try first | exact ⟨rfl, _, World.drewN_drewN _ _ _⟩ | exact ⟨rfl, _, Eq.trans (World.drewN_drewN _ _ _) (congrArg (World.drewN _) (Nat.add_assoc _ _ _))⟩); have p156 : 0 ≤ (x5_2 : Int) := of_decide_eq_true (by first | (with_reducible assumption) | assumption); have q156 : x5_2 < (l0_1.length : Int) := of_decide_eq_true (by first | (with_reducible assumption) | assumption); obtain ⟨ad156, A156_1, c156_1, e156, hx156_0, hx156_1, hx156_2, hl156_1, hi156_1⟩ := at_T48 HR0_1.out x5_2 p156 q156; obtain rfl : ad153 = ad156 := (by injection e156); replace hx156_0 := (HB.out.cell (World.block_lt_of_cell? w _ hx156_0)).trans hx156_0; replace hx156_1 := (HB.out.cell (World.block_lt_of_cell? w _ hx156_1)).trans hx156_1; replace hx156_2 := (HB.out.cell (World.block_lt_of_cell? w _ hx156_2)).trans hx156_2; have HR156_1 := Aside0.mk hi156_1; have HC156_1 := Aside0.mk hl156_1; clear hi156_1 hl156_1; replace p156 := eq_true p156; replace q156 := eq_true q156; have ea_ := Option.some.inj (hx153_1.symm.trans hx156_1); injection ea_ with ea_ en_ ec_; subst ea_; subst ec_; clear en_; have p157 : 0 ≤ (x5_2 : Int) := of_decide_eq_true (by first | (with_reducible assumption) | assumption); have q157 : x5_2 < (l1_1.length : Int) := of_decide_eq_true (by first | (with_reducible assumption) | assumption); obtain ⟨ad157, A157_1, c157_1, e157, hx157_0, hx157_1, hx157_2, hl157_1, hi157_1⟩ := at_T48 HR1_1.out x5_2 p157 q157; obtain rfl : ad154 = ad157 := (by injection e157); replace hx157_0 := (HB.out.cell (World.block_lt_of_cell? w _ hx157_0)).trans hx157_0; replace hx157_1 := (HB.out.cell (World.block_lt_of_cell? w _ hx157_1)).trans hx157_1; replace hx157_2 := (HB.out.cell (World.block_lt_of_cell? w _ hx157_2)).trans hx157_2; have HR157_1 := Aside0.mk hi157_1; have HC157_1 := Aside0.mk hl157_1; clear hi157_1 hl157_1; replace p157 := eq_true p157; replace q157 := eq_true q157; have ea_ := Option.some.inj (hx154_1.symm.trans hx157_1); injection ea_ with ea_ en_ ec_; subst ea_; subst ec_; clear en_; have p158 : 0 ≤ (x5_2 : Int) := of_decide_eq_true (by first | (with_reducible assumption) | assumption); have q158 : x5_2 < (l0_1.length : Int) := of_decide_eq_true (by first | (with_reducible assumption) | assumption); obtain ⟨ad158, A158_1, c158_1, e158, hx158_0, hx158_1, hx158_2, hl158_1, hi158_1⟩ := at_T48 HR0_1.out x5_2 p158 q158; obtain rfl : ad153 = ad158 := (by injection e158); replace hx158_0 := (HB.out.cell (World.block_lt_of_cell? w _ hx158_0)).trans hx158_0; replace hx158_1 := (HB.out.cell (World.block_lt_of_cell? w _ hx158_1)).trans hx158_1; replace hx158_2 := (HB.out.cell (World.block_lt_of_cell? w _ hx158_2)).trans hx158_2; have HR158_1 := Aside0.mk hi158_1; have HC158_1 := Aside0.mk hl158_1; clear hi158_1 hl158_1; replace p158 := eq_true p158; replace q158 := eq_true q158; have ea_ := Option.some.inj (hx153_1.symm.trans hx158_1); injection ea_ with ea_ en_ ec_; subst ea_; subst ec_; clear en_; have p159 : 0 ≤ (x5_2 : Int) := of_decide_eq_true (by first | (with_reducible assumption) | assumption); have q159 : x5_2 < (l1_1.length : Int) := of_decide_eq_true (by first | (with_reducible assumption) | assumption); obtain ⟨ad159, A159_1, c159_1, e159, hx159_0, hx159_1, hx159_2, hl159_1, hi159_1⟩ := at_T48 HR1_1.out x5_2 p159 q159; obtain rfl : ad154 = ad159 := (by injection e159); replace hx159_0 := (HB.out.cell (World.block_lt_of_cell? w _ hx159_0)).trans hx159_0; replace hx159_1 := (HB.out.cell (World.block_lt_of_cell? w _ hx159_1)).trans hx159_1; replace hx159_2 := (HB.out.cell (World.block_lt_of_cell? w _ hx159_2)).trans hx159_2; have HR159_1 := Aside0.mk hi159_1; have HC159_1 := Aside0.mk hl159_1; clear hi159_1 hl159_1; replace p159 := eq_true p159; replace q159 := eq_true q159; have ea_ := Option.some.inj (hx154_1.symm.trans hx159_1); injection ea_ with ea_ en_ ec_; subst ea_; subst ec_; clear en_)))
                        go_roundg k2
                        case measure => have := HJ2.out; have := HK2.out; omega
                        case rel => exact ⟨(wrap64 (x5_2 + 1)), (by first | rfl | (simp; done) | (simp [*]; done)), H', ⟨by have := HJ2.out; have := HK2.out; omega⟩, ⟨by (with_reducible repeat (first | refine blk_drewN ?_ _ | refine blk_drew ?_ | refine blk_alloc ?_ _)); exact BK151.out⟩, ⟨by (with_reducible repeat (first | refine blk_drewN ?_ _ | refine blk_drew ?_ | refine blk_alloc ?_ _)); exact BK152.out⟩, ⟨by repeat (first | (with_reducible first | exact HB.out | apply below_alloc | apply pw_below_drewN | apply below_drew1 | refine below_set ?_ GE151.out | refine below_set ?_ GE152.out) | exact HB.out)⟩⟩
                    · rw [if_neg c19] at H
                      have c19b0 : (((rd_T48 l0_1 x5_2).f0).toList == ((rd_T48 l1_1 x5_2).f0).toList) = false := beq_eq_false_iff_ne.mpr c19
                      have c19b1 : (((rd_T48 l0_1 x5_2).f0).toList != ((rd_T48 l1_1 x5_2).f0).toList) = true := bne_iff_ne.mpr c19
                      obtain rfl := Option.some.inj H
                      have hnb27 := NB151_152.out
                      have hnc27 := NB152_151.out
                      have hcz28_0 : wr.cell? ⟨gb151, 0, none⟩ = some (.int .i64 a0_0) := (blk_cell BK151.out 0).trans rfl
                      have hcz28_1 : wr.cell? ⟨gb151, 1, none⟩ = some (.slice A0_1 l0_1.length c0_1) := (blk_cell BK151.out 1).trans rfl
                      have hfz28_0 := blk_frozen BK151.out 0
                      have hfz28_1 := blk_frozen BK151.out 1
                      have p153 : 0 ≤ (x5_2 : Int) := of_decide_eq_true (by first | (with_reducible assumption) | assumption)
                      have q153 : x5_2 < (l0_1.length : Int) := of_decide_eq_true (by first | (with_reducible assumption) | assumption)
                      obtain ⟨ad153, A153_1, c153_1, e153, hx153_0, hx153_1, hx153_2, hl153_1, hi153_1⟩ := at_T48 HR0_1.out x5_2 p153 q153
                      cases e153
                      replace hx153_0 := (HB.out.cell (World.block_lt_of_cell? w _ hx153_0)).trans hx153_0
                      replace hx153_1 := (HB.out.cell (World.block_lt_of_cell? w _ hx153_1)).trans hx153_1
                      replace hx153_2 := (HB.out.cell (World.block_lt_of_cell? w _ hx153_2)).trans hx153_2
                      have HR153_1 := Aside0.mk hi153_1
                      have HC153_1 := Aside0.mk hl153_1
                      clear hi153_1 hl153_1
                      replace p153 := eq_true p153
                      replace q153 := eq_true q153
                      have hcz29_0 : wr.cell? ⟨gb152, 0, none⟩ = some (.int .i64 a1_0) := (blk_cell BK152.out 0).trans rfl
                      have hcz29_1 : wr.cell? ⟨gb152, 1, none⟩ = some (.slice A1_1 l1_1.length c1_1) := (blk_cell BK152.out 1).trans rfl
                      have hfz29_0 := blk_frozen BK152.out 0
                      have hfz29_1 := blk_frozen BK152.out 1
                      have p154 : 0 ≤ (x5_2 : Int) := of_decide_eq_true (by first | (with_reducible assumption) | assumption)
                      have q154 : x5_2 < (l1_1.length : Int) := of_decide_eq_true (by first | (with_reducible assumption) | assumption)
                      obtain ⟨ad154, A154_1, c154_1, e154, hx154_0, hx154_1, hx154_2, hl154_1, hi154_1⟩ := at_T48 HR1_1.out x5_2 p154 q154
                      cases e154
                      replace hx154_0 := (HB.out.cell (World.block_lt_of_cell? w _ hx154_0)).trans hx154_0
                      replace hx154_1 := (HB.out.cell (World.block_lt_of_cell? w _ hx154_1)).trans hx154_1
                      replace hx154_2 := (HB.out.cell (World.block_lt_of_cell? w _ hx154_2)).trans hx154_2
                      have HR154_1 := Aside0.mk hi154_1
                      have HC154_1 := Aside0.mk hl154_1
                      clear hi154_1 hl154_1
                      replace p154 := eq_true p154
                      replace q154 := eq_true q154
                      go_wp2_with (first | (go_at_call 14; (with_reducible refine (catchwordref01_Bytes.calls k2 _ _ ((rd_T48 l0_1 x5_2).f1) _ _ ((rd_T48 l1_1 x5_2).f1) true _ ?side1 ?side2 ?side3 ?side4 A17.out).mono ?_); (case side1 => repeat (first | exact (Kd.C_below HR153_1.out HB.out) | (with_reducible refine Kd.C_alloc ?_ _) | (with_reducible refine Kd.C_drewN ?_ _) | (with_reducible refine Kd.C_drew ?_))); (case side2 => exact HC153_1.out); (case side3 => repeat (first | exact (Kd.C_below HR154_1.out HB.out) | (with_reducible refine Kd.C_alloc ?_ _) | (with_reducible refine Kd.C_drewN ?_ _) | (with_reducible refine Kd.C_drew ?_))); (case side4 => exact HC154_1.out); rintro e w' ⟨rfl, ⟨nd, rfl⟩⟩; (try first | exact ⟨rfl, _, World.drewN_drewN _ _ _⟩ | exact ⟨rfl, _, Eq.trans (World.drewN_drewN _ _ _) (congrArg (World.drewN _) (Nat.add_assoc _ _ _))⟩); have p156 : 0 ≤ (x5_2 : Int) := of_decide_eq_true (by first | (with_reducible assumption) | assumption); have q156 : x5_2 < (l0_1.length : Int) := of_decide_eq_true (by first | (with_reducible assumption) | assumption); obtain ⟨ad156, A156_1, c156_1, e156, hx156_0, hx156_1, hx156_2, hl156_1, hi156_1⟩ := at_T48 HR0_1.out x5_2 p156 q156; obtain rfl : ad153 = ad156 := (by injection e156); replace hx156_0 := (HB.out.cell (World.block_lt_of_cell? w _ hx156_0)).trans hx156_0; replace hx156_1 := (HB.out.cell (World.block_lt_of_cell? w _ hx156_1)).trans hx156_1; replace hx156_2 := (HB.out.cell (World.block_lt_of_cell? w _ hx156_2)).trans hx156_2; have HR156_1 := Aside0.mk hi156_1; have HC156_1 := Aside0.mk hl156_1; clear hi156_1 hl156_1; replace p156 := eq_true p156; replace q156 := eq_true q156; have ea_ := Option.some.inj (hx153_1.symm.trans hx156_1); injection ea_ with ea_ en_ ec_; subst ea_; subst ec_; clear en_; have p157 : 0 ≤ (x5_2 : Int) := of_decide_eq_true (by first | (with_reducible assumption) | assumption); have q157 : x5_2 < (l1_1.length : Int) := of_decide_eq_true (by first | (with_reducible assumption) | assumption); obtain ⟨ad157, A157_1, c157_1, e157, hx157_0, hx157_1, hx157_2, hl157_1, hi157_1⟩ := at_T48 HR1_1.out x5_2 p157 q157; obtain rfl : ad154 = ad157 := (by injection e157); replace hx157_0 := (HB.out.cell (World.block_lt_of_cell? w _ hx157_0)).trans hx157_0; replace hx157_1 := (HB.out.cell (World.block_lt_of_cell? w _ hx157_1)).trans hx157_1; replace hx157_2 := (HB.out.cell (World.block_lt_of_cell? w _ hx157_2)).trans hx157_2; have HR157_1 := Aside0.mk hi157_1; have HC157_1 := Aside0.mk hl157_1; clear hi157_1 hl157_1; replace p157 := eq_true p157; replace q157 := eq_true q157; have ea_ := Option.some.inj (hx154_1.symm.trans hx157_1); injection ea_ with ea_ en_ ec_; subst ea_; subst ec_; clear en_))
                      repeat (go_quiet (first | (go_at_call 14; (with_reducible refine (catchwordref01_Bytes.calls k2 _ _ ((rd_T48 l0_1 x5_2).f1) _ _ ((rd_T48 l1_1 x5_2).f1) true _ ?side1 ?side2 ?side3 ?side4 A17.out).mono ?_); (case side1 => repeat (first | exact (Kd.C_below HR153_1.out HB.out) | (with_reducible refine Kd.C_alloc ?_ _) | (with_reducible refine Kd.C_drewN ?_ _) | (with_reducible refine Kd.C_drew ?_))); (case side2 => exact HC153_1.out); (case side3 => repeat (first | exact (Kd.C_below HR154_1.out HB.out) | (with_reducible refine Kd.C_alloc ?_ _) | (with_reducible refine Kd.C_drewN ?_ _) | (with_reducible refine Kd.C_drew ?_))); (case side4 => exact HC154_1.out); rintro e w' ⟨rfl, ⟨nd, rfl⟩⟩; (try first | exact ⟨rfl, _, World.drewN_drewN _ _ _⟩ | exact ⟨rfl, _, Eq.trans (World.drewN_drewN _ _ _) (congrArg (World.drewN _) (Nat.add_assoc _ _ _))⟩); have p156 : 0 ≤ (x5_2 : Int) := of_decide_eq_true (by first | (with_reducible assumption) | assumption); have q156 : x5_2 < (l0_1.length : Int) := of_decide_eq_true (by first | (with_reducible assumption) | assumption); obtain ⟨ad156, A156_1, c156_1, e156, hx156_0, hx156_1, hx156_2, hl156_1, hi156_1⟩ := at_T48 HR0_1.out x5_2 p156 q156; obtain rfl : ad153 = ad156 := (by injection e156); replace hx156_0 := (HB.out.cell (World.block_lt_of_cell? w _ hx156_0)).trans hx156_0; replace hx156_1 := (HB.out.cell (World.block_lt_of_cell? w _ hx156_1)).trans hx156_1; replace hx156_2 := (HB.out.cell (World.block_lt_of_cell? w _ hx156_2)).trans hx156_2; have HR156_1 := Aside0.mk hi156_1; have HC156_1 := Aside0.mk hl156_1; clear hi156_1 hl156_1; replace p156 := eq_true p156; replace q156 := eq_true q156; have ea_ := Option.some.inj (hx153_1.symm.trans hx156_1); injection ea_ with ea_ en_ ec_; subst ea_; subst ec_; clear en_; have p157 : 0 ≤ (x5_2 : Int) := of_decide_eq_true (by first | (with_reducible assumption) | assumption); have q157 : x5_2 < (l1_1.length : Int) := of_decide_eq_true (by first | (with_reducible assumption) | assumption); obtain ⟨ad157, A157_1, c157_1, e157, hx157_0, hx157_1, hx157_2, hl157_1, hi157_1⟩ := at_T48 HR1_1.out x5_2 p157 q157; obtain rfl : ad154 = ad157 := (by injection e157); replace hx157_0 := (HB.out.cell (World.block_lt_of_cell? w _ hx157_0)).trans hx157_0; replace hx157_1 := (HB.out.cell (World.block_lt_of_cell? w _ hx157_1)).trans hx157_1; replace hx157_2 := (HB.out.cell (World.block_lt_of_cell? w _ hx157_2)).trans hx157_2; have HR157_1 := Aside0.mk hi157_1; have HC157_1 := Aside0.mk hl157_1; clear hi157_1 hl157_1; replace p157 := eq_true p157; replace q157 := eq_true q157; have ea_ := Option.some.inj (hx154_1.symm.trans hx157_1); injection ea_ with ea_ en_ ec_; subst ea_; subst ec_; clear en_)); try go_wp2_with (first | (go_at_call 14; (with_reducible refine (catchwordref01_Bytes.calls k2 _ _ ((rd_T48 l0_1 x5_2).f1) _ _ ((rd_T48 l1_1 x5_2).f1) true _ ?side1 ?side2 ?side3 ?side4 A17.out).mono ?_); (case side1 => repeat (first | exact (Kd.C_below HR153_1.out HB.out) | (with_reducible refine Kd.C_alloc ?_ _) | (with_reducible refine Kd.C_drewN ?_ _) | (with_reducible refine Kd.C_drew ?_))); (case side2 => exact HC153_1.out); (case side3 => repeat (first | exact (Kd.C_below HR154_1.out HB.out) | (with_reducible refine Kd.C_alloc ?_ _) | (with_reducible refine Kd.C_drewN ?_ _) | (with_reducible refine Kd.C_drew ?_))); (case side4 => exact HC154_1.out); rintro e w' ⟨rfl, ⟨nd, rfl⟩⟩; (try first | exact ⟨rfl, _, World.drewN_drewN _ _ _⟩ | exact ⟨rfl, _, Eq.trans (World.drewN_drewN _ _ _) (congrArg (World.drewN _) (Nat.add_assoc _ _ _))⟩); have p156 : 0 ≤ (x5_2 : Int) := of_decide_eq_true (by first | (with_reducible assumption) | assumption); have q156 : x5_2 < (l0_1.length : Int) := of_decide_eq_true (by first | (with_reducible assumption) | assumption); obtain ⟨ad156, A156_1, c156_1, e156, hx156_0, hx156_1, hx156_2, hl156_1, hi156_1⟩ := at_T48 HR0_1.out x5_2 p156 q156; obtain rfl : ad153 = ad156 := (by injection e156); replace hx156_0 := (HB.out.cell (World.block_lt_of_cell? w _ hx156_0)).trans hx156_0; replace hx156_1 := (HB.out.cell (World.block_lt_of_cell? w _ hx156_1)).trans hx156_1; replace hx156_2 := (HB.out.cell (World.block_lt_of_cell? w _ hx156_2)).trans hx156_2; have HR156_1 := Aside0.mk hi156_1; have HC156_1 := Aside0.mk hl156_1; clear hi156_1 hl156_1; replace p156 := eq_true p156; replace q156 := eq_true q156; have ea_ := Option.some.inj (hx153_1.symm.trans hx156_1); injection ea_ with ea_ en_ ec_; subst ea_; subst ec_; clear en_; have p157 : 0 ≤ (x5_2 : Int) := of_decide_eq_true (by first | (with_reducible assumption) | assumption); have q157 : x5_2 < (l1_1.length : Int) := of_decide_eq_true (by first | (with_reducible assumption) | assumption); obtain ⟨ad157, A157_1, c157_1, e157, hx157_0, hx157_1, hx157_2, hl157_1, hi157_1⟩ := at_T48 HR1_1.out x5_2 p157 q157; obtain rfl : ad154 = ad157 := (by injection e157); replace hx157_0 := (HB.out.cell (World.block_lt_of_cell? w _ hx157_0)).trans hx157_0; replace hx157_1 := (HB.out.cell (World.block_lt_of_cell? w _ hx157_1)).trans hx157_1; replace hx157_2 := (HB.out.cell (World.block_lt_of_cell? w _ hx157_2)).trans hx157_2; have HR157_1 := Aside0.mk hi157_1; have HC157_1 := Aside0.mk hl157_1; clear hi157_1 hl157_1; replace p157 := eq_true p157; replace q157 := eq_true q157; have ea_ := Option.some.inj (hx154_1.symm.trans hx157_1); injection ea_ with ea_ en_ ec_; subst ea_; subst ec_; clear en_)))
                      go_ret
                      exact ⟨by first | rfl | (simp [errW_none, errW_some] <;> rfl) | (simp [*, errW_none, errW_some] <;> rfl), by repeat (first | (with_reducible first | exact HB.out | apply below_alloc | apply pw_below_drewN | apply below_drew1 | refine below_set ?_ GE151.out | refine below_set ?_ GE152.out) | exact HB.out)⟩
                  · replace c18 := Bool.eq_false_iff.mpr c18
                    subst c18
                    have H1 : (some false) = some r := by rw [if_neg (show ¬ (false = true) by decide)] at H; exact H
                    clear H
                    have H := H1
                    clear H1
                    obtain rfl := Option.some.inj H
                    have hnb30 := NB151_152.out
                    have hnc30 := NB152_151.out
                    have hcz31_0 : wr.cell? ⟨gb151, 0, none⟩ = some (.int .i64 a0_0) := (blk_cell BK151.out 0).trans rfl
                    have hcz31_1 : wr.cell? ⟨gb151, 1, none⟩ = some (.slice A0_1 l0_1.length c0_1) := (blk_cell BK151.out 1).trans rfl
                    have hfz31_0 := blk_frozen BK151.out 0
                    have hfz31_1 := blk_frozen BK151.out 1
                    have p153 : 0 ≤ (x5_2 : Int) := of_decide_eq_true (by first | (with_reducible assumption) | assumption)
                    have q153 : x5_2 < (l0_1.length : Int) := of_decide_eq_true (by first | (with_reducible assumption) | assumption)
                    obtain ⟨ad153, A153_1, c153_1, e153, hx153_0, hx153_1, hx153_2, hl153_1, hi153_1⟩ := at_T48 HR0_1.out x5_2 p153 q153
                    cases e153
                    replace hx153_0 := (HB.out.cell (World.block_lt_of_cell? w _ hx153_0)).trans hx153_0
                    replace hx153_1 := (HB.out.cell (World.block_lt_of_cell? w _ hx153_1)).trans hx153_1
                    replace hx153_2 := (HB.out.cell (World.block_lt_of_cell? w _ hx153_2)).trans hx153_2
                    have HR153_1 := Aside0.mk hi153_1
                    have HC153_1 := Aside0.mk hl153_1
                    clear hi153_1 hl153_1
                    replace p153 := eq_true p153
                    replace q153 := eq_true q153
                    have hcz32_0 : wr.cell? ⟨gb152, 0, none⟩ = some (.int .i64 a1_0) := (blk_cell BK152.out 0).trans rfl
                    have hcz32_1 : wr.cell? ⟨gb152, 1, none⟩ = some (.slice A1_1 l1_1.length c1_1) := (blk_cell BK152.out 1).trans rfl
                    have hfz32_0 := blk_frozen BK152.out 0
                    have hfz32_1 := blk_frozen BK152.out 1
                    have p154 : 0 ≤ (x5_2 : Int) := of_decide_eq_true (by first | (with_reducible assumption) | assumption)
                    have q154 : x5_2 < (l1_1.length : Int) := of_decide_eq_true (by first | (with_reducible assumption) | assumption)
                    obtain ⟨ad154, A154_1, c154_1, e154, hx154_0, hx154_1, hx154_2, hl154_1, hi154_1⟩ := at_T48 HR1_1.out x5_2 p154 q154
                    cases e154
                    replace hx154_0 := (HB.out.cell (World.block_lt_of_cell? w _ hx154_0)).trans hx154_0
                    replace hx154_1 := (HB.out.cell (World.block_lt_of_cell? w _ hx154_1)).trans hx154_1
                    replace hx154_2 := (HB.out.cell (World.block_lt_of_cell? w _ hx154_2)).trans hx154_2
                    have HR154_1 := Aside0.mk hi154_1
                    have HC154_1 := Aside0.mk hl154_1
                    clear hi154_1 hl154_1
                    replace p154 := eq_true p154
                    replace q154 := eq_true q154
                    go_wp2_with (first | (go_at_call 14; (with_reducible refine (catchwordref01_Bytes.calls k2 _ _ ((rd_T48 l0_1 x5_2).f1) _ _ ((rd_T48 l1_1 x5_2).f1) false _ ?side1 ?side2 ?side3 ?side4 A17.out).mono ?_); (case side1 => repeat (first | exact (Kd.C_below HR153_1.out HB.out) | (with_reducible refine Kd.C_alloc ?_ _) | (with_reducible refine Kd.C_drewN ?_ _) | (with_reducible refine Kd.C_drew ?_))); (case side2 => exact HC153_1.out); (case side3 => repeat (first | exact (Kd.C_below HR154_1.out HB.out) | (with_reducible refine Kd.C_alloc ?_ _) | (with_reducible refine Kd.C_drewN ?_ _) | (with_reducible refine Kd.C_drew ?_))); (case side4 => exact HC154_1.out); rintro e w' ⟨rfl, ⟨nd, rfl⟩⟩; (try first | exact ⟨rfl, _, World.drewN_drewN _ _ _⟩ | exact ⟨rfl, _, Eq.trans (World.drewN_drewN _ _ _) (congrArg (World.drewN _) (Nat.add_assoc _ _ _))⟩)))
                    repeat (go_quiet (first | (go_at_call 14; (with_reducible refine (catchwordref01_Bytes.calls k2 _ _ ((rd_T48 l0_1 x5_2).f1) _ _ ((rd_T48 l1_1 x5_2).f1) false _ ?side1 ?side2 ?side3 ?side4 A17.out).mono ?_); (case side1 => repeat (first | exact (Kd.C_below HR153_1.out HB.out) | (with_reducible refine Kd.C_alloc ?_ _) | (with_reducible refine Kd.C_drewN ?_ _) | (with_reducible refine Kd.C_drew ?_))); (case side2 => exact HC153_1.out); (case side3 => repeat (first | exact (Kd.C_below HR154_1.out HB.out) | (with_reducible refine Kd.C_alloc ?_ _) | (with_reducible refine Kd.C_drewN ?_ _) | (with_reducible refine Kd.C_drew ?_))); (case side4 => exact HC154_1.out); rintro e w' ⟨rfl, ⟨nd, rfl⟩⟩; (try first | exact ⟨rfl, _, World.drewN_drewN _ _ _⟩ | exact ⟨rfl, _, Eq.trans (World.drewN_drewN _ _ _) (congrArg (World.drewN _) (Nat.add_assoc _ _ _))⟩))); try go_wp2_with (first | (go_at_call 14; (with_reducible refine (catchwordref01_Bytes.calls k2 _ _ ((rd_T48 l0_1 x5_2).f1) _ _ ((rd_T48 l1_1 x5_2).f1) false _ ?side1 ?side2 ?side3 ?side4 A17.out).mono ?_); (case side1 => repeat (first | exact (Kd.C_below HR153_1.out HB.out) | (with_reducible refine Kd.C_alloc ?_ _) | (with_reducible refine Kd.C_drewN ?_ _) | (with_reducible refine Kd.C_drew ?_))); (case side2 => exact HC153_1.out); (case side3 => repeat (first | exact (Kd.C_below HR154_1.out HB.out) | (with_reducible refine Kd.C_alloc ?_ _) | (with_reducible refine Kd.C_drewN ?_ _) | (with_reducible refine Kd.C_drew ?_))); (case side4 => exact HC154_1.out); rintro e w' ⟨rfl, ⟨nd, rfl⟩⟩; (try first | exact ⟨rfl, _, World.drewN_drewN _ _ _⟩ | exact ⟨rfl, _, Eq.trans (World.drewN_drewN _ _ _) (congrArg (World.drewN _) (Nat.add_assoc _ _ _))⟩))))
                    go_ret
                    exact ⟨by first | rfl | (simp [errW_none, errW_some] <;> rfl) | (simp [*, errW_none, errW_some] <;> rfl), by repeat (first | (with_reducible first | exact HB.out | apply below_alloc | apply pw_below_drewN | apply below_drew1 | refine below_set ?_ GE151.out | refine below_set ?_ GE152.out) | exact HB.out)⟩
                · rw [if_neg c16] at H
                  exact absurd H (by simp)
              · rw [if_neg c15] at H
                exact absurd H (by simp)
            · rw [if_neg c14] at H
              have c14b0 : decide (x5_2 < (l0_1.length : Int)) = false := decide_eq_false c14
              clear c14
              obtain rfl := Option.some.inj H
              have hnb33 := NB151_152.out
              have hnc33 := NB152_151.out
              have hcz34_0 : wr.cell? ⟨gb151, 0, none⟩ = some (.int .i64 a0_0) := (blk_cell BK151.out 0).trans rfl
              have hcz34_1 : wr.cell? ⟨gb151, 1, none⟩ = some (.slice A0_1 l0_1.length c0_1) := (blk_cell BK151.out 1).trans rfl
              have hfz34_0 := blk_frozen BK151.out 0
              have hfz34_1 := blk_frozen BK151.out 1
              go_wp2
              repeat (go_quiet (fail); try go_wp2)
              go_ret
              exact ⟨by first | rfl | (simp [errW_none, errW_some] <;> rfl) | (simp [*, errW_none, errW_some] <;> rfl), by repeat (first | (with_reducible first | exact HB.out | apply below_alloc | apply pw_below_drewN | apply below_drew1 | refine below_set ?_ GE151.out | refine below_set ?_ GE152.out) | exact HB.out)⟩
end Go.Proofs.Ytaldbabkdoabkaa.T
