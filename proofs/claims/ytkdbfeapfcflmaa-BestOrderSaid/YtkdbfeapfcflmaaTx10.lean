/- Written by hp.py, this session's own program, out of the translation of this seat: Lean functions for the Go functions, and the proof that each call comes to what its Lean function says. -/
import Derived.Test.YtkdbfeapfcflmaaTx0
import Derived.Test.YtkdbfeapfcflmaaTx3
import Derived.Test.YtkdbfeapfcflmaaAw
import Derived.Test.YtkdbfeapfcflmaaMa
namespace Go.Proofs.Ytkdbfeapfcflmaa.T
open Go.RowKit Go.Proofs.YtkdbfeapfcflmaaW.PrintWords Go.Proofs.YtkdbfeapfcflmaaW.PrintLast Go.Proofs.YtkdbfeapfcflmaaW.PrintMore
attribute [local go_sem] max2_int min2_int max_two min_two max_three min_three max_four min_four   -- for this text's walks alone
set_option linter.unusedVariables false
set_option linter.unusedSimpArgs false

/-! ### catchwordlaw20_BestOrder: function 5 -/
mutual
def catchwordlaw20_BestOrder.j0 : Nat → Bool → Bool → ByteArray → Int → Int → Int → ByteArray → Int → Int → Int → ByteArray → Int → Int → Int → Option (Bool)
  | 0, _, _, _, _, _, _, _, _, _, _, _, _, _, _ => none
  | k + 1, x7, x21, x239000, x239001, x239002, x239003, x240000, x240001, x240002, x240003, x241000, x241001, x241002, x241003 => if x21 = true then (some x7) else ((best_Ahead.f k x239000 x239001 x239002 x239003 x240000 x240001 x240002 x240003).bind fun t246 => ((best_Ahead.f k x240000 x240001 x240002 x240003 x239000 x239001 x239002 x239003).bind fun t247 => (if (t246 != t247) = true then ((best_Sooner.f x239000 x239001 x239002 x239003 x240000 x240001 x240002 x240003).bind fun t248 => ((best_Sooner.f x240000 x240001 x240002 x240003 x239000 x239001 x239002 x239003).bind fun t249 => (catchwordlaw20_BestOrder.j1 k (t248 != t249) x239000 x239001 x239002 x239003 x240000 x240001 x240002 x240003 x241000 x241001 x241002 x241003))) else (catchwordlaw20_BestOrder.j1 k false x239000 x239001 x239002 x239003 x240000 x240001 x240002 x240003 x241000 x241001 x241002 x241003))))
def catchwordlaw20_BestOrder.j1 : Nat → Bool → ByteArray → Int → Int → Int → ByteArray → Int → Int → Int → ByteArray → Int → Int → Int → Option (Bool)
  | 0, _, _, _, _, _, _, _, _, _, _, _, _, _ => none
  | k + 1, x8, x239000, x239001, x239002, x239003, x240000, x240001, x240002, x240003, x241000, x241001, x241002, x241003 => (best_Ahead.f k x239000 x239001 x239002 x239003 x240000 x240001 x240002 x240003).bind fun t250 => (if t250 = true then ((best_Ahead.f k x240000 x240001 x240002 x240003 x241000 x241001 x241002 x241003).bind fun t251 => (if t251 = true then ((best_Ahead.f k x239000 x239001 x239002 x239003 x241000 x241001 x241002 x241003).bind fun t252 => (catchwordlaw20_BestOrder.j2 k x8 t252 x239000 x239001 x239002 x239003 x240000 x240001 x240002 x240003 x241000 x241001 x241002 x241003)) else (catchwordlaw20_BestOrder.j2 k x8 true x239000 x239001 x239002 x239003 x240000 x240001 x240002 x240003 x241000 x241001 x241002 x241003))) else (catchwordlaw20_BestOrder.j2 k x8 true x239000 x239001 x239002 x239003 x240000 x240001 x240002 x240003 x241000 x241001 x241002 x241003))
def catchwordlaw20_BestOrder.j2 : Nat → Bool → Bool → ByteArray → Int → Int → Int → ByteArray → Int → Int → Int → ByteArray → Int → Int → Int → Option (Bool)
  | 0, _, _, _, _, _, _, _, _, _, _, _, _, _, _ => none
  | k + 1, x8, x9, x239000, x239001, x239002, x239003, x240000, x240001, x240002, x240003, x241000, x241001, x241002, x241003 => (best_Sooner.f x239000 x239001 x239002 x239003 x240000 x240001 x240002 x240003).bind fun t253 => (if t253 = true then ((best_Sooner.f x240000 x240001 x240002 x240003 x241000 x241001 x241002 x241003).bind fun t254 => (if t254 = true then ((best_Sooner.f x239000 x239001 x239002 x239003 x241000 x241001 x241002 x241003).bind fun t255 => (if x8 = true then (if x9 = true then (if t255 = true then ((best_Ahead.f k x239000 x239001 x239002 x239003 x239000 x239001 x239002 x239003).bind fun t256 => (if t256 = true then (some false) else ((best_Sooner.f x239000 x239001 x239002 x239003 x239000 x239001 x239002 x239003).bind fun t257 => (some (!t257))))) else (some false)) else (some false)) else (some false))) else (if x8 = true then (if x9 = true then ((best_Ahead.f k x239000 x239001 x239002 x239003 x239000 x239001 x239002 x239003).bind fun t258 => (if t258 = true then (some false) else ((best_Sooner.f x239000 x239001 x239002 x239003 x239000 x239001 x239002 x239003).bind fun t259 => (some (!t259))))) else (some false)) else (some false)))) else (if x8 = true then (if x9 = true then ((best_Ahead.f k x239000 x239001 x239002 x239003 x239000 x239001 x239002 x239003).bind fun t260 => (if t260 = true then (some false) else ((best_Sooner.f x239000 x239001 x239002 x239003 x239000 x239001 x239002 x239003).bind fun t261 => (some (!t261))))) else (some false)) else (some false)))
end
def catchwordlaw20_BestOrder.f (k : Nat) (a0_0 : ByteArray) (a0_1 : Int) (a0_2 : Int) (a0_3 : Int) (a1_0 : ByteArray) (a1_1 : Int) (a1_2 : Int) (a1_3 : Int) (a2_0 : ByteArray) (a2_1 : Int) (a2_2 : Int) (a2_3 : Int) : Option (Bool) := (catchwordlaw20_awake.f).bind fun t241 => (if t241 = true then ((best_May.f k (([(⟨a0_0, a0_1, (⟨a0_2, a0_3⟩ : S25)⟩ : S27), (⟨a1_0, a1_1, (⟨a1_2, a1_3⟩ : S25)⟩ : S27), (⟨a2_0, a2_1, (⟨a2_2, a2_3⟩ : S25)⟩ : S27)] : List (S27)))).bind fun t245 => (catchwordlaw20_BestOrder.j0 k t241 (!t245) a0_0 a0_1 a0_2 a0_3 a1_0 a1_1 a1_2 a1_3 a2_0 a2_1 a2_2 a2_3)) else (catchwordlaw20_BestOrder.j0 k t241 true a0_0 a0_1 a0_2 a0_3 a1_0 a1_1 a1_2 a1_3 a2_0 a2_1 a2_2 a2_3))
theorem catchwordlaw20_BestOrder.mono_l : ∀ k, (∀ y0 y1 y2 y3 y4 y5 y6 y7 y8 y9 y10 y11 y12 y13, LeO (catchwordlaw20_BestOrder.j0 k y0 y1 y2 y3 y4 y5 y6 y7 y8 y9 y10 y11 y12 y13) (catchwordlaw20_BestOrder.j0 (k + 1) y0 y1 y2 y3 y4 y5 y6 y7 y8 y9 y10 y11 y12 y13)) ∧ (∀ y0 y1 y2 y3 y4 y5 y6 y7 y8 y9 y10 y11 y12, LeO (catchwordlaw20_BestOrder.j1 k y0 y1 y2 y3 y4 y5 y6 y7 y8 y9 y10 y11 y12) (catchwordlaw20_BestOrder.j1 (k + 1) y0 y1 y2 y3 y4 y5 y6 y7 y8 y9 y10 y11 y12)) ∧ (∀ y0 y1 y2 y3 y4 y5 y6 y7 y8 y9 y10 y11 y12 y13, LeO (catchwordlaw20_BestOrder.j2 k y0 y1 y2 y3 y4 y5 y6 y7 y8 y9 y10 y11 y12 y13) (catchwordlaw20_BestOrder.j2 (k + 1) y0 y1 y2 y3 y4 y5 y6 y7 y8 y9 y10 y11 y12 y13))
  | 0 => ⟨fun _ _ _ _ _ _ _ _ _ _ _ _ _ _ r h => by simp [catchwordlaw20_BestOrder.j0] at h, fun _ _ _ _ _ _ _ _ _ _ _ _ _ r h => by simp [catchwordlaw20_BestOrder.j1] at h, fun _ _ _ _ _ _ _ _ _ _ _ _ _ _ r h => by simp [catchwordlaw20_BestOrder.j2] at h⟩
  | k + 1 => by
    obtain ⟨ih0, ih1, ih2⟩ := catchwordlaw20_BestOrder.mono_l k
    refine ⟨?_, ?_, ?_⟩
    · intro y0 y1 y2 y3 y4 y5 y6 y7 y8 y9 y10 y11 y12 y13
      unfold catchwordlaw20_BestOrder.j0
      repeat' first
      | (with_reducible exact ih0 _ _ _ _ _ _ _ _ _ _ _ _ _ _)
      | (with_reducible exact ih1 _ _ _ _ _ _ _ _ _ _ _ _ _)
      | (with_reducible exact ih2 _ _ _ _ _ _ _ _ _ _ _ _ _ _)
      | (with_reducible exact best_Ahead.mono _ _ _ _ _ _ _ _ _)
      | (with_reducible exact best_May.mono _ _)
      | (with_reducible exact LeO.refl _)
      | (with_reducible exact LeO.none _)
      | (with_reducible refine LeO.ite ?_ ?_)
      | (with_reducible refine LeO.bind ?_ (fun _ => ?_))
      | exact ih0 _ _ _ _ _ _ _ _ _ _ _ _ _ _
      | exact ih1 _ _ _ _ _ _ _ _ _ _ _ _ _
      | exact ih2 _ _ _ _ _ _ _ _ _ _ _ _ _ _
      | exact best_Ahead.mono _ _ _ _ _ _ _ _ _
      | exact best_May.mono _ _
      | exact LeO.none _
      | refine LeO.ite ?_ ?_
      | refine LeO.bind ?_ (fun _ => ?_)
    · intro y0 y1 y2 y3 y4 y5 y6 y7 y8 y9 y10 y11 y12
      unfold catchwordlaw20_BestOrder.j1
      repeat' first
      | (with_reducible exact ih0 _ _ _ _ _ _ _ _ _ _ _ _ _ _)
      | (with_reducible exact ih1 _ _ _ _ _ _ _ _ _ _ _ _ _)
      | (with_reducible exact ih2 _ _ _ _ _ _ _ _ _ _ _ _ _ _)
      | (with_reducible exact best_Ahead.mono _ _ _ _ _ _ _ _ _)
      | (with_reducible exact best_May.mono _ _)
      | (with_reducible exact LeO.refl _)
      | (with_reducible exact LeO.none _)
      | (with_reducible refine LeO.ite ?_ ?_)
      | (with_reducible refine LeO.bind ?_ (fun _ => ?_))
      | exact ih0 _ _ _ _ _ _ _ _ _ _ _ _ _ _
      | exact ih1 _ _ _ _ _ _ _ _ _ _ _ _ _
      | exact ih2 _ _ _ _ _ _ _ _ _ _ _ _ _ _
      | exact best_Ahead.mono _ _ _ _ _ _ _ _ _
      | exact best_May.mono _ _
      | exact LeO.none _
      | refine LeO.ite ?_ ?_
      | refine LeO.bind ?_ (fun _ => ?_)
    · intro y0 y1 y2 y3 y4 y5 y6 y7 y8 y9 y10 y11 y12 y13
      unfold catchwordlaw20_BestOrder.j2
      repeat' first
      | (with_reducible exact ih0 _ _ _ _ _ _ _ _ _ _ _ _ _ _)
      | (with_reducible exact ih1 _ _ _ _ _ _ _ _ _ _ _ _ _)
      | (with_reducible exact ih2 _ _ _ _ _ _ _ _ _ _ _ _ _ _)
      | (with_reducible exact best_Ahead.mono _ _ _ _ _ _ _ _ _)
      | (with_reducible exact best_May.mono _ _)
      | (with_reducible exact LeO.refl _)
      | (with_reducible exact LeO.none _)
      | (with_reducible refine LeO.ite ?_ ?_)
      | (with_reducible refine LeO.bind ?_ (fun _ => ?_))
      | exact ih0 _ _ _ _ _ _ _ _ _ _ _ _ _ _
      | exact ih1 _ _ _ _ _ _ _ _ _ _ _ _ _
      | exact ih2 _ _ _ _ _ _ _ _ _ _ _ _ _ _
      | exact best_Ahead.mono _ _ _ _ _ _ _ _ _
      | exact best_May.mono _ _
      | exact LeO.none _
      | refine LeO.ite ?_ ?_
      | refine LeO.bind ?_ (fun _ => ?_)
theorem catchwordlaw20_BestOrder.mono : ∀ a0 a1 a2 a3 a4 a5 a6 a7 a8 a9 a10 a11 k, LeO (catchwordlaw20_BestOrder.f k a0 a1 a2 a3 a4 a5 a6 a7 a8 a9 a10 a11) (catchwordlaw20_BestOrder.f (k + 1) a0 a1 a2 a3 a4 a5 a6 a7 a8 a9 a10 a11) := by
  intro a0 a1 a2 a3 a4 a5 a6 a7 a8 a9 a10 a11 k
  obtain ⟨ih0, ih1, ih2⟩ := catchwordlaw20_BestOrder.mono_l k
  unfold catchwordlaw20_BestOrder.f
  repeat' first
      | (with_reducible exact ih0 _ _ _ _ _ _ _ _ _ _ _ _ _ _)
      | (with_reducible exact ih1 _ _ _ _ _ _ _ _ _ _ _ _ _)
      | (with_reducible exact ih2 _ _ _ _ _ _ _ _ _ _ _ _ _ _)
      | (with_reducible exact best_Ahead.mono _ _ _ _ _ _ _ _ _)
      | (with_reducible exact best_May.mono _ _)
      | (with_reducible exact LeO.refl _)
      | (with_reducible exact LeO.none _)
      | (with_reducible refine LeO.ite ?_ ?_)
      | (with_reducible refine LeO.bind ?_ (fun _ => ?_))
      | exact ih0 _ _ _ _ _ _ _ _ _ _ _ _ _ _
      | exact ih1 _ _ _ _ _ _ _ _ _ _ _ _ _
      | exact ih2 _ _ _ _ _ _ _ _ _ _ _ _ _ _
      | exact best_Ahead.mono _ _ _ _ _ _ _ _ _
      | exact best_May.mono _ _
      | exact LeO.none _
      | refine LeO.ite ?_ ?_
      | refine LeO.bind ?_ (fun _ => ?_)
def catchwordlaw20_BestOrder.T4 : Bool × List (List Nat × List Nat) := (true, [([], []), ([], []), ([0, 1], [0, 1]), ([], []), ([], []), ([3, 4, 2], [3, 4]), ([2, 5], [2, 5]), ([6, 5], [6]), ([7], [7]), ([7], [7]), ([8, 9, 7, 7], [7, 8, 9]), ([7], [7]), ([7], [7]), ([11, 12, 10, 7], [7, 11, 12]), ([10, 13, 7], [7, 10, 13]), ([7, 14], [7, 14]), ([15, 13, 0, 1, 2, 3, 4, 5, 6, 7, 8, 9, 10, 11, 12, 13, 14, 15], [15])])
def catchwordlaw20_BestOrder.B4 : List Nat := [0, 0, 3, 0, 0, 31, 63, 127, 255, 255, 1023, 255, 255, 8191, 16383, 32767, 65535]
theorem catchwordlaw20_BestOrder.tab4 : rtab .any (opsOf Try.f5 4) = catchwordlaw20_BestOrder.T4 := by kernel_rfl
theorem catchwordlaw20_BestOrder.bits4 : waitsOk catchwordlaw20_BestOrder.T4.2 catchwordlaw20_BestOrder.B4 = true := by kernel_rfl
set_option maxHeartbeats 8000000 in
set_option maxRecDepth 100000 in
theorem catchwordlaw20_BestOrder.calls (k : Nat) (a0_0 : ByteArray) (a0_1 : Int) (a0_2 : Int) (a0_3 : Int) (a1_0 : ByteArray) (a1_1 : Int) (a1_2 : Int) (a1_3 : Int) (a2_0 : ByteArray) (a2_1 : Int) (a2_2 : Int) (a2_3 : Int) (r : Bool) (w : World) (h : catchwordlaw20_BestOrder.f k a0_0 a0_1 a0_2 a0_3 a1_0 a1_1 a1_2 a1_3 a2_0 a2_1 a2_2 a2_3 = some r) :
    Calls Try.prog 5 #[.agg #[.string a0_0, .int .i64 a0_1, .int .u64 a0_2, .int .u64 a0_3], .agg #[.string a1_0, .int .i64 a1_1, .int .u64 a1_2, .int .u64 a1_3], .agg #[.string a2_0, .int .i64 a2_1, .int .u64 a2_2, .int .u64 a2_3]] w fun e w' => e = .returned (.bool r) ∧ Below w.heap.size w w' := by
  have hu27 := Try.underlying27
  have HB := Aside0.mk (Below.refl w.heap.size w)
  have H : ((catchwordlaw20_awake.f).bind fun t241 => (if t241 = true then ((best_May.f k (([(⟨a0_0, a0_1, (⟨a0_2, a0_3⟩ : S25)⟩ : S27), (⟨a1_0, a1_1, (⟨a1_2, a1_3⟩ : S25)⟩ : S27), (⟨a2_0, a2_1, (⟨a2_2, a2_3⟩ : S25)⟩ : S27)] : List (S27)))).bind fun t245 => (catchwordlaw20_BestOrder.j0 k t241 (!t245) a0_0 a0_1 a0_2 a0_3 a1_0 a1_1 a1_2 a1_3 a2_0 a2_1 a2_2 a2_3)) else (catchwordlaw20_BestOrder.j0 k t241 true a0_0 a0_1 a0_2 a0_3 a1_0 a1_1 a1_2 a1_3 a2_0 a2_1 a2_2 a2_3))) = some r := h
  clear h
  replace H := Option.bind_eq_some_iff.mp H
  obtain ⟨t241, A40, H⟩ := H
  replace H : (if t241 = true then ((best_May.f k (([(⟨a0_0, a0_1, (⟨a0_2, a0_3⟩ : S25)⟩ : S27), (⟨a1_0, a1_1, (⟨a1_2, a1_3⟩ : S25)⟩ : S27), (⟨a2_0, a2_1, (⟨a2_2, a2_3⟩ : S25)⟩ : S27)] : List (S27)))).bind fun t245 => (catchwordlaw20_BestOrder.j0 k t241 (!t245) a0_0 a0_1 a0_2 a0_3 a1_0 a1_1 a1_2 a1_3 a2_0 a2_1 a2_2 a2_3)) else (catchwordlaw20_BestOrder.j0 k t241 true a0_0 a0_1 a0_2 a0_3 a1_0 a1_1 a1_2 a1_3 a2_0 a2_1 a2_2 a2_3)) = some r := H
  have A4 := Aside0.mk A40
  clear A40
  have HC5 := Aside0.mk H
  clear H
  go_enter Try.func5, Try.ntmps5
  go_upto_region 2 with (first | ((with_reducible refine gate_dst (N := 3) rfl ?_); (try (refine gate_guard (by rfl) ?_; dsimp only)); refine box_event ?hg (N := 3) ?hd (cs := #[.string a0_0, .int .i64 a0_1, .int .u64 a0_2, .int .u64 a0_3]) (t := 27) ?hr ?_; (case hd => rfl); (case hg => rfl); (case hr => first | (go_simp; done) | (go_simp; rfl)); intro gb238 hg w6 hbox hb; have n0_ := Aside0.mk (below_step (by repeat (first | (with_reducible first | exact HB.out | apply below_alloc | apply pw_below_drewN | apply below_drew1) | exact HB.out)) hb); have n1_ := Aside0.mk (hbox); have n2_ := Aside0.mk ((by rw [hg]; exact (below_size (by repeat (first | (with_reducible first | exact HB.out | apply below_alloc | apply pw_below_drewN | apply below_drew1) | exact HB.out))) : w.heap.size ≤ gb238)); have n3_ := Aside0.mk ((by rw [hg]; exact (below_size (by repeat (first | (with_reducible first | exact HB.out | apply below_alloc | apply pw_below_drewN | apply below_drew1) | exact HB.out))) : w.heap.size ≤ gb238)); clear HB; have HB := n0_; have BK238 := n1_; have GW238 := n2_; have GE238 := n3_; clear n0_ n1_ n2_ n3_; clear hb hbox hg) | ((with_reducible refine gate_dst (N := 4) rfl ?_); (try (refine gate_guard (by rfl) ?_; dsimp only)); refine box_event ?hg (N := 4) ?hd (cs := #[.string a1_0, .int .i64 a1_1, .int .u64 a1_2, .int .u64 a1_3]) (t := 27) ?hr ?_; (case hd => rfl); (case hg => rfl); (case hr => first | (go_simp; done) | (go_simp; rfl)); intro gb239 hg w7 hbox hb; have n0_ := Aside0.mk (blk_below (g := gb238) (o := .cells #[.string a0_0, .int .i64 a0_1, .int .u64 a0_2, .int .u64 a0_3] 27 (0, 0)) (by (with_reducible repeat (first | refine blk_drewN ?_ _ | refine blk_drew ?_ | refine blk_alloc ?_ _)); exact BK238.out) hb); have n1_ := Aside0.mk (below_step (by repeat (first | (with_reducible first | exact HB.out | apply below_alloc | apply pw_below_drewN | apply below_drew1 | refine below_set ?_ GE238.out) | exact HB.out)) hb); have n2_ := Aside0.mk (hbox); have n3_ := Aside0.mk ((by rw [hg]; exact (below_size (by repeat (first | (with_reducible first | exact HB.out | apply below_alloc | apply pw_below_drewN | apply below_drew1 | refine below_set ?_ GE238.out) | exact HB.out))) : w.heap.size ≤ gb239)); have n4_ := Aside0.mk ((by rw [hg]; exact (below_size (by repeat (first | (with_reducible first | exact HB.out | apply below_alloc | apply pw_below_drewN | apply below_drew1 | refine below_set ?_ GE238.out) | exact HB.out))) : w.heap.size ≤ gb239)); have n5_ := Aside0.mk ((by rw [hg]; exact Nat.ne_of_lt (blk_lt (g := gb238) (o := .cells #[.string a0_0, .int .i64 a0_1, .int .u64 a0_2, .int .u64 a0_3] 27 (0, 0)) (by (with_reducible repeat (first | refine blk_drewN ?_ _ | refine blk_drew ?_ | refine blk_alloc ?_ _)); exact BK238.out)) : gb238 ≠ gb239)); have n6_ := Aside0.mk ((by rw [hg]; exact Nat.ne_of_gt (blk_lt (g := gb238) (o := .cells #[.string a0_0, .int .i64 a0_1, .int .u64 a0_2, .int .u64 a0_3] 27 (0, 0)) (by (with_reducible repeat (first | refine blk_drewN ?_ _ | refine blk_drew ?_ | refine blk_alloc ?_ _)); exact BK238.out)) : gb239 ≠ gb238)); clear BK238; clear HB; have BK238 := n0_; have HB := n1_; have BK239 := n2_; have GW239 := n3_; have GE239 := n4_; have NB238_239 := n5_; have NB239_238 := n6_; clear n0_ n1_ n2_ n3_ n4_ n5_ n6_; clear hb hbox hg) | ((with_reducible refine gate_dst (N := 5) rfl ?_); (try (refine gate_guard (by rfl) ?_; dsimp only)); refine box_event ?hg (N := 5) ?hd (cs := #[.string a2_0, .int .i64 a2_1, .int .u64 a2_2, .int .u64 a2_3]) (t := 27) ?hr ?_; (case hd => rfl); (case hg => rfl); (case hr => first | (go_simp; done) | (go_simp; rfl)); intro gb240 hg w8 hbox hb; have n0_ := Aside0.mk (blk_below (g := gb238) (o := .cells #[.string a0_0, .int .i64 a0_1, .int .u64 a0_2, .int .u64 a0_3] 27 (0, 0)) (by (with_reducible repeat (first | refine blk_drewN ?_ _ | refine blk_drew ?_ | refine blk_alloc ?_ _)); exact BK238.out) hb); have n1_ := Aside0.mk (blk_below (g := gb239) (o := .cells #[.string a1_0, .int .i64 a1_1, .int .u64 a1_2, .int .u64 a1_3] 27 (0, 0)) (by (with_reducible repeat (first | refine blk_drewN ?_ _ | refine blk_drew ?_ | refine blk_alloc ?_ _)); exact BK239.out) hb); have n2_ := Aside0.mk (below_step (by repeat (first | (with_reducible first | exact HB.out | apply below_alloc | apply pw_below_drewN | apply below_drew1 | refine below_set ?_ GE238.out | refine below_set ?_ GE239.out) | exact HB.out)) hb); have n3_ := Aside0.mk (hbox); have n4_ := Aside0.mk ((by rw [hg]; exact (below_size (by repeat (first | (with_reducible first | exact HB.out | apply below_alloc | apply pw_below_drewN | apply below_drew1 | refine below_set ?_ GE238.out | refine below_set ?_ GE239.out) | exact HB.out))) : w.heap.size ≤ gb240)); have n5_ := Aside0.mk ((by rw [hg]; exact (below_size (by repeat (first | (with_reducible first | exact HB.out | apply below_alloc | apply pw_below_drewN | apply below_drew1 | refine below_set ?_ GE238.out | refine below_set ?_ GE239.out) | exact HB.out))) : w.heap.size ≤ gb240)); have n6_ := Aside0.mk ((by rw [hg]; exact Nat.ne_of_lt (blk_lt (g := gb238) (o := .cells #[.string a0_0, .int .i64 a0_1, .int .u64 a0_2, .int .u64 a0_3] 27 (0, 0)) (by (with_reducible repeat (first | refine blk_drewN ?_ _ | refine blk_drew ?_ | refine blk_alloc ?_ _)); exact BK238.out)) : gb238 ≠ gb240)); have n7_ := Aside0.mk ((by rw [hg]; exact Nat.ne_of_gt (blk_lt (g := gb238) (o := .cells #[.string a0_0, .int .i64 a0_1, .int .u64 a0_2, .int .u64 a0_3] 27 (0, 0)) (by (with_reducible repeat (first | refine blk_drewN ?_ _ | refine blk_drew ?_ | refine blk_alloc ?_ _)); exact BK238.out)) : gb240 ≠ gb238)); have n8_ := Aside0.mk ((by rw [hg]; exact Nat.ne_of_lt (blk_lt (g := gb239) (o := .cells #[.string a1_0, .int .i64 a1_1, .int .u64 a1_2, .int .u64 a1_3] 27 (0, 0)) (by (with_reducible repeat (first | refine blk_drewN ?_ _ | refine blk_drew ?_ | refine blk_alloc ?_ _)); exact BK239.out)) : gb239 ≠ gb240)); have n9_ := Aside0.mk ((by rw [hg]; exact Nat.ne_of_gt (blk_lt (g := gb239) (o := .cells #[.string a1_0, .int .i64 a1_1, .int .u64 a1_2, .int .u64 a1_3] 27 (0, 0)) (by (with_reducible repeat (first | refine blk_drewN ?_ _ | refine blk_drew ?_ | refine blk_alloc ?_ _)); exact BK239.out)) : gb240 ≠ gb239)); clear BK238; clear BK239; clear HB; have BK238 := n0_; have BK239 := n1_; have HB := n2_; have BK240 := n3_; have GW240 := n4_; have GE240 := n5_; have NB238_240 := n6_; have NB240_238 := n7_; have NB239_240 := n8_; have NB240_239 := n9_; clear n0_ n1_ n2_ n3_ n4_ n5_ n6_ n7_ n8_ n9_; clear hb hbox hg) | ((with_reducible refine gate_callee (f := 9) rfl ?_); refine goesL_ (some 11) rfl rfl Try.func9 (by kernel_rfl) rfl #[] rfl (by (try simp only [List.map_toArray, List.map_cons, List.map_nil]); first | done | rfl | (simp only [List.length_drop, List.length_take]; rfl)) ?_; (with_reducible refine (catchwordlaw20_awake.calls  t241 _ A4.out).mono ?_); rintro e w9 ⟨rfl, hb⟩; refine ⟨_, rfl, ?_⟩; have n0_ := Aside0.mk (blk_below (g := gb238) (o := .cells #[.string a0_0, .int .i64 a0_1, .int .u64 a0_2, .int .u64 a0_3] 27 (0, 0)) (by (with_reducible repeat (first | refine blk_drewN ?_ _ | refine blk_drew ?_ | refine blk_alloc ?_ _)); exact BK238.out) hb); have n1_ := Aside0.mk (blk_below (g := gb239) (o := .cells #[.string a1_0, .int .i64 a1_1, .int .u64 a1_2, .int .u64 a1_3] 27 (0, 0)) (by (with_reducible repeat (first | refine blk_drewN ?_ _ | refine blk_drew ?_ | refine blk_alloc ?_ _)); exact BK239.out) hb); have n2_ := Aside0.mk (blk_below (g := gb240) (o := .cells #[.string a2_0, .int .i64 a2_1, .int .u64 a2_2, .int .u64 a2_3] 27 (0, 0)) (by (with_reducible repeat (first | refine blk_drewN ?_ _ | refine blk_drew ?_ | refine blk_alloc ?_ _)); exact BK240.out) hb); have n3_ := Aside0.mk (below_step (by repeat (first | (with_reducible first | exact HB.out | apply below_alloc | apply pw_below_drewN | apply below_drew1 | refine below_set ?_ GE238.out | refine below_set ?_ GE239.out | refine below_set ?_ GE240.out) | exact HB.out)) hb); clear BK238; clear BK239; clear BK240; clear HB; have BK238 := n0_; have BK239 := n1_; have BK240 := n2_; have HB := n3_; clear n0_ n1_ n2_ n3_; (try clear hb); (try clear hb2); (try clear hk); (try clear hi)))
  (try simp only [Act.put, List.setIfInBounds_toArray, List.set_cons_zero, List.set_cons_succ])
  go_cut [21] (fun v21 wc => ∃ (kq : Nat) (x21_4 : Bool), v21 = .bool x21_4 ∧ Aside0 (catchwordlaw20_BestOrder.j0 kq t241 x21_4 a0_0 a0_1 a0_2 a0_3 a1_0 a1_1 a1_2 a1_3 a2_0 a2_1 a2_2 a2_3 = some r) ∧ Aside0 (kq ≤ k) ∧ Aside0 (wc.heap[gb238]? = some (.cells #[.string a0_0, .int .i64 a0_1, .int .u64 a0_2, .int .u64 a0_3] 27 (0, 0))) ∧ Aside0 (wc.heap[gb239]? = some (.cells #[.string a1_0, .int .i64 a1_1, .int .u64 a1_2, .int .u64 a1_3] 27 (0, 0))) ∧ Aside0 (wc.heap[gb240]? = some (.cells #[.string a2_0, .int .i64 a2_1, .int .u64 a2_2, .int .u64 a2_3] 27 (0, 0))) ∧ Aside0 (Below w.heap.size w wc))
  case first =>
    have H := HC5.out
    clear HC5
    by_cases c10 : t241 = true
    · subst c10
      have H1 : ((best_May.f k (([(⟨a0_0, a0_1, (⟨a0_2, a0_3⟩ : S25)⟩ : S27), (⟨a1_0, a1_1, (⟨a1_2, a1_3⟩ : S25)⟩ : S27), (⟨a2_0, a2_1, (⟨a2_2, a2_3⟩ : S25)⟩ : S27)] : List (S27)))).bind fun t245 => (catchwordlaw20_BestOrder.j0 k true (!t245) a0_0 a0_1 a0_2 a0_3 a1_0 a1_1 a1_2 a1_3 a2_0 a2_1 a2_2 a2_3)) = some r := by rw [if_pos rfl] at H; exact H
      clear H
      have H := H1
      clear H1
      obtain ⟨y242, hy242⟩ : ∃ y_ : List (S27), y_ = (([(⟨a0_0, a0_1, (⟨a0_2, a0_3⟩ : S25)⟩ : S27), (⟨a1_0, a1_1, (⟨a1_2, a1_3⟩ : S25)⟩ : S27), (⟨a2_0, a2_1, (⟨a2_2, a2_3⟩ : S25)⟩ : S27)] : List (S27))) := ⟨_, rfl⟩
      replace H : ((best_May.f k y242).bind fun t245 => (catchwordlaw20_BestOrder.j0 k true (!t245) a0_0 a0_1 a0_2 a0_3 a1_0 a1_1 a1_2 a1_3 a2_0 a2_1 a2_2 a2_3)) = some r := by first | (rw [hy242]; with_reducible exact H) | (have H2_ := (Option.bind_some _ _).symm.trans H; rw [hy242]; with_reducible exact H2_) | (have H2_ := (Option.bind_some _ _).symm.trans H; with_reducible exact H2_) | with_reducible exact H | (rw [hy242]; exact H) | exact H
      have Ny242 := Aside0.mk hy242
      clear hy242
      replace H := Option.bind_eq_some_iff.mp H
      obtain ⟨t245, A110, H⟩ := H
      replace H : (catchwordlaw20_BestOrder.j0 k true (!t245) a0_0 a0_1 a0_2 a0_3 a1_0 a1_1 a1_2 a1_3 a2_0 a2_1 a2_2 a2_3) = some r := H
      have A11 := Aside0.mk A110
      clear A110
      have H' := Aside0.mk H
      clear H
      have hnb12 := NB238_239.out
      have hnc12 := NB239_238.out
      have hnb13 := NB238_240.out
      have hnc13 := NB240_238.out
      have hcz14_0 : w9.cell? ⟨gb238, 0, none⟩ = some (.string a0_0) := (blk_cell BK238.out 0).trans rfl
      have hcz14_1 : w9.cell? ⟨gb238, 1, none⟩ = some (.int .i64 a0_1) := (blk_cell BK238.out 1).trans rfl
      have hcz14_2 : w9.cell? ⟨gb238, 2, none⟩ = some (.int .u64 a0_2) := (blk_cell BK238.out 2).trans rfl
      have hcz14_3 : w9.cell? ⟨gb238, 3, none⟩ = some (.int .u64 a0_3) := (blk_cell BK238.out 3).trans rfl
      have hfz14_0 := blk_frozen BK238.out 0
      have hfz14_1 := blk_frozen BK238.out 1
      have hfz14_2 := blk_frozen BK238.out 2
      have hfz14_3 := blk_frozen BK238.out 3
      have hnb15 := NB239_240.out
      have hnc15 := NB240_239.out
      have hcz16_0 : w9.cell? ⟨gb239, 0, none⟩ = some (.string a1_0) := (blk_cell BK239.out 0).trans rfl
      have hcz16_1 : w9.cell? ⟨gb239, 1, none⟩ = some (.int .i64 a1_1) := (blk_cell BK239.out 1).trans rfl
      have hcz16_2 : w9.cell? ⟨gb239, 2, none⟩ = some (.int .u64 a1_2) := (blk_cell BK239.out 2).trans rfl
      have hcz16_3 : w9.cell? ⟨gb239, 3, none⟩ = some (.int .u64 a1_3) := (blk_cell BK239.out 3).trans rfl
      have hfz16_0 := blk_frozen BK239.out 0
      have hfz16_1 := blk_frozen BK239.out 1
      have hfz16_2 := blk_frozen BK239.out 2
      have hfz16_3 := blk_frozen BK239.out 3
      have hcz17_0 : w9.cell? ⟨gb240, 0, none⟩ = some (.string a2_0) := (blk_cell BK240.out 0).trans rfl
      have hcz17_1 : w9.cell? ⟨gb240, 1, none⟩ = some (.int .i64 a2_1) := (blk_cell BK240.out 1).trans rfl
      have hcz17_2 : w9.cell? ⟨gb240, 2, none⟩ = some (.int .u64 a2_2) := (blk_cell BK240.out 2).trans rfl
      have hcz17_3 : w9.cell? ⟨gb240, 3, none⟩ = some (.int .u64 a2_3) := (blk_cell BK240.out 3).trans rfl
      have hfz17_0 := blk_frozen BK240.out 0
      have hfz17_1 := blk_frozen BK240.out 1
      have hfz17_2 := blk_frozen BK240.out 2
      have hfz17_3 := blk_frozen BK240.out 3
      go_wp2_with (first | ((with_reducible refine gate_dst (N := 18) rfl ?_); (try (refine gate_guard (by rfl) ?_; dsimp only)); refine Kd.R_lit k27 _ 27 ?hg (N := 18) ?hd (xs := ([(⟨a0_0, a0_1, (⟨a0_2, a0_3⟩ : S25)⟩ : S27), (⟨a1_0, a1_1, (⟨a1_2, a1_3⟩ : S25)⟩ : S27), (⟨a2_0, a2_1, (⟨a2_2, a2_3⟩ : S25)⟩ : S27)] : List (S27))) (inner := [.string a0_0, .int .i64 a0_1, .int .u64 a0_2, .int .u64 a0_3, .string a1_0, .int .i64 a1_1, .int .u64 a1_2, .int .u64 a1_3, .string a2_0, .int .i64 a2_1, .int .u64 a2_2, .int .u64 a2_3]) (ok := fun _ => True) (okp := fun _ => True) ?hr ?hp (fun _ hk => hk) trivial (Below.refl _ _) (Nat.le_refl _) (by simp) ?_; (case hd => rfl); (case hg => rfl); (case hr => first | (go_simp; done) | (go_simp; rfl)); (case hp => exact (Reps.c4 (show Kd.M k27 _ _ _ (⟨a0_0, a0_1, (⟨a0_2, a0_3⟩ : S25)⟩ : S27) [.string a0_0, .int .i64 a0_1, .int .u64 a0_2, .int .u64 a0_3] from (k27_mkM _ _ _ (⟨a0_0, a0_1, (⟨a0_2, a0_3⟩ : S25)⟩ : S27) )) (Reps.c4 (show Kd.M k27 _ _ _ (⟨a1_0, a1_1, (⟨a1_2, a1_3⟩ : S25)⟩ : S27) [.string a1_0, .int .i64 a1_1, .int .u64 a1_2, .int .u64 a1_3] from (k27_mkM _ _ _ (⟨a1_0, a1_1, (⟨a1_2, a1_3⟩ : S25)⟩ : S27) )) (Reps.c4 (show Kd.M k27 _ _ _ (⟨a2_0, a2_1, (⟨a2_2, a2_3⟩ : S25)⟩ : S27) [.string a2_0, .int .i64 a2_1, .int .u64 a2_2, .int .u64 a2_3] from (k27_mkM _ _ _ (⟨a2_0, a2_1, (⟨a2_2, a2_3⟩ : S25)⟩ : S27) )) (Reps.none _ _))))); intro v243 w18 ho19 hb hg_ hnew_; clear hg_ hnew_; (first | rw [← Ny242.out] at ho19 | (simp only [Int.reduceToNat] at ho19; rw [← Ny242.out] at ho19)); have n0_ := Aside0.mk (Kd.R_lower (Kd.R_newB (Kd.R_newB (Kd.R_newB ho19 (g := gb238) (o := .cells #[.string a0_0, .int .i64 a0_1, .int .u64 a0_2, .int .u64 a0_3] 27 (0, 0)) (by (with_reducible repeat (first | refine blk_drewN ?_ _ | refine blk_drew ?_ | refine blk_alloc ?_ _)); exact BK238.out)) (g := gb239) (o := .cells #[.string a1_0, .int .i64 a1_1, .int .u64 a1_2, .int .u64 a1_3] 27 (0, 0)) (by (with_reducible repeat (first | refine blk_drewN ?_ _ | refine blk_drew ?_ | refine blk_alloc ?_ _)); exact BK239.out)) (g := gb240) (o := .cells #[.string a2_0, .int .i64 a2_1, .int .u64 a2_2, .int .u64 a2_3] 27 (0, 0)) (by (with_reducible repeat (first | refine blk_drewN ?_ _ | refine blk_drew ?_ | refine blk_alloc ?_ _)); exact BK240.out)) (below_size (by repeat (first | (with_reducible first | exact HB.out | apply below_alloc | apply pw_below_drewN | apply below_drew1 | refine below_set ?_ GE238.out | refine below_set ?_ GE239.out | refine below_set ?_ GE240.out) | exact HB.out)))); have n1_ := Aside0.mk (blk_below (g := gb238) (o := .cells #[.string a0_0, .int .i64 a0_1, .int .u64 a0_2, .int .u64 a0_3] 27 (0, 0)) (by (with_reducible repeat (first | refine blk_drewN ?_ _ | refine blk_drew ?_ | refine blk_alloc ?_ _)); exact BK238.out) hb); have n2_ := Aside0.mk (blk_below (g := gb239) (o := .cells #[.string a1_0, .int .i64 a1_1, .int .u64 a1_2, .int .u64 a1_3] 27 (0, 0)) (by (with_reducible repeat (first | refine blk_drewN ?_ _ | refine blk_drew ?_ | refine blk_alloc ?_ _)); exact BK239.out) hb); have n3_ := Aside0.mk (blk_below (g := gb240) (o := .cells #[.string a2_0, .int .i64 a2_1, .int .u64 a2_2, .int .u64 a2_3] 27 (0, 0)) (by (with_reducible repeat (first | refine blk_drewN ?_ _ | refine blk_drew ?_ | refine blk_alloc ?_ _)); exact BK240.out) hb); have n4_ := Aside0.mk (below_step (by repeat (first | (with_reducible first | exact HB.out | apply below_alloc | apply pw_below_drewN | apply below_drew1 | refine below_set ?_ GE238.out | refine below_set ?_ GE239.out | refine below_set ?_ GE240.out) | exact HB.out)) hb); clear BK238; clear BK239; clear BK240; clear HB; have HO244 := n0_; have BK238 := n1_; have BK239 := n2_; have BK240 := n3_; have HB := n4_; clear n0_ n1_ n2_ n3_ n4_; clear hb ho19; obtain ⟨Ao20, co20, eo20⟩ := Kd.R_slice HO244.out; subst eo20) | (go_at_call 11; (with_reducible refine (best_May.calls k _ _ y242 t245 _ ?side1 ?side2 A11.out).mono ?_); (case side1 => repeat (first | exact (Kd.R_reads' HO244.out).2.2 | (with_reducible refine Kd.C_alloc ?_ _) | (with_reducible refine Kd.C_drewN ?_ _) | (with_reducible refine Kd.C_drew ?_))); (case side2 => exact (Kd.R_reads' HO244.out).2.1); rintro e w21 ⟨rfl, hb⟩; have n0_ := Aside0.mk (Kd.R_below (by (with_reducible repeat (first | apply Kd.R_alloc | apply Kd.R_drewN | apply Kd.R_drew)); exact HO244.out) hb); have n1_ := Aside0.mk (blk_below (g := gb238) (o := .cells #[.string a0_0, .int .i64 a0_1, .int .u64 a0_2, .int .u64 a0_3] 27 (0, 0)) (by (with_reducible repeat (first | refine blk_drewN ?_ _ | refine blk_drew ?_ | refine blk_alloc ?_ _)); exact BK238.out) hb); have n2_ := Aside0.mk (blk_below (g := gb239) (o := .cells #[.string a1_0, .int .i64 a1_1, .int .u64 a1_2, .int .u64 a1_3] 27 (0, 0)) (by (with_reducible repeat (first | refine blk_drewN ?_ _ | refine blk_drew ?_ | refine blk_alloc ?_ _)); exact BK239.out) hb); have n3_ := Aside0.mk (blk_below (g := gb240) (o := .cells #[.string a2_0, .int .i64 a2_1, .int .u64 a2_2, .int .u64 a2_3] 27 (0, 0)) (by (with_reducible repeat (first | refine blk_drewN ?_ _ | refine blk_drew ?_ | refine blk_alloc ?_ _)); exact BK240.out) hb); have n4_ := Aside0.mk (below_step (by repeat (first | (with_reducible first | exact HB.out | apply below_alloc | apply pw_below_drewN | apply below_drew1 | refine below_set ?_ GE238.out | refine below_set ?_ GE239.out | refine below_set ?_ GE240.out) | exact HB.out)) hb); clear HO244; clear BK238; clear BK239; clear BK240; clear HB; have HO244 := n0_; have BK238 := n1_; have BK239 := n2_; have BK240 := n3_; have HB := n4_; clear n0_ n1_ n2_ n3_ n4_; (try clear hb); (try clear hb2); (try clear hk); (try clear hi)))
      go_meet
      case rel => exact ⟨_, (!t245), (by first | rfl | (simp; done) | (simp [*]; done)), H', ⟨by first | omega | exact Nat.le_refl _⟩, ⟨by (with_reducible repeat (first | refine blk_drewN ?_ _ | refine blk_drew ?_ | refine blk_alloc ?_ _)); exact BK238.out⟩, ⟨by (with_reducible repeat (first | refine blk_drewN ?_ _ | refine blk_drew ?_ | refine blk_alloc ?_ _)); exact BK239.out⟩, ⟨by (with_reducible repeat (first | refine blk_drewN ?_ _ | refine blk_drew ?_ | refine blk_alloc ?_ _)); exact BK240.out⟩, ⟨by repeat (first | (with_reducible first | exact HB.out | apply below_alloc | apply pw_below_drewN | apply below_drew1 | refine below_set ?_ GE238.out | refine below_set ?_ GE239.out | refine below_set ?_ GE240.out) | exact HB.out)⟩⟩
    · replace c10 := Bool.eq_false_iff.mpr c10
      subst c10
      have H1 : (catchwordlaw20_BestOrder.j0 k false true a0_0 a0_1 a0_2 a0_3 a1_0 a1_1 a1_2 a1_3 a2_0 a2_1 a2_2 a2_3) = some r := by rw [if_neg (show ¬ (false = true) by decide)] at H; exact H
      clear H
      have H := H1
      clear H1
      have H' := Aside0.mk H
      clear H
      go_wp2
      go_meet
      case rel => exact ⟨_, (true), (by first | rfl | (simp; done) | (simp [*]; done)), H', ⟨by first | omega | exact Nat.le_refl _⟩, ⟨by (with_reducible repeat (first | refine blk_drewN ?_ _ | refine blk_drew ?_ | refine blk_alloc ?_ _)); exact BK238.out⟩, ⟨by (with_reducible repeat (first | refine blk_drewN ?_ _ | refine blk_drew ?_ | refine blk_alloc ?_ _)); exact BK239.out⟩, ⟨by (with_reducible repeat (first | refine blk_drewN ?_ _ | refine blk_drew ?_ | refine blk_alloc ?_ _)); exact BK240.out⟩, ⟨by repeat (first | (with_reducible first | exact HB.out | apply below_alloc | apply pw_below_drewN | apply below_drew1 | refine below_set ?_ GE238.out | refine below_set ?_ GE239.out | refine below_set ?_ GE240.out) | exact HB.out)⟩⟩
  case rest =>
    clear HC5
    try clear c1
    try clear p2
    try clear c4
    try clear c5
    try clear c9
    try clear c10
    try clear c12
    try clear c13
    try clear c15
    try clear hcz14_0
    try clear hcz14_1
    try clear hcz14_2
    try clear hcz14_3
    try clear hcz16_0
    try clear hcz16_1
    try clear hcz16_2
    try clear hcz16_3
    try clear hcz17_0
    try clear hcz17_1
    try clear hcz17_2
    try clear hcz17_3
    try clear hfz14_0
    try clear hfz14_1
    try clear hfz14_2
    try clear hfz14_3
    try clear hfz16_0
    try clear hfz16_1
    try clear hfz16_2
    try clear hfz16_3
    try clear hfz17_0
    try clear hfz17_1
    try clear hfz17_2
    try clear hfz17_3
    obtain ⟨kq, x21_4, rfl, HA, HJ4, BK238, BK239, BK240, HB⟩ := hcut
    cases kq with
    | zero => exact absurd HA.out (by simp [catchwordlaw20_BestOrder.j0])
    | succ kj4 =>
      have H := HA.out
      clear HA
      simp only [catchwordlaw20_BestOrder.j0] at H
      by_cases c22 : x21_4 = true
      · subst c22
        have H1 : (some t241) = some r := by rw [if_pos rfl] at H; exact H
        clear H
        have H := H1
        clear H1
        obtain rfl := Option.some.inj H
        go_wp2
        go_ret
        exact ⟨by first | rfl | (simp [errW_none, errW_some] <;> rfl) | (simp [*, errW_none, errW_some] <;> rfl), by repeat (first | (with_reducible first | exact HB.out | apply below_alloc | apply pw_below_drewN | apply below_drew1 | refine below_set ?_ GE238.out | refine below_set ?_ GE239.out | refine below_set ?_ GE240.out) | exact HB.out)⟩
      · replace c22 := Bool.eq_false_iff.mpr c22
        subst c22
        have H1 : ((best_Ahead.f kj4 a0_0 a0_1 a0_2 a0_3 a1_0 a1_1 a1_2 a1_3).bind fun t246 => ((best_Ahead.f kj4 a1_0 a1_1 a1_2 a1_3 a0_0 a0_1 a0_2 a0_3).bind fun t247 => (if (t246 != t247) = true then ((best_Sooner.f a0_0 a0_1 a0_2 a0_3 a1_0 a1_1 a1_2 a1_3).bind fun t248 => ((best_Sooner.f a1_0 a1_1 a1_2 a1_3 a0_0 a0_1 a0_2 a0_3).bind fun t249 => (catchwordlaw20_BestOrder.j1 kj4 (t248 != t249) a0_0 a0_1 a0_2 a0_3 a1_0 a1_1 a1_2 a1_3 a2_0 a2_1 a2_2 a2_3))) else (catchwordlaw20_BestOrder.j1 kj4 false a0_0 a0_1 a0_2 a0_3 a1_0 a1_1 a1_2 a1_3 a2_0 a2_1 a2_2 a2_3)))) = some r := by rw [if_neg (show ¬ (false = true) by decide)] at H; exact H
        clear H
        have H := H1
        clear H1
        have HC23 := Aside0.mk H
        clear H
        go_upto_region 4 with (fail)
        go_cut [8] (fun v8 wc => ∃ (kq : Nat) (x8_22 : Bool), v8 = .bool x8_22 ∧ Aside0 (catchwordlaw20_BestOrder.j1 kq x8_22 a0_0 a0_1 a0_2 a0_3 a1_0 a1_1 a1_2 a1_3 a2_0 a2_1 a2_2 a2_3 = some r) ∧ Aside0 (kq ≤ kj4) ∧ Aside0 (wc.heap[gb238]? = some (.cells #[.string a0_0, .int .i64 a0_1, .int .u64 a0_2, .int .u64 a0_3] 27 (0, 0))) ∧ Aside0 (wc.heap[gb239]? = some (.cells #[.string a1_0, .int .i64 a1_1, .int .u64 a1_2, .int .u64 a1_3] 27 (0, 0))) ∧ Aside0 (wc.heap[gb240]? = some (.cells #[.string a2_0, .int .i64 a2_1, .int .u64 a2_2, .int .u64 a2_3] 27 (0, 0))) ∧ Aside0 (Below w.heap.size w wc))
        case first =>
          have H := HC23.out
          clear HC23
          replace H := Option.bind_eq_some_iff.mp H
          obtain ⟨t246, A240, H⟩ := H
          replace H : ((best_Ahead.f kj4 a1_0 a1_1 a1_2 a1_3 a0_0 a0_1 a0_2 a0_3).bind fun t247 => (if (t246 != t247) = true then ((best_Sooner.f a0_0 a0_1 a0_2 a0_3 a1_0 a1_1 a1_2 a1_3).bind fun t248 => ((best_Sooner.f a1_0 a1_1 a1_2 a1_3 a0_0 a0_1 a0_2 a0_3).bind fun t249 => (catchwordlaw20_BestOrder.j1 kj4 (t248 != t249) a0_0 a0_1 a0_2 a0_3 a1_0 a1_1 a1_2 a1_3 a2_0 a2_1 a2_2 a2_3))) else (catchwordlaw20_BestOrder.j1 kj4 false a0_0 a0_1 a0_2 a0_3 a1_0 a1_1 a1_2 a1_3 a2_0 a2_1 a2_2 a2_3))) = some r := H
          have A24 := Aside0.mk A240
          clear A240
          replace H := Option.bind_eq_some_iff.mp H
          obtain ⟨t247, A250, H⟩ := H
          replace H : (if (t246 != t247) = true then ((best_Sooner.f a0_0 a0_1 a0_2 a0_3 a1_0 a1_1 a1_2 a1_3).bind fun t248 => ((best_Sooner.f a1_0 a1_1 a1_2 a1_3 a0_0 a0_1 a0_2 a0_3).bind fun t249 => (catchwordlaw20_BestOrder.j1 kj4 (t248 != t249) a0_0 a0_1 a0_2 a0_3 a1_0 a1_1 a1_2 a1_3 a2_0 a2_1 a2_2 a2_3))) else (catchwordlaw20_BestOrder.j1 kj4 false a0_0 a0_1 a0_2 a0_3 a1_0 a1_1 a1_2 a1_3 a2_0 a2_1 a2_2 a2_3)) = some r := H
          have A25 := Aside0.mk A250
          clear A250
          by_cases c26 : (t246 != t247) = true
          · rw [if_pos c26] at H
            have c26b0 : (t246 != t247) = true := c26
            (try (have c26b1 : decide (t246 = t247) = false := by simpa using c26))
            (try (have c26b2 : (t246 == t247) = false := by simpa using c26))
            (try (have c26b3 : ¬ (t246 = t247) := by simpa using c26))
            clear c26
            (first | rw [c26b0] | (simp only [i64_w, i32_w]; rw [c26b0]) | skip)
            replace H := Option.bind_eq_some_iff.mp H
            obtain ⟨t248, A270, H⟩ := H
            replace H : ((best_Sooner.f a1_0 a1_1 a1_2 a1_3 a0_0 a0_1 a0_2 a0_3).bind fun t249 => (catchwordlaw20_BestOrder.j1 kj4 (t248 != t249) a0_0 a0_1 a0_2 a0_3 a1_0 a1_1 a1_2 a1_3 a2_0 a2_1 a2_2 a2_3)) = some r := H
            have A27 := Aside0.mk A270
            clear A270
            replace H := Option.bind_eq_some_iff.mp H
            obtain ⟨t249, A280, H⟩ := H
            replace H : (catchwordlaw20_BestOrder.j1 kj4 (t248 != t249) a0_0 a0_1 a0_2 a0_3 a1_0 a1_1 a1_2 a1_3 a2_0 a2_1 a2_2 a2_3) = some r := H
            have A28 := Aside0.mk A280
            clear A280
            have H' := Aside0.mk H
            clear H
            try go_wp2
            have n0_ := Aside0.mk (blk_drew BK238.out)
            have n1_ := Aside0.mk (blk_drew BK239.out)
            have n2_ := Aside0.mk (blk_drew BK240.out)
            have n3_ := Aside0.mk (below_drew1 HB.out)
            clear BK238
            clear BK239
            clear BK240
            clear HB
            have BK238 := n0_
            have BK239 := n1_
            have BK240 := n2_
            have HB := n3_
            clear n0_ n1_ n2_ n3_
            refine start_ (n := 17) (S := fun w' => w'.cell? ⟨gb238, 0, none⟩ = some (.string a0_0) ∧ w'.cell? ⟨gb238, 1, none⟩ = some (.int .i64 a0_1) ∧ w'.cell? ⟨gb238, 2, none⟩ = some (.int .u64 a0_2) ∧ w'.cell? ⟨gb238, 3, none⟩ = some (.int .u64 a0_3) ∧ w'.cell? ⟨gb239, 0, none⟩ = some (.string a1_0) ∧ w'.cell? ⟨gb239, 1, none⟩ = some (.int .i64 a1_1) ∧ w'.cell? ⟨gb239, 2, none⟩ = some (.int .u64 a1_2) ∧ w'.cell? ⟨gb239, 3, none⟩ = some (.int .u64 a1_3)) (ds := []) #[false, false, false, false, false, false, false, false, false, false, false, false, false, false, false, false, false] (by kernel_rfl) rfl rfl ⟨(blk_cell BK238.out 0).trans rfl, (blk_cell BK238.out 1).trans rfl, (blk_cell BK238.out 2).trans rfl, (blk_cell BK238.out 3).trans rfl, (blk_cell BK239.out 0).trans rfl, (blk_cell BK239.out 1).trans rfl, (blk_cell BK239.out 2).trans rfl, (blk_cell BK239.out 3).trans rfl⟩ (fun hHeld => ?_); refine with_tabW catchwordlaw20_BestOrder.tab4 catchwordlaw20_BestOrder.bits4 (fun HT_ HW_ => ?_)
            generalize wc.drew = w29 at BK238 BK239 BK240 HB hHeld ⊢
            refine take_ (i := 0) (N := some 23) (v := ?_) (a' := ?_) #[true, false, false, false, false, false, false, false, false, false, false, false, false, false, false, false, false] rfl rfl (take_ofW HT_.out HW_.out (by kernel_rfl)) (fun _ _ _ h => h) (Or.inl ⟨by rfl, ?_⟩) hHeld ?_ ?_
            rotate_left
            · rintro w' ⟨s0, s1, s2, s3, s4, s5, s6, s7⟩
              go_simp
              with_reducible rfl
            rotate_left
            · simp only [Act.put, List.setIfInBounds_toArray, List.set_cons_zero, List.set_cons_succ, i64_w, i32_w]
              rfl
            refine take_ (i := 1) (N := some 24) (v := ?_) (a' := ?_) #[true, true, false, false, false, false, false, false, false, false, false, false, false, false, false, false, false] rfl rfl (take_ofW HT_.out HW_.out (by kernel_rfl)) (fun _ _ _ h => h) (Or.inl ⟨by rfl, ?_⟩) hHeld ?_ ?_
            rotate_left
            · rintro w' ⟨s0, s1, s2, s3, s4, s5, s6, s7⟩
              go_simp
              with_reducible rfl
            rotate_left
            · simp only [Act.put, List.setIfInBounds_toArray, List.set_cons_zero, List.set_cons_succ, i64_w, i32_w]
              rfl
            refine take_ (i := 3) (N := some 26) (v := ?_) (a' := ?_) #[true, true, false, true, false, false, false, false, false, false, false, false, false, false, false, false, false] rfl rfl (take_ofW HT_.out HW_.out (by kernel_rfl)) (fun _ _ _ h => h) (Or.inl ⟨by rfl, ?_⟩) hHeld ?_ ?_
            rotate_left
            · rintro w' ⟨s0, s1, s2, s3, s4, s5, s6, s7⟩
              go_simp
              with_reducible rfl
            rotate_left
            · simp only [Act.put, List.setIfInBounds_toArray, List.set_cons_zero, List.set_cons_succ, i64_w, i32_w]
              rfl
            refine take_ (i := 4) (N := some 27) (v := ?_) (a' := ?_) #[true, true, false, true, true, false, false, false, false, false, false, false, false, false, false, false, false] rfl rfl (take_ofW HT_.out HW_.out (by kernel_rfl)) (fun _ _ _ h => h) (Or.inl ⟨by rfl, ?_⟩) hHeld ?_ ?_
            rotate_left
            · rintro w' ⟨s0, s1, s2, s3, s4, s5, s6, s7⟩
              go_simp
              with_reducible rfl
            rotate_left
            · simp only [Act.put, List.setIfInBounds_toArray, List.set_cons_zero, List.set_cons_succ, i64_w, i32_w]
              rfl
            refine one_ (i := 2) (N := some 25) #[true, true, true, true, true, false, false, false, false, false, false, false, false, false, false, false, false] rfl rfl (one_of HT_.out (by kernel_rfl)) (by decide) (fun K hK => ?_)
            refine goes_ Try.func13 (by kernel_rfl) rfl #[.agg #[.string a0_0, .int .i64 a0_1, .int .u64 a0_2, .int .u64 a0_3], .agg #[.string a1_0, .int .i64 a1_1, .int .u64 a1_2, .int .u64 a1_3]] (by rfl) rfl rfl (by (try simp only [List.map_toArray, List.map_cons, List.map_nil]); first | done | rfl | (simp only [List.length_drop, List.length_take]; rfl)) ?_
            with_reducible refine (best_Ahead.calls kj4 a0_0 a0_1 a0_2 a0_3 a1_0 a1_1 a1_2 a1_3 t246 _ A24.out).mono ?_
            rintro e w30 ⟨rfl, hb⟩
            refine ⟨_, rfl, ?_⟩
            have n0_ := Aside0.mk (blk_below (g := gb238) (o := .cells #[.string a0_0, .int .i64 a0_1, .int .u64 a0_2, .int .u64 a0_3] 27 (0, 0)) (by (with_reducible repeat (first | refine blk_drewN ?_ _ | refine blk_drew ?_ | refine blk_alloc ?_ _)); exact BK238.out) hb)
            have n1_ := Aside0.mk (blk_below (g := gb239) (o := .cells #[.string a1_0, .int .i64 a1_1, .int .u64 a1_2, .int .u64 a1_3] 27 (0, 0)) (by (with_reducible repeat (first | refine blk_drewN ?_ _ | refine blk_drew ?_ | refine blk_alloc ?_ _)); exact BK239.out) hb)
            have n2_ := Aside0.mk (blk_below (g := gb240) (o := .cells #[.string a2_0, .int .i64 a2_1, .int .u64 a2_2, .int .u64 a2_3] 27 (0, 0)) (by (with_reducible repeat (first | refine blk_drewN ?_ _ | refine blk_drew ?_ | refine blk_alloc ?_ _)); exact BK240.out) hb)
            have n3_ := Aside0.mk (below_step (by repeat (first | (with_reducible first | exact HB.out | apply below_alloc | apply pw_below_drewN | apply below_drew1 | refine below_set ?_ GE238.out | refine below_set ?_ GE239.out | refine below_set ?_ GE240.out) | exact HB.out)) hb)
            clear BK238
            clear BK239
            clear BK240
            clear HB
            have BK238 := n0_
            have BK239 := n1_
            have BK240 := n2_
            have HB := n3_
            clear n0_ n1_ n2_ n3_
            (try clear hb)
            (try clear hb2)
            (try clear hk)
            (try clear hi)
            refine hK.out _ _ ⟨(blk_cell BK238.out 0).trans rfl, (blk_cell BK238.out 1).trans rfl, (blk_cell BK238.out 2).trans rfl, (blk_cell BK238.out 3).trans rfl, (blk_cell BK239.out 0).trans rfl, (blk_cell BK239.out 1).trans rfl, (blk_cell BK239.out 2).trans rfl, (blk_cell BK239.out 3).trans rfl⟩ (fun hHeld => ?_)
            clear hK K
            refine norm_ (a' := ?_) ?_ ?_
            rotate_left
            · show Act.put _ (some 25) _ = _
              simp only [Act.put, List.setIfInBounds_toArray, List.set_cons_zero, List.set_cons_succ, i64_w, i32_w]
              rfl
            refine one_ (i := 5) (N := some 28) #[true, true, true, true, true, true, false, false, false, false, false, false, false, false, false, false, false] rfl rfl (one_of HT_.out (by kernel_rfl)) (by decide) (fun K hK => ?_)
            refine goes_ Try.func13 (by kernel_rfl) rfl #[.agg #[.string a1_0, .int .i64 a1_1, .int .u64 a1_2, .int .u64 a1_3], .agg #[.string a0_0, .int .i64 a0_1, .int .u64 a0_2, .int .u64 a0_3]] (by rfl) rfl rfl (by (try simp only [List.map_toArray, List.map_cons, List.map_nil]); first | done | rfl | (simp only [List.length_drop, List.length_take]; rfl)) ?_
            with_reducible refine (best_Ahead.calls kj4 a1_0 a1_1 a1_2 a1_3 a0_0 a0_1 a0_2 a0_3 t247 _ A25.out).mono ?_
            rintro e w31 ⟨rfl, hb⟩
            refine ⟨_, rfl, ?_⟩
            have n0_ := Aside0.mk (blk_below (g := gb238) (o := .cells #[.string a0_0, .int .i64 a0_1, .int .u64 a0_2, .int .u64 a0_3] 27 (0, 0)) (by (with_reducible repeat (first | refine blk_drewN ?_ _ | refine blk_drew ?_ | refine blk_alloc ?_ _)); exact BK238.out) hb)
            have n1_ := Aside0.mk (blk_below (g := gb239) (o := .cells #[.string a1_0, .int .i64 a1_1, .int .u64 a1_2, .int .u64 a1_3] 27 (0, 0)) (by (with_reducible repeat (first | refine blk_drewN ?_ _ | refine blk_drew ?_ | refine blk_alloc ?_ _)); exact BK239.out) hb)
            have n2_ := Aside0.mk (blk_below (g := gb240) (o := .cells #[.string a2_0, .int .i64 a2_1, .int .u64 a2_2, .int .u64 a2_3] 27 (0, 0)) (by (with_reducible repeat (first | refine blk_drewN ?_ _ | refine blk_drew ?_ | refine blk_alloc ?_ _)); exact BK240.out) hb)
            have n3_ := Aside0.mk (below_step (by repeat (first | (with_reducible first | exact HB.out | apply below_alloc | apply pw_below_drewN | apply below_drew1 | refine below_set ?_ GE238.out | refine below_set ?_ GE239.out | refine below_set ?_ GE240.out) | exact HB.out)) hb)
            clear BK238
            clear BK239
            clear BK240
            clear HB
            have BK238 := n0_
            have BK239 := n1_
            have BK240 := n2_
            have HB := n3_
            clear n0_ n1_ n2_ n3_
            (try clear hb)
            (try clear hb2)
            (try clear hk)
            (try clear hi)
            refine hK.out _ _ ⟨(blk_cell BK238.out 0).trans rfl, (blk_cell BK238.out 1).trans rfl, (blk_cell BK238.out 2).trans rfl, (blk_cell BK238.out 3).trans rfl, (blk_cell BK239.out 0).trans rfl, (blk_cell BK239.out 1).trans rfl, (blk_cell BK239.out 2).trans rfl, (blk_cell BK239.out 3).trans rfl⟩ (fun hHeld => ?_)
            clear hK K
            refine norm_ (a' := ?_) ?_ ?_
            rotate_left
            · show Act.put _ (some 28) _ = _
              simp only [Act.put, List.setIfInBounds_toArray, List.set_cons_zero, List.set_cons_succ, i64_w, i32_w]
              rfl
            refine pure_ (i := 6) (N := some 29) (v := ?_) (a' := ?_) #[true, true, true, true, true, true, true, false, false, false, false, false, false, false, false, false, false] rfl rfl (any_of HT_.out (by kernel_rfl)) (fun _ _ _ h => h) (Or.inl ⟨by rfl, ?_⟩) ?_ ?_
            rotate_left
            · intro w'
              go_simp
              with_reducible rfl
            rotate_left
            · simp only [Act.put, List.setIfInBounds_toArray, List.set_cons_zero, List.set_cons_succ, i64_w, i32_w]
              rfl
            refine pure_ (i := 7) (N := some 30) (v := ?_) (a' := ?_) #[true, true, true, true, true, true, true, true, false, false, false, false, false, false, false, false, false] rfl rfl (any_of HT_.out (by kernel_rfl)) (fun _ _ _ h => h) (Or.inl ⟨by rfl, ?_⟩) ?_ ?_
            rotate_left
            · intro w'
              go_simp
              with_reducible rfl
            rotate_left
            · simp only [Act.put, List.setIfInBounds_toArray, List.set_cons_zero, List.set_cons_succ, i64_w, i32_w]
              rfl
            refine take_ (i := 8) (N := some 31) (v := ?_) (a' := ?_) #[true, true, true, true, true, true, true, true, true, false, false, false, false, false, false, false, false] rfl rfl (take_ofW HT_.out HW_.out (by kernel_rfl)) (fun _ _ _ h => h) (Or.inl ⟨by rfl, ?_⟩) hHeld ?_ ?_
            rotate_left
            · rintro w' ⟨s0, s1, s2, s3, s4, s5, s6, s7⟩
              go_simp
              with_reducible rfl
            rotate_left
            · simp only [Act.put, List.setIfInBounds_toArray, List.set_cons_zero, List.set_cons_succ, i64_w, i32_w]
              rfl
            refine take_ (i := 9) (N := some 32) (v := ?_) (a' := ?_) #[true, true, true, true, true, true, true, true, true, true, false, false, false, false, false, false, false] rfl rfl (take_ofW HT_.out HW_.out (by kernel_rfl)) (fun _ _ _ h => h) (Or.inl ⟨by rfl, ?_⟩) hHeld ?_ ?_
            rotate_left
            · rintro w' ⟨s0, s1, s2, s3, s4, s5, s6, s7⟩
              go_simp
              with_reducible rfl
            rotate_left
            · simp only [Act.put, List.setIfInBounds_toArray, List.set_cons_zero, List.set_cons_succ, i64_w, i32_w]
              rfl
            refine take_ (i := 11) (N := some 34) (v := ?_) (a' := ?_) #[true, true, true, true, true, true, true, true, true, true, false, true, false, false, false, false, false] rfl rfl (take_ofW HT_.out HW_.out (by kernel_rfl)) (fun _ _ _ h => h) (Or.inl ⟨by rfl, ?_⟩) hHeld ?_ ?_
            rotate_left
            · rintro w' ⟨s0, s1, s2, s3, s4, s5, s6, s7⟩
              go_simp
              with_reducible rfl
            rotate_left
            · simp only [Act.put, List.setIfInBounds_toArray, List.set_cons_zero, List.set_cons_succ, i64_w, i32_w]
              rfl
            refine take_ (i := 12) (N := some 35) (v := ?_) (a' := ?_) #[true, true, true, true, true, true, true, true, true, true, false, true, true, false, false, false, false] rfl rfl (take_ofW HT_.out HW_.out (by kernel_rfl)) (fun _ _ _ h => h) (Or.inl ⟨by rfl, ?_⟩) hHeld ?_ ?_
            rotate_left
            · rintro w' ⟨s0, s1, s2, s3, s4, s5, s6, s7⟩
              go_simp
              with_reducible rfl
            rotate_left
            · simp only [Act.put, List.setIfInBounds_toArray, List.set_cons_zero, List.set_cons_succ, i64_w, i32_w]
              rfl
            refine one_ (i := 10) (N := some 33) #[true, true, true, true, true, true, true, true, true, true, true, true, true, false, false, false, false] rfl rfl (one_of HT_.out (by kernel_rfl)) (by decide) (fun K hK => ?_)
            refine goes_ Try.func15 (by kernel_rfl) rfl #[.agg #[.string a0_0, .int .i64 a0_1, .int .u64 a0_2, .int .u64 a0_3], .agg #[.string a1_0, .int .i64 a1_1, .int .u64 a1_2, .int .u64 a1_3]] (by rfl) rfl rfl (by (try simp only [List.map_toArray, List.map_cons, List.map_nil]); first | done | rfl | (simp only [List.length_drop, List.length_take]; rfl)) ?_
            with_reducible refine (best_Sooner.calls a0_0 a0_1 a0_2 a0_3 a1_0 a1_1 a1_2 a1_3 t248 _ A27.out).mono ?_
            rintro e w32 ⟨rfl, hb⟩
            refine ⟨_, rfl, ?_⟩
            have n0_ := Aside0.mk (blk_below (g := gb238) (o := .cells #[.string a0_0, .int .i64 a0_1, .int .u64 a0_2, .int .u64 a0_3] 27 (0, 0)) (by (with_reducible repeat (first | refine blk_drewN ?_ _ | refine blk_drew ?_ | refine blk_alloc ?_ _)); exact BK238.out) hb)
            have n1_ := Aside0.mk (blk_below (g := gb239) (o := .cells #[.string a1_0, .int .i64 a1_1, .int .u64 a1_2, .int .u64 a1_3] 27 (0, 0)) (by (with_reducible repeat (first | refine blk_drewN ?_ _ | refine blk_drew ?_ | refine blk_alloc ?_ _)); exact BK239.out) hb)
            have n2_ := Aside0.mk (blk_below (g := gb240) (o := .cells #[.string a2_0, .int .i64 a2_1, .int .u64 a2_2, .int .u64 a2_3] 27 (0, 0)) (by (with_reducible repeat (first | refine blk_drewN ?_ _ | refine blk_drew ?_ | refine blk_alloc ?_ _)); exact BK240.out) hb)
            have n3_ := Aside0.mk (below_step (by repeat (first | (with_reducible first | exact HB.out | apply below_alloc | apply pw_below_drewN | apply below_drew1 | refine below_set ?_ GE238.out | refine below_set ?_ GE239.out | refine below_set ?_ GE240.out) | exact HB.out)) hb)
            clear BK238
            clear BK239
            clear BK240
            clear HB
            have BK238 := n0_
            have BK239 := n1_
            have BK240 := n2_
            have HB := n3_
            clear n0_ n1_ n2_ n3_
            (try clear hb)
            (try clear hb2)
            (try clear hk)
            (try clear hi)
            refine hK.out _ _ ⟨(blk_cell BK238.out 0).trans rfl, (blk_cell BK238.out 1).trans rfl, (blk_cell BK238.out 2).trans rfl, (blk_cell BK238.out 3).trans rfl, (blk_cell BK239.out 0).trans rfl, (blk_cell BK239.out 1).trans rfl, (blk_cell BK239.out 2).trans rfl, (blk_cell BK239.out 3).trans rfl⟩ (fun hHeld => ?_)
            clear hK K
            refine norm_ (a' := ?_) ?_ ?_
            rotate_left
            · show Act.put _ (some 33) _ = _
              simp only [Act.put, List.setIfInBounds_toArray, List.set_cons_zero, List.set_cons_succ, i64_w, i32_w]
              rfl
            refine one_ (i := 13) (N := some 36) #[true, true, true, true, true, true, true, true, true, true, true, true, true, true, false, false, false] rfl rfl (one_of HT_.out (by kernel_rfl)) (by decide) (fun K hK => ?_)
            refine goes_ Try.func15 (by kernel_rfl) rfl #[.agg #[.string a1_0, .int .i64 a1_1, .int .u64 a1_2, .int .u64 a1_3], .agg #[.string a0_0, .int .i64 a0_1, .int .u64 a0_2, .int .u64 a0_3]] (by rfl) rfl rfl (by (try simp only [List.map_toArray, List.map_cons, List.map_nil]); first | done | rfl | (simp only [List.length_drop, List.length_take]; rfl)) ?_
            with_reducible refine (best_Sooner.calls a1_0 a1_1 a1_2 a1_3 a0_0 a0_1 a0_2 a0_3 t249 _ A28.out).mono ?_
            rintro e w33 ⟨rfl, hb⟩
            refine ⟨_, rfl, ?_⟩
            have n0_ := Aside0.mk (blk_below (g := gb238) (o := .cells #[.string a0_0, .int .i64 a0_1, .int .u64 a0_2, .int .u64 a0_3] 27 (0, 0)) (by (with_reducible repeat (first | refine blk_drewN ?_ _ | refine blk_drew ?_ | refine blk_alloc ?_ _)); exact BK238.out) hb)
            have n1_ := Aside0.mk (blk_below (g := gb239) (o := .cells #[.string a1_0, .int .i64 a1_1, .int .u64 a1_2, .int .u64 a1_3] 27 (0, 0)) (by (with_reducible repeat (first | refine blk_drewN ?_ _ | refine blk_drew ?_ | refine blk_alloc ?_ _)); exact BK239.out) hb)
            have n2_ := Aside0.mk (blk_below (g := gb240) (o := .cells #[.string a2_0, .int .i64 a2_1, .int .u64 a2_2, .int .u64 a2_3] 27 (0, 0)) (by (with_reducible repeat (first | refine blk_drewN ?_ _ | refine blk_drew ?_ | refine blk_alloc ?_ _)); exact BK240.out) hb)
            have n3_ := Aside0.mk (below_step (by repeat (first | (with_reducible first | exact HB.out | apply below_alloc | apply pw_below_drewN | apply below_drew1 | refine below_set ?_ GE238.out | refine below_set ?_ GE239.out | refine below_set ?_ GE240.out) | exact HB.out)) hb)
            clear BK238
            clear BK239
            clear BK240
            clear HB
            have BK238 := n0_
            have BK239 := n1_
            have BK240 := n2_
            have HB := n3_
            clear n0_ n1_ n2_ n3_
            (try clear hb)
            (try clear hb2)
            (try clear hk)
            (try clear hi)
            refine hK.out _ _ ⟨(blk_cell BK238.out 0).trans rfl, (blk_cell BK238.out 1).trans rfl, (blk_cell BK238.out 2).trans rfl, (blk_cell BK238.out 3).trans rfl, (blk_cell BK239.out 0).trans rfl, (blk_cell BK239.out 1).trans rfl, (blk_cell BK239.out 2).trans rfl, (blk_cell BK239.out 3).trans rfl⟩ (fun hHeld => ?_)
            clear hK K
            refine norm_ (a' := ?_) ?_ ?_
            rotate_left
            · show Act.put _ (some 36) _ = _
              simp only [Act.put, List.setIfInBounds_toArray, List.set_cons_zero, List.set_cons_succ, i64_w, i32_w]
              rfl
            refine pure_ (i := 14) (N := some 37) (v := ?_) (a' := ?_) #[true, true, true, true, true, true, true, true, true, true, true, true, true, true, true, false, false] rfl rfl (any_of HT_.out (by kernel_rfl)) (fun _ _ _ h => h) (Or.inl ⟨by rfl, ?_⟩) ?_ ?_
            rotate_left
            · intro w'
              go_simp
              with_reducible rfl
            rotate_left
            · simp only [Act.put, List.setIfInBounds_toArray, List.set_cons_zero, List.set_cons_succ, i64_w, i32_w]
              rfl
            refine pure_ (i := 15) (N := some 38) (v := ?_) (a' := ?_) #[true, true, true, true, true, true, true, true, true, true, true, true, true, true, true, true, false] rfl rfl (any_of HT_.out (by kernel_rfl)) (fun _ _ _ h => h) (Or.inl ⟨by rfl, ?_⟩) ?_ ?_
            rotate_left
            · intro w'
              go_simp
              with_reducible rfl
            rotate_left
            · simp only [Act.put, List.setIfInBounds_toArray, List.set_cons_zero, List.set_cons_succ, i64_w, i32_w]
              rfl
            refine pure_ (i := 16) (N := some 8) (v := ?_) (a' := ?_) #[true, true, true, true, true, true, true, true, true, true, true, true, true, true, true, true, true] rfl rfl (any_of HT_.out (by kernel_rfl)) (fun _ _ _ h => h) (Or.inl ⟨by rfl, ?_⟩) ?_ ?_
            rotate_left
            · intro w'
              go_simp
              with_reducible rfl
            rotate_left
            · simp only [Act.put, List.setIfInBounds_toArray, List.set_cons_zero, List.set_cons_succ, i64_w, i32_w]
              rfl
            refine done_ (done_of HT_.out (by kernel_rfl)) ?_
            try go_wp2
            go_meet
            case rel => exact ⟨_, ((t248 != t249)), (by first | rfl | (simp; done) | (simp [*]; done)), H', ⟨by have := HJ4.out; first | omega | exact Nat.le_refl _⟩, ⟨by (with_reducible repeat (first | refine blk_drewN ?_ _ | refine blk_drew ?_ | refine blk_alloc ?_ _)); exact BK238.out⟩, ⟨by (with_reducible repeat (first | refine blk_drewN ?_ _ | refine blk_drew ?_ | refine blk_alloc ?_ _)); exact BK239.out⟩, ⟨by (with_reducible repeat (first | refine blk_drewN ?_ _ | refine blk_drew ?_ | refine blk_alloc ?_ _)); exact BK240.out⟩, ⟨by repeat (first | (with_reducible first | exact HB.out | apply below_alloc | apply pw_below_drewN | apply below_drew1 | refine below_set ?_ GE238.out | refine below_set ?_ GE239.out | refine below_set ?_ GE240.out) | exact HB.out)⟩⟩
          · rw [if_neg c26] at H
            have c26b0 : (t246 != t247) = false := by simpa using c26
            (try (have c26b1 : decide (t246 = t247) = true := by simpa using c26))
            (try (have c26b2 : (t246 == t247) = true := by simpa using c26))
            clear c26
            (first | rw [c26b0] | (simp only [i64_w, i32_w]; rw [c26b0]) | skip)
            have H' := Aside0.mk H
            clear H
            try go_wp2
            have n0_ := Aside0.mk (blk_drew BK238.out)
            have n1_ := Aside0.mk (blk_drew BK239.out)
            have n2_ := Aside0.mk (blk_drew BK240.out)
            have n3_ := Aside0.mk (below_drew1 HB.out)
            clear BK238
            clear BK239
            clear BK240
            clear HB
            have BK238 := n0_
            have BK239 := n1_
            have BK240 := n2_
            have HB := n3_
            clear n0_ n1_ n2_ n3_
            refine start_ (n := 17) (S := fun w' => w'.cell? ⟨gb238, 0, none⟩ = some (.string a0_0) ∧ w'.cell? ⟨gb238, 1, none⟩ = some (.int .i64 a0_1) ∧ w'.cell? ⟨gb238, 2, none⟩ = some (.int .u64 a0_2) ∧ w'.cell? ⟨gb238, 3, none⟩ = some (.int .u64 a0_3) ∧ w'.cell? ⟨gb239, 0, none⟩ = some (.string a1_0) ∧ w'.cell? ⟨gb239, 1, none⟩ = some (.int .i64 a1_1) ∧ w'.cell? ⟨gb239, 2, none⟩ = some (.int .u64 a1_2) ∧ w'.cell? ⟨gb239, 3, none⟩ = some (.int .u64 a1_3)) (ds := []) #[false, false, false, false, false, false, false, false, false, false, false, false, false, false, false, false, false] (by kernel_rfl) rfl rfl ⟨(blk_cell BK238.out 0).trans rfl, (blk_cell BK238.out 1).trans rfl, (blk_cell BK238.out 2).trans rfl, (blk_cell BK238.out 3).trans rfl, (blk_cell BK239.out 0).trans rfl, (blk_cell BK239.out 1).trans rfl, (blk_cell BK239.out 2).trans rfl, (blk_cell BK239.out 3).trans rfl⟩ (fun hHeld => ?_); refine with_tabW catchwordlaw20_BestOrder.tab4 catchwordlaw20_BestOrder.bits4 (fun HT_ HW_ => ?_)
            generalize wc.drew = w34 at BK238 BK239 BK240 HB hHeld ⊢
            refine take_ (i := 0) (N := some 23) (v := ?_) (a' := ?_) #[true, false, false, false, false, false, false, false, false, false, false, false, false, false, false, false, false] rfl rfl (take_ofW HT_.out HW_.out (by kernel_rfl)) (fun _ _ _ h => h) (Or.inl ⟨by rfl, ?_⟩) hHeld ?_ ?_
            rotate_left
            · rintro w' ⟨s0, s1, s2, s3, s4, s5, s6, s7⟩
              go_simp
              with_reducible rfl
            rotate_left
            · simp only [Act.put, List.setIfInBounds_toArray, List.set_cons_zero, List.set_cons_succ, i64_w, i32_w]
              rfl
            refine take_ (i := 1) (N := some 24) (v := ?_) (a' := ?_) #[true, true, false, false, false, false, false, false, false, false, false, false, false, false, false, false, false] rfl rfl (take_ofW HT_.out HW_.out (by kernel_rfl)) (fun _ _ _ h => h) (Or.inl ⟨by rfl, ?_⟩) hHeld ?_ ?_
            rotate_left
            · rintro w' ⟨s0, s1, s2, s3, s4, s5, s6, s7⟩
              go_simp
              with_reducible rfl
            rotate_left
            · simp only [Act.put, List.setIfInBounds_toArray, List.set_cons_zero, List.set_cons_succ, i64_w, i32_w]
              rfl
            refine take_ (i := 3) (N := some 26) (v := ?_) (a' := ?_) #[true, true, false, true, false, false, false, false, false, false, false, false, false, false, false, false, false] rfl rfl (take_ofW HT_.out HW_.out (by kernel_rfl)) (fun _ _ _ h => h) (Or.inl ⟨by rfl, ?_⟩) hHeld ?_ ?_
            rotate_left
            · rintro w' ⟨s0, s1, s2, s3, s4, s5, s6, s7⟩
              go_simp
              with_reducible rfl
            rotate_left
            · simp only [Act.put, List.setIfInBounds_toArray, List.set_cons_zero, List.set_cons_succ, i64_w, i32_w]
              rfl
            refine take_ (i := 4) (N := some 27) (v := ?_) (a' := ?_) #[true, true, false, true, true, false, false, false, false, false, false, false, false, false, false, false, false] rfl rfl (take_ofW HT_.out HW_.out (by kernel_rfl)) (fun _ _ _ h => h) (Or.inl ⟨by rfl, ?_⟩) hHeld ?_ ?_
            rotate_left
            · rintro w' ⟨s0, s1, s2, s3, s4, s5, s6, s7⟩
              go_simp
              with_reducible rfl
            rotate_left
            · simp only [Act.put, List.setIfInBounds_toArray, List.set_cons_zero, List.set_cons_succ, i64_w, i32_w]
              rfl
            refine one_ (i := 2) (N := some 25) #[true, true, true, true, true, false, false, false, false, false, false, false, false, false, false, false, false] rfl rfl (one_of HT_.out (by kernel_rfl)) (by decide) (fun K hK => ?_)
            refine goes_ Try.func13 (by kernel_rfl) rfl #[.agg #[.string a0_0, .int .i64 a0_1, .int .u64 a0_2, .int .u64 a0_3], .agg #[.string a1_0, .int .i64 a1_1, .int .u64 a1_2, .int .u64 a1_3]] (by rfl) rfl rfl (by (try simp only [List.map_toArray, List.map_cons, List.map_nil]); first | done | rfl | (simp only [List.length_drop, List.length_take]; rfl)) ?_
            with_reducible refine (best_Ahead.calls kj4 a0_0 a0_1 a0_2 a0_3 a1_0 a1_1 a1_2 a1_3 t246 _ A24.out).mono ?_
            rintro e w35 ⟨rfl, hb⟩
            refine ⟨_, rfl, ?_⟩
            have n0_ := Aside0.mk (blk_below (g := gb238) (o := .cells #[.string a0_0, .int .i64 a0_1, .int .u64 a0_2, .int .u64 a0_3] 27 (0, 0)) (by (with_reducible repeat (first | refine blk_drewN ?_ _ | refine blk_drew ?_ | refine blk_alloc ?_ _)); exact BK238.out) hb)
            have n1_ := Aside0.mk (blk_below (g := gb239) (o := .cells #[.string a1_0, .int .i64 a1_1, .int .u64 a1_2, .int .u64 a1_3] 27 (0, 0)) (by (with_reducible repeat (first | refine blk_drewN ?_ _ | refine blk_drew ?_ | refine blk_alloc ?_ _)); exact BK239.out) hb)
            have n2_ := Aside0.mk (blk_below (g := gb240) (o := .cells #[.string a2_0, .int .i64 a2_1, .int .u64 a2_2, .int .u64 a2_3] 27 (0, 0)) (by (with_reducible repeat (first | refine blk_drewN ?_ _ | refine blk_drew ?_ | refine blk_alloc ?_ _)); exact BK240.out) hb)
            have n3_ := Aside0.mk (below_step (by repeat (first | (with_reducible first | exact HB.out | apply below_alloc | apply pw_below_drewN | apply below_drew1 | refine below_set ?_ GE238.out | refine below_set ?_ GE239.out | refine below_set ?_ GE240.out) | exact HB.out)) hb)
            clear BK238
            clear BK239
            clear BK240
            clear HB
            have BK238 := n0_
            have BK239 := n1_
            have BK240 := n2_
            have HB := n3_
            clear n0_ n1_ n2_ n3_
            (try clear hb)
            (try clear hb2)
            (try clear hk)
            (try clear hi)
            refine hK.out _ _ ⟨(blk_cell BK238.out 0).trans rfl, (blk_cell BK238.out 1).trans rfl, (blk_cell BK238.out 2).trans rfl, (blk_cell BK238.out 3).trans rfl, (blk_cell BK239.out 0).trans rfl, (blk_cell BK239.out 1).trans rfl, (blk_cell BK239.out 2).trans rfl, (blk_cell BK239.out 3).trans rfl⟩ (fun hHeld => ?_)
            clear hK K
            refine norm_ (a' := ?_) ?_ ?_
            rotate_left
            · show Act.put _ (some 25) _ = _
              simp only [Act.put, List.setIfInBounds_toArray, List.set_cons_zero, List.set_cons_succ, i64_w, i32_w]
              rfl
            refine one_ (i := 5) (N := some 28) #[true, true, true, true, true, true, false, false, false, false, false, false, false, false, false, false, false] rfl rfl (one_of HT_.out (by kernel_rfl)) (by decide) (fun K hK => ?_)
            refine goes_ Try.func13 (by kernel_rfl) rfl #[.agg #[.string a1_0, .int .i64 a1_1, .int .u64 a1_2, .int .u64 a1_3], .agg #[.string a0_0, .int .i64 a0_1, .int .u64 a0_2, .int .u64 a0_3]] (by rfl) rfl rfl (by (try simp only [List.map_toArray, List.map_cons, List.map_nil]); first | done | rfl | (simp only [List.length_drop, List.length_take]; rfl)) ?_
            with_reducible refine (best_Ahead.calls kj4 a1_0 a1_1 a1_2 a1_3 a0_0 a0_1 a0_2 a0_3 t247 _ A25.out).mono ?_
            rintro e w36 ⟨rfl, hb⟩
            refine ⟨_, rfl, ?_⟩
            have n0_ := Aside0.mk (blk_below (g := gb238) (o := .cells #[.string a0_0, .int .i64 a0_1, .int .u64 a0_2, .int .u64 a0_3] 27 (0, 0)) (by (with_reducible repeat (first | refine blk_drewN ?_ _ | refine blk_drew ?_ | refine blk_alloc ?_ _)); exact BK238.out) hb)
            have n1_ := Aside0.mk (blk_below (g := gb239) (o := .cells #[.string a1_0, .int .i64 a1_1, .int .u64 a1_2, .int .u64 a1_3] 27 (0, 0)) (by (with_reducible repeat (first | refine blk_drewN ?_ _ | refine blk_drew ?_ | refine blk_alloc ?_ _)); exact BK239.out) hb)
            have n2_ := Aside0.mk (blk_below (g := gb240) (o := .cells #[.string a2_0, .int .i64 a2_1, .int .u64 a2_2, .int .u64 a2_3] 27 (0, 0)) (by (with_reducible repeat (first | refine blk_drewN ?_ _ | refine blk_drew ?_ | refine blk_alloc ?_ _)); exact BK240.out) hb)
            have n3_ := Aside0.mk (below_step (by repeat (first | (with_reducible first | exact HB.out | apply below_alloc | apply pw_below_drewN | apply below_drew1 | refine below_set ?_ GE238.out | refine below_set ?_ GE239.out | refine below_set ?_ GE240.out) | exact HB.out)) hb)
            clear BK238
            clear BK239
            clear BK240
            clear HB
            have BK238 := n0_
            have BK239 := n1_
            have BK240 := n2_
            have HB := n3_
            clear n0_ n1_ n2_ n3_
            (try clear hb)
            (try clear hb2)
            (try clear hk)
            (try clear hi)
            refine hK.out _ _ ⟨(blk_cell BK238.out 0).trans rfl, (blk_cell BK238.out 1).trans rfl, (blk_cell BK238.out 2).trans rfl, (blk_cell BK238.out 3).trans rfl, (blk_cell BK239.out 0).trans rfl, (blk_cell BK239.out 1).trans rfl, (blk_cell BK239.out 2).trans rfl, (blk_cell BK239.out 3).trans rfl⟩ (fun hHeld => ?_)
            clear hK K
            refine norm_ (a' := ?_) ?_ ?_
            rotate_left
            · show Act.put _ (some 28) _ = _
              simp only [Act.put, List.setIfInBounds_toArray, List.set_cons_zero, List.set_cons_succ, i64_w, i32_w]
              rfl
            refine pure_ (i := 6) (N := some 29) (v := ?_) (a' := ?_) #[true, true, true, true, true, true, true, false, false, false, false, false, false, false, false, false, false] rfl rfl (any_of HT_.out (by kernel_rfl)) (fun _ _ _ h => h) (Or.inl ⟨by rfl, ?_⟩) ?_ ?_
            rotate_left
            · intro w'
              go_simp
              with_reducible rfl
            rotate_left
            · simp only [Act.put, List.setIfInBounds_toArray, List.set_cons_zero, List.set_cons_succ, i64_w, i32_w]
              rfl
            refine pure_ (i := 7) (N := some 30) (v := ?_) (a' := ?_) #[true, true, true, true, true, true, true, true, false, false, false, false, false, false, false, false, false] rfl rfl (any_of HT_.out (by kernel_rfl)) (fun _ _ _ h => h) (Or.inl ⟨by rfl, ?_⟩) ?_ ?_
            rotate_left
            · intro w'
              go_simp
              with_reducible rfl
            rotate_left
            · simp only [Act.put, List.setIfInBounds_toArray, List.set_cons_zero, List.set_cons_succ, i64_w, i32_w]
              rfl
            refine pure_ (i := 8) (N := some 31) (v := undef) (a' := ?_) #[true, true, true, true, true, true, true, true, true, false, false, false, false, false, false, false, false] rfl rfl (any_of HT_.out (by kernel_rfl)) (fun _ _ _ h => h) (Or.inr ⟨by rfl, rfl⟩) ?_ ?_
            rotate_left
            · simp only [Act.put, List.setIfInBounds_toArray, List.set_cons_zero, List.set_cons_succ, i64_w, i32_w]
              rfl
            refine pure_ (i := 9) (N := some 32) (v := undef) (a' := ?_) #[true, true, true, true, true, true, true, true, true, true, false, false, false, false, false, false, false] rfl rfl (any_of HT_.out (by kernel_rfl)) (fun _ _ _ h => h) (Or.inr ⟨by rfl, rfl⟩) ?_ ?_
            rotate_left
            · simp only [Act.put, List.setIfInBounds_toArray, List.set_cons_zero, List.set_cons_succ, i64_w, i32_w]
              rfl
            refine pure_ (i := 10) (N := some 33) (v := undef) (a' := ?_) #[true, true, true, true, true, true, true, true, true, true, true, false, false, false, false, false, false] rfl rfl (any_of HT_.out (by kernel_rfl)) (fun _ _ _ h => h) (Or.inr ⟨by rfl, rfl⟩) ?_ ?_
            rotate_left
            · simp only [Act.put, List.setIfInBounds_toArray, List.set_cons_zero, List.set_cons_succ, i64_w, i32_w]
              rfl
            refine pure_ (i := 11) (N := some 34) (v := undef) (a' := ?_) #[true, true, true, true, true, true, true, true, true, true, true, true, false, false, false, false, false] rfl rfl (any_of HT_.out (by kernel_rfl)) (fun _ _ _ h => h) (Or.inr ⟨by rfl, rfl⟩) ?_ ?_
            rotate_left
            · simp only [Act.put, List.setIfInBounds_toArray, List.set_cons_zero, List.set_cons_succ, i64_w, i32_w]
              rfl
            refine pure_ (i := 12) (N := some 35) (v := undef) (a' := ?_) #[true, true, true, true, true, true, true, true, true, true, true, true, true, false, false, false, false] rfl rfl (any_of HT_.out (by kernel_rfl)) (fun _ _ _ h => h) (Or.inr ⟨by rfl, rfl⟩) ?_ ?_
            rotate_left
            · simp only [Act.put, List.setIfInBounds_toArray, List.set_cons_zero, List.set_cons_succ, i64_w, i32_w]
              rfl
            refine pure_ (i := 13) (N := some 36) (v := undef) (a' := ?_) #[true, true, true, true, true, true, true, true, true, true, true, true, true, true, false, false, false] rfl rfl (any_of HT_.out (by kernel_rfl)) (fun _ _ _ h => h) (Or.inr ⟨by rfl, rfl⟩) ?_ ?_
            rotate_left
            · simp only [Act.put, List.setIfInBounds_toArray, List.set_cons_zero, List.set_cons_succ, i64_w, i32_w]
              rfl
            refine pure_ (i := 14) (N := some 37) (v := undef) (a' := ?_) #[true, true, true, true, true, true, true, true, true, true, true, true, true, true, true, false, false] rfl rfl (any_of HT_.out (by kernel_rfl)) (fun _ _ _ h => h) (Or.inr ⟨by rfl, rfl⟩) ?_ ?_
            rotate_left
            · simp only [Act.put, List.setIfInBounds_toArray, List.set_cons_zero, List.set_cons_succ, i64_w, i32_w]
              rfl
            refine pure_ (i := 15) (N := some 38) (v := ?_) (a' := ?_) #[true, true, true, true, true, true, true, true, true, true, true, true, true, true, true, true, false] rfl rfl (any_of HT_.out (by kernel_rfl)) (fun _ _ _ h => h) (Or.inl ⟨by rfl, ?_⟩) ?_ ?_
            rotate_left
            · intro w'
              go_simp
              with_reducible rfl
            rotate_left
            · simp only [Act.put, List.setIfInBounds_toArray, List.set_cons_zero, List.set_cons_succ, i64_w, i32_w]
              rfl
            refine pure_ (i := 16) (N := some 8) (v := ?_) (a' := ?_) #[true, true, true, true, true, true, true, true, true, true, true, true, true, true, true, true, true] rfl rfl (any_of HT_.out (by kernel_rfl)) (fun _ _ _ h => h) (Or.inl ⟨by rfl, ?_⟩) ?_ ?_
            rotate_left
            · intro w'
              go_simp
              with_reducible rfl
            rotate_left
            · simp only [Act.put, List.setIfInBounds_toArray, List.set_cons_zero, List.set_cons_succ, i64_w, i32_w]
              rfl
            refine done_ (done_of HT_.out (by kernel_rfl)) ?_
            try go_wp2
            go_meet
            case rel => exact ⟨_, (false), (by first | rfl | (simp; done) | (simp [*]; done)), H', ⟨by have := HJ4.out; first | omega | exact Nat.le_refl _⟩, ⟨by (with_reducible repeat (first | refine blk_drewN ?_ _ | refine blk_drew ?_ | refine blk_alloc ?_ _)); exact BK238.out⟩, ⟨by (with_reducible repeat (first | refine blk_drewN ?_ _ | refine blk_drew ?_ | refine blk_alloc ?_ _)); exact BK239.out⟩, ⟨by (with_reducible repeat (first | refine blk_drewN ?_ _ | refine blk_drew ?_ | refine blk_alloc ?_ _)); exact BK240.out⟩, ⟨by repeat (first | (with_reducible first | exact HB.out | apply below_alloc | apply pw_below_drewN | apply below_drew1 | refine below_set ?_ GE238.out | refine below_set ?_ GE239.out | refine below_set ?_ GE240.out) | exact HB.out)⟩⟩
        case rest =>
          clear HC23
          try clear c1
          try clear c2
          try clear p2
          try clear c4
          try clear c5
          try clear c9
          try clear c10
          try clear c12
          try clear c13
          try clear c15
          try clear c22
          try clear c26
          try clear c26b0
          try clear c26b1
          try clear c26b2
          try clear hcz14_0
          try clear hcz14_1
          try clear hcz14_2
          try clear hcz14_3
          try clear hcz16_0
          try clear hcz16_1
          try clear hcz16_2
          try clear hcz16_3
          try clear hcz17_0
          try clear hcz17_1
          try clear hcz17_2
          try clear hcz17_3
          try clear hfz14_0
          try clear hfz14_1
          try clear hfz14_2
          try clear hfz14_3
          try clear hfz16_0
          try clear hfz16_1
          try clear hfz16_2
          try clear hfz16_3
          try clear hfz17_0
          try clear hfz17_1
          try clear hfz17_2
          try clear hfz17_3
          try clear p2
          obtain ⟨kq, x8_22, rfl, HA, HJ22, BK238, BK239, BK240, HB⟩ := hcut
          cases kq with
          | zero => exact absurd HA.out (by simp [catchwordlaw20_BestOrder.j1])
          | succ kj22 =>
            have H := HA.out
            clear HA
            simp only [catchwordlaw20_BestOrder.j1] at H
            have HC37 := Aside0.mk H
            clear H
            go_upto_region 5 with (fail)
            go_cut [9] (fun v9 wc => ∃ (kq : Nat) (x9_36 : Bool), v9 = .bool x9_36 ∧ Aside0 (catchwordlaw20_BestOrder.j2 kq x8_22 x9_36 a0_0 a0_1 a0_2 a0_3 a1_0 a1_1 a1_2 a1_3 a2_0 a2_1 a2_2 a2_3 = some r) ∧ Aside0 (kq ≤ kj22) ∧ Aside0 (wc.heap[gb238]? = some (.cells #[.string a0_0, .int .i64 a0_1, .int .u64 a0_2, .int .u64 a0_3] 27 (0, 0))) ∧ Aside0 (wc.heap[gb239]? = some (.cells #[.string a1_0, .int .i64 a1_1, .int .u64 a1_2, .int .u64 a1_3] 27 (0, 0))) ∧ Aside0 (wc.heap[gb240]? = some (.cells #[.string a2_0, .int .i64 a2_1, .int .u64 a2_2, .int .u64 a2_3] 27 (0, 0))) ∧ Aside0 (Below w.heap.size w wc))
            case first =>
              have H := HC37.out
              clear HC37
              replace H := Option.bind_eq_some_iff.mp H
              obtain ⟨t250, A380, H⟩ := H
              replace H : (if t250 = true then ((best_Ahead.f kj22 a1_0 a1_1 a1_2 a1_3 a2_0 a2_1 a2_2 a2_3).bind fun t251 => (if t251 = true then ((best_Ahead.f kj22 a0_0 a0_1 a0_2 a0_3 a2_0 a2_1 a2_2 a2_3).bind fun t252 => (catchwordlaw20_BestOrder.j2 kj22 x8_22 t252 a0_0 a0_1 a0_2 a0_3 a1_0 a1_1 a1_2 a1_3 a2_0 a2_1 a2_2 a2_3)) else (catchwordlaw20_BestOrder.j2 kj22 x8_22 true a0_0 a0_1 a0_2 a0_3 a1_0 a1_1 a1_2 a1_3 a2_0 a2_1 a2_2 a2_3))) else (catchwordlaw20_BestOrder.j2 kj22 x8_22 true a0_0 a0_1 a0_2 a0_3 a1_0 a1_1 a1_2 a1_3 a2_0 a2_1 a2_2 a2_3)) = some r := H
              have A38 := Aside0.mk A380
              clear A380
              by_cases c39 : t250 = true
              · subst c39
                have H1 : ((best_Ahead.f kj22 a1_0 a1_1 a1_2 a1_3 a2_0 a2_1 a2_2 a2_3).bind fun t251 => (if t251 = true then ((best_Ahead.f kj22 a0_0 a0_1 a0_2 a0_3 a2_0 a2_1 a2_2 a2_3).bind fun t252 => (catchwordlaw20_BestOrder.j2 kj22 x8_22 t252 a0_0 a0_1 a0_2 a0_3 a1_0 a1_1 a1_2 a1_3 a2_0 a2_1 a2_2 a2_3)) else (catchwordlaw20_BestOrder.j2 kj22 x8_22 true a0_0 a0_1 a0_2 a0_3 a1_0 a1_1 a1_2 a1_3 a2_0 a2_1 a2_2 a2_3))) = some r := by rw [if_pos rfl] at H; exact H
                clear H
                have H := H1
                clear H1
                replace H := Option.bind_eq_some_iff.mp H
                obtain ⟨t251, A400, H⟩ := H
                replace H : (if t251 = true then ((best_Ahead.f kj22 a0_0 a0_1 a0_2 a0_3 a2_0 a2_1 a2_2 a2_3).bind fun t252 => (catchwordlaw20_BestOrder.j2 kj22 x8_22 t252 a0_0 a0_1 a0_2 a0_3 a1_0 a1_1 a1_2 a1_3 a2_0 a2_1 a2_2 a2_3)) else (catchwordlaw20_BestOrder.j2 kj22 x8_22 true a0_0 a0_1 a0_2 a0_3 a1_0 a1_1 a1_2 a1_3 a2_0 a2_1 a2_2 a2_3)) = some r := H
                have A40 := Aside0.mk A400
                clear A400
                by_cases c41 : t251 = true
                · subst c41
                  have H1 : ((best_Ahead.f kj22 a0_0 a0_1 a0_2 a0_3 a2_0 a2_1 a2_2 a2_3).bind fun t252 => (catchwordlaw20_BestOrder.j2 kj22 x8_22 t252 a0_0 a0_1 a0_2 a0_3 a1_0 a1_1 a1_2 a1_3 a2_0 a2_1 a2_2 a2_3)) = some r := by rw [if_pos rfl] at H; exact H
                  clear H
                  have H := H1
                  clear H1
                  replace H := Option.bind_eq_some_iff.mp H
                  obtain ⟨t252, A420, H⟩ := H
                  replace H : (catchwordlaw20_BestOrder.j2 kj22 x8_22 t252 a0_0 a0_1 a0_2 a0_3 a1_0 a1_1 a1_2 a1_3 a2_0 a2_1 a2_2 a2_3) = some r := H
                  have A42 := Aside0.mk A420
                  clear A420
                  have H' := Aside0.mk H
                  clear H
                  have hnb43 := NB238_239.out
                  have hnc43 := NB239_238.out
                  have hnb44 := NB238_240.out
                  have hnc44 := NB240_238.out
                  have hcz45_0 : wc.cell? ⟨gb238, 0, none⟩ = some (.string a0_0) := (blk_cell BK238.out 0).trans rfl
                  have hcz45_1 : wc.cell? ⟨gb238, 1, none⟩ = some (.int .i64 a0_1) := (blk_cell BK238.out 1).trans rfl
                  have hcz45_2 : wc.cell? ⟨gb238, 2, none⟩ = some (.int .u64 a0_2) := (blk_cell BK238.out 2).trans rfl
                  have hcz45_3 : wc.cell? ⟨gb238, 3, none⟩ = some (.int .u64 a0_3) := (blk_cell BK238.out 3).trans rfl
                  have hfz45_0 := blk_frozen BK238.out 0
                  have hfz45_1 := blk_frozen BK238.out 1
                  have hfz45_2 := blk_frozen BK238.out 2
                  have hfz45_3 := blk_frozen BK238.out 3
                  have hnb46 := NB239_240.out
                  have hnc46 := NB240_239.out
                  have hcz47_0 : wc.cell? ⟨gb239, 0, none⟩ = some (.string a1_0) := (blk_cell BK239.out 0).trans rfl
                  have hcz47_1 : wc.cell? ⟨gb239, 1, none⟩ = some (.int .i64 a1_1) := (blk_cell BK239.out 1).trans rfl
                  have hcz47_2 : wc.cell? ⟨gb239, 2, none⟩ = some (.int .u64 a1_2) := (blk_cell BK239.out 2).trans rfl
                  have hcz47_3 : wc.cell? ⟨gb239, 3, none⟩ = some (.int .u64 a1_3) := (blk_cell BK239.out 3).trans rfl
                  have hfz47_0 := blk_frozen BK239.out 0
                  have hfz47_1 := blk_frozen BK239.out 1
                  have hfz47_2 := blk_frozen BK239.out 2
                  have hfz47_3 := blk_frozen BK239.out 3
                  go_wp2_with (first | ((with_reducible refine gate_callee (f := 13) rfl ?_); refine goesL_ (some 41) rfl rfl Try.func13 (by kernel_rfl) rfl #[.agg #[.string a0_0, .int .i64 a0_1, .int .u64 a0_2, .int .u64 a0_3], .agg #[.string a1_0, .int .i64 a1_1, .int .u64 a1_2, .int .u64 a1_3]] rfl (by (try simp only [List.map_toArray, List.map_cons, List.map_nil]); first | done | rfl | (simp only [List.length_drop, List.length_take]; rfl)) ?_; (with_reducible refine (best_Ahead.calls kj22 a0_0 a0_1 a0_2 a0_3 a1_0 a1_1 a1_2 a1_3 true _ A38.out).mono ?_); rintro e w48 ⟨rfl, hb⟩; refine ⟨_, rfl, ?_⟩; have n0_ := Aside0.mk (blk_below (g := gb238) (o := .cells #[.string a0_0, .int .i64 a0_1, .int .u64 a0_2, .int .u64 a0_3] 27 (0, 0)) (by (with_reducible repeat (first | refine blk_drewN ?_ _ | refine blk_drew ?_ | refine blk_alloc ?_ _)); exact BK238.out) hb); have n1_ := Aside0.mk (blk_below (g := gb239) (o := .cells #[.string a1_0, .int .i64 a1_1, .int .u64 a1_2, .int .u64 a1_3] 27 (0, 0)) (by (with_reducible repeat (first | refine blk_drewN ?_ _ | refine blk_drew ?_ | refine blk_alloc ?_ _)); exact BK239.out) hb); have n2_ := Aside0.mk (blk_below (g := gb240) (o := .cells #[.string a2_0, .int .i64 a2_1, .int .u64 a2_2, .int .u64 a2_3] 27 (0, 0)) (by (with_reducible repeat (first | refine blk_drewN ?_ _ | refine blk_drew ?_ | refine blk_alloc ?_ _)); exact BK240.out) hb); have n3_ := Aside0.mk (below_step (by repeat (first | (with_reducible first | exact HB.out | apply below_alloc | apply pw_below_drewN | apply below_drew1 | refine below_set ?_ GE238.out | refine below_set ?_ GE239.out | refine below_set ?_ GE240.out) | exact HB.out)) hb); clear BK238; clear BK239; clear BK240; clear HB; have BK238 := n0_; have BK239 := n1_; have BK240 := n2_; have HB := n3_; clear n0_ n1_ n2_ n3_; (try clear hb); (try clear hb2); (try clear hk); (try clear hi); have hcz49_0 : w48.cell? ⟨gb239, 0, none⟩ = some (.string a1_0) := (blk_cell BK239.out 0).trans rfl; have hcz49_1 : w48.cell? ⟨gb239, 1, none⟩ = some (.int .i64 a1_1) := (blk_cell BK239.out 1).trans rfl; have hcz49_2 : w48.cell? ⟨gb239, 2, none⟩ = some (.int .u64 a1_2) := (blk_cell BK239.out 2).trans rfl; have hcz49_3 : w48.cell? ⟨gb239, 3, none⟩ = some (.int .u64 a1_3) := (blk_cell BK239.out 3).trans rfl; have hfz49_0 := blk_frozen BK239.out 0; have hfz49_1 := blk_frozen BK239.out 1; have hfz49_2 := blk_frozen BK239.out 2; have hfz49_3 := blk_frozen BK239.out 3; have hcz50_0 : w48.cell? ⟨gb240, 0, none⟩ = some (.string a2_0) := (blk_cell BK240.out 0).trans rfl; have hcz50_1 : w48.cell? ⟨gb240, 1, none⟩ = some (.int .i64 a2_1) := (blk_cell BK240.out 1).trans rfl; have hcz50_2 : w48.cell? ⟨gb240, 2, none⟩ = some (.int .u64 a2_2) := (blk_cell BK240.out 2).trans rfl; have hcz50_3 : w48.cell? ⟨gb240, 3, none⟩ = some (.int .u64 a2_3) := (blk_cell BK240.out 3).trans rfl; have hfz50_0 := blk_frozen BK240.out 0; have hfz50_1 := blk_frozen BK240.out 1; have hfz50_2 := blk_frozen BK240.out 2; have hfz50_3 := blk_frozen BK240.out 3) | (go_at_call 13; (with_reducible refine (best_Ahead.calls kj22 a1_0 a1_1 a1_2 a1_3 a2_0 a2_1 a2_2 a2_3 true _ A40.out).mono ?_); rintro e w51 ⟨rfl, hb⟩; have n0_ := Aside0.mk (blk_below (g := gb238) (o := .cells #[.string a0_0, .int .i64 a0_1, .int .u64 a0_2, .int .u64 a0_3] 27 (0, 0)) (by (with_reducible repeat (first | refine blk_drewN ?_ _ | refine blk_drew ?_ | refine blk_alloc ?_ _)); exact BK238.out) hb); have n1_ := Aside0.mk (blk_below (g := gb239) (o := .cells #[.string a1_0, .int .i64 a1_1, .int .u64 a1_2, .int .u64 a1_3] 27 (0, 0)) (by (with_reducible repeat (first | refine blk_drewN ?_ _ | refine blk_drew ?_ | refine blk_alloc ?_ _)); exact BK239.out) hb); have n2_ := Aside0.mk (blk_below (g := gb240) (o := .cells #[.string a2_0, .int .i64 a2_1, .int .u64 a2_2, .int .u64 a2_3] 27 (0, 0)) (by (with_reducible repeat (first | refine blk_drewN ?_ _ | refine blk_drew ?_ | refine blk_alloc ?_ _)); exact BK240.out) hb); have n3_ := Aside0.mk (below_step (by repeat (first | (with_reducible first | exact HB.out | apply below_alloc | apply pw_below_drewN | apply below_drew1 | refine below_set ?_ GE238.out | refine below_set ?_ GE239.out | refine below_set ?_ GE240.out) | exact HB.out)) hb); clear BK238; clear BK239; clear BK240; clear HB; have BK238 := n0_; have BK239 := n1_; have BK240 := n2_; have HB := n3_; clear n0_ n1_ n2_ n3_; (try clear hb); (try clear hb2); (try clear hk); (try clear hi); have hcz52_0 : w51.cell? ⟨gb238, 0, none⟩ = some (.string a0_0) := (blk_cell BK238.out 0).trans rfl; have hcz52_1 : w51.cell? ⟨gb238, 1, none⟩ = some (.int .i64 a0_1) := (blk_cell BK238.out 1).trans rfl; have hcz52_2 : w51.cell? ⟨gb238, 2, none⟩ = some (.int .u64 a0_2) := (blk_cell BK238.out 2).trans rfl; have hcz52_3 : w51.cell? ⟨gb238, 3, none⟩ = some (.int .u64 a0_3) := (blk_cell BK238.out 3).trans rfl; have hfz52_0 := blk_frozen BK238.out 0; have hfz52_1 := blk_frozen BK238.out 1; have hfz52_2 := blk_frozen BK238.out 2; have hfz52_3 := blk_frozen BK238.out 3; have hcz53_0 : w51.cell? ⟨gb240, 0, none⟩ = some (.string a2_0) := (blk_cell BK240.out 0).trans rfl; have hcz53_1 : w51.cell? ⟨gb240, 1, none⟩ = some (.int .i64 a2_1) := (blk_cell BK240.out 1).trans rfl; have hcz53_2 : w51.cell? ⟨gb240, 2, none⟩ = some (.int .u64 a2_2) := (blk_cell BK240.out 2).trans rfl; have hcz53_3 : w51.cell? ⟨gb240, 3, none⟩ = some (.int .u64 a2_3) := (blk_cell BK240.out 3).trans rfl; have hfz53_0 := blk_frozen BK240.out 0; have hfz53_1 := blk_frozen BK240.out 1; have hfz53_2 := blk_frozen BK240.out 2; have hfz53_3 := blk_frozen BK240.out 3) | (go_at_call 13; (with_reducible refine (best_Ahead.calls kj22 a0_0 a0_1 a0_2 a0_3 a2_0 a2_1 a2_2 a2_3 t252 _ A42.out).mono ?_); rintro e w54 ⟨rfl, hb⟩; have n0_ := Aside0.mk (blk_below (g := gb238) (o := .cells #[.string a0_0, .int .i64 a0_1, .int .u64 a0_2, .int .u64 a0_3] 27 (0, 0)) (by (with_reducible repeat (first | refine blk_drewN ?_ _ | refine blk_drew ?_ | refine blk_alloc ?_ _)); exact BK238.out) hb); have n1_ := Aside0.mk (blk_below (g := gb239) (o := .cells #[.string a1_0, .int .i64 a1_1, .int .u64 a1_2, .int .u64 a1_3] 27 (0, 0)) (by (with_reducible repeat (first | refine blk_drewN ?_ _ | refine blk_drew ?_ | refine blk_alloc ?_ _)); exact BK239.out) hb); have n2_ := Aside0.mk (blk_below (g := gb240) (o := .cells #[.string a2_0, .int .i64 a2_1, .int .u64 a2_2, .int .u64 a2_3] 27 (0, 0)) (by (with_reducible repeat (first | refine blk_drewN ?_ _ | refine blk_drew ?_ | refine blk_alloc ?_ _)); exact BK240.out) hb); have n3_ := Aside0.mk (below_step (by repeat (first | (with_reducible first | exact HB.out | apply below_alloc | apply pw_below_drewN | apply below_drew1 | refine below_set ?_ GE238.out | refine below_set ?_ GE239.out | refine below_set ?_ GE240.out) | exact HB.out)) hb); clear BK238; clear BK239; clear BK240; clear HB; have BK238 := n0_; have BK239 := n1_; have BK240 := n2_; have HB := n3_; clear n0_ n1_ n2_ n3_; (try clear hb); (try clear hb2); (try clear hk); (try clear hi)))
                  go_meet
                  case rel => exact ⟨_, (t252), (by first | rfl | (simp; done) | (simp [*]; done)), H', ⟨by have := HJ4.out; have := HJ22.out; first | omega | exact Nat.le_refl _⟩, ⟨by (with_reducible repeat (first | refine blk_drewN ?_ _ | refine blk_drew ?_ | refine blk_alloc ?_ _)); exact BK238.out⟩, ⟨by (with_reducible repeat (first | refine blk_drewN ?_ _ | refine blk_drew ?_ | refine blk_alloc ?_ _)); exact BK239.out⟩, ⟨by (with_reducible repeat (first | refine blk_drewN ?_ _ | refine blk_drew ?_ | refine blk_alloc ?_ _)); exact BK240.out⟩, ⟨by repeat (first | (with_reducible first | exact HB.out | apply below_alloc | apply pw_below_drewN | apply below_drew1 | refine below_set ?_ GE238.out | refine below_set ?_ GE239.out | refine below_set ?_ GE240.out) | exact HB.out)⟩⟩
                · replace c41 := Bool.eq_false_iff.mpr c41
                  subst c41
                  have H1 : (catchwordlaw20_BestOrder.j2 kj22 x8_22 true a0_0 a0_1 a0_2 a0_3 a1_0 a1_1 a1_2 a1_3 a2_0 a2_1 a2_2 a2_3) = some r := by rw [if_neg (show ¬ (false = true) by decide)] at H; exact H
                  clear H
                  have H := H1
                  clear H1
                  have H' := Aside0.mk H
                  clear H
                  have hnb55 := NB238_239.out
                  have hnc55 := NB239_238.out
                  have hnb56 := NB238_240.out
                  have hnc56 := NB240_238.out
                  have hcz57_0 : wc.cell? ⟨gb238, 0, none⟩ = some (.string a0_0) := (blk_cell BK238.out 0).trans rfl
                  have hcz57_1 : wc.cell? ⟨gb238, 1, none⟩ = some (.int .i64 a0_1) := (blk_cell BK238.out 1).trans rfl
                  have hcz57_2 : wc.cell? ⟨gb238, 2, none⟩ = some (.int .u64 a0_2) := (blk_cell BK238.out 2).trans rfl
                  have hcz57_3 : wc.cell? ⟨gb238, 3, none⟩ = some (.int .u64 a0_3) := (blk_cell BK238.out 3).trans rfl
                  have hfz57_0 := blk_frozen BK238.out 0
                  have hfz57_1 := blk_frozen BK238.out 1
                  have hfz57_2 := blk_frozen BK238.out 2
                  have hfz57_3 := blk_frozen BK238.out 3
                  have hnb58 := NB239_240.out
                  have hnc58 := NB240_239.out
                  have hcz59_0 : wc.cell? ⟨gb239, 0, none⟩ = some (.string a1_0) := (blk_cell BK239.out 0).trans rfl
                  have hcz59_1 : wc.cell? ⟨gb239, 1, none⟩ = some (.int .i64 a1_1) := (blk_cell BK239.out 1).trans rfl
                  have hcz59_2 : wc.cell? ⟨gb239, 2, none⟩ = some (.int .u64 a1_2) := (blk_cell BK239.out 2).trans rfl
                  have hcz59_3 : wc.cell? ⟨gb239, 3, none⟩ = some (.int .u64 a1_3) := (blk_cell BK239.out 3).trans rfl
                  have hfz59_0 := blk_frozen BK239.out 0
                  have hfz59_1 := blk_frozen BK239.out 1
                  have hfz59_2 := blk_frozen BK239.out 2
                  have hfz59_3 := blk_frozen BK239.out 3
                  go_wp2_with (first | ((with_reducible refine gate_callee (f := 13) rfl ?_); refine goesL_ (some 41) rfl rfl Try.func13 (by kernel_rfl) rfl #[.agg #[.string a0_0, .int .i64 a0_1, .int .u64 a0_2, .int .u64 a0_3], .agg #[.string a1_0, .int .i64 a1_1, .int .u64 a1_2, .int .u64 a1_3]] rfl (by (try simp only [List.map_toArray, List.map_cons, List.map_nil]); first | done | rfl | (simp only [List.length_drop, List.length_take]; rfl)) ?_; (with_reducible refine (best_Ahead.calls kj22 a0_0 a0_1 a0_2 a0_3 a1_0 a1_1 a1_2 a1_3 true _ A38.out).mono ?_); rintro e w60 ⟨rfl, hb⟩; refine ⟨_, rfl, ?_⟩; have n0_ := Aside0.mk (blk_below (g := gb238) (o := .cells #[.string a0_0, .int .i64 a0_1, .int .u64 a0_2, .int .u64 a0_3] 27 (0, 0)) (by (with_reducible repeat (first | refine blk_drewN ?_ _ | refine blk_drew ?_ | refine blk_alloc ?_ _)); exact BK238.out) hb); have n1_ := Aside0.mk (blk_below (g := gb239) (o := .cells #[.string a1_0, .int .i64 a1_1, .int .u64 a1_2, .int .u64 a1_3] 27 (0, 0)) (by (with_reducible repeat (first | refine blk_drewN ?_ _ | refine blk_drew ?_ | refine blk_alloc ?_ _)); exact BK239.out) hb); have n2_ := Aside0.mk (blk_below (g := gb240) (o := .cells #[.string a2_0, .int .i64 a2_1, .int .u64 a2_2, .int .u64 a2_3] 27 (0, 0)) (by (with_reducible repeat (first | refine blk_drewN ?_ _ | refine blk_drew ?_ | refine blk_alloc ?_ _)); exact BK240.out) hb); have n3_ := Aside0.mk (below_step (by repeat (first | (with_reducible first | exact HB.out | apply below_alloc | apply pw_below_drewN | apply below_drew1 | refine below_set ?_ GE238.out | refine below_set ?_ GE239.out | refine below_set ?_ GE240.out) | exact HB.out)) hb); clear BK238; clear BK239; clear BK240; clear HB; have BK238 := n0_; have BK239 := n1_; have BK240 := n2_; have HB := n3_; clear n0_ n1_ n2_ n3_; (try clear hb); (try clear hb2); (try clear hk); (try clear hi); have hcz61_0 : w60.cell? ⟨gb239, 0, none⟩ = some (.string a1_0) := (blk_cell BK239.out 0).trans rfl; have hcz61_1 : w60.cell? ⟨gb239, 1, none⟩ = some (.int .i64 a1_1) := (blk_cell BK239.out 1).trans rfl; have hcz61_2 : w60.cell? ⟨gb239, 2, none⟩ = some (.int .u64 a1_2) := (blk_cell BK239.out 2).trans rfl; have hcz61_3 : w60.cell? ⟨gb239, 3, none⟩ = some (.int .u64 a1_3) := (blk_cell BK239.out 3).trans rfl; have hfz61_0 := blk_frozen BK239.out 0; have hfz61_1 := blk_frozen BK239.out 1; have hfz61_2 := blk_frozen BK239.out 2; have hfz61_3 := blk_frozen BK239.out 3; have hcz62_0 : w60.cell? ⟨gb240, 0, none⟩ = some (.string a2_0) := (blk_cell BK240.out 0).trans rfl; have hcz62_1 : w60.cell? ⟨gb240, 1, none⟩ = some (.int .i64 a2_1) := (blk_cell BK240.out 1).trans rfl; have hcz62_2 : w60.cell? ⟨gb240, 2, none⟩ = some (.int .u64 a2_2) := (blk_cell BK240.out 2).trans rfl; have hcz62_3 : w60.cell? ⟨gb240, 3, none⟩ = some (.int .u64 a2_3) := (blk_cell BK240.out 3).trans rfl; have hfz62_0 := blk_frozen BK240.out 0; have hfz62_1 := blk_frozen BK240.out 1; have hfz62_2 := blk_frozen BK240.out 2; have hfz62_3 := blk_frozen BK240.out 3) | (go_at_call 13; (with_reducible refine (best_Ahead.calls kj22 a1_0 a1_1 a1_2 a1_3 a2_0 a2_1 a2_2 a2_3 false _ A40.out).mono ?_); rintro e w63 ⟨rfl, hb⟩; have n0_ := Aside0.mk (blk_below (g := gb238) (o := .cells #[.string a0_0, .int .i64 a0_1, .int .u64 a0_2, .int .u64 a0_3] 27 (0, 0)) (by (with_reducible repeat (first | refine blk_drewN ?_ _ | refine blk_drew ?_ | refine blk_alloc ?_ _)); exact BK238.out) hb); have n1_ := Aside0.mk (blk_below (g := gb239) (o := .cells #[.string a1_0, .int .i64 a1_1, .int .u64 a1_2, .int .u64 a1_3] 27 (0, 0)) (by (with_reducible repeat (first | refine blk_drewN ?_ _ | refine blk_drew ?_ | refine blk_alloc ?_ _)); exact BK239.out) hb); have n2_ := Aside0.mk (blk_below (g := gb240) (o := .cells #[.string a2_0, .int .i64 a2_1, .int .u64 a2_2, .int .u64 a2_3] 27 (0, 0)) (by (with_reducible repeat (first | refine blk_drewN ?_ _ | refine blk_drew ?_ | refine blk_alloc ?_ _)); exact BK240.out) hb); have n3_ := Aside0.mk (below_step (by repeat (first | (with_reducible first | exact HB.out | apply below_alloc | apply pw_below_drewN | apply below_drew1 | refine below_set ?_ GE238.out | refine below_set ?_ GE239.out | refine below_set ?_ GE240.out) | exact HB.out)) hb); clear BK238; clear BK239; clear BK240; clear HB; have BK238 := n0_; have BK239 := n1_; have BK240 := n2_; have HB := n3_; clear n0_ n1_ n2_ n3_; (try clear hb); (try clear hb2); (try clear hk); (try clear hi)))
                  go_meet
                  case rel => exact ⟨_, (true), (by first | rfl | (simp; done) | (simp [*]; done)), H', ⟨by have := HJ4.out; have := HJ22.out; first | omega | exact Nat.le_refl _⟩, ⟨by (with_reducible repeat (first | refine blk_drewN ?_ _ | refine blk_drew ?_ | refine blk_alloc ?_ _)); exact BK238.out⟩, ⟨by (with_reducible repeat (first | refine blk_drewN ?_ _ | refine blk_drew ?_ | refine blk_alloc ?_ _)); exact BK239.out⟩, ⟨by (with_reducible repeat (first | refine blk_drewN ?_ _ | refine blk_drew ?_ | refine blk_alloc ?_ _)); exact BK240.out⟩, ⟨by repeat (first | (with_reducible first | exact HB.out | apply below_alloc | apply pw_below_drewN | apply below_drew1 | refine below_set ?_ GE238.out | refine below_set ?_ GE239.out | refine below_set ?_ GE240.out) | exact HB.out)⟩⟩
              · replace c39 := Bool.eq_false_iff.mpr c39
                subst c39
                have H1 : (catchwordlaw20_BestOrder.j2 kj22 x8_22 true a0_0 a0_1 a0_2 a0_3 a1_0 a1_1 a1_2 a1_3 a2_0 a2_1 a2_2 a2_3) = some r := by rw [if_neg (show ¬ (false = true) by decide)] at H; exact H
                clear H
                have H := H1
                clear H1
                have H' := Aside0.mk H
                clear H
                have hnb64 := NB238_239.out
                have hnc64 := NB239_238.out
                have hnb65 := NB238_240.out
                have hnc65 := NB240_238.out
                have hcz66_0 : wc.cell? ⟨gb238, 0, none⟩ = some (.string a0_0) := (blk_cell BK238.out 0).trans rfl
                have hcz66_1 : wc.cell? ⟨gb238, 1, none⟩ = some (.int .i64 a0_1) := (blk_cell BK238.out 1).trans rfl
                have hcz66_2 : wc.cell? ⟨gb238, 2, none⟩ = some (.int .u64 a0_2) := (blk_cell BK238.out 2).trans rfl
                have hcz66_3 : wc.cell? ⟨gb238, 3, none⟩ = some (.int .u64 a0_3) := (blk_cell BK238.out 3).trans rfl
                have hfz66_0 := blk_frozen BK238.out 0
                have hfz66_1 := blk_frozen BK238.out 1
                have hfz66_2 := blk_frozen BK238.out 2
                have hfz66_3 := blk_frozen BK238.out 3
                have hnb67 := NB239_240.out
                have hnc67 := NB240_239.out
                have hcz68_0 : wc.cell? ⟨gb239, 0, none⟩ = some (.string a1_0) := (blk_cell BK239.out 0).trans rfl
                have hcz68_1 : wc.cell? ⟨gb239, 1, none⟩ = some (.int .i64 a1_1) := (blk_cell BK239.out 1).trans rfl
                have hcz68_2 : wc.cell? ⟨gb239, 2, none⟩ = some (.int .u64 a1_2) := (blk_cell BK239.out 2).trans rfl
                have hcz68_3 : wc.cell? ⟨gb239, 3, none⟩ = some (.int .u64 a1_3) := (blk_cell BK239.out 3).trans rfl
                have hfz68_0 := blk_frozen BK239.out 0
                have hfz68_1 := blk_frozen BK239.out 1
                have hfz68_2 := blk_frozen BK239.out 2
                have hfz68_3 := blk_frozen BK239.out 3
                go_wp2_with (first | ((with_reducible refine gate_callee (f := 13) rfl ?_); refine goesL_ (some 41) rfl rfl Try.func13 (by kernel_rfl) rfl #[.agg #[.string a0_0, .int .i64 a0_1, .int .u64 a0_2, .int .u64 a0_3], .agg #[.string a1_0, .int .i64 a1_1, .int .u64 a1_2, .int .u64 a1_3]] rfl (by (try simp only [List.map_toArray, List.map_cons, List.map_nil]); first | done | rfl | (simp only [List.length_drop, List.length_take]; rfl)) ?_; (with_reducible refine (best_Ahead.calls kj22 a0_0 a0_1 a0_2 a0_3 a1_0 a1_1 a1_2 a1_3 false _ A38.out).mono ?_); rintro e w69 ⟨rfl, hb⟩; refine ⟨_, rfl, ?_⟩; have n0_ := Aside0.mk (blk_below (g := gb238) (o := .cells #[.string a0_0, .int .i64 a0_1, .int .u64 a0_2, .int .u64 a0_3] 27 (0, 0)) (by (with_reducible repeat (first | refine blk_drewN ?_ _ | refine blk_drew ?_ | refine blk_alloc ?_ _)); exact BK238.out) hb); have n1_ := Aside0.mk (blk_below (g := gb239) (o := .cells #[.string a1_0, .int .i64 a1_1, .int .u64 a1_2, .int .u64 a1_3] 27 (0, 0)) (by (with_reducible repeat (first | refine blk_drewN ?_ _ | refine blk_drew ?_ | refine blk_alloc ?_ _)); exact BK239.out) hb); have n2_ := Aside0.mk (blk_below (g := gb240) (o := .cells #[.string a2_0, .int .i64 a2_1, .int .u64 a2_2, .int .u64 a2_3] 27 (0, 0)) (by (with_reducible repeat (first | refine blk_drewN ?_ _ | refine blk_drew ?_ | refine blk_alloc ?_ _)); exact BK240.out) hb); have n3_ := Aside0.mk (below_step (by repeat (first | (with_reducible first | exact HB.out | apply below_alloc | apply pw_below_drewN | apply below_drew1 | refine below_set ?_ GE238.out | refine below_set ?_ GE239.out | refine below_set ?_ GE240.out) | exact HB.out)) hb); clear BK238; clear BK239; clear BK240; clear HB; have BK238 := n0_; have BK239 := n1_; have BK240 := n2_; have HB := n3_; clear n0_ n1_ n2_ n3_; (try clear hb); (try clear hb2); (try clear hk); (try clear hi)))
                go_meet
                case rel => exact ⟨_, (true), (by first | rfl | (simp; done) | (simp [*]; done)), H', ⟨by have := HJ4.out; have := HJ22.out; first | omega | exact Nat.le_refl _⟩, ⟨by (with_reducible repeat (first | refine blk_drewN ?_ _ | refine blk_drew ?_ | refine blk_alloc ?_ _)); exact BK238.out⟩, ⟨by (with_reducible repeat (first | refine blk_drewN ?_ _ | refine blk_drew ?_ | refine blk_alloc ?_ _)); exact BK239.out⟩, ⟨by (with_reducible repeat (first | refine blk_drewN ?_ _ | refine blk_drew ?_ | refine blk_alloc ?_ _)); exact BK240.out⟩, ⟨by repeat (first | (with_reducible first | exact HB.out | apply below_alloc | apply pw_below_drewN | apply below_drew1 | refine below_set ?_ GE238.out | refine below_set ?_ GE239.out | refine below_set ?_ GE240.out) | exact HB.out)⟩⟩
            case rest =>
              clear HC37
              try clear c1
              try clear c2
              try clear p2
              try clear c3
              try clear c4
              try clear c5
              try clear c6
              try clear c9
              try clear c10
              try clear c12
              try clear c13
              try clear c15
              try clear c22
              try clear c26
              try clear c26b0
              try clear c26b1
              try clear c26b2
              try clear c39
              try clear c41
              try clear c43
              try clear c44
              try clear c46
              try clear c55
              try clear c56
              try clear c58
              try clear c64
              try clear c65
              try clear c67
              try clear hcz14_0
              try clear hcz14_1
              try clear hcz14_2
              try clear hcz14_3
              try clear hcz16_0
              try clear hcz16_1
              try clear hcz16_2
              try clear hcz16_3
              try clear hcz17_0
              try clear hcz17_1
              try clear hcz17_2
              try clear hcz17_3
              try clear hcz45_0
              try clear hcz45_1
              try clear hcz45_2
              try clear hcz45_3
              try clear hcz47_0
              try clear hcz47_1
              try clear hcz47_2
              try clear hcz47_3
              try clear hcz49_0
              try clear hcz49_1
              try clear hcz49_2
              try clear hcz49_3
              try clear hcz50_0
              try clear hcz50_1
              try clear hcz50_2
              try clear hcz50_3
              try clear hcz52_0
              try clear hcz52_1
              try clear hcz52_2
              try clear hcz52_3
              try clear hcz53_0
              try clear hcz53_1
              try clear hcz53_2
              try clear hcz53_3
              try clear hcz57_0
              try clear hcz57_1
              try clear hcz57_2
              try clear hcz57_3
              try clear hcz59_0
              try clear hcz59_1
              try clear hcz59_2
              try clear hcz59_3
              try clear hcz61_0
              try clear hcz61_1
              try clear hcz61_2
              try clear hcz61_3
              try clear hcz62_0
              try clear hcz62_1
              try clear hcz62_2
              try clear hcz62_3
              try clear hcz66_0
              try clear hcz66_1
              try clear hcz66_2
              try clear hcz66_3
              try clear hcz68_0
              try clear hcz68_1
              try clear hcz68_2
              try clear hcz68_3
              try clear hfz14_0
              try clear hfz14_1
              try clear hfz14_2
              try clear hfz14_3
              try clear hfz16_0
              try clear hfz16_1
              try clear hfz16_2
              try clear hfz16_3
              try clear hfz17_0
              try clear hfz17_1
              try clear hfz17_2
              try clear hfz17_3
              try clear hfz45_0
              try clear hfz45_1
              try clear hfz45_2
              try clear hfz45_3
              try clear hfz47_0
              try clear hfz47_1
              try clear hfz47_2
              try clear hfz47_3
              try clear hfz49_0
              try clear hfz49_1
              try clear hfz49_2
              try clear hfz49_3
              try clear hfz50_0
              try clear hfz50_1
              try clear hfz50_2
              try clear hfz50_3
              try clear hfz52_0
              try clear hfz52_1
              try clear hfz52_2
              try clear hfz52_3
              try clear hfz53_0
              try clear hfz53_1
              try clear hfz53_2
              try clear hfz53_3
              try clear hfz57_0
              try clear hfz57_1
              try clear hfz57_2
              try clear hfz57_3
              try clear hfz59_0
              try clear hfz59_1
              try clear hfz59_2
              try clear hfz59_3
              try clear hfz61_0
              try clear hfz61_1
              try clear hfz61_2
              try clear hfz61_3
              try clear hfz62_0
              try clear hfz62_1
              try clear hfz62_2
              try clear hfz62_3
              try clear hfz66_0
              try clear hfz66_1
              try clear hfz66_2
              try clear hfz66_3
              try clear hfz68_0
              try clear hfz68_1
              try clear hfz68_2
              try clear hfz68_3
              try clear p2
              obtain ⟨kq, x9_36, rfl, HA, HJ36, BK238, BK239, BK240, HB⟩ := hcut
              cases kq with
              | zero => exact absurd HA.out (by simp [catchwordlaw20_BestOrder.j2])
              | succ kj36 =>
                have H := HA.out
                clear HA
                simp only [catchwordlaw20_BestOrder.j2] at H
                replace H := Option.bind_eq_some_iff.mp H
                obtain ⟨t253, A700, H⟩ := H
                replace H : (if t253 = true then ((best_Sooner.f a1_0 a1_1 a1_2 a1_3 a2_0 a2_1 a2_2 a2_3).bind fun t254 => (if t254 = true then ((best_Sooner.f a0_0 a0_1 a0_2 a0_3 a2_0 a2_1 a2_2 a2_3).bind fun t255 => (if x8_22 = true then (if x9_36 = true then (if t255 = true then ((best_Ahead.f kj36 a0_0 a0_1 a0_2 a0_3 a0_0 a0_1 a0_2 a0_3).bind fun t256 => (if t256 = true then (some false) else ((best_Sooner.f a0_0 a0_1 a0_2 a0_3 a0_0 a0_1 a0_2 a0_3).bind fun t257 => (some (!t257))))) else (some false)) else (some false)) else (some false))) else (if x8_22 = true then (if x9_36 = true then ((best_Ahead.f kj36 a0_0 a0_1 a0_2 a0_3 a0_0 a0_1 a0_2 a0_3).bind fun t258 => (if t258 = true then (some false) else ((best_Sooner.f a0_0 a0_1 a0_2 a0_3 a0_0 a0_1 a0_2 a0_3).bind fun t259 => (some (!t259))))) else (some false)) else (some false)))) else (if x8_22 = true then (if x9_36 = true then ((best_Ahead.f kj36 a0_0 a0_1 a0_2 a0_3 a0_0 a0_1 a0_2 a0_3).bind fun t260 => (if t260 = true then (some false) else ((best_Sooner.f a0_0 a0_1 a0_2 a0_3 a0_0 a0_1 a0_2 a0_3).bind fun t261 => (some (!t261))))) else (some false)) else (some false))) = some r := H
                have A70 := Aside0.mk A700
                clear A700
                by_cases c71 : t253 = true
                · subst c71
                  have H1 : ((best_Sooner.f a1_0 a1_1 a1_2 a1_3 a2_0 a2_1 a2_2 a2_3).bind fun t254 => (if t254 = true then ((best_Sooner.f a0_0 a0_1 a0_2 a0_3 a2_0 a2_1 a2_2 a2_3).bind fun t255 => (if x8_22 = true then (if x9_36 = true then (if t255 = true then ((best_Ahead.f kj36 a0_0 a0_1 a0_2 a0_3 a0_0 a0_1 a0_2 a0_3).bind fun t256 => (if t256 = true then (some false) else ((best_Sooner.f a0_0 a0_1 a0_2 a0_3 a0_0 a0_1 a0_2 a0_3).bind fun t257 => (some (!t257))))) else (some false)) else (some false)) else (some false))) else (if x8_22 = true then (if x9_36 = true then ((best_Ahead.f kj36 a0_0 a0_1 a0_2 a0_3 a0_0 a0_1 a0_2 a0_3).bind fun t258 => (if t258 = true then (some false) else ((best_Sooner.f a0_0 a0_1 a0_2 a0_3 a0_0 a0_1 a0_2 a0_3).bind fun t259 => (some (!t259))))) else (some false)) else (some false)))) = some r := by rw [if_pos rfl] at H; exact H
                  clear H
                  have H := H1
                  clear H1
                  replace H := Option.bind_eq_some_iff.mp H
                  obtain ⟨t254, A720, H⟩ := H
                  replace H : (if t254 = true then ((best_Sooner.f a0_0 a0_1 a0_2 a0_3 a2_0 a2_1 a2_2 a2_3).bind fun t255 => (if x8_22 = true then (if x9_36 = true then (if t255 = true then ((best_Ahead.f kj36 a0_0 a0_1 a0_2 a0_3 a0_0 a0_1 a0_2 a0_3).bind fun t256 => (if t256 = true then (some false) else ((best_Sooner.f a0_0 a0_1 a0_2 a0_3 a0_0 a0_1 a0_2 a0_3).bind fun t257 => (some (!t257))))) else (some false)) else (some false)) else (some false))) else (if x8_22 = true then (if x9_36 = true then ((best_Ahead.f kj36 a0_0 a0_1 a0_2 a0_3 a0_0 a0_1 a0_2 a0_3).bind fun t258 => (if t258 = true then (some false) else ((best_Sooner.f a0_0 a0_1 a0_2 a0_3 a0_0 a0_1 a0_2 a0_3).bind fun t259 => (some (!t259))))) else (some false)) else (some false))) = some r := H
                  have A72 := Aside0.mk A720
                  clear A720
                  by_cases c73 : t254 = true
                  · subst c73
                    have H1 : ((best_Sooner.f a0_0 a0_1 a0_2 a0_3 a2_0 a2_1 a2_2 a2_3).bind fun t255 => (if x8_22 = true then (if x9_36 = true then (if t255 = true then ((best_Ahead.f kj36 a0_0 a0_1 a0_2 a0_3 a0_0 a0_1 a0_2 a0_3).bind fun t256 => (if t256 = true then (some false) else ((best_Sooner.f a0_0 a0_1 a0_2 a0_3 a0_0 a0_1 a0_2 a0_3).bind fun t257 => (some (!t257))))) else (some false)) else (some false)) else (some false))) = some r := by rw [if_pos rfl] at H; exact H
                    clear H
                    have H := H1
                    clear H1
                    replace H := Option.bind_eq_some_iff.mp H
                    obtain ⟨t255, A740, H⟩ := H
                    replace H : (if x8_22 = true then (if x9_36 = true then (if t255 = true then ((best_Ahead.f kj36 a0_0 a0_1 a0_2 a0_3 a0_0 a0_1 a0_2 a0_3).bind fun t256 => (if t256 = true then (some false) else ((best_Sooner.f a0_0 a0_1 a0_2 a0_3 a0_0 a0_1 a0_2 a0_3).bind fun t257 => (some (!t257))))) else (some false)) else (some false)) else (some false)) = some r := H
                    have A74 := Aside0.mk A740
                    clear A740
                    by_cases c75 : x8_22 = true
                    · subst c75
                      have H1 : (if x9_36 = true then (if t255 = true then ((best_Ahead.f kj36 a0_0 a0_1 a0_2 a0_3 a0_0 a0_1 a0_2 a0_3).bind fun t256 => (if t256 = true then (some false) else ((best_Sooner.f a0_0 a0_1 a0_2 a0_3 a0_0 a0_1 a0_2 a0_3).bind fun t257 => (some (!t257))))) else (some false)) else (some false)) = some r := by rw [if_pos rfl] at H; exact H
                      clear H
                      have H := H1
                      clear H1
                      by_cases c76 : x9_36 = true
                      · subst c76
                        have H1 : (if t255 = true then ((best_Ahead.f kj36 a0_0 a0_1 a0_2 a0_3 a0_0 a0_1 a0_2 a0_3).bind fun t256 => (if t256 = true then (some false) else ((best_Sooner.f a0_0 a0_1 a0_2 a0_3 a0_0 a0_1 a0_2 a0_3).bind fun t257 => (some (!t257))))) else (some false)) = some r := by rw [if_pos rfl] at H; exact H
                        clear H
                        have H := H1
                        clear H1
                        by_cases c77 : t255 = true
                        · subst c77
                          have H1 : ((best_Ahead.f kj36 a0_0 a0_1 a0_2 a0_3 a0_0 a0_1 a0_2 a0_3).bind fun t256 => (if t256 = true then (some false) else ((best_Sooner.f a0_0 a0_1 a0_2 a0_3 a0_0 a0_1 a0_2 a0_3).bind fun t257 => (some (!t257))))) = some r := by rw [if_pos rfl] at H; exact H
                          clear H
                          have H := H1
                          clear H1
                          replace H := Option.bind_eq_some_iff.mp H
                          obtain ⟨t256, A780, H⟩ := H
                          replace H : (if t256 = true then (some false) else ((best_Sooner.f a0_0 a0_1 a0_2 a0_3 a0_0 a0_1 a0_2 a0_3).bind fun t257 => (some (!t257)))) = some r := H
                          have A78 := Aside0.mk A780
                          clear A780
                          by_cases c79 : t256 = true
                          · subst c79
                            have H1 : (some false) = some r := by rw [if_pos rfl] at H; exact H
                            clear H
                            have H := H1
                            clear H1
                            obtain rfl := Option.some.inj H
                            have hnb80 := NB238_239.out
                            have hnc80 := NB239_238.out
                            have hnb81 := NB238_240.out
                            have hnc81 := NB240_238.out
                            have hcz82_0 : wc.cell? ⟨gb238, 0, none⟩ = some (.string a0_0) := (blk_cell BK238.out 0).trans rfl
                            have hcz82_1 : wc.cell? ⟨gb238, 1, none⟩ = some (.int .i64 a0_1) := (blk_cell BK238.out 1).trans rfl
                            have hcz82_2 : wc.cell? ⟨gb238, 2, none⟩ = some (.int .u64 a0_2) := (blk_cell BK238.out 2).trans rfl
                            have hcz82_3 : wc.cell? ⟨gb238, 3, none⟩ = some (.int .u64 a0_3) := (blk_cell BK238.out 3).trans rfl
                            have hfz82_0 := blk_frozen BK238.out 0
                            have hfz82_1 := blk_frozen BK238.out 1
                            have hfz82_2 := blk_frozen BK238.out 2
                            have hfz82_3 := blk_frozen BK238.out 3
                            have hnb83 := NB239_240.out
                            have hnc83 := NB240_239.out
                            have hcz84_0 : wc.cell? ⟨gb239, 0, none⟩ = some (.string a1_0) := (blk_cell BK239.out 0).trans rfl
                            have hcz84_1 : wc.cell? ⟨gb239, 1, none⟩ = some (.int .i64 a1_1) := (blk_cell BK239.out 1).trans rfl
                            have hcz84_2 : wc.cell? ⟨gb239, 2, none⟩ = some (.int .u64 a1_2) := (blk_cell BK239.out 2).trans rfl
                            have hcz84_3 : wc.cell? ⟨gb239, 3, none⟩ = some (.int .u64 a1_3) := (blk_cell BK239.out 3).trans rfl
                            have hfz84_0 := blk_frozen BK239.out 0
                            have hfz84_1 := blk_frozen BK239.out 1
                            have hfz84_2 := blk_frozen BK239.out 2
                            have hfz84_3 := blk_frozen BK239.out 3
                            go_wp2_with (first | ((with_reducible refine gate_callee (f := 15) rfl ?_); refine goesL_ (some 56) rfl rfl Try.func15 (by kernel_rfl) rfl #[.agg #[.string a0_0, .int .i64 a0_1, .int .u64 a0_2, .int .u64 a0_3], .agg #[.string a1_0, .int .i64 a1_1, .int .u64 a1_2, .int .u64 a1_3]] rfl (by (try simp only [List.map_toArray, List.map_cons, List.map_nil]); first | done | rfl | (simp only [List.length_drop, List.length_take]; rfl)) ?_; (with_reducible refine (best_Sooner.calls a0_0 a0_1 a0_2 a0_3 a1_0 a1_1 a1_2 a1_3 true _ A70.out).mono ?_); rintro e w85 ⟨rfl, hb⟩; refine ⟨_, rfl, ?_⟩; have n0_ := Aside0.mk (blk_below (g := gb238) (o := .cells #[.string a0_0, .int .i64 a0_1, .int .u64 a0_2, .int .u64 a0_3] 27 (0, 0)) (by (with_reducible repeat (first | refine blk_drewN ?_ _ | refine blk_drew ?_ | refine blk_alloc ?_ _)); exact BK238.out) hb); have n1_ := Aside0.mk (blk_below (g := gb239) (o := .cells #[.string a1_0, .int .i64 a1_1, .int .u64 a1_2, .int .u64 a1_3] 27 (0, 0)) (by (with_reducible repeat (first | refine blk_drewN ?_ _ | refine blk_drew ?_ | refine blk_alloc ?_ _)); exact BK239.out) hb); have n2_ := Aside0.mk (blk_below (g := gb240) (o := .cells #[.string a2_0, .int .i64 a2_1, .int .u64 a2_2, .int .u64 a2_3] 27 (0, 0)) (by (with_reducible repeat (first | refine blk_drewN ?_ _ | refine blk_drew ?_ | refine blk_alloc ?_ _)); exact BK240.out) hb); have n3_ := Aside0.mk (below_step (by repeat (first | (with_reducible first | exact HB.out | apply below_alloc | apply pw_below_drewN | apply below_drew1 | refine below_set ?_ GE238.out | refine below_set ?_ GE239.out | refine below_set ?_ GE240.out) | exact HB.out)) hb); clear BK238; clear BK239; clear BK240; clear HB; have BK238 := n0_; have BK239 := n1_; have BK240 := n2_; have HB := n3_; clear n0_ n1_ n2_ n3_; (try clear hb); (try clear hb2); (try clear hk); (try clear hi); have hcz86_0 : w85.cell? ⟨gb239, 0, none⟩ = some (.string a1_0) := (blk_cell BK239.out 0).trans rfl; have hcz86_1 : w85.cell? ⟨gb239, 1, none⟩ = some (.int .i64 a1_1) := (blk_cell BK239.out 1).trans rfl; have hcz86_2 : w85.cell? ⟨gb239, 2, none⟩ = some (.int .u64 a1_2) := (blk_cell BK239.out 2).trans rfl; have hcz86_3 : w85.cell? ⟨gb239, 3, none⟩ = some (.int .u64 a1_3) := (blk_cell BK239.out 3).trans rfl; have hfz86_0 := blk_frozen BK239.out 0; have hfz86_1 := blk_frozen BK239.out 1; have hfz86_2 := blk_frozen BK239.out 2; have hfz86_3 := blk_frozen BK239.out 3; have hcz87_0 : w85.cell? ⟨gb240, 0, none⟩ = some (.string a2_0) := (blk_cell BK240.out 0).trans rfl; have hcz87_1 : w85.cell? ⟨gb240, 1, none⟩ = some (.int .i64 a2_1) := (blk_cell BK240.out 1).trans rfl; have hcz87_2 : w85.cell? ⟨gb240, 2, none⟩ = some (.int .u64 a2_2) := (blk_cell BK240.out 2).trans rfl; have hcz87_3 : w85.cell? ⟨gb240, 3, none⟩ = some (.int .u64 a2_3) := (blk_cell BK240.out 3).trans rfl; have hfz87_0 := blk_frozen BK240.out 0; have hfz87_1 := blk_frozen BK240.out 1; have hfz87_2 := blk_frozen BK240.out 2; have hfz87_3 := blk_frozen BK240.out 3) | (go_at_call 15; (with_reducible refine (best_Sooner.calls a1_0 a1_1 a1_2 a1_3 a2_0 a2_1 a2_2 a2_3 true _ A72.out).mono ?_); rintro e w88 ⟨rfl, hb⟩; have n0_ := Aside0.mk (blk_below (g := gb238) (o := .cells #[.string a0_0, .int .i64 a0_1, .int .u64 a0_2, .int .u64 a0_3] 27 (0, 0)) (by (with_reducible repeat (first | refine blk_drewN ?_ _ | refine blk_drew ?_ | refine blk_alloc ?_ _)); exact BK238.out) hb); have n1_ := Aside0.mk (blk_below (g := gb239) (o := .cells #[.string a1_0, .int .i64 a1_1, .int .u64 a1_2, .int .u64 a1_3] 27 (0, 0)) (by (with_reducible repeat (first | refine blk_drewN ?_ _ | refine blk_drew ?_ | refine blk_alloc ?_ _)); exact BK239.out) hb); have n2_ := Aside0.mk (blk_below (g := gb240) (o := .cells #[.string a2_0, .int .i64 a2_1, .int .u64 a2_2, .int .u64 a2_3] 27 (0, 0)) (by (with_reducible repeat (first | refine blk_drewN ?_ _ | refine blk_drew ?_ | refine blk_alloc ?_ _)); exact BK240.out) hb); have n3_ := Aside0.mk (below_step (by repeat (first | (with_reducible first | exact HB.out | apply below_alloc | apply pw_below_drewN | apply below_drew1 | refine below_set ?_ GE238.out | refine below_set ?_ GE239.out | refine below_set ?_ GE240.out) | exact HB.out)) hb); clear BK238; clear BK239; clear BK240; clear HB; have BK238 := n0_; have BK239 := n1_; have BK240 := n2_; have HB := n3_; clear n0_ n1_ n2_ n3_; (try clear hb); (try clear hb2); (try clear hk); (try clear hi); have hcz89_0 : w88.cell? ⟨gb238, 0, none⟩ = some (.string a0_0) := (blk_cell BK238.out 0).trans rfl; have hcz89_1 : w88.cell? ⟨gb238, 1, none⟩ = some (.int .i64 a0_1) := (blk_cell BK238.out 1).trans rfl; have hcz89_2 : w88.cell? ⟨gb238, 2, none⟩ = some (.int .u64 a0_2) := (blk_cell BK238.out 2).trans rfl; have hcz89_3 : w88.cell? ⟨gb238, 3, none⟩ = some (.int .u64 a0_3) := (blk_cell BK238.out 3).trans rfl; have hfz89_0 := blk_frozen BK238.out 0; have hfz89_1 := blk_frozen BK238.out 1; have hfz89_2 := blk_frozen BK238.out 2; have hfz89_3 := blk_frozen BK238.out 3; have hcz90_0 : w88.cell? ⟨gb240, 0, none⟩ = some (.string a2_0) := (blk_cell BK240.out 0).trans rfl; have hcz90_1 : w88.cell? ⟨gb240, 1, none⟩ = some (.int .i64 a2_1) := (blk_cell BK240.out 1).trans rfl; have hcz90_2 : w88.cell? ⟨gb240, 2, none⟩ = some (.int .u64 a2_2) := (blk_cell BK240.out 2).trans rfl; have hcz90_3 : w88.cell? ⟨gb240, 3, none⟩ = some (.int .u64 a2_3) := (blk_cell BK240.out 3).trans rfl; have hfz90_0 := blk_frozen BK240.out 0; have hfz90_1 := blk_frozen BK240.out 1; have hfz90_2 := blk_frozen BK240.out 2; have hfz90_3 := blk_frozen BK240.out 3) | (go_at_call 15; (with_reducible refine (best_Sooner.calls a0_0 a0_1 a0_2 a0_3 a2_0 a2_1 a2_2 a2_3 true _ A74.out).mono ?_); rintro e w91 ⟨rfl, hb⟩; have n0_ := Aside0.mk (blk_below (g := gb238) (o := .cells #[.string a0_0, .int .i64 a0_1, .int .u64 a0_2, .int .u64 a0_3] 27 (0, 0)) (by (with_reducible repeat (first | refine blk_drewN ?_ _ | refine blk_drew ?_ | refine blk_alloc ?_ _)); exact BK238.out) hb); have n1_ := Aside0.mk (blk_below (g := gb239) (o := .cells #[.string a1_0, .int .i64 a1_1, .int .u64 a1_2, .int .u64 a1_3] 27 (0, 0)) (by (with_reducible repeat (first | refine blk_drewN ?_ _ | refine blk_drew ?_ | refine blk_alloc ?_ _)); exact BK239.out) hb); have n2_ := Aside0.mk (blk_below (g := gb240) (o := .cells #[.string a2_0, .int .i64 a2_1, .int .u64 a2_2, .int .u64 a2_3] 27 (0, 0)) (by (with_reducible repeat (first | refine blk_drewN ?_ _ | refine blk_drew ?_ | refine blk_alloc ?_ _)); exact BK240.out) hb); have n3_ := Aside0.mk (below_step (by repeat (first | (with_reducible first | exact HB.out | apply below_alloc | apply pw_below_drewN | apply below_drew1 | refine below_set ?_ GE238.out | refine below_set ?_ GE239.out | refine below_set ?_ GE240.out) | exact HB.out)) hb); clear BK238; clear BK239; clear BK240; clear HB; have BK238 := n0_; have BK239 := n1_; have BK240 := n2_; have HB := n3_; clear n0_ n1_ n2_ n3_; (try clear hb); (try clear hb2); (try clear hk); (try clear hi); have hcz92_0 : w91.cell? ⟨gb238, 0, none⟩ = some (.string a0_0) := (blk_cell BK238.out 0).trans rfl; have hcz92_1 : w91.cell? ⟨gb238, 1, none⟩ = some (.int .i64 a0_1) := (blk_cell BK238.out 1).trans rfl; have hcz92_2 : w91.cell? ⟨gb238, 2, none⟩ = some (.int .u64 a0_2) := (blk_cell BK238.out 2).trans rfl; have hcz92_3 : w91.cell? ⟨gb238, 3, none⟩ = some (.int .u64 a0_3) := (blk_cell BK238.out 3).trans rfl; have hfz92_0 := blk_frozen BK238.out 0; have hfz92_1 := blk_frozen BK238.out 1; have hfz92_2 := blk_frozen BK238.out 2; have hfz92_3 := blk_frozen BK238.out 3) | (go_at_call 13; (with_reducible refine (best_Ahead.calls kj36 a0_0 a0_1 a0_2 a0_3 a0_0 a0_1 a0_2 a0_3 true _ A78.out).mono ?_); rintro e w93 ⟨rfl, hb⟩; have n0_ := Aside0.mk (blk_below (g := gb238) (o := .cells #[.string a0_0, .int .i64 a0_1, .int .u64 a0_2, .int .u64 a0_3] 27 (0, 0)) (by (with_reducible repeat (first | refine blk_drewN ?_ _ | refine blk_drew ?_ | refine blk_alloc ?_ _)); exact BK238.out) hb); have n1_ := Aside0.mk (blk_below (g := gb239) (o := .cells #[.string a1_0, .int .i64 a1_1, .int .u64 a1_2, .int .u64 a1_3] 27 (0, 0)) (by (with_reducible repeat (first | refine blk_drewN ?_ _ | refine blk_drew ?_ | refine blk_alloc ?_ _)); exact BK239.out) hb); have n2_ := Aside0.mk (blk_below (g := gb240) (o := .cells #[.string a2_0, .int .i64 a2_1, .int .u64 a2_2, .int .u64 a2_3] 27 (0, 0)) (by (with_reducible repeat (first | refine blk_drewN ?_ _ | refine blk_drew ?_ | refine blk_alloc ?_ _)); exact BK240.out) hb); have n3_ := Aside0.mk (below_step (by repeat (first | (with_reducible first | exact HB.out | apply below_alloc | apply pw_below_drewN | apply below_drew1 | refine below_set ?_ GE238.out | refine below_set ?_ GE239.out | refine below_set ?_ GE240.out) | exact HB.out)) hb); clear BK238; clear BK239; clear BK240; clear HB; have BK238 := n0_; have BK239 := n1_; have BK240 := n2_; have HB := n3_; clear n0_ n1_ n2_ n3_; (try clear hb); (try clear hb2); (try clear hk); (try clear hi)))
                            go_ret
                            exact ⟨by first | rfl | (simp [errW_none, errW_some] <;> rfl) | (simp [*, errW_none, errW_some] <;> rfl), by repeat (first | (with_reducible first | exact HB.out | apply below_alloc | apply pw_below_drewN | apply below_drew1 | refine below_set ?_ GE238.out | refine below_set ?_ GE239.out | refine below_set ?_ GE240.out) | exact HB.out)⟩
                          · replace c79 := Bool.eq_false_iff.mpr c79
                            subst c79
                            have H1 : ((best_Sooner.f a0_0 a0_1 a0_2 a0_3 a0_0 a0_1 a0_2 a0_3).bind fun t257 => (some (!t257))) = some r := by rw [if_neg (show ¬ (false = true) by decide)] at H; exact H
                            clear H
                            have H := H1
                            clear H1
                            replace H := Option.bind_eq_some_iff.mp H
                            obtain ⟨t257, A940, H⟩ := H
                            replace H : (some (!t257)) = some r := H
                            have A94 := Aside0.mk A940
                            clear A940
                            obtain rfl := Option.some.inj H
                            have hnb95 := NB238_239.out
                            have hnc95 := NB239_238.out
                            have hnb96 := NB238_240.out
                            have hnc96 := NB240_238.out
                            have hcz97_0 : wc.cell? ⟨gb238, 0, none⟩ = some (.string a0_0) := (blk_cell BK238.out 0).trans rfl
                            have hcz97_1 : wc.cell? ⟨gb238, 1, none⟩ = some (.int .i64 a0_1) := (blk_cell BK238.out 1).trans rfl
                            have hcz97_2 : wc.cell? ⟨gb238, 2, none⟩ = some (.int .u64 a0_2) := (blk_cell BK238.out 2).trans rfl
                            have hcz97_3 : wc.cell? ⟨gb238, 3, none⟩ = some (.int .u64 a0_3) := (blk_cell BK238.out 3).trans rfl
                            have hfz97_0 := blk_frozen BK238.out 0
                            have hfz97_1 := blk_frozen BK238.out 1
                            have hfz97_2 := blk_frozen BK238.out 2
                            have hfz97_3 := blk_frozen BK238.out 3
                            have hnb98 := NB239_240.out
                            have hnc98 := NB240_239.out
                            have hcz99_0 : wc.cell? ⟨gb239, 0, none⟩ = some (.string a1_0) := (blk_cell BK239.out 0).trans rfl
                            have hcz99_1 : wc.cell? ⟨gb239, 1, none⟩ = some (.int .i64 a1_1) := (blk_cell BK239.out 1).trans rfl
                            have hcz99_2 : wc.cell? ⟨gb239, 2, none⟩ = some (.int .u64 a1_2) := (blk_cell BK239.out 2).trans rfl
                            have hcz99_3 : wc.cell? ⟨gb239, 3, none⟩ = some (.int .u64 a1_3) := (blk_cell BK239.out 3).trans rfl
                            have hfz99_0 := blk_frozen BK239.out 0
                            have hfz99_1 := blk_frozen BK239.out 1
                            have hfz99_2 := blk_frozen BK239.out 2
                            have hfz99_3 := blk_frozen BK239.out 3
                            go_wp2_with (first | ((with_reducible refine gate_callee (f := 15) rfl ?_); refine goesL_ (some 56) rfl rfl Try.func15 (by kernel_rfl) rfl #[.agg #[.string a0_0, .int .i64 a0_1, .int .u64 a0_2, .int .u64 a0_3], .agg #[.string a1_0, .int .i64 a1_1, .int .u64 a1_2, .int .u64 a1_3]] rfl (by (try simp only [List.map_toArray, List.map_cons, List.map_nil]); first | done | rfl | (simp only [List.length_drop, List.length_take]; rfl)) ?_; (with_reducible refine (best_Sooner.calls a0_0 a0_1 a0_2 a0_3 a1_0 a1_1 a1_2 a1_3 true _ A70.out).mono ?_); rintro e w100 ⟨rfl, hb⟩; refine ⟨_, rfl, ?_⟩; have n0_ := Aside0.mk (blk_below (g := gb238) (o := .cells #[.string a0_0, .int .i64 a0_1, .int .u64 a0_2, .int .u64 a0_3] 27 (0, 0)) (by (with_reducible repeat (first | refine blk_drewN ?_ _ | refine blk_drew ?_ | refine blk_alloc ?_ _)); exact BK238.out) hb); have n1_ := Aside0.mk (blk_below (g := gb239) (o := .cells #[.string a1_0, .int .i64 a1_1, .int .u64 a1_2, .int .u64 a1_3] 27 (0, 0)) (by (with_reducible repeat (first | refine blk_drewN ?_ _ | refine blk_drew ?_ | refine blk_alloc ?_ _)); exact BK239.out) hb); have n2_ := Aside0.mk (blk_below (g := gb240) (o := .cells #[.string a2_0, .int .i64 a2_1, .int .u64 a2_2, .int .u64 a2_3] 27 (0, 0)) (by (with_reducible repeat (first | refine blk_drewN ?_ _ | refine blk_drew ?_ | refine blk_alloc ?_ _)); exact BK240.out) hb); have n3_ := Aside0.mk (below_step (by repeat (first | (with_reducible first | exact HB.out | apply below_alloc | apply pw_below_drewN | apply below_drew1 | refine below_set ?_ GE238.out | refine below_set ?_ GE239.out | refine below_set ?_ GE240.out) | exact HB.out)) hb); clear BK238; clear BK239; clear BK240; clear HB; have BK238 := n0_; have BK239 := n1_; have BK240 := n2_; have HB := n3_; clear n0_ n1_ n2_ n3_; (try clear hb); (try clear hb2); (try clear hk); (try clear hi); have hcz101_0 : w100.cell? ⟨gb239, 0, none⟩ = some (.string a1_0) := (blk_cell BK239.out 0).trans rfl; have hcz101_1 : w100.cell? ⟨gb239, 1, none⟩ = some (.int .i64 a1_1) := (blk_cell BK239.out 1).trans rfl; have hcz101_2 : w100.cell? ⟨gb239, 2, none⟩ = some (.int .u64 a1_2) := (blk_cell BK239.out 2).trans rfl; have hcz101_3 : w100.cell? ⟨gb239, 3, none⟩ = some (.int .u64 a1_3) := (blk_cell BK239.out 3).trans rfl; have hfz101_0 := blk_frozen BK239.out 0; have hfz101_1 := blk_frozen BK239.out 1; have hfz101_2 := blk_frozen BK239.out 2; have hfz101_3 := blk_frozen BK239.out 3; have hcz102_0 : w100.cell? ⟨gb240, 0, none⟩ = some (.string a2_0) := (blk_cell BK240.out 0).trans rfl; have hcz102_1 : w100.cell? ⟨gb240, 1, none⟩ = some (.int .i64 a2_1) := (blk_cell BK240.out 1).trans rfl; have hcz102_2 : w100.cell? ⟨gb240, 2, none⟩ = some (.int .u64 a2_2) := (blk_cell BK240.out 2).trans rfl; have hcz102_3 : w100.cell? ⟨gb240, 3, none⟩ = some (.int .u64 a2_3) := (blk_cell BK240.out 3).trans rfl; have hfz102_0 := blk_frozen BK240.out 0; have hfz102_1 := blk_frozen BK240.out 1; have hfz102_2 := blk_frozen BK240.out 2; have hfz102_3 := blk_frozen BK240.out 3) | (go_at_call 15; (with_reducible refine (best_Sooner.calls a1_0 a1_1 a1_2 a1_3 a2_0 a2_1 a2_2 a2_3 true _ A72.out).mono ?_); rintro e w103 ⟨rfl, hb⟩; have n0_ := Aside0.mk (blk_below (g := gb238) (o := .cells #[.string a0_0, .int .i64 a0_1, .int .u64 a0_2, .int .u64 a0_3] 27 (0, 0)) (by (with_reducible repeat (first | refine blk_drewN ?_ _ | refine blk_drew ?_ | refine blk_alloc ?_ _)); exact BK238.out) hb); have n1_ := Aside0.mk (blk_below (g := gb239) (o := .cells #[.string a1_0, .int .i64 a1_1, .int .u64 a1_2, .int .u64 a1_3] 27 (0, 0)) (by (with_reducible repeat (first | refine blk_drewN ?_ _ | refine blk_drew ?_ | refine blk_alloc ?_ _)); exact BK239.out) hb); have n2_ := Aside0.mk (blk_below (g := gb240) (o := .cells #[.string a2_0, .int .i64 a2_1, .int .u64 a2_2, .int .u64 a2_3] 27 (0, 0)) (by (with_reducible repeat (first | refine blk_drewN ?_ _ | refine blk_drew ?_ | refine blk_alloc ?_ _)); exact BK240.out) hb); have n3_ := Aside0.mk (below_step (by repeat (first | (with_reducible first | exact HB.out | apply below_alloc | apply pw_below_drewN | apply below_drew1 | refine below_set ?_ GE238.out | refine below_set ?_ GE239.out | refine below_set ?_ GE240.out) | exact HB.out)) hb); clear BK238; clear BK239; clear BK240; clear HB; have BK238 := n0_; have BK239 := n1_; have BK240 := n2_; have HB := n3_; clear n0_ n1_ n2_ n3_; (try clear hb); (try clear hb2); (try clear hk); (try clear hi); have hcz104_0 : w103.cell? ⟨gb238, 0, none⟩ = some (.string a0_0) := (blk_cell BK238.out 0).trans rfl; have hcz104_1 : w103.cell? ⟨gb238, 1, none⟩ = some (.int .i64 a0_1) := (blk_cell BK238.out 1).trans rfl; have hcz104_2 : w103.cell? ⟨gb238, 2, none⟩ = some (.int .u64 a0_2) := (blk_cell BK238.out 2).trans rfl; have hcz104_3 : w103.cell? ⟨gb238, 3, none⟩ = some (.int .u64 a0_3) := (blk_cell BK238.out 3).trans rfl; have hfz104_0 := blk_frozen BK238.out 0; have hfz104_1 := blk_frozen BK238.out 1; have hfz104_2 := blk_frozen BK238.out 2; have hfz104_3 := blk_frozen BK238.out 3; have hcz105_0 : w103.cell? ⟨gb240, 0, none⟩ = some (.string a2_0) := (blk_cell BK240.out 0).trans rfl; have hcz105_1 : w103.cell? ⟨gb240, 1, none⟩ = some (.int .i64 a2_1) := (blk_cell BK240.out 1).trans rfl; have hcz105_2 : w103.cell? ⟨gb240, 2, none⟩ = some (.int .u64 a2_2) := (blk_cell BK240.out 2).trans rfl; have hcz105_3 : w103.cell? ⟨gb240, 3, none⟩ = some (.int .u64 a2_3) := (blk_cell BK240.out 3).trans rfl; have hfz105_0 := blk_frozen BK240.out 0; have hfz105_1 := blk_frozen BK240.out 1; have hfz105_2 := blk_frozen BK240.out 2; have hfz105_3 := blk_frozen BK240.out 3) | (go_at_call 15; (with_reducible refine (best_Sooner.calls a0_0 a0_1 a0_2 a0_3 a2_0 a2_1 a2_2 a2_3 true _ A74.out).mono ?_); rintro e w106 ⟨rfl, hb⟩; have n0_ := Aside0.mk (blk_below (g := gb238) (o := .cells #[.string a0_0, .int .i64 a0_1, .int .u64 a0_2, .int .u64 a0_3] 27 (0, 0)) (by (with_reducible repeat (first | refine blk_drewN ?_ _ | refine blk_drew ?_ | refine blk_alloc ?_ _)); exact BK238.out) hb); have n1_ := Aside0.mk (blk_below (g := gb239) (o := .cells #[.string a1_0, .int .i64 a1_1, .int .u64 a1_2, .int .u64 a1_3] 27 (0, 0)) (by (with_reducible repeat (first | refine blk_drewN ?_ _ | refine blk_drew ?_ | refine blk_alloc ?_ _)); exact BK239.out) hb); have n2_ := Aside0.mk (blk_below (g := gb240) (o := .cells #[.string a2_0, .int .i64 a2_1, .int .u64 a2_2, .int .u64 a2_3] 27 (0, 0)) (by (with_reducible repeat (first | refine blk_drewN ?_ _ | refine blk_drew ?_ | refine blk_alloc ?_ _)); exact BK240.out) hb); have n3_ := Aside0.mk (below_step (by repeat (first | (with_reducible first | exact HB.out | apply below_alloc | apply pw_below_drewN | apply below_drew1 | refine below_set ?_ GE238.out | refine below_set ?_ GE239.out | refine below_set ?_ GE240.out) | exact HB.out)) hb); clear BK238; clear BK239; clear BK240; clear HB; have BK238 := n0_; have BK239 := n1_; have BK240 := n2_; have HB := n3_; clear n0_ n1_ n2_ n3_; (try clear hb); (try clear hb2); (try clear hk); (try clear hi); have hcz107_0 : w106.cell? ⟨gb238, 0, none⟩ = some (.string a0_0) := (blk_cell BK238.out 0).trans rfl; have hcz107_1 : w106.cell? ⟨gb238, 1, none⟩ = some (.int .i64 a0_1) := (blk_cell BK238.out 1).trans rfl; have hcz107_2 : w106.cell? ⟨gb238, 2, none⟩ = some (.int .u64 a0_2) := (blk_cell BK238.out 2).trans rfl; have hcz107_3 : w106.cell? ⟨gb238, 3, none⟩ = some (.int .u64 a0_3) := (blk_cell BK238.out 3).trans rfl; have hfz107_0 := blk_frozen BK238.out 0; have hfz107_1 := blk_frozen BK238.out 1; have hfz107_2 := blk_frozen BK238.out 2; have hfz107_3 := blk_frozen BK238.out 3) | (go_at_call 13; (with_reducible refine (best_Ahead.calls kj36 a0_0 a0_1 a0_2 a0_3 a0_0 a0_1 a0_2 a0_3 false _ A78.out).mono ?_); rintro e w108 ⟨rfl, hb⟩; have n0_ := Aside0.mk (blk_below (g := gb238) (o := .cells #[.string a0_0, .int .i64 a0_1, .int .u64 a0_2, .int .u64 a0_3] 27 (0, 0)) (by (with_reducible repeat (first | refine blk_drewN ?_ _ | refine blk_drew ?_ | refine blk_alloc ?_ _)); exact BK238.out) hb); have n1_ := Aside0.mk (blk_below (g := gb239) (o := .cells #[.string a1_0, .int .i64 a1_1, .int .u64 a1_2, .int .u64 a1_3] 27 (0, 0)) (by (with_reducible repeat (first | refine blk_drewN ?_ _ | refine blk_drew ?_ | refine blk_alloc ?_ _)); exact BK239.out) hb); have n2_ := Aside0.mk (blk_below (g := gb240) (o := .cells #[.string a2_0, .int .i64 a2_1, .int .u64 a2_2, .int .u64 a2_3] 27 (0, 0)) (by (with_reducible repeat (first | refine blk_drewN ?_ _ | refine blk_drew ?_ | refine blk_alloc ?_ _)); exact BK240.out) hb); have n3_ := Aside0.mk (below_step (by repeat (first | (with_reducible first | exact HB.out | apply below_alloc | apply pw_below_drewN | apply below_drew1 | refine below_set ?_ GE238.out | refine below_set ?_ GE239.out | refine below_set ?_ GE240.out) | exact HB.out)) hb); clear BK238; clear BK239; clear BK240; clear HB; have BK238 := n0_; have BK239 := n1_; have BK240 := n2_; have HB := n3_; clear n0_ n1_ n2_ n3_; (try clear hb); (try clear hb2); (try clear hk); (try clear hi); have hcz109_0 : w108.cell? ⟨gb238, 0, none⟩ = some (.string a0_0) := (blk_cell BK238.out 0).trans rfl; have hcz109_1 : w108.cell? ⟨gb238, 1, none⟩ = some (.int .i64 a0_1) := (blk_cell BK238.out 1).trans rfl; have hcz109_2 : w108.cell? ⟨gb238, 2, none⟩ = some (.int .u64 a0_2) := (blk_cell BK238.out 2).trans rfl; have hcz109_3 : w108.cell? ⟨gb238, 3, none⟩ = some (.int .u64 a0_3) := (blk_cell BK238.out 3).trans rfl; have hfz109_0 := blk_frozen BK238.out 0; have hfz109_1 := blk_frozen BK238.out 1; have hfz109_2 := blk_frozen BK238.out 2; have hfz109_3 := blk_frozen BK238.out 3) | (go_at_call 15; (with_reducible refine (best_Sooner.calls a0_0 a0_1 a0_2 a0_3 a0_0 a0_1 a0_2 a0_3 t257 _ A94.out).mono ?_); rintro e w110 ⟨rfl, hb⟩; have n0_ := Aside0.mk (blk_below (g := gb238) (o := .cells #[.string a0_0, .int .i64 a0_1, .int .u64 a0_2, .int .u64 a0_3] 27 (0, 0)) (by (with_reducible repeat (first | refine blk_drewN ?_ _ | refine blk_drew ?_ | refine blk_alloc ?_ _)); exact BK238.out) hb); have n1_ := Aside0.mk (blk_below (g := gb239) (o := .cells #[.string a1_0, .int .i64 a1_1, .int .u64 a1_2, .int .u64 a1_3] 27 (0, 0)) (by (with_reducible repeat (first | refine blk_drewN ?_ _ | refine blk_drew ?_ | refine blk_alloc ?_ _)); exact BK239.out) hb); have n2_ := Aside0.mk (blk_below (g := gb240) (o := .cells #[.string a2_0, .int .i64 a2_1, .int .u64 a2_2, .int .u64 a2_3] 27 (0, 0)) (by (with_reducible repeat (first | refine blk_drewN ?_ _ | refine blk_drew ?_ | refine blk_alloc ?_ _)); exact BK240.out) hb); have n3_ := Aside0.mk (below_step (by repeat (first | (with_reducible first | exact HB.out | apply below_alloc | apply pw_below_drewN | apply below_drew1 | refine below_set ?_ GE238.out | refine below_set ?_ GE239.out | refine below_set ?_ GE240.out) | exact HB.out)) hb); clear BK238; clear BK239; clear BK240; clear HB; have BK238 := n0_; have BK239 := n1_; have BK240 := n2_; have HB := n3_; clear n0_ n1_ n2_ n3_; (try clear hb); (try clear hb2); (try clear hk); (try clear hi)))
                            go_ret
                            exact ⟨by first | rfl | (simp [errW_none, errW_some] <;> rfl) | (simp [*, errW_none, errW_some] <;> rfl), by repeat (first | (with_reducible first | exact HB.out | apply below_alloc | apply pw_below_drewN | apply below_drew1 | refine below_set ?_ GE238.out | refine below_set ?_ GE239.out | refine below_set ?_ GE240.out) | exact HB.out)⟩
                        · replace c77 := Bool.eq_false_iff.mpr c77
                          subst c77
                          have H1 : (some false) = some r := by rw [if_neg (show ¬ (false = true) by decide)] at H; exact H
                          clear H
                          have H := H1
                          clear H1
                          obtain rfl := Option.some.inj H
                          have hnb111 := NB238_239.out
                          have hnc111 := NB239_238.out
                          have hnb112 := NB238_240.out
                          have hnc112 := NB240_238.out
                          have hcz113_0 : wc.cell? ⟨gb238, 0, none⟩ = some (.string a0_0) := (blk_cell BK238.out 0).trans rfl
                          have hcz113_1 : wc.cell? ⟨gb238, 1, none⟩ = some (.int .i64 a0_1) := (blk_cell BK238.out 1).trans rfl
                          have hcz113_2 : wc.cell? ⟨gb238, 2, none⟩ = some (.int .u64 a0_2) := (blk_cell BK238.out 2).trans rfl
                          have hcz113_3 : wc.cell? ⟨gb238, 3, none⟩ = some (.int .u64 a0_3) := (blk_cell BK238.out 3).trans rfl
                          have hfz113_0 := blk_frozen BK238.out 0
                          have hfz113_1 := blk_frozen BK238.out 1
                          have hfz113_2 := blk_frozen BK238.out 2
                          have hfz113_3 := blk_frozen BK238.out 3
                          have hnb114 := NB239_240.out
                          have hnc114 := NB240_239.out
                          have hcz115_0 : wc.cell? ⟨gb239, 0, none⟩ = some (.string a1_0) := (blk_cell BK239.out 0).trans rfl
                          have hcz115_1 : wc.cell? ⟨gb239, 1, none⟩ = some (.int .i64 a1_1) := (blk_cell BK239.out 1).trans rfl
                          have hcz115_2 : wc.cell? ⟨gb239, 2, none⟩ = some (.int .u64 a1_2) := (blk_cell BK239.out 2).trans rfl
                          have hcz115_3 : wc.cell? ⟨gb239, 3, none⟩ = some (.int .u64 a1_3) := (blk_cell BK239.out 3).trans rfl
                          have hfz115_0 := blk_frozen BK239.out 0
                          have hfz115_1 := blk_frozen BK239.out 1
                          have hfz115_2 := blk_frozen BK239.out 2
                          have hfz115_3 := blk_frozen BK239.out 3
                          go_wp2_with (first | ((with_reducible refine gate_callee (f := 15) rfl ?_); refine goesL_ (some 56) rfl rfl Try.func15 (by kernel_rfl) rfl #[.agg #[.string a0_0, .int .i64 a0_1, .int .u64 a0_2, .int .u64 a0_3], .agg #[.string a1_0, .int .i64 a1_1, .int .u64 a1_2, .int .u64 a1_3]] rfl (by (try simp only [List.map_toArray, List.map_cons, List.map_nil]); first | done | rfl | (simp only [List.length_drop, List.length_take]; rfl)) ?_; (with_reducible refine (best_Sooner.calls a0_0 a0_1 a0_2 a0_3 a1_0 a1_1 a1_2 a1_3 true _ A70.out).mono ?_); rintro e w116 ⟨rfl, hb⟩; refine ⟨_, rfl, ?_⟩; have n0_ := Aside0.mk (blk_below (g := gb238) (o := .cells #[.string a0_0, .int .i64 a0_1, .int .u64 a0_2, .int .u64 a0_3] 27 (0, 0)) (by (with_reducible repeat (first | refine blk_drewN ?_ _ | refine blk_drew ?_ | refine blk_alloc ?_ _)); exact BK238.out) hb); have n1_ := Aside0.mk (blk_below (g := gb239) (o := .cells #[.string a1_0, .int .i64 a1_1, .int .u64 a1_2, .int .u64 a1_3] 27 (0, 0)) (by (with_reducible repeat (first | refine blk_drewN ?_ _ | refine blk_drew ?_ | refine blk_alloc ?_ _)); exact BK239.out) hb); have n2_ := Aside0.mk (blk_below (g := gb240) (o := .cells #[.string a2_0, .int .i64 a2_1, .int .u64 a2_2, .int .u64 a2_3] 27 (0, 0)) (by (with_reducible repeat (first | refine blk_drewN ?_ _ | refine blk_drew ?_ | refine blk_alloc ?_ _)); exact BK240.out) hb); have n3_ := Aside0.mk (below_step (by repeat (first | (with_reducible first | exact HB.out | apply below_alloc | apply pw_below_drewN | apply below_drew1 | refine below_set ?_ GE238.out | refine below_set ?_ GE239.out | refine below_set ?_ GE240.out) | exact HB.out)) hb); clear BK238; clear BK239; clear BK240; clear HB; have BK238 := n0_; have BK239 := n1_; have BK240 := n2_; have HB := n3_; clear n0_ n1_ n2_ n3_; (try clear hb); (try clear hb2); (try clear hk); (try clear hi); have hcz117_0 : w116.cell? ⟨gb239, 0, none⟩ = some (.string a1_0) := (blk_cell BK239.out 0).trans rfl; have hcz117_1 : w116.cell? ⟨gb239, 1, none⟩ = some (.int .i64 a1_1) := (blk_cell BK239.out 1).trans rfl; have hcz117_2 : w116.cell? ⟨gb239, 2, none⟩ = some (.int .u64 a1_2) := (blk_cell BK239.out 2).trans rfl; have hcz117_3 : w116.cell? ⟨gb239, 3, none⟩ = some (.int .u64 a1_3) := (blk_cell BK239.out 3).trans rfl; have hfz117_0 := blk_frozen BK239.out 0; have hfz117_1 := blk_frozen BK239.out 1; have hfz117_2 := blk_frozen BK239.out 2; have hfz117_3 := blk_frozen BK239.out 3; have hcz118_0 : w116.cell? ⟨gb240, 0, none⟩ = some (.string a2_0) := (blk_cell BK240.out 0).trans rfl; have hcz118_1 : w116.cell? ⟨gb240, 1, none⟩ = some (.int .i64 a2_1) := (blk_cell BK240.out 1).trans rfl; have hcz118_2 : w116.cell? ⟨gb240, 2, none⟩ = some (.int .u64 a2_2) := (blk_cell BK240.out 2).trans rfl; have hcz118_3 : w116.cell? ⟨gb240, 3, none⟩ = some (.int .u64 a2_3) := (blk_cell BK240.out 3).trans rfl; have hfz118_0 := blk_frozen BK240.out 0; have hfz118_1 := blk_frozen BK240.out 1; have hfz118_2 := blk_frozen BK240.out 2; have hfz118_3 := blk_frozen BK240.out 3) | (go_at_call 15; (with_reducible refine (best_Sooner.calls a1_0 a1_1 a1_2 a1_3 a2_0 a2_1 a2_2 a2_3 true _ A72.out).mono ?_); rintro e w119 ⟨rfl, hb⟩; have n0_ := Aside0.mk (blk_below (g := gb238) (o := .cells #[.string a0_0, .int .i64 a0_1, .int .u64 a0_2, .int .u64 a0_3] 27 (0, 0)) (by (with_reducible repeat (first | refine blk_drewN ?_ _ | refine blk_drew ?_ | refine blk_alloc ?_ _)); exact BK238.out) hb); have n1_ := Aside0.mk (blk_below (g := gb239) (o := .cells #[.string a1_0, .int .i64 a1_1, .int .u64 a1_2, .int .u64 a1_3] 27 (0, 0)) (by (with_reducible repeat (first | refine blk_drewN ?_ _ | refine blk_drew ?_ | refine blk_alloc ?_ _)); exact BK239.out) hb); have n2_ := Aside0.mk (blk_below (g := gb240) (o := .cells #[.string a2_0, .int .i64 a2_1, .int .u64 a2_2, .int .u64 a2_3] 27 (0, 0)) (by (with_reducible repeat (first | refine blk_drewN ?_ _ | refine blk_drew ?_ | refine blk_alloc ?_ _)); exact BK240.out) hb); have n3_ := Aside0.mk (below_step (by repeat (first | (with_reducible first | exact HB.out | apply below_alloc | apply pw_below_drewN | apply below_drew1 | refine below_set ?_ GE238.out | refine below_set ?_ GE239.out | refine below_set ?_ GE240.out) | exact HB.out)) hb); clear BK238; clear BK239; clear BK240; clear HB; have BK238 := n0_; have BK239 := n1_; have BK240 := n2_; have HB := n3_; clear n0_ n1_ n2_ n3_; (try clear hb); (try clear hb2); (try clear hk); (try clear hi); have hcz120_0 : w119.cell? ⟨gb238, 0, none⟩ = some (.string a0_0) := (blk_cell BK238.out 0).trans rfl; have hcz120_1 : w119.cell? ⟨gb238, 1, none⟩ = some (.int .i64 a0_1) := (blk_cell BK238.out 1).trans rfl; have hcz120_2 : w119.cell? ⟨gb238, 2, none⟩ = some (.int .u64 a0_2) := (blk_cell BK238.out 2).trans rfl; have hcz120_3 : w119.cell? ⟨gb238, 3, none⟩ = some (.int .u64 a0_3) := (blk_cell BK238.out 3).trans rfl; have hfz120_0 := blk_frozen BK238.out 0; have hfz120_1 := blk_frozen BK238.out 1; have hfz120_2 := blk_frozen BK238.out 2; have hfz120_3 := blk_frozen BK238.out 3; have hcz121_0 : w119.cell? ⟨gb240, 0, none⟩ = some (.string a2_0) := (blk_cell BK240.out 0).trans rfl; have hcz121_1 : w119.cell? ⟨gb240, 1, none⟩ = some (.int .i64 a2_1) := (blk_cell BK240.out 1).trans rfl; have hcz121_2 : w119.cell? ⟨gb240, 2, none⟩ = some (.int .u64 a2_2) := (blk_cell BK240.out 2).trans rfl; have hcz121_3 : w119.cell? ⟨gb240, 3, none⟩ = some (.int .u64 a2_3) := (blk_cell BK240.out 3).trans rfl; have hfz121_0 := blk_frozen BK240.out 0; have hfz121_1 := blk_frozen BK240.out 1; have hfz121_2 := blk_frozen BK240.out 2; have hfz121_3 := blk_frozen BK240.out 3) | (go_at_call 15; (with_reducible refine (best_Sooner.calls a0_0 a0_1 a0_2 a0_3 a2_0 a2_1 a2_2 a2_3 false _ A74.out).mono ?_); rintro e w122 ⟨rfl, hb⟩; have n0_ := Aside0.mk (blk_below (g := gb238) (o := .cells #[.string a0_0, .int .i64 a0_1, .int .u64 a0_2, .int .u64 a0_3] 27 (0, 0)) (by (with_reducible repeat (first | refine blk_drewN ?_ _ | refine blk_drew ?_ | refine blk_alloc ?_ _)); exact BK238.out) hb); have n1_ := Aside0.mk (blk_below (g := gb239) (o := .cells #[.string a1_0, .int .i64 a1_1, .int .u64 a1_2, .int .u64 a1_3] 27 (0, 0)) (by (with_reducible repeat (first | refine blk_drewN ?_ _ | refine blk_drew ?_ | refine blk_alloc ?_ _)); exact BK239.out) hb); have n2_ := Aside0.mk (blk_below (g := gb240) (o := .cells #[.string a2_0, .int .i64 a2_1, .int .u64 a2_2, .int .u64 a2_3] 27 (0, 0)) (by (with_reducible repeat (first | refine blk_drewN ?_ _ | refine blk_drew ?_ | refine blk_alloc ?_ _)); exact BK240.out) hb); have n3_ := Aside0.mk (below_step (by repeat (first | (with_reducible first | exact HB.out | apply below_alloc | apply pw_below_drewN | apply below_drew1 | refine below_set ?_ GE238.out | refine below_set ?_ GE239.out | refine below_set ?_ GE240.out) | exact HB.out)) hb); clear BK238; clear BK239; clear BK240; clear HB; have BK238 := n0_; have BK239 := n1_; have BK240 := n2_; have HB := n3_; clear n0_ n1_ n2_ n3_; (try clear hb); (try clear hb2); (try clear hk); (try clear hi)))
                          go_ret
                          exact ⟨by first | rfl | (simp [errW_none, errW_some] <;> rfl) | (simp [*, errW_none, errW_some] <;> rfl), by repeat (first | (with_reducible first | exact HB.out | apply below_alloc | apply pw_below_drewN | apply below_drew1 | refine below_set ?_ GE238.out | refine below_set ?_ GE239.out | refine below_set ?_ GE240.out) | exact HB.out)⟩
                      · replace c76 := Bool.eq_false_iff.mpr c76
                        subst c76
                        have H1 : (some false) = some r := by rw [if_neg (show ¬ (false = true) by decide)] at H; exact H
                        clear H
                        have H := H1
                        clear H1
                        obtain rfl := Option.some.inj H
                        have hnb123 := NB238_239.out
                        have hnc123 := NB239_238.out
                        have hnb124 := NB238_240.out
                        have hnc124 := NB240_238.out
                        have hcz125_0 : wc.cell? ⟨gb238, 0, none⟩ = some (.string a0_0) := (blk_cell BK238.out 0).trans rfl
                        have hcz125_1 : wc.cell? ⟨gb238, 1, none⟩ = some (.int .i64 a0_1) := (blk_cell BK238.out 1).trans rfl
                        have hcz125_2 : wc.cell? ⟨gb238, 2, none⟩ = some (.int .u64 a0_2) := (blk_cell BK238.out 2).trans rfl
                        have hcz125_3 : wc.cell? ⟨gb238, 3, none⟩ = some (.int .u64 a0_3) := (blk_cell BK238.out 3).trans rfl
                        have hfz125_0 := blk_frozen BK238.out 0
                        have hfz125_1 := blk_frozen BK238.out 1
                        have hfz125_2 := blk_frozen BK238.out 2
                        have hfz125_3 := blk_frozen BK238.out 3
                        have hnb126 := NB239_240.out
                        have hnc126 := NB240_239.out
                        have hcz127_0 : wc.cell? ⟨gb239, 0, none⟩ = some (.string a1_0) := (blk_cell BK239.out 0).trans rfl
                        have hcz127_1 : wc.cell? ⟨gb239, 1, none⟩ = some (.int .i64 a1_1) := (blk_cell BK239.out 1).trans rfl
                        have hcz127_2 : wc.cell? ⟨gb239, 2, none⟩ = some (.int .u64 a1_2) := (blk_cell BK239.out 2).trans rfl
                        have hcz127_3 : wc.cell? ⟨gb239, 3, none⟩ = some (.int .u64 a1_3) := (blk_cell BK239.out 3).trans rfl
                        have hfz127_0 := blk_frozen BK239.out 0
                        have hfz127_1 := blk_frozen BK239.out 1
                        have hfz127_2 := blk_frozen BK239.out 2
                        have hfz127_3 := blk_frozen BK239.out 3
                        go_wp2_with (first | ((with_reducible refine gate_callee (f := 15) rfl ?_); refine goesL_ (some 56) rfl rfl Try.func15 (by kernel_rfl) rfl #[.agg #[.string a0_0, .int .i64 a0_1, .int .u64 a0_2, .int .u64 a0_3], .agg #[.string a1_0, .int .i64 a1_1, .int .u64 a1_2, .int .u64 a1_3]] rfl (by (try simp only [List.map_toArray, List.map_cons, List.map_nil]); first | done | rfl | (simp only [List.length_drop, List.length_take]; rfl)) ?_; (with_reducible refine (best_Sooner.calls a0_0 a0_1 a0_2 a0_3 a1_0 a1_1 a1_2 a1_3 true _ A70.out).mono ?_); rintro e w128 ⟨rfl, hb⟩; refine ⟨_, rfl, ?_⟩; have n0_ := Aside0.mk (blk_below (g := gb238) (o := .cells #[.string a0_0, .int .i64 a0_1, .int .u64 a0_2, .int .u64 a0_3] 27 (0, 0)) (by (with_reducible repeat (first | refine blk_drewN ?_ _ | refine blk_drew ?_ | refine blk_alloc ?_ _)); exact BK238.out) hb); have n1_ := Aside0.mk (blk_below (g := gb239) (o := .cells #[.string a1_0, .int .i64 a1_1, .int .u64 a1_2, .int .u64 a1_3] 27 (0, 0)) (by (with_reducible repeat (first | refine blk_drewN ?_ _ | refine blk_drew ?_ | refine blk_alloc ?_ _)); exact BK239.out) hb); have n2_ := Aside0.mk (blk_below (g := gb240) (o := .cells #[.string a2_0, .int .i64 a2_1, .int .u64 a2_2, .int .u64 a2_3] 27 (0, 0)) (by (with_reducible repeat (first | refine blk_drewN ?_ _ | refine blk_drew ?_ | refine blk_alloc ?_ _)); exact BK240.out) hb); have n3_ := Aside0.mk (below_step (by repeat (first | (with_reducible first | exact HB.out | apply below_alloc | apply pw_below_drewN | apply below_drew1 | refine below_set ?_ GE238.out | refine below_set ?_ GE239.out | refine below_set ?_ GE240.out) | exact HB.out)) hb); clear BK238; clear BK239; clear BK240; clear HB; have BK238 := n0_; have BK239 := n1_; have BK240 := n2_; have HB := n3_; clear n0_ n1_ n2_ n3_; (try clear hb); (try clear hb2); (try clear hk); (try clear hi); have hcz129_0 : w128.cell? ⟨gb239, 0, none⟩ = some (.string a1_0) := (blk_cell BK239.out 0).trans rfl; have hcz129_1 : w128.cell? ⟨gb239, 1, none⟩ = some (.int .i64 a1_1) := (blk_cell BK239.out 1).trans rfl; have hcz129_2 : w128.cell? ⟨gb239, 2, none⟩ = some (.int .u64 a1_2) := (blk_cell BK239.out 2).trans rfl; have hcz129_3 : w128.cell? ⟨gb239, 3, none⟩ = some (.int .u64 a1_3) := (blk_cell BK239.out 3).trans rfl; have hfz129_0 := blk_frozen BK239.out 0; have hfz129_1 := blk_frozen BK239.out 1; have hfz129_2 := blk_frozen BK239.out 2; have hfz129_3 := blk_frozen BK239.out 3; have hcz130_0 : w128.cell? ⟨gb240, 0, none⟩ = some (.string a2_0) := (blk_cell BK240.out 0).trans rfl; have hcz130_1 : w128.cell? ⟨gb240, 1, none⟩ = some (.int .i64 a2_1) := (blk_cell BK240.out 1).trans rfl; have hcz130_2 : w128.cell? ⟨gb240, 2, none⟩ = some (.int .u64 a2_2) := (blk_cell BK240.out 2).trans rfl; have hcz130_3 : w128.cell? ⟨gb240, 3, none⟩ = some (.int .u64 a2_3) := (blk_cell BK240.out 3).trans rfl; have hfz130_0 := blk_frozen BK240.out 0; have hfz130_1 := blk_frozen BK240.out 1; have hfz130_2 := blk_frozen BK240.out 2; have hfz130_3 := blk_frozen BK240.out 3) | (go_at_call 15; (with_reducible refine (best_Sooner.calls a1_0 a1_1 a1_2 a1_3 a2_0 a2_1 a2_2 a2_3 true _ A72.out).mono ?_); rintro e w131 ⟨rfl, hb⟩; have n0_ := Aside0.mk (blk_below (g := gb238) (o := .cells #[.string a0_0, .int .i64 a0_1, .int .u64 a0_2, .int .u64 a0_3] 27 (0, 0)) (by (with_reducible repeat (first | refine blk_drewN ?_ _ | refine blk_drew ?_ | refine blk_alloc ?_ _)); exact BK238.out) hb); have n1_ := Aside0.mk (blk_below (g := gb239) (o := .cells #[.string a1_0, .int .i64 a1_1, .int .u64 a1_2, .int .u64 a1_3] 27 (0, 0)) (by (with_reducible repeat (first | refine blk_drewN ?_ _ | refine blk_drew ?_ | refine blk_alloc ?_ _)); exact BK239.out) hb); have n2_ := Aside0.mk (blk_below (g := gb240) (o := .cells #[.string a2_0, .int .i64 a2_1, .int .u64 a2_2, .int .u64 a2_3] 27 (0, 0)) (by (with_reducible repeat (first | refine blk_drewN ?_ _ | refine blk_drew ?_ | refine blk_alloc ?_ _)); exact BK240.out) hb); have n3_ := Aside0.mk (below_step (by repeat (first | (with_reducible first | exact HB.out | apply below_alloc | apply pw_below_drewN | apply below_drew1 | refine below_set ?_ GE238.out | refine below_set ?_ GE239.out | refine below_set ?_ GE240.out) | exact HB.out)) hb); clear BK238; clear BK239; clear BK240; clear HB; have BK238 := n0_; have BK239 := n1_; have BK240 := n2_; have HB := n3_; clear n0_ n1_ n2_ n3_; (try clear hb); (try clear hb2); (try clear hk); (try clear hi); have hcz132_0 : w131.cell? ⟨gb238, 0, none⟩ = some (.string a0_0) := (blk_cell BK238.out 0).trans rfl; have hcz132_1 : w131.cell? ⟨gb238, 1, none⟩ = some (.int .i64 a0_1) := (blk_cell BK238.out 1).trans rfl; have hcz132_2 : w131.cell? ⟨gb238, 2, none⟩ = some (.int .u64 a0_2) := (blk_cell BK238.out 2).trans rfl; have hcz132_3 : w131.cell? ⟨gb238, 3, none⟩ = some (.int .u64 a0_3) := (blk_cell BK238.out 3).trans rfl; have hfz132_0 := blk_frozen BK238.out 0; have hfz132_1 := blk_frozen BK238.out 1; have hfz132_2 := blk_frozen BK238.out 2; have hfz132_3 := blk_frozen BK238.out 3; have hcz133_0 : w131.cell? ⟨gb240, 0, none⟩ = some (.string a2_0) := (blk_cell BK240.out 0).trans rfl; have hcz133_1 : w131.cell? ⟨gb240, 1, none⟩ = some (.int .i64 a2_1) := (blk_cell BK240.out 1).trans rfl; have hcz133_2 : w131.cell? ⟨gb240, 2, none⟩ = some (.int .u64 a2_2) := (blk_cell BK240.out 2).trans rfl; have hcz133_3 : w131.cell? ⟨gb240, 3, none⟩ = some (.int .u64 a2_3) := (blk_cell BK240.out 3).trans rfl; have hfz133_0 := blk_frozen BK240.out 0; have hfz133_1 := blk_frozen BK240.out 1; have hfz133_2 := blk_frozen BK240.out 2; have hfz133_3 := blk_frozen BK240.out 3) | (go_at_call 15; (with_reducible refine (best_Sooner.calls a0_0 a0_1 a0_2 a0_3 a2_0 a2_1 a2_2 a2_3 t255 _ A74.out).mono ?_); rintro e w134 ⟨rfl, hb⟩; have n0_ := Aside0.mk (blk_below (g := gb238) (o := .cells #[.string a0_0, .int .i64 a0_1, .int .u64 a0_2, .int .u64 a0_3] 27 (0, 0)) (by (with_reducible repeat (first | refine blk_drewN ?_ _ | refine blk_drew ?_ | refine blk_alloc ?_ _)); exact BK238.out) hb); have n1_ := Aside0.mk (blk_below (g := gb239) (o := .cells #[.string a1_0, .int .i64 a1_1, .int .u64 a1_2, .int .u64 a1_3] 27 (0, 0)) (by (with_reducible repeat (first | refine blk_drewN ?_ _ | refine blk_drew ?_ | refine blk_alloc ?_ _)); exact BK239.out) hb); have n2_ := Aside0.mk (blk_below (g := gb240) (o := .cells #[.string a2_0, .int .i64 a2_1, .int .u64 a2_2, .int .u64 a2_3] 27 (0, 0)) (by (with_reducible repeat (first | refine blk_drewN ?_ _ | refine blk_drew ?_ | refine blk_alloc ?_ _)); exact BK240.out) hb); have n3_ := Aside0.mk (below_step (by repeat (first | (with_reducible first | exact HB.out | apply below_alloc | apply pw_below_drewN | apply below_drew1 | refine below_set ?_ GE238.out | refine below_set ?_ GE239.out | refine below_set ?_ GE240.out) | exact HB.out)) hb); clear BK238; clear BK239; clear BK240; clear HB; have BK238 := n0_; have BK239 := n1_; have BK240 := n2_; have HB := n3_; clear n0_ n1_ n2_ n3_; (try clear hb); (try clear hb2); (try clear hk); (try clear hi)))
                        go_ret
                        exact ⟨by first | rfl | (simp [errW_none, errW_some] <;> rfl) | (simp [*, errW_none, errW_some] <;> rfl), by repeat (first | (with_reducible first | exact HB.out | apply below_alloc | apply pw_below_drewN | apply below_drew1 | refine below_set ?_ GE238.out | refine below_set ?_ GE239.out | refine below_set ?_ GE240.out) | exact HB.out)⟩
                    · replace c75 := Bool.eq_false_iff.mpr c75
                      subst c75
                      have H1 : (some false) = some r := by rw [if_neg (show ¬ (false = true) by decide)] at H; exact H
                      clear H
                      have H := H1
                      clear H1
                      obtain rfl := Option.some.inj H
                      have hnb135 := NB238_239.out
                      have hnc135 := NB239_238.out
                      have hnb136 := NB238_240.out
                      have hnc136 := NB240_238.out
                      have hcz137_0 : wc.cell? ⟨gb238, 0, none⟩ = some (.string a0_0) := (blk_cell BK238.out 0).trans rfl
                      have hcz137_1 : wc.cell? ⟨gb238, 1, none⟩ = some (.int .i64 a0_1) := (blk_cell BK238.out 1).trans rfl
                      have hcz137_2 : wc.cell? ⟨gb238, 2, none⟩ = some (.int .u64 a0_2) := (blk_cell BK238.out 2).trans rfl
                      have hcz137_3 : wc.cell? ⟨gb238, 3, none⟩ = some (.int .u64 a0_3) := (blk_cell BK238.out 3).trans rfl
                      have hfz137_0 := blk_frozen BK238.out 0
                      have hfz137_1 := blk_frozen BK238.out 1
                      have hfz137_2 := blk_frozen BK238.out 2
                      have hfz137_3 := blk_frozen BK238.out 3
                      have hnb138 := NB239_240.out
                      have hnc138 := NB240_239.out
                      have hcz139_0 : wc.cell? ⟨gb239, 0, none⟩ = some (.string a1_0) := (blk_cell BK239.out 0).trans rfl
                      have hcz139_1 : wc.cell? ⟨gb239, 1, none⟩ = some (.int .i64 a1_1) := (blk_cell BK239.out 1).trans rfl
                      have hcz139_2 : wc.cell? ⟨gb239, 2, none⟩ = some (.int .u64 a1_2) := (blk_cell BK239.out 2).trans rfl
                      have hcz139_3 : wc.cell? ⟨gb239, 3, none⟩ = some (.int .u64 a1_3) := (blk_cell BK239.out 3).trans rfl
                      have hfz139_0 := blk_frozen BK239.out 0
                      have hfz139_1 := blk_frozen BK239.out 1
                      have hfz139_2 := blk_frozen BK239.out 2
                      have hfz139_3 := blk_frozen BK239.out 3
                      go_wp2_with (first | ((with_reducible refine gate_callee (f := 15) rfl ?_); refine goesL_ (some 56) rfl rfl Try.func15 (by kernel_rfl) rfl #[.agg #[.string a0_0, .int .i64 a0_1, .int .u64 a0_2, .int .u64 a0_3], .agg #[.string a1_0, .int .i64 a1_1, .int .u64 a1_2, .int .u64 a1_3]] rfl (by (try simp only [List.map_toArray, List.map_cons, List.map_nil]); first | done | rfl | (simp only [List.length_drop, List.length_take]; rfl)) ?_; (with_reducible refine (best_Sooner.calls a0_0 a0_1 a0_2 a0_3 a1_0 a1_1 a1_2 a1_3 true _ A70.out).mono ?_); rintro e w140 ⟨rfl, hb⟩; refine ⟨_, rfl, ?_⟩; have n0_ := Aside0.mk (blk_below (g := gb238) (o := .cells #[.string a0_0, .int .i64 a0_1, .int .u64 a0_2, .int .u64 a0_3] 27 (0, 0)) (by (with_reducible repeat (first | refine blk_drewN ?_ _ | refine blk_drew ?_ | refine blk_alloc ?_ _)); exact BK238.out) hb); have n1_ := Aside0.mk (blk_below (g := gb239) (o := .cells #[.string a1_0, .int .i64 a1_1, .int .u64 a1_2, .int .u64 a1_3] 27 (0, 0)) (by (with_reducible repeat (first | refine blk_drewN ?_ _ | refine blk_drew ?_ | refine blk_alloc ?_ _)); exact BK239.out) hb); have n2_ := Aside0.mk (blk_below (g := gb240) (o := .cells #[.string a2_0, .int .i64 a2_1, .int .u64 a2_2, .int .u64 a2_3] 27 (0, 0)) (by (with_reducible repeat (first | refine blk_drewN ?_ _ | refine blk_drew ?_ | refine blk_alloc ?_ _)); exact BK240.out) hb); have n3_ := Aside0.mk (below_step (by repeat (first | (with_reducible first | exact HB.out | apply below_alloc | apply pw_below_drewN | apply below_drew1 | refine below_set ?_ GE238.out | refine below_set ?_ GE239.out | refine below_set ?_ GE240.out) | exact HB.out)) hb); clear BK238; clear BK239; clear BK240; clear HB; have BK238 := n0_; have BK239 := n1_; have BK240 := n2_; have HB := n3_; clear n0_ n1_ n2_ n3_; (try clear hb); (try clear hb2); (try clear hk); (try clear hi); have hcz141_0 : w140.cell? ⟨gb239, 0, none⟩ = some (.string a1_0) := (blk_cell BK239.out 0).trans rfl; have hcz141_1 : w140.cell? ⟨gb239, 1, none⟩ = some (.int .i64 a1_1) := (blk_cell BK239.out 1).trans rfl; have hcz141_2 : w140.cell? ⟨gb239, 2, none⟩ = some (.int .u64 a1_2) := (blk_cell BK239.out 2).trans rfl; have hcz141_3 : w140.cell? ⟨gb239, 3, none⟩ = some (.int .u64 a1_3) := (blk_cell BK239.out 3).trans rfl; have hfz141_0 := blk_frozen BK239.out 0; have hfz141_1 := blk_frozen BK239.out 1; have hfz141_2 := blk_frozen BK239.out 2; have hfz141_3 := blk_frozen BK239.out 3; have hcz142_0 : w140.cell? ⟨gb240, 0, none⟩ = some (.string a2_0) := (blk_cell BK240.out 0).trans rfl; have hcz142_1 : w140.cell? ⟨gb240, 1, none⟩ = some (.int .i64 a2_1) := (blk_cell BK240.out 1).trans rfl; have hcz142_2 : w140.cell? ⟨gb240, 2, none⟩ = some (.int .u64 a2_2) := (blk_cell BK240.out 2).trans rfl; have hcz142_3 : w140.cell? ⟨gb240, 3, none⟩ = some (.int .u64 a2_3) := (blk_cell BK240.out 3).trans rfl; have hfz142_0 := blk_frozen BK240.out 0; have hfz142_1 := blk_frozen BK240.out 1; have hfz142_2 := blk_frozen BK240.out 2; have hfz142_3 := blk_frozen BK240.out 3) | (go_at_call 15; (with_reducible refine (best_Sooner.calls a1_0 a1_1 a1_2 a1_3 a2_0 a2_1 a2_2 a2_3 true _ A72.out).mono ?_); rintro e w143 ⟨rfl, hb⟩; have n0_ := Aside0.mk (blk_below (g := gb238) (o := .cells #[.string a0_0, .int .i64 a0_1, .int .u64 a0_2, .int .u64 a0_3] 27 (0, 0)) (by (with_reducible repeat (first | refine blk_drewN ?_ _ | refine blk_drew ?_ | refine blk_alloc ?_ _)); exact BK238.out) hb); have n1_ := Aside0.mk (blk_below (g := gb239) (o := .cells #[.string a1_0, .int .i64 a1_1, .int .u64 a1_2, .int .u64 a1_3] 27 (0, 0)) (by (with_reducible repeat (first | refine blk_drewN ?_ _ | refine blk_drew ?_ | refine blk_alloc ?_ _)); exact BK239.out) hb); have n2_ := Aside0.mk (blk_below (g := gb240) (o := .cells #[.string a2_0, .int .i64 a2_1, .int .u64 a2_2, .int .u64 a2_3] 27 (0, 0)) (by (with_reducible repeat (first | refine blk_drewN ?_ _ | refine blk_drew ?_ | refine blk_alloc ?_ _)); exact BK240.out) hb); have n3_ := Aside0.mk (below_step (by repeat (first | (with_reducible first | exact HB.out | apply below_alloc | apply pw_below_drewN | apply below_drew1 | refine below_set ?_ GE238.out | refine below_set ?_ GE239.out | refine below_set ?_ GE240.out) | exact HB.out)) hb); clear BK238; clear BK239; clear BK240; clear HB; have BK238 := n0_; have BK239 := n1_; have BK240 := n2_; have HB := n3_; clear n0_ n1_ n2_ n3_; (try clear hb); (try clear hb2); (try clear hk); (try clear hi); have hcz144_0 : w143.cell? ⟨gb238, 0, none⟩ = some (.string a0_0) := (blk_cell BK238.out 0).trans rfl; have hcz144_1 : w143.cell? ⟨gb238, 1, none⟩ = some (.int .i64 a0_1) := (blk_cell BK238.out 1).trans rfl; have hcz144_2 : w143.cell? ⟨gb238, 2, none⟩ = some (.int .u64 a0_2) := (blk_cell BK238.out 2).trans rfl; have hcz144_3 : w143.cell? ⟨gb238, 3, none⟩ = some (.int .u64 a0_3) := (blk_cell BK238.out 3).trans rfl; have hfz144_0 := blk_frozen BK238.out 0; have hfz144_1 := blk_frozen BK238.out 1; have hfz144_2 := blk_frozen BK238.out 2; have hfz144_3 := blk_frozen BK238.out 3; have hcz145_0 : w143.cell? ⟨gb240, 0, none⟩ = some (.string a2_0) := (blk_cell BK240.out 0).trans rfl; have hcz145_1 : w143.cell? ⟨gb240, 1, none⟩ = some (.int .i64 a2_1) := (blk_cell BK240.out 1).trans rfl; have hcz145_2 : w143.cell? ⟨gb240, 2, none⟩ = some (.int .u64 a2_2) := (blk_cell BK240.out 2).trans rfl; have hcz145_3 : w143.cell? ⟨gb240, 3, none⟩ = some (.int .u64 a2_3) := (blk_cell BK240.out 3).trans rfl; have hfz145_0 := blk_frozen BK240.out 0; have hfz145_1 := blk_frozen BK240.out 1; have hfz145_2 := blk_frozen BK240.out 2; have hfz145_3 := blk_frozen BK240.out 3) | (go_at_call 15; (with_reducible refine (best_Sooner.calls a0_0 a0_1 a0_2 a0_3 a2_0 a2_1 a2_2 a2_3 t255 _ A74.out).mono ?_); rintro e w146 ⟨rfl, hb⟩; have n0_ := Aside0.mk (blk_below (g := gb238) (o := .cells #[.string a0_0, .int .i64 a0_1, .int .u64 a0_2, .int .u64 a0_3] 27 (0, 0)) (by (with_reducible repeat (first | refine blk_drewN ?_ _ | refine blk_drew ?_ | refine blk_alloc ?_ _)); exact BK238.out) hb); have n1_ := Aside0.mk (blk_below (g := gb239) (o := .cells #[.string a1_0, .int .i64 a1_1, .int .u64 a1_2, .int .u64 a1_3] 27 (0, 0)) (by (with_reducible repeat (first | refine blk_drewN ?_ _ | refine blk_drew ?_ | refine blk_alloc ?_ _)); exact BK239.out) hb); have n2_ := Aside0.mk (blk_below (g := gb240) (o := .cells #[.string a2_0, .int .i64 a2_1, .int .u64 a2_2, .int .u64 a2_3] 27 (0, 0)) (by (with_reducible repeat (first | refine blk_drewN ?_ _ | refine blk_drew ?_ | refine blk_alloc ?_ _)); exact BK240.out) hb); have n3_ := Aside0.mk (below_step (by repeat (first | (with_reducible first | exact HB.out | apply below_alloc | apply pw_below_drewN | apply below_drew1 | refine below_set ?_ GE238.out | refine below_set ?_ GE239.out | refine below_set ?_ GE240.out) | exact HB.out)) hb); clear BK238; clear BK239; clear BK240; clear HB; have BK238 := n0_; have BK239 := n1_; have BK240 := n2_; have HB := n3_; clear n0_ n1_ n2_ n3_; (try clear hb); (try clear hb2); (try clear hk); (try clear hi)))
                      go_ret
                      exact ⟨by first | rfl | (simp [errW_none, errW_some] <;> rfl) | (simp [*, errW_none, errW_some] <;> rfl), by repeat (first | (with_reducible first | exact HB.out | apply below_alloc | apply pw_below_drewN | apply below_drew1 | refine below_set ?_ GE238.out | refine below_set ?_ GE239.out | refine below_set ?_ GE240.out) | exact HB.out)⟩
                  · replace c73 := Bool.eq_false_iff.mpr c73
                    subst c73
                    have H1 : (if x8_22 = true then (if x9_36 = true then ((best_Ahead.f kj36 a0_0 a0_1 a0_2 a0_3 a0_0 a0_1 a0_2 a0_3).bind fun t258 => (if t258 = true then (some false) else ((best_Sooner.f a0_0 a0_1 a0_2 a0_3 a0_0 a0_1 a0_2 a0_3).bind fun t259 => (some (!t259))))) else (some false)) else (some false)) = some r := by rw [if_neg (show ¬ (false = true) by decide)] at H; exact H
                    clear H
                    have H := H1
                    clear H1
                    by_cases c147 : x8_22 = true
                    · subst c147
                      have H1 : (if x9_36 = true then ((best_Ahead.f kj36 a0_0 a0_1 a0_2 a0_3 a0_0 a0_1 a0_2 a0_3).bind fun t258 => (if t258 = true then (some false) else ((best_Sooner.f a0_0 a0_1 a0_2 a0_3 a0_0 a0_1 a0_2 a0_3).bind fun t259 => (some (!t259))))) else (some false)) = some r := by rw [if_pos rfl] at H; exact H
                      clear H
                      have H := H1
                      clear H1
                      by_cases c148 : x9_36 = true
                      · subst c148
                        have H1 : ((best_Ahead.f kj36 a0_0 a0_1 a0_2 a0_3 a0_0 a0_1 a0_2 a0_3).bind fun t258 => (if t258 = true then (some false) else ((best_Sooner.f a0_0 a0_1 a0_2 a0_3 a0_0 a0_1 a0_2 a0_3).bind fun t259 => (some (!t259))))) = some r := by rw [if_pos rfl] at H; exact H
                        clear H
                        have H := H1
                        clear H1
                        replace H := Option.bind_eq_some_iff.mp H
                        obtain ⟨t258, A1490, H⟩ := H
                        replace H : (if t258 = true then (some false) else ((best_Sooner.f a0_0 a0_1 a0_2 a0_3 a0_0 a0_1 a0_2 a0_3).bind fun t259 => (some (!t259)))) = some r := H
                        have A149 := Aside0.mk A1490
                        clear A1490
                        by_cases c150 : t258 = true
                        · subst c150
                          have H1 : (some false) = some r := by rw [if_pos rfl] at H; exact H
                          clear H
                          have H := H1
                          clear H1
                          obtain rfl := Option.some.inj H
                          have hnb151 := NB238_239.out
                          have hnc151 := NB239_238.out
                          have hnb152 := NB238_240.out
                          have hnc152 := NB240_238.out
                          have hcz153_0 : wc.cell? ⟨gb238, 0, none⟩ = some (.string a0_0) := (blk_cell BK238.out 0).trans rfl
                          have hcz153_1 : wc.cell? ⟨gb238, 1, none⟩ = some (.int .i64 a0_1) := (blk_cell BK238.out 1).trans rfl
                          have hcz153_2 : wc.cell? ⟨gb238, 2, none⟩ = some (.int .u64 a0_2) := (blk_cell BK238.out 2).trans rfl
                          have hcz153_3 : wc.cell? ⟨gb238, 3, none⟩ = some (.int .u64 a0_3) := (blk_cell BK238.out 3).trans rfl
                          have hfz153_0 := blk_frozen BK238.out 0
                          have hfz153_1 := blk_frozen BK238.out 1
                          have hfz153_2 := blk_frozen BK238.out 2
                          have hfz153_3 := blk_frozen BK238.out 3
                          have hnb154 := NB239_240.out
                          have hnc154 := NB240_239.out
                          have hcz155_0 : wc.cell? ⟨gb239, 0, none⟩ = some (.string a1_0) := (blk_cell BK239.out 0).trans rfl
                          have hcz155_1 : wc.cell? ⟨gb239, 1, none⟩ = some (.int .i64 a1_1) := (blk_cell BK239.out 1).trans rfl
                          have hcz155_2 : wc.cell? ⟨gb239, 2, none⟩ = some (.int .u64 a1_2) := (blk_cell BK239.out 2).trans rfl
                          have hcz155_3 : wc.cell? ⟨gb239, 3, none⟩ = some (.int .u64 a1_3) := (blk_cell BK239.out 3).trans rfl
                          have hfz155_0 := blk_frozen BK239.out 0
                          have hfz155_1 := blk_frozen BK239.out 1
                          have hfz155_2 := blk_frozen BK239.out 2
                          have hfz155_3 := blk_frozen BK239.out 3
                          go_wp2_with (first | ((with_reducible refine gate_callee (f := 15) rfl ?_); refine goesL_ (some 56) rfl rfl Try.func15 (by kernel_rfl) rfl #[.agg #[.string a0_0, .int .i64 a0_1, .int .u64 a0_2, .int .u64 a0_3], .agg #[.string a1_0, .int .i64 a1_1, .int .u64 a1_2, .int .u64 a1_3]] rfl (by (try simp only [List.map_toArray, List.map_cons, List.map_nil]); first | done | rfl | (simp only [List.length_drop, List.length_take]; rfl)) ?_; (with_reducible refine (best_Sooner.calls a0_0 a0_1 a0_2 a0_3 a1_0 a1_1 a1_2 a1_3 true _ A70.out).mono ?_); rintro e w156 ⟨rfl, hb⟩; refine ⟨_, rfl, ?_⟩; have n0_ := Aside0.mk (blk_below (g := gb238) (o := .cells #[.string a0_0, .int .i64 a0_1, .int .u64 a0_2, .int .u64 a0_3] 27 (0, 0)) (by (with_reducible repeat (first | refine blk_drewN ?_ _ | refine blk_drew ?_ | refine blk_alloc ?_ _)); exact BK238.out) hb); have n1_ := Aside0.mk (blk_below (g := gb239) (o := .cells #[.string a1_0, .int .i64 a1_1, .int .u64 a1_2, .int .u64 a1_3] 27 (0, 0)) (by (with_reducible repeat (first | refine blk_drewN ?_ _ | refine blk_drew ?_ | refine blk_alloc ?_ _)); exact BK239.out) hb); have n2_ := Aside0.mk (blk_below (g := gb240) (o := .cells #[.string a2_0, .int .i64 a2_1, .int .u64 a2_2, .int .u64 a2_3] 27 (0, 0)) (by (with_reducible repeat (first | refine blk_drewN ?_ _ | refine blk_drew ?_ | refine blk_alloc ?_ _)); exact BK240.out) hb); have n3_ := Aside0.mk (below_step (by repeat (first | (with_reducible first | exact HB.out | apply below_alloc | apply pw_below_drewN | apply below_drew1 | refine below_set ?_ GE238.out | refine below_set ?_ GE239.out | refine below_set ?_ GE240.out) | exact HB.out)) hb); clear BK238; clear BK239; clear BK240; clear HB; have BK238 := n0_; have BK239 := n1_; have BK240 := n2_; have HB := n3_; clear n0_ n1_ n2_ n3_; (try clear hb); (try clear hb2); (try clear hk); (try clear hi); have hcz157_0 : w156.cell? ⟨gb239, 0, none⟩ = some (.string a1_0) := (blk_cell BK239.out 0).trans rfl; have hcz157_1 : w156.cell? ⟨gb239, 1, none⟩ = some (.int .i64 a1_1) := (blk_cell BK239.out 1).trans rfl; have hcz157_2 : w156.cell? ⟨gb239, 2, none⟩ = some (.int .u64 a1_2) := (blk_cell BK239.out 2).trans rfl; have hcz157_3 : w156.cell? ⟨gb239, 3, none⟩ = some (.int .u64 a1_3) := (blk_cell BK239.out 3).trans rfl; have hfz157_0 := blk_frozen BK239.out 0; have hfz157_1 := blk_frozen BK239.out 1; have hfz157_2 := blk_frozen BK239.out 2; have hfz157_3 := blk_frozen BK239.out 3; have hcz158_0 : w156.cell? ⟨gb240, 0, none⟩ = some (.string a2_0) := (blk_cell BK240.out 0).trans rfl; have hcz158_1 : w156.cell? ⟨gb240, 1, none⟩ = some (.int .i64 a2_1) := (blk_cell BK240.out 1).trans rfl; have hcz158_2 : w156.cell? ⟨gb240, 2, none⟩ = some (.int .u64 a2_2) := (blk_cell BK240.out 2).trans rfl; have hcz158_3 : w156.cell? ⟨gb240, 3, none⟩ = some (.int .u64 a2_3) := (blk_cell BK240.out 3).trans rfl; have hfz158_0 := blk_frozen BK240.out 0; have hfz158_1 := blk_frozen BK240.out 1; have hfz158_2 := blk_frozen BK240.out 2; have hfz158_3 := blk_frozen BK240.out 3) | (go_at_call 15; (with_reducible refine (best_Sooner.calls a1_0 a1_1 a1_2 a1_3 a2_0 a2_1 a2_2 a2_3 false _ A72.out).mono ?_); rintro e w159 ⟨rfl, hb⟩; have n0_ := Aside0.mk (blk_below (g := gb238) (o := .cells #[.string a0_0, .int .i64 a0_1, .int .u64 a0_2, .int .u64 a0_3] 27 (0, 0)) (by (with_reducible repeat (first | refine blk_drewN ?_ _ | refine blk_drew ?_ | refine blk_alloc ?_ _)); exact BK238.out) hb); have n1_ := Aside0.mk (blk_below (g := gb239) (o := .cells #[.string a1_0, .int .i64 a1_1, .int .u64 a1_2, .int .u64 a1_3] 27 (0, 0)) (by (with_reducible repeat (first | refine blk_drewN ?_ _ | refine blk_drew ?_ | refine blk_alloc ?_ _)); exact BK239.out) hb); have n2_ := Aside0.mk (blk_below (g := gb240) (o := .cells #[.string a2_0, .int .i64 a2_1, .int .u64 a2_2, .int .u64 a2_3] 27 (0, 0)) (by (with_reducible repeat (first | refine blk_drewN ?_ _ | refine blk_drew ?_ | refine blk_alloc ?_ _)); exact BK240.out) hb); have n3_ := Aside0.mk (below_step (by repeat (first | (with_reducible first | exact HB.out | apply below_alloc | apply pw_below_drewN | apply below_drew1 | refine below_set ?_ GE238.out | refine below_set ?_ GE239.out | refine below_set ?_ GE240.out) | exact HB.out)) hb); clear BK238; clear BK239; clear BK240; clear HB; have BK238 := n0_; have BK239 := n1_; have BK240 := n2_; have HB := n3_; clear n0_ n1_ n2_ n3_; (try clear hb); (try clear hb2); (try clear hk); (try clear hi); have hcz160_0 : w159.cell? ⟨gb238, 0, none⟩ = some (.string a0_0) := (blk_cell BK238.out 0).trans rfl; have hcz160_1 : w159.cell? ⟨gb238, 1, none⟩ = some (.int .i64 a0_1) := (blk_cell BK238.out 1).trans rfl; have hcz160_2 : w159.cell? ⟨gb238, 2, none⟩ = some (.int .u64 a0_2) := (blk_cell BK238.out 2).trans rfl; have hcz160_3 : w159.cell? ⟨gb238, 3, none⟩ = some (.int .u64 a0_3) := (blk_cell BK238.out 3).trans rfl; have hfz160_0 := blk_frozen BK238.out 0; have hfz160_1 := blk_frozen BK238.out 1; have hfz160_2 := blk_frozen BK238.out 2; have hfz160_3 := blk_frozen BK238.out 3) | (go_at_call 13; (with_reducible refine (best_Ahead.calls kj36 a0_0 a0_1 a0_2 a0_3 a0_0 a0_1 a0_2 a0_3 true _ A149.out).mono ?_); rintro e w161 ⟨rfl, hb⟩; have n0_ := Aside0.mk (blk_below (g := gb238) (o := .cells #[.string a0_0, .int .i64 a0_1, .int .u64 a0_2, .int .u64 a0_3] 27 (0, 0)) (by (with_reducible repeat (first | refine blk_drewN ?_ _ | refine blk_drew ?_ | refine blk_alloc ?_ _)); exact BK238.out) hb); have n1_ := Aside0.mk (blk_below (g := gb239) (o := .cells #[.string a1_0, .int .i64 a1_1, .int .u64 a1_2, .int .u64 a1_3] 27 (0, 0)) (by (with_reducible repeat (first | refine blk_drewN ?_ _ | refine blk_drew ?_ | refine blk_alloc ?_ _)); exact BK239.out) hb); have n2_ := Aside0.mk (blk_below (g := gb240) (o := .cells #[.string a2_0, .int .i64 a2_1, .int .u64 a2_2, .int .u64 a2_3] 27 (0, 0)) (by (with_reducible repeat (first | refine blk_drewN ?_ _ | refine blk_drew ?_ | refine blk_alloc ?_ _)); exact BK240.out) hb); have n3_ := Aside0.mk (below_step (by repeat (first | (with_reducible first | exact HB.out | apply below_alloc | apply pw_below_drewN | apply below_drew1 | refine below_set ?_ GE238.out | refine below_set ?_ GE239.out | refine below_set ?_ GE240.out) | exact HB.out)) hb); clear BK238; clear BK239; clear BK240; clear HB; have BK238 := n0_; have BK239 := n1_; have BK240 := n2_; have HB := n3_; clear n0_ n1_ n2_ n3_; (try clear hb); (try clear hb2); (try clear hk); (try clear hi)))
                          go_ret
                          exact ⟨by first | rfl | (simp [errW_none, errW_some] <;> rfl) | (simp [*, errW_none, errW_some] <;> rfl), by repeat (first | (with_reducible first | exact HB.out | apply below_alloc | apply pw_below_drewN | apply below_drew1 | refine below_set ?_ GE238.out | refine below_set ?_ GE239.out | refine below_set ?_ GE240.out) | exact HB.out)⟩
                        · replace c150 := Bool.eq_false_iff.mpr c150
                          subst c150
                          have H1 : ((best_Sooner.f a0_0 a0_1 a0_2 a0_3 a0_0 a0_1 a0_2 a0_3).bind fun t259 => (some (!t259))) = some r := by rw [if_neg (show ¬ (false = true) by decide)] at H; exact H
                          clear H
                          have H := H1
                          clear H1
                          replace H := Option.bind_eq_some_iff.mp H
                          obtain ⟨t259, A1620, H⟩ := H
                          replace H : (some (!t259)) = some r := H
                          have A162 := Aside0.mk A1620
                          clear A1620
                          obtain rfl := Option.some.inj H
                          have hnb163 := NB238_239.out
                          have hnc163 := NB239_238.out
                          have hnb164 := NB238_240.out
                          have hnc164 := NB240_238.out
                          have hcz165_0 : wc.cell? ⟨gb238, 0, none⟩ = some (.string a0_0) := (blk_cell BK238.out 0).trans rfl
                          have hcz165_1 : wc.cell? ⟨gb238, 1, none⟩ = some (.int .i64 a0_1) := (blk_cell BK238.out 1).trans rfl
                          have hcz165_2 : wc.cell? ⟨gb238, 2, none⟩ = some (.int .u64 a0_2) := (blk_cell BK238.out 2).trans rfl
                          have hcz165_3 : wc.cell? ⟨gb238, 3, none⟩ = some (.int .u64 a0_3) := (blk_cell BK238.out 3).trans rfl
                          have hfz165_0 := blk_frozen BK238.out 0
                          have hfz165_1 := blk_frozen BK238.out 1
                          have hfz165_2 := blk_frozen BK238.out 2
                          have hfz165_3 := blk_frozen BK238.out 3
                          have hnb166 := NB239_240.out
                          have hnc166 := NB240_239.out
                          have hcz167_0 : wc.cell? ⟨gb239, 0, none⟩ = some (.string a1_0) := (blk_cell BK239.out 0).trans rfl
                          have hcz167_1 : wc.cell? ⟨gb239, 1, none⟩ = some (.int .i64 a1_1) := (blk_cell BK239.out 1).trans rfl
                          have hcz167_2 : wc.cell? ⟨gb239, 2, none⟩ = some (.int .u64 a1_2) := (blk_cell BK239.out 2).trans rfl
                          have hcz167_3 : wc.cell? ⟨gb239, 3, none⟩ = some (.int .u64 a1_3) := (blk_cell BK239.out 3).trans rfl
                          have hfz167_0 := blk_frozen BK239.out 0
                          have hfz167_1 := blk_frozen BK239.out 1
                          have hfz167_2 := blk_frozen BK239.out 2
                          have hfz167_3 := blk_frozen BK239.out 3
                          go_wp2_with (first | ((with_reducible refine gate_callee (f := 15) rfl ?_); refine goesL_ (some 56) rfl rfl Try.func15 (by kernel_rfl) rfl #[.agg #[.string a0_0, .int .i64 a0_1, .int .u64 a0_2, .int .u64 a0_3], .agg #[.string a1_0, .int .i64 a1_1, .int .u64 a1_2, .int .u64 a1_3]] rfl (by (try simp only [List.map_toArray, List.map_cons, List.map_nil]); first | done | rfl | (simp only [List.length_drop, List.length_take]; rfl)) ?_; (with_reducible refine (best_Sooner.calls a0_0 a0_1 a0_2 a0_3 a1_0 a1_1 a1_2 a1_3 true _ A70.out).mono ?_); rintro e w168 ⟨rfl, hb⟩; refine ⟨_, rfl, ?_⟩; have n0_ := Aside0.mk (blk_below (g := gb238) (o := .cells #[.string a0_0, .int .i64 a0_1, .int .u64 a0_2, .int .u64 a0_3] 27 (0, 0)) (by (with_reducible repeat (first | refine blk_drewN ?_ _ | refine blk_drew ?_ | refine blk_alloc ?_ _)); exact BK238.out) hb); have n1_ := Aside0.mk (blk_below (g := gb239) (o := .cells #[.string a1_0, .int .i64 a1_1, .int .u64 a1_2, .int .u64 a1_3] 27 (0, 0)) (by (with_reducible repeat (first | refine blk_drewN ?_ _ | refine blk_drew ?_ | refine blk_alloc ?_ _)); exact BK239.out) hb); have n2_ := Aside0.mk (blk_below (g := gb240) (o := .cells #[.string a2_0, .int .i64 a2_1, .int .u64 a2_2, .int .u64 a2_3] 27 (0, 0)) (by (with_reducible repeat (first | refine blk_drewN ?_ _ | refine blk_drew ?_ | refine blk_alloc ?_ _)); exact BK240.out) hb); have n3_ := Aside0.mk (below_step (by repeat (first | (with_reducible first | exact HB.out | apply below_alloc | apply pw_below_drewN | apply below_drew1 | refine below_set ?_ GE238.out | refine below_set ?_ GE239.out | refine below_set ?_ GE240.out) | exact HB.out)) hb); clear BK238; clear BK239; clear BK240; clear HB; have BK238 := n0_; have BK239 := n1_; have BK240 := n2_; have HB := n3_; clear n0_ n1_ n2_ n3_; (try clear hb); (try clear hb2); (try clear hk); (try clear hi); have hcz169_0 : w168.cell? ⟨gb239, 0, none⟩ = some (.string a1_0) := (blk_cell BK239.out 0).trans rfl; have hcz169_1 : w168.cell? ⟨gb239, 1, none⟩ = some (.int .i64 a1_1) := (blk_cell BK239.out 1).trans rfl; have hcz169_2 : w168.cell? ⟨gb239, 2, none⟩ = some (.int .u64 a1_2) := (blk_cell BK239.out 2).trans rfl; have hcz169_3 : w168.cell? ⟨gb239, 3, none⟩ = some (.int .u64 a1_3) := (blk_cell BK239.out 3).trans rfl; have hfz169_0 := blk_frozen BK239.out 0; have hfz169_1 := blk_frozen BK239.out 1; have hfz169_2 := blk_frozen BK239.out 2; have hfz169_3 := blk_frozen BK239.out 3; have hcz170_0 : w168.cell? ⟨gb240, 0, none⟩ = some (.string a2_0) := (blk_cell BK240.out 0).trans rfl; have hcz170_1 : w168.cell? ⟨gb240, 1, none⟩ = some (.int .i64 a2_1) := (blk_cell BK240.out 1).trans rfl; have hcz170_2 : w168.cell? ⟨gb240, 2, none⟩ = some (.int .u64 a2_2) := (blk_cell BK240.out 2).trans rfl; have hcz170_3 : w168.cell? ⟨gb240, 3, none⟩ = some (.int .u64 a2_3) := (blk_cell BK240.out 3).trans rfl; have hfz170_0 := blk_frozen BK240.out 0; have hfz170_1 := blk_frozen BK240.out 1; have hfz170_2 := blk_frozen BK240.out 2; have hfz170_3 := blk_frozen BK240.out 3) | (go_at_call 15; (with_reducible refine (best_Sooner.calls a1_0 a1_1 a1_2 a1_3 a2_0 a2_1 a2_2 a2_3 false _ A72.out).mono ?_); rintro e w171 ⟨rfl, hb⟩; have n0_ := Aside0.mk (blk_below (g := gb238) (o := .cells #[.string a0_0, .int .i64 a0_1, .int .u64 a0_2, .int .u64 a0_3] 27 (0, 0)) (by (with_reducible repeat (first | refine blk_drewN ?_ _ | refine blk_drew ?_ | refine blk_alloc ?_ _)); exact BK238.out) hb); have n1_ := Aside0.mk (blk_below (g := gb239) (o := .cells #[.string a1_0, .int .i64 a1_1, .int .u64 a1_2, .int .u64 a1_3] 27 (0, 0)) (by (with_reducible repeat (first | refine blk_drewN ?_ _ | refine blk_drew ?_ | refine blk_alloc ?_ _)); exact BK239.out) hb); have n2_ := Aside0.mk (blk_below (g := gb240) (o := .cells #[.string a2_0, .int .i64 a2_1, .int .u64 a2_2, .int .u64 a2_3] 27 (0, 0)) (by (with_reducible repeat (first | refine blk_drewN ?_ _ | refine blk_drew ?_ | refine blk_alloc ?_ _)); exact BK240.out) hb); have n3_ := Aside0.mk (below_step (by repeat (first | (with_reducible first | exact HB.out | apply below_alloc | apply pw_below_drewN | apply below_drew1 | refine below_set ?_ GE238.out | refine below_set ?_ GE239.out | refine below_set ?_ GE240.out) | exact HB.out)) hb); clear BK238; clear BK239; clear BK240; clear HB; have BK238 := n0_; have BK239 := n1_; have BK240 := n2_; have HB := n3_; clear n0_ n1_ n2_ n3_; (try clear hb); (try clear hb2); (try clear hk); (try clear hi); have hcz172_0 : w171.cell? ⟨gb238, 0, none⟩ = some (.string a0_0) := (blk_cell BK238.out 0).trans rfl; have hcz172_1 : w171.cell? ⟨gb238, 1, none⟩ = some (.int .i64 a0_1) := (blk_cell BK238.out 1).trans rfl; have hcz172_2 : w171.cell? ⟨gb238, 2, none⟩ = some (.int .u64 a0_2) := (blk_cell BK238.out 2).trans rfl; have hcz172_3 : w171.cell? ⟨gb238, 3, none⟩ = some (.int .u64 a0_3) := (blk_cell BK238.out 3).trans rfl; have hfz172_0 := blk_frozen BK238.out 0; have hfz172_1 := blk_frozen BK238.out 1; have hfz172_2 := blk_frozen BK238.out 2; have hfz172_3 := blk_frozen BK238.out 3) | (go_at_call 13; (with_reducible refine (best_Ahead.calls kj36 a0_0 a0_1 a0_2 a0_3 a0_0 a0_1 a0_2 a0_3 false _ A149.out).mono ?_); rintro e w173 ⟨rfl, hb⟩; have n0_ := Aside0.mk (blk_below (g := gb238) (o := .cells #[.string a0_0, .int .i64 a0_1, .int .u64 a0_2, .int .u64 a0_3] 27 (0, 0)) (by (with_reducible repeat (first | refine blk_drewN ?_ _ | refine blk_drew ?_ | refine blk_alloc ?_ _)); exact BK238.out) hb); have n1_ := Aside0.mk (blk_below (g := gb239) (o := .cells #[.string a1_0, .int .i64 a1_1, .int .u64 a1_2, .int .u64 a1_3] 27 (0, 0)) (by (with_reducible repeat (first | refine blk_drewN ?_ _ | refine blk_drew ?_ | refine blk_alloc ?_ _)); exact BK239.out) hb); have n2_ := Aside0.mk (blk_below (g := gb240) (o := .cells #[.string a2_0, .int .i64 a2_1, .int .u64 a2_2, .int .u64 a2_3] 27 (0, 0)) (by (with_reducible repeat (first | refine blk_drewN ?_ _ | refine blk_drew ?_ | refine blk_alloc ?_ _)); exact BK240.out) hb); have n3_ := Aside0.mk (below_step (by repeat (first | (with_reducible first | exact HB.out | apply below_alloc | apply pw_below_drewN | apply below_drew1 | refine below_set ?_ GE238.out | refine below_set ?_ GE239.out | refine below_set ?_ GE240.out) | exact HB.out)) hb); clear BK238; clear BK239; clear BK240; clear HB; have BK238 := n0_; have BK239 := n1_; have BK240 := n2_; have HB := n3_; clear n0_ n1_ n2_ n3_; (try clear hb); (try clear hb2); (try clear hk); (try clear hi); have hcz174_0 : w173.cell? ⟨gb238, 0, none⟩ = some (.string a0_0) := (blk_cell BK238.out 0).trans rfl; have hcz174_1 : w173.cell? ⟨gb238, 1, none⟩ = some (.int .i64 a0_1) := (blk_cell BK238.out 1).trans rfl; have hcz174_2 : w173.cell? ⟨gb238, 2, none⟩ = some (.int .u64 a0_2) := (blk_cell BK238.out 2).trans rfl; have hcz174_3 : w173.cell? ⟨gb238, 3, none⟩ = some (.int .u64 a0_3) := (blk_cell BK238.out 3).trans rfl; have hfz174_0 := blk_frozen BK238.out 0; have hfz174_1 := blk_frozen BK238.out 1; have hfz174_2 := blk_frozen BK238.out 2; have hfz174_3 := blk_frozen BK238.out 3) | (go_at_call 15; (with_reducible refine (best_Sooner.calls a0_0 a0_1 a0_2 a0_3 a0_0 a0_1 a0_2 a0_3 t259 _ A162.out).mono ?_); rintro e w175 ⟨rfl, hb⟩; have n0_ := Aside0.mk (blk_below (g := gb238) (o := .cells #[.string a0_0, .int .i64 a0_1, .int .u64 a0_2, .int .u64 a0_3] 27 (0, 0)) (by (with_reducible repeat (first | refine blk_drewN ?_ _ | refine blk_drew ?_ | refine blk_alloc ?_ _)); exact BK238.out) hb); have n1_ := Aside0.mk (blk_below (g := gb239) (o := .cells #[.string a1_0, .int .i64 a1_1, .int .u64 a1_2, .int .u64 a1_3] 27 (0, 0)) (by (with_reducible repeat (first | refine blk_drewN ?_ _ | refine blk_drew ?_ | refine blk_alloc ?_ _)); exact BK239.out) hb); have n2_ := Aside0.mk (blk_below (g := gb240) (o := .cells #[.string a2_0, .int .i64 a2_1, .int .u64 a2_2, .int .u64 a2_3] 27 (0, 0)) (by (with_reducible repeat (first | refine blk_drewN ?_ _ | refine blk_drew ?_ | refine blk_alloc ?_ _)); exact BK240.out) hb); have n3_ := Aside0.mk (below_step (by repeat (first | (with_reducible first | exact HB.out | apply below_alloc | apply pw_below_drewN | apply below_drew1 | refine below_set ?_ GE238.out | refine below_set ?_ GE239.out | refine below_set ?_ GE240.out) | exact HB.out)) hb); clear BK238; clear BK239; clear BK240; clear HB; have BK238 := n0_; have BK239 := n1_; have BK240 := n2_; have HB := n3_; clear n0_ n1_ n2_ n3_; (try clear hb); (try clear hb2); (try clear hk); (try clear hi)))
                          go_ret
                          exact ⟨by first | rfl | (simp [errW_none, errW_some] <;> rfl) | (simp [*, errW_none, errW_some] <;> rfl), by repeat (first | (with_reducible first | exact HB.out | apply below_alloc | apply pw_below_drewN | apply below_drew1 | refine below_set ?_ GE238.out | refine below_set ?_ GE239.out | refine below_set ?_ GE240.out) | exact HB.out)⟩
                      · replace c148 := Bool.eq_false_iff.mpr c148
                        subst c148
                        have H1 : (some false) = some r := by rw [if_neg (show ¬ (false = true) by decide)] at H; exact H
                        clear H
                        have H := H1
                        clear H1
                        obtain rfl := Option.some.inj H
                        have hnb176 := NB238_239.out
                        have hnc176 := NB239_238.out
                        have hnb177 := NB238_240.out
                        have hnc177 := NB240_238.out
                        have hcz178_0 : wc.cell? ⟨gb238, 0, none⟩ = some (.string a0_0) := (blk_cell BK238.out 0).trans rfl
                        have hcz178_1 : wc.cell? ⟨gb238, 1, none⟩ = some (.int .i64 a0_1) := (blk_cell BK238.out 1).trans rfl
                        have hcz178_2 : wc.cell? ⟨gb238, 2, none⟩ = some (.int .u64 a0_2) := (blk_cell BK238.out 2).trans rfl
                        have hcz178_3 : wc.cell? ⟨gb238, 3, none⟩ = some (.int .u64 a0_3) := (blk_cell BK238.out 3).trans rfl
                        have hfz178_0 := blk_frozen BK238.out 0
                        have hfz178_1 := blk_frozen BK238.out 1
                        have hfz178_2 := blk_frozen BK238.out 2
                        have hfz178_3 := blk_frozen BK238.out 3
                        have hnb179 := NB239_240.out
                        have hnc179 := NB240_239.out
                        have hcz180_0 : wc.cell? ⟨gb239, 0, none⟩ = some (.string a1_0) := (blk_cell BK239.out 0).trans rfl
                        have hcz180_1 : wc.cell? ⟨gb239, 1, none⟩ = some (.int .i64 a1_1) := (blk_cell BK239.out 1).trans rfl
                        have hcz180_2 : wc.cell? ⟨gb239, 2, none⟩ = some (.int .u64 a1_2) := (blk_cell BK239.out 2).trans rfl
                        have hcz180_3 : wc.cell? ⟨gb239, 3, none⟩ = some (.int .u64 a1_3) := (blk_cell BK239.out 3).trans rfl
                        have hfz180_0 := blk_frozen BK239.out 0
                        have hfz180_1 := blk_frozen BK239.out 1
                        have hfz180_2 := blk_frozen BK239.out 2
                        have hfz180_3 := blk_frozen BK239.out 3
                        go_wp2_with (first | ((with_reducible refine gate_callee (f := 15) rfl ?_); refine goesL_ (some 56) rfl rfl Try.func15 (by kernel_rfl) rfl #[.agg #[.string a0_0, .int .i64 a0_1, .int .u64 a0_2, .int .u64 a0_3], .agg #[.string a1_0, .int .i64 a1_1, .int .u64 a1_2, .int .u64 a1_3]] rfl (by (try simp only [List.map_toArray, List.map_cons, List.map_nil]); first | done | rfl | (simp only [List.length_drop, List.length_take]; rfl)) ?_; (with_reducible refine (best_Sooner.calls a0_0 a0_1 a0_2 a0_3 a1_0 a1_1 a1_2 a1_3 true _ A70.out).mono ?_); rintro e w181 ⟨rfl, hb⟩; refine ⟨_, rfl, ?_⟩; have n0_ := Aside0.mk (blk_below (g := gb238) (o := .cells #[.string a0_0, .int .i64 a0_1, .int .u64 a0_2, .int .u64 a0_3] 27 (0, 0)) (by (with_reducible repeat (first | refine blk_drewN ?_ _ | refine blk_drew ?_ | refine blk_alloc ?_ _)); exact BK238.out) hb); have n1_ := Aside0.mk (blk_below (g := gb239) (o := .cells #[.string a1_0, .int .i64 a1_1, .int .u64 a1_2, .int .u64 a1_3] 27 (0, 0)) (by (with_reducible repeat (first | refine blk_drewN ?_ _ | refine blk_drew ?_ | refine blk_alloc ?_ _)); exact BK239.out) hb); have n2_ := Aside0.mk (blk_below (g := gb240) (o := .cells #[.string a2_0, .int .i64 a2_1, .int .u64 a2_2, .int .u64 a2_3] 27 (0, 0)) (by (with_reducible repeat (first | refine blk_drewN ?_ _ | refine blk_drew ?_ | refine blk_alloc ?_ _)); exact BK240.out) hb); have n3_ := Aside0.mk (below_step (by repeat (first | (with_reducible first | exact HB.out | apply below_alloc | apply pw_below_drewN | apply below_drew1 | refine below_set ?_ GE238.out | refine below_set ?_ GE239.out | refine below_set ?_ GE240.out) | exact HB.out)) hb); clear BK238; clear BK239; clear BK240; clear HB; have BK238 := n0_; have BK239 := n1_; have BK240 := n2_; have HB := n3_; clear n0_ n1_ n2_ n3_; (try clear hb); (try clear hb2); (try clear hk); (try clear hi); have hcz182_0 : w181.cell? ⟨gb239, 0, none⟩ = some (.string a1_0) := (blk_cell BK239.out 0).trans rfl; have hcz182_1 : w181.cell? ⟨gb239, 1, none⟩ = some (.int .i64 a1_1) := (blk_cell BK239.out 1).trans rfl; have hcz182_2 : w181.cell? ⟨gb239, 2, none⟩ = some (.int .u64 a1_2) := (blk_cell BK239.out 2).trans rfl; have hcz182_3 : w181.cell? ⟨gb239, 3, none⟩ = some (.int .u64 a1_3) := (blk_cell BK239.out 3).trans rfl; have hfz182_0 := blk_frozen BK239.out 0; have hfz182_1 := blk_frozen BK239.out 1; have hfz182_2 := blk_frozen BK239.out 2; have hfz182_3 := blk_frozen BK239.out 3; have hcz183_0 : w181.cell? ⟨gb240, 0, none⟩ = some (.string a2_0) := (blk_cell BK240.out 0).trans rfl; have hcz183_1 : w181.cell? ⟨gb240, 1, none⟩ = some (.int .i64 a2_1) := (blk_cell BK240.out 1).trans rfl; have hcz183_2 : w181.cell? ⟨gb240, 2, none⟩ = some (.int .u64 a2_2) := (blk_cell BK240.out 2).trans rfl; have hcz183_3 : w181.cell? ⟨gb240, 3, none⟩ = some (.int .u64 a2_3) := (blk_cell BK240.out 3).trans rfl; have hfz183_0 := blk_frozen BK240.out 0; have hfz183_1 := blk_frozen BK240.out 1; have hfz183_2 := blk_frozen BK240.out 2; have hfz183_3 := blk_frozen BK240.out 3) | (go_at_call 15; (with_reducible refine (best_Sooner.calls a1_0 a1_1 a1_2 a1_3 a2_0 a2_1 a2_2 a2_3 false _ A72.out).mono ?_); rintro e w184 ⟨rfl, hb⟩; have n0_ := Aside0.mk (blk_below (g := gb238) (o := .cells #[.string a0_0, .int .i64 a0_1, .int .u64 a0_2, .int .u64 a0_3] 27 (0, 0)) (by (with_reducible repeat (first | refine blk_drewN ?_ _ | refine blk_drew ?_ | refine blk_alloc ?_ _)); exact BK238.out) hb); have n1_ := Aside0.mk (blk_below (g := gb239) (o := .cells #[.string a1_0, .int .i64 a1_1, .int .u64 a1_2, .int .u64 a1_3] 27 (0, 0)) (by (with_reducible repeat (first | refine blk_drewN ?_ _ | refine blk_drew ?_ | refine blk_alloc ?_ _)); exact BK239.out) hb); have n2_ := Aside0.mk (blk_below (g := gb240) (o := .cells #[.string a2_0, .int .i64 a2_1, .int .u64 a2_2, .int .u64 a2_3] 27 (0, 0)) (by (with_reducible repeat (first | refine blk_drewN ?_ _ | refine blk_drew ?_ | refine blk_alloc ?_ _)); exact BK240.out) hb); have n3_ := Aside0.mk (below_step (by repeat (first | (with_reducible first | exact HB.out | apply below_alloc | apply pw_below_drewN | apply below_drew1 | refine below_set ?_ GE238.out | refine below_set ?_ GE239.out | refine below_set ?_ GE240.out) | exact HB.out)) hb); clear BK238; clear BK239; clear BK240; clear HB; have BK238 := n0_; have BK239 := n1_; have BK240 := n2_; have HB := n3_; clear n0_ n1_ n2_ n3_; (try clear hb); (try clear hb2); (try clear hk); (try clear hi)))
                        go_ret
                        exact ⟨by first | rfl | (simp [errW_none, errW_some] <;> rfl) | (simp [*, errW_none, errW_some] <;> rfl), by repeat (first | (with_reducible first | exact HB.out | apply below_alloc | apply pw_below_drewN | apply below_drew1 | refine below_set ?_ GE238.out | refine below_set ?_ GE239.out | refine below_set ?_ GE240.out) | exact HB.out)⟩
                    · replace c147 := Bool.eq_false_iff.mpr c147
                      subst c147
                      have H1 : (some false) = some r := by rw [if_neg (show ¬ (false = true) by decide)] at H; exact H
                      clear H
                      have H := H1
                      clear H1
                      obtain rfl := Option.some.inj H
                      have hnb185 := NB238_239.out
                      have hnc185 := NB239_238.out
                      have hnb186 := NB238_240.out
                      have hnc186 := NB240_238.out
                      have hcz187_0 : wc.cell? ⟨gb238, 0, none⟩ = some (.string a0_0) := (blk_cell BK238.out 0).trans rfl
                      have hcz187_1 : wc.cell? ⟨gb238, 1, none⟩ = some (.int .i64 a0_1) := (blk_cell BK238.out 1).trans rfl
                      have hcz187_2 : wc.cell? ⟨gb238, 2, none⟩ = some (.int .u64 a0_2) := (blk_cell BK238.out 2).trans rfl
                      have hcz187_3 : wc.cell? ⟨gb238, 3, none⟩ = some (.int .u64 a0_3) := (blk_cell BK238.out 3).trans rfl
                      have hfz187_0 := blk_frozen BK238.out 0
                      have hfz187_1 := blk_frozen BK238.out 1
                      have hfz187_2 := blk_frozen BK238.out 2
                      have hfz187_3 := blk_frozen BK238.out 3
                      have hnb188 := NB239_240.out
                      have hnc188 := NB240_239.out
                      have hcz189_0 : wc.cell? ⟨gb239, 0, none⟩ = some (.string a1_0) := (blk_cell BK239.out 0).trans rfl
                      have hcz189_1 : wc.cell? ⟨gb239, 1, none⟩ = some (.int .i64 a1_1) := (blk_cell BK239.out 1).trans rfl
                      have hcz189_2 : wc.cell? ⟨gb239, 2, none⟩ = some (.int .u64 a1_2) := (blk_cell BK239.out 2).trans rfl
                      have hcz189_3 : wc.cell? ⟨gb239, 3, none⟩ = some (.int .u64 a1_3) := (blk_cell BK239.out 3).trans rfl
                      have hfz189_0 := blk_frozen BK239.out 0
                      have hfz189_1 := blk_frozen BK239.out 1
                      have hfz189_2 := blk_frozen BK239.out 2
                      have hfz189_3 := blk_frozen BK239.out 3
                      go_wp2_with (first | ((with_reducible refine gate_callee (f := 15) rfl ?_); refine goesL_ (some 56) rfl rfl Try.func15 (by kernel_rfl) rfl #[.agg #[.string a0_0, .int .i64 a0_1, .int .u64 a0_2, .int .u64 a0_3], .agg #[.string a1_0, .int .i64 a1_1, .int .u64 a1_2, .int .u64 a1_3]] rfl (by (try simp only [List.map_toArray, List.map_cons, List.map_nil]); first | done | rfl | (simp only [List.length_drop, List.length_take]; rfl)) ?_; (with_reducible refine (best_Sooner.calls a0_0 a0_1 a0_2 a0_3 a1_0 a1_1 a1_2 a1_3 true _ A70.out).mono ?_); rintro e w190 ⟨rfl, hb⟩; refine ⟨_, rfl, ?_⟩; have n0_ := Aside0.mk (blk_below (g := gb238) (o := .cells #[.string a0_0, .int .i64 a0_1, .int .u64 a0_2, .int .u64 a0_3] 27 (0, 0)) (by (with_reducible repeat (first | refine blk_drewN ?_ _ | refine blk_drew ?_ | refine blk_alloc ?_ _)); exact BK238.out) hb); have n1_ := Aside0.mk (blk_below (g := gb239) (o := .cells #[.string a1_0, .int .i64 a1_1, .int .u64 a1_2, .int .u64 a1_3] 27 (0, 0)) (by (with_reducible repeat (first | refine blk_drewN ?_ _ | refine blk_drew ?_ | refine blk_alloc ?_ _)); exact BK239.out) hb); have n2_ := Aside0.mk (blk_below (g := gb240) (o := .cells #[.string a2_0, .int .i64 a2_1, .int .u64 a2_2, .int .u64 a2_3] 27 (0, 0)) (by (with_reducible repeat (first | refine blk_drewN ?_ _ | refine blk_drew ?_ | refine blk_alloc ?_ _)); exact BK240.out) hb); have n3_ := Aside0.mk (below_step (by repeat (first | (with_reducible first | exact HB.out | apply below_alloc | apply pw_below_drewN | apply below_drew1 | refine below_set ?_ GE238.out | refine below_set ?_ GE239.out | refine below_set ?_ GE240.out) | exact HB.out)) hb); clear BK238; clear BK239; clear BK240; clear HB; have BK238 := n0_; have BK239 := n1_; have BK240 := n2_; have HB := n3_; clear n0_ n1_ n2_ n3_; (try clear hb); (try clear hb2); (try clear hk); (try clear hi); have hcz191_0 : w190.cell? ⟨gb239, 0, none⟩ = some (.string a1_0) := (blk_cell BK239.out 0).trans rfl; have hcz191_1 : w190.cell? ⟨gb239, 1, none⟩ = some (.int .i64 a1_1) := (blk_cell BK239.out 1).trans rfl; have hcz191_2 : w190.cell? ⟨gb239, 2, none⟩ = some (.int .u64 a1_2) := (blk_cell BK239.out 2).trans rfl; have hcz191_3 : w190.cell? ⟨gb239, 3, none⟩ = some (.int .u64 a1_3) := (blk_cell BK239.out 3).trans rfl; have hfz191_0 := blk_frozen BK239.out 0; have hfz191_1 := blk_frozen BK239.out 1; have hfz191_2 := blk_frozen BK239.out 2; have hfz191_3 := blk_frozen BK239.out 3; have hcz192_0 : w190.cell? ⟨gb240, 0, none⟩ = some (.string a2_0) := (blk_cell BK240.out 0).trans rfl; have hcz192_1 : w190.cell? ⟨gb240, 1, none⟩ = some (.int .i64 a2_1) := (blk_cell BK240.out 1).trans rfl; have hcz192_2 : w190.cell? ⟨gb240, 2, none⟩ = some (.int .u64 a2_2) := (blk_cell BK240.out 2).trans rfl; have hcz192_3 : w190.cell? ⟨gb240, 3, none⟩ = some (.int .u64 a2_3) := (blk_cell BK240.out 3).trans rfl; have hfz192_0 := blk_frozen BK240.out 0; have hfz192_1 := blk_frozen BK240.out 1; have hfz192_2 := blk_frozen BK240.out 2; have hfz192_3 := blk_frozen BK240.out 3) | (go_at_call 15; (with_reducible refine (best_Sooner.calls a1_0 a1_1 a1_2 a1_3 a2_0 a2_1 a2_2 a2_3 false _ A72.out).mono ?_); rintro e w193 ⟨rfl, hb⟩; have n0_ := Aside0.mk (blk_below (g := gb238) (o := .cells #[.string a0_0, .int .i64 a0_1, .int .u64 a0_2, .int .u64 a0_3] 27 (0, 0)) (by (with_reducible repeat (first | refine blk_drewN ?_ _ | refine blk_drew ?_ | refine blk_alloc ?_ _)); exact BK238.out) hb); have n1_ := Aside0.mk (blk_below (g := gb239) (o := .cells #[.string a1_0, .int .i64 a1_1, .int .u64 a1_2, .int .u64 a1_3] 27 (0, 0)) (by (with_reducible repeat (first | refine blk_drewN ?_ _ | refine blk_drew ?_ | refine blk_alloc ?_ _)); exact BK239.out) hb); have n2_ := Aside0.mk (blk_below (g := gb240) (o := .cells #[.string a2_0, .int .i64 a2_1, .int .u64 a2_2, .int .u64 a2_3] 27 (0, 0)) (by (with_reducible repeat (first | refine blk_drewN ?_ _ | refine blk_drew ?_ | refine blk_alloc ?_ _)); exact BK240.out) hb); have n3_ := Aside0.mk (below_step (by repeat (first | (with_reducible first | exact HB.out | apply below_alloc | apply pw_below_drewN | apply below_drew1 | refine below_set ?_ GE238.out | refine below_set ?_ GE239.out | refine below_set ?_ GE240.out) | exact HB.out)) hb); clear BK238; clear BK239; clear BK240; clear HB; have BK238 := n0_; have BK239 := n1_; have BK240 := n2_; have HB := n3_; clear n0_ n1_ n2_ n3_; (try clear hb); (try clear hb2); (try clear hk); (try clear hi)))
                      go_ret
                      exact ⟨by first | rfl | (simp [errW_none, errW_some] <;> rfl) | (simp [*, errW_none, errW_some] <;> rfl), by repeat (first | (with_reducible first | exact HB.out | apply below_alloc | apply pw_below_drewN | apply below_drew1 | refine below_set ?_ GE238.out | refine below_set ?_ GE239.out | refine below_set ?_ GE240.out) | exact HB.out)⟩
                · replace c71 := Bool.eq_false_iff.mpr c71
                  subst c71
                  have H1 : (if x8_22 = true then (if x9_36 = true then ((best_Ahead.f kj36 a0_0 a0_1 a0_2 a0_3 a0_0 a0_1 a0_2 a0_3).bind fun t260 => (if t260 = true then (some false) else ((best_Sooner.f a0_0 a0_1 a0_2 a0_3 a0_0 a0_1 a0_2 a0_3).bind fun t261 => (some (!t261))))) else (some false)) else (some false)) = some r := by rw [if_neg (show ¬ (false = true) by decide)] at H; exact H
                  clear H
                  have H := H1
                  clear H1
                  by_cases c194 : x8_22 = true
                  · subst c194
                    have H1 : (if x9_36 = true then ((best_Ahead.f kj36 a0_0 a0_1 a0_2 a0_3 a0_0 a0_1 a0_2 a0_3).bind fun t260 => (if t260 = true then (some false) else ((best_Sooner.f a0_0 a0_1 a0_2 a0_3 a0_0 a0_1 a0_2 a0_3).bind fun t261 => (some (!t261))))) else (some false)) = some r := by rw [if_pos rfl] at H; exact H
                    clear H
                    have H := H1
                    clear H1
                    by_cases c195 : x9_36 = true
                    · subst c195
                      have H1 : ((best_Ahead.f kj36 a0_0 a0_1 a0_2 a0_3 a0_0 a0_1 a0_2 a0_3).bind fun t260 => (if t260 = true then (some false) else ((best_Sooner.f a0_0 a0_1 a0_2 a0_3 a0_0 a0_1 a0_2 a0_3).bind fun t261 => (some (!t261))))) = some r := by rw [if_pos rfl] at H; exact H
                      clear H
                      have H := H1
                      clear H1
                      replace H := Option.bind_eq_some_iff.mp H
                      obtain ⟨t260, A1960, H⟩ := H
                      replace H : (if t260 = true then (some false) else ((best_Sooner.f a0_0 a0_1 a0_2 a0_3 a0_0 a0_1 a0_2 a0_3).bind fun t261 => (some (!t261)))) = some r := H
                      have A196 := Aside0.mk A1960
                      clear A1960
                      by_cases c197 : t260 = true
                      · subst c197
                        have H1 : (some false) = some r := by rw [if_pos rfl] at H; exact H
                        clear H
                        have H := H1
                        clear H1
                        obtain rfl := Option.some.inj H
                        have hnb198 := NB238_239.out
                        have hnc198 := NB239_238.out
                        have hnb199 := NB238_240.out
                        have hnc199 := NB240_238.out
                        have hcz200_0 : wc.cell? ⟨gb238, 0, none⟩ = some (.string a0_0) := (blk_cell BK238.out 0).trans rfl
                        have hcz200_1 : wc.cell? ⟨gb238, 1, none⟩ = some (.int .i64 a0_1) := (blk_cell BK238.out 1).trans rfl
                        have hcz200_2 : wc.cell? ⟨gb238, 2, none⟩ = some (.int .u64 a0_2) := (blk_cell BK238.out 2).trans rfl
                        have hcz200_3 : wc.cell? ⟨gb238, 3, none⟩ = some (.int .u64 a0_3) := (blk_cell BK238.out 3).trans rfl
                        have hfz200_0 := blk_frozen BK238.out 0
                        have hfz200_1 := blk_frozen BK238.out 1
                        have hfz200_2 := blk_frozen BK238.out 2
                        have hfz200_3 := blk_frozen BK238.out 3
                        have hnb201 := NB239_240.out
                        have hnc201 := NB240_239.out
                        have hcz202_0 : wc.cell? ⟨gb239, 0, none⟩ = some (.string a1_0) := (blk_cell BK239.out 0).trans rfl
                        have hcz202_1 : wc.cell? ⟨gb239, 1, none⟩ = some (.int .i64 a1_1) := (blk_cell BK239.out 1).trans rfl
                        have hcz202_2 : wc.cell? ⟨gb239, 2, none⟩ = some (.int .u64 a1_2) := (blk_cell BK239.out 2).trans rfl
                        have hcz202_3 : wc.cell? ⟨gb239, 3, none⟩ = some (.int .u64 a1_3) := (blk_cell BK239.out 3).trans rfl
                        have hfz202_0 := blk_frozen BK239.out 0
                        have hfz202_1 := blk_frozen BK239.out 1
                        have hfz202_2 := blk_frozen BK239.out 2
                        have hfz202_3 := blk_frozen BK239.out 3
                        go_wp2_with (first | ((with_reducible refine gate_callee (f := 15) rfl ?_); refine goesL_ (some 56) rfl rfl Try.func15 (by kernel_rfl) rfl #[.agg #[.string a0_0, .int .i64 a0_1, .int .u64 a0_2, .int .u64 a0_3], .agg #[.string a1_0, .int .i64 a1_1, .int .u64 a1_2, .int .u64 a1_3]] rfl (by (try simp only [List.map_toArray, List.map_cons, List.map_nil]); first | done | rfl | (simp only [List.length_drop, List.length_take]; rfl)) ?_; (with_reducible refine (best_Sooner.calls a0_0 a0_1 a0_2 a0_3 a1_0 a1_1 a1_2 a1_3 false _ A70.out).mono ?_); rintro e w203 ⟨rfl, hb⟩; refine ⟨_, rfl, ?_⟩; have n0_ := Aside0.mk (blk_below (g := gb238) (o := .cells #[.string a0_0, .int .i64 a0_1, .int .u64 a0_2, .int .u64 a0_3] 27 (0, 0)) (by (with_reducible repeat (first | refine blk_drewN ?_ _ | refine blk_drew ?_ | refine blk_alloc ?_ _)); exact BK238.out) hb); have n1_ := Aside0.mk (blk_below (g := gb239) (o := .cells #[.string a1_0, .int .i64 a1_1, .int .u64 a1_2, .int .u64 a1_3] 27 (0, 0)) (by (with_reducible repeat (first | refine blk_drewN ?_ _ | refine blk_drew ?_ | refine blk_alloc ?_ _)); exact BK239.out) hb); have n2_ := Aside0.mk (blk_below (g := gb240) (o := .cells #[.string a2_0, .int .i64 a2_1, .int .u64 a2_2, .int .u64 a2_3] 27 (0, 0)) (by (with_reducible repeat (first | refine blk_drewN ?_ _ | refine blk_drew ?_ | refine blk_alloc ?_ _)); exact BK240.out) hb); have n3_ := Aside0.mk (below_step (by repeat (first | (with_reducible first | exact HB.out | apply below_alloc | apply pw_below_drewN | apply below_drew1 | refine below_set ?_ GE238.out | refine below_set ?_ GE239.out | refine below_set ?_ GE240.out) | exact HB.out)) hb); clear BK238; clear BK239; clear BK240; clear HB; have BK238 := n0_; have BK239 := n1_; have BK240 := n2_; have HB := n3_; clear n0_ n1_ n2_ n3_; (try clear hb); (try clear hb2); (try clear hk); (try clear hi); have hcz204_0 : w203.cell? ⟨gb238, 0, none⟩ = some (.string a0_0) := (blk_cell BK238.out 0).trans rfl; have hcz204_1 : w203.cell? ⟨gb238, 1, none⟩ = some (.int .i64 a0_1) := (blk_cell BK238.out 1).trans rfl; have hcz204_2 : w203.cell? ⟨gb238, 2, none⟩ = some (.int .u64 a0_2) := (blk_cell BK238.out 2).trans rfl; have hcz204_3 : w203.cell? ⟨gb238, 3, none⟩ = some (.int .u64 a0_3) := (blk_cell BK238.out 3).trans rfl; have hfz204_0 := blk_frozen BK238.out 0; have hfz204_1 := blk_frozen BK238.out 1; have hfz204_2 := blk_frozen BK238.out 2; have hfz204_3 := blk_frozen BK238.out 3) | (go_at_call 13; (with_reducible refine (best_Ahead.calls kj36 a0_0 a0_1 a0_2 a0_3 a0_0 a0_1 a0_2 a0_3 true _ A196.out).mono ?_); rintro e w205 ⟨rfl, hb⟩; have n0_ := Aside0.mk (blk_below (g := gb238) (o := .cells #[.string a0_0, .int .i64 a0_1, .int .u64 a0_2, .int .u64 a0_3] 27 (0, 0)) (by (with_reducible repeat (first | refine blk_drewN ?_ _ | refine blk_drew ?_ | refine blk_alloc ?_ _)); exact BK238.out) hb); have n1_ := Aside0.mk (blk_below (g := gb239) (o := .cells #[.string a1_0, .int .i64 a1_1, .int .u64 a1_2, .int .u64 a1_3] 27 (0, 0)) (by (with_reducible repeat (first | refine blk_drewN ?_ _ | refine blk_drew ?_ | refine blk_alloc ?_ _)); exact BK239.out) hb); have n2_ := Aside0.mk (blk_below (g := gb240) (o := .cells #[.string a2_0, .int .i64 a2_1, .int .u64 a2_2, .int .u64 a2_3] 27 (0, 0)) (by (with_reducible repeat (first | refine blk_drewN ?_ _ | refine blk_drew ?_ | refine blk_alloc ?_ _)); exact BK240.out) hb); have n3_ := Aside0.mk (below_step (by repeat (first | (with_reducible first | exact HB.out | apply below_alloc | apply pw_below_drewN | apply below_drew1 | refine below_set ?_ GE238.out | refine below_set ?_ GE239.out | refine below_set ?_ GE240.out) | exact HB.out)) hb); clear BK238; clear BK239; clear BK240; clear HB; have BK238 := n0_; have BK239 := n1_; have BK240 := n2_; have HB := n3_; clear n0_ n1_ n2_ n3_; (try clear hb); (try clear hb2); (try clear hk); (try clear hi)))
                        go_ret
                        exact ⟨by first | rfl | (simp [errW_none, errW_some] <;> rfl) | (simp [*, errW_none, errW_some] <;> rfl), by repeat (first | (with_reducible first | exact HB.out | apply below_alloc | apply pw_below_drewN | apply below_drew1 | refine below_set ?_ GE238.out | refine below_set ?_ GE239.out | refine below_set ?_ GE240.out) | exact HB.out)⟩
                      · replace c197 := Bool.eq_false_iff.mpr c197
                        subst c197
                        have H1 : ((best_Sooner.f a0_0 a0_1 a0_2 a0_3 a0_0 a0_1 a0_2 a0_3).bind fun t261 => (some (!t261))) = some r := by rw [if_neg (show ¬ (false = true) by decide)] at H; exact H
                        clear H
                        have H := H1
                        clear H1
                        replace H := Option.bind_eq_some_iff.mp H
                        obtain ⟨t261, A2060, H⟩ := H
                        replace H : (some (!t261)) = some r := H
                        have A206 := Aside0.mk A2060
                        clear A2060
                        obtain rfl := Option.some.inj H
                        have hnb207 := NB238_239.out
                        have hnc207 := NB239_238.out
                        have hnb208 := NB238_240.out
                        have hnc208 := NB240_238.out
                        have hcz209_0 : wc.cell? ⟨gb238, 0, none⟩ = some (.string a0_0) := (blk_cell BK238.out 0).trans rfl
                        have hcz209_1 : wc.cell? ⟨gb238, 1, none⟩ = some (.int .i64 a0_1) := (blk_cell BK238.out 1).trans rfl
                        have hcz209_2 : wc.cell? ⟨gb238, 2, none⟩ = some (.int .u64 a0_2) := (blk_cell BK238.out 2).trans rfl
                        have hcz209_3 : wc.cell? ⟨gb238, 3, none⟩ = some (.int .u64 a0_3) := (blk_cell BK238.out 3).trans rfl
                        have hfz209_0 := blk_frozen BK238.out 0
                        have hfz209_1 := blk_frozen BK238.out 1
                        have hfz209_2 := blk_frozen BK238.out 2
                        have hfz209_3 := blk_frozen BK238.out 3
                        have hnb210 := NB239_240.out
                        have hnc210 := NB240_239.out
                        have hcz211_0 : wc.cell? ⟨gb239, 0, none⟩ = some (.string a1_0) := (blk_cell BK239.out 0).trans rfl
                        have hcz211_1 : wc.cell? ⟨gb239, 1, none⟩ = some (.int .i64 a1_1) := (blk_cell BK239.out 1).trans rfl
                        have hcz211_2 : wc.cell? ⟨gb239, 2, none⟩ = some (.int .u64 a1_2) := (blk_cell BK239.out 2).trans rfl
                        have hcz211_3 : wc.cell? ⟨gb239, 3, none⟩ = some (.int .u64 a1_3) := (blk_cell BK239.out 3).trans rfl
                        have hfz211_0 := blk_frozen BK239.out 0
                        have hfz211_1 := blk_frozen BK239.out 1
                        have hfz211_2 := blk_frozen BK239.out 2
                        have hfz211_3 := blk_frozen BK239.out 3
                        go_wp2_with (first | ((with_reducible refine gate_callee (f := 15) rfl ?_); refine goesL_ (some 56) rfl rfl Try.func15 (by kernel_rfl) rfl #[.agg #[.string a0_0, .int .i64 a0_1, .int .u64 a0_2, .int .u64 a0_3], .agg #[.string a1_0, .int .i64 a1_1, .int .u64 a1_2, .int .u64 a1_3]] rfl (by (try simp only [List.map_toArray, List.map_cons, List.map_nil]); first | done | rfl | (simp only [List.length_drop, List.length_take]; rfl)) ?_; (with_reducible refine (best_Sooner.calls a0_0 a0_1 a0_2 a0_3 a1_0 a1_1 a1_2 a1_3 false _ A70.out).mono ?_); rintro e w212 ⟨rfl, hb⟩; refine ⟨_, rfl, ?_⟩; have n0_ := Aside0.mk (blk_below (g := gb238) (o := .cells #[.string a0_0, .int .i64 a0_1, .int .u64 a0_2, .int .u64 a0_3] 27 (0, 0)) (by (with_reducible repeat (first | refine blk_drewN ?_ _ | refine blk_drew ?_ | refine blk_alloc ?_ _)); exact BK238.out) hb); have n1_ := Aside0.mk (blk_below (g := gb239) (o := .cells #[.string a1_0, .int .i64 a1_1, .int .u64 a1_2, .int .u64 a1_3] 27 (0, 0)) (by (with_reducible repeat (first | refine blk_drewN ?_ _ | refine blk_drew ?_ | refine blk_alloc ?_ _)); exact BK239.out) hb); have n2_ := Aside0.mk (blk_below (g := gb240) (o := .cells #[.string a2_0, .int .i64 a2_1, .int .u64 a2_2, .int .u64 a2_3] 27 (0, 0)) (by (with_reducible repeat (first | refine blk_drewN ?_ _ | refine blk_drew ?_ | refine blk_alloc ?_ _)); exact BK240.out) hb); have n3_ := Aside0.mk (below_step (by repeat (first | (with_reducible first | exact HB.out | apply below_alloc | apply pw_below_drewN | apply below_drew1 | refine below_set ?_ GE238.out | refine below_set ?_ GE239.out | refine below_set ?_ GE240.out) | exact HB.out)) hb); clear BK238; clear BK239; clear BK240; clear HB; have BK238 := n0_; have BK239 := n1_; have BK240 := n2_; have HB := n3_; clear n0_ n1_ n2_ n3_; (try clear hb); (try clear hb2); (try clear hk); (try clear hi); have hcz213_0 : w212.cell? ⟨gb238, 0, none⟩ = some (.string a0_0) := (blk_cell BK238.out 0).trans rfl; have hcz213_1 : w212.cell? ⟨gb238, 1, none⟩ = some (.int .i64 a0_1) := (blk_cell BK238.out 1).trans rfl; have hcz213_2 : w212.cell? ⟨gb238, 2, none⟩ = some (.int .u64 a0_2) := (blk_cell BK238.out 2).trans rfl; have hcz213_3 : w212.cell? ⟨gb238, 3, none⟩ = some (.int .u64 a0_3) := (blk_cell BK238.out 3).trans rfl; have hfz213_0 := blk_frozen BK238.out 0; have hfz213_1 := blk_frozen BK238.out 1; have hfz213_2 := blk_frozen BK238.out 2; have hfz213_3 := blk_frozen BK238.out 3) | (go_at_call 13; (with_reducible refine (best_Ahead.calls kj36 a0_0 a0_1 a0_2 a0_3 a0_0 a0_1 a0_2 a0_3 false _ A196.out).mono ?_); rintro e w214 ⟨rfl, hb⟩; have n0_ := Aside0.mk (blk_below (g := gb238) (o := .cells #[.string a0_0, .int .i64 a0_1, .int .u64 a0_2, .int .u64 a0_3] 27 (0, 0)) (by (with_reducible repeat (first | refine blk_drewN ?_ _ | refine blk_drew ?_ | refine blk_alloc ?_ _)); exact BK238.out) hb); have n1_ := Aside0.mk (blk_below (g := gb239) (o := .cells #[.string a1_0, .int .i64 a1_1, .int .u64 a1_2, .int .u64 a1_3] 27 (0, 0)) (by (with_reducible repeat (first | refine blk_drewN ?_ _ | refine blk_drew ?_ | refine blk_alloc ?_ _)); exact BK239.out) hb); have n2_ := Aside0.mk (blk_below (g := gb240) (o := .cells #[.string a2_0, .int .i64 a2_1, .int .u64 a2_2, .int .u64 a2_3] 27 (0, 0)) (by (with_reducible repeat (first | refine blk_drewN ?_ _ | refine blk_drew ?_ | refine blk_alloc ?_ _)); exact BK240.out) hb); have n3_ := Aside0.mk (below_step (by repeat (first | (with_reducible first | exact HB.out | apply below_alloc | apply pw_below_drewN | apply below_drew1 | refine below_set ?_ GE238.out | refine below_set ?_ GE239.out | refine below_set ?_ GE240.out) | exact HB.out)) hb); clear BK238; clear BK239; clear BK240; clear HB; have BK238 := n0_; have BK239 := n1_; have BK240 := n2_; have HB := n3_; clear n0_ n1_ n2_ n3_; (try clear hb); (try clear hb2); (try clear hk); (try clear hi); have hcz215_0 : w214.cell? ⟨gb238, 0, none⟩ = some (.string a0_0) := (blk_cell BK238.out 0).trans rfl; have hcz215_1 : w214.cell? ⟨gb238, 1, none⟩ = some (.int .i64 a0_1) := (blk_cell BK238.out 1).trans rfl; have hcz215_2 : w214.cell? ⟨gb238, 2, none⟩ = some (.int .u64 a0_2) := (blk_cell BK238.out 2).trans rfl; have hcz215_3 : w214.cell? ⟨gb238, 3, none⟩ = some (.int .u64 a0_3) := (blk_cell BK238.out 3).trans rfl; have hfz215_0 := blk_frozen BK238.out 0; have hfz215_1 := blk_frozen BK238.out 1; have hfz215_2 := blk_frozen BK238.out 2; have hfz215_3 := blk_frozen BK238.out 3) | (go_at_call 15; (with_reducible refine (best_Sooner.calls a0_0 a0_1 a0_2 a0_3 a0_0 a0_1 a0_2 a0_3 t261 _ A206.out).mono ?_); rintro e w216 ⟨rfl, hb⟩; have n0_ := Aside0.mk (blk_below (g := gb238) (o := .cells #[.string a0_0, .int .i64 a0_1, .int .u64 a0_2, .int .u64 a0_3] 27 (0, 0)) (by (with_reducible repeat (first | refine blk_drewN ?_ _ | refine blk_drew ?_ | refine blk_alloc ?_ _)); exact BK238.out) hb); have n1_ := Aside0.mk (blk_below (g := gb239) (o := .cells #[.string a1_0, .int .i64 a1_1, .int .u64 a1_2, .int .u64 a1_3] 27 (0, 0)) (by (with_reducible repeat (first | refine blk_drewN ?_ _ | refine blk_drew ?_ | refine blk_alloc ?_ _)); exact BK239.out) hb); have n2_ := Aside0.mk (blk_below (g := gb240) (o := .cells #[.string a2_0, .int .i64 a2_1, .int .u64 a2_2, .int .u64 a2_3] 27 (0, 0)) (by (with_reducible repeat (first | refine blk_drewN ?_ _ | refine blk_drew ?_ | refine blk_alloc ?_ _)); exact BK240.out) hb); have n3_ := Aside0.mk (below_step (by repeat (first | (with_reducible first | exact HB.out | apply below_alloc | apply pw_below_drewN | apply below_drew1 | refine below_set ?_ GE238.out | refine below_set ?_ GE239.out | refine below_set ?_ GE240.out) | exact HB.out)) hb); clear BK238; clear BK239; clear BK240; clear HB; have BK238 := n0_; have BK239 := n1_; have BK240 := n2_; have HB := n3_; clear n0_ n1_ n2_ n3_; (try clear hb); (try clear hb2); (try clear hk); (try clear hi)))
                        go_ret
                        exact ⟨by first | rfl | (simp [errW_none, errW_some] <;> rfl) | (simp [*, errW_none, errW_some] <;> rfl), by repeat (first | (with_reducible first | exact HB.out | apply below_alloc | apply pw_below_drewN | apply below_drew1 | refine below_set ?_ GE238.out | refine below_set ?_ GE239.out | refine below_set ?_ GE240.out) | exact HB.out)⟩
                    · replace c195 := Bool.eq_false_iff.mpr c195
                      subst c195
                      have H1 : (some false) = some r := by rw [if_neg (show ¬ (false = true) by decide)] at H; exact H
                      clear H
                      have H := H1
                      clear H1
                      obtain rfl := Option.some.inj H
                      have hnb217 := NB238_239.out
                      have hnc217 := NB239_238.out
                      have hnb218 := NB238_240.out
                      have hnc218 := NB240_238.out
                      have hcz219_0 : wc.cell? ⟨gb238, 0, none⟩ = some (.string a0_0) := (blk_cell BK238.out 0).trans rfl
                      have hcz219_1 : wc.cell? ⟨gb238, 1, none⟩ = some (.int .i64 a0_1) := (blk_cell BK238.out 1).trans rfl
                      have hcz219_2 : wc.cell? ⟨gb238, 2, none⟩ = some (.int .u64 a0_2) := (blk_cell BK238.out 2).trans rfl
                      have hcz219_3 : wc.cell? ⟨gb238, 3, none⟩ = some (.int .u64 a0_3) := (blk_cell BK238.out 3).trans rfl
                      have hfz219_0 := blk_frozen BK238.out 0
                      have hfz219_1 := blk_frozen BK238.out 1
                      have hfz219_2 := blk_frozen BK238.out 2
                      have hfz219_3 := blk_frozen BK238.out 3
                      have hnb220 := NB239_240.out
                      have hnc220 := NB240_239.out
                      have hcz221_0 : wc.cell? ⟨gb239, 0, none⟩ = some (.string a1_0) := (blk_cell BK239.out 0).trans rfl
                      have hcz221_1 : wc.cell? ⟨gb239, 1, none⟩ = some (.int .i64 a1_1) := (blk_cell BK239.out 1).trans rfl
                      have hcz221_2 : wc.cell? ⟨gb239, 2, none⟩ = some (.int .u64 a1_2) := (blk_cell BK239.out 2).trans rfl
                      have hcz221_3 : wc.cell? ⟨gb239, 3, none⟩ = some (.int .u64 a1_3) := (blk_cell BK239.out 3).trans rfl
                      have hfz221_0 := blk_frozen BK239.out 0
                      have hfz221_1 := blk_frozen BK239.out 1
                      have hfz221_2 := blk_frozen BK239.out 2
                      have hfz221_3 := blk_frozen BK239.out 3
                      go_wp2_with (first | ((with_reducible refine gate_callee (f := 15) rfl ?_); refine goesL_ (some 56) rfl rfl Try.func15 (by kernel_rfl) rfl #[.agg #[.string a0_0, .int .i64 a0_1, .int .u64 a0_2, .int .u64 a0_3], .agg #[.string a1_0, .int .i64 a1_1, .int .u64 a1_2, .int .u64 a1_3]] rfl (by (try simp only [List.map_toArray, List.map_cons, List.map_nil]); first | done | rfl | (simp only [List.length_drop, List.length_take]; rfl)) ?_; (with_reducible refine (best_Sooner.calls a0_0 a0_1 a0_2 a0_3 a1_0 a1_1 a1_2 a1_3 false _ A70.out).mono ?_); rintro e w222 ⟨rfl, hb⟩; refine ⟨_, rfl, ?_⟩; have n0_ := Aside0.mk (blk_below (g := gb238) (o := .cells #[.string a0_0, .int .i64 a0_1, .int .u64 a0_2, .int .u64 a0_3] 27 (0, 0)) (by (with_reducible repeat (first | refine blk_drewN ?_ _ | refine blk_drew ?_ | refine blk_alloc ?_ _)); exact BK238.out) hb); have n1_ := Aside0.mk (blk_below (g := gb239) (o := .cells #[.string a1_0, .int .i64 a1_1, .int .u64 a1_2, .int .u64 a1_3] 27 (0, 0)) (by (with_reducible repeat (first | refine blk_drewN ?_ _ | refine blk_drew ?_ | refine blk_alloc ?_ _)); exact BK239.out) hb); have n2_ := Aside0.mk (blk_below (g := gb240) (o := .cells #[.string a2_0, .int .i64 a2_1, .int .u64 a2_2, .int .u64 a2_3] 27 (0, 0)) (by (with_reducible repeat (first | refine blk_drewN ?_ _ | refine blk_drew ?_ | refine blk_alloc ?_ _)); exact BK240.out) hb); have n3_ := Aside0.mk (below_step (by repeat (first | (with_reducible first | exact HB.out | apply below_alloc | apply pw_below_drewN | apply below_drew1 | refine below_set ?_ GE238.out | refine below_set ?_ GE239.out | refine below_set ?_ GE240.out) | exact HB.out)) hb); clear BK238; clear BK239; clear BK240; clear HB; have BK238 := n0_; have BK239 := n1_; have BK240 := n2_; have HB := n3_; clear n0_ n1_ n2_ n3_; (try clear hb); (try clear hb2); (try clear hk); (try clear hi)))
                      go_ret
                      exact ⟨by first | rfl | (simp [errW_none, errW_some] <;> rfl) | (simp [*, errW_none, errW_some] <;> rfl), by repeat (first | (with_reducible first | exact HB.out | apply below_alloc | apply pw_below_drewN | apply below_drew1 | refine below_set ?_ GE238.out | refine below_set ?_ GE239.out | refine below_set ?_ GE240.out) | exact HB.out)⟩
                  · replace c194 := Bool.eq_false_iff.mpr c194
                    subst c194
                    have H1 : (some false) = some r := by rw [if_neg (show ¬ (false = true) by decide)] at H; exact H
                    clear H
                    have H := H1
                    clear H1
                    obtain rfl := Option.some.inj H
                    have hnb223 := NB238_239.out
                    have hnc223 := NB239_238.out
                    have hnb224 := NB238_240.out
                    have hnc224 := NB240_238.out
                    have hcz225_0 : wc.cell? ⟨gb238, 0, none⟩ = some (.string a0_0) := (blk_cell BK238.out 0).trans rfl
                    have hcz225_1 : wc.cell? ⟨gb238, 1, none⟩ = some (.int .i64 a0_1) := (blk_cell BK238.out 1).trans rfl
                    have hcz225_2 : wc.cell? ⟨gb238, 2, none⟩ = some (.int .u64 a0_2) := (blk_cell BK238.out 2).trans rfl
                    have hcz225_3 : wc.cell? ⟨gb238, 3, none⟩ = some (.int .u64 a0_3) := (blk_cell BK238.out 3).trans rfl
                    have hfz225_0 := blk_frozen BK238.out 0
                    have hfz225_1 := blk_frozen BK238.out 1
                    have hfz225_2 := blk_frozen BK238.out 2
                    have hfz225_3 := blk_frozen BK238.out 3
                    have hnb226 := NB239_240.out
                    have hnc226 := NB240_239.out
                    have hcz227_0 : wc.cell? ⟨gb239, 0, none⟩ = some (.string a1_0) := (blk_cell BK239.out 0).trans rfl
                    have hcz227_1 : wc.cell? ⟨gb239, 1, none⟩ = some (.int .i64 a1_1) := (blk_cell BK239.out 1).trans rfl
                    have hcz227_2 : wc.cell? ⟨gb239, 2, none⟩ = some (.int .u64 a1_2) := (blk_cell BK239.out 2).trans rfl
                    have hcz227_3 : wc.cell? ⟨gb239, 3, none⟩ = some (.int .u64 a1_3) := (blk_cell BK239.out 3).trans rfl
                    have hfz227_0 := blk_frozen BK239.out 0
                    have hfz227_1 := blk_frozen BK239.out 1
                    have hfz227_2 := blk_frozen BK239.out 2
                    have hfz227_3 := blk_frozen BK239.out 3
                    go_wp2_with (first | ((with_reducible refine gate_callee (f := 15) rfl ?_); refine goesL_ (some 56) rfl rfl Try.func15 (by kernel_rfl) rfl #[.agg #[.string a0_0, .int .i64 a0_1, .int .u64 a0_2, .int .u64 a0_3], .agg #[.string a1_0, .int .i64 a1_1, .int .u64 a1_2, .int .u64 a1_3]] rfl (by (try simp only [List.map_toArray, List.map_cons, List.map_nil]); first | done | rfl | (simp only [List.length_drop, List.length_take]; rfl)) ?_; (with_reducible refine (best_Sooner.calls a0_0 a0_1 a0_2 a0_3 a1_0 a1_1 a1_2 a1_3 false _ A70.out).mono ?_); rintro e w228 ⟨rfl, hb⟩; refine ⟨_, rfl, ?_⟩; have n0_ := Aside0.mk (blk_below (g := gb238) (o := .cells #[.string a0_0, .int .i64 a0_1, .int .u64 a0_2, .int .u64 a0_3] 27 (0, 0)) (by (with_reducible repeat (first | refine blk_drewN ?_ _ | refine blk_drew ?_ | refine blk_alloc ?_ _)); exact BK238.out) hb); have n1_ := Aside0.mk (blk_below (g := gb239) (o := .cells #[.string a1_0, .int .i64 a1_1, .int .u64 a1_2, .int .u64 a1_3] 27 (0, 0)) (by (with_reducible repeat (first | refine blk_drewN ?_ _ | refine blk_drew ?_ | refine blk_alloc ?_ _)); exact BK239.out) hb); have n2_ := Aside0.mk (blk_below (g := gb240) (o := .cells #[.string a2_0, .int .i64 a2_1, .int .u64 a2_2, .int .u64 a2_3] 27 (0, 0)) (by (with_reducible repeat (first | refine blk_drewN ?_ _ | refine blk_drew ?_ | refine blk_alloc ?_ _)); exact BK240.out) hb); have n3_ := Aside0.mk (below_step (by repeat (first | (with_reducible first | exact HB.out | apply below_alloc | apply pw_below_drewN | apply below_drew1 | refine below_set ?_ GE238.out | refine below_set ?_ GE239.out | refine below_set ?_ GE240.out) | exact HB.out)) hb); clear BK238; clear BK239; clear BK240; clear HB; have BK238 := n0_; have BK239 := n1_; have BK240 := n2_; have HB := n3_; clear n0_ n1_ n2_ n3_; (try clear hb); (try clear hb2); (try clear hk); (try clear hi)))
                    go_ret
                    exact ⟨by first | rfl | (simp [errW_none, errW_some] <;> rfl) | (simp [*, errW_none, errW_some] <;> rfl), by repeat (first | (with_reducible first | exact HB.out | apply below_alloc | apply pw_below_drewN | apply below_drew1 | refine below_set ?_ GE238.out | refine below_set ?_ GE239.out | refine below_set ?_ GE240.out) | exact HB.out)⟩

end Go.Proofs.Ytkdbfeapfcflmaa.T
