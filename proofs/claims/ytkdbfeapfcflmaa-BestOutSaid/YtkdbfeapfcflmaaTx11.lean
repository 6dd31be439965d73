/- Written by hp.py, this session's own program, out of the translation of this seat: Lean functions for the Go functions, and the proof that each call comes to what its Lean function says. -/
import Derived.Test.YtkdbfeapfcflmaaTx0
import Derived.Test.YtkdbfeapfcflmaaTx2
namespace Go.Proofs.Ytkdbfeapfcflmaa.T
open Go.RowKit Go.Proofs.YtkdbfeapfcflmaaW.PrintWords Go.Proofs.YtkdbfeapfcflmaaW.PrintLast Go.Proofs.YtkdbfeapfcflmaaW.PrintMore
attribute [local go_sem] max2_int min2_int max_two min_two max_three min_three max_four min_four   -- for this text's walks alone
set_option linter.unusedVariables false
set_option linter.unusedSimpArgs false

attribute [local go_sem high] eqA27
/-! ### catchwordlaw20_find: function 22 -/
def catchwordlaw20_find.l0 : Nat → List (S27) → Int → ByteArray → Int → Int → Int → Option (Int)
  | 0, _, _, _, _, _, _ => none
  | k + 1, x0, x5, x263000, x263001, x263002, x263003 => if x5 < (x0.length : Int) then (if 0 ≤ x5 then (if ((((rd_T27 x0 x5).f0).toList) == x263000.toList && (((rd_T27 x0 x5).f1) == x263001 && ((((rd_T27 x0 x5).f2.f0) == x263002 && (((rd_T27 x0 x5).f2.f1) == x263003))))) = true then (some x5) else (catchwordlaw20_find.l0 k x0 (wrap64 (x5 + 1)) x263000 x263001 x263002 x263003)) else (none)) else (some (-1))
def catchwordlaw20_find.f (k : Nat) (l0 : List (S27)) (a1_0 : ByteArray) (a1_1 : Int) (a1_2 : Int) (a1_3 : Int) : Option (Int) := catchwordlaw20_find.l0 k l0 0 a1_0 a1_1 a1_2 a1_3
theorem catchwordlaw20_find.mono_l : ∀ k, (∀ y0 y1 y2 y3 y4 y5, LeO (catchwordlaw20_find.l0 k y0 y1 y2 y3 y4 y5) (catchwordlaw20_find.l0 (k + 1) y0 y1 y2 y3 y4 y5))
  | 0 => fun _ _ _ _ _ _ r h => by simp [catchwordlaw20_find.l0] at h
  | k + 1 => by
    have ih0 := catchwordlaw20_find.mono_l k
    · intro y0 y1 y2 y3 y4 y5
      unfold catchwordlaw20_find.l0
      repeat' first
      | (with_reducible exact ih0 _ _ _ _ _ _)
      | (with_reducible exact LeO.refl _)
      | (with_reducible exact LeO.none _)
      | (with_reducible refine LeO.ite ?_ ?_)
      | (with_reducible refine LeO.bind ?_ (fun _ => ?_))
      | exact ih0 _ _ _ _ _ _
      | exact LeO.none _
      | refine LeO.ite ?_ ?_
      | refine LeO.bind ?_ (fun _ => ?_)
theorem catchwordlaw20_find.mono : ∀ a0 a1 a2 a3 a4 k, LeO (catchwordlaw20_find.f k a0 a1 a2 a3 a4) (catchwordlaw20_find.f (k + 1) a0 a1 a2 a3 a4) := by
  intro a0 a1 a2 a3 a4 k
  have ih0 := catchwordlaw20_find.mono_l k
  unfold catchwordlaw20_find.f
  repeat' first
      | (with_reducible exact ih0 _ _ _ _ _ _)
      | (with_reducible exact LeO.refl _)
      | (with_reducible exact LeO.none _)
      | (with_reducible refine LeO.ite ?_ ?_)
      | (with_reducible refine LeO.bind ?_ (fun _ => ?_))
      | exact ih0 _ _ _ _ _ _
      | exact LeO.none _
      | refine LeO.ite ?_ ?_
      | refine LeO.bind ?_ (fun _ => ?_)
set_option maxHeartbeats 8000000 in
set_option maxRecDepth 100000 in
theorem catchwordlaw20_find.calls (k : Nat) (A0 : Option Addr) (c0 : Nat) (l0 : List (S27)) (a1_0 : ByteArray) (a1_1 : Int) (a1_2 : Int) (a1_3 : Int) (r : Int) (w : World) (hr0 : Kd.C k27 w A0 l0.length l0) (hc0 : l0.length ≤ c0) (h : catchwordlaw20_find.f k l0 a1_0 a1_1 a1_2 a1_3 = some r) :
    Calls Try.prog 22 #[.slice A0 l0.length c0, .agg #[.string a1_0, .int .i64 a1_1, .int .u64 a1_2, .int .u64 a1_3]] w fun e w' => e = .returned (.int .i64 r) ∧ Below w.heap.size w w' := by
  have hu27 := Try.underlying27
  have HR0 := Aside0.mk hr0
  have HC0 := Aside0.mk hc0
  clear hr0 hc0
  have HB := Aside0.mk (Below.refl w.heap.size w)
  have H : (catchwordlaw20_find.l0 k l0 0 a1_0 a1_1 a1_2 a1_3) = some r := h
  clear h
  have H' := Aside0.mk H
  clear H
  go_enter Try.func22, Try.ntmps22
  go_wp2_with (first | ((with_reducible refine gate_dst (N := 3) rfl ?_); refine box_event ?hg (N := 3) ?hd (cs := #[.string a1_0, .int .i64 a1_1, .int .u64 a1_2, .int .u64 a1_3]) (t := 27) ?hr ?_; (case hd => rfl); (case hg => rfl); (case hr => first | (go_simp; done) | (go_simp; rfl)); intro gb262 hg w3 hbox hb; have n0_ := Aside0.mk (below_step (by repeat (first | (with_reducible first | exact HB.out | apply below_alloc | apply pw_below_drewN | apply below_drew1) | exact HB.out)) hb); have n1_ := Aside0.mk (hbox); have n2_ := Aside0.mk ((by rw [hg]; exact (below_size (by repeat (first | (with_reducible first | exact HB.out | apply below_alloc | apply pw_below_drewN | apply below_drew1) | exact HB.out))) : w.heap.size ≤ gb262)); have n3_ := Aside0.mk ((by rw [hg]; exact (below_size (by repeat (first | (with_reducible first | exact HB.out | apply below_alloc | apply pw_below_drewN | apply below_drew1) | exact HB.out))) : w.heap.size ≤ gb262)); clear HB; have HB := n0_; have BK262 := n1_; have GW262 := n2_; have GE262 := n3_; clear n0_ n1_ n2_ n3_; clear hb hbox hg))
  repeat (go_quiet (first | ((with_reducible refine gate_dst (N := 3) rfl ?_); refine box_event ?hg (N := 3) ?hd (cs := #[.string a1_0, .int .i64 a1_1, .int .u64 a1_2, .int .u64 a1_3]) (t := 27) ?hr ?_; (case hd => rfl); (case hg => rfl); (case hr => first | (go_simp; done) | (go_simp; rfl)); intro gb262 hg w3 hbox hb; have n0_ := Aside0.mk (below_step (by repeat (first | (with_reducible first | exact HB.out | apply below_alloc | apply pw_below_drewN | apply below_drew1) | exact HB.out)) hb); have n1_ := Aside0.mk (hbox); have n2_ := Aside0.mk ((by rw [hg]; exact (below_size (by repeat (first | (with_reducible first | exact HB.out | apply below_alloc | apply pw_below_drewN | apply below_drew1) | exact HB.out))) : w.heap.size ≤ gb262)); have n3_ := Aside0.mk ((by rw [hg]; exact (below_size (by repeat (first | (with_reducible first | exact HB.out | apply below_alloc | apply pw_below_drewN | apply below_drew1) | exact HB.out))) : w.heap.size ≤ gb262)); clear HB; have HB := n0_; have BK262 := n1_; have GW262 := n2_; have GE262 := n3_; clear n0_ n1_ n2_ n3_; clear hb hbox hg)); try go_wp2_with (first | ((with_reducible refine gate_dst (N := 3) rfl ?_); refine box_event ?hg (N := 3) ?hd (cs := #[.string a1_0, .int .i64 a1_1, .int .u64 a1_2, .int .u64 a1_3]) (t := 27) ?hr ?_; (case hd => rfl); (case hg => rfl); (case hr => first | (go_simp; done) | (go_simp; rfl)); intro gb262 hg w3 hbox hb; have n0_ := Aside0.mk (below_step (by repeat (first | (with_reducible first | exact HB.out | apply below_alloc | apply pw_below_drewN | apply below_drew1) | exact HB.out)) hb); have n1_ := Aside0.mk (hbox); have n2_ := Aside0.mk ((by rw [hg]; exact (below_size (by repeat (first | (with_reducible first | exact HB.out | apply below_alloc | apply pw_below_drewN | apply below_drew1) | exact HB.out))) : w.heap.size ≤ gb262)); have n3_ := Aside0.mk ((by rw [hg]; exact (below_size (by repeat (first | (with_reducible first | exact HB.out | apply below_alloc | apply pw_below_drewN | apply below_drew1) | exact HB.out))) : w.heap.size ≤ gb262)); clear HB; have HB := n0_; have BK262 := n1_; have GW262 := n2_; have GE262 := n3_; clear n0_ n1_ n2_ n3_; clear hb hbox hg)))
  go_loopg [5] k (fun kq v5 w' => ∃ (x5_1 : Int), v5 = .int .i64 x5_1 ∧ Aside0 (catchwordlaw20_find.l0 kq l0 x5_1 a1_0 a1_1 a1_2 a1_3 = some r) ∧ Aside0 (kq ≤ k) ∧ Aside0 (w'.heap[gb262]? = some (.cells #[.string a1_0, .int .i64 a1_1, .int .u64 a1_2, .int .u64 a1_3] 27 (0, 0))) ∧ Aside0 (Below w.heap.size w w'))
  case atStart => exact ⟨(0), (by first | rfl | (simp; done) | (simp [*]; done)), H', ⟨Nat.le_refl _⟩, ⟨by (with_reducible repeat (first | refine blk_drewN ?_ _ | refine blk_drew ?_ | refine blk_alloc ?_ _)); exact BK262.out⟩, ⟨by repeat (first | (with_reducible first | exact HB.out | apply below_alloc | apply pw_below_drewN | apply below_drew1 | refine below_set ?_ GE262.out) | exact HB.out)⟩⟩
  case round =>
    clear H'
    try clear c2
    try clear p2
    obtain ⟨x5_1, rfl, HA, HK1, BK262, HB⟩ := hrel
    cases gk with
    | zero => exact absurd HA.out (by simp [catchwordlaw20_find.l0])
    | succ k1 =>
      have H := HA.out
      clear HA
      simp only [catchwordlaw20_find.l0] at H
      by_cases c4 : x5_1 < (l0.length : Int)
      · rw [if_pos c4] at H
        have c4b0 : decide (x5_1 < (l0.length : Int)) = true := decide_eq_true c4
        clear c4
        by_cases c5 : 0 ≤ x5_1
        · rw [if_pos c5] at H
          have c5b0 : decide (0 ≤ x5_1) = true := decide_eq_true c5
          clear c5
          by_cases c6 : ((((rd_T27 l0 x5_1).f0).toList) == a1_0.toList && (((rd_T27 l0 x5_1).f1) == a1_1 && ((((rd_T27 l0 x5_1).f2.f0) == a1_2 && (((rd_T27 l0 x5_1).f2.f1) == a1_3))))) = true
          · rw [if_pos c6] at H
            have c6b0 : ((((rd_T27 l0 x5_1).f0).toList) == a1_0.toList && (((rd_T27 l0 x5_1).f1) == a1_1 && ((((rd_T27 l0 x5_1).f2.f0) == a1_2 && (((rd_T27 l0 x5_1).f2.f1) == a1_3))))) = true := c6
            (try (have c6b1 : decide ((((rd_T27 l0 x5_1).f0).toList) = a1_0.toList && (((rd_T27 l0 x5_1).f1) == a1_1 && ((((rd_T27 l0 x5_1).f2.f0) == a1_2 && (((rd_T27 l0 x5_1).f2.f1) == a1_3))))) = true := by simpa using c6))
            (try (have c6b2 : ((((rd_T27 l0 x5_1).f0).toList) == a1_0.toList && (((rd_T27 l0 x5_1).f1) == a1_1 && ((((rd_T27 l0 x5_1).f2.f0) == a1_2 && (((rd_T27 l0 x5_1).f2.f1) == a1_3))))) = true := by simpa using c6))
            clear c6
            obtain rfl := Option.some.inj H
            have p263 : 0 ≤ (x5_1 : Int) := of_decide_eq_true (by first | (with_reducible assumption) | assumption)
            have q263 : x5_1 < (l0.length : Int) := of_decide_eq_true (by first | (with_reducible assumption) | assumption)
            obtain ⟨ad263, e263, hx263_0, hx263_1, hx263_2, hx263_3⟩ := at_T27 HR0.out x5_1 p263 q263
            cases e263
            replace hx263_0 := (HB.out.cell (World.block_lt_of_cell? w _ hx263_0)).trans hx263_0
            replace hx263_1 := (HB.out.cell (World.block_lt_of_cell? w _ hx263_1)).trans hx263_1
            replace hx263_2 := (HB.out.cell (World.block_lt_of_cell? w _ hx263_2)).trans hx263_2
            replace hx263_3 := (HB.out.cell (World.block_lt_of_cell? w _ hx263_3)).trans hx263_3
            replace p263 := eq_true p263
            replace q263 := eq_true q263
            have hcz7_0 : wr.cell? ⟨gb262, 0, none⟩ = some (.string a1_0) := (blk_cell BK262.out 0).trans rfl
            have hcz7_1 : wr.cell? ⟨gb262, 1, none⟩ = some (.int .i64 a1_1) := (blk_cell BK262.out 1).trans rfl
            have hcz7_2 : wr.cell? ⟨gb262, 2, none⟩ = some (.int .u64 a1_2) := (blk_cell BK262.out 2).trans rfl
            have hcz7_3 : wr.cell? ⟨gb262, 3, none⟩ = some (.int .u64 a1_3) := (blk_cell BK262.out 3).trans rfl
            have hfz7_0 := blk_frozen BK262.out 0
            have hfz7_1 := blk_frozen BK262.out 1
            have hfz7_2 := blk_frozen BK262.out 2
            have hfz7_3 := blk_frozen BK262.out 3
            go_wp2
            repeat (go_quiet (fail); try go_wp2)
            go_ret
            exact ⟨by first | rfl | (simp [errW_none, errW_some] <;> rfl) | (simp [*, errW_none, errW_some] <;> rfl), by repeat (first | (with_reducible first | exact HB.out | apply below_alloc | apply pw_below_drewN | apply below_drew1 | refine below_set ?_ GE262.out) | exact HB.out)⟩
          · rw [if_neg c6] at H
            have c6b0 : ((((rd_T27 l0 x5_1).f0).toList) == a1_0.toList && (((rd_T27 l0 x5_1).f1) == a1_1 && ((((rd_T27 l0 x5_1).f2.f0) == a1_2 && (((rd_T27 l0 x5_1).f2.f1) == a1_3))))) = false := by simpa using c6
            (try (have c6b1 : decide ((((rd_T27 l0 x5_1).f0).toList) = a1_0.toList && (((rd_T27 l0 x5_1).f1) == a1_1 && ((((rd_T27 l0 x5_1).f2.f0) == a1_2 && (((rd_T27 l0 x5_1).f2.f1) == a1_3))))) = false := by simpa using c6))
            (try (have c6b2 : ((((rd_T27 l0 x5_1).f0).toList) == a1_0.toList && (((rd_T27 l0 x5_1).f1) == a1_1 && ((((rd_T27 l0 x5_1).f2.f0) == a1_2 && (((rd_T27 l0 x5_1).f2.f1) == a1_3))))) = false := by simpa using c6))
            (try (have c6b3 : ¬ ((((rd_T27 l0 x5_1).f0).toList) = a1_0.toList && (((rd_T27 l0 x5_1).f1) == a1_1 && ((((rd_T27 l0 x5_1).f2.f0) == a1_2 && (((rd_T27 l0 x5_1).f2.f1) == a1_3))))) := by simpa using c6))
            clear c6
            have H' := Aside0.mk H
            clear H
            have p263 : 0 ≤ (x5_1 : Int) := of_decide_eq_true (by first | (with_reducible assumption) | assumption)
            have q263 : x5_1 < (l0.length : Int) := of_decide_eq_true (by first | (with_reducible assumption) | assumption)
            obtain ⟨ad263, e263, hx263_0, hx263_1, hx263_2, hx263_3⟩ := at_T27 HR0.out x5_1 p263 q263
            cases e263
            replace hx263_0 := (HB.out.cell (World.block_lt_of_cell? w _ hx263_0)).trans hx263_0
            replace hx263_1 := (HB.out.cell (World.block_lt_of_cell? w _ hx263_1)).trans hx263_1
            replace hx263_2 := (HB.out.cell (World.block_lt_of_cell? w _ hx263_2)).trans hx263_2
            replace hx263_3 := (HB.out.cell (World.block_lt_of_cell? w _ hx263_3)).trans hx263_3
            replace p263 := eq_true p263
            replace q263 := eq_true q263
            have hcz8_0 : wr.cell? ⟨gb262, 0, none⟩ = some (.string a1_0) := (blk_cell BK262.out 0).trans rfl
            have hcz8_1 : wr.cell? ⟨gb262, 1, none⟩ = some (.int .i64 a1_1) := (blk_cell BK262.out 1).trans rfl
            have hcz8_2 : wr.cell? ⟨gb262, 2, none⟩ = some (.int .u64 a1_2) := (blk_cell BK262.out 2).trans rfl
            have hcz8_3 : wr.cell? ⟨gb262, 3, none⟩ = some (.int .u64 a1_3) := (blk_cell BK262.out 3).trans rfl
            have hfz8_0 := blk_frozen BK262.out 0
            have hfz8_1 := blk_frozen BK262.out 1
            have hfz8_2 := blk_frozen BK262.out 2
            have hfz8_3 := blk_frozen BK262.out 3
            go_wp2
            repeat (go_quiet (fail); try go_wp2)
            go_roundg k1
            case measure => have := HK1.out; omega
            case rel => exact ⟨(wrap64 (x5_1 + 1)), (by first | rfl | (simp; done) | (simp [*]; done)), H', ⟨by have := HK1.out; omega⟩, ⟨by (with_reducible repeat (first | refine blk_drewN ?_ _ | refine blk_drew ?_ | refine blk_alloc ?_ _)); exact BK262.out⟩, ⟨by repeat (first | (with_reducible first | exact HB.out | apply below_alloc | apply pw_below_drewN | apply below_drew1 | refine below_set ?_ GE262.out) | exact HB.out)⟩⟩
        · rw [if_neg c5] at H
          exact absurd H (by simp)
      · rw [if_neg c4] at H
        have c4b0 : decide (x5_1 < (l0.length : Int)) = false := decide_eq_false c4
        clear c4
        obtain rfl := Option.some.inj H
        go_wp2
        repeat (go_quiet (fail); try go_wp2)
        go_ret
        exact ⟨by first | rfl | (simp [errW_none, errW_some] <;> rfl) | (simp [*, errW_none, errW_some] <;> rfl), by repeat (first | (with_reducible first | exact HB.out | apply below_alloc | apply pw_below_drewN | apply below_drew1 | refine below_set ?_ GE262.out) | exact HB.out)⟩

end Go.Proofs.Ytkdbfeapfcflmaa.T
