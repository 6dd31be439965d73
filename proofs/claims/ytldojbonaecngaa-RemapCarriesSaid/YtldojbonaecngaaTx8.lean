/- Written by hp.py, this session's own program, out of the translation of this seat: Lean functions for the Go functions, and the proof that each call comes to what its Lean function says. -/
import Derived.Test.YtldojbonaecngaaTx0
namespace Go.Proofs.Ytldojbonaecngaa.T
open Go.RowKit Go.Proofs.YtldojbonaecngaaW.PrintWords Go.Proofs.YtldojbonaecngaaW.PrintLast Go.Proofs.YtldojbonaecngaaW.PrintMore
attribute [local go_sem] max2_int min2_int max_two min_two max_three min_three max_four min_four   -- for this text's walks alone
set_option linter.unusedVariables false
set_option linter.unusedSimpArgs false

/-! ### catchwordref10_Carry: function 24 -/
mutual
def catchwordref10_Carry.j0 : Nat → Int → List (List Int) → List (List Bool) → List (List Bool) → Bool → Option (List Bool)
  | 0, _, _, _, _, _ => none
  | k + 1, x0, x1, x2, x3, x34 => if x34 = true then (some ([] : List Bool)) else (catchwordref10_Carry.l0 k x0 x1 x2 x3 0)
def catchwordref10_Carry.l0 : Nat → Int → List (List Int) → List (List Bool) → List (List Bool) → Int → Option (List Bool)
  | 0, _, _, _, _, _ => none
  | k + 1, x0, x1, x2, x3, x9 => if x9 < (x1.length : Int) then (if 0 ≤ x9 then (if x9 < (x2.length : Int) then (if ((rd_L2 x2 x9).length : Int) = ((rd_L3 x1 x9).length : Int) then (if x9 < (x3.length : Int) then (if ((rd_L2 x3 x9).length : Int) = ((rd_L3 x1 x9).length : Int) then (catchwordref10_Carry.l0 k x0 x1 x2 x3 (wrap64 (x9 + 1))) else (some ([] : List Bool))) else (none)) else (some ([] : List Bool))) else (none)) else (none)) else (catchwordref10_Carry.l1 k x0 x1 x2 x3 ([] : List Bool) 0)
def catchwordref10_Carry.l1 : Nat → Int → List (List Int) → List (List Bool) → List (List Bool) → List Bool → Int → Option (List Bool)
  | 0, _, _, _, _, _, _ => none
  | k + 1, x0, x1, x2, x3, x10, x11 => if x11 < x0 then (catchwordref10_Carry.l2 k x0 x1 x2 x3 x10 x11 true 0) else (some x10)
def catchwordref10_Carry.l2 : Nat → Int → List (List Int) → List (List Bool) → List (List Bool) → List Bool → Int → Bool → Int → Option (List Bool)
  | 0, _, _, _, _, _, _, _, _ => none
  | k + 1, x0, x1, x2, x3, x10, x11, x12, x13 => if x13 < (x1.length : Int) then (catchwordref10_Carry.l3 k x0 x1 x2 x3 x10 x11 x12 x13 0) else (if x10.length < 140737488355328 then (catchwordref10_Carry.l1 k x0 x1 x2 x3 (x10 ++ [x12]) (wrap64 (x11 + 1))) else (none))
def catchwordref10_Carry.l3 : Nat → Int → List (List Int) → List (List Bool) → List (List Bool) → List Bool → Int → Bool → Int → Int → Option (List Bool)
  | 0, _, _, _, _, _, _, _, _, _ => none
  | k + 1, x0, x1, x2, x3, x10, x11, x12, x13, x14 => if 0 ≤ x13 then (if x13 < (x1.length : Int) then (if x14 < ((rd_L3 x1 x13).length : Int) then (if 0 ≤ x14 then (if (rd (rd_L3 x1 x13) x14) = x11 then (if x13 < (x2.length : Int) then (if x14 < ((rd_L2 x2 x13).length : Int) then (if rdOf false (rd_L2 x2 x13) x14 = true then (if x13 < (x3.length : Int) then (if x14 < ((rd_L2 x3 x13).length : Int) then (if (rdOf false (rd_L2 x3 x13) x14 = true) then (catchwordref10_Carry.l3 k x0 x1 x2 x3 x10 x11 x12 x13 (wrap64 (x14 + 1))) else (catchwordref10_Carry.l3 k x0 x1 x2 x3 x10 x11 false x13 (wrap64 (x14 + 1)))) else (none)) else (none)) else (catchwordref10_Carry.l3 k x0 x1 x2 x3 x10 x11 x12 x13 (wrap64 (x14 + 1)))) else (none)) else (none)) else (catchwordref10_Carry.l3 k x0 x1 x2 x3 x10 x11 x12 x13 (wrap64 (x14 + 1)))) else (none)) else (catchwordref10_Carry.l2 k x0 x1 x2 x3 x10 x11 x12 (wrap64 (x13 + 1)))) else (none)) else (none)
end
def catchwordref10_Carry.f (k : Nat) (a0 : Int) (l1 : List (List Int)) (l2 : List (List Bool)) (l3 : List (List Bool)) : Option (List Bool) := if a0 < 0 then (catchwordref10_Carry.j0 k a0 l1 l2 l3 true) else (if a0 > 64 then (catchwordref10_Carry.j0 k a0 l1 l2 l3 true) else (if (l2.length : Int) = (l1.length : Int) then (catchwordref10_Carry.j0 k a0 l1 l2 l3 ((l3.length : Int) != (l1.length : Int))) else (catchwordref10_Carry.j0 k a0 l1 l2 l3 true)))
theorem catchwordref10_Carry.mono_l : ∀ k, (∀ y0 y1 y2 y3 y4, LeO (catchwordref10_Carry.j0 k y0 y1 y2 y3 y4) (catchwordref10_Carry.j0 (k + 1) y0 y1 y2 y3 y4)) ∧ (∀ y0 y1 y2 y3 y4, LeO (catchwordref10_Carry.l0 k y0 y1 y2 y3 y4) (catchwordref10_Carry.l0 (k + 1) y0 y1 y2 y3 y4)) ∧ (∀ y0 y1 y2 y3 y4 y5, LeO (catchwordref10_Carry.l1 k y0 y1 y2 y3 y4 y5) (catchwordref10_Carry.l1 (k + 1) y0 y1 y2 y3 y4 y5)) ∧ (∀ y0 y1 y2 y3 y4 y5 y6 y7, LeO (catchwordref10_Carry.l2 k y0 y1 y2 y3 y4 y5 y6 y7) (catchwordref10_Carry.l2 (k + 1) y0 y1 y2 y3 y4 y5 y6 y7)) ∧ (∀ y0 y1 y2 y3 y4 y5 y6 y7 y8, LeO (catchwordref10_Carry.l3 k y0 y1 y2 y3 y4 y5 y6 y7 y8) (catchwordref10_Carry.l3 (k + 1) y0 y1 y2 y3 y4 y5 y6 y7 y8))
  | 0 => ⟨fun _ _ _ _ _ r h => by simp [catchwordref10_Carry.j0] at h, fun _ _ _ _ _ r h => by simp [catchwordref10_Carry.l0] at h, fun _ _ _ _ _ _ r h => by simp [catchwordref10_Carry.l1] at h, fun _ _ _ _ _ _ _ _ r h => by simp [catchwordref10_Carry.l2] at h, fun _ _ _ _ _ _ _ _ _ r h => by simp [catchwordref10_Carry.l3] at h⟩
  | k + 1 => by
    obtain ⟨ih0, ih1, ih2, ih3, ih4⟩ := catchwordref10_Carry.mono_l k
    refine ⟨?_, ?_, ?_, ?_, ?_⟩
    · intro y0 y1 y2 y3 y4
      unfold catchwordref10_Carry.j0
      repeat' first
      | (with_reducible exact ih0 _ _ _ _ _)
      | (with_reducible exact ih1 _ _ _ _ _)
      | (with_reducible exact ih2 _ _ _ _ _ _)
      | (with_reducible exact ih3 _ _ _ _ _ _ _ _)
      | (with_reducible exact ih4 _ _ _ _ _ _ _ _ _)
      | (with_reducible exact LeO.refl _)
      | (with_reducible exact LeO.none _)
      | (with_reducible refine LeO.ite ?_ ?_)
      | (with_reducible refine LeO.bind ?_ (fun _ => ?_))
      | exact ih0 _ _ _ _ _
      | exact ih1 _ _ _ _ _
      | exact ih2 _ _ _ _ _ _
      | exact ih3 _ _ _ _ _ _ _ _
      | exact ih4 _ _ _ _ _ _ _ _ _
      | exact LeO.none _
      | refine LeO.ite ?_ ?_
      | refine LeO.bind ?_ (fun _ => ?_)
    · intro y0 y1 y2 y3 y4
      unfold catchwordref10_Carry.l0
      repeat' first
      | (with_reducible exact ih0 _ _ _ _ _)
      | (with_reducible exact ih1 _ _ _ _ _)
      | (with_reducible exact ih2 _ _ _ _ _ _)
      | (with_reducible exact ih3 _ _ _ _ _ _ _ _)
      | (with_reducible exact ih4 _ _ _ _ _ _ _ _ _)
      | (with_reducible exact LeO.refl _)
      | (with_reducible exact LeO.none _)
      | (with_reducible refine LeO.ite ?_ ?_)
      | (with_reducible refine LeO.bind ?_ (fun _ => ?_))
      | exact ih0 _ _ _ _ _
      | exact ih1 _ _ _ _ _
      | exact ih2 _ _ _ _ _ _
      | exact ih3 _ _ _ _ _ _ _ _
      | exact ih4 _ _ _ _ _ _ _ _ _
      | exact LeO.none _
      | refine LeO.ite ?_ ?_
      | refine LeO.bind ?_ (fun _ => ?_)
    · intro y0 y1 y2 y3 y4 y5
      unfold catchwordref10_Carry.l1
      repeat' first
      | (with_reducible exact ih0 _ _ _ _ _)
      | (with_reducible exact ih1 _ _ _ _ _)
      | (with_reducible exact ih2 _ _ _ _ _ _)
      | (with_reducible exact ih3 _ _ _ _ _ _ _ _)
      | (with_reducible exact ih4 _ _ _ _ _ _ _ _ _)
      | (with_reducible exact LeO.refl _)
      | (with_reducible exact LeO.none _)
      | (with_reducible refine LeO.ite ?_ ?_)
      | (with_reducible refine LeO.bind ?_ (fun _ => ?_))
      | exact ih0 _ _ _ _ _
      | exact ih1 _ _ _ _ _
      | exact ih2 _ _ _ _ _ _
      | exact ih3 _ _ _ _ _ _ _ _
      | exact ih4 _ _ _ _ _ _ _ _ _
      | exact LeO.none _
      | refine LeO.ite ?_ ?_
      | refine LeO.bind ?_ (fun _ => ?_)
    · intro y0 y1 y2 y3 y4 y5 y6 y7
      unfold catchwordref10_Carry.l2
      repeat' first
      | (with_reducible exact ih0 _ _ _ _ _)
      | (with_reducible exact ih1 _ _ _ _ _)
      | (with_reducible exact ih2 _ _ _ _ _ _)
      | (with_reducible exact ih3 _ _ _ _ _ _ _ _)
      | (with_reducible exact ih4 _ _ _ _ _ _ _ _ _)
      | (with_reducible exact LeO.refl _)
      | (with_reducible exact LeO.none _)
      | (with_reducible refine LeO.ite ?_ ?_)
      | (with_reducible refine LeO.bind ?_ (fun _ => ?_))
      | exact ih0 _ _ _ _ _
      | exact ih1 _ _ _ _ _
      | exact ih2 _ _ _ _ _ _
      | exact ih3 _ _ _ _ _ _ _ _
      | exact ih4 _ _ _ _ _ _ _ _ _
      | exact LeO.none _
      | refine LeO.ite ?_ ?_
      | refine LeO.bind ?_ (fun _ => ?_)
    · intro y0 y1 y2 y3 y4 y5 y6 y7 y8
      unfold catchwordref10_Carry.l3
      repeat' first
      | (with_reducible exact ih0 _ _ _ _ _)
      | (with_reducible exact ih1 _ _ _ _ _)
      | (with_reducible exact ih2 _ _ _ _ _ _)
      | (with_reducible exact ih3 _ _ _ _ _ _ _ _)
      | (with_reducible exact ih4 _ _ _ _ _ _ _ _ _)
      | (with_reducible exact LeO.refl _)
      | (with_reducible exact LeO.none _)
      | (with_reducible refine LeO.ite ?_ ?_)
      | (with_reducible refine LeO.bind ?_ (fun _ => ?_))
      | exact ih0 _ _ _ _ _
      | exact ih1 _ _ _ _ _
      | exact ih2 _ _ _ _ _ _
      | exact ih3 _ _ _ _ _ _ _ _
      | exact ih4 _ _ _ _ _ _ _ _ _
      | exact LeO.none _
      | refine LeO.ite ?_ ?_
      | refine LeO.bind ?_ (fun _ => ?_)
theorem catchwordref10_Carry.mono : ∀ a0 a1 a2 a3 k, LeO (catchwordref10_Carry.f k a0 a1 a2 a3) (catchwordref10_Carry.f (k + 1) a0 a1 a2 a3) := by
  intro a0 a1 a2 a3 k
  obtain ⟨ih0, ih1, ih2, ih3, ih4⟩ := catchwordref10_Carry.mono_l k
  unfold catchwordref10_Carry.f
  repeat' first
      | (with_reducible exact ih0 _ _ _ _ _)
      | (with_reducible exact ih1 _ _ _ _ _)
      | (with_reducible exact ih2 _ _ _ _ _ _)
      | (with_reducible exact ih3 _ _ _ _ _ _ _ _)
      | (with_reducible exact ih4 _ _ _ _ _ _ _ _ _)
      | (with_reducible exact LeO.refl _)
      | (with_reducible exact LeO.none _)
      | (with_reducible refine LeO.ite ?_ ?_)
      | (with_reducible refine LeO.bind ?_ (fun _ => ?_))
      | exact ih0 _ _ _ _ _
      | exact ih1 _ _ _ _ _
      | exact ih2 _ _ _ _ _ _
      | exact ih3 _ _ _ _ _ _ _ _
      | exact ih4 _ _ _ _ _ _ _ _ _
      | exact LeO.none _
      | refine LeO.ite ?_ ?_
      | refine LeO.bind ?_ (fun _ => ?_)
set_option maxHeartbeats 8000000 in
set_option maxRecDepth 100000 in
theorem catchwordref10_Carry.calls (k : Nat) (a0 : Int) (A1 : Option Addr) (c1 : Nat) (l1 : List (List Int)) (A2 : Option Addr) (c2 : Nat) (l2 : List (List Bool)) (A3 : Option Addr) (c3 : Nat) (l3 : List (List Bool)) (r : List Bool) (w : World) (hr1 : Kd.C (Kd.slice 3 (Kd.int .i64)) w A1 l1.length l1) (hc1 : l1.length ≤ c1) (hr2 : Kd.C (Kd.slice 4 Kd.bool) w A2 l2.length l2) (hc2 : l2.length ≤ c2) (hr3 : Kd.C (Kd.slice 4 Kd.bool) w A3 l3.length l3) (hc3 : l3.length ≤ c3) (h : catchwordref10_Carry.f k a0 l1 l2 l3 = some r) :
    Calls Try.prog 24 #[.int .i64 a0, .slice A1 l1.length c1, .slice A2 l2.length c2, .slice A3 l3.length c3] w fun e w' => ∃ v0_ : Value, e = .returned (v0_) ∧ Kd.R Kd.bool 4 w' w.heap.size (fun _ => True) v0_ r ∧ Below w.heap.size w w' := by
  have HR1 := Aside0.mk hr1
  have HC1 := Aside0.mk hc1
  clear hr1 hc1
  have HR2 := Aside0.mk hr2
  have HC2 := Aside0.mk hc2
  clear hr2 hc2
  have HR3 := Aside0.mk hr3
  have HC3 := Aside0.mk hc3
  clear hr3 hc3
  have HB := Aside0.mk (Below.refl w.heap.size w)
  have H : (if a0 < 0 then (catchwordref10_Carry.j0 k a0 l1 l2 l3 true) else (if a0 > 64 then (catchwordref10_Carry.j0 k a0 l1 l2 l3 true) else (if (l2.length : Int) = (l1.length : Int) then (catchwordref10_Carry.j0 k a0 l1 l2 l3 ((l3.length : Int) != (l1.length : Int))) else (catchwordref10_Carry.j0 k a0 l1 l2 l3 true)))) = some r := h
  clear h
  have HC5 := Aside0.mk H
  clear H
  go_enter Try.func24, Try.ntmps24
  go_upto_region 1 with (fail)
  repeat (go_quiet (fail); go_upto_region 1 with (fail))
  go_cut [34] (fun v34 wc => ∃ (kq : Nat) (x34_4 : Bool), v34 = .bool x34_4 ∧ Aside0 (catchwordref10_Carry.j0 kq a0 l1 l2 l3 x34_4 = some r) ∧ Aside0 (kq ≤ k) ∧ Aside0 (Below w.heap.size w wc))
  case first =>
    have H := HC5.out
    clear HC5
    by_cases c6 : a0 < 0
    · rw [if_pos c6] at H
      have c6b0 : decide (a0 < 0) = true := decide_eq_true c6
      clear c6
      (first | rw [c6b0] | (simp only [i64_w, i32_w]; rw [c6b0]) | skip)
      have H' := Aside0.mk H
      clear H
      go_wp2
      repeat (go_quiet (fail); try go_wp2)
      go_meet
      case rel => exact ⟨_, (true), (by first | rfl | (simp; done) | (simp [*]; done)), H', ⟨by first | omega | exact Nat.le_refl _⟩, ⟨by repeat (first | (with_reducible first | exact HB.out | apply below_alloc | apply pw_below_drewN | apply below_drew1) | exact HB.out)⟩⟩
    · rw [if_neg c6] at H
      have c6b0 : decide (a0 < 0) = false := decide_eq_false c6
      clear c6
      (first | rw [c6b0] | (simp only [i64_w, i32_w]; rw [c6b0]) | skip)
      by_cases c7 : a0 > 64
      · rw [if_pos c7] at H
        have c7b0 : decide (64 < a0) = true := decide_eq_true c7
        clear c7
        have H' := Aside0.mk H
        clear H
        go_wp2
        repeat (go_quiet (fail); try go_wp2)
        go_meet
        case rel => exact ⟨_, (true), (by first | rfl | (simp; done) | (simp [*]; done)), H', ⟨by first | omega | exact Nat.le_refl _⟩, ⟨by repeat (first | (with_reducible first | exact HB.out | apply below_alloc | apply pw_below_drewN | apply below_drew1) | exact HB.out)⟩⟩
      · rw [if_neg c7] at H
        have c7b0 : decide (64 < a0) = false := decide_eq_false c7
        clear c7
        by_cases c8 : (l2.length : Int) = (l1.length : Int)
        · rw [if_pos c8] at H
          have c8b0 : ((l2.length : Int) == (l1.length : Int)) = true := beq_iff_eq.mpr c8
          have c8b1 : ((l2.length : Int) != (l1.length : Int)) = false := bne_eq_false_iff_eq.mpr c8
          have c8b2 : (l2.length == l1.length) = true := by first | simpa using c8 | (simp at c8 ⊢; omega)
          clear c8
          have H' := Aside0.mk H
          clear H
          go_wp2
          repeat (go_quiet (fail); try go_wp2)
          go_meet
          case rel => exact ⟨_, (((l3.length : Int) != (l1.length : Int))), (by first | rfl | (simp; done) | (simp [*]; done)), H', ⟨by first | omega | exact Nat.le_refl _⟩, ⟨by repeat (first | (with_reducible first | exact HB.out | apply below_alloc | apply pw_below_drewN | apply below_drew1) | exact HB.out)⟩⟩
        · rw [if_neg c8] at H
          have c8b0 : ((l2.length : Int) == (l1.length : Int)) = false := beq_eq_false_iff_ne.mpr c8
          have c8b1 : ((l2.length : Int) != (l1.length : Int)) = true := bne_iff_ne.mpr c8
          have c8b2 : (l2.length == l1.length) = false := by first | simpa using c8 | (simp at c8 ⊢; omega)
          have H' := Aside0.mk H
          clear H
          go_wp2
          repeat (go_quiet (fail); try go_wp2)
          go_meet
          case rel => exact ⟨_, (true), (by first | rfl | (simp; done) | (simp [*]; done)), H', ⟨by first | omega | exact Nat.le_refl _⟩, ⟨by repeat (first | (with_reducible first | exact HB.out | apply below_alloc | apply pw_below_drewN | apply below_drew1) | exact HB.out)⟩⟩
  case rest =>
    clear HC5
    try clear c1
    try clear c2
    try clear p2
    try clear c3
    try clear c6
    try clear c6b0
    try clear c7
    try clear c7b0
    try clear c8
    try clear c8b0
    try clear c8b1
    try clear c8b2
    obtain ⟨kq, x34_4, rfl, HA, HJ4, HB⟩ := hcut
    cases kq with
    | zero => exact absurd HA.out (by simp [catchwordref10_Carry.j0])
    | succ kj4 =>
      have H := HA.out
      clear HA
      simp only [catchwordref10_Carry.j0] at H
      by_cases c9 : x34_4 = true
      · subst c9
        have H1 : (some ([] : List Bool)) = some r := by rw [if_pos rfl] at H; exact H
        clear H
        have H := H1
        clear H1
        obtain rfl := Option.some.inj H
        go_wp2
        repeat (go_quiet (fail); try go_wp2)
        go_ret
        exact ⟨_, by first | rfl | (simp [errW_none, errW_some] <;> rfl) | (simp [*, errW_none, errW_some] <;> rfl), by first | exact Kd.R_nil _ _ _ _ _ | exact Kd.N_nil _ _ _ _ _ | exact Kd.V_nil _ _ _ _ _ | exact Kd.Q_nil _ _ _ _ _ | exact Kd.S_nil _ _ _ _ _, by repeat (first | (with_reducible first | exact HB.out | apply below_alloc | apply pw_below_drewN | apply below_drew1) | exact HB.out)⟩
      · replace c9 := Bool.eq_false_iff.mpr c9
        subst c9
        have H1 : (catchwordref10_Carry.l0 kj4 a0 l1 l2 l3 0) = some r := by rw [if_neg (show ¬ (false = true) by decide)] at H; exact H
        clear H
        have H := H1
        clear H1
        have H' := Aside0.mk H
        clear H
        go_wp2
        repeat (go_quiet (fail); try go_wp2)
        go_loopg [9] kj4 (fun kq v9 w' => ∃ (x9_2 : Int), v9 = .int .i64 x9_2 ∧ Aside0 (catchwordref10_Carry.l0 kq a0 l1 l2 l3 x9_2 = some r) ∧ Aside0 (kq ≤ kj4) ∧ Aside0 (Below w.heap.size w w'))
        case atStart => exact ⟨(0), (by first | rfl | (simp; done) | (simp [*]; done)), H', ⟨Nat.le_refl _⟩, ⟨by repeat (first | (with_reducible first | exact HB.out | apply below_alloc | apply pw_below_drewN | apply below_drew1) | exact HB.out)⟩⟩
        case round =>
          clear H'
          try clear c1
          try clear c2
          try clear p2
          try clear c3
          try clear c6
          try clear c6b0
          try clear c7
          try clear c7b0
          try clear c8
          try clear c8b0
          try clear c8b1
          try clear c8b2
          try clear c9
          try clear p2
          obtain ⟨x9_2, rfl, HA, HK2, HB⟩ := hrel
          cases gk with
          | zero => exact absurd HA.out (by simp [catchwordref10_Carry.l0])
          | succ k2 =>
            have H := HA.out
            clear HA
            simp only [catchwordref10_Carry.l0] at H
            by_cases c10 : x9_2 < (l1.length : Int)
            · rw [if_pos c10] at H
              have c10b0 : decide (x9_2 < (l1.length : Int)) = true := decide_eq_true c10
              clear c10
              by_cases c11 : 0 ≤ x9_2
              · rw [if_pos c11] at H
                have c11b0 : decide (0 ≤ x9_2) = true := decide_eq_true c11
                clear c11
                by_cases c12 : x9_2 < (l2.length : Int)
                · rw [if_pos c12] at H
                  have c12b0 : decide (x9_2 < (l2.length : Int)) = true := decide_eq_true c12
                  clear c12
                  by_cases c13 : ((rd_L2 l2 x9_2).length : Int) = ((rd_L3 l1 x9_2).length : Int)
                  · rw [if_pos c13] at H
                    have c13b0 : (((rd_L2 l2 x9_2).length : Int) == ((rd_L3 l1 x9_2).length : Int)) = true := beq_iff_eq.mpr c13
                    have c13b1 : (((rd_L2 l2 x9_2).length : Int) != ((rd_L3 l1 x9_2).length : Int)) = false := bne_eq_false_iff_eq.mpr c13
                    have c13b2 : ((rd_L2 l2 x9_2).length == (rd_L3 l1 x9_2).length) = true := by first | simpa using c13 | (simp at c13 ⊢; omega)
                    clear c13
                    by_cases c14 : x9_2 < (l3.length : Int)
                    · rw [if_pos c14] at H
                      have c14b0 : decide (x9_2 < (l3.length : Int)) = true := decide_eq_true c14
                      clear c14
                      by_cases c15 : ((rd_L2 l3 x9_2).length : Int) = ((rd_L3 l1 x9_2).length : Int)
                      · rw [if_pos c15] at H
                        have c15b0 : (((rd_L2 l3 x9_2).length : Int) == ((rd_L3 l1 x9_2).length : Int)) = true := beq_iff_eq.mpr c15
                        have c15b1 : (((rd_L2 l3 x9_2).length : Int) != ((rd_L3 l1 x9_2).length : Int)) = false := bne_eq_false_iff_eq.mpr c15
                        have c15b2 : ((rd_L2 l3 x9_2).length == (rd_L3 l1 x9_2).length) = true := by first | simpa using c15 | (simp at c15 ⊢; omega)
                        clear c15
                        have H' := Aside0.mk H
                        clear H
                        have p312 : 0 ≤ (x9_2 : Int) := of_decide_eq_true (by first | (with_reducible assumption) | assumption)
                        have q312 : x9_2 < (l2.length : Int) := of_decide_eq_true (by first | (with_reducible assumption) | assumption)
                        obtain ⟨ad312, A312_0, c312_0, e312, hx312_0, hl312_0, hi312_0⟩ := at_L2 HR2.out x9_2 p312 q312
                        cases e312
                        replace hx312_0 := (HB.out.cell (World.block_lt_of_cell? w _ hx312_0)).trans hx312_0
                        have HR312_0 := Aside0.mk hi312_0
                        have HC312_0 := Aside0.mk hl312_0
                        clear hi312_0 hl312_0
                        replace p312 := eq_true p312
                        replace q312 := eq_true q312
                        have p313 : 0 ≤ (x9_2 : Int) := of_decide_eq_true (by first | (with_reducible assumption) | assumption)
                        have q313 : x9_2 < (l1.length : Int) := of_decide_eq_true (by first | (with_reducible assumption) | assumption)
                        obtain ⟨ad313, A313_0, c313_0, e313, hx313_0, hl313_0, hi313_0⟩ := at_L3 HR1.out x9_2 p313 q313
                        cases e313
                        replace hx313_0 := (HB.out.cell (World.block_lt_of_cell? w _ hx313_0)).trans hx313_0
                        have HR313_0 := Aside0.mk hi313_0
                        have HC313_0 := Aside0.mk hl313_0
                        clear hi313_0 hl313_0
                        replace p313 := eq_true p313
                        replace q313 := eq_true q313
                        have p314 : 0 ≤ (x9_2 : Int) := of_decide_eq_true (by first | (with_reducible assumption) | assumption)
                        have q314 : x9_2 < (l3.length : Int) := of_decide_eq_true (by first | (with_reducible assumption) | assumption)
                        obtain ⟨ad314, A314_0, c314_0, e314, hx314_0, hl314_0, hi314_0⟩ := at_L2 HR3.out x9_2 p314 q314
                        cases e314
                        replace hx314_0 := (HB.out.cell (World.block_lt_of_cell? w _ hx314_0)).trans hx314_0
                        have HR314_0 := Aside0.mk hi314_0
                        have HC314_0 := Aside0.mk hl314_0
                        clear hi314_0 hl314_0
                        replace p314 := eq_true p314
                        replace q314 := eq_true q314
                        have p315 : 0 ≤ (x9_2 : Int) := of_decide_eq_true (by first | (with_reducible assumption) | assumption)
                        have q315 : x9_2 < (l1.length : Int) := of_decide_eq_true (by first | (with_reducible assumption) | assumption)
                        obtain ⟨ad315, A315_0, c315_0, e315, hx315_0, hl315_0, hi315_0⟩ := at_L3 HR1.out x9_2 p315 q315
                        obtain rfl : ad313 = ad315 := (by injection e315)
                        replace hx315_0 := (HB.out.cell (World.block_lt_of_cell? w _ hx315_0)).trans hx315_0
                        have HR315_0 := Aside0.mk hi315_0
                        have HC315_0 := Aside0.mk hl315_0
                        clear hi315_0 hl315_0
                        replace p315 := eq_true p315
                        replace q315 := eq_true q315
                        have ea_ := Option.some.inj (hx313_0.symm.trans hx315_0)
                        injection ea_ with ea_ en_ ec_
                        subst ea_
                        subst ec_
                        clear en_
                        go_wp2
                        repeat (go_quiet (fail); try go_wp2)
                        go_roundg k2
                        case measure => have := HJ4.out; have := HK2.out; omega
                        case rel => exact ⟨(wrap64 (x9_2 + 1)), (by first | rfl | (simp; done) | (simp [*]; done)), H', ⟨by have := HJ4.out; have := HK2.out; omega⟩, ⟨by repeat (first | (with_reducible first | exact HB.out | apply below_alloc | apply pw_below_drewN | apply below_drew1) | exact HB.out)⟩⟩
                      · rw [if_neg c15] at H
                        have c15b0 : (((rd_L2 l3 x9_2).length : Int) == ((rd_L3 l1 x9_2).length : Int)) = false := beq_eq_false_iff_ne.mpr c15
                        have c15b1 : (((rd_L2 l3 x9_2).length : Int) != ((rd_L3 l1 x9_2).length : Int)) = true := bne_iff_ne.mpr c15
                        have c15b2 : ((rd_L2 l3 x9_2).length == (rd_L3 l1 x9_2).length) = false := by first | simpa using c15 | (simp at c15 ⊢; omega)
                        obtain rfl := Option.some.inj H
                        have p312 : 0 ≤ (x9_2 : Int) := of_decide_eq_true (by first | (with_reducible assumption) | assumption)
                        have q312 : x9_2 < (l2.length : Int) := of_decide_eq_true (by first | (with_reducible assumption) | assumption)
                        obtain ⟨ad312, A312_0, c312_0, e312, hx312_0, hl312_0, hi312_0⟩ := at_L2 HR2.out x9_2 p312 q312
                        cases e312
                        replace hx312_0 := (HB.out.cell (World.block_lt_of_cell? w _ hx312_0)).trans hx312_0
                        have HR312_0 := Aside0.mk hi312_0
                        have HC312_0 := Aside0.mk hl312_0
                        clear hi312_0 hl312_0
                        replace p312 := eq_true p312
                        replace q312 := eq_true q312
                        have p313 : 0 ≤ (x9_2 : Int) := of_decide_eq_true (by first | (with_reducible assumption) | assumption)
                        have q313 : x9_2 < (l1.length : Int) := of_decide_eq_true (by first | (with_reducible assumption) | assumption)
                        obtain ⟨ad313, A313_0, c313_0, e313, hx313_0, hl313_0, hi313_0⟩ := at_L3 HR1.out x9_2 p313 q313
                        cases e313
                        replace hx313_0 := (HB.out.cell (World.block_lt_of_cell? w _ hx313_0)).trans hx313_0
                        have HR313_0 := Aside0.mk hi313_0
                        have HC313_0 := Aside0.mk hl313_0
                        clear hi313_0 hl313_0
                        replace p313 := eq_true p313
                        replace q313 := eq_true q313
                        have p314 : 0 ≤ (x9_2 : Int) := of_decide_eq_true (by first | (with_reducible assumption) | assumption)
                        have q314 : x9_2 < (l3.length : Int) := of_decide_eq_true (by first | (with_reducible assumption) | assumption)
                        obtain ⟨ad314, A314_0, c314_0, e314, hx314_0, hl314_0, hi314_0⟩ := at_L2 HR3.out x9_2 p314 q314
                        cases e314
                        replace hx314_0 := (HB.out.cell (World.block_lt_of_cell? w _ hx314_0)).trans hx314_0
                        have HR314_0 := Aside0.mk hi314_0
                        have HC314_0 := Aside0.mk hl314_0
                        clear hi314_0 hl314_0
                        replace p314 := eq_true p314
                        replace q314 := eq_true q314
                        have p315 : 0 ≤ (x9_2 : Int) := of_decide_eq_true (by first | (with_reducible assumption) | assumption)
                        have q315 : x9_2 < (l1.length : Int) := of_decide_eq_true (by first | (with_reducible assumption) | assumption)
                        obtain ⟨ad315, A315_0, c315_0, e315, hx315_0, hl315_0, hi315_0⟩ := at_L3 HR1.out x9_2 p315 q315
                        obtain rfl : ad313 = ad315 := (by injection e315)
                        replace hx315_0 := (HB.out.cell (World.block_lt_of_cell? w _ hx315_0)).trans hx315_0
                        have HR315_0 := Aside0.mk hi315_0
                        have HC315_0 := Aside0.mk hl315_0
                        clear hi315_0 hl315_0
                        replace p315 := eq_true p315
                        replace q315 := eq_true q315
                        have ea_ := Option.some.inj (hx313_0.symm.trans hx315_0)
                        injection ea_ with ea_ en_ ec_
                        subst ea_
                        subst ec_
                        clear en_
                        go_wp2
                        repeat (go_quiet (fail); try go_wp2)
                        go_ret
                        exact ⟨_, by first | rfl | (simp [errW_none, errW_some] <;> rfl) | (simp [*, errW_none, errW_some] <;> rfl), by first | exact Kd.R_nil _ _ _ _ _ | exact Kd.N_nil _ _ _ _ _ | exact Kd.V_nil _ _ _ _ _ | exact Kd.Q_nil _ _ _ _ _ | exact Kd.S_nil _ _ _ _ _, by repeat (first | (with_reducible first | exact HB.out | apply below_alloc | apply pw_below_drewN | apply below_drew1) | exact HB.out)⟩
                    · rw [if_neg c14] at H
                      exact absurd H (by simp)
                  · rw [if_neg c13] at H
                    have c13b0 : (((rd_L2 l2 x9_2).length : Int) == ((rd_L3 l1 x9_2).length : Int)) = false := beq_eq_false_iff_ne.mpr c13
                    have c13b1 : (((rd_L2 l2 x9_2).length : Int) != ((rd_L3 l1 x9_2).length : Int)) = true := bne_iff_ne.mpr c13
                    have c13b2 : ((rd_L2 l2 x9_2).length == (rd_L3 l1 x9_2).length) = false := by first | simpa using c13 | (simp at c13 ⊢; omega)
                    obtain rfl := Option.some.inj H
                    have p312 : 0 ≤ (x9_2 : Int) := of_decide_eq_true (by first | (with_reducible assumption) | assumption)
                    have q312 : x9_2 < (l2.length : Int) := of_decide_eq_true (by first | (with_reducible assumption) | assumption)
                    obtain ⟨ad312, A312_0, c312_0, e312, hx312_0, hl312_0, hi312_0⟩ := at_L2 HR2.out x9_2 p312 q312
                    cases e312
                    replace hx312_0 := (HB.out.cell (World.block_lt_of_cell? w _ hx312_0)).trans hx312_0
                    have HR312_0 := Aside0.mk hi312_0
                    have HC312_0 := Aside0.mk hl312_0
                    clear hi312_0 hl312_0
                    replace p312 := eq_true p312
                    replace q312 := eq_true q312
                    have p313 : 0 ≤ (x9_2 : Int) := of_decide_eq_true (by first | (with_reducible assumption) | assumption)
                    have q313 : x9_2 < (l1.length : Int) := of_decide_eq_true (by first | (with_reducible assumption) | assumption)
                    obtain ⟨ad313, A313_0, c313_0, e313, hx313_0, hl313_0, hi313_0⟩ := at_L3 HR1.out x9_2 p313 q313
                    cases e313
                    replace hx313_0 := (HB.out.cell (World.block_lt_of_cell? w _ hx313_0)).trans hx313_0
                    have HR313_0 := Aside0.mk hi313_0
                    have HC313_0 := Aside0.mk hl313_0
                    clear hi313_0 hl313_0
                    replace p313 := eq_true p313
                    replace q313 := eq_true q313
                    go_wp2
                    repeat (go_quiet (fail); try go_wp2)
                    go_ret
                    exact ⟨_, by first | rfl | (simp [errW_none, errW_some] <;> rfl) | (simp [*, errW_none, errW_some] <;> rfl), by first | exact Kd.R_nil _ _ _ _ _ | exact Kd.N_nil _ _ _ _ _ | exact Kd.V_nil _ _ _ _ _ | exact Kd.Q_nil _ _ _ _ _ | exact Kd.S_nil _ _ _ _ _, by repeat (first | (with_reducible first | exact HB.out | apply below_alloc | apply pw_below_drewN | apply below_drew1) | exact HB.out)⟩
                · rw [if_neg c12] at H
                  exact absurd H (by simp)
              · rw [if_neg c11] at H
                exact absurd H (by simp)
            · rw [if_neg c10] at H
              have c10b0 : decide (x9_2 < (l1.length : Int)) = false := decide_eq_false c10
              clear c10
              have H' := Aside0.mk H
              clear H
              go_wp2
              repeat (go_quiet (fail); try go_wp2)
              go_loopg [10, 11] k2 (fun kq v10 v11 w' => ∃ (x10_3 : List Bool) (x11_3 : Int), v11 = .int .i64 x11_3 ∧ Aside0 (catchwordref10_Carry.l1 kq a0 l1 l2 l3 x10_3 x11_3 = some r) ∧ Aside0 (kq ≤ k2) ∧ Aside0 (Kd.R Kd.bool 4 w' w.heap.size (fun _ => True) v10 x10_3) ∧ Aside0 (Below w.heap.size w w'))
              case atStart => exact ⟨(([] : List Bool)), (0), (by first | rfl | (simp; done) | (simp [*]; done)), H', ⟨Nat.le_refl _⟩, ⟨by first | exact Kd.R_nil _ _ _ _ _ | exact Kd.N_nil _ _ _ _ _ | exact Kd.V_nil _ _ _ _ _ | exact Kd.Q_nil _ _ _ _ _ | exact Kd.S_nil _ _ _ _ _⟩, ⟨by repeat (first | (with_reducible first | exact HB.out | apply below_alloc | apply pw_below_drewN | apply below_drew1) | exact HB.out)⟩⟩
              case round =>
                clear H'
                try clear c1
                try clear c2
                try clear p2
                try clear c3
                try clear p3
                try clear q3
                try clear hx3
                try clear c6
                try clear c6b0
                try clear p6
                try clear c7
                try clear c7b0
                try clear c8
                try clear c8b0
                try clear c8b1
                try clear c8b2
                try clear c9
                try clear c10
                try clear c10b0
                try clear c11
                try clear c11b0
                try clear c12
                try clear c12b0
                try clear c13
                try clear c13b0
                try clear c13b1
                try clear c13b2
                try clear c14
                try clear c14b0
                try clear c15
                try clear c15b0
                try clear c15b1
                try clear c15b2
                try clear hx312_0
                try clear hx313_0
                try clear hx314_0
                try clear hx315_0
                try clear p2
                try clear p312
                try clear p313
                try clear p314
                try clear p315
                try clear q312
                try clear q313
                try clear q314
                try clear q315
                obtain ⟨x10_3, x11_3, rfl, HA, HK3, HO_10, HB⟩ := hrel
                cases gk with
                | zero => exact absurd HA.out (by simp [catchwordref10_Carry.l1])
                | succ k3 =>
                  have H := HA.out
                  clear HA
                  simp only [catchwordref10_Carry.l1] at H
                  by_cases c16 : x11_3 < a0
                  · rw [if_pos c16] at H
                    have c16b0 : decide (x11_3 < a0) = true := decide_eq_true c16
                    clear c16
                    have H' := Aside0.mk H
                    clear H
                    go_wp2
                    repeat (go_quiet (fail); try go_wp2)
                    go_loopg [12, 13] k3 (fun kq v12 v13 w' => ∃ (x12_4 : Bool) (x13_4 : Int), v12 = .bool x12_4 ∧ v13 = .int .i64 x13_4 ∧ Aside0 (catchwordref10_Carry.l2 kq a0 l1 l2 l3 x10_3 x11_3 x12_4 x13_4 = some r) ∧ Aside0 (kq ≤ k3) ∧ Aside0 (Kd.R Kd.bool 4 w' w.heap.size (fun _ => True) u10 x10_3) ∧ Aside0 (Below w.heap.size w w'))
                    case atStart => exact ⟨(true), (0), (by first | rfl | (simp; done) | (simp [*]; done)), (by first | rfl | (simp; done) | (simp [*]; done)), H', ⟨Nat.le_refl _⟩, ⟨by (with_reducible repeat (first | apply Kd.R_alloc | apply Kd.R_drewN | apply Kd.R_drew)); exact HO_10.out⟩, ⟨by repeat (first | (with_reducible first | exact HB.out | apply below_alloc | apply pw_below_drewN | apply below_drew1) | exact HB.out)⟩⟩
                    case round =>
                      clear H'
                      try clear c1
                      try clear c2
                      try clear p2
                      try clear c3
                      try clear p3
                      try clear q3
                      try clear hx3
                      try clear c6
                      try clear c6b0
                      try clear p6
                      try clear c7
                      try clear c7b0
                      try clear c8
                      try clear c8b0
                      try clear c8b1
                      try clear c8b2
                      try clear c9
                      try clear c10
                      try clear c10b0
                      try clear c11
                      try clear c11b0
                      try clear c12
                      try clear c12b0
                      try clear c13
                      try clear c13b0
                      try clear c13b1
                      try clear c13b2
                      try clear c14
                      try clear c14b0
                      try clear c15
                      try clear c15b0
                      try clear c15b1
                      try clear c15b2
                      try clear c16
                      try clear c16b0
                      try clear hx312_0
                      try clear hx313_0
                      try clear hx314_0
                      try clear hx315_0
                      try clear p2
                      try clear p3
                      try clear p312
                      try clear p313
                      try clear p314
                      try clear p315
                      try clear p6
                      try clear q3
                      try clear q312
                      try clear q313
                      try clear q314
                      try clear q315
                      obtain ⟨x12_4, x13_4, rfl, rfl, HA, HK4, HO_10, HB⟩ := hrel
                      cases gk with
                      | zero => exact absurd HA.out (by simp [catchwordref10_Carry.l2])
                      | succ k4 =>
                        have H := HA.out
                        clear HA
                        simp only [catchwordref10_Carry.l2] at H
                        by_cases c17 : x13_4 < (l1.length : Int)
                        · rw [if_pos c17] at H
                          have c17b0 : decide (x13_4 < (l1.length : Int)) = true := decide_eq_true c17
                          clear c17
                          have H' := Aside0.mk H
                          clear H
                          go_wp2
                          repeat (go_quiet (fail); try go_wp2)
                          go_loopg [12, 14] k4 (fun kq v12 v14 w' => ∃ (x12_5 : Bool) (x14_5 : Int), v12 = .bool x12_5 ∧ v14 = .int .i64 x14_5 ∧ Aside0 (catchwordref10_Carry.l3 kq a0 l1 l2 l3 x10_3 x11_3 x12_5 x13_4 x14_5 = some r) ∧ Aside0 (kq ≤ k4) ∧ Aside0 (Kd.R Kd.bool 4 w' w.heap.size (fun _ => True) u10 x10_3) ∧ Aside0 (Below w.heap.size w w'))
                          case atStart => exact ⟨(x12_4), (0), (by first | rfl | (simp; done) | (simp [*]; done)), (by first | rfl | (simp; done) | (simp [*]; done)), H', ⟨Nat.le_refl _⟩, ⟨by (with_reducible repeat (first | apply Kd.R_alloc | apply Kd.R_drewN | apply Kd.R_drew)); exact HO_10.out⟩, ⟨by repeat (first | (with_reducible first | exact HB.out | apply below_alloc | apply pw_below_drewN | apply below_drew1) | exact HB.out)⟩⟩
                          case round =>
                            clear H'
                            try clear c1
                            try clear c2
                            try clear p2
                            try clear c3
                            try clear p3
                            try clear q3
                            try clear hx3
                            try clear c6
                            try clear c6b0
                            try clear p6
                            try clear c7
                            try clear c7b0
                            try clear c8
                            try clear c8b0
                            try clear c8b1
                            try clear c8b2
                            try clear c9
                            try clear c10
                            try clear c10b0
                            try clear c11
                            try clear c11b0
                            try clear c12
                            try clear c12b0
                            try clear c13
                            try clear c13b0
                            try clear c13b1
                            try clear c13b2
                            try clear c14
                            try clear c14b0
                            try clear c15
                            try clear c15b0
                            try clear c15b1
                            try clear c15b2
                            try clear c16
                            try clear c16b0
                            try clear c17
                            try clear c17b0
                            try clear hx312_0
                            try clear hx313_0
                            try clear hx314_0
                            try clear hx315_0
                            try clear p2
                            try clear p3
                            try clear p312
                            try clear p313
                            try clear p314
                            try clear p315
                            try clear p6
                            try clear q3
                            try clear q312
                            try clear q313
                            try clear q314
                            try clear q315
                            obtain ⟨x12_5, x14_5, rfl, rfl, HA, HK5, HO_10, HB⟩ := hrel
                            cases gk with
                            | zero => exact absurd HA.out (by simp [catchwordref10_Carry.l3])
                            | succ k5 =>
                              have H := HA.out
                              clear HA
                              simp only [catchwordref10_Carry.l3] at H
                              by_cases c18 : 0 ≤ x13_4
                              · rw [if_pos c18] at H
                                have c18b0 : decide (0 ≤ x13_4) = true := decide_eq_true c18
                                clear c18
                                by_cases c19 : x13_4 < (l1.length : Int)
                                · rw [if_pos c19] at H
                                  have c19b0 : decide (x13_4 < (l1.length : Int)) = true := decide_eq_true c19
                                  clear c19
                                  by_cases c20 : x14_5 < ((rd_L3 l1 x13_4).length : Int)
                                  · rw [if_pos c20] at H
                                    have c20b0 : decide (x14_5 < ((rd_L3 l1 x13_4).length : Int)) = true := decide_eq_true c20
                                    clear c20
                                    by_cases c21 : 0 ≤ x14_5
                                    · rw [if_pos c21] at H
                                      have c21b0 : decide (0 ≤ x14_5) = true := decide_eq_true c21
                                      clear c21
                                      by_cases c22 : (rd (rd_L3 l1 x13_4) x14_5) = x11_3
                                      · rw [if_pos c22] at H
                                        have c22b0 : ((rd (rd_L3 l1 x13_4) x14_5) == x11_3) = true := beq_iff_eq.mpr c22
                                        have c22b1 : ((rd (rd_L3 l1 x13_4) x14_5) != x11_3) = false := bne_eq_false_iff_eq.mpr c22
                                        clear c22
                                        by_cases c23 : x13_4 < (l2.length : Int)
                                        · rw [if_pos c23] at H
                                          have c23b0 : decide (x13_4 < (l2.length : Int)) = true := decide_eq_true c23
                                          clear c23
                                          by_cases c24 : x14_5 < ((rd_L2 l2 x13_4).length : Int)
                                          · rw [if_pos c24] at H
                                            have c24b0 : decide (x14_5 < ((rd_L2 l2 x13_4).length : Int)) = true := decide_eq_true c24
                                            clear c24
                                            obtain ⟨bq25, hbq25⟩ : ∃ b_ : Bool, b_ = (rdOf false (rd_L2 l2 x13_4) x14_5) := ⟨_, rfl⟩
                                            replace H : (if bq25 = true then (if x13_4 < (l3.length : Int) then (if x14_5 < ((rd_L2 l3 x13_4).length : Int) then (if (rdOf false (rd_L2 l3 x13_4) x14_5 = true) then (catchwordref10_Carry.l3 k5 a0 l1 l2 l3 x10_3 x11_3 x12_5 x13_4 (wrap64 (x14_5 + 1))) else (catchwordref10_Carry.l3 k5 a0 l1 l2 l3 x10_3 x11_3 false x13_4 (wrap64 (x14_5 + 1)))) else (none)) else (none)) else (catchwordref10_Carry.l3 k5 a0 l1 l2 l3 x10_3 x11_3 x12_5 x13_4 (wrap64 (x14_5 + 1)))) = some r := by rw [← hbq25] at H; exact H
                                            have Nbq25 := Aside0.mk hbq25
                                            clear hbq25
                                            by_cases c26 : bq25 = true
                                            · subst c26
                                              have H1 : (if x13_4 < (l3.length : Int) then (if x14_5 < ((rd_L2 l3 x13_4).length : Int) then (if (rdOf false (rd_L2 l3 x13_4) x14_5 = true) then (catchwordref10_Carry.l3 k5 a0 l1 l2 l3 x10_3 x11_3 x12_5 x13_4 (wrap64 (x14_5 + 1))) else (catchwordref10_Carry.l3 k5 a0 l1 l2 l3 x10_3 x11_3 false x13_4 (wrap64 (x14_5 + 1)))) else (none)) else (none)) = some r := by rw [if_pos rfl] at H; exact H
                                              clear H
                                              have H := H1
                                              clear H1
                                              by_cases c27 : x13_4 < (l3.length : Int)
                                              · rw [if_pos c27] at H
                                                have c27b0 : decide (x13_4 < (l3.length : Int)) = true := decide_eq_true c27
                                                clear c27
                                                by_cases c28 : x14_5 < ((rd_L2 l3 x13_4).length : Int)
                                                · rw [if_pos c28] at H
                                                  have c28b0 : decide (x14_5 < ((rd_L2 l3 x13_4).length : Int)) = true := decide_eq_true c28
                                                  clear c28
                                                  obtain ⟨bq29, hbq29⟩ : ∃ b_ : Bool, b_ = (rdOf false (rd_L2 l3 x13_4) x14_5) := ⟨_, rfl⟩
                                                  replace H : (if (bq29 = true) then (catchwordref10_Carry.l3 k5 a0 l1 l2 l3 x10_3 x11_3 x12_5 x13_4 (wrap64 (x14_5 + 1))) else (catchwordref10_Carry.l3 k5 a0 l1 l2 l3 x10_3 x11_3 false x13_4 (wrap64 (x14_5 + 1)))) = some r := by rw [← hbq29] at H; exact H
                                                  have Nbq29 := Aside0.mk hbq29
                                                  clear hbq29
                                                  by_cases c30 : (bq29 = true)
                                                  · subst c30
                                                    have H1 : (catchwordref10_Carry.l3 k5 a0 l1 l2 l3 x10_3 x11_3 x12_5 x13_4 (wrap64 (x14_5 + 1))) = some r := by rw [if_pos rfl] at H; exact H
                                                    clear H
                                                    have H := H1
                                                    clear H1
                                                    have H' := Aside0.mk H
                                                    clear H
                                                    have p319 : 0 ≤ (x13_4 : Int) := of_decide_eq_true (by first | (with_reducible assumption) | assumption)
                                                    have q319 : x13_4 < (l1.length : Int) := of_decide_eq_true (by first | (with_reducible assumption) | assumption)
                                                    obtain ⟨ad319, A319_0, c319_0, e319, hx319_0, hl319_0, hi319_0⟩ := at_L3 HR1.out x13_4 p319 q319
                                                    cases e319
                                                    replace hx319_0 := (HB.out.cell (World.block_lt_of_cell? w _ hx319_0)).trans hx319_0
                                                    have HR319_0 := Aside0.mk hi319_0
                                                    have HC319_0 := Aside0.mk hl319_0
                                                    clear hi319_0 hl319_0
                                                    replace p319 := eq_true p319
                                                    replace q319 := eq_true q319
                                                    have p320 : 0 ≤ (x13_4 : Int) := of_decide_eq_true (by first | (with_reducible assumption) | assumption)
                                                    have q320 : x13_4 < (l1.length : Int) := of_decide_eq_true (by first | (with_reducible assumption) | assumption)
                                                    obtain ⟨ad320, A320_0, c320_0, e320, hx320_0, hl320_0, hi320_0⟩ := at_L3 HR1.out x13_4 p320 q320
                                                    obtain rfl : ad319 = ad320 := (by injection e320)
                                                    replace hx320_0 := (HB.out.cell (World.block_lt_of_cell? w _ hx320_0)).trans hx320_0
                                                    have HR320_0 := Aside0.mk hi320_0
                                                    have HC320_0 := Aside0.mk hl320_0
                                                    clear hi320_0 hl320_0
                                                    replace p320 := eq_true p320
                                                    replace q320 := eq_true q320
                                                    have ea_ := Option.some.inj (hx319_0.symm.trans hx320_0)
                                                    injection ea_ with ea_ en_ ec_
                                                    subst ea_
                                                    subst ec_
                                                    clear en_
                                                    have p321 : 0 ≤ (x14_5 : Int) := of_decide_eq_true (by first | (with_reducible assumption) | assumption)
                                                    have q321 : x14_5 < ((rd_L3 l1 x13_4).length : Int) := of_decide_eq_true (by first | (with_reducible assumption) | assumption)
                                                    obtain ⟨ad321, e321, hx321_0⟩ := Kd.at_int HR320_0.out x14_5 p321 q321
                                                    cases e321
                                                    replace hx321_0 := (HB.out.cell (World.block_lt_of_cell? w _ hx321_0)).trans hx321_0
                                                    replace p321 := eq_true p321
                                                    replace q321 := eq_true q321
                                                    have p322 : 0 ≤ (x13_4 : Int) := of_decide_eq_true (by first | (with_reducible assumption) | assumption)
                                                    have q322 : x13_4 < (l2.length : Int) := of_decide_eq_true (by first | (with_reducible assumption) | assumption)
                                                    obtain ⟨ad322, A322_0, c322_0, e322, hx322_0, hl322_0, hi322_0⟩ := at_L2 HR2.out x13_4 p322 q322
                                                    cases e322
                                                    replace hx322_0 := (HB.out.cell (World.block_lt_of_cell? w _ hx322_0)).trans hx322_0
                                                    have HR322_0 := Aside0.mk hi322_0
                                                    have HC322_0 := Aside0.mk hl322_0
                                                    clear hi322_0 hl322_0
                                                    replace p322 := eq_true p322
                                                    replace q322 := eq_true q322
                                                    have p323 : 0 ≤ (x14_5 : Int) := of_decide_eq_true (by first | (with_reducible assumption) | assumption)
                                                    have q323 : x14_5 < ((rd_L2 l2 x13_4).length : Int) := of_decide_eq_true (by first | (with_reducible assumption) | assumption)
                                                    obtain ⟨ad323, e323, hx323_0⟩ := Kd.at_bool HR322_0.out x14_5 p323 q323
                                                    (try rw [← Nbq25.out] at hx323_0)
                                                    (try rw [← Nbq29.out] at hx323_0)
                                                    cases e323
                                                    replace hx323_0 := (HB.out.cell (World.block_lt_of_cell? w _ hx323_0)).trans hx323_0
                                                    replace p323 := eq_true p323
                                                    replace q323 := eq_true q323
                                                    have p324 : 0 ≤ (x13_4 : Int) := of_decide_eq_true (by first | (with_reducible assumption) | assumption)
                                                    have q324 : x13_4 < (l3.length : Int) := of_decide_eq_true (by first | (with_reducible assumption) | assumption)
                                                    obtain ⟨ad324, A324_0, c324_0, e324, hx324_0, hl324_0, hi324_0⟩ := at_L2 HR3.out x13_4 p324 q324
                                                    cases e324
                                                    replace hx324_0 := (HB.out.cell (World.block_lt_of_cell? w _ hx324_0)).trans hx324_0
                                                    have HR324_0 := Aside0.mk hi324_0
                                                    have HC324_0 := Aside0.mk hl324_0
                                                    clear hi324_0 hl324_0
                                                    replace p324 := eq_true p324
                                                    replace q324 := eq_true q324
                                                    have p325 : 0 ≤ (x14_5 : Int) := of_decide_eq_true (by first | (with_reducible assumption) | assumption)
                                                    have q325 : x14_5 < ((rd_L2 l3 x13_4).length : Int) := of_decide_eq_true (by first | (with_reducible assumption) | assumption)
                                                    obtain ⟨ad325, e325, hx325_0⟩ := Kd.at_bool HR324_0.out x14_5 p325 q325
                                                    (try rw [← Nbq25.out] at hx325_0)
                                                    (try rw [← Nbq29.out] at hx325_0)
                                                    cases e325
                                                    replace hx325_0 := (HB.out.cell (World.block_lt_of_cell? w _ hx325_0)).trans hx325_0
                                                    replace p325 := eq_true p325
                                                    replace q325 := eq_true q325
                                                    go_wp2
                                                    repeat (go_quiet (fail); try go_wp2)
                                                    go_roundg k5
                                                    case measure => have := HJ4.out; have := HK2.out; have := HK3.out; have := HK4.out; have := HK5.out; omega
                                                    case rel => exact ⟨(x12_5), (wrap64 (x14_5 + 1)), (by first | rfl | (simp; done) | (simp [*]; done)), (by first | rfl | (simp; done) | (simp [*]; done)), H', ⟨by have := HJ4.out; have := HK2.out; have := HK3.out; have := HK4.out; have := HK5.out; omega⟩, ⟨by (with_reducible repeat (first | apply Kd.R_alloc | apply Kd.R_drewN | apply Kd.R_drew)); exact HO_10.out⟩, ⟨by repeat (first | (with_reducible first | exact HB.out | apply below_alloc | apply pw_below_drewN | apply below_drew1) | exact HB.out)⟩⟩
                                                  · replace c30 := Bool.eq_false_iff.mpr c30
                                                    subst c30
                                                    have H1 : (catchwordref10_Carry.l3 k5 a0 l1 l2 l3 x10_3 x11_3 false x13_4 (wrap64 (x14_5 + 1))) = some r := by rw [if_neg (show ¬ (false = true) by decide)] at H; exact H
                                                    clear H
                                                    have H := H1
                                                    clear H1
                                                    have H' := Aside0.mk H
                                                    clear H
                                                    have p319 : 0 ≤ (x13_4 : Int) := of_decide_eq_true (by first | (with_reducible assumption) | assumption)
                                                    have q319 : x13_4 < (l1.length : Int) := of_decide_eq_true (by first | (with_reducible assumption) | assumption)
                                                    obtain ⟨ad319, A319_0, c319_0, e319, hx319_0, hl319_0, hi319_0⟩ := at_L3 HR1.out x13_4 p319 q319
                                                    cases e319
                                                    replace hx319_0 := (HB.out.cell (World.block_lt_of_cell? w _ hx319_0)).trans hx319_0
                                                    have HR319_0 := Aside0.mk hi319_0
                                                    have HC319_0 := Aside0.mk hl319_0
                                                    clear hi319_0 hl319_0
                                                    replace p319 := eq_true p319
                                                    replace q319 := eq_true q319
                                                    have p320 : 0 ≤ (x13_4 : Int) := of_decide_eq_true (by first | (with_reducible assumption) | assumption)
                                                    have q320 : x13_4 < (l1.length : Int) := of_decide_eq_true (by first | (with_reducible assumption) | assumption)
                                                    obtain ⟨ad320, A320_0, c320_0, e320, hx320_0, hl320_0, hi320_0⟩ := at_L3 HR1.out x13_4 p320 q320
                                                    obtain rfl : ad319 = ad320 := (by injection e320)
                                                    replace hx320_0 := (HB.out.cell (World.block_lt_of_cell? w _ hx320_0)).trans hx320_0
                                                    have HR320_0 := Aside0.mk hi320_0
                                                    have HC320_0 := Aside0.mk hl320_0
                                                    clear hi320_0 hl320_0
                                                    replace p320 := eq_true p320
                                                    replace q320 := eq_true q320
                                                    have ea_ := Option.some.inj (hx319_0.symm.trans hx320_0)
                                                    injection ea_ with ea_ en_ ec_
                                                    subst ea_
                                                    subst ec_
                                                    clear en_
                                                    have p321 : 0 ≤ (x14_5 : Int) := of_decide_eq_true (by first | (with_reducible assumption) | assumption)
                                                    have q321 : x14_5 < ((rd_L3 l1 x13_4).length : Int) := of_decide_eq_true (by first | (with_reducible assumption) | assumption)
                                                    obtain ⟨ad321, e321, hx321_0⟩ := Kd.at_int HR320_0.out x14_5 p321 q321
                                                    cases e321
                                                    replace hx321_0 := (HB.out.cell (World.block_lt_of_cell? w _ hx321_0)).trans hx321_0
                                                    replace p321 := eq_true p321
                                                    replace q321 := eq_true q321
                                                    have p322 : 0 ≤ (x13_4 : Int) := of_decide_eq_true (by first | (with_reducible assumption) | assumption)
                                                    have q322 : x13_4 < (l2.length : Int) := of_decide_eq_true (by first | (with_reducible assumption) | assumption)
                                                    obtain ⟨ad322, A322_0, c322_0, e322, hx322_0, hl322_0, hi322_0⟩ := at_L2 HR2.out x13_4 p322 q322
                                                    cases e322
                                                    replace hx322_0 := (HB.out.cell (World.block_lt_of_cell? w _ hx322_0)).trans hx322_0
                                                    have HR322_0 := Aside0.mk hi322_0
                                                    have HC322_0 := Aside0.mk hl322_0
                                                    clear hi322_0 hl322_0
                                                    replace p322 := eq_true p322
                                                    replace q322 := eq_true q322
                                                    have p323 : 0 ≤ (x14_5 : Int) := of_decide_eq_true (by first | (with_reducible assumption) | assumption)
                                                    have q323 : x14_5 < ((rd_L2 l2 x13_4).length : Int) := of_decide_eq_true (by first | (with_reducible assumption) | assumption)
                                                    obtain ⟨ad323, e323, hx323_0⟩ := Kd.at_bool HR322_0.out x14_5 p323 q323
                                                    (try rw [← Nbq25.out] at hx323_0)
                                                    (try rw [← Nbq29.out] at hx323_0)
                                                    cases e323
                                                    replace hx323_0 := (HB.out.cell (World.block_lt_of_cell? w _ hx323_0)).trans hx323_0
                                                    replace p323 := eq_true p323
                                                    replace q323 := eq_true q323
                                                    have p324 : 0 ≤ (x13_4 : Int) := of_decide_eq_true (by first | (with_reducible assumption) | assumption)
                                                    have q324 : x13_4 < (l3.length : Int) := of_decide_eq_true (by first | (with_reducible assumption) | assumption)
                                                    obtain ⟨ad324, A324_0, c324_0, e324, hx324_0, hl324_0, hi324_0⟩ := at_L2 HR3.out x13_4 p324 q324
                                                    cases e324
                                                    replace hx324_0 := (HB.out.cell (World.block_lt_of_cell? w _ hx324_0)).trans hx324_0
                                                    have HR324_0 := Aside0.mk hi324_0
                                                    have HC324_0 := Aside0.mk hl324_0
                                                    clear hi324_0 hl324_0
                                                    replace p324 := eq_true p324
                                                    replace q324 := eq_true q324
                                                    have p325 : 0 ≤ (x14_5 : Int) := of_decide_eq_true (by first | (with_reducible assumption) | assumption)
                                                    have q325 : x14_5 < ((rd_L2 l3 x13_4).length : Int) := of_decide_eq_true (by first | (with_reducible assumption) | assumption)
                                                    obtain ⟨ad325, e325, hx325_0⟩ := Kd.at_bool HR324_0.out x14_5 p325 q325
                                                    (try rw [← Nbq25.out] at hx325_0)
                                                    (try rw [← Nbq29.out] at hx325_0)
                                                    cases e325
                                                    replace hx325_0 := (HB.out.cell (World.block_lt_of_cell? w _ hx325_0)).trans hx325_0
                                                    replace p325 := eq_true p325
                                                    replace q325 := eq_true q325
                                                    go_wp2
                                                    repeat (go_quiet (fail); try go_wp2)
                                                    go_roundg k5
                                                    case measure => have := HJ4.out; have := HK2.out; have := HK3.out; have := HK4.out; have := HK5.out; omega
                                                    case rel => exact ⟨(false), (wrap64 (x14_5 + 1)), (by first | rfl | (simp; done) | (simp [*]; done)), (by first | rfl | (simp; done) | (simp [*]; done)), H', ⟨by have := HJ4.out; have := HK2.out; have := HK3.out; have := HK4.out; have := HK5.out; omega⟩, ⟨by (with_reducible repeat (first | apply Kd.R_alloc | apply Kd.R_drewN | apply Kd.R_drew)); exact HO_10.out⟩, ⟨by repeat (first | (with_reducible first | exact HB.out | apply below_alloc | apply pw_below_drewN | apply below_drew1) | exact HB.out)⟩⟩
                                                · rw [if_neg c28] at H
                                                  exact absurd H (by simp)
                                              · rw [if_neg c27] at H
                                                exact absurd H (by simp)
                                            · replace c26 := Bool.eq_false_iff.mpr c26
                                              subst c26
                                              have H1 : (catchwordref10_Carry.l3 k5 a0 l1 l2 l3 x10_3 x11_3 x12_5 x13_4 (wrap64 (x14_5 + 1))) = some r := by rw [if_neg (show ¬ (false = true) by decide)] at H; exact H
                                              clear H
                                              have H := H1
                                              clear H1
                                              have H' := Aside0.mk H
                                              clear H
                                              have p319 : 0 ≤ (x13_4 : Int) := of_decide_eq_true (by first | (with_reducible assumption) | assumption)
                                              have q319 : x13_4 < (l1.length : Int) := of_decide_eq_true (by first | (with_reducible assumption) | assumption)
                                              obtain ⟨ad319, A319_0, c319_0, e319, hx319_0, hl319_0, hi319_0⟩ := at_L3 HR1.out x13_4 p319 q319
                                              cases e319
                                              replace hx319_0 := (HB.out.cell (World.block_lt_of_cell? w _ hx319_0)).trans hx319_0
                                              have HR319_0 := Aside0.mk hi319_0
                                              have HC319_0 := Aside0.mk hl319_0
                                              clear hi319_0 hl319_0
                                              replace p319 := eq_true p319
                                              replace q319 := eq_true q319
                                              have p320 : 0 ≤ (x13_4 : Int) := of_decide_eq_true (by first | (with_reducible assumption) | assumption)
                                              have q320 : x13_4 < (l1.length : Int) := of_decide_eq_true (by first | (with_reducible assumption) | assumption)
                                              obtain ⟨ad320, A320_0, c320_0, e320, hx320_0, hl320_0, hi320_0⟩ := at_L3 HR1.out x13_4 p320 q320
                                              obtain rfl : ad319 = ad320 := (by injection e320)
                                              replace hx320_0 := (HB.out.cell (World.block_lt_of_cell? w _ hx320_0)).trans hx320_0
                                              have HR320_0 := Aside0.mk hi320_0
                                              have HC320_0 := Aside0.mk hl320_0
                                              clear hi320_0 hl320_0
                                              replace p320 := eq_true p320
                                              replace q320 := eq_true q320
                                              have ea_ := Option.some.inj (hx319_0.symm.trans hx320_0)
                                              injection ea_ with ea_ en_ ec_
                                              subst ea_
                                              subst ec_
                                              clear en_
                                              have p321 : 0 ≤ (x14_5 : Int) := of_decide_eq_true (by first | (with_reducible assumption) | assumption)
                                              have q321 : x14_5 < ((rd_L3 l1 x13_4).length : Int) := of_decide_eq_true (by first | (with_reducible assumption) | assumption)
                                              obtain ⟨ad321, e321, hx321_0⟩ := Kd.at_int HR320_0.out x14_5 p321 q321
                                              cases e321
                                              replace hx321_0 := (HB.out.cell (World.block_lt_of_cell? w _ hx321_0)).trans hx321_0
                                              replace p321 := eq_true p321
                                              replace q321 := eq_true q321
                                              have p322 : 0 ≤ (x13_4 : Int) := of_decide_eq_true (by first | (with_reducible assumption) | assumption)
                                              have q322 : x13_4 < (l2.length : Int) := of_decide_eq_true (by first | (with_reducible assumption) | assumption)
                                              obtain ⟨ad322, A322_0, c322_0, e322, hx322_0, hl322_0, hi322_0⟩ := at_L2 HR2.out x13_4 p322 q322
                                              cases e322
                                              replace hx322_0 := (HB.out.cell (World.block_lt_of_cell? w _ hx322_0)).trans hx322_0
                                              have HR322_0 := Aside0.mk hi322_0
                                              have HC322_0 := Aside0.mk hl322_0
                                              clear hi322_0 hl322_0
                                              replace p322 := eq_true p322
                                              replace q322 := eq_true q322
                                              have p323 : 0 ≤ (x14_5 : Int) := of_decide_eq_true (by first | (with_reducible assumption) | assumption)
                                              have q323 : x14_5 < ((rd_L2 l2 x13_4).length : Int) := of_decide_eq_true (by first | (with_reducible assumption) | assumption)
                                              obtain ⟨ad323, e323, hx323_0⟩ := Kd.at_bool HR322_0.out x14_5 p323 q323
                                              (try rw [← Nbq25.out] at hx323_0)
                                              cases e323
                                              replace hx323_0 := (HB.out.cell (World.block_lt_of_cell? w _ hx323_0)).trans hx323_0
                                              replace p323 := eq_true p323
                                              replace q323 := eq_true q323
                                              go_wp2
                                              repeat (go_quiet (fail); try go_wp2)
                                              go_roundg k5
                                              case measure => have := HJ4.out; have := HK2.out; have := HK3.out; have := HK4.out; have := HK5.out; omega
                                              case rel => exact ⟨(x12_5), (wrap64 (x14_5 + 1)), (by first | rfl | (simp; done) | (simp [*]; done)), (by first | rfl | (simp; done) | (simp [*]; done)), H', ⟨by have := HJ4.out; have := HK2.out; have := HK3.out; have := HK4.out; have := HK5.out; omega⟩, ⟨by (with_reducible repeat (first | apply Kd.R_alloc | apply Kd.R_drewN | apply Kd.R_drew)); exact HO_10.out⟩, ⟨by repeat (first | (with_reducible first | exact HB.out | apply below_alloc | apply pw_below_drewN | apply below_drew1) | exact HB.out)⟩⟩
                                          · rw [if_neg c24] at H
                                            exact absurd H (by simp)
                                        · rw [if_neg c23] at H
                                          exact absurd H (by simp)
                                      · rw [if_neg c22] at H
                                        have c22b0 : ((rd (rd_L3 l1 x13_4) x14_5) == x11_3) = false := beq_eq_false_iff_ne.mpr c22
                                        have c22b1 : ((rd (rd_L3 l1 x13_4) x14_5) != x11_3) = true := bne_iff_ne.mpr c22
                                        have H' := Aside0.mk H
                                        clear H
                                        have p319 : 0 ≤ (x13_4 : Int) := of_decide_eq_true (by first | (with_reducible assumption) | assumption)
                                        have q319 : x13_4 < (l1.length : Int) := of_decide_eq_true (by first | (with_reducible assumption) | assumption)
                                        obtain ⟨ad319, A319_0, c319_0, e319, hx319_0, hl319_0, hi319_0⟩ := at_L3 HR1.out x13_4 p319 q319
                                        cases e319
                                        replace hx319_0 := (HB.out.cell (World.block_lt_of_cell? w _ hx319_0)).trans hx319_0
                                        have HR319_0 := Aside0.mk hi319_0
                                        have HC319_0 := Aside0.mk hl319_0
                                        clear hi319_0 hl319_0
                                        replace p319 := eq_true p319
                                        replace q319 := eq_true q319
                                        have p320 : 0 ≤ (x13_4 : Int) := of_decide_eq_true (by first | (with_reducible assumption) | assumption)
                                        have q320 : x13_4 < (l1.length : Int) := of_decide_eq_true (by first | (with_reducible assumption) | assumption)
                                        obtain ⟨ad320, A320_0, c320_0, e320, hx320_0, hl320_0, hi320_0⟩ := at_L3 HR1.out x13_4 p320 q320
                                        obtain rfl : ad319 = ad320 := (by injection e320)
                                        replace hx320_0 := (HB.out.cell (World.block_lt_of_cell? w _ hx320_0)).trans hx320_0
                                        have HR320_0 := Aside0.mk hi320_0
                                        have HC320_0 := Aside0.mk hl320_0
                                        clear hi320_0 hl320_0
                                        replace p320 := eq_true p320
                                        replace q320 := eq_true q320
                                        have ea_ := Option.some.inj (hx319_0.symm.trans hx320_0)
                                        injection ea_ with ea_ en_ ec_
                                        subst ea_
                                        subst ec_
                                        clear en_
                                        have p321 : 0 ≤ (x14_5 : Int) := of_decide_eq_true (by first | (with_reducible assumption) | assumption)
                                        have q321 : x14_5 < ((rd_L3 l1 x13_4).length : Int) := of_decide_eq_true (by first | (with_reducible assumption) | assumption)
                                        obtain ⟨ad321, e321, hx321_0⟩ := Kd.at_int HR320_0.out x14_5 p321 q321
                                        cases e321
                                        replace hx321_0 := (HB.out.cell (World.block_lt_of_cell? w _ hx321_0)).trans hx321_0
                                        replace p321 := eq_true p321
                                        replace q321 := eq_true q321
                                        go_wp2
                                        repeat (go_quiet (fail); try go_wp2)
                                        go_roundg k5
                                        case measure => have := HJ4.out; have := HK2.out; have := HK3.out; have := HK4.out; have := HK5.out; omega
                                        case rel => exact ⟨(x12_5), (wrap64 (x14_5 + 1)), (by first | rfl | (simp; done) | (simp [*]; done)), (by first | rfl | (simp; done) | (simp [*]; done)), H', ⟨by have := HJ4.out; have := HK2.out; have := HK3.out; have := HK4.out; have := HK5.out; omega⟩, ⟨by (with_reducible repeat (first | apply Kd.R_alloc | apply Kd.R_drewN | apply Kd.R_drew)); exact HO_10.out⟩, ⟨by repeat (first | (with_reducible first | exact HB.out | apply below_alloc | apply pw_below_drewN | apply below_drew1) | exact HB.out)⟩⟩
                                    · rw [if_neg c21] at H
                                      exact absurd H (by simp)
                                  · rw [if_neg c20] at H
                                    have c20b0 : decide (x14_5 < ((rd_L3 l1 x13_4).length : Int)) = false := decide_eq_false c20
                                    clear c20
                                    have H' := Aside0.mk H
                                    clear H
                                    have p319 : 0 ≤ (x13_4 : Int) := of_decide_eq_true (by first | (with_reducible assumption) | assumption)
                                    have q319 : x13_4 < (l1.length : Int) := of_decide_eq_true (by first | (with_reducible assumption) | assumption)
                                    obtain ⟨ad319, A319_0, c319_0, e319, hx319_0, hl319_0, hi319_0⟩ := at_L3 HR1.out x13_4 p319 q319
                                    cases e319
                                    replace hx319_0 := (HB.out.cell (World.block_lt_of_cell? w _ hx319_0)).trans hx319_0
                                    have HR319_0 := Aside0.mk hi319_0
                                    have HC319_0 := Aside0.mk hl319_0
                                    clear hi319_0 hl319_0
                                    replace p319 := eq_true p319
                                    replace q319 := eq_true q319
                                    go_wp2
                                    repeat (go_quiet (fail); try go_wp2)
                                    go_roundg k5
                                    case measure => have := HJ4.out; have := HK2.out; have := HK3.out; have := HK4.out; have := HK5.out; omega
                                    case rel => exact ⟨(x12_5), (wrap64 (x13_4 + 1)), (by first | rfl | (simp; done) | (simp [*]; done)), (by first | rfl | (simp; done) | (simp [*]; done)), H', ⟨by have := HJ4.out; have := HK2.out; have := HK3.out; have := HK4.out; have := HK5.out; omega⟩, ⟨by (with_reducible repeat (first | apply Kd.R_alloc | apply Kd.R_drewN | apply Kd.R_drew)); exact HO_10.out⟩, ⟨by repeat (first | (with_reducible first | exact HB.out | apply below_alloc | apply pw_below_drewN | apply below_drew1) | exact HB.out)⟩⟩
                                · rw [if_neg c19] at H
                                  exact absurd H (by simp)
                              · rw [if_neg c18] at H
                                exact absurd H (by simp)
                        · rw [if_neg c17] at H
                          have c17b0 : decide (x13_4 < (l1.length : Int)) = false := decide_eq_false c17
                          clear c17
                          by_cases c31 : x10_3.length < 140737488355328
                          · rw [if_pos c31] at H
                            have LMc31 := Aside0.mk c31
                            clear c31
                            obtain ⟨y316, hy316⟩ : ∃ y_ : List Bool, y_ = (x10_3 ++ [x12_4]) := ⟨_, rfl⟩
                            replace H : (catchwordref10_Carry.l1 k4 a0 l1 l2 l3 y316 (wrap64 (x11_3 + 1))) = some r := by first | (rw [hy316]; with_reducible exact H) | (have H2_ := (Option.bind_some _ _).symm.trans H; rw [hy316]; with_reducible exact H2_) | (have H2_ := (Option.bind_some _ _).symm.trans H; with_reducible exact H2_) | with_reducible exact H | (rw [hy316]; exact H) | exact H
                            have Ny316 := Aside0.mk hy316
                            clear hy316
                            have H' := Aside0.mk H
                            clear H
                            go_wp2_with (first | ((with_reducible refine gate_builtin (b := .append) (xs := #[.tmp 113, .tmp 115]) rfl ?_); (try (refine gate_guard (by rfl) ?_; dsimp only)); at_builtin; refine Kd.R_append Kd.bool (w0 := w) w.heap.size rfl (.tmp 113) (.tmp 115) 22 4 (.bool false) 1 rfl Try.underlying22 info4 rfl (by decide) (by omega) u10 x10_3 x12_4 [.bool x12_4] (fun _ => True) (fun _ => False) rfl rfl ?aP (fun _ hk => hk.elim) ?aF ?aO ?aB ?aS ?aL ?_; (case aP => exact rfl); (case aB => exact (by repeat (first | (with_reducible first | exact HB.out | apply below_alloc | apply pw_below_drewN | apply below_drew1) | exact HB.out))); (case aF => exact (fun _ _ => trivial)); (case aO => exact (by (with_reducible repeat (first | apply Kd.R_alloc | apply Kd.R_drewN | apply Kd.R_drew)); exact HO_10.out)); (case aS => exact (below_size (by repeat (first | (with_reducible first | exact HB.out | apply below_alloc | apply pw_below_drewN | apply below_drew1) | exact HB.out)))); (case aL => have := LMc31.out; omega); intro v317 w32 ho hb hg hat; rw [← Ny316.out] at ho; have n0_ := Aside0.mk (hb); have n1_ := Aside0.mk (ho); clear HB; clear HO_10; have HB := n0_; have HO318 := n1_; clear n0_ n1_; clear ho hb hg hat))
                            repeat (go_quiet (first | ((with_reducible refine gate_builtin (b := .append) (xs := #[.tmp 113, .tmp 115]) rfl ?_); (try (refine gate_guard (by rfl) ?_; dsimp only)); at_builtin; refine Kd.R_append Kd.bool (w0 := w) w.heap.size rfl (.tmp 113) (.tmp 115) 22 4 (.bool false) 1 rfl Try.underlying22 info4 rfl (by decide) (by omega) u10 x10_3 x12_4 [.bool x12_4] (fun _ => True) (fun _ => False) rfl rfl ?aP (fun _ hk => hk.elim) ?aF ?aO ?aB ?aS ?aL ?_; (case aP => exact rfl); (case aB => exact (by repeat (first | (with_reducible first | exact HB.out | apply below_alloc | apply pw_below_drewN | apply below_drew1) | exact HB.out))); (case aF => exact (fun _ _ => trivial)); (case aO => exact (by (with_reducible repeat (first | apply Kd.R_alloc | apply Kd.R_drewN | apply Kd.R_drew)); exact HO_10.out)); (case aS => exact (below_size (by repeat (first | (with_reducible first | exact HB.out | apply below_alloc | apply pw_below_drewN | apply below_drew1) | exact HB.out)))); (case aL => have := LMc31.out; omega); intro v317 w32 ho hb hg hat; rw [← Ny316.out] at ho; have n0_ := Aside0.mk (hb); have n1_ := Aside0.mk (ho); clear HB; clear HO_10; have HB := n0_; have HO318 := n1_; clear n0_ n1_; clear ho hb hg hat)); try go_wp2_with (first | ((with_reducible refine gate_builtin (b := .append) (xs := #[.tmp 113, .tmp 115]) rfl ?_); (try (refine gate_guard (by rfl) ?_; dsimp only)); at_builtin; refine Kd.R_append Kd.bool (w0 := w) w.heap.size rfl (.tmp 113) (.tmp 115) 22 4 (.bool false) 1 rfl Try.underlying22 info4 rfl (by decide) (by omega) u10 x10_3 x12_4 [.bool x12_4] (fun _ => True) (fun _ => False) rfl rfl ?aP (fun _ hk => hk.elim) ?aF ?aO ?aB ?aS ?aL ?_; (case aP => exact rfl); (case aB => exact (by repeat (first | (with_reducible first | exact HB.out | apply below_alloc | apply pw_below_drewN | apply below_drew1) | exact HB.out))); (case aF => exact (fun _ _ => trivial)); (case aO => exact (by (with_reducible repeat (first | apply Kd.R_alloc | apply Kd.R_drewN | apply Kd.R_drew)); exact HO_10.out)); (case aS => exact (below_size (by repeat (first | (with_reducible first | exact HB.out | apply below_alloc | apply pw_below_drewN | apply below_drew1) | exact HB.out)))); (case aL => have := LMc31.out; omega); intro v317 w32 ho hb hg hat; rw [← Ny316.out] at ho; have n0_ := Aside0.mk (hb); have n1_ := Aside0.mk (ho); clear HB; clear HO_10; have HB := n0_; have HO318 := n1_; clear n0_ n1_; clear ho hb hg hat)))
                            go_roundg k4
                            case measure => have := HJ4.out; have := HK2.out; have := HK3.out; have := HK4.out; omega
                            case rel => exact ⟨(y316), (wrap64 (x11_3 + 1)), (by first | rfl | (simp; done) | (simp [*]; done)), H', ⟨by have := HJ4.out; have := HK2.out; have := HK3.out; have := HK4.out; omega⟩, ⟨by (with_reducible repeat (first | apply Kd.R_alloc | apply Kd.R_drewN | apply Kd.R_drew)); exact HO318.out⟩, ⟨by repeat (first | (with_reducible first | exact HB.out | apply below_alloc | apply pw_below_drewN | apply below_drew1) | exact HB.out)⟩⟩
                          · rw [if_neg c31] at H
                            exact absurd H (by simp)
                  · rw [if_neg c16] at H
                    have c16b0 : decide (x11_3 < a0) = false := decide_eq_false c16
                    clear c16
                    obtain rfl := Option.some.inj H
                    go_wp2
                    repeat (go_quiet (fail); try go_wp2)
                    go_ret
                    exact ⟨_, by first | rfl | (simp [errW_none, errW_some] <;> rfl) | (simp [*, errW_none, errW_some] <;> rfl), by (with_reducible repeat (first | apply Kd.R_alloc | apply Kd.R_drewN | apply Kd.R_drew)); exact HO_10.out, by repeat (first | (with_reducible first | exact HB.out | apply below_alloc | apply pw_below_drewN | apply below_drew1) | exact HB.out)⟩

end Go.Proofs.Ytldojbonaecngaa.T
