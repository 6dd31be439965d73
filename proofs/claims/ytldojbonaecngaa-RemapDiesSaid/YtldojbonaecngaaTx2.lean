/- Written by hp.py, this session's own program, out of the translation of this seat: Lean functions for the Go functions, and the proof that each call comes to what its Lean function says. -/
import Derived.Test.YtldojbonaecngaaTx0
import Derived.Test.YtldojbonaecngaaTx1
namespace Go.Proofs.Ytldojbonaecngaa.T
open Go.RowKit Go.Proofs.YtldojbonaecngaaW.PrintWords Go.Proofs.YtldojbonaecngaaW.PrintLast Go.Proofs.YtldojbonaecngaaW.PrintMore
attribute [local go_sem] max2_int min2_int max_two min_two max_three min_three max_four min_four   -- for this text's walks alone
set_option linter.unusedVariables false
set_option linter.unusedSimpArgs false

/-! ### remap_Carry: function 23 -/
mutual
def remap_Carry.j0 : Nat → Int → List (List Int) → List (List Bool) → List (List Bool) → Bool → Option (List Bool)
  | 0, _, _, _, _, _ => none
  | k + 1, x0, x1, x2, x3, x33 => if x33 = true then (some ([] : List Bool)) else ((live_New.f x0).bind fun t129 => (remap_Carry.l0 k x0 x2 x3 t129 x1 (x1.length : Int) 0))
def remap_Carry.l0 : Nat → Int → List (List Bool) → List (List Bool) → List Bool → List (List Int) → Int → Int → Option (List Bool)
  | 0, _, _, _, _, _, _, _ => none
  | k + 1, x0, x2, x3, x9, x36, x37, x38 => if x38 < x37 then (if 0 ≤ x38 then (if x38 < (x36.length : Int) then (if x38 < (x2.length : Int) then (if ((rd_L2 x2 x38).length : Int) = ((rd_L3 x36 x38).length : Int) then (if x38 < (x3.length : Int) then (remap_Carry.j2 k x0 x2 x3 x9 x38 (rd_L3 x36 x38) x36 x37 x38 (((rd_L2 x3 x38).length : Int) != ((rd_L3 x36 x38).length : Int))) else (none)) else (remap_Carry.j2 k x0 x2 x3 x9 x38 (rd_L3 x36 x38) x36 x37 x38 true)) else (none)) else (none)) else (none)) else (some x9)
def remap_Carry.j2 : Nat → Int → List (List Bool) → List (List Bool) → List Bool → Int → List Int → List (List Int) → Int → Int → Bool → Option (List Bool)
  | 0, _, _, _, _, _, _, _, _, _, _ => none
  | k + 1, x0, x2, x3, x9, x10, x11, x36, x37, x38, x60 => if x60 = true then (some ([] : List Bool)) else (remap_Carry.l1 k x0 x2 x3 x9 x10 x36 x37 x38 x11 (x11.length : Int) 0)
def remap_Carry.l1 : Nat → Int → List (List Bool) → List (List Bool) → List Bool → Int → List (List Int) → Int → Int → List Int → Int → Int → Option (List Bool)
  | 0, _, _, _, _, _, _, _, _, _, _, _ => none
  | k + 1, x0, x2, x3, x9, x10, x36, x37, x38, x61, x62, x63 => if x63 < x62 then (if 0 ≤ x63 then (if x63 < (x61.length : Int) then (if (rd x61 x63) ≥ 0 then (if (rd x61 x63) < x0 then (if 0 ≤ x10 then (if x10 < (x2.length : Int) then (if x63 < ((rd_L2 x2 x10).length : Int) then (if rdOf false (rd_L2 x2 x10) x63 = true then (if x10 < (x3.length : Int) then (if x63 < ((rd_L2 x3 x10).length : Int) then (if (rdOf false (rd_L2 x3 x10) x63 = true) then (remap_Carry.l1 k x0 x2 x3 x9 x10 x36 x37 x38 x61 x62 (wrap64 (x63 + 1))) else (if 0 ≤ (rd x61 x63) then (if (rd x61 x63) < (x9.length : Int) then (remap_Carry.l1 k x0 x2 x3 (x9.set ((rd x61 x63) : Int).toNat false) x10 x36 x37 x38 x61 x62 (wrap64 (x63 + 1))) else (none)) else (none))) else (none)) else (none)) else (remap_Carry.l1 k x0 x2 x3 x9 x10 x36 x37 x38 x61 x62 (wrap64 (x63 + 1)))) else (none)) else (none)) else (none)) else (remap_Carry.l1 k x0 x2 x3 x9 x10 x36 x37 x38 x61 x62 (wrap64 (x63 + 1)))) else (remap_Carry.l1 k x0 x2 x3 x9 x10 x36 x37 x38 x61 x62 (wrap64 (x63 + 1)))) else (none)) else (none)) else (remap_Carry.l0 k x0 x2 x3 x9 x36 x37 (wrap64 (x38 + 1)))
end
def remap_Carry.f (k : Nat) (a0 : Int) (l1 : List (List Int)) (l2 : List (List Bool)) (l3 : List (List Bool)) : Option (List Bool) := if a0 < 0 then (remap_Carry.j0 k a0 l1 l2 l3 true) else (if a0 > 64 then (remap_Carry.j0 k a0 l1 l2 l3 true) else (if (l2.length : Int) = (l1.length : Int) then (remap_Carry.j0 k a0 l1 l2 l3 ((l3.length : Int) != (l1.length : Int))) else (remap_Carry.j0 k a0 l1 l2 l3 true)))
theorem remap_Carry.mono_l : ∀ k, (∀ y0 y1 y2 y3 y4, LeO (remap_Carry.j0 k y0 y1 y2 y3 y4) (remap_Carry.j0 (k + 1) y0 y1 y2 y3 y4)) ∧ (∀ y0 y1 y2 y3 y4 y5 y6, LeO (remap_Carry.l0 k y0 y1 y2 y3 y4 y5 y6) (remap_Carry.l0 (k + 1) y0 y1 y2 y3 y4 y5 y6)) ∧ (∀ y0 y1 y2 y3 y4 y5 y6 y7 y8 y9, LeO (remap_Carry.j2 k y0 y1 y2 y3 y4 y5 y6 y7 y8 y9) (remap_Carry.j2 (k + 1) y0 y1 y2 y3 y4 y5 y6 y7 y8 y9)) ∧ (∀ y0 y1 y2 y3 y4 y5 y6 y7 y8 y9 y10, LeO (remap_Carry.l1 k y0 y1 y2 y3 y4 y5 y6 y7 y8 y9 y10) (remap_Carry.l1 (k + 1) y0 y1 y2 y3 y4 y5 y6 y7 y8 y9 y10))
  | 0 => ⟨fun _ _ _ _ _ r h => by simp [remap_Carry.j0] at h, fun _ _ _ _ _ _ _ r h => by simp [remap_Carry.l0] at h, fun _ _ _ _ _ _ _ _ _ _ r h => by simp [remap_Carry.j2] at h, fun _ _ _ _ _ _ _ _ _ _ _ r h => by simp [remap_Carry.l1] at h⟩
  | k + 1 => by
    obtain ⟨ih0, ih1, ih2, ih3⟩ := remap_Carry.mono_l k
    refine ⟨?_, ?_, ?_, ?_⟩
    · intro y0 y1 y2 y3 y4
      unfold remap_Carry.j0
      repeat' first
      | (with_reducible exact ih0 _ _ _ _ _)
      | (with_reducible exact ih1 _ _ _ _ _ _ _)
      | (with_reducible exact ih2 _ _ _ _ _ _ _ _ _ _)
      | (with_reducible exact ih3 _ _ _ _ _ _ _ _ _ _ _)
      | (with_reducible exact LeO.refl _)
      | (with_reducible exact LeO.none _)
      | (with_reducible refine LeO.ite ?_ ?_)
      | (with_reducible refine LeO.bind ?_ (fun _ => ?_))
      | exact ih0 _ _ _ _ _
      | exact ih1 _ _ _ _ _ _ _
      | exact ih2 _ _ _ _ _ _ _ _ _ _
      | exact ih3 _ _ _ _ _ _ _ _ _ _ _
      | exact LeO.none _
      | refine LeO.ite ?_ ?_
      | refine LeO.bind ?_ (fun _ => ?_)
    · intro y0 y1 y2 y3 y4 y5 y6
      unfold remap_Carry.l0
      repeat' first
      | (with_reducible exact ih0 _ _ _ _ _)
      | (with_reducible exact ih1 _ _ _ _ _ _ _)
      | (with_reducible exact ih2 _ _ _ _ _ _ _ _ _ _)
      | (with_reducible exact ih3 _ _ _ _ _ _ _ _ _ _ _)
      | (with_reducible exact LeO.refl _)
      | (with_reducible exact LeO.none _)
      | (with_reducible refine LeO.ite ?_ ?_)
      | (with_reducible refine LeO.bind ?_ (fun _ => ?_))
      | exact ih0 _ _ _ _ _
      | exact ih1 _ _ _ _ _ _ _
      | exact ih2 _ _ _ _ _ _ _ _ _ _
      | exact ih3 _ _ _ _ _ _ _ _ _ _ _
      | exact LeO.none _
      | refine LeO.ite ?_ ?_
      | refine LeO.bind ?_ (fun _ => ?_)
    · intro y0 y1 y2 y3 y4 y5 y6 y7 y8 y9
      unfold remap_Carry.j2
      repeat' first
      | (with_reducible exact ih0 _ _ _ _ _)
      | (with_reducible exact ih1 _ _ _ _ _ _ _)
      | (with_reducible exact ih2 _ _ _ _ _ _ _ _ _ _)
      | (with_reducible exact ih3 _ _ _ _ _ _ _ _ _ _ _)
      | (with_reducible exact LeO.refl _)
      | (with_reducible exact LeO.none _)
      | (with_reducible refine LeO.ite ?_ ?_)
      | (with_reducible refine LeO.bind ?_ (fun _ => ?_))
      | exact ih0 _ _ _ _ _
      | exact ih1 _ _ _ _ _ _ _
      | exact ih2 _ _ _ _ _ _ _ _ _ _
      | exact ih3 _ _ _ _ _ _ _ _ _ _ _
      | exact LeO.none _
      | refine LeO.ite ?_ ?_
      | refine LeO.bind ?_ (fun _ => ?_)
    · intro y0 y1 y2 y3 y4 y5 y6 y7 y8 y9 y10
      unfold remap_Carry.l1
      repeat' first
      | (with_reducible exact ih0 _ _ _ _ _)
      | (with_reducible exact ih1 _ _ _ _ _ _ _)
      | (with_reducible exact ih2 _ _ _ _ _ _ _ _ _ _)
      | (with_reducible exact ih3 _ _ _ _ _ _ _ _ _ _ _)
      | (with_reducible exact LeO.refl _)
      | (with_reducible exact LeO.none _)
      | (with_reducible refine LeO.ite ?_ ?_)
      | (with_reducible refine LeO.bind ?_ (fun _ => ?_))
      | exact ih0 _ _ _ _ _
      | exact ih1 _ _ _ _ _ _ _
      | exact ih2 _ _ _ _ _ _ _ _ _ _
      | exact ih3 _ _ _ _ _ _ _ _ _ _ _
      | exact LeO.none _
      | refine LeO.ite ?_ ?_
      | refine LeO.bind ?_ (fun _ => ?_)
theorem remap_Carry.mono : ∀ a0 a1 a2 a3 k, LeO (remap_Carry.f k a0 a1 a2 a3) (remap_Carry.f (k + 1) a0 a1 a2 a3) := by
  intro a0 a1 a2 a3 k
  obtain ⟨ih0, ih1, ih2, ih3⟩ := remap_Carry.mono_l k
  unfold remap_Carry.f
  repeat' first
      | (with_reducible exact ih0 _ _ _ _ _)
      | (with_reducible exact ih1 _ _ _ _ _ _ _)
      | (with_reducible exact ih2 _ _ _ _ _ _ _ _ _ _)
      | (with_reducible exact ih3 _ _ _ _ _ _ _ _ _ _ _)
      | (with_reducible exact LeO.refl _)
      | (with_reducible exact LeO.none _)
      | (with_reducible refine LeO.ite ?_ ?_)
      | (with_reducible refine LeO.bind ?_ (fun _ => ?_))
      | exact ih0 _ _ _ _ _
      | exact ih1 _ _ _ _ _ _ _
      | exact ih2 _ _ _ _ _ _ _ _ _ _
      | exact ih3 _ _ _ _ _ _ _ _ _ _ _
      | exact LeO.none _
      | refine LeO.ite ?_ ?_
      | refine LeO.bind ?_ (fun _ => ?_)
set_option maxHeartbeats 8000000 in
set_option maxRecDepth 100000 in
theorem remap_Carry.calls (k : Nat) (a0 : Int) (A1 : Option Addr) (c1 : Nat) (l1 : List (List Int)) (A2 : Option Addr) (c2 : Nat) (l2 : List (List Bool)) (A3 : Option Addr) (c3 : Nat) (l3 : List (List Bool)) (r : List Bool) (w : World) (hr1 : Kd.C (Kd.slice 3 (Kd.int .i64)) w A1 l1.length l1) (hc1 : l1.length ≤ c1) (hr2 : Kd.C (Kd.slice 4 Kd.bool) w A2 l2.length l2) (hc2 : l2.length ≤ c2) (hr3 : Kd.C (Kd.slice 4 Kd.bool) w A3 l3.length l3) (hc3 : l3.length ≤ c3) (h : remap_Carry.f k a0 l1 l2 l3 = some r) :
    Calls Try.prog 23 #[.int .i64 a0, .slice A1 l1.length c1, .slice A2 l2.length c2, .slice A3 l3.length c3] w fun e w' => ∃ v0_ : Value, e = .returned (v0_) ∧ Kd.R Kd.bool 4 w' w.heap.size (fun _ => True) v0_ r ∧ Below w.heap.size w w' := by
  have HR1 := Aside0.mk hr1
  have HC1 := Aside0.mk hc1
  clear hr1 hc1
  have HR2 := Aside0.mk hr2
  have HC2 := Aside0.mk hc2
  clear hr2 hc2
  have HR3 := Aside0.mk hr3
  have HC3 := Aside0.mk hc3
  clear hr3 hc3
  have HB := Aside0.mk (Below.refl w.heap.size w)
  have H : (if a0 < 0 then (remap_Carry.j0 k a0 l1 l2 l3 true) else (if a0 > 64 then (remap_Carry.j0 k a0 l1 l2 l3 true) else (if (l2.length : Int) = (l1.length : Int) then (remap_Carry.j0 k a0 l1 l2 l3 ((l3.length : Int) != (l1.length : Int))) else (remap_Carry.j0 k a0 l1 l2 l3 true)))) = some r := h
  clear h
  have HC5 := Aside0.mk H
  clear H
  go_enter Try.func23, Try.ntmps23
  go_upto_region 1 with (fail)
  go_cut [33] (fun v33 wc => ∃ (kq : Nat) (x33_4 : Bool), v33 = .bool x33_4 ∧ Aside0 (remap_Carry.j0 kq a0 l1 l2 l3 x33_4 = some r) ∧ Aside0 (kq ≤ k) ∧ Aside0 (Below w.heap.size w wc))
  case first =>
    have H := HC5.out
    clear HC5
    by_cases c6 : a0 < 0
    · rw [if_pos c6] at H
      have c6b0 : decide (a0 < 0) = true := decide_eq_true c6
      clear c6
      (first | rw [c6b0] | (simp only [i64_w, i32_w]; rw [c6b0]) | skip)
      have H' := Aside0.mk H
      clear H
      go_wp2
      go_meet
      case rel => exact ⟨_, (true), (by first | rfl | (simp; done) | (simp [*]; done)), H', ⟨by first | omega | exact Nat.le_refl _⟩, ⟨by repeat (first | (with_reducible first | exact HB.out | apply below_alloc | apply pw_below_drewN | apply below_drew1) | exact HB.out)⟩⟩
    · rw [if_neg c6] at H
      have c6b0 : decide (a0 < 0) = false := decide_eq_false c6
      clear c6
      (first | rw [c6b0] | (simp only [i64_w, i32_w]; rw [c6b0]) | skip)
      by_cases c7 : a0 > 64
      · rw [if_pos c7] at H
        have c7b0 : decide (64 < a0) = true := decide_eq_true c7
        clear c7
        have H' := Aside0.mk H
        clear H
        go_wp2
        go_meet
        case rel => exact ⟨_, (true), (by first | rfl | (simp; done) | (simp [*]; done)), H', ⟨by first | omega | exact Nat.le_refl _⟩, ⟨by repeat (first | (with_reducible first | exact HB.out | apply below_alloc | apply pw_below_drewN | apply below_drew1) | exact HB.out)⟩⟩
      · rw [if_neg c7] at H
        have c7b0 : decide (64 < a0) = false := decide_eq_false c7
        clear c7
        by_cases c8 : (l2.length : Int) = (l1.length : Int)
        · rw [if_pos c8] at H
          have c8b0 : ((l2.length : Int) == (l1.length : Int)) = true := beq_iff_eq.mpr c8
          have c8b1 : ((l2.length : Int) != (l1.length : Int)) = false := bne_eq_false_iff_eq.mpr c8
          have c8b2 : (l2.length == l1.length) = true := by first | simpa using c8 | (simp at c8 ⊢; omega)
          clear c8
          have H' := Aside0.mk H
          clear H
          go_wp2
          go_meet
          case rel => exact ⟨_, (((l3.length : Int) != (l1.length : Int))), (by first | rfl | (simp; done) | (simp [*]; done)), H', ⟨by first | omega | exact Nat.le_refl _⟩, ⟨by repeat (first | (with_reducible first | exact HB.out | apply below_alloc | apply pw_below_drewN | apply below_drew1) | exact HB.out)⟩⟩
        · rw [if_neg c8] at H
          have c8b0 : ((l2.length : Int) == (l1.length : Int)) = false := beq_eq_false_iff_ne.mpr c8
          have c8b1 : ((l2.length : Int) != (l1.length : Int)) = true := bne_iff_ne.mpr c8
          have c8b2 : (l2.length == l1.length) = false := by first | simpa using c8 | (simp at c8 ⊢; omega)
          have H' := Aside0.mk H
          clear H
          go_wp2
          go_meet
          case rel => exact ⟨_, (true), (by first | rfl | (simp; done) | (simp [*]; done)), H', ⟨by first | omega | exact Nat.le_refl _⟩, ⟨by repeat (first | (with_reducible first | exact HB.out | apply below_alloc | apply pw_below_drewN | apply below_drew1) | exact HB.out)⟩⟩
  case rest =>
    clear HC5
    try clear c1
    try clear c2
    try clear p2
    try clear c3
    try clear c6
    try clear c6b0
    try clear c7
    try clear c7b0
    try clear c8
    try clear c8b0
    try clear c8b1
    try clear c8b2
    obtain ⟨kq, x33_4, rfl, HA, HJ4, HB⟩ := hcut
    cases kq with
    | zero => exact absurd HA.out (by simp [remap_Carry.j0])
    | succ kj4 =>
      have H := HA.out
      clear HA
      simp only [remap_Carry.j0] at H
      by_cases c9 : x33_4 = true
      · subst c9
        have H1 : (some ([] : List Bool)) = some r := by rw [if_pos rfl] at H; exact H
        clear H
        have H := H1
        clear H1
        obtain rfl := Option.some.inj H
        go_wp2
        go_ret
        exact ⟨_, by first | rfl | (simp [errW_none, errW_some] <;> rfl) | (simp [*, errW_none, errW_some] <;> rfl), by first | exact Kd.R_nil _ _ _ _ _ | exact Kd.N_nil _ _ _ _ _ | exact Kd.V_nil _ _ _ _ _ | exact Kd.Q_nil _ _ _ _ _ | exact Kd.S_nil _ _ _ _ _, by repeat (first | (with_reducible first | exact HB.out | apply below_alloc | apply pw_below_drewN | apply below_drew1) | exact HB.out)⟩
      · replace c9 := Bool.eq_false_iff.mpr c9
        subst c9
        have H1 : ((live_New.f a0).bind fun t129 => (remap_Carry.l0 kj4 a0 l2 l3 t129 l1 (l1.length : Int) 0)) = some r := by rw [if_neg (show ¬ (false = true) by decide)] at H; exact H
        clear H
        have H := H1
        clear H1
        replace H := Option.bind_eq_some_iff.mp H
        obtain ⟨t129, A100, H⟩ := H
        replace H : (remap_Carry.l0 kj4 a0 l2 l3 t129 l1 (l1.length : Int) 0) = some r := H
        have A10 := Aside0.mk A100
        clear A100
        have H' := Aside0.mk H
        clear H
        go_wp2_with (first | ((with_reducible refine gate_callee (f := 36) rfl ?_); refine goesL_ (some 35) rfl rfl Try.func36 (by kernel_rfl) rfl #[.int .i64 a0] rfl (by (try simp only [List.map_toArray, List.map_cons, List.map_nil]); first | done | rfl | (simp only [List.length_drop, List.length_take]; rfl)) ?_; (with_reducible refine (live_New.calls a0 t129 _ A10.out).mono ?_); rintro e w11 ⟨v130, rfl, ho0, hb⟩; refine ⟨_, rfl, ?_⟩; have n0_ := Aside0.mk (Kd.R_lower ho0 (below_size (by repeat (first | (with_reducible first | exact HB.out | apply below_alloc | apply pw_below_drewN | apply below_drew1) | exact HB.out)))); have n1_ := Aside0.mk (below_step (by repeat (first | (with_reducible first | exact HB.out | apply below_alloc | apply pw_below_drewN | apply below_drew1) | exact HB.out)) hb); clear HB; have HO131 := n0_; have HB := n1_; clear n0_ n1_; (try clear hb); (try clear hb2); (try clear hk); (try clear hi); (try clear ho0)))
        go_loopg [38] kj4 (fun kq v38 w' => ∃ (x9_2 : List Bool) (x38_2 : Int), v38 = .int .i64 x38_2 ∧ Aside0 (remap_Carry.l0 kq a0 l2 l3 x9_2 l1 (l1.length : Int) x38_2 = some r) ∧ Aside0 (kq ≤ kj4) ∧ Aside0 (Kd.R Kd.bool 4 w' w.heap.size (fun _ => True) v130 x9_2) ∧ Aside0 (Below w.heap.size w w'))
        case atStart => exact ⟨(t129), (0), (by first | rfl | (simp; done) | (simp [*]; done)), H', ⟨Nat.le_refl _⟩, ⟨by (with_reducible repeat (first | apply Kd.R_alloc | apply Kd.R_drewN | apply Kd.R_drew)); exact HO131.out⟩, ⟨by repeat (first | (with_reducible first | exact HB.out | apply below_alloc | apply pw_below_drewN | apply below_drew1) | exact HB.out)⟩⟩
        case round =>
          clear H'
          try clear c1
          try clear c2
          try clear p2
          try clear c3
          try clear c6
          try clear c6b0
          try clear c7
          try clear c7b0
          try clear c8
          try clear c8b0
          try clear c8b1
          try clear c8b2
          try clear c9
          try clear p2
          obtain ⟨x9_2, x38_2, rfl, HA, HK2, HO_9, HB⟩ := hrel
          cases gk with
          | zero => exact absurd HA.out (by simp [remap_Carry.l0])
          | succ k2 =>
            have H := HA.out
            clear HA
            simp only [remap_Carry.l0] at H
            by_cases c12 : x38_2 < (l1.length : Int)
            · rw [if_pos c12] at H
              have c12b0 : decide (x38_2 < (l1.length : Int)) = true := decide_eq_true c12
              clear c12
              by_cases c13 : 0 ≤ x38_2
              · rw [if_pos c13] at H
                have c13b0 : decide (0 ≤ x38_2) = true := decide_eq_true c13
                clear c13
                by_cases c14 : x38_2 < (l1.length : Int)
                · rw [if_pos c14] at H
                  have c14b0 : decide (x38_2 < (l1.length : Int)) = true := decide_eq_true c14
                  clear c14
                  have HC15 := Aside0.mk H
                  clear H
                  have p132 : 0 ≤ (x38_2 : Int) := of_decide_eq_true (by first | (with_reducible assumption) | assumption)
                  have q132 : x38_2 < (l1.length : Int) := of_decide_eq_true (by first | (with_reducible assumption) | assumption)
                  obtain ⟨ad132, A132_0, c132_0, e132, hx132_0, hl132_0, hi132_0⟩ := at_L3 HR1.out x38_2 p132 q132
                  cases e132
                  replace hx132_0 := (HB.out.cell (World.block_lt_of_cell? w _ hx132_0)).trans hx132_0
                  have HR132_0 := Aside0.mk hi132_0
                  have HC132_0 := Aside0.mk hl132_0
                  clear hi132_0 hl132_0
                  replace p132 := eq_true p132
                  replace q132 := eq_true q132
                  go_upto_region 7 with (fail)
                  go_cut [60] (fun v60 wc => ∃ (kq : Nat) (x60_14 : Bool), v60 = .bool x60_14 ∧ Aside0 (remap_Carry.j2 kq a0 l2 l3 x9_2 x38_2 (rd_L3 l1 x38_2) l1 (l1.length : Int) x38_2 x60_14 = some r) ∧ Aside0 (kq ≤ k2) ∧ Aside0 (Kd.R Kd.bool 4 wc w.heap.size (fun _ => True) v130 x9_2) ∧ Aside0 (Below w.heap.size w wc))
                  case first =>
                    have H := HC15.out
                    clear HC15
                    by_cases c16 : x38_2 < (l2.length : Int)
                    · rw [if_pos c16] at H
                      have c16b0 : decide (x38_2 < (l2.length : Int)) = true := decide_eq_true c16
                      clear c16
                      (first | rw [c16b0] | (simp only [i64_w, i32_w]; rw [c16b0]) | skip)
                      by_cases c17 : ((rd_L2 l2 x38_2).length : Int) = ((rd_L3 l1 x38_2).length : Int)
                      · rw [if_pos c17] at H
                        have c17b0 : (((rd_L2 l2 x38_2).length : Int) == ((rd_L3 l1 x38_2).length : Int)) = true := beq_iff_eq.mpr c17
                        have c17b1 : (((rd_L2 l2 x38_2).length : Int) != ((rd_L3 l1 x38_2).length : Int)) = false := bne_eq_false_iff_eq.mpr c17
                        have c17b2 : ((rd_L2 l2 x38_2).length == (rd_L3 l1 x38_2).length) = true := by first | simpa using c17 | (simp at c17 ⊢; omega)
                        clear c17
                        by_cases c18 : x38_2 < (l3.length : Int)
                        · rw [if_pos c18] at H
                          have c18b0 : decide (x38_2 < (l3.length : Int)) = true := decide_eq_true c18
                          clear c18
                          have H' := Aside0.mk H
                          clear H
                          have p133 : 0 ≤ (x38_2 : Int) := of_decide_eq_true (by first | (with_reducible assumption) | assumption)
                          have q133 : x38_2 < (l2.length : Int) := of_decide_eq_true (by first | (with_reducible assumption) | assumption)
                          obtain ⟨ad133, A133_0, c133_0, e133, hx133_0, hl133_0, hi133_0⟩ := at_L2 HR2.out x38_2 p133 q133
                          cases e133
                          replace hx133_0 := (HB.out.cell (World.block_lt_of_cell? w _ hx133_0)).trans hx133_0
                          have HR133_0 := Aside0.mk hi133_0
                          have HC133_0 := Aside0.mk hl133_0
                          clear hi133_0 hl133_0
                          replace p133 := eq_true p133
                          replace q133 := eq_true q133
                          have p134 : 0 ≤ (x38_2 : Int) := of_decide_eq_true (by first | (with_reducible assumption) | assumption)
                          have q134 : x38_2 < (l3.length : Int) := of_decide_eq_true (by first | (with_reducible assumption) | assumption)
                          obtain ⟨ad134, A134_0, c134_0, e134, hx134_0, hl134_0, hi134_0⟩ := at_L2 HR3.out x38_2 p134 q134
                          cases e134
                          replace hx134_0 := (HB.out.cell (World.block_lt_of_cell? w _ hx134_0)).trans hx134_0
                          have HR134_0 := Aside0.mk hi134_0
                          have HC134_0 := Aside0.mk hl134_0
                          clear hi134_0 hl134_0
                          replace p134 := eq_true p134
                          replace q134 := eq_true q134
                          go_wp2
                          go_meet
                          case rel => exact ⟨_, ((((rd_L2 l3 x38_2).length : Int) != ((rd_L3 l1 x38_2).length : Int))), (by first | rfl | (simp; done) | (simp [*]; done)), H', ⟨by have := HJ4.out; have := HK2.out; first | omega | exact Nat.le_refl _⟩, ⟨by (with_reducible repeat (first | apply Kd.R_alloc | apply Kd.R_drewN | apply Kd.R_drew)); exact HO_9.out⟩, ⟨by repeat (first | (with_reducible first | exact HB.out | apply below_alloc | apply pw_below_drewN | apply below_drew1) | exact HB.out)⟩⟩
                        · rw [if_neg c18] at H
                          exact absurd H (by simp)
                      · rw [if_neg c17] at H
                        have c17b0 : (((rd_L2 l2 x38_2).length : Int) == ((rd_L3 l1 x38_2).length : Int)) = false := beq_eq_false_iff_ne.mpr c17
                        have c17b1 : (((rd_L2 l2 x38_2).length : Int) != ((rd_L3 l1 x38_2).length : Int)) = true := bne_iff_ne.mpr c17
                        have c17b2 : ((rd_L2 l2 x38_2).length == (rd_L3 l1 x38_2).length) = false := by first | simpa using c17 | (simp at c17 ⊢; omega)
                        have H' := Aside0.mk H
                        clear H
                        have p133 : 0 ≤ (x38_2 : Int) := of_decide_eq_true (by first | (with_reducible assumption) | assumption)
                        have q133 : x38_2 < (l2.length : Int) := of_decide_eq_true (by first | (with_reducible assumption) | assumption)
                        obtain ⟨ad133, A133_0, c133_0, e133, hx133_0, hl133_0, hi133_0⟩ := at_L2 HR2.out x38_2 p133 q133
                        cases e133
                        replace hx133_0 := (HB.out.cell (World.block_lt_of_cell? w _ hx133_0)).trans hx133_0
                        have HR133_0 := Aside0.mk hi133_0
                        have HC133_0 := Aside0.mk hl133_0
                        clear hi133_0 hl133_0
                        replace p133 := eq_true p133
                        replace q133 := eq_true q133
                        go_wp2
                        go_meet
                        case rel => exact ⟨_, (true), (by first | rfl | (simp; done) | (simp [*]; done)), H', ⟨by have := HJ4.out; have := HK2.out; first | omega | exact Nat.le_refl _⟩, ⟨by (with_reducible repeat (first | apply Kd.R_alloc | apply Kd.R_drewN | apply Kd.R_drew)); exact HO_9.out⟩, ⟨by repeat (first | (with_reducible first | exact HB.out | apply below_alloc | apply pw_below_drewN | apply below_drew1) | exact HB.out)⟩⟩
                    · rw [if_neg c16] at H
                      exact absurd H (by simp)
                  case rest =>
                    clear HC15
                    try clear c1
                    try clear p1
                    try clear q1
                    try clear hx1
                    try clear c2
                    try clear p2
                    try clear c3
                    try clear c6
                    try clear c6b0
                    try clear c7
                    try clear c7b0
                    try clear c8
                    try clear c8b0
                    try clear c8b1
                    try clear c8b2
                    try clear c9
                    try clear c12
                    try clear c12b0
                    try clear c13
                    try clear c13b0
                    try clear p13
                    try clear q13
                    try clear hx13
                    try clear c14
                    try clear c14b0
                    try clear c16
                    try clear c16b0
                    try clear c17
                    try clear c17b0
                    try clear c17b1
                    try clear c17b2
                    try clear c18
                    try clear c18b0
                    try clear hx132_0
                    try clear hx133_0
                    try clear hx134_0
                    try clear p132
                    try clear p133
                    try clear p134
                    try clear p2
                    try clear q132
                    try clear q133
                    try clear q134
                    obtain ⟨kq, x60_14, rfl, HA, HJ14, HO_9, HB⟩ := hcut
                    cases kq with
                    | zero => exact absurd HA.out (by simp [remap_Carry.j2])
                    | succ kj14 =>
                      have H := HA.out
                      clear HA
                      simp only [remap_Carry.j2] at H
                      by_cases c19 : x60_14 = true
                      · subst c19
                        have H1 : (some ([] : List Bool)) = some r := by rw [if_pos rfl] at H; exact H
                        clear H
                        have H := H1
                        clear H1
                        obtain rfl := Option.some.inj H
                        go_wp2
                        go_ret
                        exact ⟨_, by first | rfl | (simp [errW_none, errW_some] <;> rfl) | (simp [*, errW_none, errW_some] <;> rfl), by first | exact Kd.R_nil _ _ _ _ _ | exact Kd.N_nil _ _ _ _ _ | exact Kd.V_nil _ _ _ _ _ | exact Kd.Q_nil _ _ _ _ _ | exact Kd.S_nil _ _ _ _ _, by repeat (first | (with_reducible first | exact HB.out | apply below_alloc | apply pw_below_drewN | apply below_drew1) | exact HB.out)⟩
                      · replace c19 := Bool.eq_false_iff.mpr c19
                        subst c19
                        have H1 : (remap_Carry.l1 kj14 a0 l2 l3 x9_2 x38_2 l1 (l1.length : Int) x38_2 (rd_L3 l1 x38_2) ((rd_L3 l1 x38_2).length : Int) 0) = some r := by rw [if_neg (show ¬ (false = true) by decide)] at H; exact H
                        clear H
                        have H := H1
                        clear H1
                        have H' := Aside0.mk H
                        clear H
                        go_wp2
                        go_loopg [63] kj14 (fun kq v63 w' => ∃ (x9_4 : List Bool) (x63_4 : Int), v63 = .int .i64 x63_4 ∧ Aside0 (remap_Carry.l1 kq a0 l2 l3 x9_4 x38_2 l1 (l1.length : Int) x38_2 (rd_L3 l1 x38_2) ((rd_L3 l1 x38_2).length : Int) x63_4 = some r) ∧ Aside0 (kq ≤ kj14) ∧ Aside0 (Kd.R Kd.bool 4 w' w.heap.size (fun _ => True) v130 x9_4) ∧ Aside0 (Below w.heap.size w w'))
                        case atStart => exact ⟨(x9_2), (0), (by first | rfl | (simp; done) | (simp [*]; done)), H', ⟨Nat.le_refl _⟩, ⟨by (with_reducible repeat (first | apply Kd.R_alloc | apply Kd.R_drewN | apply Kd.R_drew)); exact HO_9.out⟩, ⟨by repeat (first | (with_reducible first | exact HB.out | apply below_alloc | apply pw_below_drewN | apply below_drew1) | exact HB.out)⟩⟩
                        case round =>
                          clear H'
                          try clear c1
                          try clear p1
                          try clear q1
                          try clear hx1
                          try clear c2
                          try clear p2
                          try clear c3
                          try clear c6
                          try clear c6b0
                          try clear c7
                          try clear c7b0
                          try clear c8
                          try clear c8b0
                          try clear c8b1
                          try clear c8b2
                          try clear c9
                          try clear c12
                          try clear c12b0
                          try clear c13
                          try clear c13b0
                          try clear p13
                          try clear q13
                          try clear hx13
                          try clear c14
                          try clear c14b0
                          try clear c16
                          try clear c16b0
                          try clear c17
                          try clear c17b0
                          try clear c17b1
                          try clear c17b2
                          try clear c18
                          try clear c18b0
                          try clear c19
                          try clear hx132_0
                          try clear hx133_0
                          try clear hx134_0
                          try clear p1
                          try clear p13
                          try clear p132
                          try clear p133
                          try clear p134
                          try clear p2
                          try clear q1
                          try clear q13
                          try clear q132
                          try clear q133
                          try clear q134
                          obtain ⟨x9_4, x63_4, rfl, HA, HK4, HO_9, HB⟩ := hrel
                          cases gk with
                          | zero => exact absurd HA.out (by simp [remap_Carry.l1])
                          | succ k4 =>
                            have H := HA.out
                            clear HA
                            simp only [remap_Carry.l1] at H
                            by_cases c20 : x63_4 < ((rd_L3 l1 x38_2).length : Int)
                            · rw [if_pos c20] at H
                              have c20b0 : decide (x63_4 < ((rd_L3 l1 x38_2).length : Int)) = true := decide_eq_true c20
                              clear c20
                              by_cases c21 : 0 ≤ x63_4
                              · rw [if_pos c21] at H
                                have c21b0 : decide (0 ≤ x63_4) = true := decide_eq_true c21
                                clear c21
                                by_cases c22 : x63_4 < ((rd_L3 l1 x38_2).length : Int)
                                · rw [if_pos c22] at H
                                  have c22b0 : decide (x63_4 < ((rd_L3 l1 x38_2).length : Int)) = true := decide_eq_true c22
                                  clear c22
                                  by_cases c23 : (rd (rd_L3 l1 x38_2) x63_4) ≥ 0
                                  · rw [if_pos c23] at H
                                    have c23b0 : decide (0 ≤ (rd (rd_L3 l1 x38_2) x63_4)) = true := decide_eq_true c23
                                    clear c23
                                    by_cases c24 : (rd (rd_L3 l1 x38_2) x63_4) < a0
                                    · rw [if_pos c24] at H
                                      have c24b0 : decide ((rd (rd_L3 l1 x38_2) x63_4) < a0) = true := decide_eq_true c24
                                      clear c24
                                      by_cases c25 : 0 ≤ x38_2
                                      · rw [if_pos c25] at H
                                        have c25b0 : decide (0 ≤ x38_2) = true := decide_eq_true c25
                                        clear c25
                                        by_cases c26 : x38_2 < (l2.length : Int)
                                        · rw [if_pos c26] at H
                                          have c26b0 : decide (x38_2 < (l2.length : Int)) = true := decide_eq_true c26
                                          clear c26
                                          by_cases c27 : x63_4 < ((rd_L2 l2 x38_2).length : Int)
                                          · rw [if_pos c27] at H
                                            have c27b0 : decide (x63_4 < ((rd_L2 l2 x38_2).length : Int)) = true := decide_eq_true c27
                                            clear c27
                                            obtain ⟨bq28, hbq28⟩ : ∃ b_ : Bool, b_ = (rdOf false (rd_L2 l2 x38_2) x63_4) := ⟨_, rfl⟩
                                            replace H : (if bq28 = true then (if x38_2 < (l3.length : Int) then (if x63_4 < ((rd_L2 l3 x38_2).length : Int) then (if (rdOf false (rd_L2 l3 x38_2) x63_4 = true) then (remap_Carry.l1 k4 a0 l2 l3 x9_4 x38_2 l1 (l1.length : Int) x38_2 (rd_L3 l1 x38_2) ((rd_L3 l1 x38_2).length : Int) (wrap64 (x63_4 + 1))) else (if 0 ≤ (rd (rd_L3 l1 x38_2) x63_4) then (if (rd (rd_L3 l1 x38_2) x63_4) < (x9_4.length : Int) then (remap_Carry.l1 k4 a0 l2 l3 (x9_4.set ((rd (rd_L3 l1 x38_2) x63_4) : Int).toNat false) x38_2 l1 (l1.length : Int) x38_2 (rd_L3 l1 x38_2) ((rd_L3 l1 x38_2).length : Int) (wrap64 (x63_4 + 1))) else (none)) else (none))) else (none)) else (none)) else (remap_Carry.l1 k4 a0 l2 l3 x9_4 x38_2 l1 (l1.length : Int) x38_2 (rd_L3 l1 x38_2) ((rd_L3 l1 x38_2).length : Int) (wrap64 (x63_4 + 1)))) = some r := by rw [← hbq28] at H; exact H
                                            have Nbq28 := Aside0.mk hbq28
                                            clear hbq28
                                            by_cases c29 : bq28 = true
                                            · subst c29
                                              have H1 : (if x38_2 < (l3.length : Int) then (if x63_4 < ((rd_L2 l3 x38_2).length : Int) then (if (rdOf false (rd_L2 l3 x38_2) x63_4 = true) then (remap_Carry.l1 k4 a0 l2 l3 x9_4 x38_2 l1 (l1.length : Int) x38_2 (rd_L3 l1 x38_2) ((rd_L3 l1 x38_2).length : Int) (wrap64 (x63_4 + 1))) else (if 0 ≤ (rd (rd_L3 l1 x38_2) x63_4) then (if (rd (rd_L3 l1 x38_2) x63_4) < (x9_4.length : Int) then (remap_Carry.l1 k4 a0 l2 l3 (x9_4.set ((rd (rd_L3 l1 x38_2) x63_4) : Int).toNat false) x38_2 l1 (l1.length : Int) x38_2 (rd_L3 l1 x38_2) ((rd_L3 l1 x38_2).length : Int) (wrap64 (x63_4 + 1))) else (none)) else (none))) else (none)) else (none)) = some r := by rw [if_pos rfl] at H; exact H
                                              clear H
                                              have H := H1
                                              clear H1
                                              by_cases c30 : x38_2 < (l3.length : Int)
                                              · rw [if_pos c30] at H
                                                have c30b0 : decide (x38_2 < (l3.length : Int)) = true := decide_eq_true c30
                                                clear c30
                                                by_cases c31 : x63_4 < ((rd_L2 l3 x38_2).length : Int)
                                                · rw [if_pos c31] at H
                                                  have c31b0 : decide (x63_4 < ((rd_L2 l3 x38_2).length : Int)) = true := decide_eq_true c31
                                                  clear c31
                                                  obtain ⟨bq32, hbq32⟩ : ∃ b_ : Bool, b_ = (rdOf false (rd_L2 l3 x38_2) x63_4) := ⟨_, rfl⟩
                                                  replace H : (if (bq32 = true) then (remap_Carry.l1 k4 a0 l2 l3 x9_4 x38_2 l1 (l1.length : Int) x38_2 (rd_L3 l1 x38_2) ((rd_L3 l1 x38_2).length : Int) (wrap64 (x63_4 + 1))) else (if 0 ≤ (rd (rd_L3 l1 x38_2) x63_4) then (if (rd (rd_L3 l1 x38_2) x63_4) < (x9_4.length : Int) then (remap_Carry.l1 k4 a0 l2 l3 (x9_4.set ((rd (rd_L3 l1 x38_2) x63_4) : Int).toNat false) x38_2 l1 (l1.length : Int) x38_2 (rd_L3 l1 x38_2) ((rd_L3 l1 x38_2).length : Int) (wrap64 (x63_4 + 1))) else (none)) else (none))) = some r := by rw [← hbq32] at H; exact H
                                                  have Nbq32 := Aside0.mk hbq32
                                                  clear hbq32
                                                  by_cases c33 : (bq32 = true)
                                                  · subst c33
                                                    have H1 : (remap_Carry.l1 k4 a0 l2 l3 x9_4 x38_2 l1 (l1.length : Int) x38_2 (rd_L3 l1 x38_2) ((rd_L3 l1 x38_2).length : Int) (wrap64 (x63_4 + 1))) = some r := by rw [if_pos rfl] at H; exact H
                                                    clear H
                                                    have H := H1
                                                    clear H1
                                                    have H' := Aside0.mk H
                                                    clear H
                                                    have p135 : 0 ≤ (x63_4 : Int) := of_decide_eq_true (by first | (with_reducible assumption) | assumption)
                                                    have q135 : x63_4 < ((rd_L3 l1 x38_2).length : Int) := of_decide_eq_true (by first | (with_reducible assumption) | assumption)
                                                    obtain ⟨ad135, e135, hx135_0⟩ := Kd.at_int HR132_0.out x63_4 p135 q135
                                                    cases e135
                                                    replace hx135_0 := (HB.out.cell (World.block_lt_of_cell? w _ hx135_0)).trans hx135_0
                                                    replace p135 := eq_true p135
                                                    replace q135 := eq_true q135
                                                    have p136 : 0 ≤ (x38_2 : Int) := of_decide_eq_true (by first | (with_reducible assumption) | assumption)
                                                    have q136 : x38_2 < (l2.length : Int) := of_decide_eq_true (by first | (with_reducible assumption) | assumption)
                                                    obtain ⟨ad136, A136_0, c136_0, e136, hx136_0, hl136_0, hi136_0⟩ := at_L2 HR2.out x38_2 p136 q136
                                                    cases e136
                                                    replace hx136_0 := (HB.out.cell (World.block_lt_of_cell? w _ hx136_0)).trans hx136_0
                                                    have HR136_0 := Aside0.mk hi136_0
                                                    have HC136_0 := Aside0.mk hl136_0
                                                    clear hi136_0 hl136_0
                                                    replace p136 := eq_true p136
                                                    replace q136 := eq_true q136
                                                    have p137 : 0 ≤ (x63_4 : Int) := of_decide_eq_true (by first | (with_reducible assumption) | assumption)
                                                    have q137 : x63_4 < ((rd_L2 l2 x38_2).length : Int) := of_decide_eq_true (by first | (with_reducible assumption) | assumption)
                                                    obtain ⟨ad137, e137, hx137_0⟩ := Kd.at_bool HR136_0.out x63_4 p137 q137
                                                    (try rw [← Nbq28.out] at hx137_0)
                                                    (try rw [← Nbq32.out] at hx137_0)
                                                    cases e137
                                                    replace hx137_0 := (HB.out.cell (World.block_lt_of_cell? w _ hx137_0)).trans hx137_0
                                                    replace p137 := eq_true p137
                                                    replace q137 := eq_true q137
                                                    have p138 : 0 ≤ (x38_2 : Int) := of_decide_eq_true (by first | (with_reducible assumption) | assumption)
                                                    have q138 : x38_2 < (l3.length : Int) := of_decide_eq_true (by first | (with_reducible assumption) | assumption)
                                                    obtain ⟨ad138, A138_0, c138_0, e138, hx138_0, hl138_0, hi138_0⟩ := at_L2 HR3.out x38_2 p138 q138
                                                    cases e138
                                                    replace hx138_0 := (HB.out.cell (World.block_lt_of_cell? w _ hx138_0)).trans hx138_0
                                                    have HR138_0 := Aside0.mk hi138_0
                                                    have HC138_0 := Aside0.mk hl138_0
                                                    clear hi138_0 hl138_0
                                                    replace p138 := eq_true p138
                                                    replace q138 := eq_true q138
                                                    have p139 : 0 ≤ (x63_4 : Int) := of_decide_eq_true (by first | (with_reducible assumption) | assumption)
                                                    have q139 : x63_4 < ((rd_L2 l3 x38_2).length : Int) := of_decide_eq_true (by first | (with_reducible assumption) | assumption)
                                                    obtain ⟨ad139, e139, hx139_0⟩ := Kd.at_bool HR138_0.out x63_4 p139 q139
                                                    (try rw [← Nbq28.out] at hx139_0)
                                                    (try rw [← Nbq32.out] at hx139_0)
                                                    cases e139
                                                    replace hx139_0 := (HB.out.cell (World.block_lt_of_cell? w _ hx139_0)).trans hx139_0
                                                    replace p139 := eq_true p139
                                                    replace q139 := eq_true q139
                                                    go_wp2
                                                    go_roundg k4
                                                    case measure => have := HJ4.out; have := HK2.out; have := HJ14.out; have := HK4.out; omega
                                                    case rel => exact ⟨(x9_4), (wrap64 (x63_4 + 1)), (by first | rfl | (simp; done) | (simp [*]; done)), H', ⟨by have := HJ4.out; have := HK2.out; have := HJ14.out; have := HK4.out; omega⟩, ⟨by (with_reducible repeat (first | apply Kd.R_alloc | apply Kd.R_drewN | apply Kd.R_drew)); exact HO_9.out⟩, ⟨by repeat (first | (with_reducible first | exact HB.out | apply below_alloc | apply pw_below_drewN | apply below_drew1) | exact HB.out)⟩⟩
                                                  · replace c33 := Bool.eq_false_iff.mpr c33
                                                    subst c33
                                                    have H1 : (if 0 ≤ (rd (rd_L3 l1 x38_2) x63_4) then (if (rd (rd_L3 l1 x38_2) x63_4) < (x9_4.length : Int) then (remap_Carry.l1 k4 a0 l2 l3 (x9_4.set ((rd (rd_L3 l1 x38_2) x63_4) : Int).toNat false) x38_2 l1 (l1.length : Int) x38_2 (rd_L3 l1 x38_2) ((rd_L3 l1 x38_2).length : Int) (wrap64 (x63_4 + 1))) else (none)) else (none)) = some r := by rw [if_neg (show ¬ (false = true) by decide)] at H; exact H
                                                    clear H
                                                    have H := H1
                                                    clear H1
                                                    by_cases c34 : 0 ≤ (rd (rd_L3 l1 x38_2) x63_4)
                                                    · rw [if_pos c34] at H
                                                      have c34b0 : decide (0 ≤ (rd (rd_L3 l1 x38_2) x63_4)) = true := decide_eq_true c34
                                                      clear c34
                                                      by_cases c35 : (rd (rd_L3 l1 x38_2) x63_4) < (x9_4.length : Int)
                                                      · rw [if_pos c35] at H
                                                        have c35b0 : decide ((rd (rd_L3 l1 x38_2) x63_4) < (x9_4.length : Int)) = true := decide_eq_true c35
                                                        clear c35
                                                        obtain ⟨y140, hy140⟩ : ∃ y_ : List Bool, y_ = (x9_4.set ((rd (rd_L3 l1 x38_2) x63_4) : Int).toNat false) := ⟨_, rfl⟩
                                                        replace H : (remap_Carry.l1 k4 a0 l2 l3 y140 x38_2 l1 (l1.length : Int) x38_2 (rd_L3 l1 x38_2) ((rd_L3 l1 x38_2).length : Int) (wrap64 (x63_4 + 1))) = some r := by first | (rw [hy140]; with_reducible exact H) | (have H2_ := (Option.bind_some _ _).symm.trans H; rw [hy140]; with_reducible exact H2_) | (have H2_ := (Option.bind_some _ _).symm.trans H; with_reducible exact H2_) | with_reducible exact H | (rw [hy140]; exact H) | exact H
                                                        have Ny140 := Aside0.mk hy140
                                                        clear hy140
                                                        have H' := Aside0.mk H
                                                        clear H
                                                        have p135 : 0 ≤ (x63_4 : Int) := of_decide_eq_true (by first | (with_reducible assumption) | assumption)
                                                        have q135 : x63_4 < ((rd_L3 l1 x38_2).length : Int) := of_decide_eq_true (by first | (with_reducible assumption) | assumption)
                                                        obtain ⟨ad135, e135, hx135_0⟩ := Kd.at_int HR132_0.out x63_4 p135 q135
                                                        cases e135
                                                        replace hx135_0 := (HB.out.cell (World.block_lt_of_cell? w _ hx135_0)).trans hx135_0
                                                        replace p135 := eq_true p135
                                                        replace q135 := eq_true q135
                                                        have p136 : 0 ≤ (x38_2 : Int) := of_decide_eq_true (by first | (with_reducible assumption) | assumption)
                                                        have q136 : x38_2 < (l2.length : Int) := of_decide_eq_true (by first | (with_reducible assumption) | assumption)
                                                        obtain ⟨ad136, A136_0, c136_0, e136, hx136_0, hl136_0, hi136_0⟩ := at_L2 HR2.out x38_2 p136 q136
                                                        cases e136
                                                        replace hx136_0 := (HB.out.cell (World.block_lt_of_cell? w _ hx136_0)).trans hx136_0
                                                        have HR136_0 := Aside0.mk hi136_0
                                                        have HC136_0 := Aside0.mk hl136_0
                                                        clear hi136_0 hl136_0
                                                        replace p136 := eq_true p136
                                                        replace q136 := eq_true q136
                                                        have p137 : 0 ≤ (x63_4 : Int) := of_decide_eq_true (by first | (with_reducible assumption) | assumption)
                                                        have q137 : x63_4 < ((rd_L2 l2 x38_2).length : Int) := of_decide_eq_true (by first | (with_reducible assumption) | assumption)
                                                        obtain ⟨ad137, e137, hx137_0⟩ := Kd.at_bool HR136_0.out x63_4 p137 q137
                                                        (try rw [← Nbq28.out] at hx137_0)
                                                        (try rw [← Nbq32.out] at hx137_0)
                                                        cases e137
                                                        replace hx137_0 := (HB.out.cell (World.block_lt_of_cell? w _ hx137_0)).trans hx137_0
                                                        replace p137 := eq_true p137
                                                        replace q137 := eq_true q137
                                                        have p138 : 0 ≤ (x38_2 : Int) := of_decide_eq_true (by first | (with_reducible assumption) | assumption)
                                                        have q138 : x38_2 < (l3.length : Int) := of_decide_eq_true (by first | (with_reducible assumption) | assumption)
                                                        obtain ⟨ad138, A138_0, c138_0, e138, hx138_0, hl138_0, hi138_0⟩ := at_L2 HR3.out x38_2 p138 q138
                                                        cases e138
                                                        replace hx138_0 := (HB.out.cell (World.block_lt_of_cell? w _ hx138_0)).trans hx138_0
                                                        have HR138_0 := Aside0.mk hi138_0
                                                        have HC138_0 := Aside0.mk hl138_0
                                                        clear hi138_0 hl138_0
                                                        replace p138 := eq_true p138
                                                        replace q138 := eq_true q138
                                                        have p139 : 0 ≤ (x63_4 : Int) := of_decide_eq_true (by first | (with_reducible assumption) | assumption)
                                                        have q139 : x63_4 < ((rd_L2 l3 x38_2).length : Int) := of_decide_eq_true (by first | (with_reducible assumption) | assumption)
                                                        obtain ⟨ad139, e139, hx139_0⟩ := Kd.at_bool HR138_0.out x63_4 p139 q139
                                                        (try rw [← Nbq28.out] at hx139_0)
                                                        (try rw [← Nbq32.out] at hx139_0)
                                                        cases e139
                                                        replace hx139_0 := (HB.out.cell (World.block_lt_of_cell? w _ hx139_0)).trans hx139_0
                                                        replace p139 := eq_true p139
                                                        replace q139 := eq_true q139
                                                        have p36 : 0 ≤ ((rd (rd_L3 l1 x38_2) x63_4) : Int) := of_decide_eq_true (by first | (with_reducible assumption) | assumption)
                                                        have q36 : ((rd (rd_L3 l1 x38_2) x63_4) : Int) < ((x9_4.length : Int) : Int) := of_decide_eq_true (by first | (with_reducible assumption) | assumption)
                                                        obtain ⟨go36, co36, eo36, gb36, gl36, cl36, HG36⟩ := Kd.R_form HO_9.out (by omega)
                                                        (first | cases eo36 | (injection eo36 with ea_ en_ ec_; (first | subst ea_ | (injection ea_ with ea_; subst ea_)); subst ec_; clear en_))
                                                        have GB36 := Aside0.mk gb36
                                                        have GG36 := Aside0.mk HG36
                                                        clear gb36 gl36 HG36
                                                        obtain ⟨hx36_0, hf36_0⟩ := Kd.R_celln false HO_9.out ((rd (rd_L3 l1 x38_2) x63_4) : Int) p36 q36
                                                        replace p36 := eq_true p36
                                                        replace q36 := eq_true q36
                                                        have HP37 := Kd.R_putg HO_9.out ((rd (rd_L3 l1 x38_2) x63_4) : Int) false
                                                        go_wp2_with (first | ((with_reducible refine gate_store (t := 4) (p := 96) rfl ?_); refine store_event (t := 4) (p := 96) (v := ?vo_w38) (w1 := (wr.setCell ⟨go36, ((rd (rd_L3 l1 x38_2) x63_4) : Int).toNat, none⟩ (.bool false))) ?hg ?ho ?hn ?hr ?_; (case ho => rfl); (case hg => rfl); (case hn => rfl); (case hr => first | (go_simp; done) | (go_simp; rfl)); intro w38 hw; have hg : wr.grownBy w38 (some go36) := (by rw [hw]; exact HP37.2); have hp_ : Kd.R Kd.bool 4 w38 w.heap.size (fun _ => True) (.slice (some ⟨go36, 0, none⟩) x9_4.length co36) y140 := (by rw [hw, Ny140.out]; exact HP37.1); clear HP37; have n0_ := Aside0.mk (hp_); have n1_ := Aside0.mk ((by rw [hw]; exact below_set (HB.out) GB36.out : Below w.heap.size w w38)); clear HO_9; clear HB; have HO_9 := n0_; have HB := n1_; clear n0_ n1_; clear hg hw hp_))
                                                        go_roundg k4
                                                        case measure => have := HJ4.out; have := HK2.out; have := HJ14.out; have := HK4.out; omega
                                                        case rel => exact ⟨(y140), (wrap64 (x63_4 + 1)), (by first | rfl | (simp; done) | (simp [*]; done)), H', ⟨by have := HJ4.out; have := HK2.out; have := HJ14.out; have := HK4.out; omega⟩, ⟨by (with_reducible repeat (first | apply Kd.R_alloc | apply Kd.R_drewN | apply Kd.R_drew)); exact HO_9.out⟩, ⟨by repeat (first | (with_reducible first | exact HB.out | apply below_alloc | apply pw_below_drewN | apply below_drew1) | exact HB.out)⟩⟩
                                                      · rw [if_neg c35] at H
                                                        exact absurd H (by simp)
                                                    · rw [if_neg c34] at H
                                                      exact absurd H (by simp)
                                                · rw [if_neg c31] at H
                                                  exact absurd H (by simp)
                                              · rw [if_neg c30] at H
                                                exact absurd H (by simp)
                                            · replace c29 := Bool.eq_false_iff.mpr c29
                                              subst c29
                                              have H1 : (remap_Carry.l1 k4 a0 l2 l3 x9_4 x38_2 l1 (l1.length : Int) x38_2 (rd_L3 l1 x38_2) ((rd_L3 l1 x38_2).length : Int) (wrap64 (x63_4 + 1))) = some r := by rw [if_neg (show ¬ (false = true) by decide)] at H; exact H
                                              clear H
                                              have H := H1
                                              clear H1
                                              have H' := Aside0.mk H
                                              clear H
                                              have p135 : 0 ≤ (x63_4 : Int) := of_decide_eq_true (by first | (with_reducible assumption) | assumption)
                                              have q135 : x63_4 < ((rd_L3 l1 x38_2).length : Int) := of_decide_eq_true (by first | (with_reducible assumption) | assumption)
                                              obtain ⟨ad135, e135, hx135_0⟩ := Kd.at_int HR132_0.out x63_4 p135 q135
                                              cases e135
                                              replace hx135_0 := (HB.out.cell (World.block_lt_of_cell? w _ hx135_0)).trans hx135_0
                                              replace p135 := eq_true p135
                                              replace q135 := eq_true q135
                                              have p136 : 0 ≤ (x38_2 : Int) := of_decide_eq_true (by first | (with_reducible assumption) | assumption)
                                              have q136 : x38_2 < (l2.length : Int) := of_decide_eq_true (by first | (with_reducible assumption) | assumption)
                                              obtain ⟨ad136, A136_0, c136_0, e136, hx136_0, hl136_0, hi136_0⟩ := at_L2 HR2.out x38_2 p136 q136
                                              cases e136
                                              replace hx136_0 := (HB.out.cell (World.block_lt_of_cell? w _ hx136_0)).trans hx136_0
                                              have HR136_0 := Aside0.mk hi136_0
                                              have HC136_0 := Aside0.mk hl136_0
                                              clear hi136_0 hl136_0
                                              replace p136 := eq_true p136
                                              replace q136 := eq_true q136
                                              have p137 : 0 ≤ (x63_4 : Int) := of_decide_eq_true (by first | (with_reducible assumption) | assumption)
                                              have q137 : x63_4 < ((rd_L2 l2 x38_2).length : Int) := of_decide_eq_true (by first | (with_reducible assumption) | assumption)
                                              obtain ⟨ad137, e137, hx137_0⟩ := Kd.at_bool HR136_0.out x63_4 p137 q137
                                              (try rw [← Nbq28.out] at hx137_0)
                                              cases e137
                                              replace hx137_0 := (HB.out.cell (World.block_lt_of_cell? w _ hx137_0)).trans hx137_0
                                              replace p137 := eq_true p137
                                              replace q137 := eq_true q137
                                              go_wp2
                                              go_roundg k4
                                              case measure => have := HJ4.out; have := HK2.out; have := HJ14.out; have := HK4.out; omega
                                              case rel => exact ⟨(x9_4), (wrap64 (x63_4 + 1)), (by first | rfl | (simp; done) | (simp [*]; done)), H', ⟨by have := HJ4.out; have := HK2.out; have := HJ14.out; have := HK4.out; omega⟩, ⟨by (with_reducible repeat (first | apply Kd.R_alloc | apply Kd.R_drewN | apply Kd.R_drew)); exact HO_9.out⟩, ⟨by repeat (first | (with_reducible first | exact HB.out | apply below_alloc | apply pw_below_drewN | apply below_drew1) | exact HB.out)⟩⟩
                                          · rw [if_neg c27] at H
                                            exact absurd H (by simp)
                                        · rw [if_neg c26] at H
                                          exact absurd H (by simp)
                                      · rw [if_neg c25] at H
                                        exact absurd H (by simp)
                                    · rw [if_neg c24] at H
                                      have c24b0 : decide ((rd (rd_L3 l1 x38_2) x63_4) < a0) = false := decide_eq_false c24
                                      clear c24
                                      have H' := Aside0.mk H
                                      clear H
                                      have p135 : 0 ≤ (x63_4 : Int) := of_decide_eq_true (by first | (with_reducible assumption) | assumption)
                                      have q135 : x63_4 < ((rd_L3 l1 x38_2).length : Int) := of_decide_eq_true (by first | (with_reducible assumption) | assumption)
                                      obtain ⟨ad135, e135, hx135_0⟩ := Kd.at_int HR132_0.out x63_4 p135 q135
                                      cases e135
                                      replace hx135_0 := (HB.out.cell (World.block_lt_of_cell? w _ hx135_0)).trans hx135_0
                                      replace p135 := eq_true p135
                                      replace q135 := eq_true q135
                                      go_wp2
                                      go_roundg k4
                                      case measure => have := HJ4.out; have := HK2.out; have := HJ14.out; have := HK4.out; omega
                                      case rel => exact ⟨(x9_4), (wrap64 (x63_4 + 1)), (by first | rfl | (simp; done) | (simp [*]; done)), H', ⟨by have := HJ4.out; have := HK2.out; have := HJ14.out; have := HK4.out; omega⟩, ⟨by (with_reducible repeat (first | apply Kd.R_alloc | apply Kd.R_drewN | apply Kd.R_drew)); exact HO_9.out⟩, ⟨by repeat (first | (with_reducible first | exact HB.out | apply below_alloc | apply pw_below_drewN | apply below_drew1) | exact HB.out)⟩⟩
                                  · rw [if_neg c23] at H
                                    have c23b0 : decide (0 ≤ (rd (rd_L3 l1 x38_2) x63_4)) = false := decide_eq_false c23
                                    clear c23
                                    have H' := Aside0.mk H
                                    clear H
                                    have p135 : 0 ≤ (x63_4 : Int) := of_decide_eq_true (by first | (with_reducible assumption) | assumption)
                                    have q135 : x63_4 < ((rd_L3 l1 x38_2).length : Int) := of_decide_eq_true (by first | (with_reducible assumption) | assumption)
                                    obtain ⟨ad135, e135, hx135_0⟩ := Kd.at_int HR132_0.out x63_4 p135 q135
                                    cases e135
                                    replace hx135_0 := (HB.out.cell (World.block_lt_of_cell? w _ hx135_0)).trans hx135_0
                                    replace p135 := eq_true p135
                                    replace q135 := eq_true q135
                                    go_wp2
                                    go_roundg k4
                                    case measure => have := HJ4.out; have := HK2.out; have := HJ14.out; have := HK4.out; omega
                                    case rel => exact ⟨(x9_4), (wrap64 (x63_4 + 1)), (by first | rfl | (simp; done) | (simp [*]; done)), H', ⟨by have := HJ4.out; have := HK2.out; have := HJ14.out; have := HK4.out; omega⟩, ⟨by (with_reducible repeat (first | apply Kd.R_alloc | apply Kd.R_drewN | apply Kd.R_drew)); exact HO_9.out⟩, ⟨by repeat (first | (with_reducible first | exact HB.out | apply below_alloc | apply pw_below_drewN | apply below_drew1) | exact HB.out)⟩⟩
                                · rw [if_neg c22] at H
                                  exact absurd H (by simp)
                              · rw [if_neg c21] at H
                                exact absurd H (by simp)
                            · rw [if_neg c20] at H
                              have c20b0 : decide (x63_4 < ((rd_L3 l1 x38_2).length : Int)) = false := decide_eq_false c20
                              clear c20
                              have H' := Aside0.mk H
                              clear H
                              go_wp2
                              go_roundg k4
                              case measure => have := HJ4.out; have := HK2.out; have := HJ14.out; have := HK4.out; omega
                              case rel => exact ⟨(x9_4), (wrap64 (x38_2 + 1)), (by first | rfl | (simp; done) | (simp [*]; done)), H', ⟨by have := HJ4.out; have := HK2.out; have := HJ14.out; have := HK4.out; omega⟩, ⟨by (with_reducible repeat (first | apply Kd.R_alloc | apply Kd.R_drewN | apply Kd.R_drew)); exact HO_9.out⟩, ⟨by repeat (first | (with_reducible first | exact HB.out | apply below_alloc | apply pw_below_drewN | apply below_drew1) | exact HB.out)⟩⟩
                · rw [if_neg c14] at H
                  exact absurd H (by simp)
              · rw [if_neg c13] at H
                exact absurd H (by simp)
            · rw [if_neg c12] at H
              have c12b0 : decide (x38_2 < (l1.length : Int)) = false := decide_eq_false c12
              clear c12
              obtain rfl := Option.some.inj H
              go_wp2
              go_ret
              exact ⟨_, by first | rfl | (simp [errW_none, errW_some] <;> rfl) | (simp [*, errW_none, errW_some] <;> rfl), by (with_reducible repeat (first | apply Kd.R_alloc | apply Kd.R_drewN | apply Kd.R_drew)); exact HO_9.out, by repeat (first | (with_reducible first | exact HB.out | apply below_alloc | apply pw_below_drewN | apply below_drew1) | exact HB.out)⟩

end Go.Proofs.Ytldojbonaecngaa.T
