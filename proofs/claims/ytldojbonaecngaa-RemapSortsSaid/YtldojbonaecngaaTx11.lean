/- Written by hp.py, this session's own program, out of the translation of this seat: Lean functions for the Go functions, and the proof that each call comes to what its Lean function says. -/
import Derived.Test.YtldojbonaecngaaTx0
import Derived.Test.YtldojbonaecngaaTx1
import Derived.Test.YtldojbonaecngaaTx3
import Derived.Test.YtldojbonaecngaaTd
import Derived.Test.YtldojbonaecngaaHe
import Derived.Test.YtldojbonaecngaaSg
namespace Go.Proofs.Ytldojbonaecngaa.T
open Go.RowKit Go.Proofs.YtldojbonaecngaaW.PrintWords Go.Proofs.YtldojbonaecngaaW.PrintLast Go.Proofs.YtldojbonaecngaaW.PrintMore
attribute [local go_sem] max2_int min2_int max_two min_two max_three min_three max_four min_four string_gtr_   -- for this text's walks alone
set_option linter.unusedVariables false
set_option linter.unusedSimpArgs false

/-! ### catchwordlaw10_RemapSorts: function 8 -/
mutual
def catchwordlaw10_RemapSorts.j0 : Nat → List Int → List ByteArray → Bool → Bool → Option (Bool)
  | 0, _, _, _, _ => none
  | k + 1, x0, x1, x5, x31 => if x31 = true then (some x5) else ((remap_Order.f x0 x1).bind fun t363 => (if (t363.length : Int) = (x0.length : Int) then ((remap_Turn.f k t363).bind fun t366 => (catchwordlaw10_RemapSorts.j1 k x0 x1 t363 ((t366.length : Int) != (t363.length : Int)))) else (catchwordlaw10_RemapSorts.j1 k x0 x1 t363 true)))
def catchwordlaw10_RemapSorts.j1 : Nat → List Int → List ByteArray → List Int → Bool → Option (Bool)
  | 0, _, _, _, _ => none
  | k + 1, x0, x1, x7, x48 => if x48 = true then (some false) else (catchwordlaw10_RemapSorts.l0 k x0 x1 x7 1)
def catchwordlaw10_RemapSorts.l0 : Nat → List Int → List ByteArray → List Int → Int → Option (Bool)
  | 0, _, _, _, _ => none
  | k + 1, x0, x1, x7, x8 => if x8 < (x7.length : Int) then (if 0 ≤ (wrap64 (x8 - 1)) then (if (wrap64 (x8 - 1)) < (x7.length : Int) then (if 0 ≤ x8 then (if 0 ≤ (rd x7 (wrap64 (x8 - 1))) then (if (rd x7 (wrap64 (x8 - 1))) < (x0.length : Int) then (if 0 ≤ (rd x7 x8) then (if (rd x7 x8) < (x0.length : Int) then (if (rd x0 (rd x7 (wrap64 (x8 - 1)))) > (rd x0 (rd x7 x8)) then (some false) else (if (rd x0 (rd x7 (wrap64 (x8 - 1)))) = (rd x0 (rd x7 x8)) then (if (rd x7 (wrap64 (x8 - 1))) < (x1.length : Int) then (if (rd x7 x8) < (x1.length : Int) then (if (Op.bytesLess ((rdOf ByteArray.empty x1 (rd x7 x8)).toList) ((rdOf ByteArray.empty x1 (rd x7 (wrap64 (x8 - 1)))).toList)) = true then (some false) else (if (rdOf ByteArray.empty x1 (rd x7 (wrap64 (x8 - 1)))).toList = (rdOf ByteArray.empty x1 (rd x7 x8)).toList then (if (rd x7 (wrap64 (x8 - 1))) > (rd x7 x8) then (some false) else (catchwordlaw10_RemapSorts.l0 k x0 x1 x7 (wrap64 (x8 + 1)))) else (catchwordlaw10_RemapSorts.l0 k x0 x1 x7 (wrap64 (x8 + 1))))) else (none)) else (none)) else (catchwordlaw10_RemapSorts.l0 k x0 x1 x7 (wrap64 (x8 + 1))))) else (none)) else (none)) else (none)) else (none)) else (none)) else (none)) else (none)) else (some true)
end
def catchwordlaw10_RemapSorts.f (k : Nat) (l0 : List Int) (l1 : List ByteArray) : Option (Bool) := (catchwordlaw10_awake.f k).bind fun t361 => ((catchwordlaw10_names.f k l1).bind fun t362 => (if t361 = true then (if t362 = true then (if (l0.length : Int) > 200 then (catchwordlaw10_RemapSorts.j0 k l0 l1 t361 true) else (catchwordlaw10_RemapSorts.j0 k l0 l1 t361 ((l1.length : Int) != (l0.length : Int)))) else (catchwordlaw10_RemapSorts.j0 k l0 l1 t361 true)) else (catchwordlaw10_RemapSorts.j0 k l0 l1 t361 true)))
theorem catchwordlaw10_RemapSorts.mono_l : ∀ k, (∀ y0 y1 y2 y3, LeO (catchwordlaw10_RemapSorts.j0 k y0 y1 y2 y3) (catchwordlaw10_RemapSorts.j0 (k + 1) y0 y1 y2 y3)) ∧ (∀ y0 y1 y2 y3, LeO (catchwordlaw10_RemapSorts.j1 k y0 y1 y2 y3) (catchwordlaw10_RemapSorts.j1 (k + 1) y0 y1 y2 y3)) ∧ (∀ y0 y1 y2 y3, LeO (catchwordlaw10_RemapSorts.l0 k y0 y1 y2 y3) (catchwordlaw10_RemapSorts.l0 (k + 1) y0 y1 y2 y3))
  | 0 => ⟨fun _ _ _ _ r h => by simp [catchwordlaw10_RemapSorts.j0] at h, fun _ _ _ _ r h => by simp [catchwordlaw10_RemapSorts.j1] at h, fun _ _ _ _ r h => by simp [catchwordlaw10_RemapSorts.l0] at h⟩
  | k + 1 => by
    obtain ⟨ih0, ih1, ih2⟩ := catchwordlaw10_RemapSorts.mono_l k
    refine ⟨?_, ?_, ?_⟩
    · intro y0 y1 y2 y3
      unfold catchwordlaw10_RemapSorts.j0
      repeat' first
      | (with_reducible exact ih0 _ _ _ _)
      | (with_reducible exact ih1 _ _ _ _)
      | (with_reducible exact ih2 _ _ _ _)
      | (with_reducible exact catchwordlaw10_awake.mono _)
      | (with_reducible exact catchwordlaw10_names.mono _ _)
      | (with_reducible exact remap_Turn.mono _ _)
      | (with_reducible exact LeO.refl _)
      | (with_reducible exact LeO.none _)
      | (with_reducible refine LeO.ite ?_ ?_)
      | (with_reducible refine LeO.bind ?_ (fun _ => ?_))
      | exact ih0 _ _ _ _
      | exact ih1 _ _ _ _
      | exact ih2 _ _ _ _
      | exact catchwordlaw10_awake.mono _
      | exact catchwordlaw10_names.mono _ _
      | exact remap_Turn.mono _ _
      | exact LeO.none _
      | refine LeO.ite ?_ ?_
      | refine LeO.bind ?_ (fun _ => ?_)
    · intro y0 y1 y2 y3
      unfold catchwordlaw10_RemapSorts.j1
      repeat' first
      | (with_reducible exact ih0 _ _ _ _)
      | (with_reducible exact ih1 _ _ _ _)
      | (with_reducible exact ih2 _ _ _ _)
      | (with_reducible exact catchwordlaw10_awake.mono _)
      | (with_reducible exact catchwordlaw10_names.mono _ _)
      | (with_reducible exact remap_Turn.mono _ _)
      | (with_reducible exact LeO.refl _)
      | (with_reducible exact LeO.none _)
      | (with_reducible refine LeO.ite ?_ ?_)
      | (with_reducible refine LeO.bind ?_ (fun _ => ?_))
      | exact ih0 _ _ _ _
      | exact ih1 _ _ _ _
      | exact ih2 _ _ _ _
      | exact catchwordlaw10_awake.mono _
      | exact catchwordlaw10_names.mono _ _
      | exact remap_Turn.mono _ _
      | exact LeO.none _
      | refine LeO.ite ?_ ?_
      | refine LeO.bind ?_ (fun _ => ?_)
    · intro y0 y1 y2 y3
      unfold catchwordlaw10_RemapSorts.l0
      repeat' first
      | (with_reducible exact ih0 _ _ _ _)
      | (with_reducible exact ih1 _ _ _ _)
      | (with_reducible exact ih2 _ _ _ _)
      | (with_reducible exact catchwordlaw10_awake.mono _)
      | (with_reducible exact catchwordlaw10_names.mono _ _)
      | (with_reducible exact remap_Turn.mono _ _)
      | (with_reducible exact LeO.refl _)
      | (with_reducible exact LeO.none _)
      | (with_reducible refine LeO.ite ?_ ?_)
      | (with_reducible refine LeO.bind ?_ (fun _ => ?_))
      | exact ih0 _ _ _ _
      | exact ih1 _ _ _ _
      | exact ih2 _ _ _ _
      | exact catchwordlaw10_awake.mono _
      | exact catchwordlaw10_names.mono _ _
      | exact remap_Turn.mono _ _
      | exact LeO.none _
      | refine LeO.ite ?_ ?_
      | refine LeO.bind ?_ (fun _ => ?_)
theorem catchwordlaw10_RemapSorts.mono : ∀ a0 a1 k, LeO (catchwordlaw10_RemapSorts.f k a0 a1) (catchwordlaw10_RemapSorts.f (k + 1) a0 a1) := by
  intro a0 a1 k
  obtain ⟨ih0, ih1, ih2⟩ := catchwordlaw10_RemapSorts.mono_l k
  unfold catchwordlaw10_RemapSorts.f
  repeat' first
      | (with_reducible exact ih0 _ _ _ _)
      | (with_reducible exact ih1 _ _ _ _)
      | (with_reducible exact ih2 _ _ _ _)
      | (with_reducible exact catchwordlaw10_awake.mono _)
      | (with_reducible exact catchwordlaw10_names.mono _ _)
      | (with_reducible exact remap_Turn.mono _ _)
      | (with_reducible exact LeO.refl _)
      | (with_reducible exact LeO.none _)
      | (with_reducible refine LeO.ite ?_ ?_)
      | (with_reducible refine LeO.bind ?_ (fun _ => ?_))
      | exact ih0 _ _ _ _
      | exact ih1 _ _ _ _
      | exact ih2 _ _ _ _
      | exact catchwordlaw10_awake.mono _
      | exact catchwordlaw10_names.mono _ _
      | exact remap_Turn.mono _ _
      | exact LeO.none _
      | refine LeO.ite ?_ ?_
      | refine LeO.bind ?_ (fun _ => ?_)
set_option maxHeartbeats 8000000 in
set_option maxRecDepth 100000 in
theorem catchwordlaw10_RemapSorts.calls (k : Nat) (A0 : Option Addr) (c0 : Nat) (l0 : List Int) (A1 : Option Addr) (c1 : Nat) (l1 : List ByteArray) (r : Bool) (w : World) (hr0 : Kd.C (Kd.int .i64) w A0 l0.length l0) (hc0 : l0.length ≤ c0) (hr1 : Kd.C Kd.string w A1 l1.length l1) (hc1 : l1.length ≤ c1) (h : catchwordlaw10_RemapSorts.f k l0 l1 = some r) :
    Calls Try.prog 8 #[.slice A0 l0.length c0, .slice A1 l1.length c1] w fun e w' => e = .returned (.bool r) ∧ Below w.heap.size w w' := by
  have HR0 := Aside0.mk hr0
  have HC0 := Aside0.mk hc0
  clear hr0 hc0
  have HR1 := Aside0.mk hr1
  have HC1 := Aside0.mk hc1
  clear hr1 hc1
  have HB := Aside0.mk (Below.refl w.heap.size w)
  have H : ((catchwordlaw10_awake.f k).bind fun t361 => ((catchwordlaw10_names.f k l1).bind fun t362 => (if t361 = true then (if t362 = true then (if (l0.length : Int) > 200 then (catchwordlaw10_RemapSorts.j0 k l0 l1 t361 true) else (catchwordlaw10_RemapSorts.j0 k l0 l1 t361 ((l1.length : Int) != (l0.length : Int)))) else (catchwordlaw10_RemapSorts.j0 k l0 l1 t361 true)) else (catchwordlaw10_RemapSorts.j0 k l0 l1 t361 true)))) = some r := h
  clear h
  replace H := Option.bind_eq_some_iff.mp H
  obtain ⟨t361, A30, H⟩ := H
  replace H : ((catchwordlaw10_names.f k l1).bind fun t362 => (if t361 = true then (if t362 = true then (if (l0.length : Int) > 200 then (catchwordlaw10_RemapSorts.j0 k l0 l1 t361 true) else (catchwordlaw10_RemapSorts.j0 k l0 l1 t361 ((l1.length : Int) != (l0.length : Int)))) else (catchwordlaw10_RemapSorts.j0 k l0 l1 t361 true)) else (catchwordlaw10_RemapSorts.j0 k l0 l1 t361 true))) = some r := H
  have A3 := Aside0.mk A30
  clear A30
  replace H := Option.bind_eq_some_iff.mp H
  obtain ⟨t362, A40, H⟩ := H
  replace H : (if t361 = true then (if t362 = true then (if (l0.length : Int) > 200 then (catchwordlaw10_RemapSorts.j0 k l0 l1 t361 true) else (catchwordlaw10_RemapSorts.j0 k l0 l1 t361 ((l1.length : Int) != (l0.length : Int)))) else (catchwordlaw10_RemapSorts.j0 k l0 l1 t361 true)) else (catchwordlaw10_RemapSorts.j0 k l0 l1 t361 true)) = some r := H
  have A4 := Aside0.mk A40
  clear A40
  have HC5 := Aside0.mk H
  clear H
  go_enter Try.func8, Try.ntmps8
  go_upto_region 3 with (first | (go_at_call 10; (with_reducible refine (catchwordlaw10_awake.calls k  t361 _ A3.out).mono ?_); rintro e w6 ⟨rfl, hb⟩; have n0_ := Aside0.mk (below_step (by repeat (first | (with_reducible first | exact HB.out | apply below_alloc | apply pw_below_drewN | apply below_drew1) | exact HB.out)) hb); clear HB; have HB := n0_; clear n0_; (try clear hb); (try clear hb2); (try clear hk); (try clear hi)) | (go_at_call 16; (with_reducible refine (catchwordlaw10_names.calls k _ _ l1 t362 _ ?side1 ?side2 A4.out).mono ?_); (case side1 => repeat (first | exact (Kd.C_below HR1.out HB.out) | (with_reducible refine Kd.C_alloc ?_ _) | (with_reducible refine Kd.C_drewN ?_ _) | (with_reducible refine Kd.C_drew ?_))); (case side2 => exact HC1.out); rintro e w' ⟨rfl, ⟨nd, rfl⟩⟩; (try first | exact ⟨rfl, _, World.drewN_drewN _ _ _⟩ | exact ⟨rfl, _, Eq.trans (World.drewN_drewN _ _ _) (congrArg (World.drewN _) (Nat.add_assoc _ _ _))⟩)))
  repeat (go_quiet (first | (go_at_call 10; (with_reducible refine (catchwordlaw10_awake.calls k  t361 _ A3.out).mono ?_); rintro e w6 ⟨rfl, hb⟩; have n0_ := Aside0.mk (below_step (by repeat (first | (with_reducible first | exact HB.out | apply below_alloc | apply pw_below_drewN | apply below_drew1) | exact HB.out)) hb); clear HB; have HB := n0_; clear n0_; (try clear hb); (try clear hb2); (try clear hk); (try clear hi)) | (go_at_call 16; (with_reducible refine (catchwordlaw10_names.calls k _ _ l1 t362 _ ?side1 ?side2 A4.out).mono ?_); (case side1 => repeat (first | exact (Kd.C_below HR1.out HB.out) | (with_reducible refine Kd.C_alloc ?_ _) | (with_reducible refine Kd.C_drewN ?_ _) | (with_reducible refine Kd.C_drew ?_))); (case side2 => exact HC1.out); rintro e w' ⟨rfl, ⟨nd, rfl⟩⟩; (try first | exact ⟨rfl, _, World.drewN_drewN _ _ _⟩ | exact ⟨rfl, _, Eq.trans (World.drewN_drewN _ _ _) (congrArg (World.drewN _) (Nat.add_assoc _ _ _))⟩))); go_upto_region 3 with (first | (go_at_call 10; (with_reducible refine (catchwordlaw10_awake.calls k  t361 _ A3.out).mono ?_); rintro e w6 ⟨rfl, hb⟩; have n0_ := Aside0.mk (below_step (by repeat (first | (with_reducible first | exact HB.out | apply below_alloc | apply pw_below_drewN | apply below_drew1) | exact HB.out)) hb); clear HB; have HB := n0_; clear n0_; (try clear hb); (try clear hb2); (try clear hk); (try clear hi)) | (go_at_call 16; (with_reducible refine (catchwordlaw10_names.calls k _ _ l1 t362 _ ?side1 ?side2 A4.out).mono ?_); (case side1 => repeat (first | exact (Kd.C_below HR1.out HB.out) | (with_reducible refine Kd.C_alloc ?_ _) | (with_reducible refine Kd.C_drewN ?_ _) | (with_reducible refine Kd.C_drew ?_))); (case side2 => exact HC1.out); rintro e w' ⟨rfl, ⟨nd, rfl⟩⟩; (try first | exact ⟨rfl, _, World.drewN_drewN _ _ _⟩ | exact ⟨rfl, _, Eq.trans (World.drewN_drewN _ _ _) (congrArg (World.drewN _) (Nat.add_assoc _ _ _))⟩))))
  (try simp only [Act.put, List.setIfInBounds_toArray, List.set_cons_zero, List.set_cons_succ])
  go_cut [31] (fun v31 wc => ∃ (kq : Nat) (x31_4 : Bool), v31 = .bool x31_4 ∧ Aside0 (catchwordlaw10_RemapSorts.j0 kq l0 l1 t361 x31_4 = some r) ∧ Aside0 (kq ≤ k) ∧ Aside0 (Below w.heap.size w wc))
  case first =>
    have H := HC5.out
    clear HC5
    by_cases c7 : t361 = true
    · subst c7
      have H1 : (if t362 = true then (if (l0.length : Int) > 200 then (catchwordlaw10_RemapSorts.j0 k l0 l1 true true) else (catchwordlaw10_RemapSorts.j0 k l0 l1 true ((l1.length : Int) != (l0.length : Int)))) else (catchwordlaw10_RemapSorts.j0 k l0 l1 true true)) = some r := by rw [if_pos rfl] at H; exact H
      clear H
      have H := H1
      clear H1
      by_cases c8 : t362 = true
      · subst c8
        have H1 : (if (l0.length : Int) > 200 then (catchwordlaw10_RemapSorts.j0 k l0 l1 true true) else (catchwordlaw10_RemapSorts.j0 k l0 l1 true ((l1.length : Int) != (l0.length : Int)))) = some r := by rw [if_pos rfl] at H; exact H
        clear H
        have H := H1
        clear H1
        by_cases c9 : (l0.length : Int) > 200
        · rw [if_pos c9] at H
          have c9b0 : decide (200 < (l0.length : Int)) = true := decide_eq_true c9
          have c9b1 : decide (200 < l0.length) = true := decide_eq_true (by omega)
          clear c9
          (first | rw [c9b0] | (simp only [i64_w, i32_w]; rw [c9b0]) | skip)
          have H' := Aside0.mk H
          clear H
          go_wp2
          repeat (go_quiet (fail); try go_wp2)
          go_meet
          case rel => exact ⟨_, (true), (by first | rfl | (simp; done) | (simp [*]; done)), H', ⟨by first | omega | exact Nat.le_refl _⟩, ⟨by repeat (first | (with_reducible first | exact HB.out | apply below_alloc | apply pw_below_drewN | apply below_drew1) | exact HB.out)⟩⟩
        · rw [if_neg c9] at H
          have c9b0 : decide (200 < (l0.length : Int)) = false := decide_eq_false c9
          have c9b1 : decide (200 < l0.length) = false := decide_eq_false (by omega)
          clear c9
          (first | rw [c9b0] | (simp only [i64_w, i32_w]; rw [c9b0]) | skip)
          have H' := Aside0.mk H
          clear H
          go_wp2
          repeat (go_quiet (fail); try go_wp2)
          go_meet
          case rel => exact ⟨_, (((l1.length : Int) != (l0.length : Int))), (by first | rfl | (simp; done) | (simp [*]; done)), H', ⟨by first | omega | exact Nat.le_refl _⟩, ⟨by repeat (first | (with_reducible first | exact HB.out | apply below_alloc | apply pw_below_drewN | apply below_drew1) | exact HB.out)⟩⟩
      · replace c8 := Bool.eq_false_iff.mpr c8
        subst c8
        have H1 : (catchwordlaw10_RemapSorts.j0 k l0 l1 true true) = some r := by rw [if_neg (show ¬ (false = true) by decide)] at H; exact H
        clear H
        have H := H1
        clear H1
        have H' := Aside0.mk H
        clear H
        go_wp2
        repeat (go_quiet (fail); try go_wp2)
        go_meet
        case rel => exact ⟨_, (true), (by first | rfl | (simp; done) | (simp [*]; done)), H', ⟨by first | omega | exact Nat.le_refl _⟩, ⟨by repeat (first | (with_reducible first | exact HB.out | apply below_alloc | apply pw_below_drewN | apply below_drew1) | exact HB.out)⟩⟩
    · replace c7 := Bool.eq_false_iff.mpr c7
      subst c7
      have H1 : (catchwordlaw10_RemapSorts.j0 k l0 l1 false true) = some r := by rw [if_neg (show ¬ (false = true) by decide)] at H; exact H
      clear H
      have H := H1
      clear H1
      have H' := Aside0.mk H
      clear H
      go_wp2
      repeat (go_quiet (fail); try go_wp2)
      go_meet
      case rel => exact ⟨_, (true), (by first | rfl | (simp; done) | (simp [*]; done)), H', ⟨by first | omega | exact Nat.le_refl _⟩, ⟨by repeat (first | (with_reducible first | exact HB.out | apply below_alloc | apply pw_below_drewN | apply below_drew1) | exact HB.out)⟩⟩
  case rest =>
    clear HC5
    try clear c1
    try clear p2
    try clear c7
    try clear c8
    try clear c9
    try clear c9b0
    try clear c9b1
    obtain ⟨kq, x31_4, rfl, HA, HJ4, HB⟩ := hcut
    cases kq with
    | zero => exact absurd HA.out (by simp [catchwordlaw10_RemapSorts.j0])
    | succ kj4 =>
      have H := HA.out
      clear HA
      simp only [catchwordlaw10_RemapSorts.j0] at H
      by_cases c10 : x31_4 = true
      · subst c10
        have H1 : (some t361) = some r := by rw [if_pos rfl] at H; exact H
        clear H
        have H := H1
        clear H1
        obtain rfl := Option.some.inj H
        go_wp2
        repeat (go_quiet (fail); try go_wp2)
        go_ret
        exact ⟨by first | rfl | (simp [errW_none, errW_some] <;> rfl) | (simp [*, errW_none, errW_some] <;> rfl), by repeat (first | (with_reducible first | exact HB.out | apply below_alloc | apply pw_below_drewN | apply below_drew1) | exact HB.out)⟩
      · replace c10 := Bool.eq_false_iff.mpr c10
        subst c10
        have H1 : ((remap_Order.f l0 l1).bind fun t363 => (if (t363.length : Int) = (l0.length : Int) then ((remap_Turn.f kj4 t363).bind fun t366 => (catchwordlaw10_RemapSorts.j1 kj4 l0 l1 t363 ((t366.length : Int) != (t363.length : Int)))) else (catchwordlaw10_RemapSorts.j1 kj4 l0 l1 t363 true))) = some r := by rw [if_neg (show ¬ (false = true) by decide)] at H; exact H
        clear H
        have H := H1
        clear H1
        replace H := Option.bind_eq_some_iff.mp H
        obtain ⟨t363, A110, H⟩ := H
        replace H : (if (t363.length : Int) = (l0.length : Int) then ((remap_Turn.f kj4 t363).bind fun t366 => (catchwordlaw10_RemapSorts.j1 kj4 l0 l1 t363 ((t366.length : Int) != (t363.length : Int)))) else (catchwordlaw10_RemapSorts.j1 kj4 l0 l1 t363 true)) = some r := H
        have A11 := Aside0.mk A110
        clear A110
        have HC12 := Aside0.mk H
        clear H
        go_upto_region 6 with (first | (go_at_call 17; (with_reducible refine (remap_Order.calls _ _ l0 _ _ l1 t363 _ ?side1 ?side2 ?side3 ?side4 A11.out).mono ?_); (case side1 => repeat (first | exact (Kd.C_below HR0.out HB.out) | (with_reducible refine Kd.C_alloc ?_ _) | (with_reducible refine Kd.C_drewN ?_ _) | (with_reducible refine Kd.C_drew ?_))); (case side2 => exact HC0.out); (case side3 => repeat (first | exact (Kd.C_below HR1.out HB.out) | (with_reducible refine Kd.C_alloc ?_ _) | (with_reducible refine Kd.C_drewN ?_ _) | (with_reducible refine Kd.C_drew ?_))); (case side4 => exact HC1.out); rintro e w13 ⟨v364, rfl, ho0, hb⟩; have n0_ := Aside0.mk (Kd.R_lower ho0 (below_size (by repeat (first | (with_reducible first | exact HB.out | apply below_alloc | apply pw_below_drewN | apply below_drew1) | exact HB.out)))); have n1_ := Aside0.mk (below_step (by repeat (first | (with_reducible first | exact HB.out | apply below_alloc | apply pw_below_drewN | apply below_drew1) | exact HB.out)) hb); clear HB; have HO365 := n0_; have HB := n1_; clear n0_ n1_; (try clear hb); (try clear hb2); (try clear hk); (try clear hi); (try clear ho0)))
        repeat (go_quiet (first | (go_at_call 17; (with_reducible refine (remap_Order.calls _ _ l0 _ _ l1 t363 _ ?side1 ?side2 ?side3 ?side4 A11.out).mono ?_); (case side1 => repeat (first | exact (Kd.C_below HR0.out HB.out) | (with_reducible refine Kd.C_alloc ?_ _) | (with_reducible refine Kd.C_drewN ?_ _) | (with_reducible refine Kd.C_drew ?_))); (case side2 => exact HC0.out); (case side3 => repeat (first | exact (Kd.C_below HR1.out HB.out) | (with_reducible refine Kd.C_alloc ?_ _) | (with_reducible refine Kd.C_drewN ?_ _) | (with_reducible refine Kd.C_drew ?_))); (case side4 => exact HC1.out); rintro e w13 ⟨v364, rfl, ho0, hb⟩; have n0_ := Aside0.mk (Kd.R_lower ho0 (below_size (by repeat (first | (with_reducible first | exact HB.out | apply below_alloc | apply pw_below_drewN | apply below_drew1) | exact HB.out)))); have n1_ := Aside0.mk (below_step (by repeat (first | (with_reducible first | exact HB.out | apply below_alloc | apply pw_below_drewN | apply below_drew1) | exact HB.out)) hb); clear HB; have HO365 := n0_; have HB := n1_; clear n0_ n1_; (try clear hb); (try clear hb2); (try clear hk); (try clear hi); (try clear ho0))); go_upto_region 6 with (first | (go_at_call 17; (with_reducible refine (remap_Order.calls _ _ l0 _ _ l1 t363 _ ?side1 ?side2 ?side3 ?side4 A11.out).mono ?_); (case side1 => repeat (first | exact (Kd.C_below HR0.out HB.out) | (with_reducible refine Kd.C_alloc ?_ _) | (with_reducible refine Kd.C_drewN ?_ _) | (with_reducible refine Kd.C_drew ?_))); (case side2 => exact HC0.out); (case side3 => repeat (first | exact (Kd.C_below HR1.out HB.out) | (with_reducible refine Kd.C_alloc ?_ _) | (with_reducible refine Kd.C_drewN ?_ _) | (with_reducible refine Kd.C_drew ?_))); (case side4 => exact HC1.out); rintro e w13 ⟨v364, rfl, ho0, hb⟩; have n0_ := Aside0.mk (Kd.R_lower ho0 (below_size (by repeat (first | (with_reducible first | exact HB.out | apply below_alloc | apply pw_below_drewN | apply below_drew1) | exact HB.out)))); have n1_ := Aside0.mk (below_step (by repeat (first | (with_reducible first | exact HB.out | apply below_alloc | apply pw_below_drewN | apply below_drew1) | exact HB.out)) hb); clear HB; have HO365 := n0_; have HB := n1_; clear n0_ n1_; (try clear hb); (try clear hb2); (try clear hk); (try clear hi); (try clear ho0))))
        (try simp only [Act.put, List.setIfInBounds_toArray, List.set_cons_zero, List.set_cons_succ])
        go_cut [48] (fun v48 wc => ∃ (kq : Nat) (x48_11 : Bool), v48 = .bool x48_11 ∧ Aside0 (catchwordlaw10_RemapSorts.j1 kq l0 l1 t363 x48_11 = some r) ∧ Aside0 (kq ≤ kj4) ∧ Aside0 (Kd.R (Kd.int .i64) 3 wc w.heap.size (fun _ => True) v364 t363) ∧ Aside0 (Below w.heap.size w wc))
        case first =>
          have H := HC12.out
          clear HC12
          by_cases c14 : (t363.length : Int) = (l0.length : Int)
          · rw [if_pos c14] at H
            have c14b0 : ((t363.length : Int) == (l0.length : Int)) = true := beq_iff_eq.mpr c14
            have c14b1 : ((t363.length : Int) != (l0.length : Int)) = false := bne_eq_false_iff_eq.mpr c14
            have c14b2 : (t363.length == l0.length) = true := by first | simpa using c14 | (simp at c14 ⊢; omega)
            clear c14
            (first | rw [c14b0] | (simp only [i64_w, i32_w]; rw [c14b0]) | skip)
            replace H := Option.bind_eq_some_iff.mp H
            obtain ⟨t366, A150, H⟩ := H
            replace H : (catchwordlaw10_RemapSorts.j1 kj4 l0 l1 t363 ((t366.length : Int) != (t363.length : Int))) = some r := H
            have A15 := Aside0.mk A150
            clear A150
            have H' := Aside0.mk H
            clear H
            obtain ⟨Ao16, co16, eo16⟩ := Kd.R_slice HO365.out
            subst eo16
            go_wp2_with (first | (go_at_call 19; (with_reducible refine (remap_Turn.calls kj4 _ _ t363 t366 _ ?side1 ?side2 A15.out).mono ?_); (case side1 => repeat (first | exact (Kd.R_reads' HO365.out).2.2 | (with_reducible refine Kd.C_alloc ?_ _) | (with_reducible refine Kd.C_drewN ?_ _) | (with_reducible refine Kd.C_drew ?_))); (case side2 => exact (Kd.R_reads' HO365.out).2.1); rintro e w17 ⟨v367, rfl, ho0, hb⟩; have n0_ := Aside0.mk (Kd.R_elder' (by (with_reducible repeat (first | apply Kd.R_alloc | apply Kd.R_drewN | apply Kd.R_drew)); exact HO365.out) (Kd.R_base ho0) hb); have n1_ := Aside0.mk (Kd.R_lower (Kd.R_new' ho0 (Kd.R_lt (by (with_reducible repeat (first | apply Kd.R_alloc | apply Kd.R_drewN | apply Kd.R_drew)); exact HO365.out))) (below_size (by repeat (first | (with_reducible first | exact HB.out | apply below_alloc | apply pw_below_drewN | apply below_drew1) | exact HB.out)))); have n2_ := Aside0.mk (below_step (by repeat (first | (with_reducible first | exact HB.out | apply below_alloc | apply pw_below_drewN | apply below_drew1) | exact HB.out)) hb); clear HO365; clear HB; have HO365 := n0_; have HO368 := n1_; have HB := n2_; clear n0_ n1_ n2_; (try clear hb); (try clear hb2); (try clear hk); (try clear hi); (try clear ho0); obtain ⟨Ao18, co18, eo18⟩ := Kd.R_slice HO368.out; subst eo18))
            repeat (go_quiet (first | (go_at_call 19; (with_reducible refine (remap_Turn.calls kj4 _ _ t363 t366 _ ?side1 ?side2 A15.out).mono ?_); (case side1 => repeat (first | exact (Kd.R_reads' HO365.out).2.2 | (with_reducible refine Kd.C_alloc ?_ _) | (with_reducible refine Kd.C_drewN ?_ _) | (with_reducible refine Kd.C_drew ?_))); (case side2 => exact (Kd.R_reads' HO365.out).2.1); rintro e w17 ⟨v367, rfl, ho0, hb⟩; have n0_ := Aside0.mk (Kd.R_elder' (by (with_reducible repeat (first | apply Kd.R_alloc | apply Kd.R_drewN | apply Kd.R_drew)); exact HO365.out) (Kd.R_base ho0) hb); have n1_ := Aside0.mk (Kd.R_lower (Kd.R_new' ho0 (Kd.R_lt (by (with_reducible repeat (first | apply Kd.R_alloc | apply Kd.R_drewN | apply Kd.R_drew)); exact HO365.out))) (below_size (by repeat (first | (with_reducible first | exact HB.out | apply below_alloc | apply pw_below_drewN | apply below_drew1) | exact HB.out)))); have n2_ := Aside0.mk (below_step (by repeat (first | (with_reducible first | exact HB.out | apply below_alloc | apply pw_below_drewN | apply below_drew1) | exact HB.out)) hb); clear HO365; clear HB; have HO365 := n0_; have HO368 := n1_; have HB := n2_; clear n0_ n1_ n2_; (try clear hb); (try clear hb2); (try clear hk); (try clear hi); (try clear ho0); obtain ⟨Ao18, co18, eo18⟩ := Kd.R_slice HO368.out; subst eo18)); try go_wp2_with (first | (go_at_call 19; (with_reducible refine (remap_Turn.calls kj4 _ _ t363 t366 _ ?side1 ?side2 A15.out).mono ?_); (case side1 => repeat (first | exact (Kd.R_reads' HO365.out).2.2 | (with_reducible refine Kd.C_alloc ?_ _) | (with_reducible refine Kd.C_drewN ?_ _) | (with_reducible refine Kd.C_drew ?_))); (case side2 => exact (Kd.R_reads' HO365.out).2.1); rintro e w17 ⟨v367, rfl, ho0, hb⟩; have n0_ := Aside0.mk (Kd.R_elder' (by (with_reducible repeat (first | apply Kd.R_alloc | apply Kd.R_drewN | apply Kd.R_drew)); exact HO365.out) (Kd.R_base ho0) hb); have n1_ := Aside0.mk (Kd.R_lower (Kd.R_new' ho0 (Kd.R_lt (by (with_reducible repeat (first | apply Kd.R_alloc | apply Kd.R_drewN | apply Kd.R_drew)); exact HO365.out))) (below_size (by repeat (first | (with_reducible first | exact HB.out | apply below_alloc | apply pw_below_drewN | apply below_drew1) | exact HB.out)))); have n2_ := Aside0.mk (below_step (by repeat (first | (with_reducible first | exact HB.out | apply below_alloc | apply pw_below_drewN | apply below_drew1) | exact HB.out)) hb); clear HO365; clear HB; have HO365 := n0_; have HO368 := n1_; have HB := n2_; clear n0_ n1_ n2_; (try clear hb); (try clear hb2); (try clear hk); (try clear hi); (try clear ho0); obtain ⟨Ao18, co18, eo18⟩ := Kd.R_slice HO368.out; subst eo18)))
            go_meet
            case rel => exact ⟨_, (((t366.length : Int) != (t363.length : Int))), (by first | rfl | (simp; done) | (simp [*]; done)), H', ⟨by have := HJ4.out; first | omega | exact Nat.le_refl _⟩, ⟨by (with_reducible repeat (first | apply Kd.R_alloc | apply Kd.R_drewN | apply Kd.R_drew)); exact Kd.R_mono HO365.out (fun _ hk => trivial)⟩, ⟨by repeat (first | (with_reducible first | exact HB.out | apply below_alloc | apply pw_below_drewN | apply below_drew1) | exact HB.out)⟩⟩
          · rw [if_neg c14] at H
            have c14b0 : ((t363.length : Int) == (l0.length : Int)) = false := beq_eq_false_iff_ne.mpr c14
            have c14b1 : ((t363.length : Int) != (l0.length : Int)) = true := bne_iff_ne.mpr c14
            have c14b2 : (t363.length == l0.length) = false := by first | simpa using c14 | (simp at c14 ⊢; omega)
            (first | rw [c14b0] | (simp only [i64_w, i32_w]; rw [c14b0]) | skip)
            have H' := Aside0.mk H
            clear H
            obtain ⟨Ao19, co19, eo19⟩ := Kd.R_slice HO365.out
            subst eo19
            go_wp2
            repeat (go_quiet (fail); try go_wp2)
            go_meet
            case rel => exact ⟨_, (true), (by first | rfl | (simp; done) | (simp [*]; done)), H', ⟨by have := HJ4.out; first | omega | exact Nat.le_refl _⟩, ⟨by (with_reducible repeat (first | apply Kd.R_alloc | apply Kd.R_drewN | apply Kd.R_drew)); exact HO365.out⟩, ⟨by repeat (first | (with_reducible first | exact HB.out | apply below_alloc | apply pw_below_drewN | apply below_drew1) | exact HB.out)⟩⟩
        case rest =>
          clear HC12
          try clear c1
          try clear p2
          try clear c7
          try clear c8
          try clear c9
          try clear c9b0
          try clear c9b1
          try clear c10
          try clear c14
          try clear c14b0
          try clear c14b1
          try clear c14b2
          try clear p2
          obtain ⟨kq, x48_11, rfl, HA, HJ11, HO_7, HB⟩ := hcut
          cases kq with
          | zero => exact absurd HA.out (by simp [catchwordlaw10_RemapSorts.j1])
          | succ kj11 =>
            have H := HA.out
            clear HA
            simp only [catchwordlaw10_RemapSorts.j1] at H
            by_cases c20 : x48_11 = true
            · subst c20
              have H1 : (some false) = some r := by rw [if_pos rfl] at H; exact H
              clear H
              have H := H1
              clear H1
              obtain rfl := Option.some.inj H
              go_wp2
              repeat (go_quiet (fail); try go_wp2)
              go_ret
              exact ⟨by first | rfl | (simp [errW_none, errW_some] <;> rfl) | (simp [*, errW_none, errW_some] <;> rfl), by repeat (first | (with_reducible first | exact HB.out | apply below_alloc | apply pw_below_drewN | apply below_drew1) | exact HB.out)⟩
            · replace c20 := Bool.eq_false_iff.mpr c20
              subst c20
              have H1 : (catchwordlaw10_RemapSorts.l0 kj11 l0 l1 t363 1) = some r := by rw [if_neg (show ¬ (false = true) by decide)] at H; exact H
              clear H
              have H := H1
              clear H1
              have H' := Aside0.mk H
              clear H
              go_wp2
              repeat (go_quiet (fail); try go_wp2)
              go_loopg [8] kj11 (fun kq v8 w' => ∃ (x8_3 : Int), v8 = .int .i64 x8_3 ∧ Aside0 (catchwordlaw10_RemapSorts.l0 kq l0 l1 t363 x8_3 = some r) ∧ Aside0 (kq ≤ kj11) ∧ Aside0 (Kd.R (Kd.int .i64) 3 w' w.heap.size (fun _ => True) v364 t363) ∧ Aside0 (Below w.heap.size w w'))
              case atStart => exact ⟨(1), (by first | rfl | (simp; done) | (simp [*]; done)), H', ⟨Nat.le_refl _⟩, ⟨by (with_reducible repeat (first | apply Kd.R_alloc | apply Kd.R_drewN | apply Kd.R_drew)); exact HO_7.out⟩, ⟨by repeat (first | (with_reducible first | exact HB.out | apply below_alloc | apply pw_below_drewN | apply below_drew1) | exact HB.out)⟩⟩
              case round =>
                clear H'
                try clear c1
                try clear c2
                try clear p2
                try clear c7
                try clear c8
                try clear c9
                try clear c9b0
                try clear c9b1
                try clear c10
                try clear c14
                try clear c14b0
                try clear c14b1
                try clear c14b2
                try clear c20
                try clear p2
                obtain ⟨x8_3, rfl, HA, HK3, HO_7, HB⟩ := hrel
                cases gk with
                | zero => exact absurd HA.out (by simp [catchwordlaw10_RemapSorts.l0])
                | succ k3 =>
                  have H := HA.out
                  clear HA
                  simp only [catchwordlaw10_RemapSorts.l0] at H
                  by_cases c21 : x8_3 < (t363.length : Int)
                  · rw [if_pos c21] at H
                    have c21b0 : decide (x8_3 < (t363.length : Int)) = true := decide_eq_true c21
                    clear c21
                    obtain ⟨ji22, hji22⟩ : ∃ j_ : Int, (wrap64 (x8_3 - 1)) = j_ := ⟨_, rfl⟩
                    replace H : (if 0 ≤ (ji22) then (if (ji22) < (t363.length : Int) then (if 0 ≤ x8_3 then (if 0 ≤ (rd t363 (ji22)) then (if (rd t363 (ji22)) < (l0.length : Int) then (if 0 ≤ (rd t363 x8_3) then (if (rd t363 x8_3) < (l0.length : Int) then (if (rd l0 (rd t363 (ji22))) > (rd l0 (rd t363 x8_3)) then (some false) else (if (rd l0 (rd t363 (ji22))) = (rd l0 (rd t363 x8_3)) then (if (rd t363 (ji22)) < (l1.length : Int) then (if (rd t363 x8_3) < (l1.length : Int) then (if (Op.bytesLess ((rdOf ByteArray.empty l1 (rd t363 x8_3)).toList) ((rdOf ByteArray.empty l1 (rd t363 (ji22))).toList)) = true then (some false) else (if (rdOf ByteArray.empty l1 (rd t363 (ji22))).toList = (rdOf ByteArray.empty l1 (rd t363 x8_3)).toList then (if (rd t363 (ji22)) > (rd t363 x8_3) then (some false) else (catchwordlaw10_RemapSorts.l0 k3 l0 l1 t363 (wrap64 (x8_3 + 1)))) else (catchwordlaw10_RemapSorts.l0 k3 l0 l1 t363 (wrap64 (x8_3 + 1))))) else (none)) else (none)) else (catchwordlaw10_RemapSorts.l0 k3 l0 l1 t363 (wrap64 (x8_3 + 1))))) else (none)) else (none)) else (none)) else (none)) else (none)) else (none)) else (none)) = some r := by first | (rw [hji22] at H; exact H) | (simp only [hji22] at H ⊢; exact H)
                    have hji22w : (IntKind.i64.wrap (x8_3 - 1)) = ji22 := (i64_w _).trans hji22
                    by_cases c23 : 0 ≤ (ji22)
                    · rw [if_pos c23] at H
                      have c23b0 : decide (0 ≤ (ji22)) = true := decide_eq_true c23
                      clear c23
                      by_cases c24 : (ji22) < (t363.length : Int)
                      · rw [if_pos c24] at H
                        have c24b0 : decide ((ji22) < (t363.length : Int)) = true := decide_eq_true c24
                        clear c24
                        by_cases c25 : 0 ≤ x8_3
                        · rw [if_pos c25] at H
                          have c25b0 : decide (0 ≤ x8_3) = true := decide_eq_true c25
                          clear c25
                          by_cases c26 : 0 ≤ (rd t363 (ji22))
                          · rw [if_pos c26] at H
                            have c26b0 : decide (0 ≤ (rd t363 (ji22))) = true := decide_eq_true c26
                            clear c26
                            by_cases c27 : (rd t363 (ji22)) < (l0.length : Int)
                            · rw [if_pos c27] at H
                              have c27b0 : decide ((rd t363 (ji22)) < (l0.length : Int)) = true := decide_eq_true c27
                              clear c27
                              by_cases c28 : 0 ≤ (rd t363 x8_3)
                              · rw [if_pos c28] at H
                                have c28b0 : decide (0 ≤ (rd t363 x8_3)) = true := decide_eq_true c28
                                clear c28
                                by_cases c29 : (rd t363 x8_3) < (l0.length : Int)
                                · rw [if_pos c29] at H
                                  have c29b0 : decide ((rd t363 x8_3) < (l0.length : Int)) = true := decide_eq_true c29
                                  clear c29
                                  by_cases c30 : (rd l0 (rd t363 (ji22))) > (rd l0 (rd t363 x8_3))
                                  · rw [if_pos c30] at H
                                    have c30b0 : decide ((rd l0 (rd t363 x8_3)) < (rd l0 (rd t363 (ji22)))) = true := decide_eq_true c30
                                    clear c30
                                    obtain rfl := Option.some.inj H
                                    obtain ⟨Ao31, co31, eo31⟩ := Kd.R_slice HO_7.out
                                    subst eo31
                                    have p369 : 0 ≤ ((ji22) : Int) := of_decide_eq_true (by first | (with_reducible assumption) | assumption)
                                    have q369 : (ji22) < (t363.length : Int) := of_decide_eq_true (by first | (with_reducible assumption) | assumption)
                                    obtain ⟨ad369, e369, hx369_0⟩ := Kd.at_int (Kd.R_reads' HO_7.out).2.2 (ji22) p369 q369
                                    cases e369
                                    replace p369 := eq_true p369
                                    replace q369 := eq_true q369
                                    have p370 : 0 ≤ (x8_3 : Int) := of_decide_eq_true (by first | (with_reducible assumption) | assumption)
                                    have q370 : x8_3 < (t363.length : Int) := of_decide_eq_true (by first | (with_reducible assumption) | assumption)
                                    obtain ⟨ad370, e370, hx370_0⟩ := Kd.at_int (Kd.R_reads' HO_7.out).2.2 x8_3 p370 q370
                                    obtain rfl : ad369 = ad370 := (by injection e370)
                                    replace p370 := eq_true p370
                                    replace q370 := eq_true q370
                                    have p371 : 0 ≤ ((rd t363 (ji22)) : Int) := of_decide_eq_true (by first | (with_reducible assumption) | assumption)
                                    have q371 : (rd t363 (ji22)) < (l0.length : Int) := of_decide_eq_true (by first | (with_reducible assumption) | assumption)
                                    obtain ⟨ad371, e371, hx371_0⟩ := Kd.at_int HR0.out (rd t363 (ji22)) p371 q371
                                    cases e371
                                    replace hx371_0 := (HB.out.cell (World.block_lt_of_cell? w _ hx371_0)).trans hx371_0
                                    replace p371 := eq_true p371
                                    replace q371 := eq_true q371
                                    have p372 : 0 ≤ ((rd t363 x8_3) : Int) := of_decide_eq_true (by first | (with_reducible assumption) | assumption)
                                    have q372 : (rd t363 x8_3) < (l0.length : Int) := of_decide_eq_true (by first | (with_reducible assumption) | assumption)
                                    obtain ⟨ad372, e372, hx372_0⟩ := Kd.at_int HR0.out (rd t363 x8_3) p372 q372
                                    obtain rfl : ad371 = ad372 := (by injection e372)
                                    replace hx372_0 := (HB.out.cell (World.block_lt_of_cell? w _ hx372_0)).trans hx372_0
                                    replace p372 := eq_true p372
                                    replace q372 := eq_true q372
                                    go_wp2
                                    repeat (go_quiet (fail); try go_wp2)
                                    go_ret
                                    exact ⟨by first | rfl | (simp [errW_none, errW_some] <;> rfl) | (simp only [← hji22]; first | rfl | (simp [errW_none, errW_some] <;> rfl)) | (simp [*, errW_none, errW_some] <;> rfl), by repeat (first | (with_reducible first | exact HB.out | apply below_alloc | apply pw_below_drewN | apply below_drew1) | exact HB.out)⟩
                                  · rw [if_neg c30] at H
                                    have c30b0 : decide ((rd l0 (rd t363 x8_3)) < (rd l0 (rd t363 (ji22)))) = false := decide_eq_false c30
                                    clear c30
                                    by_cases c32 : (rd l0 (rd t363 (ji22))) = (rd l0 (rd t363 x8_3))
                                    · rw [if_pos c32] at H
                                      have c32b0 : ((rd l0 (rd t363 (ji22))) == (rd l0 (rd t363 x8_3))) = true := beq_iff_eq.mpr c32
                                      have c32b1 : ((rd l0 (rd t363 (ji22))) != (rd l0 (rd t363 x8_3))) = false := bne_eq_false_iff_eq.mpr c32
                                      clear c32
                                      by_cases c33 : (rd t363 (ji22)) < (l1.length : Int)
                                      · rw [if_pos c33] at H
                                        have c33b0 : decide ((rd t363 (ji22)) < (l1.length : Int)) = true := decide_eq_true c33
                                        clear c33
                                        by_cases c34 : (rd t363 x8_3) < (l1.length : Int)
                                        · rw [if_pos c34] at H
                                          have c34b0 : decide ((rd t363 x8_3) < (l1.length : Int)) = true := decide_eq_true c34
                                          clear c34
                                          by_cases c35 : (Op.bytesLess ((rdOf ByteArray.empty l1 (rd t363 x8_3)).toList) ((rdOf ByteArray.empty l1 (rd t363 (ji22))).toList)) = true
                                          · rw [if_pos c35] at H
                                            have c35b0 : (Op.bytesLess ((rdOf ByteArray.empty l1 (rd t363 x8_3)).toList) ((rdOf ByteArray.empty l1 (rd t363 (ji22))).toList)) = true := c35
                                            clear c35
                                            obtain rfl := Option.some.inj H
                                            obtain ⟨Ao36, co36, eo36⟩ := Kd.R_slice HO_7.out
                                            subst eo36
                                            have p369 : 0 ≤ ((ji22) : Int) := of_decide_eq_true (by first | (with_reducible assumption) | assumption)
                                            have q369 : (ji22) < (t363.length : Int) := of_decide_eq_true (by first | (with_reducible assumption) | assumption)
                                            obtain ⟨ad369, e369, hx369_0⟩ := Kd.at_int (Kd.R_reads' HO_7.out).2.2 (ji22) p369 q369
                                            cases e369
                                            replace p369 := eq_true p369
                                            replace q369 := eq_true q369
                                            have p370 : 0 ≤ (x8_3 : Int) := of_decide_eq_true (by first | (with_reducible assumption) | assumption)
                                            have q370 : x8_3 < (t363.length : Int) := of_decide_eq_true (by first | (with_reducible assumption) | assumption)
                                            obtain ⟨ad370, e370, hx370_0⟩ := Kd.at_int (Kd.R_reads' HO_7.out).2.2 x8_3 p370 q370
                                            obtain rfl : ad369 = ad370 := (by injection e370)
                                            replace p370 := eq_true p370
                                            replace q370 := eq_true q370
                                            have p371 : 0 ≤ ((rd t363 (ji22)) : Int) := of_decide_eq_true (by first | (with_reducible assumption) | assumption)
                                            have q371 : (rd t363 (ji22)) < (l0.length : Int) := of_decide_eq_true (by first | (with_reducible assumption) | assumption)
                                            obtain ⟨ad371, e371, hx371_0⟩ := Kd.at_int HR0.out (rd t363 (ji22)) p371 q371
                                            cases e371
                                            replace hx371_0 := (HB.out.cell (World.block_lt_of_cell? w _ hx371_0)).trans hx371_0
                                            replace p371 := eq_true p371
                                            replace q371 := eq_true q371
                                            have p372 : 0 ≤ ((rd t363 x8_3) : Int) := of_decide_eq_true (by first | (with_reducible assumption) | assumption)
                                            have q372 : (rd t363 x8_3) < (l0.length : Int) := of_decide_eq_true (by first | (with_reducible assumption) | assumption)
                                            obtain ⟨ad372, e372, hx372_0⟩ := Kd.at_int HR0.out (rd t363 x8_3) p372 q372
                                            obtain rfl : ad371 = ad372 := (by injection e372)
                                            replace hx372_0 := (HB.out.cell (World.block_lt_of_cell? w _ hx372_0)).trans hx372_0
                                            replace p372 := eq_true p372
                                            replace q372 := eq_true q372
                                            have p373 : 0 ≤ ((rd t363 (ji22)) : Int) := of_decide_eq_true (by first | (with_reducible assumption) | assumption)
                                            have q373 : (rd t363 (ji22)) < (l0.length : Int) := of_decide_eq_true (by first | (with_reducible assumption) | assumption)
                                            obtain ⟨ad373, e373, hx373_0⟩ := Kd.at_int HR0.out (rd t363 (ji22)) p373 q373
                                            obtain rfl : ad371 = ad373 := (by injection e373)
                                            replace hx373_0 := (HB.out.cell (World.block_lt_of_cell? w _ hx373_0)).trans hx373_0
                                            replace p373 := eq_true p373
                                            replace q373 := eq_true q373
                                            have p374 : 0 ≤ ((rd t363 x8_3) : Int) := of_decide_eq_true (by first | (with_reducible assumption) | assumption)
                                            have q374 : (rd t363 x8_3) < (l0.length : Int) := of_decide_eq_true (by first | (with_reducible assumption) | assumption)
                                            obtain ⟨ad374, e374, hx374_0⟩ := Kd.at_int HR0.out (rd t363 x8_3) p374 q374
                                            obtain rfl : ad371 = ad374 := (by injection e374)
                                            replace hx374_0 := (HB.out.cell (World.block_lt_of_cell? w _ hx374_0)).trans hx374_0
                                            replace p374 := eq_true p374
                                            replace q374 := eq_true q374
                                            have p375 : 0 ≤ ((rd t363 (ji22)) : Int) := of_decide_eq_true (by first | (with_reducible assumption) | assumption)
                                            have q375 : (rd t363 (ji22)) < (l1.length : Int) := of_decide_eq_true (by first | (with_reducible assumption) | assumption)
                                            obtain ⟨ad375, e375, hx375_0⟩ := Kd.at_string HR1.out (rd t363 (ji22)) p375 q375
                                            cases e375
                                            replace hx375_0 := (HB.out.cell (World.block_lt_of_cell? w _ hx375_0)).trans hx375_0
                                            replace p375 := eq_true p375
                                            replace q375 := eq_true q375
                                            have p376 : 0 ≤ ((rd t363 x8_3) : Int) := of_decide_eq_true (by first | (with_reducible assumption) | assumption)
                                            have q376 : (rd t363 x8_3) < (l1.length : Int) := of_decide_eq_true (by first | (with_reducible assumption) | assumption)
                                            obtain ⟨ad376, e376, hx376_0⟩ := Kd.at_string HR1.out (rd t363 x8_3) p376 q376
                                            obtain rfl : ad375 = ad376 := (by injection e376)
                                            replace hx376_0 := (HB.out.cell (World.block_lt_of_cell? w _ hx376_0)).trans hx376_0
                                            replace p376 := eq_true p376
                                            replace q376 := eq_true q376
                                            go_wp2
                                            repeat (go_quiet (fail); try go_wp2)
                                            go_ret
                                            exact ⟨by first | rfl | (simp [errW_none, errW_some] <;> rfl) | (simp only [← hji22]; first | rfl | (simp [errW_none, errW_some] <;> rfl)) | (simp [*, errW_none, errW_some] <;> rfl), by repeat (first | (with_reducible first | exact HB.out | apply below_alloc | apply pw_below_drewN | apply below_drew1) | exact HB.out)⟩
                                          · rw [if_neg c35] at H
                                            have c35b0 : (Op.bytesLess ((rdOf ByteArray.empty l1 (rd t363 x8_3)).toList) ((rdOf ByteArray.empty l1 (rd t363 (ji22))).toList)) = false := by simpa using c35
                                            clear c35
                                            by_cases c37 : (rdOf ByteArray.empty l1 (rd t363 (ji22))).toList = (rdOf ByteArray.empty l1 (rd t363 x8_3)).toList
                                            · rw [if_pos c37] at H
                                              have c37b0 : ((rdOf ByteArray.empty l1 (rd t363 (ji22))).toList == (rdOf ByteArray.empty l1 (rd t363 x8_3)).toList) = true := beq_iff_eq.mpr c37
                                              have c37b1 : ((rdOf ByteArray.empty l1 (rd t363 (ji22))).toList != (rdOf ByteArray.empty l1 (rd t363 x8_3)).toList) = false := bne_eq_false_iff_eq.mpr c37
                                              clear c37
                                              by_cases c38 : (rd t363 (ji22)) > (rd t363 x8_3)
                                              · rw [if_pos c38] at H
                                                have c38b0 : decide ((rd t363 x8_3) < (rd t363 (ji22))) = true := decide_eq_true c38
                                                clear c38
                                                obtain rfl := Option.some.inj H
                                                obtain ⟨Ao39, co39, eo39⟩ := Kd.R_slice HO_7.out
                                                subst eo39
                                                have p369 : 0 ≤ ((ji22) : Int) := of_decide_eq_true (by first | (with_reducible assumption) | assumption)
                                                have q369 : (ji22) < (t363.length : Int) := of_decide_eq_true (by first | (with_reducible assumption) | assumption)
                                                obtain ⟨ad369, e369, hx369_0⟩ := Kd.at_int (Kd.R_reads' HO_7.out).2.2 (ji22) p369 q369
                                                cases e369
                                                replace p369 := eq_true p369
                                                replace q369 := eq_true q369
                                                have p370 : 0 ≤ (x8_3 : Int) := of_decide_eq_true (by first | (with_reducible assumption) | assumption)
                                                have q370 : x8_3 < (t363.length : Int) := of_decide_eq_true (by first | (with_reducible assumption) | assumption)
                                                obtain ⟨ad370, e370, hx370_0⟩ := Kd.at_int (Kd.R_reads' HO_7.out).2.2 x8_3 p370 q370
                                                obtain rfl : ad369 = ad370 := (by injection e370)
                                                replace p370 := eq_true p370
                                                replace q370 := eq_true q370
                                                have p371 : 0 ≤ ((rd t363 (ji22)) : Int) := of_decide_eq_true (by first | (with_reducible assumption) | assumption)
                                                have q371 : (rd t363 (ji22)) < (l0.length : Int) := of_decide_eq_true (by first | (with_reducible assumption) | assumption)
                                                obtain ⟨ad371, e371, hx371_0⟩ := Kd.at_int HR0.out (rd t363 (ji22)) p371 q371
                                                cases e371
                                                replace hx371_0 := (HB.out.cell (World.block_lt_of_cell? w _ hx371_0)).trans hx371_0
                                                replace p371 := eq_true p371
                                                replace q371 := eq_true q371
                                                have p372 : 0 ≤ ((rd t363 x8_3) : Int) := of_decide_eq_true (by first | (with_reducible assumption) | assumption)
                                                have q372 : (rd t363 x8_3) < (l0.length : Int) := of_decide_eq_true (by first | (with_reducible assumption) | assumption)
                                                obtain ⟨ad372, e372, hx372_0⟩ := Kd.at_int HR0.out (rd t363 x8_3) p372 q372
                                                obtain rfl : ad371 = ad372 := (by injection e372)
                                                replace hx372_0 := (HB.out.cell (World.block_lt_of_cell? w _ hx372_0)).trans hx372_0
                                                replace p372 := eq_true p372
                                                replace q372 := eq_true q372
                                                have p373 : 0 ≤ ((rd t363 (ji22)) : Int) := of_decide_eq_true (by first | (with_reducible assumption) | assumption)
                                                have q373 : (rd t363 (ji22)) < (l0.length : Int) := of_decide_eq_true (by first | (with_reducible assumption) | assumption)
                                                obtain ⟨ad373, e373, hx373_0⟩ := Kd.at_int HR0.out (rd t363 (ji22)) p373 q373
                                                obtain rfl : ad371 = ad373 := (by injection e373)
                                                replace hx373_0 := (HB.out.cell (World.block_lt_of_cell? w _ hx373_0)).trans hx373_0
                                                replace p373 := eq_true p373
                                                replace q373 := eq_true q373
                                                have p374 : 0 ≤ ((rd t363 x8_3) : Int) := of_decide_eq_true (by first | (with_reducible assumption) | assumption)
                                                have q374 : (rd t363 x8_3) < (l0.length : Int) := of_decide_eq_true (by first | (with_reducible assumption) | assumption)
                                                obtain ⟨ad374, e374, hx374_0⟩ := Kd.at_int HR0.out (rd t363 x8_3) p374 q374
                                                obtain rfl : ad371 = ad374 := (by injection e374)
                                                replace hx374_0 := (HB.out.cell (World.block_lt_of_cell? w _ hx374_0)).trans hx374_0
                                                replace p374 := eq_true p374
                                                replace q374 := eq_true q374
                                                have p375 : 0 ≤ ((rd t363 (ji22)) : Int) := of_decide_eq_true (by first | (with_reducible assumption) | assumption)
                                                have q375 : (rd t363 (ji22)) < (l1.length : Int) := of_decide_eq_true (by first | (with_reducible assumption) | assumption)
                                                obtain ⟨ad375, e375, hx375_0⟩ := Kd.at_string HR1.out (rd t363 (ji22)) p375 q375
                                                cases e375
                                                replace hx375_0 := (HB.out.cell (World.block_lt_of_cell? w _ hx375_0)).trans hx375_0
                                                replace p375 := eq_true p375
                                                replace q375 := eq_true q375
                                                have p376 : 0 ≤ ((rd t363 x8_3) : Int) := of_decide_eq_true (by first | (with_reducible assumption) | assumption)
                                                have q376 : (rd t363 x8_3) < (l1.length : Int) := of_decide_eq_true (by first | (with_reducible assumption) | assumption)
                                                obtain ⟨ad376, e376, hx376_0⟩ := Kd.at_string HR1.out (rd t363 x8_3) p376 q376
                                                obtain rfl : ad375 = ad376 := (by injection e376)
                                                replace hx376_0 := (HB.out.cell (World.block_lt_of_cell? w _ hx376_0)).trans hx376_0
                                                replace p376 := eq_true p376
                                                replace q376 := eq_true q376
                                                have p377 : 0 ≤ ((rd t363 (ji22)) : Int) := of_decide_eq_true (by first | (with_reducible assumption) | assumption)
                                                have q377 : (rd t363 (ji22)) < (l1.length : Int) := of_decide_eq_true (by first | (with_reducible assumption) | assumption)
                                                obtain ⟨ad377, e377, hx377_0⟩ := Kd.at_string HR1.out (rd t363 (ji22)) p377 q377
                                                obtain rfl : ad375 = ad377 := (by injection e377)
                                                replace hx377_0 := (HB.out.cell (World.block_lt_of_cell? w _ hx377_0)).trans hx377_0
                                                replace p377 := eq_true p377
                                                replace q377 := eq_true q377
                                                have p378 : 0 ≤ ((rd t363 x8_3) : Int) := of_decide_eq_true (by first | (with_reducible assumption) | assumption)
                                                have q378 : (rd t363 x8_3) < (l1.length : Int) := of_decide_eq_true (by first | (with_reducible assumption) | assumption)
                                                obtain ⟨ad378, e378, hx378_0⟩ := Kd.at_string HR1.out (rd t363 x8_3) p378 q378
                                                obtain rfl : ad375 = ad378 := (by injection e378)
                                                replace hx378_0 := (HB.out.cell (World.block_lt_of_cell? w _ hx378_0)).trans hx378_0
                                                replace p378 := eq_true p378
                                                replace q378 := eq_true q378
                                                go_wp2
                                                repeat (go_quiet (fail); try go_wp2)
                                                go_ret
                                                exact ⟨by first | rfl | (simp [errW_none, errW_some] <;> rfl) | (simp only [← hji22]; first | rfl | (simp [errW_none, errW_some] <;> rfl)) | (simp [*, errW_none, errW_some] <;> rfl), by repeat (first | (with_reducible first | exact HB.out | apply below_alloc | apply pw_below_drewN | apply below_drew1) | exact HB.out)⟩
                                              · rw [if_neg c38] at H
                                                have c38b0 : decide ((rd t363 x8_3) < (rd t363 (ji22))) = false := decide_eq_false c38
                                                clear c38
                                                have H' := Aside0.mk H
                                                clear H
                                                obtain ⟨Ao40, co40, eo40⟩ := Kd.R_slice HO_7.out
                                                subst eo40
                                                have p369 : 0 ≤ ((ji22) : Int) := of_decide_eq_true (by first | (with_reducible assumption) | assumption)
                                                have q369 : (ji22) < (t363.length : Int) := of_decide_eq_true (by first | (with_reducible assumption) | assumption)
                                                obtain ⟨ad369, e369, hx369_0⟩ := Kd.at_int (Kd.R_reads' HO_7.out).2.2 (ji22) p369 q369
                                                cases e369
                                                replace p369 := eq_true p369
                                                replace q369 := eq_true q369
                                                have p370 : 0 ≤ (x8_3 : Int) := of_decide_eq_true (by first | (with_reducible assumption) | assumption)
                                                have q370 : x8_3 < (t363.length : Int) := of_decide_eq_true (by first | (with_reducible assumption) | assumption)
                                                obtain ⟨ad370, e370, hx370_0⟩ := Kd.at_int (Kd.R_reads' HO_7.out).2.2 x8_3 p370 q370
                                                obtain rfl : ad369 = ad370 := (by injection e370)
                                                replace p370 := eq_true p370
                                                replace q370 := eq_true q370
                                                have p371 : 0 ≤ ((rd t363 (ji22)) : Int) := of_decide_eq_true (by first | (with_reducible assumption) | assumption)
                                                have q371 : (rd t363 (ji22)) < (l0.length : Int) := of_decide_eq_true (by first | (with_reducible assumption) | assumption)
                                                obtain ⟨ad371, e371, hx371_0⟩ := Kd.at_int HR0.out (rd t363 (ji22)) p371 q371
                                                cases e371
                                                replace hx371_0 := (HB.out.cell (World.block_lt_of_cell? w _ hx371_0)).trans hx371_0
                                                replace p371 := eq_true p371
                                                replace q371 := eq_true q371
                                                have p372 : 0 ≤ ((rd t363 x8_3) : Int) := of_decide_eq_true (by first | (with_reducible assumption) | assumption)
                                                have q372 : (rd t363 x8_3) < (l0.length : Int) := of_decide_eq_true (by first | (with_reducible assumption) | assumption)
                                                obtain ⟨ad372, e372, hx372_0⟩ := Kd.at_int HR0.out (rd t363 x8_3) p372 q372
                                                obtain rfl : ad371 = ad372 := (by injection e372)
                                                replace hx372_0 := (HB.out.cell (World.block_lt_of_cell? w _ hx372_0)).trans hx372_0
                                                replace p372 := eq_true p372
                                                replace q372 := eq_true q372
                                                have p373 : 0 ≤ ((rd t363 (ji22)) : Int) := of_decide_eq_true (by first | (with_reducible assumption) | assumption)
                                                have q373 : (rd t363 (ji22)) < (l0.length : Int) := of_decide_eq_true (by first | (with_reducible assumption) | assumption)
                                                obtain ⟨ad373, e373, hx373_0⟩ := Kd.at_int HR0.out (rd t363 (ji22)) p373 q373
                                                obtain rfl : ad371 = ad373 := (by injection e373)
                                                replace hx373_0 := (HB.out.cell (World.block_lt_of_cell? w _ hx373_0)).trans hx373_0
                                                replace p373 := eq_true p373
                                                replace q373 := eq_true q373
                                                have p374 : 0 ≤ ((rd t363 x8_3) : Int) := of_decide_eq_true (by first | (with_reducible assumption) | assumption)
                                                have q374 : (rd t363 x8_3) < (l0.length : Int) := of_decide_eq_true (by first | (with_reducible assumption) | assumption)
                                                obtain ⟨ad374, e374, hx374_0⟩ := Kd.at_int HR0.out (rd t363 x8_3) p374 q374
                                                obtain rfl : ad371 = ad374 := (by injection e374)
                                                replace hx374_0 := (HB.out.cell (World.block_lt_of_cell? w _ hx374_0)).trans hx374_0
                                                replace p374 := eq_true p374
                                                replace q374 := eq_true q374
                                                have p375 : 0 ≤ ((rd t363 (ji22)) : Int) := of_decide_eq_true (by first | (with_reducible assumption) | assumption)
                                                have q375 : (rd t363 (ji22)) < (l1.length : Int) := of_decide_eq_true (by first | (with_reducible assumption) | assumption)
                                                obtain ⟨ad375, e375, hx375_0⟩ := Kd.at_string HR1.out (rd t363 (ji22)) p375 q375
                                                cases e375
                                                replace hx375_0 := (HB.out.cell (World.block_lt_of_cell? w _ hx375_0)).trans hx375_0
                                                replace p375 := eq_true p375
                                                replace q375 := eq_true q375
                                                have p376 : 0 ≤ ((rd t363 x8_3) : Int) := of_decide_eq_true (by first | (with_reducible assumption) | assumption)
                                                have q376 : (rd t363 x8_3) < (l1.length : Int) := of_decide_eq_true (by first | (with_reducible assumption) | assumption)
                                                obtain ⟨ad376, e376, hx376_0⟩ := Kd.at_string HR1.out (rd t363 x8_3) p376 q376
                                                obtain rfl : ad375 = ad376 := (by injection e376)
                                                replace hx376_0 := (HB.out.cell (World.block_lt_of_cell? w _ hx376_0)).trans hx376_0
                                                replace p376 := eq_true p376
                                                replace q376 := eq_true q376
                                                have p377 : 0 ≤ ((rd t363 (ji22)) : Int) := of_decide_eq_true (by first | (with_reducible assumption) | assumption)
                                                have q377 : (rd t363 (ji22)) < (l1.length : Int) := of_decide_eq_true (by first | (with_reducible assumption) | assumption)
                                                obtain ⟨ad377, e377, hx377_0⟩ := Kd.at_string HR1.out (rd t363 (ji22)) p377 q377
                                                obtain rfl : ad375 = ad377 := (by injection e377)
                                                replace hx377_0 := (HB.out.cell (World.block_lt_of_cell? w _ hx377_0)).trans hx377_0
                                                replace p377 := eq_true p377
                                                replace q377 := eq_true q377
                                                have p378 : 0 ≤ ((rd t363 x8_3) : Int) := of_decide_eq_true (by first | (with_reducible assumption) | assumption)
                                                have q378 : (rd t363 x8_3) < (l1.length : Int) := of_decide_eq_true (by first | (with_reducible assumption) | assumption)
                                                obtain ⟨ad378, e378, hx378_0⟩ := Kd.at_string HR1.out (rd t363 x8_3) p378 q378
                                                obtain rfl : ad375 = ad378 := (by injection e378)
                                                replace hx378_0 := (HB.out.cell (World.block_lt_of_cell? w _ hx378_0)).trans hx378_0
                                                replace p378 := eq_true p378
                                                replace q378 := eq_true q378
                                                go_wp2
                                                repeat (go_quiet (fail); try go_wp2)
                                                go_roundg k3
                                                case measure => have := HJ4.out; have := HJ11.out; have := HK3.out; omega
                                                case rel => exact ⟨(wrap64 (x8_3 + 1)), (by first | rfl | (simp; done) | (simp [*]; done)), H', ⟨by have := HJ4.out; have := HJ11.out; have := HK3.out; omega⟩, ⟨by (with_reducible repeat (first | apply Kd.R_alloc | apply Kd.R_drewN | apply Kd.R_drew)); exact HO_7.out⟩, ⟨by repeat (first | (with_reducible first | exact HB.out | apply below_alloc | apply pw_below_drewN | apply below_drew1) | exact HB.out)⟩⟩
                                            · rw [if_neg c37] at H
                                              have c37b0 : ((rdOf ByteArray.empty l1 (rd t363 (ji22))).toList == (rdOf ByteArray.empty l1 (rd t363 x8_3)).toList) = false := beq_eq_false_iff_ne.mpr c37
                                              have c37b1 : ((rdOf ByteArray.empty l1 (rd t363 (ji22))).toList != (rdOf ByteArray.empty l1 (rd t363 x8_3)).toList) = true := bne_iff_ne.mpr c37
                                              have H' := Aside0.mk H
                                              clear H
                                              obtain ⟨Ao41, co41, eo41⟩ := Kd.R_slice HO_7.out
                                              subst eo41
                                              have p369 : 0 ≤ ((ji22) : Int) := of_decide_eq_true (by first | (with_reducible assumption) | assumption)
                                              have q369 : (ji22) < (t363.length : Int) := of_decide_eq_true (by first | (with_reducible assumption) | assumption)
                                              obtain ⟨ad369, e369, hx369_0⟩ := Kd.at_int (Kd.R_reads' HO_7.out).2.2 (ji22) p369 q369
                                              cases e369
                                              replace p369 := eq_true p369
                                              replace q369 := eq_true q369
                                              have p370 : 0 ≤ (x8_3 : Int) := of_decide_eq_true (by first | (with_reducible assumption) | assumption)
                                              have q370 : x8_3 < (t363.length : Int) := of_decide_eq_true (by first | (with_reducible assumption) | assumption)
                                              obtain ⟨ad370, e370, hx370_0⟩ := Kd.at_int (Kd.R_reads' HO_7.out).2.2 x8_3 p370 q370
                                              obtain rfl : ad369 = ad370 := (by injection e370)
                                              replace p370 := eq_true p370
                                              replace q370 := eq_true q370
                                              have p371 : 0 ≤ ((rd t363 (ji22)) : Int) := of_decide_eq_true (by first | (with_reducible assumption) | assumption)
                                              have q371 : (rd t363 (ji22)) < (l0.length : Int) := of_decide_eq_true (by first | (with_reducible assumption) | assumption)
                                              obtain ⟨ad371, e371, hx371_0⟩ := Kd.at_int HR0.out (rd t363 (ji22)) p371 q371
                                              cases e371
                                              replace hx371_0 := (HB.out.cell (World.block_lt_of_cell? w _ hx371_0)).trans hx371_0
                                              replace p371 := eq_true p371
                                              replace q371 := eq_true q371
                                              have p372 : 0 ≤ ((rd t363 x8_3) : Int) := of_decide_eq_true (by first | (with_reducible assumption) | assumption)
                                              have q372 : (rd t363 x8_3) < (l0.length : Int) := of_decide_eq_true (by first | (with_reducible assumption) | assumption)
                                              obtain ⟨ad372, e372, hx372_0⟩ := Kd.at_int HR0.out (rd t363 x8_3) p372 q372
                                              obtain rfl : ad371 = ad372 := (by injection e372)
                                              replace hx372_0 := (HB.out.cell (World.block_lt_of_cell? w _ hx372_0)).trans hx372_0
                                              replace p372 := eq_true p372
                                              replace q372 := eq_true q372
                                              have p373 : 0 ≤ ((rd t363 (ji22)) : Int) := of_decide_eq_true (by first | (with_reducible assumption) | assumption)
                                              have q373 : (rd t363 (ji22)) < (l0.length : Int) := of_decide_eq_true (by first | (with_reducible assumption) | assumption)
                                              obtain ⟨ad373, e373, hx373_0⟩ := Kd.at_int HR0.out (rd t363 (ji22)) p373 q373
                                              obtain rfl : ad371 = ad373 := (by injection e373)
                                              replace hx373_0 := (HB.out.cell (World.block_lt_of_cell? w _ hx373_0)).trans hx373_0
                                              replace p373 := eq_true p373
                                              replace q373 := eq_true q373
                                              have p374 : 0 ≤ ((rd t363 x8_3) : Int) := of_decide_eq_true (by first | (with_reducible assumption) | assumption)
                                              have q374 : (rd t363 x8_3) < (l0.length : Int) := of_decide_eq_true (by first | (with_reducible assumption) | assumption)
                                              obtain ⟨ad374, e374, hx374_0⟩ := Kd.at_int HR0.out (rd t363 x8_3) p374 q374
                                              obtain rfl : ad371 = ad374 := (by injection e374)
                                              replace hx374_0 := (HB.out.cell (World.block_lt_of_cell? w _ hx374_0)).trans hx374_0
                                              replace p374 := eq_true p374
                                              replace q374 := eq_true q374
                                              have p375 : 0 ≤ ((rd t363 (ji22)) : Int) := of_decide_eq_true (by first | (with_reducible assumption) | assumption)
                                              have q375 : (rd t363 (ji22)) < (l1.length : Int) := of_decide_eq_true (by first | (with_reducible assumption) | assumption)
                                              obtain ⟨ad375, e375, hx375_0⟩ := Kd.at_string HR1.out (rd t363 (ji22)) p375 q375
                                              cases e375
                                              replace hx375_0 := (HB.out.cell (World.block_lt_of_cell? w _ hx375_0)).trans hx375_0
                                              replace p375 := eq_true p375
                                              replace q375 := eq_true q375
                                              have p376 : 0 ≤ ((rd t363 x8_3) : Int) := of_decide_eq_true (by first | (with_reducible assumption) | assumption)
                                              have q376 : (rd t363 x8_3) < (l1.length : Int) := of_decide_eq_true (by first | (with_reducible assumption) | assumption)
                                              obtain ⟨ad376, e376, hx376_0⟩ := Kd.at_string HR1.out (rd t363 x8_3) p376 q376
                                              obtain rfl : ad375 = ad376 := (by injection e376)
                                              replace hx376_0 := (HB.out.cell (World.block_lt_of_cell? w _ hx376_0)).trans hx376_0
                                              replace p376 := eq_true p376
                                              replace q376 := eq_true q376
                                              have p377 : 0 ≤ ((rd t363 (ji22)) : Int) := of_decide_eq_true (by first | (with_reducible assumption) | assumption)
                                              have q377 : (rd t363 (ji22)) < (l1.length : Int) := of_decide_eq_true (by first | (with_reducible assumption) | assumption)
                                              obtain ⟨ad377, e377, hx377_0⟩ := Kd.at_string HR1.out (rd t363 (ji22)) p377 q377
                                              obtain rfl : ad375 = ad377 := (by injection e377)
                                              replace hx377_0 := (HB.out.cell (World.block_lt_of_cell? w _ hx377_0)).trans hx377_0
                                              replace p377 := eq_true p377
                                              replace q377 := eq_true q377
                                              have p378 : 0 ≤ ((rd t363 x8_3) : Int) := of_decide_eq_true (by first | (with_reducible assumption) | assumption)
                                              have q378 : (rd t363 x8_3) < (l1.length : Int) := of_decide_eq_true (by first | (with_reducible assumption) | assumption)
                                              obtain ⟨ad378, e378, hx378_0⟩ := Kd.at_string HR1.out (rd t363 x8_3) p378 q378
                                              obtain rfl : ad375 = ad378 := (by injection e378)
                                              replace hx378_0 := (HB.out.cell (World.block_lt_of_cell? w _ hx378_0)).trans hx378_0
                                              replace p378 := eq_true p378
                                              replace q378 := eq_true q378
                                              go_wp2
                                              repeat (go_quiet (fail); try go_wp2)
                                              go_roundg k3
                                              case measure => have := HJ4.out; have := HJ11.out; have := HK3.out; omega
                                              case rel => exact ⟨(wrap64 (x8_3 + 1)), (by first | rfl | (simp; done) | (simp [*]; done)), H', ⟨by have := HJ4.out; have := HJ11.out; have := HK3.out; omega⟩, ⟨by (with_reducible repeat (first | apply Kd.R_alloc | apply Kd.R_drewN | apply Kd.R_drew)); exact HO_7.out⟩, ⟨by repeat (first | (with_reducible first | exact HB.out | apply below_alloc | apply pw_below_drewN | apply below_drew1) | exact HB.out)⟩⟩
                                        · rw [if_neg c34] at H
                                          exact absurd H (by simp)
                                      · rw [if_neg c33] at H
                                        exact absurd H (by simp)
                                    · rw [if_neg c32] at H
                                      have c32b0 : ((rd l0 (rd t363 (ji22))) == (rd l0 (rd t363 x8_3))) = false := beq_eq_false_iff_ne.mpr c32
                                      have c32b1 : ((rd l0 (rd t363 (ji22))) != (rd l0 (rd t363 x8_3))) = true := bne_iff_ne.mpr c32
                                      have H' := Aside0.mk H
                                      clear H
                                      obtain ⟨Ao42, co42, eo42⟩ := Kd.R_slice HO_7.out
                                      subst eo42
                                      have p369 : 0 ≤ ((ji22) : Int) := of_decide_eq_true (by first | (with_reducible assumption) | assumption)
                                      have q369 : (ji22) < (t363.length : Int) := of_decide_eq_true (by first | (with_reducible assumption) | assumption)
                                      obtain ⟨ad369, e369, hx369_0⟩ := Kd.at_int (Kd.R_reads' HO_7.out).2.2 (ji22) p369 q369
                                      cases e369
                                      replace p369 := eq_true p369
                                      replace q369 := eq_true q369
                                      have p370 : 0 ≤ (x8_3 : Int) := of_decide_eq_true (by first | (with_reducible assumption) | assumption)
                                      have q370 : x8_3 < (t363.length : Int) := of_decide_eq_true (by first | (with_reducible assumption) | assumption)
                                      obtain ⟨ad370, e370, hx370_0⟩ := Kd.at_int (Kd.R_reads' HO_7.out).2.2 x8_3 p370 q370
                                      obtain rfl : ad369 = ad370 := (by injection e370)
                                      replace p370 := eq_true p370
                                      replace q370 := eq_true q370
                                      have p371 : 0 ≤ ((rd t363 (ji22)) : Int) := of_decide_eq_true (by first | (with_reducible assumption) | assumption)
                                      have q371 : (rd t363 (ji22)) < (l0.length : Int) := of_decide_eq_true (by first | (with_reducible assumption) | assumption)
                                      obtain ⟨ad371, e371, hx371_0⟩ := Kd.at_int HR0.out (rd t363 (ji22)) p371 q371
                                      cases e371
                                      replace hx371_0 := (HB.out.cell (World.block_lt_of_cell? w _ hx371_0)).trans hx371_0
                                      replace p371 := eq_true p371
                                      replace q371 := eq_true q371
                                      have p372 : 0 ≤ ((rd t363 x8_3) : Int) := of_decide_eq_true (by first | (with_reducible assumption) | assumption)
                                      have q372 : (rd t363 x8_3) < (l0.length : Int) := of_decide_eq_true (by first | (with_reducible assumption) | assumption)
                                      obtain ⟨ad372, e372, hx372_0⟩ := Kd.at_int HR0.out (rd t363 x8_3) p372 q372
                                      obtain rfl : ad371 = ad372 := (by injection e372)
                                      replace hx372_0 := (HB.out.cell (World.block_lt_of_cell? w _ hx372_0)).trans hx372_0
                                      replace p372 := eq_true p372
                                      replace q372 := eq_true q372
                                      have p373 : 0 ≤ ((rd t363 (ji22)) : Int) := of_decide_eq_true (by first | (with_reducible assumption) | assumption)
                                      have q373 : (rd t363 (ji22)) < (l0.length : Int) := of_decide_eq_true (by first | (with_reducible assumption) | assumption)
                                      obtain ⟨ad373, e373, hx373_0⟩ := Kd.at_int HR0.out (rd t363 (ji22)) p373 q373
                                      obtain rfl : ad371 = ad373 := (by injection e373)
                                      replace hx373_0 := (HB.out.cell (World.block_lt_of_cell? w _ hx373_0)).trans hx373_0
                                      replace p373 := eq_true p373
                                      replace q373 := eq_true q373
                                      have p374 : 0 ≤ ((rd t363 x8_3) : Int) := of_decide_eq_true (by first | (with_reducible assumption) | assumption)
                                      have q374 : (rd t363 x8_3) < (l0.length : Int) := of_decide_eq_true (by first | (with_reducible assumption) | assumption)
                                      obtain ⟨ad374, e374, hx374_0⟩ := Kd.at_int HR0.out (rd t363 x8_3) p374 q374
                                      obtain rfl : ad371 = ad374 := (by injection e374)
                                      replace hx374_0 := (HB.out.cell (World.block_lt_of_cell? w _ hx374_0)).trans hx374_0
                                      replace p374 := eq_true p374
                                      replace q374 := eq_true q374
                                      go_wp2
                                      repeat (go_quiet (fail); try go_wp2)
                                      go_roundg k3
                                      case measure => have := HJ4.out; have := HJ11.out; have := HK3.out; omega
                                      case rel => exact ⟨(wrap64 (x8_3 + 1)), (by first | rfl | (simp; done) | (simp [*]; done)), H', ⟨by have := HJ4.out; have := HJ11.out; have := HK3.out; omega⟩, ⟨by (with_reducible repeat (first | apply Kd.R_alloc | apply Kd.R_drewN | apply Kd.R_drew)); exact HO_7.out⟩, ⟨by repeat (first | (with_reducible first | exact HB.out | apply below_alloc | apply pw_below_drewN | apply below_drew1) | exact HB.out)⟩⟩
                                · rw [if_neg c29] at H
                                  exact absurd H (by simp)
                              · rw [if_neg c28] at H
                                exact absurd H (by simp)
                            · rw [if_neg c27] at H
                              exact absurd H (by simp)
                          · rw [if_neg c26] at H
                            exact absurd H (by simp)
                        · rw [if_neg c25] at H
                          exact absurd H (by simp)
                      · rw [if_neg c24] at H
                        exact absurd H (by simp)
                    · rw [if_neg c23] at H
                      exact absurd H (by simp)
                  · rw [if_neg c21] at H
                    have c21b0 : decide (x8_3 < (t363.length : Int)) = false := decide_eq_false c21
                    clear c21
                    obtain rfl := Option.some.inj H
                    obtain ⟨Ao43, co43, eo43⟩ := Kd.R_slice HO_7.out
                    subst eo43
                    go_wp2
                    repeat (go_quiet (fail); try go_wp2)
                    go_ret
                    exact ⟨by first | rfl | (simp [errW_none, errW_some] <;> rfl) | (simp [*, errW_none, errW_some] <;> rfl), by repeat (first | (with_reducible first | exact HB.out | apply below_alloc | apply pw_below_drewN | apply below_drew1) | exact HB.out)⟩

end Go.Proofs.Ytldojbonaecngaa.T
