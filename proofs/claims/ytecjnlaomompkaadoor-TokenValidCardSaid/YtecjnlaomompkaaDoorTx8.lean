/- Written by hp.py, this session's own program, out of the translation of this seat: Lean functions for the Go functions, and the proof that each call comes to what its Lean function says. -/
import Derived.Test.YtecjnlaomompkaaDoorTx0
import Derived.Test.YtecjnlaomompkaaDoorTx5
import Derived.Test.YtecjnlaomompkaaDoorVd
namespace Go.Proofs.YtecjnlaomompkaaDoor.T
open Go.RowKit Go.Proofs.YtecjnlaomompkaaDoorW.PrintWords Go.Proofs.YtecjnlaomompkaaDoorW.PrintLast Go.Proofs.YtecjnlaomompkaaDoorW.PrintMore
attribute [local go_sem] max2_int min2_int max_two min_two max_three min_three max_four min_four   -- for this text's walks alone
set_option linter.unusedVariables false
set_option linter.unusedSimpArgs false

/-! ### catchwordlaw05_TokenValid: function 8 -/
mutual
def catchwordlaw05_TokenValid.j0 : Nat → ByteArray → ByteArray → Int → Bool → Bool → Option (Bool)
  | 0, _, _, _, _, _ => none
  | k + 1, x0, x1, x2, x7, x26 => if x26 = true then (some x7) else (if x0.size + x1.size ≤ 9223372036854775807 then ((token_Valid.f (x0 ++ x1)).bind fun t302 => ((token_Valid.f x1).bind fun t303 => (if (t302 != t303) = true then (some false) else (if x2 < 0 then (catchwordlaw05_TokenValid.j1 k x0 x2 true) else (catchwordlaw05_TokenValid.j1 k x0 x2 (decide (x2 ≥ (x0.size : Int)))))))) else (none))
def catchwordlaw05_TokenValid.j1 : Nat → ByteArray → Int → Bool → Option (Bool)
  | 0, _, _, _ => none
  | k + 1, x0, x2, x42 => if x42 = true then (some true) else (if 0 ≤ x2 then (if x2 < (x0.size : Int) then (if (bt x0 x2) ≥ 128 then (if x2 ≤ (x0.size : Int) then ((token_Valid.f (x0.extract 0 (x2 : Int).toNat)).bind fun t304 => (if (t304 == (!(decide ((bt x0 x2) ≤ 191)))) = true then ((token_Valid.f (x0.extract (x2 : Int).toNat x0.size)).bind fun t305 => (some (t305 == (!(decide ((bt x0 x2) ≤ 191)))))) else (some false))) else (none)) else (if x2 ≤ (x0.size : Int) then ((token_Valid.f (x0.extract 0 (x2 : Int).toNat)).bind fun t306 => (if t306 = true then ((token_Valid.f (x0.extract (x2 : Int).toNat x0.size)).bind fun t307 => (some t307)) else (some false))) else (none))) else (none)) else (none))
end
def catchwordlaw05_TokenValid.f (k : Nat) (a0 : ByteArray) (a1 : ByteArray) (a2 : Int) : Option (Bool) := (catchwordlaw05_awake.f k).bind fun t300 => (if t300 = true then (if (a0.size : Int) > 300 then (catchwordlaw05_TokenValid.j0 k a0 a1 a2 t300 true) else (if (a1.size : Int) > 300 then (catchwordlaw05_TokenValid.j0 k a0 a1 a2 t300 true) else ((token_Valid.f a0).bind fun t301 => (catchwordlaw05_TokenValid.j0 k a0 a1 a2 t300 (!t301))))) else (catchwordlaw05_TokenValid.j0 k a0 a1 a2 t300 true))
theorem catchwordlaw05_TokenValid.mono_l : ∀ k, (∀ y0 y1 y2 y3 y4, LeO (catchwordlaw05_TokenValid.j0 k y0 y1 y2 y3 y4) (catchwordlaw05_TokenValid.j0 (k + 1) y0 y1 y2 y3 y4)) ∧ (∀ y0 y1 y2, LeO (catchwordlaw05_TokenValid.j1 k y0 y1 y2) (catchwordlaw05_TokenValid.j1 (k + 1) y0 y1 y2))
  | 0 => ⟨fun _ _ _ _ _ r h => by simp [catchwordlaw05_TokenValid.j0] at h, fun _ _ _ r h => by simp [catchwordlaw05_TokenValid.j1] at h⟩
  | k + 1 => by
    obtain ⟨ih0, ih1⟩ := catchwordlaw05_TokenValid.mono_l k
    refine ⟨?_, ?_⟩
    · intro y0 y1 y2 y3 y4
      unfold catchwordlaw05_TokenValid.j0
      repeat' first
      | (with_reducible exact ih0 _ _ _ _ _)
      | (with_reducible exact ih1 _ _ _)
      | (with_reducible exact catchwordlaw05_awake.mono _)
      | (with_reducible exact LeO.refl _)
      | (with_reducible exact LeO.none _)
      | (with_reducible refine LeO.ite ?_ ?_)
      | (with_reducible refine LeO.bind ?_ (fun _ => ?_))
      | exact ih0 _ _ _ _ _
      | exact ih1 _ _ _
      | exact catchwordlaw05_awake.mono _
      | exact LeO.none _
      | refine LeO.ite ?_ ?_
      | refine LeO.bind ?_ (fun _ => ?_)
    · intro y0 y1 y2
      unfold catchwordlaw05_TokenValid.j1
      repeat' first
      | (with_reducible exact ih0 _ _ _ _ _)
      | (with_reducible exact ih1 _ _ _)
      | (with_reducible exact catchwordlaw05_awake.mono _)
      | (with_reducible exact LeO.refl _)
      | (with_reducible exact LeO.none _)
      | (with_reducible refine LeO.ite ?_ ?_)
      | (with_reducible refine LeO.bind ?_ (fun _ => ?_))
      | exact ih0 _ _ _ _ _
      | exact ih1 _ _ _
      | exact catchwordlaw05_awake.mono _
      | exact LeO.none _
      | refine LeO.ite ?_ ?_
      | refine LeO.bind ?_ (fun _ => ?_)
theorem catchwordlaw05_TokenValid.mono : ∀ a0 a1 a2 k, LeO (catchwordlaw05_TokenValid.f k a0 a1 a2) (catchwordlaw05_TokenValid.f (k + 1) a0 a1 a2) := by
  intro a0 a1 a2 k
  obtain ⟨ih0, ih1⟩ := catchwordlaw05_TokenValid.mono_l k
  unfold catchwordlaw05_TokenValid.f
  repeat' first
      | (with_reducible exact ih0 _ _ _ _ _)
      | (with_reducible exact ih1 _ _ _)
      | (with_reducible exact catchwordlaw05_awake.mono _)
      | (with_reducible exact LeO.refl _)
      | (with_reducible exact LeO.none _)
      | (with_reducible refine LeO.ite ?_ ?_)
      | (with_reducible refine LeO.bind ?_ (fun _ => ?_))
      | exact ih0 _ _ _ _ _
      | exact ih1 _ _ _
      | exact catchwordlaw05_awake.mono _
      | exact LeO.none _
      | refine LeO.ite ?_ ?_
      | refine LeO.bind ?_ (fun _ => ?_)
set_option maxHeartbeats 8000000 in
set_option maxRecDepth 100000 in
theorem catchwordlaw05_TokenValid.calls (k : Nat) (a0 : ByteArray) (a1 : ByteArray) (a2 : Int) (r : Bool) (w : World) (hG : GG w) (h : catchwordlaw05_TokenValid.f k a0 a1 a2 = some r) :
    Calls Tryd.prog 8 #[.string a0, .string a1, .int .i64 a2] w fun e w' => e = .returned (.bool r) ∧ Below w.heap.size w w' := by
  have HB := Aside0.mk (Below.refl w.heap.size w)
  have HG := Aside0.mk hG
  clear hG
  have H : ((catchwordlaw05_awake.f k).bind fun t300 => (if t300 = true then (if (a0.size : Int) > 300 then (catchwordlaw05_TokenValid.j0 k a0 a1 a2 t300 true) else (if (a1.size : Int) > 300 then (catchwordlaw05_TokenValid.j0 k a0 a1 a2 t300 true) else ((token_Valid.f a0).bind fun t301 => (catchwordlaw05_TokenValid.j0 k a0 a1 a2 t300 (!t301))))) else (catchwordlaw05_TokenValid.j0 k a0 a1 a2 t300 true))) = some r := h
  clear h
  replace H := Option.bind_eq_some_iff.mp H
  obtain ⟨t300, A40, H⟩ := H
  replace H : (if t300 = true then (if (a0.size : Int) > 300 then (catchwordlaw05_TokenValid.j0 k a0 a1 a2 t300 true) else (if (a1.size : Int) > 300 then (catchwordlaw05_TokenValid.j0 k a0 a1 a2 t300 true) else ((token_Valid.f a0).bind fun t301 => (catchwordlaw05_TokenValid.j0 k a0 a1 a2 t300 (!t301))))) else (catchwordlaw05_TokenValid.j0 k a0 a1 a2 t300 true)) = some r := H
  have A4 := Aside0.mk A40
  clear A40
  have HC5 := Aside0.mk H
  clear H
  go_enter Tryd.func8, Tryd.ntmps8
  go_upto_region 2 with (first | ((with_reducible refine gate_callee (f := 10) rfl ?_); refine goesL_ (some 9) rfl rfl Tryd.func10 (by kernel_rfl) rfl #[] rfl (by (try simp only [List.map_toArray, List.map_cons, List.map_nil]); first | done | rfl | (simp only [List.length_drop, List.length_take]; rfl)) ?_; (with_reducible refine (catchwordlaw05_awake.calls k  t300 _ ?side1 A4.out).mono ?_); (case side1 => exact GG_below HG.out (by repeat (first | (with_reducible first | exact HB.out | apply below_alloc | apply pw_below_drewN | apply below_drew1) | exact HB.out))); rintro e w6 ⟨rfl, hb⟩; refine ⟨_, rfl, ?_⟩; have n0_ := Aside0.mk (below_step (by repeat (first | (with_reducible first | exact HB.out | apply below_alloc | apply pw_below_drewN | apply below_drew1) | exact HB.out)) hb); clear HB; have HB := n0_; clear n0_; (try clear hb); (try clear hb2); (try clear hk); (try clear hi)))
  (try simp only [Act.put, List.setIfInBounds_toArray, List.set_cons_zero, List.set_cons_succ])
  go_cut [26] (fun v26 wc => ∃ (kq : Nat) (x26_4 : Bool), v26 = .bool x26_4 ∧ Aside0 (catchwordlaw05_TokenValid.j0 kq a0 a1 a2 t300 x26_4 = some r) ∧ Aside0 (kq ≤ k) ∧ Aside0 (Below w.heap.size w wc))
  case first =>
    have H := HC5.out
    clear HC5
    by_cases c7 : t300 = true
    · subst c7
      have H1 : (if (a0.size : Int) > 300 then (catchwordlaw05_TokenValid.j0 k a0 a1 a2 true true) else (if (a1.size : Int) > 300 then (catchwordlaw05_TokenValid.j0 k a0 a1 a2 true true) else ((token_Valid.f a0).bind fun t301 => (catchwordlaw05_TokenValid.j0 k a0 a1 a2 true (!t301))))) = some r := by rw [if_pos rfl] at H; exact H
      clear H
      have H := H1
      clear H1
      by_cases c8 : (a0.size : Int) > 300
      · rw [if_pos c8] at H
        have c8b0 : decide (300 < (a0.size : Int)) = true := decide_eq_true c8
        have c8b1 : decide (300 < a0.size) = true := decide_eq_true (by omega)
        clear c8
        (first | rw [c8b0] | (simp only [i64_w, i32_w]; rw [c8b0]) | skip)
        have H' := Aside0.mk H
        clear H
        go_wp2
        go_meet
        case rel => exact ⟨_, (true), (by first | rfl | (simp; done) | (simp [*]; done)), H', ⟨by first | omega | exact Nat.le_refl _⟩, ⟨by repeat (first | (with_reducible first | exact HB.out | apply below_alloc | apply pw_below_drewN | apply below_drew1) | exact HB.out)⟩⟩
      · rw [if_neg c8] at H
        have c8b0 : decide (300 < (a0.size : Int)) = false := decide_eq_false c8
        have c8b1 : decide (300 < a0.size) = false := decide_eq_false (by omega)
        clear c8
        (first | rw [c8b0] | (simp only [i64_w, i32_w]; rw [c8b0]) | skip)
        by_cases c9 : (a1.size : Int) > 300
        · rw [if_pos c9] at H
          have c9b0 : decide (300 < (a1.size : Int)) = true := decide_eq_true c9
          have c9b1 : decide (300 < a1.size) = true := decide_eq_true (by omega)
          clear c9
          have H' := Aside0.mk H
          clear H
          go_wp2
          go_meet
          case rel => exact ⟨_, (true), (by first | rfl | (simp; done) | (simp [*]; done)), H', ⟨by first | omega | exact Nat.le_refl _⟩, ⟨by repeat (first | (with_reducible first | exact HB.out | apply below_alloc | apply pw_below_drewN | apply below_drew1) | exact HB.out)⟩⟩
        · rw [if_neg c9] at H
          have c9b0 : decide (300 < (a1.size : Int)) = false := decide_eq_false c9
          have c9b1 : decide (300 < a1.size) = false := decide_eq_false (by omega)
          clear c9
          replace H := Option.bind_eq_some_iff.mp H
          obtain ⟨t301, A100, H⟩ := H
          replace H : (catchwordlaw05_TokenValid.j0 k a0 a1 a2 true (!t301)) = some r := H
          have A10 := Aside0.mk A100
          clear A100
          have H' := Aside0.mk H
          clear H
          go_wp2_with (first | (go_at_call 14; (with_reducible refine (token_Valid.calls a0 t301 _ ?side1 A10.out).mono ?_); (case side1 => exact GG_below HG.out (by repeat (first | (with_reducible first | exact HB.out | apply below_alloc | apply pw_below_drewN | apply below_drew1) | exact HB.out))); rintro e w11 ⟨rfl, hb⟩; have n0_ := Aside0.mk (below_step (by repeat (first | (with_reducible first | exact HB.out | apply below_alloc | apply pw_below_drewN | apply below_drew1) | exact HB.out)) hb); clear HB; have HB := n0_; clear n0_; (try clear hb); (try clear hb2); (try clear hk); (try clear hi)))
          go_meet
          case rel => exact ⟨_, (!t301), (by first | rfl | (simp; done) | (simp [*]; done)), H', ⟨by first | omega | exact Nat.le_refl _⟩, ⟨by repeat (first | (with_reducible first | exact HB.out | apply below_alloc | apply pw_below_drewN | apply below_drew1) | exact HB.out)⟩⟩
    · replace c7 := Bool.eq_false_iff.mpr c7
      subst c7
      have H1 : (catchwordlaw05_TokenValid.j0 k a0 a1 a2 false true) = some r := by rw [if_neg (show ¬ (false = true) by decide)] at H; exact H
      clear H
      have H := H1
      clear H1
      have H' := Aside0.mk H
      clear H
      go_wp2
      go_meet
      case rel => exact ⟨_, (true), (by first | rfl | (simp; done) | (simp [*]; done)), H', ⟨by first | omega | exact Nat.le_refl _⟩, ⟨by repeat (first | (with_reducible first | exact HB.out | apply below_alloc | apply pw_below_drewN | apply below_drew1) | exact HB.out)⟩⟩
  case rest =>
    clear HC5
    try clear c1
    try clear p2
    try clear c7
    try clear c8
    try clear c8b0
    try clear c8b1
    try clear c9
    try clear c9b0
    try clear c9b1
    try clear c10
    obtain ⟨kq, x26_4, rfl, HA, HJ4, HB⟩ := hcut
    cases kq with
    | zero => exact absurd HA.out (by simp [catchwordlaw05_TokenValid.j0])
    | succ kj4 =>
      have H := HA.out
      clear HA
      simp only [catchwordlaw05_TokenValid.j0] at H
      by_cases c12 : x26_4 = true
      · subst c12
        have H1 : (some t300) = some r := by rw [if_pos rfl] at H; exact H
        clear H
        have H := H1
        clear H1
        obtain rfl := Option.some.inj H
        go_wp2
        go_ret
        exact ⟨by first | rfl | (simp [errW_none, errW_some] <;> rfl) | (simp [*, errW_none, errW_some] <;> rfl), by repeat (first | (with_reducible first | exact HB.out | apply below_alloc | apply pw_below_drewN | apply below_drew1) | exact HB.out)⟩
      · replace c12 := Bool.eq_false_iff.mpr c12
        subst c12
        have H1 : (if a0.size + a1.size ≤ 9223372036854775807 then ((token_Valid.f (a0 ++ a1)).bind fun t302 => ((token_Valid.f a1).bind fun t303 => (if (t302 != t303) = true then (some false) else (if a2 < 0 then (catchwordlaw05_TokenValid.j1 kj4 a0 a2 true) else (catchwordlaw05_TokenValid.j1 kj4 a0 a2 (decide (a2 ≥ (a0.size : Int)))))))) else (none)) = some r := by rw [if_neg (show ¬ (false = true) by decide)] at H; exact H
        clear H
        have H := H1
        clear H1
        by_cases c13 : a0.size + a1.size ≤ 9223372036854775807
        · rw [if_pos c13] at H
          have c13b0 := eq_true c13
          have c13b1 : decide (a0.size + a1.size ≤ 9223372036854775807) = true := decide_eq_true c13
          try have c13b2 : (9223372036854775807 < a0.size + a1.size) = False := eq_false (Nat.not_lt.2 c13)
          replace H := Option.bind_eq_some_iff.mp H
          obtain ⟨t302, A140, H⟩ := H
          replace H : ((token_Valid.f a1).bind fun t303 => (if (t302 != t303) = true then (some false) else (if a2 < 0 then (catchwordlaw05_TokenValid.j1 kj4 a0 a2 true) else (catchwordlaw05_TokenValid.j1 kj4 a0 a2 (decide (a2 ≥ (a0.size : Int))))))) = some r := H
          have A14 := Aside0.mk A140
          clear A140
          replace H := Option.bind_eq_some_iff.mp H
          obtain ⟨t303, A150, H⟩ := H
          replace H : (if (t302 != t303) = true then (some false) else (if a2 < 0 then (catchwordlaw05_TokenValid.j1 kj4 a0 a2 true) else (catchwordlaw05_TokenValid.j1 kj4 a0 a2 (decide (a2 ≥ (a0.size : Int)))))) = some r := H
          have A15 := Aside0.mk A150
          clear A150
          by_cases c16 : (t302 != t303) = true
          · rw [if_pos c16] at H
            have c16b0 : (t302 != t303) = true := c16
            (try (have c16b1 : decide (t302 = t303) = false := by simpa using c16))
            (try (have c16b2 : (t302 == t303) = false := by simpa using c16))
            (try (have c16b3 : ¬ (t302 = t303) := by simpa using c16))
            clear c16
            obtain rfl := Option.some.inj H
            go_wp2_with (first | ((with_reducible refine gate_callee (f := 14) rfl ?_); refine goesL_ (some 31) rfl rfl Tryd.func14 (by kernel_rfl) rfl #[.string (a0 ++ a1)] rfl (by (try simp only [List.map_toArray, List.map_cons, List.map_nil]); first | done | rfl | (simp only [List.length_drop, List.length_take]; rfl)) ?_; (with_reducible refine (token_Valid.calls (a0 ++ a1) t302 _ ?side1 A14.out).mono ?_); (case side1 => exact GG_below HG.out (by repeat (first | (with_reducible first | exact HB.out | apply below_alloc | apply pw_below_drewN | apply below_drew1) | exact HB.out))); rintro e w17 ⟨rfl, hb⟩; refine ⟨_, rfl, ?_⟩; have n0_ := Aside0.mk (below_step (by repeat (first | (with_reducible first | exact HB.out | apply below_alloc | apply pw_below_drewN | apply below_drew1) | exact HB.out)) hb); clear HB; have HB := n0_; clear n0_; (try clear hb); (try clear hb2); (try clear hk); (try clear hi)) | ((with_reducible refine gate_callee (f := 14) rfl ?_); refine goesL_ (some 33) rfl rfl Tryd.func14 (by kernel_rfl) rfl #[.string a1] rfl (by (try simp only [List.map_toArray, List.map_cons, List.map_nil]); first | done | rfl | (simp only [List.length_drop, List.length_take]; rfl)) ?_; (with_reducible refine (token_Valid.calls a1 t303 _ ?side1 A15.out).mono ?_); (case side1 => exact GG_below HG.out (by repeat (first | (with_reducible first | exact HB.out | apply below_alloc | apply pw_below_drewN | apply below_drew1) | exact HB.out))); rintro e w18 ⟨rfl, hb⟩; refine ⟨_, rfl, ?_⟩; have n0_ := Aside0.mk (below_step (by repeat (first | (with_reducible first | exact HB.out | apply below_alloc | apply pw_below_drewN | apply below_drew1) | exact HB.out)) hb); clear HB; have HB := n0_; clear n0_; (try clear hb); (try clear hb2); (try clear hk); (try clear hi)))
            go_ret
            exact ⟨by first | rfl | (simp [errW_none, errW_some] <;> rfl) | (simp [*, errW_none, errW_some] <;> rfl), by repeat (first | (with_reducible first | exact HB.out | apply below_alloc | apply pw_below_drewN | apply below_drew1) | exact HB.out)⟩
          · rw [if_neg c16] at H
            have c16b0 : (t302 != t303) = false := by simpa using c16
            (try (have c16b1 : decide (t302 = t303) = true := by simpa using c16))
            (try (have c16b2 : (t302 == t303) = true := by simpa using c16))
            clear c16
            have HC19 := Aside0.mk H
            clear H
            go_upto_region 6 with (first | ((with_reducible refine gate_callee (f := 14) rfl ?_); refine goesL_ (some 31) rfl rfl Tryd.func14 (by kernel_rfl) rfl #[.string (a0 ++ a1)] rfl (by (try simp only [List.map_toArray, List.map_cons, List.map_nil]); first | done | rfl | (simp only [List.length_drop, List.length_take]; rfl)) ?_; (with_reducible refine (token_Valid.calls (a0 ++ a1) t302 _ ?side1 A14.out).mono ?_); (case side1 => exact GG_below HG.out (by repeat (first | (with_reducible first | exact HB.out | apply below_alloc | apply pw_below_drewN | apply below_drew1) | exact HB.out))); rintro e w20 ⟨rfl, hb⟩; refine ⟨_, rfl, ?_⟩; have n0_ := Aside0.mk (below_step (by repeat (first | (with_reducible first | exact HB.out | apply below_alloc | apply pw_below_drewN | apply below_drew1) | exact HB.out)) hb); clear HB; have HB := n0_; clear n0_; (try clear hb); (try clear hb2); (try clear hk); (try clear hi)) | ((with_reducible refine gate_callee (f := 14) rfl ?_); refine goesL_ (some 33) rfl rfl Tryd.func14 (by kernel_rfl) rfl #[.string a1] rfl (by (try simp only [List.map_toArray, List.map_cons, List.map_nil]); first | done | rfl | (simp only [List.length_drop, List.length_take]; rfl)) ?_; (with_reducible refine (token_Valid.calls a1 t303 _ ?side1 A15.out).mono ?_); (case side1 => exact GG_below HG.out (by repeat (first | (with_reducible first | exact HB.out | apply below_alloc | apply pw_below_drewN | apply below_drew1) | exact HB.out))); rintro e w21 ⟨rfl, hb⟩; refine ⟨_, rfl, ?_⟩; have n0_ := Aside0.mk (below_step (by repeat (first | (with_reducible first | exact HB.out | apply below_alloc | apply pw_below_drewN | apply below_drew1) | exact HB.out)) hb); clear HB; have HB := n0_; clear n0_; (try clear hb); (try clear hb2); (try clear hk); (try clear hi)))
            (try simp only [Act.put, List.setIfInBounds_toArray, List.set_cons_zero, List.set_cons_succ])
            go_cut [42] (fun v42 wc => ∃ (kq : Nat) (x42_18 : Bool), v42 = .bool x42_18 ∧ Aside0 (catchwordlaw05_TokenValid.j1 kq a0 a2 x42_18 = some r) ∧ Aside0 (kq ≤ kj4) ∧ Aside0 (Below w.heap.size w wc))
            case first =>
              have H := HC19.out
              clear HC19
              by_cases c22 : a2 < 0
              · rw [if_pos c22] at H
                have c22b0 : decide (a2 < 0) = true := decide_eq_true c22
                clear c22
                (first | rw [c22b0] | (simp only [i64_w, i32_w]; rw [c22b0]) | skip)
                have H' := Aside0.mk H
                clear H
                go_wp2
                go_meet
                case rel => exact ⟨_, (true), (by first | rfl | (simp; done) | (simp [*]; done)), H', ⟨by have := HJ4.out; first | omega | exact Nat.le_refl _⟩, ⟨by repeat (first | (with_reducible first | exact HB.out | apply below_alloc | apply pw_below_drewN | apply below_drew1) | exact HB.out)⟩⟩
              · rw [if_neg c22] at H
                have c22b0 : decide (a2 < 0) = false := decide_eq_false c22
                clear c22
                (first | rw [c22b0] | (simp only [i64_w, i32_w]; rw [c22b0]) | skip)
                have H' := Aside0.mk H
                clear H
                go_wp2
                go_meet
                case rel => exact ⟨_, (decide (a2 ≥ (a0.size : Int))), (by first | rfl | (simp; done) | (simp [*]; done)), H', ⟨by have := HJ4.out; first | omega | exact Nat.le_refl _⟩, ⟨by repeat (first | (with_reducible first | exact HB.out | apply below_alloc | apply pw_below_drewN | apply below_drew1) | exact HB.out)⟩⟩
            case rest =>
              clear HC19
              try clear c1
              try clear c2
              try clear p2
              try clear c7
              try clear c8
              try clear c8b0
              try clear c8b1
              try clear c9
              try clear c9b0
              try clear c9b1
              try clear c10
              try clear c12
              try clear c13
              try clear c13b0
              try clear c13b1
              try clear c13b2
              try clear c14
              try clear c16
              try clear c16b0
              try clear c16b1
              try clear c16b2
              try clear c22
              try clear c22b0
              try clear p2
              obtain ⟨kq, x42_18, rfl, HA, HJ18, HB⟩ := hcut
              cases kq with
              | zero => exact absurd HA.out (by simp [catchwordlaw05_TokenValid.j1])
              | succ kj18 =>
                have H := HA.out
                clear HA
                simp only [catchwordlaw05_TokenValid.j1] at H
                by_cases c23 : x42_18 = true
                · subst c23
                  have H1 : (some true) = some r := by rw [if_pos rfl] at H; exact H
                  clear H
                  have H := H1
                  clear H1
                  obtain rfl := Option.some.inj H
                  go_wp2
                  go_ret
                  exact ⟨by first | rfl | (simp [errW_none, errW_some] <;> rfl) | (simp [*, errW_none, errW_some] <;> rfl), by repeat (first | (with_reducible first | exact HB.out | apply below_alloc | apply pw_below_drewN | apply below_drew1) | exact HB.out)⟩
                · replace c23 := Bool.eq_false_iff.mpr c23
                  subst c23
                  have H1 : (if 0 ≤ a2 then (if a2 < (a0.size : Int) then (if (bt a0 a2) ≥ 128 then (if a2 ≤ (a0.size : Int) then ((token_Valid.f (a0.extract 0 (a2 : Int).toNat)).bind fun t304 => (if (t304 == (!(decide ((bt a0 a2) ≤ 191)))) = true then ((token_Valid.f (a0.extract (a2 : Int).toNat a0.size)).bind fun t305 => (some (t305 == (!(decide ((bt a0 a2) ≤ 191)))))) else (some false))) else (none)) else (if a2 ≤ (a0.size : Int) then ((token_Valid.f (a0.extract 0 (a2 : Int).toNat)).bind fun t306 => (if t306 = true then ((token_Valid.f (a0.extract (a2 : Int).toNat a0.size)).bind fun t307 => (some t307)) else (some false))) else (none))) else (none)) else (none)) = some r := by rw [if_neg (show ¬ (false = true) by decide)] at H; exact H
                  clear H
                  have H := H1
                  clear H1
                  by_cases c24 : 0 ≤ a2
                  · rw [if_pos c24] at H
                    have c24b0 : decide (0 ≤ a2) = true := decide_eq_true c24
                    clear c24
                    by_cases c25 : a2 < (a0.size : Int)
                    · rw [if_pos c25] at H
                      have c25b0 : decide (a2 < (a0.size : Int)) = true := decide_eq_true c25
                      clear c25
                      by_cases c27 : (bt a0 a2) ≥ 128
                      · rw [if_pos c27] at H
                        have c27b0 : decide (128 ≤ (bt a0 a2)) = true := decide_eq_true c27
                        clear c27
                        have c29b0 := eq_true (of_decide_eq_true (by first | (with_reducible assumption) | assumption) : 0 ≤ a2)
                        by_cases c30 : a2 ≤ (a0.size : Int)
                        · rw [if_pos c30] at H
                          have c30b0 := eq_true c30
                          have c30b1 : decide (a2 ≤ (a0.size : Int)) = true := decide_eq_true c30
                          clear c30
                          replace H := Option.bind_eq_some_iff.mp H
                          obtain ⟨t304, A310, H⟩ := H
                          replace H : (if (t304 == (!(decide ((bt a0 a2) ≤ 191)))) = true then ((token_Valid.f (a0.extract (a2 : Int).toNat a0.size)).bind fun t305 => (some (t305 == (!(decide ((bt a0 a2) ≤ 191)))))) else (some false)) = some r := H
                          have A31 := Aside0.mk A310
                          clear A310
                          by_cases c32 : (t304 == (!(decide ((bt a0 a2) ≤ 191)))) = true
                          · rw [if_pos c32] at H
                            have c32b0 : (t304 == (!(decide ((bt a0 a2) ≤ 191)))) = true := c32
                            (try (have c32b1 : decide (t304 = (!(decide ((bt a0 a2) ≤ 191)))) = true := by simpa using c32))
                            (try (have c32b2 : (t304 == (!(decide ((bt a0 a2) ≤ 191)))) = true := by simpa using c32))
                            clear c32
                            have c33b0 := eq_true (of_decide_eq_true (by first | (with_reducible assumption) | assumption) : 0 ≤ a2)
                            have c34b0 := eq_true (of_decide_eq_true (by first | (with_reducible assumption) | assumption) : a2 ≤ (a0.size : Int))
                            replace H := Option.bind_eq_some_iff.mp H
                            obtain ⟨t305, A350, H⟩ := H
                            replace H : (some (t305 == (!(decide ((bt a0 a2) ≤ 191))))) = some r := H
                            have A35 := Aside0.mk A350
                            clear A350
                            obtain rfl := Option.some.inj H
                            have p26 : 0 ≤ (a2 : Int) := of_decide_eq_true (by first | (with_reducible assumption) | assumption)
                            have q26 : a2 < (a0.size : Int) := of_decide_eq_true (by first | (with_reducible assumption) | assumption)
                            have hx26 := bt_at a0 a2
                            replace p26 := eq_true p26
                            replace q26 := eq_true q26
                            have p28 : 0 ≤ (a2 : Int) := of_decide_eq_true (by first | (with_reducible assumption) | assumption)
                            have q28 : a2 < (a0.size : Int) := of_decide_eq_true (by first | (with_reducible assumption) | assumption)
                            have hx28 := bt_at a0 a2
                            replace p28 := eq_true p28
                            replace q28 := eq_true q28
                            go_wp2_with (first | ((with_reducible refine gate_callee (f := 14) rfl ?_); refine goesL_ (some 56) rfl rfl Tryd.func14 (by kernel_rfl) rfl #[.string (a0.extract 0 (a2 : Int).toNat)] rfl (by (try simp only [List.map_toArray, List.map_cons, List.map_nil]); first | done | rfl | (simp only [List.length_drop, List.length_take]; rfl)) ?_; (with_reducible refine (token_Valid.calls (a0.extract 0 (a2 : Int).toNat) t304 _ ?side1 A31.out).mono ?_); (case side1 => exact GG_below HG.out (by repeat (first | (with_reducible first | exact HB.out | apply below_alloc | apply pw_below_drewN | apply below_drew1) | exact HB.out))); rintro e w36 ⟨rfl, hb⟩; refine ⟨_, rfl, ?_⟩; have n0_ := Aside0.mk (below_step (by repeat (first | (with_reducible first | exact HB.out | apply below_alloc | apply pw_below_drewN | apply below_drew1) | exact HB.out)) hb); clear HB; have HB := n0_; clear n0_; (try clear hb); (try clear hb2); (try clear hk); (try clear hi)) | (go_at_call 14; (with_reducible refine (token_Valid.calls (a0.extract (a2 : Int).toNat a0.size) t305 _ ?side1 A35.out).mono ?_); (case side1 => exact GG_below HG.out (by repeat (first | (with_reducible first | exact HB.out | apply below_alloc | apply pw_below_drewN | apply below_drew1) | exact HB.out))); rintro e w37 ⟨rfl, hb⟩; have n0_ := Aside0.mk (below_step (by repeat (first | (with_reducible first | exact HB.out | apply below_alloc | apply pw_below_drewN | apply below_drew1) | exact HB.out)) hb); clear HB; have HB := n0_; clear n0_; (try clear hb); (try clear hb2); (try clear hk); (try clear hi)))
                            go_ret
                            exact ⟨by first | rfl | (simp [errW_none, errW_some] <;> rfl) | (simp [*, errW_none, errW_some] <;> rfl), by repeat (first | (with_reducible first | exact HB.out | apply below_alloc | apply pw_below_drewN | apply below_drew1) | exact HB.out)⟩
                          · rw [if_neg c32] at H
                            have c32b0 : (t304 == (!(decide ((bt a0 a2) ≤ 191)))) = false := by simpa using c32
                            (try (have c32b1 : decide (t304 = (!(decide ((bt a0 a2) ≤ 191)))) = false := by simpa using c32))
                            (try (have c32b2 : (t304 == (!(decide ((bt a0 a2) ≤ 191)))) = false := by simpa using c32))
                            (try (have c32b3 : ¬ (t304 = (!(decide ((bt a0 a2) ≤ 191)))) := by simpa using c32))
                            clear c32
                            obtain rfl := Option.some.inj H
                            have p26 : 0 ≤ (a2 : Int) := of_decide_eq_true (by first | (with_reducible assumption) | assumption)
                            have q26 : a2 < (a0.size : Int) := of_decide_eq_true (by first | (with_reducible assumption) | assumption)
                            have hx26 := bt_at a0 a2
                            replace p26 := eq_true p26
                            replace q26 := eq_true q26
                            have p28 : 0 ≤ (a2 : Int) := of_decide_eq_true (by first | (with_reducible assumption) | assumption)
                            have q28 : a2 < (a0.size : Int) := of_decide_eq_true (by first | (with_reducible assumption) | assumption)
                            have hx28 := bt_at a0 a2
                            replace p28 := eq_true p28
                            replace q28 := eq_true q28
                            go_wp2_with (first | ((with_reducible refine gate_callee (f := 14) rfl ?_); refine goesL_ (some 56) rfl rfl Tryd.func14 (by kernel_rfl) rfl #[.string (a0.extract 0 (a2 : Int).toNat)] rfl (by (try simp only [List.map_toArray, List.map_cons, List.map_nil]); first | done | rfl | (simp only [List.length_drop, List.length_take]; rfl)) ?_; (with_reducible refine (token_Valid.calls (a0.extract 0 (a2 : Int).toNat) t304 _ ?side1 A31.out).mono ?_); (case side1 => exact GG_below HG.out (by repeat (first | (with_reducible first | exact HB.out | apply below_alloc | apply pw_below_drewN | apply below_drew1) | exact HB.out))); rintro e w38 ⟨rfl, hb⟩; refine ⟨_, rfl, ?_⟩; have n0_ := Aside0.mk (below_step (by repeat (first | (with_reducible first | exact HB.out | apply below_alloc | apply pw_below_drewN | apply below_drew1) | exact HB.out)) hb); clear HB; have HB := n0_; clear n0_; (try clear hb); (try clear hb2); (try clear hk); (try clear hi)))
                            go_ret
                            exact ⟨by first | rfl | (simp [errW_none, errW_some] <;> rfl) | (simp [*, errW_none, errW_some] <;> rfl), by repeat (first | (with_reducible first | exact HB.out | apply below_alloc | apply pw_below_drewN | apply below_drew1) | exact HB.out)⟩
                        · rw [if_neg c30] at H
                          exact absurd H (by simp)
                      · rw [if_neg c27] at H
                        have c27b0 : decide (128 ≤ (bt a0 a2)) = false := decide_eq_false c27
                        clear c27
                        have c39b0 := eq_true (of_decide_eq_true (by first | (with_reducible assumption) | assumption) : 0 ≤ a2)
                        by_cases c40 : a2 ≤ (a0.size : Int)
                        · rw [if_pos c40] at H
                          have c40b0 := eq_true c40
                          have c40b1 : decide (a2 ≤ (a0.size : Int)) = true := decide_eq_true c40
                          clear c40
                          replace H := Option.bind_eq_some_iff.mp H
                          obtain ⟨t306, A410, H⟩ := H
                          replace H : (if t306 = true then ((token_Valid.f (a0.extract (a2 : Int).toNat a0.size)).bind fun t307 => (some t307)) else (some false)) = some r := H
                          have A41 := Aside0.mk A410
                          clear A410
                          by_cases c42 : t306 = true
                          · subst c42
                            have H1 : ((token_Valid.f (a0.extract (a2 : Int).toNat a0.size)).bind fun t307 => (some t307)) = some r := by rw [if_pos rfl] at H; exact H
                            clear H
                            have H := H1
                            clear H1
                            have c43b0 := eq_true (of_decide_eq_true (by first | (with_reducible assumption) | assumption) : 0 ≤ a2)
                            have c44b0 := eq_true (of_decide_eq_true (by first | (with_reducible assumption) | assumption) : a2 ≤ (a0.size : Int))
                            replace H := Option.bind_eq_some_iff.mp H
                            obtain ⟨t307, A450, H⟩ := H
                            replace H : (some t307) = some r := H
                            have A45 := Aside0.mk A450
                            clear A450
                            obtain rfl := Option.some.inj H
                            have p26 : 0 ≤ (a2 : Int) := of_decide_eq_true (by first | (with_reducible assumption) | assumption)
                            have q26 : a2 < (a0.size : Int) := of_decide_eq_true (by first | (with_reducible assumption) | assumption)
                            have hx26 := bt_at a0 a2
                            replace p26 := eq_true p26
                            replace q26 := eq_true q26
                            go_wp2_with (first | ((with_reducible refine gate_callee (f := 14) rfl ?_); refine goesL_ (some 56) rfl rfl Tryd.func14 (by kernel_rfl) rfl #[.string (a0.extract 0 (a2 : Int).toNat)] rfl (by (try simp only [List.map_toArray, List.map_cons, List.map_nil]); first | done | rfl | (simp only [List.length_drop, List.length_take]; rfl)) ?_; (with_reducible refine (token_Valid.calls (a0.extract 0 (a2 : Int).toNat) true _ ?side1 A41.out).mono ?_); (case side1 => exact GG_below HG.out (by repeat (first | (with_reducible first | exact HB.out | apply below_alloc | apply pw_below_drewN | apply below_drew1) | exact HB.out))); rintro e w46 ⟨rfl, hb⟩; refine ⟨_, rfl, ?_⟩; have n0_ := Aside0.mk (below_step (by repeat (first | (with_reducible first | exact HB.out | apply below_alloc | apply pw_below_drewN | apply below_drew1) | exact HB.out)) hb); clear HB; have HB := n0_; clear n0_; (try clear hb); (try clear hb2); (try clear hk); (try clear hi)) | (go_at_call 14; (with_reducible refine (token_Valid.calls (a0.extract (a2 : Int).toNat a0.size) t307 _ ?side1 A45.out).mono ?_); (case side1 => exact GG_below HG.out (by repeat (first | (with_reducible first | exact HB.out | apply below_alloc | apply pw_below_drewN | apply below_drew1) | exact HB.out))); rintro e w47 ⟨rfl, hb⟩; have n0_ := Aside0.mk (below_step (by repeat (first | (with_reducible first | exact HB.out | apply below_alloc | apply pw_below_drewN | apply below_drew1) | exact HB.out)) hb); clear HB; have HB := n0_; clear n0_; (try clear hb); (try clear hb2); (try clear hk); (try clear hi)))
                            go_ret
                            exact ⟨by first | rfl | (simp [errW_none, errW_some] <;> rfl) | (simp [*, errW_none, errW_some] <;> rfl), by repeat (first | (with_reducible first | exact HB.out | apply below_alloc | apply pw_below_drewN | apply below_drew1) | exact HB.out)⟩
                          · replace c42 := Bool.eq_false_iff.mpr c42
                            subst c42
                            have H1 : (some false) = some r := by rw [if_neg (show ¬ (false = true) by decide)] at H; exact H
                            clear H
                            have H := H1
                            clear H1
                            obtain rfl := Option.some.inj H
                            have p26 : 0 ≤ (a2 : Int) := of_decide_eq_true (by first | (with_reducible assumption) | assumption)
                            have q26 : a2 < (a0.size : Int) := of_decide_eq_true (by first | (with_reducible assumption) | assumption)
                            have hx26 := bt_at a0 a2
                            replace p26 := eq_true p26
                            replace q26 := eq_true q26
                            go_wp2_with (first | ((with_reducible refine gate_callee (f := 14) rfl ?_); refine goesL_ (some 56) rfl rfl Tryd.func14 (by kernel_rfl) rfl #[.string (a0.extract 0 (a2 : Int).toNat)] rfl (by (try simp only [List.map_toArray, List.map_cons, List.map_nil]); first | done | rfl | (simp only [List.length_drop, List.length_take]; rfl)) ?_; (with_reducible refine (token_Valid.calls (a0.extract 0 (a2 : Int).toNat) false _ ?side1 A41.out).mono ?_); (case side1 => exact GG_below HG.out (by repeat (first | (with_reducible first | exact HB.out | apply below_alloc | apply pw_below_drewN | apply below_drew1) | exact HB.out))); rintro e w48 ⟨rfl, hb⟩; refine ⟨_, rfl, ?_⟩; have n0_ := Aside0.mk (below_step (by repeat (first | (with_reducible first | exact HB.out | apply below_alloc | apply pw_below_drewN | apply below_drew1) | exact HB.out)) hb); clear HB; have HB := n0_; clear n0_; (try clear hb); (try clear hb2); (try clear hk); (try clear hi)))
                            go_ret
                            exact ⟨by first | rfl | (simp [errW_none, errW_some] <;> rfl) | (simp [*, errW_none, errW_some] <;> rfl), by repeat (first | (with_reducible first | exact HB.out | apply below_alloc | apply pw_below_drewN | apply below_drew1) | exact HB.out)⟩
                        · rw [if_neg c40] at H
                          exact absurd H (by simp)
                    · rw [if_neg c25] at H
                      exact absurd H (by simp)
                  · rw [if_neg c24] at H
                    exact absurd H (by simp)
        · rw [if_neg c13] at H
          exact absurd H (by simp)

/-- THE ONE PURE STATEMENT of catchwordlaw05_TokenValid: yours. -/
def catchwordlaw05_TokenValid.Pure : Prop := ∀ (a0 : ByteArray) (a1 : ByteArray) (a2 : Int), a0.size ≤ 140737488351232 → a1.size ≤ 140737488351232 → (Lit.int .i64 a2).wf = true → ∃ k, catchwordlaw05_TokenValid.f k a0 a1 a2 = some true
theorem catchwordlaw05_TokenValid.walk (P : catchwordlaw05_TokenValid.Pure) (a0 : ByteArray) (a1 : ByteArray) (a2 : Int) (w : World) (w0 : a0.size ≤ 140737488351232) (w1 : a1.size ≤ 140737488351232) (w2 : (Lit.int .i64 a2).wf = true) (hG : GG w) :
    Calls Tryd.prog 8 #[.string a0, .string a1, .int .i64 a2] w fun e w' => e = .returned (.bool true) ∧ Below w.heap.size w w' := by
  obtain ⟨k, h⟩ := P a0 a1 a2 w0 w1 w2
  refine (catchwordlaw05_TokenValid.calls k a0 a1 a2 true w hG h).mono ?_
  rintro e w' ⟨rfl, hd⟩
  exact ⟨rfl, hd⟩

end Go.Proofs.YtecjnlaomompkaaDoor.T
