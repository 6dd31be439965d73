/- Written by hp.py, this session's own program, out of the translation of this seat: Lean functions for the Go functions, and the proof that each call comes to what its Lean function says. -/
import Derived.Test.YtecjnlaomompkaaDoorTx0
import Derived.Test.YtecjnlaomompkaaDoorTx2
namespace Go.Proofs.YtecjnlaomompkaaDoor.T
open Go.RowKit Go.Proofs.YtecjnlaomompkaaDoorW.PrintWords Go.Proofs.YtecjnlaomompkaaDoorW.PrintLast Go.Proofs.YtecjnlaomompkaaDoorW.PrintMore
attribute [local go_sem] max2_int min2_int max_two min_two max_three min_three max_four min_four   -- for this text's walks alone
set_option linter.unusedVariables false
set_option linter.unusedSimpArgs false

/-! ### catchwordref05_Sign: function 26 -/
mutual
def catchwordref05_Sign.j0 : Nat → ByteArray → Int → Int → Int → Int → Option (Int)
  | 0, _, _, _, _, _ => none
  | k + 1, x0, x1, x5, x6, x7 => if x5 = 237 then (catchwordref05_Sign.j1 k x0 x1 x5 x6 159) else (catchwordref05_Sign.j1 k x0 x1 x5 x6 x7)
def catchwordref05_Sign.j1 : Nat → ByteArray → Int → Int → Int → Int → Option (Int)
  | 0, _, _, _, _, _ => none
  | k + 1, x0, x1, x5, x6, x7 => if x5 = 240 then (catchwordref05_Sign.j2 k x0 x1 x5 144 x7) else (catchwordref05_Sign.j2 k x0 x1 x5 x6 x7)
def catchwordref05_Sign.j2 : Nat → ByteArray → Int → Int → Int → Int → Option (Int)
  | 0, _, _, _, _, _ => none
  | k + 1, x0, x1, x5, x6, x7 => if x5 = 244 then (catchwordref05_Sign.j3 k x0 x1 x5 x6 143) else (catchwordref05_Sign.j3 k x0 x1 x5 x6 x7)
def catchwordref05_Sign.j3 : Nat → ByteArray → Int → Int → Int → Int → Option (Int)
  | 0, _, _, _, _, _ => none
  | k + 1, x0, x1, x5, x6, x7 => (catchwordref05_in.f x0 (wrap64 (x1 + 1)) x6 x7).bind fun t185 => ((catchwordref05_in.f x0 (wrap64 (x1 + 2)) 128 191).bind fun t186 => ((catchwordref05_in.f x0 (wrap64 (x1 + 3)) 128 191).bind fun t187 => (if x5 ≥ 194 then (if x5 ≤ 223 then (catchwordref05_Sign.j4 k x5 t185 t186 t187 t185) else (catchwordref05_Sign.j4 k x5 t185 t186 t187 false)) else (catchwordref05_Sign.j4 k x5 t185 t186 t187 false))))
def catchwordref05_Sign.j4 : Nat → Int → Bool → Bool → Bool → Bool → Option (Int)
  | 0, _, _, _, _, _ => none
  | k + 1, x5, x8, x9, x10, x46 => if x46 = true then (some 2) else (if x5 ≥ 224 then (if x5 ≤ 239 then (if x8 = true then (catchwordref05_Sign.j5 k x5 x8 x9 x10 x9) else (catchwordref05_Sign.j5 k x5 x8 x9 x10 false)) else (catchwordref05_Sign.j5 k x5 x8 x9 x10 false)) else (catchwordref05_Sign.j5 k x5 x8 x9 x10 false))
def catchwordref05_Sign.j5 : Nat → Int → Bool → Bool → Bool → Bool → Option (Int)
  | 0, _, _, _, _, _ => none
  | k + 1, x5, x8, x9, x10, x58 => if x58 = true then (some 3) else (if x5 ≥ 240 then (if x5 ≤ 244 then (if x8 = true then (if x9 = true then (if x10 = true then (some 4) else (some 0)) else (some 0)) else (some 0)) else (some 0)) else (some 0))
end
def catchwordref05_Sign.f (k : Nat) (a0 : ByteArray) (a1 : Int) : Option (Int) := if 0 ≤ a1 then (if a1 < (a0.size : Int) then (if (bt a0 a1) < 128 then (some 1) else (if (bt a0 a1) = 224 then (catchwordref05_Sign.j0 k a0 a1 (bt a0 a1) 160 191) else (catchwordref05_Sign.j0 k a0 a1 (bt a0 a1) 128 191))) else (none)) else (none)
theorem catchwordref05_Sign.mono_l : ∀ k, (∀ y0 y1 y2 y3 y4, LeO (catchwordref05_Sign.j0 k y0 y1 y2 y3 y4) (catchwordref05_Sign.j0 (k + 1) y0 y1 y2 y3 y4)) ∧ (∀ y0 y1 y2 y3 y4, LeO (catchwordref05_Sign.j1 k y0 y1 y2 y3 y4) (catchwordref05_Sign.j1 (k + 1) y0 y1 y2 y3 y4)) ∧ (∀ y0 y1 y2 y3 y4, LeO (catchwordref05_Sign.j2 k y0 y1 y2 y3 y4) (catchwordref05_Sign.j2 (k + 1) y0 y1 y2 y3 y4)) ∧ (∀ y0 y1 y2 y3 y4, LeO (catchwordref05_Sign.j3 k y0 y1 y2 y3 y4) (catchwordref05_Sign.j3 (k + 1) y0 y1 y2 y3 y4)) ∧ (∀ y0 y1 y2 y3 y4, LeO (catchwordref05_Sign.j4 k y0 y1 y2 y3 y4) (catchwordref05_Sign.j4 (k + 1) y0 y1 y2 y3 y4)) ∧ (∀ y0 y1 y2 y3 y4, LeO (catchwordref05_Sign.j5 k y0 y1 y2 y3 y4) (catchwordref05_Sign.j5 (k + 1) y0 y1 y2 y3 y4))
  | 0 => ⟨fun _ _ _ _ _ r h => by simp [catchwordref05_Sign.j0] at h, fun _ _ _ _ _ r h => by simp [catchwordref05_Sign.j1] at h, fun _ _ _ _ _ r h => by simp [catchwordref05_Sign.j2] at h, fun _ _ _ _ _ r h => by simp [catchwordref05_Sign.j3] at h, fun _ _ _ _ _ r h => by simp [catchwordref05_Sign.j4] at h, fun _ _ _ _ _ r h => by simp [catchwordref05_Sign.j5] at h⟩
  | k + 1 => by
    obtain ⟨ih0, ih1, ih2, ih3, ih4, ih5⟩ := catchwordref05_Sign.mono_l k
    refine ⟨?_, ?_, ?_, ?_, ?_, ?_⟩
    · intro y0 y1 y2 y3 y4
      unfold catchwordref05_Sign.j0
      repeat' first
      | (with_reducible exact ih0 _ _ _ _ _)
      | (with_reducible exact ih1 _ _ _ _ _)
      | (with_reducible exact ih2 _ _ _ _ _)
      | (with_reducible exact ih3 _ _ _ _ _)
      | (with_reducible exact ih4 _ _ _ _ _)
      | (with_reducible exact ih5 _ _ _ _ _)
      | (with_reducible exact LeO.refl _)
      | (with_reducible exact LeO.none _)
      | (with_reducible refine LeO.ite ?_ ?_)
      | (with_reducible refine LeO.bind ?_ (fun _ => ?_))
      | exact ih0 _ _ _ _ _
      | exact ih1 _ _ _ _ _
      | exact ih2 _ _ _ _ _
      | exact ih3 _ _ _ _ _
      | exact ih4 _ _ _ _ _
      | exact ih5 _ _ _ _ _
      | exact LeO.none _
      | refine LeO.ite ?_ ?_
      | refine LeO.bind ?_ (fun _ => ?_)
    · intro y0 y1 y2 y3 y4
      unfold catchwordref05_Sign.j1
      repeat' first
      | (with_reducible exact ih0 _ _ _ _ _)
      | (with_reducible exact ih1 _ _ _ _ _)
      | (with_reducible exact ih2 _ _ _ _ _)
      | (with_reducible exact ih3 _ _ _ _ _)
      | (with_reducible exact ih4 _ _ _ _ _)
      | (with_reducible exact ih5 _ _ _ _ _)
      | (with_reducible exact LeO.refl _)
      | (with_reducible exact LeO.none _)
      | (with_reducible refine LeO.ite ?_ ?_)
      | (with_reducible refine LeO.bind ?_ (fun _ => ?_))
      | exact ih0 _ _ _ _ _
      | exact ih1 _ _ _ _ _
      | exact ih2 _ _ _ _ _
      | exact ih3 _ _ _ _ _
      | exact ih4 _ _ _ _ _
      | exact ih5 _ _ _ _ _
      | exact LeO.none _
      | refine LeO.ite ?_ ?_
      | refine LeO.bind ?_ (fun _ => ?_)
    · intro y0 y1 y2 y3 y4
      unfold catchwordref05_Sign.j2
      repeat' first
      | (with_reducible exact ih0 _ _ _ _ _)
      | (with_reducible exact ih1 _ _ _ _ _)
      | (with_reducible exact ih2 _ _ _ _ _)
      | (with_reducible exact ih3 _ _ _ _ _)
      | (with_reducible exact ih4 _ _ _ _ _)
      | (with_reducible exact ih5 _ _ _ _ _)
      | (with_reducible exact LeO.refl _)
      | (with_reducible exact LeO.none _)
      | (with_reducible refine LeO.ite ?_ ?_)
      | (with_reducible refine LeO.bind ?_ (fun _ => ?_))
      | exact ih0 _ _ _ _ _
      | exact ih1 _ _ _ _ _
      | exact ih2 _ _ _ _ _
      | exact ih3 _ _ _ _ _
      | exact ih4 _ _ _ _ _
      | exact ih5 _ _ _ _ _
      | exact LeO.none _
      | refine LeO.ite ?_ ?_
      | refine LeO.bind ?_ (fun _ => ?_)
    · intro y0 y1 y2 y3 y4
      unfold catchwordref05_Sign.j3
      repeat' first
      | (with_reducible exact ih0 _ _ _ _ _)
      | (with_reducible exact ih1 _ _ _ _ _)
      | (with_reducible exact ih2 _ _ _ _ _)
      | (with_reducible exact ih3 _ _ _ _ _)
      | (with_reducible exact ih4 _ _ _ _ _)
      | (with_reducible exact ih5 _ _ _ _ _)
      | (with_reducible exact LeO.refl _)
      | (with_reducible exact LeO.none _)
      | (with_reducible refine LeO.ite ?_ ?_)
      | (with_reducible refine LeO.bind ?_ (fun _ => ?_))
      | exact ih0 _ _ _ _ _
      | exact ih1 _ _ _ _ _
      | exact ih2 _ _ _ _ _
      | exact ih3 _ _ _ _ _
      | exact ih4 _ _ _ _ _
      | exact ih5 _ _ _ _ _
      | exact LeO.none _
      | refine LeO.ite ?_ ?_
      | refine LeO.bind ?_ (fun _ => ?_)
    · intro y0 y1 y2 y3 y4
      unfold catchwordref05_Sign.j4
      repeat' first
      | (with_reducible exact ih0 _ _ _ _ _)
      | (with_reducible exact ih1 _ _ _ _ _)
      | (with_reducible exact ih2 _ _ _ _ _)
      | (with_reducible exact ih3 _ _ _ _ _)
      | (with_reducible exact ih4 _ _ _ _ _)
      | (with_reducible exact ih5 _ _ _ _ _)
      | (with_reducible exact LeO.refl _)
      | (with_reducible exact LeO.none _)
      | (with_reducible refine LeO.ite ?_ ?_)
      | (with_reducible refine LeO.bind ?_ (fun _ => ?_))
      | exact ih0 _ _ _ _ _
      | exact ih1 _ _ _ _ _
      | exact ih2 _ _ _ _ _
      | exact ih3 _ _ _ _ _
      | exact ih4 _ _ _ _ _
      | exact ih5 _ _ _ _ _
      | exact LeO.none _
      | refine LeO.ite ?_ ?_
      | refine LeO.bind ?_ (fun _ => ?_)
    · intro y0 y1 y2 y3 y4
      unfold catchwordref05_Sign.j5
      repeat' first
      | (with_reducible exact ih0 _ _ _ _ _)
      | (with_reducible exact ih1 _ _ _ _ _)
      | (with_reducible exact ih2 _ _ _ _ _)
      | (with_reducible exact ih3 _ _ _ _ _)
      | (with_reducible exact ih4 _ _ _ _ _)
      | (with_reducible exact ih5 _ _ _ _ _)
      | (with_reducible exact LeO.refl _)
      | (with_reducible exact LeO.none _)
      | (with_reducible refine LeO.ite ?_ ?_)
      | (with_reducible refine LeO.bind ?_ (fun _ => ?_))
      | exact ih0 _ _ _ _ _
      | exact ih1 _ _ _ _ _
      | exact ih2 _ _ _ _ _
      | exact ih3 _ _ _ _ _
      | exact ih4 _ _ _ _ _
      | exact ih5 _ _ _ _ _
      | exact LeO.none _
      | refine LeO.ite ?_ ?_
      | refine LeO.bind ?_ (fun _ => ?_)
theorem catchwordref05_Sign.mono : ∀ a0 a1 k, LeO (catchwordref05_Sign.f k a0 a1) (catchwordref05_Sign.f (k + 1) a0 a1) := by
  intro a0 a1 k
  obtain ⟨ih0, ih1, ih2, ih3, ih4, ih5⟩ := catchwordref05_Sign.mono_l k
  unfold catchwordref05_Sign.f
  repeat' first
      | (with_reducible exact ih0 _ _ _ _ _)
      | (with_reducible exact ih1 _ _ _ _ _)
      | (with_reducible exact ih2 _ _ _ _ _)
      | (with_reducible exact ih3 _ _ _ _ _)
      | (with_reducible exact ih4 _ _ _ _ _)
      | (with_reducible exact ih5 _ _ _ _ _)
      | (with_reducible exact LeO.refl _)
      | (with_reducible exact LeO.none _)
      | (with_reducible refine LeO.ite ?_ ?_)
      | (with_reducible refine LeO.bind ?_ (fun _ => ?_))
      | exact ih0 _ _ _ _ _
      | exact ih1 _ _ _ _ _
      | exact ih2 _ _ _ _ _
      | exact ih3 _ _ _ _ _
      | exact ih4 _ _ _ _ _
      | exact ih5 _ _ _ _ _
      | exact LeO.none _
      | refine LeO.ite ?_ ?_
      | refine LeO.bind ?_ (fun _ => ?_)
set_option maxHeartbeats 8000000 in
set_option maxRecDepth 100000 in
theorem catchwordref05_Sign.calls (k : Nat) (a0 : ByteArray) (a1 : Int) (r : Int) (w : World) (h : catchwordref05_Sign.f k a0 a1 = some r) :
    Calls Tryd.prog 26 #[.string a0, .int .i64 a1] w fun e w' => e = .returned (.int .i64 r) ∧ Drawn0 w w' := by
  have H : (if 0 ≤ a1 then (if a1 < (a0.size : Int) then (if (bt a0 a1) < 128 then (some 1) else (if (bt a0 a1) = 224 then (catchwordref05_Sign.j0 k a0 a1 (bt a0 a1) 160 191) else (catchwordref05_Sign.j0 k a0 a1 (bt a0 a1) 128 191))) else (none)) else (none)) = some r := h
  clear h
  by_cases c3 : 0 ≤ a1
  · rw [if_pos c3] at H
    have c3b0 : decide (0 ≤ a1) = true := decide_eq_true c3
    clear c3
    by_cases c4 : a1 < (a0.size : Int)
    · rw [if_pos c4] at H
      have c4b0 : decide (a1 < (a0.size : Int)) = true := decide_eq_true c4
      clear c4
      by_cases c6 : (bt a0 a1) < 128
      · rw [if_pos c6] at H
        have c6b0 : decide ((bt a0 a1) < 128) = true := decide_eq_true c6
        clear c6
        obtain rfl := Option.some.inj H
        have p5 : 0 ≤ (a1 : Int) := of_decide_eq_true (by first | (with_reducible assumption) | assumption)
        have q5 : a1 < (a0.size : Int) := of_decide_eq_true (by first | (with_reducible assumption) | assumption)
        have hx5 := bt_at a0 a1
        replace p5 := eq_true p5
        replace q5 := eq_true q5
        go_enter Tryd.func26, Tryd.ntmps26
        go_wp2
        go_ret
        exact ⟨by first | rfl | (simp; done) | (simp [*]; done), by repeat (first | exact Drawn0.refl _ | apply Drawn0.step)⟩
      · rw [if_neg c6] at H
        have c6b0 : decide ((bt a0 a1) < 128) = false := decide_eq_false c6
        clear c6
        have HC7 := Aside0.mk H
        clear H
        have p5 : 0 ≤ (a1 : Int) := of_decide_eq_true (by first | (with_reducible assumption) | assumption)
        have q5 : a1 < (a0.size : Int) := of_decide_eq_true (by first | (with_reducible assumption) | assumption)
        have hx5 := bt_at a0 a1
        replace p5 := eq_true p5
        replace q5 := eq_true q5
        go_enter Tryd.func26, Tryd.ntmps26
        go_upto_if 17 with (fail)
        go_cut [6] (fun v6 wc => ∃ (kq : Nat) (x6_6 : Int), v6 = .int .u8 x6_6 ∧ Aside0 (catchwordref05_Sign.j0 kq a0 a1 (bt a0 a1) x6_6 191 = some r) ∧ Aside0 (kq ≤ k) ∧ Drawn0 w wc)
        case first =>
          have H := HC7.out
          clear HC7
          by_cases c8 : (bt a0 a1) = 224
          · rw [if_pos c8] at H
            have c8b0 : ((bt a0 a1) == 224) = true := beq_iff_eq.mpr c8
            have c8b1 : ((bt a0 a1) != 224) = false := bne_eq_false_iff_eq.mpr c8
            clear c8
            (first | rw [c8b0] | (simp only [i64_w, i32_w]; rw [c8b0]) | skip)
            have H' := Aside0.mk H
            clear H
            go_wp2
            go_meet
            case rel => exact ⟨_, (160), (by first | rfl | (simp; done) | (simp [*]; done)), H', ⟨by first | omega | exact Nat.le_refl _⟩, by repeat (first | exact Drawn0.refl _ | apply Drawn0.step)⟩
          · rw [if_neg c8] at H
            have c8b0 : ((bt a0 a1) == 224) = false := beq_eq_false_iff_ne.mpr c8
            have c8b1 : ((bt a0 a1) != 224) = true := bne_iff_ne.mpr c8
            (first | rw [c8b0] | (simp only [i64_w, i32_w]; rw [c8b0]) | skip)
            have H' := Aside0.mk H
            clear H
            go_wp2
            go_meet
            case rel => exact ⟨_, (128), (by first | rfl | (simp; done) | (simp [*]; done)), H', ⟨by first | omega | exact Nat.le_refl _⟩, by repeat (first | exact Drawn0.refl _ | apply Drawn0.step)⟩
        case rest =>
          clear HC7
          try clear c2
          try clear p2
          try clear c3
          try clear c3b0
          try clear c4
          try clear c4b0
          try clear p5
          try clear q5
          try clear hx5
          try clear c6
          try clear c6b0
          try clear c8
          try clear c8b0
          try clear c8b1
          try clear p5
          try clear q5
          obtain ⟨kq, x6_6, rfl, HA, HJ6, ⟨mc6, rfl⟩⟩ := hcut
          cases kq with
          | zero => exact absurd HA.out (by simp [catchwordref05_Sign.j0])
          | succ kj6 =>
            have H := HA.out
            clear HA
            simp only [catchwordref05_Sign.j0] at H
            have HC9 := Aside0.mk H
            clear H
            go_upto_if 19 with (fail)
            go_cut [7] (fun v7 wc => ∃ (kq : Nat) (x7_8 : Int), v7 = .int .u8 x7_8 ∧ Aside0 (catchwordref05_Sign.j1 kq a0 a1 (bt a0 a1) x6_6 x7_8 = some r) ∧ Aside0 (kq ≤ kj6) ∧ Drawn0 w wc)
            case first =>
              have H := HC9.out
              clear HC9
              by_cases c10 : (bt a0 a1) = 237
              · rw [if_pos c10] at H
                have c10b0 : ((bt a0 a1) == 237) = true := beq_iff_eq.mpr c10
                have c10b1 : ((bt a0 a1) != 237) = false := bne_eq_false_iff_eq.mpr c10
                clear c10
                (first | rw [c10b0] | (simp only [i64_w, i32_w]; rw [c10b0]) | skip)
                have H' := Aside0.mk H
                clear H
                go_wp2
                go_meet
                case rel => exact ⟨_, (159), (by first | rfl | (simp; done) | (simp [*]; done)), H', ⟨by have := HJ6.out; first | omega | exact Nat.le_refl _⟩, by repeat (first | exact Drawn0.refl _ | apply Drawn0.step)⟩
              · rw [if_neg c10] at H
                have c10b0 : ((bt a0 a1) == 237) = false := beq_eq_false_iff_ne.mpr c10
                have c10b1 : ((bt a0 a1) != 237) = true := bne_iff_ne.mpr c10
                (first | rw [c10b0] | (simp only [i64_w, i32_w]; rw [c10b0]) | skip)
                have H' := Aside0.mk H
                clear H
                go_wp2
                go_meet
                case rel => exact ⟨_, (191), (by first | rfl | (simp; done) | (simp [*]; done)), H', ⟨by have := HJ6.out; first | omega | exact Nat.le_refl _⟩, by repeat (first | exact Drawn0.refl _ | apply Drawn0.step)⟩
            case rest =>
              clear HC9
              try clear c1
              try clear c2
              try clear p2
              try clear c3
              try clear c3b0
              try clear c4
              try clear c4b0
              try clear p5
              try clear q5
              try clear hx5
              try clear c6
              try clear c6b0
              try clear c8
              try clear c8b0
              try clear c8b1
              try clear c10
              try clear c10b0
              try clear c10b1
              try clear p2
              try clear p5
              try clear q5
              obtain ⟨kq, x7_8, rfl, HA, HJ8, ⟨mc8, rfl⟩⟩ := hcut
              cases kq with
              | zero => exact absurd HA.out (by simp [catchwordref05_Sign.j1])
              | succ kj8 =>
                have H := HA.out
                clear HA
                simp only [catchwordref05_Sign.j1] at H
                have HC11 := Aside0.mk H
                clear H
                go_upto_if 21 with (fail)
                go_cut [6] (fun v6 wc => ∃ (kq : Nat) (x6_10 : Int), v6 = .int .u8 x6_10 ∧ Aside0 (catchwordref05_Sign.j2 kq a0 a1 (bt a0 a1) x6_10 x7_8 = some r) ∧ Aside0 (kq ≤ kj8) ∧ Drawn0 w wc)
                case first =>
                  have H := HC11.out
                  clear HC11
                  by_cases c12 : (bt a0 a1) = 240
                  · rw [if_pos c12] at H
                    have c12b0 : ((bt a0 a1) == 240) = true := beq_iff_eq.mpr c12
                    have c12b1 : ((bt a0 a1) != 240) = false := bne_eq_false_iff_eq.mpr c12
                    clear c12
                    (first | rw [c12b0] | (simp only [i64_w, i32_w]; rw [c12b0]) | skip)
                    have H' := Aside0.mk H
                    clear H
                    go_wp2
                    go_meet
                    case rel => exact ⟨_, (144), (by first | rfl | (simp; done) | (simp [*]; done)), H', ⟨by have := HJ6.out; have := HJ8.out; first | omega | exact Nat.le_refl _⟩, by repeat (first | exact Drawn0.refl _ | apply Drawn0.step)⟩
                  · rw [if_neg c12] at H
                    have c12b0 : ((bt a0 a1) == 240) = false := beq_eq_false_iff_ne.mpr c12
                    have c12b1 : ((bt a0 a1) != 240) = true := bne_iff_ne.mpr c12
                    (first | rw [c12b0] | (simp only [i64_w, i32_w]; rw [c12b0]) | skip)
                    have H' := Aside0.mk H
                    clear H
                    go_wp2
                    go_meet
                    case rel => exact ⟨_, (x6_6), (by first | rfl | (simp; done) | (simp [*]; done)), H', ⟨by have := HJ6.out; have := HJ8.out; first | omega | exact Nat.le_refl _⟩, by repeat (first | exact Drawn0.refl _ | apply Drawn0.step)⟩
                case rest =>
                  clear HC11
                  try clear c1
                  try clear c2
                  try clear p2
                  try clear c3
                  try clear c3b0
                  try clear c4
                  try clear c4b0
                  try clear p5
                  try clear q5
                  try clear hx5
                  try clear c6
                  try clear c6b0
                  try clear c8
                  try clear c8b0
                  try clear c8b1
                  try clear c10
                  try clear c10b0
                  try clear c10b1
                  try clear c12
                  try clear c12b0
                  try clear c12b1
                  try clear p2
                  try clear p5
                  try clear q5
                  obtain ⟨kq, x6_10, rfl, HA, HJ10, ⟨mc10, rfl⟩⟩ := hcut
                  cases kq with
                  | zero => exact absurd HA.out (by simp [catchwordref05_Sign.j2])
                  | succ kj10 =>
                    have H := HA.out
                    clear HA
                    simp only [catchwordref05_Sign.j2] at H
                    have HC13 := Aside0.mk H
                    clear H
                    go_upto_if 23 with (fail)
                    go_cut [7] (fun v7 wc => ∃ (kq : Nat) (x7_12 : Int), v7 = .int .u8 x7_12 ∧ Aside0 (catchwordref05_Sign.j3 kq a0 a1 (bt a0 a1) x6_10 x7_12 = some r) ∧ Aside0 (kq ≤ kj10) ∧ Drawn0 w wc)
                    case first =>
                      have H := HC13.out
                      clear HC13
                      by_cases c14 : (bt a0 a1) = 244
                      · rw [if_pos c14] at H
                        have c14b0 : ((bt a0 a1) == 244) = true := beq_iff_eq.mpr c14
                        have c14b1 : ((bt a0 a1) != 244) = false := bne_eq_false_iff_eq.mpr c14
                        clear c14
                        (first | rw [c14b0] | (simp only [i64_w, i32_w]; rw [c14b0]) | skip)
                        have H' := Aside0.mk H
                        clear H
                        go_wp2
                        go_meet
                        case rel => exact ⟨_, (143), (by first | rfl | (simp; done) | (simp [*]; done)), H', ⟨by have := HJ6.out; have := HJ8.out; have := HJ10.out; first | omega | exact Nat.le_refl _⟩, by repeat (first | exact Drawn0.refl _ | apply Drawn0.step)⟩
                      · rw [if_neg c14] at H
                        have c14b0 : ((bt a0 a1) == 244) = false := beq_eq_false_iff_ne.mpr c14
                        have c14b1 : ((bt a0 a1) != 244) = true := bne_iff_ne.mpr c14
                        (first | rw [c14b0] | (simp only [i64_w, i32_w]; rw [c14b0]) | skip)
                        have H' := Aside0.mk H
                        clear H
                        go_wp2
                        go_meet
                        case rel => exact ⟨_, (x7_8), (by first | rfl | (simp; done) | (simp [*]; done)), H', ⟨by have := HJ6.out; have := HJ8.out; have := HJ10.out; first | omega | exact Nat.le_refl _⟩, by repeat (first | exact Drawn0.refl _ | apply Drawn0.step)⟩
                    case rest =>
                      clear HC13
                      try clear c1
                      try clear c2
                      try clear p2
                      try clear c3
                      try clear c3b0
                      try clear c4
                      try clear c4b0
                      try clear p5
                      try clear q5
                      try clear hx5
                      try clear c6
                      try clear c6b0
                      try clear c8
                      try clear c8b0
                      try clear c8b1
                      try clear c10
                      try clear c10b0
                      try clear c10b1
                      try clear c12
                      try clear c12b0
                      try clear c12b1
                      try clear c14
                      try clear c14b0
                      try clear c14b1
                      try clear p2
                      try clear p5
                      try clear q5
                      obtain ⟨kq, x7_12, rfl, HA, HJ12, ⟨mc12, rfl⟩⟩ := hcut
                      cases kq with
                      | zero => exact absurd HA.out (by simp [catchwordref05_Sign.j3])
                      | succ kj12 =>
                        have H := HA.out
                        clear HA
                        simp only [catchwordref05_Sign.j3] at H
                        replace H := Option.bind_eq_some_iff.mp H
                        obtain ⟨t185, A150, H⟩ := H
                        replace H : ((catchwordref05_in.f a0 (wrap64 (a1 + 2)) 128 191).bind fun t186 => ((catchwordref05_in.f a0 (wrap64 (a1 + 3)) 128 191).bind fun t187 => (if (bt a0 a1) ≥ 194 then (if (bt a0 a1) ≤ 223 then (catchwordref05_Sign.j4 kj12 (bt a0 a1) t185 t186 t187 t185) else (catchwordref05_Sign.j4 kj12 (bt a0 a1) t185 t186 t187 false)) else (catchwordref05_Sign.j4 kj12 (bt a0 a1) t185 t186 t187 false)))) = some r := H
                        have A15 := Aside0.mk A150
                        clear A150
                        replace H := Option.bind_eq_some_iff.mp H
                        obtain ⟨t186, A160, H⟩ := H
                        replace H : ((catchwordref05_in.f a0 (wrap64 (a1 + 3)) 128 191).bind fun t187 => (if (bt a0 a1) ≥ 194 then (if (bt a0 a1) ≤ 223 then (catchwordref05_Sign.j4 kj12 (bt a0 a1) t185 t186 t187 t185) else (catchwordref05_Sign.j4 kj12 (bt a0 a1) t185 t186 t187 false)) else (catchwordref05_Sign.j4 kj12 (bt a0 a1) t185 t186 t187 false))) = some r := H
                        have A16 := Aside0.mk A160
                        clear A160
                        replace H := Option.bind_eq_some_iff.mp H
                        obtain ⟨t187, A170, H⟩ := H
                        replace H : (if (bt a0 a1) ≥ 194 then (if (bt a0 a1) ≤ 223 then (catchwordref05_Sign.j4 kj12 (bt a0 a1) t185 t186 t187 t185) else (catchwordref05_Sign.j4 kj12 (bt a0 a1) t185 t186 t187 false)) else (catchwordref05_Sign.j4 kj12 (bt a0 a1) t185 t186 t187 false)) = some r := H
                        have A17 := Aside0.mk A170
                        clear A170
                        have HC18 := Aside0.mk H
                        clear H
                        go_upto_region 17 with (first | ((with_reducible refine gate_callee (f := 32) rfl ?_); refine goesL_ (some 29) rfl rfl Tryd.func32 (by kernel_rfl) rfl #[.string a0, .int .i64 (wrap64 (a1 + 1)), .int .u8 x6_10, .int .u8 x7_12] rfl (by (try simp only [List.map_toArray, List.map_cons, List.map_nil]); first | done | rfl | (simp only [List.length_drop, List.length_take]; rfl)) ?_; (with_reducible refine (catchwordref05_in.calls a0 (wrap64 (a1 + 1)) x6_10 x7_12 t185 _ A15.out).mono ?_); rintro e w' ⟨rfl, ⟨nd, rfl⟩⟩; refine ⟨_, rfl, ?_⟩) | ((with_reducible refine gate_callee (f := 32) rfl ?_); refine goesL_ (some 33) rfl rfl Tryd.func32 (by kernel_rfl) rfl #[.string a0, .int .i64 (wrap64 (a1 + 2)), .int .u8 128, .int .u8 191] rfl (by (try simp only [List.map_toArray, List.map_cons, List.map_nil]); first | done | rfl | (simp only [List.length_drop, List.length_take]; rfl)) ?_; (with_reducible refine (catchwordref05_in.calls a0 (wrap64 (a1 + 2)) 128 191 t186 _ A16.out).mono ?_); rintro e w' ⟨rfl, ⟨nd, rfl⟩⟩; refine ⟨_, rfl, ?_⟩) | ((with_reducible refine gate_callee (f := 32) rfl ?_); refine goesL_ (some 37) rfl rfl Tryd.func32 (by kernel_rfl) rfl #[.string a0, .int .i64 (wrap64 (a1 + 3)), .int .u8 128, .int .u8 191] rfl (by (try simp only [List.map_toArray, List.map_cons, List.map_nil]); first | done | rfl | (simp only [List.length_drop, List.length_take]; rfl)) ?_; (with_reducible refine (catchwordref05_in.calls a0 (wrap64 (a1 + 3)) 128 191 t187 _ A17.out).mono ?_); rintro e w' ⟨rfl, ⟨nd, rfl⟩⟩; refine ⟨_, rfl, ?_⟩))
                        (try simp only [Act.put, List.setIfInBounds_toArray, List.set_cons_zero, List.set_cons_succ])
                        go_cut [46] (fun v46 wc => ∃ (kq : Nat) (x46_17 : Bool), v46 = .bool x46_17 ∧ Aside0 (catchwordref05_Sign.j4 kq (bt a0 a1) t185 t186 t187 x46_17 = some r) ∧ Aside0 (kq ≤ kj12) ∧ Drawn0 w wc)
                        case first =>
                          have H := HC18.out
                          clear HC18
                          by_cases c19 : (bt a0 a1) ≥ 194
                          · rw [if_pos c19] at H
                            have c19b0 : decide (194 ≤ (bt a0 a1)) = true := decide_eq_true c19
                            clear c19
                            (first | rw [c19b0] | (simp only [i64_w, i32_w]; rw [c19b0]) | skip)
                            by_cases c20 : (bt a0 a1) ≤ 223
                            · rw [if_pos c20] at H
                              have c20b0 : decide ((bt a0 a1) ≤ 223) = true := decide_eq_true c20
                              clear c20
                              have H' := Aside0.mk H
                              clear H
                              go_wp2
                              go_meet
                              case rel => exact ⟨_, (t185), (by first | rfl | (simp; done) | (simp [*]; done)), H', ⟨by have := HJ6.out; have := HJ8.out; have := HJ10.out; have := HJ12.out; first | omega | exact Nat.le_refl _⟩, by repeat (first | exact Drawn0.refl _ | apply Drawn0.step)⟩
                            · rw [if_neg c20] at H
                              have c20b0 : decide ((bt a0 a1) ≤ 223) = false := decide_eq_false c20
                              clear c20
                              have H' := Aside0.mk H
                              clear H
                              go_wp2
                              go_meet
                              case rel => exact ⟨_, (false), (by first | rfl | (simp; done) | (simp [*]; done)), H', ⟨by have := HJ6.out; have := HJ8.out; have := HJ10.out; have := HJ12.out; first | omega | exact Nat.le_refl _⟩, by repeat (first | exact Drawn0.refl _ | apply Drawn0.step)⟩
                          · rw [if_neg c19] at H
                            have c19b0 : decide (194 ≤ (bt a0 a1)) = false := decide_eq_false c19
                            clear c19
                            (first | rw [c19b0] | (simp only [i64_w, i32_w]; rw [c19b0]) | skip)
                            have H' := Aside0.mk H
                            clear H
                            go_wp2
                            go_meet
                            case rel => exact ⟨_, (false), (by first | rfl | (simp; done) | (simp [*]; done)), H', ⟨by have := HJ6.out; have := HJ8.out; have := HJ10.out; have := HJ12.out; first | omega | exact Nat.le_refl _⟩, by repeat (first | exact Drawn0.refl _ | apply Drawn0.step)⟩
                        case rest =>
                          clear HC18
                          try clear c1
                          try clear c2
                          try clear p2
                          try clear c3
                          try clear c3b0
                          try clear c4
                          try clear c4b0
                          try clear p5
                          try clear q5
                          try clear hx5
                          try clear c6
                          try clear c6b0
                          try clear p6
                          try clear c8
                          try clear c8b0
                          try clear c8b1
                          try clear c10
                          try clear c10b0
                          try clear c10b1
                          try clear c12
                          try clear c12b0
                          try clear c12b1
                          try clear c14
                          try clear c14b0
                          try clear c14b1
                          try clear c19
                          try clear c19b0
                          try clear c20
                          try clear c20b0
                          try clear p2
                          try clear p5
                          try clear q5
                          obtain ⟨kq, x46_17, rfl, HA, HJ17, ⟨mc17, rfl⟩⟩ := hcut
                          cases kq with
                          | zero => exact absurd HA.out (by simp [catchwordref05_Sign.j4])
                          | succ kj17 =>
                            have H := HA.out
                            clear HA
                            simp only [catchwordref05_Sign.j4] at H
                            by_cases c21 : x46_17 = true
                            · subst c21
                              have H1 : (some 2) = some r := by rw [if_pos rfl] at H; exact H
                              clear H
                              have H := H1
                              clear H1
                              obtain rfl := Option.some.inj H
                              go_wp2
                              go_ret
                              exact ⟨by first | rfl | (simp; done) | (simp [*]; done), by repeat (first | exact Drawn0.refl _ | apply Drawn0.step)⟩
                            · replace c21 := Bool.eq_false_iff.mpr c21
                              subst c21
                              have H1 : (if (bt a0 a1) ≥ 224 then (if (bt a0 a1) ≤ 239 then (if t185 = true then (catchwordref05_Sign.j5 kj17 (bt a0 a1) t185 t186 t187 t186) else (catchwordref05_Sign.j5 kj17 (bt a0 a1) t185 t186 t187 false)) else (catchwordref05_Sign.j5 kj17 (bt a0 a1) t185 t186 t187 false)) else (catchwordref05_Sign.j5 kj17 (bt a0 a1) t185 t186 t187 false)) = some r := by rw [if_neg (show ¬ (false = true) by decide)] at H; exact H
                              clear H
                              have H := H1
                              clear H1
                              have HC22 := Aside0.mk H
                              clear H
                              go_upto_region 19 with (fail)
                              go_cut [58] (fun v58 wc => ∃ (kq : Nat) (x58_21 : Bool), v58 = .bool x58_21 ∧ Aside0 (catchwordref05_Sign.j5 kq (bt a0 a1) t185 t186 t187 x58_21 = some r) ∧ Aside0 (kq ≤ kj17) ∧ Drawn0 w wc)
                              case first =>
                                have H := HC22.out
                                clear HC22
                                by_cases c23 : (bt a0 a1) ≥ 224
                                · rw [if_pos c23] at H
                                  have c23b0 : decide (224 ≤ (bt a0 a1)) = true := decide_eq_true c23
                                  clear c23
                                  (first | rw [c23b0] | (simp only [i64_w, i32_w]; rw [c23b0]) | skip)
                                  by_cases c24 : (bt a0 a1) ≤ 239
                                  · rw [if_pos c24] at H
                                    have c24b0 : decide ((bt a0 a1) ≤ 239) = true := decide_eq_true c24
                                    clear c24
                                    by_cases c25 : t185 = true
                                    · subst c25
                                      have H1 : (catchwordref05_Sign.j5 kj17 (bt a0 a1) true t186 t187 t186) = some r := by rw [if_pos rfl] at H; exact H
                                      clear H
                                      have H := H1
                                      clear H1
                                      have H' := Aside0.mk H
                                      clear H
                                      go_wp2
                                      go_meet
                                      case rel => exact ⟨_, (t186), (by first | rfl | (simp; done) | (simp [*]; done)), H', ⟨by have := HJ6.out; have := HJ8.out; have := HJ10.out; have := HJ12.out; have := HJ17.out; first | omega | exact Nat.le_refl _⟩, by repeat (first | exact Drawn0.refl _ | apply Drawn0.step)⟩
                                    · replace c25 := Bool.eq_false_iff.mpr c25
                                      subst c25
                                      have H1 : (catchwordref05_Sign.j5 kj17 (bt a0 a1) false t186 t187 false) = some r := by rw [if_neg (show ¬ (false = true) by decide)] at H; exact H
                                      clear H
                                      have H := H1
                                      clear H1
                                      have H' := Aside0.mk H
                                      clear H
                                      go_wp2
                                      go_meet
                                      case rel => exact ⟨_, (false), (by first | rfl | (simp; done) | (simp [*]; done)), H', ⟨by have := HJ6.out; have := HJ8.out; have := HJ10.out; have := HJ12.out; have := HJ17.out; first | omega | exact Nat.le_refl _⟩, by repeat (first | exact Drawn0.refl _ | apply Drawn0.step)⟩
                                  · rw [if_neg c24] at H
                                    have c24b0 : decide ((bt a0 a1) ≤ 239) = false := decide_eq_false c24
                                    clear c24
                                    have H' := Aside0.mk H
                                    clear H
                                    go_wp2
                                    go_meet
                                    case rel => exact ⟨_, (false), (by first | rfl | (simp; done) | (simp [*]; done)), H', ⟨by have := HJ6.out; have := HJ8.out; have := HJ10.out; have := HJ12.out; have := HJ17.out; first | omega | exact Nat.le_refl _⟩, by repeat (first | exact Drawn0.refl _ | apply Drawn0.step)⟩
                                · rw [if_neg c23] at H
                                  have c23b0 : decide (224 ≤ (bt a0 a1)) = false := decide_eq_false c23
                                  clear c23
                                  (first | rw [c23b0] | (simp only [i64_w, i32_w]; rw [c23b0]) | skip)
                                  have H' := Aside0.mk H
                                  clear H
                                  go_wp2
                                  go_meet
                                  case rel => exact ⟨_, (false), (by first | rfl | (simp; done) | (simp [*]; done)), H', ⟨by have := HJ6.out; have := HJ8.out; have := HJ10.out; have := HJ12.out; have := HJ17.out; first | omega | exact Nat.le_refl _⟩, by repeat (first | exact Drawn0.refl _ | apply Drawn0.step)⟩
                              case rest =>
                                clear HC22
                                try clear c1
                                try clear c2
                                try clear p2
                                try clear c3
                                try clear c3b0
                                try clear c4
                                try clear c4b0
                                try clear p5
                                try clear q5
                                try clear hx5
                                try clear c6
                                try clear c6b0
                                try clear p6
                                try clear c8
                                try clear c8b0
                                try clear c8b1
                                try clear c10
                                try clear c10b0
                                try clear c10b1
                                try clear c12
                                try clear c12b0
                                try clear c12b1
                                try clear c14
                                try clear c14b0
                                try clear c14b1
                                try clear c17
                                try clear c19
                                try clear c19b0
                                try clear c20
                                try clear c20b0
                                try clear c21
                                try clear c23
                                try clear c23b0
                                try clear c24
                                try clear c24b0
                                try clear c25
                                try clear p2
                                try clear p5
                                try clear p6
                                try clear q5
                                obtain ⟨kq, x58_21, rfl, HA, HJ21, ⟨mc21, rfl⟩⟩ := hcut
                                cases kq with
                                | zero => exact absurd HA.out (by simp [catchwordref05_Sign.j5])
                                | succ kj21 =>
                                  have H := HA.out
                                  clear HA
                                  simp only [catchwordref05_Sign.j5] at H
                                  by_cases c26 : x58_21 = true
                                  · subst c26
                                    have H1 : (some 3) = some r := by rw [if_pos rfl] at H; exact H
                                    clear H
                                    have H := H1
                                    clear H1
                                    obtain rfl := Option.some.inj H
                                    go_wp2
                                    go_ret
                                    exact ⟨by first | rfl | (simp; done) | (simp [*]; done), by repeat (first | exact Drawn0.refl _ | apply Drawn0.step)⟩
                                  · replace c26 := Bool.eq_false_iff.mpr c26
                                    subst c26
                                    have H1 : (if (bt a0 a1) ≥ 240 then (if (bt a0 a1) ≤ 244 then (if t185 = true then (if t186 = true then (if t187 = true then (some 4) else (some 0)) else (some 0)) else (some 0)) else (some 0)) else (some 0)) = some r := by rw [if_neg (show ¬ (false = true) by decide)] at H; exact H
                                    clear H
                                    have H := H1
                                    clear H1
                                    by_cases c27 : (bt a0 a1) ≥ 240
                                    · rw [if_pos c27] at H
                                      have c27b0 : decide (240 ≤ (bt a0 a1)) = true := decide_eq_true c27
                                      clear c27
                                      by_cases c28 : (bt a0 a1) ≤ 244
                                      · rw [if_pos c28] at H
                                        have c28b0 : decide ((bt a0 a1) ≤ 244) = true := decide_eq_true c28
                                        clear c28
                                        by_cases c29 : t185 = true
                                        · subst c29
                                          have H1 : (if t186 = true then (if t187 = true then (some 4) else (some 0)) else (some 0)) = some r := by rw [if_pos rfl] at H; exact H
                                          clear H
                                          have H := H1
                                          clear H1
                                          by_cases c30 : t186 = true
                                          · subst c30
                                            have H1 : (if t187 = true then (some 4) else (some 0)) = some r := by rw [if_pos rfl] at H; exact H
                                            clear H
                                            have H := H1
                                            clear H1
                                            by_cases c31 : t187 = true
                                            · subst c31
                                              have H1 : (some 4) = some r := by rw [if_pos rfl] at H; exact H
                                              clear H
                                              have H := H1
                                              clear H1
                                              obtain rfl := Option.some.inj H
                                              go_wp2
                                              go_ret
                                              exact ⟨by first | rfl | (simp; done) | (simp [*]; done), by repeat (first | exact Drawn0.refl _ | apply Drawn0.step)⟩
                                            · replace c31 := Bool.eq_false_iff.mpr c31
                                              subst c31
                                              have H1 : (some 0) = some r := by rw [if_neg (show ¬ (false = true) by decide)] at H; exact H
                                              clear H
                                              have H := H1
                                              clear H1
                                              obtain rfl := Option.some.inj H
                                              go_wp2
                                              go_ret
                                              exact ⟨by first | rfl | (simp; done) | (simp [*]; done), by repeat (first | exact Drawn0.refl _ | apply Drawn0.step)⟩
                                          · replace c30 := Bool.eq_false_iff.mpr c30
                                            subst c30
                                            have H1 : (some 0) = some r := by rw [if_neg (show ¬ (false = true) by decide)] at H; exact H
                                            clear H
                                            have H := H1
                                            clear H1
                                            obtain rfl := Option.some.inj H
                                            go_wp2
                                            go_ret
                                            exact ⟨by first | rfl | (simp; done) | (simp [*]; done), by repeat (first | exact Drawn0.refl _ | apply Drawn0.step)⟩
                                        · replace c29 := Bool.eq_false_iff.mpr c29
                                          subst c29
                                          have H1 : (some 0) = some r := by rw [if_neg (show ¬ (false = true) by decide)] at H; exact H
                                          clear H
                                          have H := H1
                                          clear H1
                                          obtain rfl := Option.some.inj H
                                          go_wp2
                                          go_ret
                                          exact ⟨by first | rfl | (simp; done) | (simp [*]; done), by repeat (first | exact Drawn0.refl _ | apply Drawn0.step)⟩
                                      · rw [if_neg c28] at H
                                        have c28b0 : decide ((bt a0 a1) ≤ 244) = false := decide_eq_false c28
                                        clear c28
                                        obtain rfl := Option.some.inj H
                                        go_wp2
                                        go_ret
                                        exact ⟨by first | rfl | (simp; done) | (simp [*]; done), by repeat (first | exact Drawn0.refl _ | apply Drawn0.step)⟩
                                    · rw [if_neg c27] at H
                                      have c27b0 : decide (240 ≤ (bt a0 a1)) = false := decide_eq_false c27
                                      clear c27
                                      obtain rfl := Option.some.inj H
                                      go_wp2
                                      go_ret
                                      exact ⟨by first | rfl | (simp; done) | (simp [*]; done), by repeat (first | exact Drawn0.refl _ | apply Drawn0.step)⟩
    · rw [if_neg c4] at H
      exact absurd H (by simp)
  · rw [if_neg c3] at H
    exact absurd H (by simp)

/-! ### catchwordref05_Valid: function 15 -/
def catchwordref05_Valid.l0 : Nat → ByteArray → Int → Option (Bool)
  | 0, _, _ => none
  | k + 1, x0, x3 => if x3 < (x0.size : Int) then ((catchwordref05_Sign.f k x0 x3).bind fun t188 => (if t188 = 0 then (some false) else (catchwordref05_Valid.l0 k x0 (wrap64 (x3 + t188))))) else (some true)
def catchwordref05_Valid.f (k : Nat) (a0 : ByteArray) : Option (Bool) := catchwordref05_Valid.l0 k a0 0
theorem catchwordref05_Valid.mono_l : ∀ k, (∀ y0 y1, LeO (catchwordref05_Valid.l0 k y0 y1) (catchwordref05_Valid.l0 (k + 1) y0 y1))
  | 0 => fun _ _ r h => by simp [catchwordref05_Valid.l0] at h
  | k + 1 => by
    have ih0 := catchwordref05_Valid.mono_l k
    · intro y0 y1
      unfold catchwordref05_Valid.l0
      repeat' first
      | (with_reducible exact ih0 _ _)
      | (with_reducible exact catchwordref05_Sign.mono _ _ _)
      | (with_reducible exact LeO.refl _)
      | (with_reducible exact LeO.none _)
      | (with_reducible refine LeO.ite ?_ ?_)
      | (with_reducible refine LeO.bind ?_ (fun _ => ?_))
      | exact ih0 _ _
      | exact catchwordref05_Sign.mono _ _ _
      | exact LeO.none _
      | refine LeO.ite ?_ ?_
      | refine LeO.bind ?_ (fun _ => ?_)
theorem catchwordref05_Valid.mono : ∀ a0 k, LeO (catchwordref05_Valid.f k a0) (catchwordref05_Valid.f (k + 1) a0) := by
  intro a0 k
  have ih0 := catchwordref05_Valid.mono_l k
  unfold catchwordref05_Valid.f
  repeat' first
      | (with_reducible exact ih0 _ _)
      | (with_reducible exact catchwordref05_Sign.mono _ _ _)
      | (with_reducible exact LeO.refl _)
      | (with_reducible exact LeO.none _)
      | (with_reducible refine LeO.ite ?_ ?_)
      | (with_reducible refine LeO.bind ?_ (fun _ => ?_))
      | exact ih0 _ _
      | exact catchwordref05_Sign.mono _ _ _
      | exact LeO.none _
      | refine LeO.ite ?_ ?_
      | refine LeO.bind ?_ (fun _ => ?_)
set_option maxHeartbeats 8000000 in
set_option maxRecDepth 100000 in
theorem catchwordref05_Valid.calls (k : Nat) (a0 : ByteArray) (r : Bool) (w : World) (h : catchwordref05_Valid.f k a0 = some r) :
    Calls Tryd.prog 15 #[.string a0] w fun e w' => e = .returned (.bool r) ∧ Drawn0 w w' := by
  have H : (catchwordref05_Valid.l0 k a0 0) = some r := h
  clear h
  have H' := Aside0.mk H
  clear H
  go_enter Tryd.func15, Tryd.ntmps15
  go_wp2
  go_loopg [3] k (fun kq v3 w' => ∃ (x3_1 : Int), v3 = .int .i64 x3_1 ∧ Aside0 (catchwordref05_Valid.l0 kq a0 x3_1 = some r) ∧ Aside0 (kq ≤ k) ∧ Drawn0 w w')
  case atStart => exact ⟨(0), (by first | rfl | (simp; done) | (simp [*]; done)), H', ⟨Nat.le_refl _⟩, by repeat (first | exact Drawn0.refl _ | apply Drawn0.step)⟩
  case round =>
    clear H'
    try clear c1
    obtain ⟨x3_1, rfl, HA, HK1, ⟨m1, rfl⟩⟩ := hrel
    cases gk with
    | zero => exact absurd HA.out (by simp [catchwordref05_Valid.l0])
    | succ k1 =>
      have H := HA.out
      clear HA
      simp only [catchwordref05_Valid.l0] at H
      by_cases c2 : x3_1 < (a0.size : Int)
      · rw [if_pos c2] at H
        have c2b0 : decide (x3_1 < (a0.size : Int)) = true := decide_eq_true c2
        clear c2
        replace H := Option.bind_eq_some_iff.mp H
        obtain ⟨t188, A30, H⟩ := H
        replace H : (if t188 = 0 then (some false) else (catchwordref05_Valid.l0 k1 a0 (wrap64 (x3_1 + t188)))) = some r := H
        have A3 := Aside0.mk A30
        clear A30
        by_cases c4 : t188 = 0
        · rw [if_pos c4] at H
          have c4b0 : (t188 == 0) = true := beq_iff_eq.mpr c4
          have c4b1 : (t188 != 0) = false := bne_eq_false_iff_eq.mpr c4
          clear c4
          obtain rfl := Option.some.inj H
          go_wp2_with (first | ((with_reducible refine gate_callee (f := 26) rfl ?_); refine goesL_ (some 11) rfl rfl Tryd.func26 (by kernel_rfl) rfl #[.string a0, .int .i64 x3_1] rfl (by (try simp only [List.map_toArray, List.map_cons, List.map_nil]); first | done | rfl | (simp only [List.length_drop, List.length_take]; rfl)) ?_; (with_reducible refine (catchwordref05_Sign.calls k1 a0 x3_1 t188 _ A3.out).mono ?_); rintro e w' ⟨rfl, ⟨nd, rfl⟩⟩; refine ⟨_, rfl, ?_⟩))
          go_ret
          exact ⟨by first | rfl | (simp; done) | (simp [*]; done), by repeat (first | exact Drawn0.refl _ | apply Drawn0.step)⟩
        · rw [if_neg c4] at H
          have c4b0 : (t188 == 0) = false := beq_eq_false_iff_ne.mpr c4
          have c4b1 : (t188 != 0) = true := bne_iff_ne.mpr c4
          have H' := Aside0.mk H
          clear H
          go_wp2_with (first | ((with_reducible refine gate_callee (f := 26) rfl ?_); refine goesL_ (some 11) rfl rfl Tryd.func26 (by kernel_rfl) rfl #[.string a0, .int .i64 x3_1] rfl (by (try simp only [List.map_toArray, List.map_cons, List.map_nil]); first | done | rfl | (simp only [List.length_drop, List.length_take]; rfl)) ?_; (with_reducible refine (catchwordref05_Sign.calls k1 a0 x3_1 t188 _ A3.out).mono ?_); rintro e w' ⟨rfl, ⟨nd, rfl⟩⟩; refine ⟨_, rfl, ?_⟩))
          go_roundg k1
          case measure => have := HK1.out; omega
          case rel => exact ⟨(wrap64 (x3_1 + t188)), (by first | rfl | (simp; done) | (simp [*]; done)), H', ⟨by have := HK1.out; omega⟩, by repeat (first | exact Drawn0.refl _ | apply Drawn0.step)⟩
      · rw [if_neg c2] at H
        have c2b0 : decide (x3_1 < (a0.size : Int)) = false := decide_eq_false c2
        clear c2
        obtain rfl := Option.some.inj H
        go_wp2
        go_ret
        exact ⟨by first | rfl | (simp; done) | (simp [*]; done), by repeat (first | exact Drawn0.refl _ | apply Drawn0.step)⟩

end Go.Proofs.YtecjnlaomompkaaDoor.T
