import Derived.Test.YtbbmdakdghefnaaGreatDoorSh
import Derived.Test.YtbbmdakdghefnaaGreatDoorQPA
/- Texts of this claim, laid together by a program (merge.py): Sp, Vd, Tx23. -/
set_option maxHeartbeats 8000000
set_option maxRecDepth 100000
namespace Go.Proofs.YtbbmdakdghefnaaGreatDoor.T
open Go.RowKit Go.Proofs.YtbbmdakdghefnaaGreatDoorW.PrintWords Go.Proofs.YtbbmdakdghefnaaGreatDoorW.PrintLast Go.Proofs.YtbbmdakdghefnaaGreatDoorW.PrintMore
attribute [local go_sem] max2_int min2_int max_two min_two max_three min_three max_four min_four
set_option linter.unusedVariables false
set_option linter.unusedSimpArgs false
def f59.f (a0 a1 : ByteArray) : Option (List ByteArray) := if a0.size < 4294967281 ∧ a1.size = 1 then some (Lib.splitB a1 0 (Lib.countB a0 a1) a0) else none
set_option maxHeartbeats 1000000 in
theorem split_calls (s : ByteArray) (c : UInt8) (w : World) (hs : s.size < 4294967281) :
  Calls Tryz.prog 37 #[.string s, .string ⟨#[c]⟩] w fun e w' =>
   e = .returned (.slice (some ⟨w.heap.size, 0, none⟩) (Lib.countB s ⟨#[c]⟩ + 1) (Lib.countB s ⟨#[c]⟩ + 1)) ∧ w' = w.alloc (.cells ((Lib.splitB ⟨#[c]⟩ 0 (Lib.countB s ⟨#[c]⟩) s).map Value.string).toArray 9) := by
 have h1 : 1 ≤ (⟨#[c]⟩ : ByteArray).size := Nat.le_refl 1; have hle := Lib.countB_le ⟨#[c]⟩ h1 s.size s (Nat.le_refl _); have hlen := Lib.splitB_all ⟨#[c]⟩ h1 0 _ s rfl
 have g := Any.strings_genSplit_core (P := Tryz.prog) (ρ := Tryz.lays146_ren) { Tryz.lays146 with } z159_ s ⟨#[c]⟩ 0 (-1) (Lib.countB s ⟨#[c]⟩ + 1) w hs h1 (Nat.zero_le _)
  (fun x cs hx => (Any.strings_Index_one (P := Tryz.prog) (ρ := Tryz.lays146_ren) { Tryz.lays146 with } x c _).mono fun e w' ⟨he, hw⟩ => ⟨he.trans (by rw [show Lib.indexB x ⟨#[c]⟩ = Lib.indexByte x.data.toList c from Lib.index_one _ _]), hw⟩)
  ((Any.strings_Count_one (P := Tryz.prog) (ρ := Tryz.lays146_ren) { Tryz.lays146 with } s c w).mono fun e w' ⟨he, hw⟩ => ⟨he.trans (by
   show _ = Ending.returned (Value.int .i64 ((Lib.count s.data.toList [c] : Nat) : Int)); rw [Lib.count_one]
   rfl), hw⟩)
  z106_ z106_ (by rw [if_pos z106_]; omega)
 rw [Nat.add_sub_cancel, hlen] at g
 have e2 : Lib.cellsOf (Lib.splitB ⟨#[c]⟩ 0 (Lib.countB s ⟨#[c]⟩) s) (Lib.countB s ⟨#[c]⟩ + 1) = ((Lib.splitB ⟨#[c]⟩ 0 (Lib.countB s ⟨#[c]⟩) s).map Value.string).toArray := by rw [← hlen]; exact Lib.cellsOf_full _
 rw [e2] at g; go_enter Tryz.func37, Tryz.ntmps37
 go_wp2_with (go_at_call 69; refine Calls.mono g ?_; rintro e w' ⟨rfl, hw⟩; rw [hw])
 go_ret; exact ⟨rfl, rfl⟩
theorem f59.calls (a0 a1 : ByteArray) (r : List ByteArray) (w : World) (h : f59.f a0 a1 = some r) :
  Calls Tryz.prog 37 #[.string a0, .string a1] w fun e w' => ∃ v0_ : Value, e = .returned (v0_) ∧ Kd.R Kd.string 9 w' w.heap.size (fun _ => True) v0_ r ∧ Below w.heap.size w w' := by
 unfold f59.f at h
 by_cases hs : a0.size < 4294967281 ∧ a1.size = 1
 ·
  rw [if_pos hs] at h; obtain rfl := Option.some.inj h; obtain ⟨c, rfl⟩ := Lib.one_byte a1 hs.2; refine (split_calls a0 c w hs.1).mono ?_; rintro e w' ⟨rfl, rfl⟩; have h1 : 1 ≤ (⟨#[c]⟩ : ByteArray).size := Nat.le_refl 1; have hle := Lib.countB_le ⟨#[c]⟩ h1 a0.size a0 (Nat.le_refl _); have hlen := Lib.splitB_all ⟨#[c]⟩ h1 0 _ a0 rfl; refine ⟨_, rfl, ?_, below_alloc (Below.refl _ _) _⟩; refine Kd.R_of_own (enc := Value.string) ?_ (fun _ _ => trivial); rw [hlen]; refine ⟨by rw [encs_length, hlen, Nat.mul_one], .inr ⟨w.heap.size, _, _, rfl, Nat.le_refl _, blk_new w _, Nat.le_refl _, by unfold maxLen; omega, by simp [hlen], ?_⟩⟩; rw [Nat.mul_one, List.take_of_length_le (by simp [hlen])]; simp [encs]
 ·
  rw [if_neg hs] at h; cases h
def GG (w : World) : Prop := Lib.Utf8Tabs 1 2 w
theorem GG_below {w0 w : World} (h : GG w0) (hb : Below w0.heap.size w0 w) : GG w := Utf8Tabs_below h hb
def f80.f (a0 : ByteArray) : Option (Bool) := if a0.size ≤ 9223372036854775807 then some (Lib.validD a0.data.toList) else none
theorem f80.calls (a0 : ByteArray) (r : Bool) (w : World) (hG : GG w) (h : f80.f a0 = some r) :
  Calls Tryz.prog 177 #[.string a0] w fun e w' => e = .returned (.bool r) ∧ Below w.heap.size w w' := by
 unfold f80.f at h
 by_cases hs : a0.size ≤ 9223372036854775807
 ·
  rw [if_pos hs] at h; obtain rfl := Option.some.inj h; exact Any.utf8_ValidString Tryz.lays196 a0 w hs hG
 ·
  rw [if_neg hs] at h; exact absurd h z219_
def f76.f (a0 : ByteArray) : Option (Bool) := (f80.f a0).bind fun t10 => (some t10)
theorem f76.calls (a0 : ByteArray) (r : Bool) (w : World) (hG : GG w) (h : f76.f a0 = some r) :
  Calls Tryz.prog 136 #[.string a0] w fun e w' => e = .returned (.bool r) ∧ Below w.heap.size w w' := by
 have HB := A_ (Below.refl w.heap.size w); have HG := A_ hG; clear hG; unfold f76.f at h; have H := h; clear h; replace H := bm_ H; obtain ⟨t10, A20, H⟩ := H; have A2 := A_ A20; clear A20; obtain rfl := sj_ H; go_enter Tryz.func136, Tryz.ntmps136
 go_wp2_with (first | ((with_reducible refine gate_callee (f := 177) rfl ?_); refine gl_ (some 4) Tryz.func177 #[.string a0] ?_; (with_reducible refine (f80.calls a0 t10 _ ?side1 A2.out).mono ?_); (case side1 => exact GG_below HG.out z186_); rintro e w3 ⟨rfl, hb⟩; refine ⟨_, rfl, ?_⟩; replace HB := A_ (below_step z186_ hb); (try clear hb)))
 go_ret; exact ⟨z138_, z186_⟩
def f89.f (k : Nat) (a0 : ByteArray) : Option (List ByteArray × Int) := if (a0.size : Int) > 240 then (some (([] : List ByteArray), 8)) else ((f76.f a0).bind fun t10 => (if t10 = true then ((f44.f k a0).bind fun t11 => ((f34.f k t11).bind fun t12 => (if t12 = true then (some (([] : List ByteArray), 8)) else (some (t11, 0))))) else (some (([] : List ByteArray), 7))))
theorem f89.calls (k : Nat) (a0 : ByteArray) (r1 : List ByteArray) (r2 : Int) (w : World) (hG : GG w) (h : f89.f k a0 = some (r1, r2)) :
  Calls Tryz.prog 101 #[.string a0] w fun e w' => ∃ v0_ : Value, e = .returned (.tuple #[v0_, .int .i64 r2]) ∧ Kd.R Kd.string 9 w' w.heap.size (fun _ => True) v0_ r1 ∧ Below w.heap.size w w' := by
 have HB := A_ (Below.refl w.heap.size w); have HG := A_ hG; clear hG; have H : (if (a0.size : Int) > 240 then (some (([] : List ByteArray), 8)) else ((f76.f a0).bind fun t15 => (if t15 = true then ((f44.f k a0).bind fun t16 => ((f34.f k t16).bind fun t17 => (if t17 = true then (some (([] : List ByteArray), 8)) else (some (t16, 0))))) else (some (([] : List ByteArray), 7))))) = some (r1, r2) := h; clear h; revert H; refine i2_ (fun c2 H => ?_) fun c2 H => ?_
 ·
  have c2b0 := decide_eq_true c2; have c2b1 : decide (240 < a0.size) = true := decide_eq_true z161_; clear c2; simp only [Option.some.injEq, Prod.mk.injEq] at H; obtain ⟨rfl, rfl⟩ := H; go_enter Tryz.func101, Tryz.ntmps101; go_wp2
  go_ret2
  exact ⟨_, z138_, z134_, z186_⟩
 have c2b0 := decide_eq_false c2; have c2b1 : decide (240 < a0.size) = false := decide_eq_false z161_; clear c2; replace H := bm_ H; obtain ⟨t15, A30, H⟩ := H; have A3 := A_ A30; clear A30
 by_cases c4 : t15 = true
 ·
  subst c4; have H1 := tt_ H; clear H; have H := H1; clear H1; replace H := bm_ H; obtain ⟨t16, A50, H⟩ := H; have A5 := A_ A50; clear A50; replace H := bm_ H; obtain ⟨t17, A60, H⟩ := H; have A6 := A_ A60; clear A60
  by_cases c7 : t17 = true
  ·
   subst c7; have H1 := tt_ H; clear H; have H := H1; clear H1; simp only [Option.some.injEq, Prod.mk.injEq] at H; obtain ⟨rfl, rfl⟩ := H; go_enter Tryz.func101, Tryz.ntmps101
   go_wp2_with (first | ((with_reducible refine gate_callee (f := 136) rfl ?_); refine gl_ (some 9) Tryz.func136 #[.string a0] ?_; (with_reducible refine (f76.calls a0 true _ ?side1 A3.out).mono ?_); (case side1 => exact GG_below HG.out z186_); rintro e w8 ⟨rfl, hb⟩; refine ⟨_, rfl, ?_⟩; replace HB := A_ (below_step z186_ hb); (try clear hb)) | ((with_reducible refine gate_callee (f := 137) rfl ?_); refine gl_ (some 12) Tryz.func137 #[.string a0] ?_; (with_reducible refine (f44.calls k a0 t16 _ A5.out).mono ?_); rintro e w9 ⟨v18, rfl, ho0, hb⟩; refine ⟨_, rfl, ?_⟩; have n_ := a2_ (Kd.R_lower ho0 (below_size z186_)) (below_step z186_ hb); clear HB; obtain ⟨HO19, HB⟩ := n_; (try clear hb); (try clear ho0); obtain ⟨Ao10, co10, eo10⟩ := Kd.R_slice HO19.out; subst eo10) | ((with_reducible refine gate_callee (f := 65) rfl ?_); refine gl_ (some 14) Tryz.func65 #[.slice Ao10 t16.length co10, (.func (.func 138) #[] #[])] ?_; (with_reducible refine (f34.calls k _ _ t16  true _ ?side1 ?side2 A6.out).mono ?_); (case side1 => exact z202_); (case side2 => exact (Kd.R_reads' HO19.out).2.1); rintro e w' ⟨rfl, ⟨nd, rfl⟩⟩; refine ⟨_, rfl, ?_⟩))
   go_ret2
   exact ⟨_, z138_, z134_, z186_⟩
  ·
   replace c7 := Bool.eq_false_iff.mpr c7; subst c7; have H1 := ff_ H; clear H; have H := H1; clear H1; simp only [Option.some.injEq, Prod.mk.injEq] at H; obtain ⟨rfl, rfl⟩ := H; go_enter Tryz.func101, Tryz.ntmps101
   go_wp2_with (first | ((with_reducible refine gate_callee (f := 136) rfl ?_); refine gl_ (some 9) Tryz.func136 #[.string a0] ?_; (with_reducible refine (f76.calls a0 true _ ?side1 A3.out).mono ?_); (case side1 => exact GG_below HG.out z186_); rintro e w11 ⟨rfl, hb⟩; refine ⟨_, rfl, ?_⟩; replace HB := A_ (below_step z186_ hb); (try clear hb)) | ((with_reducible refine gate_callee (f := 137) rfl ?_); refine gl_ (some 12) Tryz.func137 #[.string a0] ?_; (with_reducible refine (f44.calls k a0 t16 _ A5.out).mono ?_); rintro e w12 ⟨v18, rfl, ho0, hb⟩; refine ⟨_, rfl, ?_⟩; have n_ := a2_ (Kd.R_lower ho0 (below_size z186_)) (below_step z186_ hb); clear HB; obtain ⟨HO19, HB⟩ := n_; (try clear hb); (try clear ho0); obtain ⟨Ao13, co13, eo13⟩ := Kd.R_slice HO19.out; subst eo13) | ((with_reducible refine gate_callee (f := 65) rfl ?_); refine gl_ (some 14) Tryz.func65 #[.slice Ao13 t16.length co13, (.func (.func 138) #[] #[])] ?_; (with_reducible refine (f34.calls k _ _ t16  false _ ?side1 ?side2 A6.out).mono ?_); (case side1 => exact z202_); (case side2 => exact (Kd.R_reads' HO19.out).2.1); rintro e w' ⟨rfl, ⟨nd, rfl⟩⟩; refine ⟨_, rfl, ?_⟩))
   go_ret2
   exact ⟨_, z138_, by (with_reducible repeat (first | apply Kd.R_alloc | apply Kd.R_drewN | apply Kd.R_drew)); exact HO19.out, z186_⟩
 ·
  replace c4 := Bool.eq_false_iff.mpr c4; subst c4; have H1 := ff_ H; clear H; have H := H1; clear H1; simp only [Option.some.injEq, Prod.mk.injEq] at H; obtain ⟨rfl, rfl⟩ := H; go_enter Tryz.func101, Tryz.ntmps101
  go_wp2_with (first | ((with_reducible refine gate_callee (f := 136) rfl ?_); refine gl_ (some 9) Tryz.func136 #[.string a0] ?_; (with_reducible refine (f76.calls a0 false _ ?side1 A3.out).mono ?_); (case side1 => exact GG_below HG.out z186_); rintro e w14 ⟨rfl, hb⟩; refine ⟨_, rfl, ?_⟩; replace HB := A_ (below_step z186_ hb); (try clear hb)))
  go_ret2
  exact ⟨_, z138_, z134_, z186_⟩
def f99.f (k : Nat) (a0 : ByteArray) : Option (Bool) := (f89.f k a0).bind fun bt10 => (if bt10.2 = 0 then (if (bt10.1.length : Int) = 1 then (if 0 < (bt10.1.length : Int) then (some ((rdOf ByteArray.empty bt10.1 0).toList == a0.toList)) else (none)) else (some false)) else (some false))
theorem f99.calls (k : Nat) (a0 : ByteArray) (r : Bool) (w : World) (hG : GG w) (h : f99.f k a0 = some r) :
  Calls Tryz.prog 71 #[.string a0] w fun e w' => e = .returned (.bool r) ∧ Below w.heap.size w w' := by
 have HB := A_ (Below.refl w.heap.size w); have HG := A_ hG; clear hG; unfold f99.f at h; have H := h; clear h; replace H := bm_ H; obtain ⟨⟨t11, t12⟩, A20, H⟩ := H; replace H : (if t12 = 0 then (if (t11.length : Int) = 1 then (if 0 < (t11.length : Int) then (some ((rdOf ByteArray.empty t11 0).toList == a0.toList)) else (none)) else (some false)) else (some false)) = some r := H; have A2 := A_ A20; clear A20; revert H; refine i2_ (fun c3 H => ?_) fun c3 H => ?_; rotate_left
 ·
  have c3b0 := beq_eq_false_iff_ne.mpr c3; have c3b1 := bne_iff_ne.mpr c3; obtain rfl := sj_ H; go_enter Tryz.func71, Tryz.ntmps71
  go_wp2_with (first | ((with_reducible refine gate_callee (f := 101) rfl ?_); refine gl_ (some 7) Tryz.func101 #[.string a0] ?_; (with_reducible refine (f89.calls k a0 t11 t12 _ ?side1 A2.out).mono ?_); (case side1 => exact GG_below HG.out z186_); rintro e w10 ⟨v13, rfl, ho0, hb⟩; refine ⟨_, rfl, ?_⟩; have n_ := a2_ (Kd.R_lower ho0 (below_size z186_)) (below_step z186_ hb); clear HB; obtain ⟨HO14, HB⟩ := n_; (try clear hb); (try clear ho0)))
  go_ret; exact ⟨z138_, z186_⟩
 have c3b0 := beq_iff_eq.mpr c3; have c3b1 := bne_eq_false_iff_eq.mpr c3; clear c3; revert H; refine i2_ (fun c4 H => ?_) fun c4 H => ?_; rotate_left
 ·
  have c4b0 := beq_eq_false_iff_ne.mpr c4; have c4b1 := bne_iff_ne.mpr c4; obtain rfl := sj_ H; go_enter Tryz.func71, Tryz.ntmps71
  go_wp2_with (first | ((with_reducible refine gate_callee (f := 101) rfl ?_); refine gl_ (some 7) Tryz.func101 #[.string a0] ?_; (with_reducible refine (f89.calls k a0 t11 t12 _ ?side1 A2.out).mono ?_); (case side1 => exact GG_below HG.out z186_); rintro e w8 ⟨v13, rfl, ho0, hb⟩; refine ⟨_, rfl, ?_⟩; have n_ := a2_ (Kd.R_lower ho0 (below_size z186_)) (below_step z186_ hb); clear HB; obtain ⟨HO14, HB⟩ := n_; (try clear hb); (try clear ho0); obtain ⟨Ao9, co9, eo9⟩ := Kd.R_slice HO14.out; subst eo9))
  go_ret; exact ⟨z138_, z186_⟩
 have c4b0 := beq_iff_eq.mpr c4; have c4b1 := bne_eq_false_iff_eq.mpr c4; clear c4; revert H; refine i4_ fun c5 H => ?_; have c5b0 := decide_eq_true c5; have c5b1 : decide (0 < t11.length) = true := decide_eq_true z161_; clear c5; obtain rfl := sj_ H; go_enter Tryz.func71, Tryz.ntmps71
 go_wp2_with (first | ((with_reducible refine gate_callee (f := 101) rfl ?_); refine gl_ (some 7) Tryz.func101 #[.string a0] ?_; (with_reducible refine (f89.calls k a0 t11 t12 _ ?side1 A2.out).mono ?_); (case side1 => exact GG_below HG.out z186_); rintro e w6 ⟨v13, rfl, ho0, hb⟩; refine ⟨_, rfl, ?_⟩; have n_ := a2_ (Kd.R_lower ho0 (below_size z186_)) (below_step z186_ hb); clear HB; obtain ⟨HO14, HB⟩ := n_; (try clear hb); (try clear ho0); obtain ⟨Ao7, co7, eo7⟩ := Kd.R_slice HO14.out; subst eo7; have p15 : 0 ≤ (0 : Int) := z161_; have q15 : 0 < (t11.length : Int) := of_decide_eq_true z133_; obtain ⟨ad15, e15, hx15_0⟩ := Kd.at_string (Kd.R_reads' HO14.out).2.2 0 p15 q15; cases e15; have qi150 : (0 < t11.length) = True := eq_true z161_; (try rw [show ((0 : Int)).toNat = 0 from rfl] at hx15_0); (try rw [Addr.add_zero'] at hx15_0); replace p15 := eq_true p15; replace q15 := eq_true q15))
 go_ret; exact ⟨z138_, z186_⟩
def f92.f (k : Nat) (a0 : ByteArray) : Option (Bool) := (f99.f k a0).bind fun t10 => (some (!t10))
theorem f92.calls (k : Nat) (a0 : ByteArray) (r : Bool) (w : World) (hG : GG w) (h : f92.f k a0 = some r) :
  Calls Tryz.prog 70 #[.string a0] w fun e w' => e = .returned (.bool r) ∧ Below w.heap.size w w' := by
 have HB := A_ (Below.refl w.heap.size w); have HG := A_ hG; clear hG; unfold f92.f at h; have H := h; clear h; replace H := bm_ H; obtain ⟨t10, A20, H⟩ := H; have A2 := A_ A20; clear A20; obtain rfl := sj_ H; go_enter Tryz.func70, Tryz.ntmps70
 go_wp2_with (first | ((with_reducible refine gate_callee (f := 71) rfl ?_); refine gl_ (some 4) Tryz.func71 #[.string a0] ?_; (with_reducible refine (f99.calls k a0 t10 _ ?side1 A2.out).mono ?_); (case side1 => exact GG_below HG.out z186_); rintro e w3 ⟨rfl, hb⟩; refine ⟨_, rfl, ?_⟩; replace HB := A_ (below_step z186_ hb); (try clear hb)))
 go_ret; exact ⟨z138_, z186_⟩
def f9.l0 : Nat → List ByteArray → Int → Int → Option (Int)
 | 0, _, _, _ => none
 | k + 1, x0, x7, x8 => if x8 < x7 then (if 0 ≤ x8 then (if x8 < (x0.length : Int) then ((f92.f k (rdOf ByteArray.empty x0 x8)).bind fun t10 => (if t10 = true then (some x8) else (f9.l0 k x0 x7 (wrap64 (x8 + 1))))) else (none)) else (none)) else (some (-1))
def f9.f (k : Nat) (l0 : List ByteArray)  : Option (Int) := f9.l0 k l0 (l0.length : Int) 0
theorem f9.calls (k : Nat) (A0 : Option Addr) (c0 : Nat) (l0 : List ByteArray)  (r : Int) (w : World) (hr0 : Kd.C Kd.string w A0 l0.length l0) (hc0 : l0.length ≤ c0) (hG : GG w) (h : f9.f k l0 = some r) :
  Calls Tryz.prog 97 #[.slice A0 l0.length c0, (.func (.func 70) #[] #[])] w fun e w' => e = .returned (.int .i64 r) ∧ Below w.heap.size w w' := by
 have HR0 := A_ hr0; have HC0 := A_ hc0; clear hr0 hc0; have HB := A_ (Below.refl w.heap.size w); have HG := A_ hG; clear hG; unfold f9.f at h; have H := h; clear h; have H' := A_ H; clear H; go_enter Tryz.func97, Tryz.ntmps97; go_wp2
 go_loopg [8] k (fun kq v8 w' => ∃ (x8_1 : Int), v8 = .int .i64 x8_1 ∧ Aside0 (f9.l0 kq l0 (l0.length : Int) x8_1 = some r) ∧ Aside0 (kq ≤ k) ∧ Aside0 (Below w.heap.size w w'))
 case atStart => exact ⟨(0), z139_, H', ⟨Nat.le_refl _⟩, ⟨z186_⟩⟩
 case round =>
  clear H'; obtain ⟨x8_1, rfl, HA, HK1, HB⟩ := hrel
  cases gk with
  | zero => exact absurd HA.out (by simp [f9.l0])
  | succ k1 =>
  have H := HA.out; clear HA; simp only [f9.l0] at H; revert H; refine i1_ (fun c3b0 H => ?_) fun c3b0 H => ?_; rotate_left
  ·
   obtain rfl := sj_ H; go_wp2; go_ret; exact ⟨z138_, z186_⟩
  revert H; refine i3_ fun c4b0 H => ?_; revert H; refine i3_ fun c5b0 H => ?_; replace H := bm_ H; obtain ⟨t10, A60, H⟩ := H; have A6 := A_ A60; clear A60
  by_cases c7 : t10 = true
  ·
   subst c7; have H1 := tt_ H; clear H; have H := H1; clear H1; obtain rfl := sj_ H; obtain ⟨p11, q11, ad11, e11, hx11_0⟩ := pq_ (Kd.at_string HR0.out x8_1); cases e11; replace hx11_0 := hc_ HB.out hx11_0
   go_wp2_with (first | (go_at_call 70; (with_reducible refine (f92.calls k1 (rdOf ByteArray.empty l0 x8_1) true _ ?side1 A6.out).mono ?_); (case side1 => exact GG_below HG.out z186_); rintro e w8 ⟨rfl, hb⟩; replace HB := A_ (below_step z186_ hb); (try clear hb)))
   go_ret; exact ⟨z138_, z186_⟩
  ·
   replace c7 := Bool.eq_false_iff.mpr c7; subst c7; have H1 := ff_ H; clear H; have H := H1; clear H1; have H' := A_ H; clear H; obtain ⟨p11, q11, ad11, e11, hx11_0⟩ := pq_ (Kd.at_string HR0.out x8_1); cases e11; replace hx11_0 := hc_ HB.out hx11_0
   go_wp2_with (first | (go_at_call 70; (with_reducible refine (f92.calls k1 (rdOf ByteArray.empty l0 x8_1) false _ ?side1 A6.out).mono ?_); (case side1 => exact GG_below HG.out z186_); rintro e w9 ⟨rfl, hb⟩; replace HB := A_ (below_step z186_ hb); (try clear hb)))
   go_roundg k1
   case measure => have := HK1.out; omega
   case rel => exact ⟨(wrap64 (x8_1 + 1)), z139_, H', ⟨z148_⟩, ⟨z186_⟩⟩
def f35.f (k : Nat) (l0 : List ByteArray)  : Option (Bool) := (f9.f k l0).bind fun t10 => (some (decide (t10 ≥ 0)))
theorem f35.calls (k : Nat) (A0 : Option Addr) (c0 : Nat) (l0 : List ByteArray)  (r : Bool) (w : World) (hr0 : Kd.C Kd.string w A0 l0.length l0) (hc0 : l0.length ≤ c0) (hG : GG w) (h : f35.f k l0 = some r) :
  Calls Tryz.prog 65 #[.slice A0 l0.length c0, (.func (.func 70) #[] #[])] w fun e w' => e = .returned (.bool r) ∧ Below w.heap.size w w' := by
 have HR0 := A_ hr0; have HC0 := A_ hc0; clear hr0 hc0; have HB := A_ (Below.refl w.heap.size w); have HG := A_ hG; clear hG; unfold f35.f at h; have H := h; clear h; replace H := bm_ H; obtain ⟨t10, A30, H⟩ := H; have A3 := A_ A30; clear A30; obtain rfl := sj_ H; go_enter Tryz.func65, Tryz.ntmps65
 go_wp2_with (first | ((with_reducible refine gate_callee (f := 97) rfl ?_); refine gl_ (some 7) Tryz.func97 #[.slice A0 l0.length c0, (.func (.func 70) #[] #[])] ?_; (with_reducible refine (f9.calls k _ _ l0  t10 _ ?side1 HC0.out ?side3 A3.out).mono ?_); (case side1 => exact z208_); (case side3 => exact GG_below HG.out z186_); rintro e w4 ⟨rfl, hb⟩; refine ⟨_, rfl, ?_⟩; replace HB := A_ (below_step z186_ hb); (try clear hb)))
 go_ret; exact ⟨z138_, z186_⟩
def f88.f (k : Nat) (a0 : ByteArray) : Option (Int × List ByteArray × Int × Int × Bool) := (f59.f a0 (⟨#[43]⟩ : ByteArray)).bind fun t10 => ((f35.f k t10).bind fun t11 => (if t11 = true then (some (0, ([] : List ByteArray), 0, 0, false)) else (if (t10.length : Int) = 1 then (some (0, t10, 0, 0, true)) else (some (1, t10, 0, 0, true)))))
theorem f88.calls (k : Nat) (a0 : ByteArray) (r1 : Int) (r2 : List ByteArray) (r3 : Int) (r4 : Int) (r5 : Bool) (w : World) (hG : GG w) (h : f88.f k a0 = some (r1, r2, r3, r4, r5)) :
  Calls Tryz.prog 38 #[.string a0] w fun e w' => ∃ v1_ : Value, e = .returned (.tuple #[.agg #[.int .i64 r1, v1_, .int .i64 r3, .int .i64 r4], .bool r5]) ∧ Kd.R Kd.string 9 w' w.heap.size (fun _ => True) v1_ r2 ∧ Below w.heap.size w w' := by
 have hu37 := Tryz.underlying37; have HB := A_ (Below.refl w.heap.size w); have HG := A_ hG; clear hG; have H : ((f59.f a0 (⟨#[43]⟩ : ByteArray)).bind fun t21 => ((f35.f k t21).bind fun t22 => (if t22 = true then (some (0, ([] : List ByteArray), 0, 0, false)) else (if (t21.length : Int) = 1 then (some (0, t21, 0, 0, true)) else (some (1, t21, 0, 0, true)))))) = some (r1, r2, r3, r4, r5) := h; clear h; replace H := bm_ H; obtain ⟨t21, A20, H⟩ := H; have A2 := A_ A20; clear A20; replace H := bm_ H; obtain ⟨t22, A30, H⟩ := H; have A3 := A_ A30; clear A30
 by_cases c4 : t22 = true
 ·
  subst c4; have H1 := tt_ H; clear H; have H := H1; clear H1; simp only [Option.some.injEq, Prod.mk.injEq] at H; obtain ⟨rfl, rfl, rfl, rfl, rfl⟩ := H; go_enter Tryz.func38, Tryz.ntmps38
  go_wp2_with (first | ((with_reducible refine gate_dst (N := 2) rfl ?_); refine box_event ?hg (N := 2) ?hd (cs := #[.int .i64 0, .slice none 0 0, .int .i64 0, .int .i64 0]) (t := 37) ?hr ?_; (case hd => rfl); (case hg => rfl); (case hr => exact z107_); intro gb23 hg w5 hbox hb; have n_ := a4_ (below_step z186_ hb) (hbox) ((z234_ : w.heap.size ≤ gb23)) ((z234_ : w.heap.size ≤ gb23)); clear HB; obtain ⟨HB, BK23, GW23, GE23⟩ := n_; clear hb hbox hg) | ((with_reducible refine gate_callee (f := 37) rfl ?_); refine gl_ (some 6) Tryz.func37 #[.string a0, .string (⟨#[43]⟩ : ByteArray)] ?_; (with_reducible refine (f59.calls a0 (⟨#[43]⟩ : ByteArray) t21 _ A2.out).mono ?_); rintro e w6 ⟨v24, rfl, ho0, hb⟩; refine ⟨_, rfl, ?_⟩; have n_ := a3_ (Kd.R_lower ho0 (below_size z174_)) (blk_below (g := gb23) (o := .cells #[.int .i64 0, .slice none 0 0, .int .i64 0, .int .i64 0] 37 (0, 0)) z91_ hb) (below_step z174_ hb); clear BK23 HB; obtain ⟨HO25, BK23, HB⟩ := n_; (try clear hb); (try clear ho0); obtain ⟨Ao7, co7, eo7⟩ := Kd.R_slice HO25.out; subst eo7) | ((with_reducible refine gate_callee (f := 65) rfl ?_); refine gl_ (some 8) Tryz.func65 #[.slice Ao7 t21.length co7, (.func (.func 70) #[] #[])] ?_; (with_reducible refine (f35.calls k _ _ t21  true _ ?side1 ?side2 ?side3 A3.out).mono ?_); (case side1 => exact z203_); (case side2 => exact (Kd.R_reads' HO25.out).2.1); (case side3 => exact GG_below HG.out z174_); rintro e w8 ⟨rfl, hb⟩; refine ⟨_, rfl, ?_⟩; have n_ := a3_ (Kd.R_below z30_ hb) (blk_below (g := gb23) (o := .cells #[.int .i64 0, .slice none 0 0, .int .i64 0, .int .i64 0] 37 (0, 0)) z91_ hb) (below_step z174_ hb); clear HO25 BK23 HB; obtain ⟨HO25, BK23, HB⟩ := n_; (try clear hb); obtain ⟨hcz9_0, hcz9_1, hcz9_2, hcz9_3, hfz9_0, hfz9_1, hfz9_2, hfz9_3⟩ := b4_ BK23.out))
  refine bodyPost_ret (results_ct rfl _ _ gb23 37 #[.int .i64 0, .slice none 0 0, .int .i64 0, .int .i64 0] (0, 0) _ rfl (by (with_reducible repeat (first | refine blk_drewN ?_ _ | refine blk_drew ?_ | refine blk_alloc ?_ _)); refine blk_put (cs := #[.int .i64 0, .slice none 0 0, .int .i64 0, .int .i64 0]) ?_ 3 _ rfl; (with_reducible repeat (first | refine blk_drewN ?_ _ | refine blk_drew ?_ | refine blk_alloc ?_ _)); refine blk_put (cs := #[.int .i64 0, .slice none 0 0, .int .i64 0, .int .i64 0]) ?_ 2 _ rfl; (with_reducible repeat (first | refine blk_drewN ?_ _ | refine blk_drew ?_ | refine blk_alloc ?_ _)); refine blk_put (cs := #[.int .i64 0, .slice none 0 0, .int .i64 0, .int .i64 0]) ?_ 1 _ rfl; (with_reducible repeat (first | refine blk_drewN ?_ _ | refine blk_drew ?_ | refine blk_alloc ?_ _)); refine blk_put (cs := #[.int .i64 0, .slice none 0 0, .int .i64 0, .int .i64 0]) ?_ 0 _ rfl; (with_reducible repeat (first | refine blk_drewN ?_ _ | refine blk_drew ?_ | refine blk_alloc ?_ _)); exact BK23.out) Tryz.underlying37 rfl z159_) rfl ?_; exact ⟨_, z138_, z134_, z174_⟩
 ·
  replace c4 := Bool.eq_false_iff.mpr c4; subst c4; have H1 := ff_ H; clear H; have H := H1; clear H1; revert H; refine i2_ (fun c10 H => ?_) fun c10 H => ?_
  ·
   have c10b0 := beq_iff_eq.mpr c10; have c10b1 := bne_eq_false_iff_eq.mpr c10; clear c10; simp only [Option.some.injEq, Prod.mk.injEq] at H; obtain ⟨rfl, rfl, rfl, rfl, rfl⟩ := H; go_enter Tryz.func38, Tryz.ntmps38
   go_wp2_with (first | ((with_reducible refine gate_dst (N := 2) rfl ?_); refine box_event ?hg (N := 2) ?hd (cs := #[.int .i64 0, .slice none 0 0, .int .i64 0, .int .i64 0]) (t := 37) ?hr ?_; (case hd => rfl); (case hg => rfl); (case hr => exact z107_); intro gb23 hg w11 hbox hb; have n_ := a4_ (below_step z186_ hb) (hbox) ((z234_ : w.heap.size ≤ gb23)) ((z234_ : w.heap.size ≤ gb23)); clear HB; obtain ⟨HB, BK23, GW23, GE23⟩ := n_; clear hb hbox hg) | ((with_reducible refine gate_callee (f := 37) rfl ?_); refine gl_ (some 6) Tryz.func37 #[.string a0, .string (⟨#[43]⟩ : ByteArray)] ?_; (with_reducible refine (f59.calls a0 (⟨#[43]⟩ : ByteArray) t21 _ A2.out).mono ?_); rintro e w12 ⟨v24, rfl, ho0, hb⟩; refine ⟨_, rfl, ?_⟩; have n_ := a3_ (Kd.R_lower ho0 (below_size z174_)) (blk_below (g := gb23) (o := .cells #[.int .i64 0, .slice none 0 0, .int .i64 0, .int .i64 0] 37 (0, 0)) z91_ hb) (below_step z174_ hb); clear BK23 HB; obtain ⟨HO25, BK23, HB⟩ := n_; (try clear hb); (try clear ho0); obtain ⟨Ao13, co13, eo13⟩ := Kd.R_slice HO25.out; subst eo13) | ((with_reducible refine gate_callee (f := 65) rfl ?_); refine gl_ (some 8) Tryz.func65 #[.slice Ao13 t21.length co13, (.func (.func 70) #[] #[])] ?_; (with_reducible refine (f35.calls k _ _ t21  false _ ?side1 ?side2 ?side3 A3.out).mono ?_); (case side1 => exact z203_); (case side2 => exact (Kd.R_reads' HO25.out).2.1); (case side3 => exact GG_below HG.out z174_); rintro e w14 ⟨rfl, hb⟩; refine ⟨_, rfl, ?_⟩; have n_ := a3_ (Kd.R_below z30_ hb) (blk_below (g := gb23) (o := .cells #[.int .i64 0, .slice none 0 0, .int .i64 0, .int .i64 0] 37 (0, 0)) z91_ hb) (below_step z174_ hb); clear HO25 BK23 HB; obtain ⟨HO25, BK23, HB⟩ := n_; (try clear hb); obtain ⟨hcz15_0, hcz15_1, hcz15_2, hcz15_3, hfz15_0, hfz15_1, hfz15_2, hfz15_3⟩ := b4_ BK23.out))
   refine bodyPost_ret (results_ct rfl _ _ gb23 37 #[.int .i64 0, .slice Ao13 t21.length co13, .int .i64 0, .int .i64 0] (0, 0) _ rfl (by (with_reducible repeat (first | refine blk_drewN ?_ _ | refine blk_drew ?_ | refine blk_alloc ?_ _)); refine blk_put (cs := #[.int .i64 0, .slice Ao13 t21.length co13, .int .i64 0, .int .i64 0]) ?_ 3 _ rfl; (with_reducible repeat (first | refine blk_drewN ?_ _ | refine blk_drew ?_ | refine blk_alloc ?_ _)); refine blk_put (cs := #[.int .i64 0, .slice Ao13 t21.length co13, .int .i64 0, .int .i64 0]) ?_ 2 _ rfl; (with_reducible repeat (first | refine blk_drewN ?_ _ | refine blk_drew ?_ | refine blk_alloc ?_ _)); refine blk_put (cs := #[.int .i64 0, .slice none 0 0, .int .i64 0, .int .i64 0]) ?_ 1 _ rfl; (with_reducible repeat (first | refine blk_drewN ?_ _ | refine blk_drew ?_ | refine blk_alloc ?_ _)); refine blk_put (cs := #[.int .i64 0, .slice none 0 0, .int .i64 0, .int .i64 0]) ?_ 0 _ rfl; (with_reducible repeat (first | refine blk_drewN ?_ _ | refine blk_drew ?_ | refine blk_alloc ?_ _)); exact BK23.out) Tryz.underlying37 rfl z159_) rfl ?_; exact ⟨_, z138_, by (with_reducible repeat (first | apply Kd.R_alloc | apply Kd.R_drewN | apply Kd.R_drew)); exact Kd.R_mono (Kd.R_far (p := ⟨gb23, 3, none⟩) (Kd.R_far (p := ⟨gb23, 2, none⟩) (Kd.R_far (p := ⟨gb23, 1, none⟩) (Kd.R_far (p := ⟨gb23, 0, none⟩) (Kd.R_types HO25.out BK23.out z106_) (fun _ hk => hk.2) (.int .i64 0)) (fun _ hk => hk.2) (.slice Ao13 t21.length co13)) (fun _ hk => hk.2) (.int .i64 0)) (fun _ hk => hk.2) (.int .i64 0)) (fun _ hk => trivial), z174_⟩
  have c10b0 := beq_eq_false_iff_ne.mpr c10; have c10b1 := bne_iff_ne.mpr c10; simp only [Option.some.injEq, Prod.mk.injEq] at H; obtain ⟨rfl, rfl, rfl, rfl, rfl⟩ := H; go_enter Tryz.func38, Tryz.ntmps38
  go_wp2_with (first | ((with_reducible refine gate_dst (N := 2) rfl ?_); refine box_event ?hg (N := 2) ?hd (cs := #[.int .i64 0, .slice none 0 0, .int .i64 0, .int .i64 0]) (t := 37) ?hr ?_; (case hd => rfl); (case hg => rfl); (case hr => exact z107_); intro gb23 hg w16 hbox hb; have n_ := a4_ (below_step z186_ hb) (hbox) ((z234_ : w.heap.size ≤ gb23)) ((z234_ : w.heap.size ≤ gb23)); clear HB; obtain ⟨HB, BK23, GW23, GE23⟩ := n_; clear hb hbox hg) | ((with_reducible refine gate_callee (f := 37) rfl ?_); refine gl_ (some 6) Tryz.func37 #[.string a0, .string (⟨#[43]⟩ : ByteArray)] ?_; (with_reducible refine (f59.calls a0 (⟨#[43]⟩ : ByteArray) t21 _ A2.out).mono ?_); rintro e w17 ⟨v24, rfl, ho0, hb⟩; refine ⟨_, rfl, ?_⟩; have n_ := a3_ (Kd.R_lower ho0 (below_size z174_)) (blk_below (g := gb23) (o := .cells #[.int .i64 0, .slice none 0 0, .int .i64 0, .int .i64 0] 37 (0, 0)) z91_ hb) (below_step z174_ hb); clear BK23 HB; obtain ⟨HO25, BK23, HB⟩ := n_; (try clear hb); (try clear hk); (try clear ho0); obtain ⟨Ao18, co18, eo18⟩ := Kd.R_slice HO25.out; subst eo18) | ((with_reducible refine gate_callee (f := 65) rfl ?_); refine gl_ (some 8) Tryz.func65 #[.slice Ao18 t21.length co18, (.func (.func 70) #[] #[])] ?_; (with_reducible refine (f35.calls k _ _ t21  false _ ?side1 ?side2 ?side3 A3.out).mono ?_); (case side1 => exact z203_); (case side2 => exact (Kd.R_reads' HO25.out).2.1); (case side3 => exact GG_below HG.out z174_); rintro e w19 ⟨rfl, hb⟩; refine ⟨_, rfl, ?_⟩; have n_ := a3_ (Kd.R_below z30_ hb) (blk_below (g := gb23) (o := .cells #[.int .i64 0, .slice none 0 0, .int .i64 0, .int .i64 0] 37 (0, 0)) z91_ hb) (below_step z174_ hb); clear HO25 BK23 HB; obtain ⟨HO25, BK23, HB⟩ := n_; (try clear hb); (try clear hk); obtain ⟨hcz20_0, hcz20_1, hcz20_2, hcz20_3, hfz20_0, hfz20_1, hfz20_2, hfz20_3⟩ := b4_ BK23.out))
  refine bodyPost_ret (results_ct rfl _ _ gb23 37 #[.int .i64 1, .slice Ao18 t21.length co18, .int .i64 0, .int .i64 0] (0, 0) _ rfl (by (with_reducible repeat (first | refine blk_drewN ?_ _ | refine blk_drew ?_ | refine blk_alloc ?_ _)); refine blk_put (cs := #[.int .i64 1, .slice Ao18 t21.length co18, .int .i64 0, .int .i64 0]) ?_ 3 _ rfl; (with_reducible repeat (first | refine blk_drewN ?_ _ | refine blk_drew ?_ | refine blk_alloc ?_ _)); refine blk_put (cs := #[.int .i64 1, .slice Ao18 t21.length co18, .int .i64 0, .int .i64 0]) ?_ 2 _ rfl; (with_reducible repeat (first | refine blk_drewN ?_ _ | refine blk_drew ?_ | refine blk_alloc ?_ _)); refine blk_put (cs := #[.int .i64 1, .slice none 0 0, .int .i64 0, .int .i64 0]) ?_ 1 _ rfl; (with_reducible repeat (first | refine blk_drewN ?_ _ | refine blk_drew ?_ | refine blk_alloc ?_ _)); refine blk_put (cs := #[.int .i64 0, .slice none 0 0, .int .i64 0, .int .i64 0]) ?_ 0 _ rfl; (with_reducible repeat (first | refine blk_drewN ?_ _ | refine blk_drew ?_ | refine blk_alloc ?_ _)); exact BK23.out) Tryz.underlying37 rfl z159_) rfl ?_; exact ⟨_, z138_, by (with_reducible repeat (first | apply Kd.R_alloc | apply Kd.R_drewN | apply Kd.R_drew)); exact Kd.R_mono (Kd.R_far (p := ⟨gb23, 3, none⟩) (Kd.R_far (p := ⟨gb23, 2, none⟩) (Kd.R_far (p := ⟨gb23, 1, none⟩) (Kd.R_far (p := ⟨gb23, 0, none⟩) (Kd.R_types HO25.out BK23.out z106_) (fun _ hk => hk.2) (.int .i64 1)) (fun _ hk => hk.2) (.slice Ao18 t21.length co18)) (fun _ hk => hk.2) (.int .i64 0)) (fun _ hk => hk.2) (.int .i64 0)) (fun _ hk => trivial), z174_⟩
end Go.Proofs.YtbbmdakdghefnaaGreatDoor.T
