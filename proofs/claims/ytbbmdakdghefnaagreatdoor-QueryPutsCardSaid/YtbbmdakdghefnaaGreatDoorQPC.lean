import Derived.Lib.Bytealg
import Derived.Test.YtbbmdakdghefnaaGreatDoorQPA
/- Texts of this claim, laid together by a program (merge.py): Sc, Tx3, PA. -/
set_option maxHeartbeats 8000000
set_option maxRecDepth 100000
namespace Go.Proofs.YtbbmdakdghefnaaGreatDoor.T
open Go.RowKit Go.Proofs.YtbbmdakdghefnaaGreatDoorW.PrintWords Go.Proofs.YtbbmdakdghefnaaGreatDoorW.PrintLast Go.Proofs.YtbbmdakdghefnaaGreatDoorW.PrintMore
attribute [local go_sem] max2_int min2_int max_two min_two max_three min_three max_four min_four
set_option linter.unusedVariables false
set_option linter.unusedSimpArgs false
set_option maxHeartbeats 1000000 in
theorem compareString_calls (a b : ByteArray) (w : World) : Calls Tryz.prog 86 #[.string a, .string b] w fun e w' => e = .returned (.int .i64 (Lib.compareBytes a.data.toList b.data.toList)) ∧ w' = w := by
 go_enter Tryz.func86, Tryz.ntmps86; go_wp2; rw [run_callFunc_extern Tryz.func118 z159_ z159_ z159_ (e := Extern.BytealgCompare.compare) z159_, Lib.run_compareString]; simp only [Result.andThen]; rw [Oper.upon_value]; go_wp2; go_ret; exact ⟨rfl, rfl⟩
def f73.f (a b : ByteArray) : Option Int := some (Lib.compareBytes a.data.toList b.data.toList)
set_option maxHeartbeats 1000000 in
theorem f73.calls (a b : ByteArray) (r : Int) (w : World) (h : f73.f a b = some r) : Calls Tryz.prog 55 #[.string a, .string b] w fun e w' => e = .returned (.int .i64 r) ∧ Drawn0 w w' := by
 obtain rfl := Option.some.inj h; go_enter Tryz.func55, Tryz.ntmps55
 go_wp2_with (first | (go_at_call 86; (refine (compareString_calls a b _).mono ?_); rintro e w1 ⟨rfl, rfl⟩))
 go_ret; exact ⟨rfl, ⟨0, rfl⟩⟩
def f31.l0 : Nat → List ByteArray → Int → Int → Option (Int)
 | 0, _, _, _ => none
 | k + 1, x0, x7, x8 => if x8 < x7 then (if 0 ≤ x8 then (if x8 < (x0.length : Int) then ((f105.f (rdOf ByteArray.empty x0 x8)).bind fun t10 => (if t10 = true then (some x8) else (f31.l0 k x0 x7 (wrap64 (x8 + 1))))) else (none)) else (none)) else (some (-1))
def f31.f (k : Nat) (l0 : List ByteArray)  : Option (Int) := f31.l0 k l0 (l0.length : Int) 0
theorem f31.calls (k : Nat) (A0 : Option Addr) (c0 : Nat) (l0 : List ByteArray)  (r : Int) (w : World) (hr0 : Kd.C Kd.string w A0 l0.length l0) (hc0 : l0.length ≤ c0) (h : f31.f k l0 = some r) :
  Calls Tryz.prog 97 #[.slice A0 l0.length c0, (.func (.func 73) #[] #[])] w fun e w' => e = .returned (.int .i64 r) ∧ Drawn0 w w' := by
 have HR0 := A_ hr0; have HC0 := A_ hc0; clear hr0 hc0; unfold f31.f at h; have H := h; clear h; have H' := A_ H; clear H; go_enter Tryz.func97, Tryz.ntmps97; go_wp2
 go_loopg [8] k (fun kq v8 w' => ∃ (x8_1 : Int), v8 = .int .i64 x8_1 ∧ Aside0 (f31.l0 kq l0 (l0.length : Int) x8_1 = some r) ∧ Aside0 (kq ≤ k) ∧ Drawn0 w w')
 case atStart => exact ⟨(0), z139_, H', ⟨Nat.le_refl _⟩, z207_⟩
 case round =>
  clear H'; obtain ⟨x8_1, rfl, HA, HK1, ⟨m1, rfl⟩⟩ := hrel
  cases gk with
  | zero => exact absurd HA.out (by simp [f31.l0])
  | succ k1 =>
  have H := HA.out; clear HA; simp only [f31.l0] at H; revert H; refine i1_ (fun c3b0 H => ?_) fun c3b0 H => ?_; rotate_left
  ·
   obtain rfl := sj_ H; go_wp2; go_ret; exact ⟨z139_, z207_⟩
  revert H; refine i3_ fun c4b0 H => ?_; revert H; refine i3_ fun c5b0 H => ?_; replace H := bm_ H; obtain ⟨t10, A60, H⟩ := H; have A6 := A_ A60; clear A60
  by_cases c7 : t10 = true
  ·
   subst c7; have H1 := tt_ H; clear H; have H := H1; clear H1; obtain rfl := sj_ H; obtain ⟨p11, q11, ad11, e11, hx11_0⟩ := pq_ (Kd.at_string HR0.out x8_1); cases e11
   go_wp2_with (first | (go_at_call 73; (with_reducible refine (f105.calls (rdOf ByteArray.empty l0 x8_1) true _ A6.out).mono ?_); rintro e w' ⟨rfl, ⟨nd, rfl⟩⟩))
   go_ret; exact ⟨z139_, z207_⟩
  ·
   replace c7 := Bool.eq_false_iff.mpr c7; subst c7; have H1 := ff_ H; clear H; have H := H1; clear H1; have H' := A_ H; clear H; obtain ⟨p11, q11, ad11, e11, hx11_0⟩ := pq_ (Kd.at_string HR0.out x8_1); cases e11
   go_wp2_with (first | (go_at_call 73; (with_reducible refine (f105.calls (rdOf ByteArray.empty l0 x8_1) false _ A6.out).mono ?_); rintro e w' ⟨rfl, ⟨nd, rfl⟩⟩))
   go_roundg k1
   case measure => have := HK1.out; omega
   case rel => exact ⟨(wrap64 (x8_1 + 1)), z139_, H', ⟨z148_⟩, z207_⟩
def f43.f (k : Nat) (l0 : List ByteArray)  : Option (Bool) := (f31.f k l0).bind fun t10 => (some (decide (t10 ≥ 0)))
theorem f43.calls (k : Nat) (A0 : Option Addr) (c0 : Nat) (l0 : List ByteArray)  (r : Bool) (w : World) (hr0 : Kd.C Kd.string w A0 l0.length l0) (hc0 : l0.length ≤ c0) (h : f43.f k l0 = some r) :
  Calls Tryz.prog 65 #[.slice A0 l0.length c0, (.func (.func 73) #[] #[])] w fun e w' => e = .returned (.bool r) ∧ Drawn0 w w' := by
 have HR0 := A_ hr0; have HC0 := A_ hc0; clear hr0 hc0; unfold f43.f at h; have H := h; clear h; replace H := bm_ H; obtain ⟨t10, A30, H⟩ := H; have A3 := A_ A30; clear A30; obtain rfl := sj_ H; go_enter Tryz.func65, Tryz.ntmps65
 go_wp2_with (first | ((with_reducible refine gate_callee (f := 97) rfl ?_); refine gl_ (some 7) Tryz.func97 #[.slice A0 l0.length c0, (.func (.func 73) #[] #[])] ?_; (with_reducible refine (f31.calls k _ _ l0  t10 _ ?side1 HC0.out A3.out).mono ?_); (case side1 => exact z208_); rintro e w' ⟨rfl, ⟨nd, rfl⟩⟩; refine ⟨_, rfl, ?_⟩))
 go_ret; exact ⟨z139_, z207_⟩
def f60.f (k : Nat) (a0_0 : ByteArray) (a0_1 : Int) (l0_2 : List ByteArray) : Option (Bool) := (f87.f a0_0 16).bind fun t10 => (if t10 = true then (if a0_1 ≥ 0 then (if a0_1 ≤ 1073741824 then (if (l0_2.length : Int) ≤ 120 then ((f43.f k l0_2).bind fun t11 => (some (!t11))) else (some false)) else (some false)) else (some false)) else (some false))
theorem f60.calls (k : Nat) (a0_0 : ByteArray) (a0_1 : Int) (A0_2 : Option Addr) (c0_2 : Nat) (l0_2 : List ByteArray) (r : Bool) (w : World) (hr0_2 : Kd.C Kd.string w A0_2 l0_2.length l0_2) (hc0_2 : l0_2.length ≤ c0_2) (h : f60.f k a0_0 a0_1 l0_2 = some r) :
  Calls Tryz.prog 43 #[.agg #[.string a0_0, .int .i64 a0_1, .slice A0_2 l0_2.length c0_2]] w fun e w' => e = .returned (.bool r) ∧ Below w.heap.size w w' := by
 have hu55 := Tryz.underlying55; have HR0_2 := A_ hr0_2; have HC0_2 := A_ hc0_2; clear hr0_2 hc0_2; have HB := A_ (Below.refl w.heap.size w); unfold f60.f at h; have H := h; clear h; replace H := bm_ H; obtain ⟨t18, A20, H⟩ := H; have A2 := A_ A20; clear A20
 by_cases c3 : t18 = true
 ·
  subst c3; have H1 := tt_ H; clear H; have H := H1; clear H1; revert H; refine i1_ (fun c4b0 H => ?_) fun c4b0 H => ?_; rotate_left
  ·
   obtain rfl := sj_ H; go_enter Tryz.func43, Tryz.ntmps43
   go_wp2_with (first | ((with_reducible refine gate_dst (N := 1) rfl ?_); (try (refine gate_guard z214_ ?_; dsimp only)); refine box_event ?hg (N := 1) ?hd (cs := #[.string a0_0, .int .i64 a0_1, .slice A0_2 l0_2.length c0_2]) (t := 55) ?hr ?_; (case hd => rfl); (case hg => rfl); (case hr => exact z107_); intro gb21 hg w14 hbox hb; have n_ := a4_ (below_step z186_ hb) (hbox) ((z234_ : w.heap.size ≤ gb21)) ((z234_ : w.heap.size ≤ gb21)); clear HB; obtain ⟨HB, BK21, GW21, GE21⟩ := n_; clear hb hbox hg; obtain ⟨hcz15_0, hcz15_1, hcz15_2, hfz15_0, hfz15_1, hfz15_2⟩ := b3_ BK21.out) | ((with_reducible refine gate_callee (f := 74) rfl ?_); refine gl_ (some 6) Tryz.func74 #[.string a0_0, .int .i64 16] ?_; (with_reducible refine (f87.calls a0_0 16 true _ A2.out).mono ?_); rintro e w' ⟨rfl, ⟨nd, rfl⟩⟩; refine ⟨_, rfl, ?_⟩))
   go_ret; exact ⟨z138_, z173_⟩
  revert H; refine i1_ (fun c5b0 H => ?_) fun c5b0 H => ?_; rotate_left
  ·
   obtain rfl := sj_ H; go_enter Tryz.func43, Tryz.ntmps43
   go_wp2_with (first | ((with_reducible refine gate_dst (N := 1) rfl ?_); (try (refine gate_guard z214_ ?_; dsimp only)); refine box_event ?hg (N := 1) ?hd (cs := #[.string a0_0, .int .i64 a0_1, .slice A0_2 l0_2.length c0_2]) (t := 55) ?hr ?_; (case hd => rfl); (case hg => rfl); (case hr => exact z107_); intro gb21 hg w12 hbox hb; have n_ := a4_ (below_step z186_ hb) (hbox) ((z234_ : w.heap.size ≤ gb21)) ((z234_ : w.heap.size ≤ gb21)); clear HB; obtain ⟨HB, BK21, GW21, GE21⟩ := n_; clear hb hbox hg; obtain ⟨hcz13_0, hcz13_1, hcz13_2, hfz13_0, hfz13_1, hfz13_2⟩ := b3_ BK21.out) | ((with_reducible refine gate_callee (f := 74) rfl ?_); refine gl_ (some 6) Tryz.func74 #[.string a0_0, .int .i64 16] ?_; (with_reducible refine (f87.calls a0_0 16 true _ A2.out).mono ?_); rintro e w' ⟨rfl, ⟨nd, rfl⟩⟩; refine ⟨_, rfl, ?_⟩))
   go_ret; exact ⟨z138_, z173_⟩
  revert H; refine i2_ (fun c6 H => ?_) fun c6 H => ?_; rotate_left
  ·
   have c6b0 := decide_eq_false c6; have c6b1 : decide (l0_2.length ≤ 120) = false := decide_eq_false z161_; clear c6; obtain rfl := sj_ H; go_enter Tryz.func43, Tryz.ntmps43
   go_wp2_with (first | ((with_reducible refine gate_dst (N := 1) rfl ?_); (try (refine gate_guard z214_ ?_; dsimp only)); refine box_event ?hg (N := 1) ?hd (cs := #[.string a0_0, .int .i64 a0_1, .slice A0_2 l0_2.length c0_2]) (t := 55) ?hr ?_; (case hd => rfl); (case hg => rfl); (case hr => exact z107_); intro gb21 hg w10 hbox hb; have n_ := a4_ (below_step z186_ hb) (hbox) ((z234_ : w.heap.size ≤ gb21)) ((z234_ : w.heap.size ≤ gb21)); clear HB; obtain ⟨HB, BK21, GW21, GE21⟩ := n_; clear hb hbox hg; obtain ⟨hcz11_0, hcz11_1, hcz11_2, hfz11_0, hfz11_1, hfz11_2⟩ := b3_ BK21.out) | ((with_reducible refine gate_callee (f := 74) rfl ?_); refine gl_ (some 6) Tryz.func74 #[.string a0_0, .int .i64 16] ?_; (with_reducible refine (f87.calls a0_0 16 true _ A2.out).mono ?_); rintro e w' ⟨rfl, ⟨nd, rfl⟩⟩; refine ⟨_, rfl, ?_⟩))
   go_ret; exact ⟨z138_, z173_⟩
  have c6b0 := decide_eq_true c6; have c6b1 : decide (l0_2.length ≤ 120) = true := decide_eq_true z161_; clear c6; replace H := bm_ H; obtain ⟨t19, A70, H⟩ := H; have A7 := A_ A70; clear A70; obtain rfl := sj_ H; go_enter Tryz.func43, Tryz.ntmps43
  go_wp2_with (first | ((with_reducible refine gate_dst (N := 1) rfl ?_); (try (refine gate_guard z214_ ?_; dsimp only)); refine box_event ?hg (N := 1) ?hd (cs := #[.string a0_0, .int .i64 a0_1, .slice A0_2 l0_2.length c0_2]) (t := 55) ?hr ?_; (case hd => rfl); (case hg => rfl); (case hr => exact z107_); intro gb21 hg w8 hbox hb; have n_ := a4_ (below_step z186_ hb) (hbox) ((z234_ : w.heap.size ≤ gb21)) ((z234_ : w.heap.size ≤ gb21)); clear HB; obtain ⟨HB, BK21, GW21, GE21⟩ := n_; clear hb hbox hg; obtain ⟨hcz9_0, hcz9_1, hcz9_2, hfz9_0, hfz9_1, hfz9_2⟩ := b3_ BK21.out) | ((with_reducible refine gate_callee (f := 74) rfl ?_); refine gl_ (some 6) Tryz.func74 #[.string a0_0, .int .i64 16] ?_; (with_reducible refine (f87.calls a0_0 16 true _ A2.out).mono ?_); rintro e w' ⟨rfl, ⟨nd, rfl⟩⟩; refine ⟨_, rfl, ?_⟩) | (go_at_call 65; (with_reducible refine (f43.calls k _ _ l0_2  t19 _ ?side1 HC0_2.out A7.out).mono ?_); (case side1 => repeat (first | exact (Kd.C_below HR0_2.out z173_) | (with_reducible refine Kd.C_alloc ?_ _) | (with_reducible refine Kd.C_drewN ?_ _) | (with_reducible refine Kd.C_drew ?_))); rintro e w' ⟨rfl, ⟨nd, rfl⟩⟩))
  go_ret; exact ⟨z138_, z173_⟩
 ·
  replace c3 := Bool.eq_false_iff.mpr c3; subst c3; have H1 := ff_ H; clear H; have H := H1; clear H1; obtain rfl := sj_ H; go_enter Tryz.func43, Tryz.ntmps43
  go_wp2_with (first | ((with_reducible refine gate_dst (N := 1) rfl ?_); (try (refine gate_guard z214_ ?_; dsimp only)); refine box_event ?hg (N := 1) ?hd (cs := #[.string a0_0, .int .i64 a0_1, .slice A0_2 l0_2.length c0_2]) (t := 55) ?hr ?_; (case hd => rfl); (case hg => rfl); (case hr => exact z107_); intro gb21 hg w16 hbox hb; have n_ := a4_ (below_step z186_ hb) (hbox) ((z234_ : w.heap.size ≤ gb21)) ((z234_ : w.heap.size ≤ gb21)); clear HB; obtain ⟨HB, BK21, GW21, GE21⟩ := n_; clear hb hbox hg; obtain ⟨hcz17_0, hcz17_1, hcz17_2, hfz17_0, hfz17_1, hfz17_2⟩ := b3_ BK21.out) | ((with_reducible refine gate_callee (f := 74) rfl ?_); refine gl_ (some 6) Tryz.func74 #[.string a0_0, .int .i64 16] ?_; (with_reducible refine (f87.calls a0_0 16 false _ A2.out).mono ?_); rintro e w' ⟨rfl, ⟨nd, rfl⟩⟩; refine ⟨_, rfl, ?_⟩))
  go_ret; exact ⟨z138_, z173_⟩
def f40.f (a0 : Int) : Option (Bool) := some (a0 != a0)
theorem f40.calls (a0 : Int) (r : Bool) (w : World) (h : f40.f a0 = some r) :
  Calls Tryz.prog 128 #[.int .i64 a0] w fun e w' => e = .returned (.bool r) ∧ Drawn0 w w' := by
 unfold f40.f at h; have H := h; clear h; obtain rfl := sj_ H; go_enter Tryz.func128, Tryz.ntmps128; go_wp2; go_ret; exact ⟨z139_, z207_⟩
def f75.f (a0 : Int) (a1 : Int) : Option (Int) := (f40.f a0).bind fun t10 => ((f40.f a1).bind fun t11 => (if t10 = true then (if t11 = true then (some 0) else (some (-1))) else (if t11 = true then (some 1) else (if a0 < a1 then (some (-1)) else (if a0 > a1 then (some 1) else (some 0))))))
theorem f75.calls (a0 : Int) (a1 : Int) (r : Int) (w : World) (h : f75.f a0 a1 = some r) :
  Calls Tryz.prog 90 #[.int .i64 a0, .int .i64 a1] w fun e w' => e = .returned (.int .i64 r) ∧ Drawn0 w w' := by
 unfold f75.f at h; have H := h; clear h; replace H := bm_ H; obtain ⟨t10, A30, H⟩ := H; have A3 := A_ A30; clear A30; replace H := bm_ H; obtain ⟨t11, A40, H⟩ := H; have A4 := A_ A40; clear A40
 by_cases c5 : t10 = true
 ·
  subst c5; have H1 := tt_ H; clear H; have H := H1; clear H1
  by_cases c6 : t11 = true
  ·
   subst c6; have H1 := tt_ H; clear H; have H := H1; clear H1; obtain rfl := sj_ H; go_enter Tryz.func90, Tryz.ntmps90
   go_wp2_with (first | ((with_reducible refine gate_callee (f := 128) rfl ?_); refine gl_ (some 8) Tryz.func128 #[.int .i64 a0] ?_; (with_reducible refine (f40.calls a0 true _ A3.out).mono ?_); rintro e w' ⟨rfl, ⟨nd, rfl⟩⟩; refine ⟨_, rfl, ?_⟩) | ((with_reducible refine gate_callee (f := 128) rfl ?_); refine gl_ (some 10) Tryz.func128 #[.int .i64 a1] ?_; (with_reducible refine (f40.calls a1 true _ A4.out).mono ?_); rintro e w' ⟨rfl, ⟨nd, rfl⟩⟩; refine ⟨_, rfl, ?_⟩))
   go_ret; exact ⟨z139_, z207_⟩
  ·
   replace c6 := Bool.eq_false_iff.mpr c6; subst c6; have H1 := ff_ H; clear H; have H := H1; clear H1; obtain rfl := sj_ H; go_enter Tryz.func90, Tryz.ntmps90
   go_wp2_with (first | ((with_reducible refine gate_callee (f := 128) rfl ?_); refine gl_ (some 8) Tryz.func128 #[.int .i64 a0] ?_; (with_reducible refine (f40.calls a0 true _ A3.out).mono ?_); rintro e w' ⟨rfl, ⟨nd, rfl⟩⟩; refine ⟨_, rfl, ?_⟩) | ((with_reducible refine gate_callee (f := 128) rfl ?_); refine gl_ (some 10) Tryz.func128 #[.int .i64 a1] ?_; (with_reducible refine (f40.calls a1 false _ A4.out).mono ?_); rintro e w' ⟨rfl, ⟨nd, rfl⟩⟩; refine ⟨_, rfl, ?_⟩))
   go_ret; exact ⟨z139_, z207_⟩
 ·
  replace c5 := Bool.eq_false_iff.mpr c5; subst c5; have H1 := ff_ H; clear H; have H := H1; clear H1
  by_cases c7 : t11 = true
  ·
   subst c7; have H1 := tt_ H; clear H; have H := H1; clear H1; obtain rfl := sj_ H; go_enter Tryz.func90, Tryz.ntmps90
   go_wp2_with (first | ((with_reducible refine gate_callee (f := 128) rfl ?_); refine gl_ (some 8) Tryz.func128 #[.int .i64 a0] ?_; (with_reducible refine (f40.calls a0 false _ A3.out).mono ?_); rintro e w' ⟨rfl, ⟨nd, rfl⟩⟩; refine ⟨_, rfl, ?_⟩) | ((with_reducible refine gate_callee (f := 128) rfl ?_); refine gl_ (some 10) Tryz.func128 #[.int .i64 a1] ?_; (with_reducible refine (f40.calls a1 true _ A4.out).mono ?_); rintro e w' ⟨rfl, ⟨nd, rfl⟩⟩; refine ⟨_, rfl, ?_⟩))
   go_ret; exact ⟨z139_, z207_⟩
  ·
   replace c7 := Bool.eq_false_iff.mpr c7; subst c7; have H1 := ff_ H; clear H; have H := H1; clear H1; revert H; refine i1_ (fun c8b0 H => ?_) fun c8b0 H => ?_
   ·
    obtain rfl := sj_ H; go_enter Tryz.func90, Tryz.ntmps90
    go_wp2_with (first | ((with_reducible refine gate_callee (f := 128) rfl ?_); refine gl_ (some 8) Tryz.func128 #[.int .i64 a0] ?_; (with_reducible refine (f40.calls a0 false _ A3.out).mono ?_); rintro e w' ⟨rfl, ⟨nd, rfl⟩⟩; refine ⟨_, rfl, ?_⟩) | ((with_reducible refine gate_callee (f := 128) rfl ?_); refine gl_ (some 10) Tryz.func128 #[.int .i64 a1] ?_; (with_reducible refine (f40.calls a1 false _ A4.out).mono ?_); rintro e w' ⟨rfl, ⟨nd, rfl⟩⟩; refine ⟨_, rfl, ?_⟩))
    go_ret; exact ⟨z139_, z207_⟩
   revert H; refine i1_ (fun c9b0 H => ?_) fun c9b0 H => ?_; rotate_left
   ·
    obtain rfl := sj_ H; go_enter Tryz.func90, Tryz.ntmps90
    go_wp2_with (first | ((with_reducible refine gate_callee (f := 128) rfl ?_); refine gl_ (some 8) Tryz.func128 #[.int .i64 a0] ?_; (with_reducible refine (f40.calls a0 false _ A3.out).mono ?_); rintro e w' ⟨rfl, ⟨nd, rfl⟩⟩; refine ⟨_, rfl, ?_⟩) | ((with_reducible refine gate_callee (f := 128) rfl ?_); refine gl_ (some 10) Tryz.func128 #[.int .i64 a1] ?_; (with_reducible refine (f40.calls a1 false _ A4.out).mono ?_); rintro e w' ⟨rfl, ⟨nd, rfl⟩⟩; refine ⟨_, rfl, ?_⟩))
    go_ret; exact ⟨z139_, z207_⟩
   obtain rfl := sj_ H; go_enter Tryz.func90, Tryz.ntmps90
   go_wp2_with (first | ((with_reducible refine gate_callee (f := 128) rfl ?_); refine gl_ (some 8) Tryz.func128 #[.int .i64 a0] ?_; (with_reducible refine (f40.calls a0 false _ A3.out).mono ?_); rintro e w' ⟨rfl, ⟨nd, rfl⟩⟩; refine ⟨_, rfl, ?_⟩) | ((with_reducible refine gate_callee (f := 128) rfl ?_); refine gl_ (some 10) Tryz.func128 #[.int .i64 a1] ?_; (with_reducible refine (f40.calls a1 false _ A4.out).mono ?_); rintro e w' ⟨rfl, ⟨nd, rfl⟩⟩; refine ⟨_, rfl, ?_⟩))
   go_ret; exact ⟨z139_, z207_⟩
def f63.l0 : Nat → Int → List Int → Int → Int → Option (Int)
 | 0, _, _, _, _ => none
 | k + 1, x3, x6, x7, x8 => if x8 < x7 then (if 0 ≤ x8 then (if x8 < (x6.length : Int) then (if (rd x6 x8) = x3 then (f63.l0 k x3 x6 x7 (wrap64 (x8 + 1))) else (some (rd x6 x8))) else (none)) else (none)) else (some x3)
def f63.f (k : Nat) (l0 : List Int) : Option (Int) := f63.l0 k 0 l0 (l0.length : Int) 0
theorem f63.calls (k : Nat) (A0 : Option Addr) (c0 : Nat) (l0 : List Int) (r : Int) (w : World) (hr0 : Kd.C (Kd.int .i64) w A0 l0.length l0) (hc0 : l0.length ≤ c0) (h : f63.f k l0 = some r) :
  Calls Tryz.prog 89 #[.slice A0 l0.length c0] w fun e w' => e = .returned (.int .i64 r) ∧ Drawn0 w w' := by
 have HR0 := A_ hr0; have HC0 := A_ hc0; clear hr0 hc0; unfold f63.f at h; have H := h; clear h; have H' := A_ H; clear H; go_enter Tryz.func89, Tryz.ntmps89; go_wp2
 go_loopg [8] k (fun kq v8 w' => ∃ (x8_1 : Int), v8 = .int .i64 x8_1 ∧ Aside0 (f63.l0 kq 0 l0 (l0.length : Int) x8_1 = some r) ∧ Aside0 (kq ≤ k) ∧ Drawn0 w w')
 case atStart => exact ⟨(0), z139_, H', ⟨Nat.le_refl _⟩, z207_⟩
 case round =>
  clear H'; obtain ⟨x8_1, rfl, HA, HK1, ⟨m1, rfl⟩⟩ := hrel
  cases gk with
  | zero => exact absurd HA.out (by simp [f63.l0])
  | succ k1 =>
  have H := HA.out; clear HA; simp only [f63.l0] at H; revert H; refine i1_ (fun c2b0 H => ?_) fun c2b0 H => ?_; rotate_left
  ·
   obtain rfl := sj_ H; go_wp2; go_ret; exact ⟨z139_, z207_⟩
  revert H; refine i3_ fun c3b0 H => ?_; revert H; refine i3_ fun c4b0 H => ?_; revert H; refine i2_ (fun c5 H => ?_) fun c5 H => ?_; rotate_left
  ·
   have c5b0 := beq_eq_false_iff_ne.mpr c5; have c5b1 := bne_iff_ne.mpr c5; obtain rfl := sj_ H; obtain ⟨p10, q10, ad10, e10, hx10_0⟩ := pq_ (Kd.at_int HR0.out x8_1); cases e10; go_wp2; go_ret; exact ⟨z139_, z207_⟩
  have c5b0 := beq_iff_eq.mpr c5; have c5b1 := bne_eq_false_iff_eq.mpr c5; clear c5; have H' := A_ H; clear H; obtain ⟨p10, q10, ad10, e10, hx10_0⟩ := pq_ (Kd.at_int HR0.out x8_1); cases e10; go_wp2
  go_roundg k1
  case measure => have := HK1.out; omega
  case rel => exact ⟨(wrap64 (x8_1 + 1)), z139_, H', ⟨z148_⟩, z207_⟩
def f72.f (k : Nat) (a0_0 : ByteArray) (a0_1 : Int) (l0_2 : List ByteArray) (a1_0 : ByteArray) (a1_1 : Int) (l1_2 : List ByteArray) : Option (Int) := (f75.f a0_1 a1_1).bind fun t10 => ((f73.f a0_0 a1_0).bind fun t11 => ((f63.f k (([t10, t11] : List Int))).bind fun t12 => (some t12)))
def f72.T1 : Bool × List (List Nat × List Nat) := (true, [([], []), ([0], [0]), ([], []), ([2], [2]), ([1, 3], [1, 3]), ([], []), ([5], [5]), ([], []), ([7], [7]), ([6, 8, 4], [6, 8]), ([4, 9], [4, 9]), ([10, 9], [10]), ([11, 11, 0, 1, 2, 3, 4, 5, 6, 7, 8, 9, 10, 11], [11])])
def f72.B1 : List Nat := [0, 1, 0, 4, 15, 0, 32, 0, 128, 511, 1023, 2047, 4095]
theorem f72.tab1 : rtab .any (opsOf Tryz.f57 1) = f72.T1 := by kernel_rfl
theorem f72.bits1 : waitsOk f72.T1.2 f72.B1 = true := by kernel_rfl
theorem f72.calls (k : Nat) (a0_0 : ByteArray) (a0_1 : Int) (A0_2 : Option Addr) (c0_2 : Nat) (l0_2 : List ByteArray) (a1_0 : ByteArray) (a1_1 : Int) (A1_2 : Option Addr) (c1_2 : Nat) (l1_2 : List ByteArray) (r : Int) (w : World) (hr0_2 : Kd.C Kd.string w A0_2 l0_2.length l0_2) (hc0_2 : l0_2.length ≤ c0_2) (hr1_2 : Kd.C Kd.string w A1_2 l1_2.length l1_2) (hc1_2 : l1_2.length ≤ c1_2) (h : f72.f k a0_0 a0_1 l0_2 a1_0 a1_1 l1_2 = some r) :
  Calls Tryz.prog 57 #[.agg #[.string a0_0, .int .i64 a0_1, .slice A0_2 l0_2.length c0_2], .agg #[.string a1_0, .int .i64 a1_1, .slice A1_2 l1_2.length c1_2]] w fun e w' => e = .returned (.int .i64 r) ∧ Below w.heap.size w w' := by
 have hu55 := Tryz.underlying55; have HR0_2 := A_ hr0_2; have HC0_2 := A_ hc0_2; clear hr0_2 hc0_2; have HR1_2 := A_ hr1_2; have HC1_2 := A_ hc1_2; clear hr1_2 hc1_2; have HB := A_ (Below.refl w.heap.size w); unfold f72.f at h; have H := h; clear h; replace H := bm_ H; obtain ⟨t12, A30, H⟩ := H; have A3 := A_ A30; clear A30; replace H := bm_ H; obtain ⟨t13, A40, H⟩ := H; have A4 := A_ A40; clear A40; obtain ⟨y15, hy15⟩ : ∃ y_ : List Int, y_ = (([t12, t13] : List Int)) := ⟨_, rfl⟩
 replace H : ((f63.f k y15).bind fun t14 => (some t14)) = some r := by first | (rw [hy15]; with_reducible exact H) | (have H2_ := (Option.bind_some _ _).symm.trans H; rw [hy15]; with_reducible exact H2_) | (have H2_ := (Option.bind_some _ _).symm.trans H; with_reducible exact H2_) | with_reducible exact H | (rw [hy15]; exact H) | exact H
 have Ny15 := A_ hy15; clear hy15; replace H := bm_ H; obtain ⟨t14, A50, H⟩ := H; have A5 := A_ A50; clear A50; obtain rfl := sj_ H; go_enter Tryz.func57, Tryz.ntmps57
 try go_wp2_with (first | ((with_reducible refine gate_dst (N := 2) rfl ?_); refine box_event ?hg (N := 2) ?hd (cs := #[.string a0_0, .int .i64 a0_1, .slice A0_2 l0_2.length c0_2]) (t := 55) ?hr ?_; (case hd => rfl); (case hg => rfl); (case hr => exact z107_); intro gb16 hg w6 hbox hb; have n_ := a4_ (below_step z186_ hb) (hbox) ((z234_ : w.heap.size ≤ gb16)) ((z234_ : w.heap.size ≤ gb16)); clear HB; obtain ⟨HB, BK16, GW16, GE16⟩ := n_; clear hb hbox hg) | ((with_reducible refine gate_dst (N := 3) rfl ?_); refine box_event ?hg (N := 3) ?hd (cs := #[.string a1_0, .int .i64 a1_1, .slice A1_2 l1_2.length c1_2]) (t := 55) ?hr ?_; (case hd => rfl); (case hg => rfl); (case hr => exact z107_); intro gb17 hg w7 hbox hb; have n_ := a7_ (blk_below (g := gb16) (o := .cells #[.string a0_0, .int .i64 a0_1, .slice A0_2 l0_2.length c0_2] 55 (0, 0)) z89_ hb) (below_step z170_ hb) (hbox) ((by rw [hg]; exact (below_size z170_) : w.heap.size ≤ gb17)) ((by rw [hg]; exact (below_size z170_) : w.heap.size ≤ gb17)) ((by rw [hg]; exact Nat.ne_of_lt (blk_lt (g := gb16) (o := .cells #[.string a0_0, .int .i64 a0_1, .slice A0_2 l0_2.length c0_2] 55 (0, 0)) z89_) : gb16 ≠ gb17)) ((by rw [hg]; exact Nat.ne_of_gt (blk_lt (g := gb16) (o := .cells #[.string a0_0, .int .i64 a0_1, .slice A0_2 l0_2.length c0_2] 55 (0, 0)) z89_) : gb17 ≠ gb16)); clear BK16 HB; obtain ⟨BK16, HB, BK17, GW17, GE17, NB16_17, NB17_16⟩ := n_; clear hb hbox hg))
 have n_ := a3_ (blk_drew BK16.out) (blk_drew BK17.out) (below_drew1 HB.out); clear BK16 BK17 HB; obtain ⟨BK16, BK17, HB⟩ := n_; refine start_ (n := 13) (S := fun w' => w'.cell? ⟨gb16, 0, none⟩ = some (.string a0_0) ∧ w'.cell? ⟨gb16, 1, none⟩ = some (.int .i64 a0_1) ∧ w'.cell? ⟨gb16, 2, none⟩ = some (.slice A0_2 l0_2.length c0_2) ∧ w'.cell? ⟨gb17, 0, none⟩ = some (.string a1_0) ∧ w'.cell? ⟨gb17, 1, none⟩ = some (.int .i64 a1_1) ∧ w'.cell? ⟨gb17, 2, none⟩ = some (.slice A1_2 l1_2.length c1_2)) (ds := []) #[false, false, false, false, false, false, false, false, false, false, false, false, false] z159_ rfl rfl (k3_3_ BK16.out BK17.out) (fun hHeld => ?_); refine with_tabW f72.tab1 f72.bits1 (fun HT_ HW_ => ?_); generalize w7.drew = w8 at BK16 BK17 HB hHeld ⊢; refine rgQ 0 5 ?_; refine rgQ 2 7 ?_; refine rgQ 5 10 ?_; refine rgQ 7 12 ?_; refine rgS6 1 6 hHeld ?_; refine rgS6 3 8 hHeld ?_; refine rgS6 6 11 hHeld ?_; refine rgS6 8 13 hHeld ?_; refine one_ (i := 4) (N := some 9) #[true, true, true, true, true, true, true, true, true, false, false, false, false] rfl rfl (one_of HT_.out z159_) z106_ (fun K hK => ?_); refine goes_ Tryz.func90 z159_ rfl #[.int .i64 a0_1, .int .i64 a1_1] z214_ rfl rfl z1_ ?_
 with_reducible refine (f75.calls a0_1 a1_1 t12 _ A3.out).mono ?_
 rintro e w' ⟨rfl, ⟨nd, rfl⟩⟩; refine ⟨_, rfl, ?_⟩; refine hK.out _ _ (k3_3_ BK16.out BK17.out) (fun hHeld => ?_); clear hK K; refine nA_ ?_; refine one_ (i := 9) (N := some 14) #[true, true, true, true, true, true, true, true, true, true, false, false, false] rfl rfl (one_of HT_.out z159_) z106_ (fun K hK => ?_); refine goes_ Tryz.func55 z159_ rfl #[.string a0_0, .string a1_0] z214_ rfl rfl z1_ ?_
 with_reducible refine (f73.calls a0_0 a1_0 t13 _ A4.out).mono ?_
 rintro e w' ⟨rfl, ⟨nd, rfl⟩⟩; refine ⟨_, rfl, ?_⟩; refine hK.out _ _ (k3_3_ BK16.out BK17.out) (fun hHeld => ?_); clear hK K; refine nA_ ?_; refine one_ (i := 10) (N := some 15) #[true, true, true, true, true, true, true, true, true, true, true, false, false] rfl rfl (one_of HT_.out z159_) z106_ (fun K hK => ?_); refine Kd.R_lit_step (Kd.int .i64) _ 3 ?hg (N := 15) ?hd (xs := ([t12, t13] : List Int)) (inner := [.int .i64 t12, .int .i64 t13]) (ok := fun _ => True) (okp := fun _ => True) ?hr ?hp (fun _ hk => hk) trivial (Below.refl _ _) (Nat.le_refl _) z219_ ?_; (case hd => rfl); (case hg => rfl); (case hr => exact z107_); (case hp => exact (Reps.one (show Kd.M (Kd.int .i64) _ _ _ t12 [.int .i64 t12] from rfl) (Reps.one (show Kd.M (Kd.int .i64) _ _ _ t13 [.int .i64 t13] from rfl) (Reps.none _ _)))); intro v18 w9 ho10 hb hg_ hnew_; clear hg_ hnew_; (first | rw [← Ny15.out] at ho10 | (simp only [Int.reduceToNat] at ho10; rw [← Ny15.out] at ho10)); have n_ := a4_ (Kd.R_lower ho10 (below_size z169_)) (blk_below (g := gb16) (o := .cells #[.string a0_0, .int .i64 a0_1, .slice A0_2 l0_2.length c0_2] 55 (0, 0)) z89_ hb) (blk_below (g := gb17) (o := .cells #[.string a1_0, .int .i64 a1_1, .slice A1_2 l1_2.length c1_2] 55 (0, 0)) z90_ hb) (below_step z169_ hb); clear BK16 BK17 HB; obtain ⟨HO19, BK16, BK17, HB⟩ := n_; clear hb ho10; obtain ⟨Ao11, co11, eo11⟩ := Kd.R_slice HO19.out; (first | subst eo11 | (injection eo11 with f1_ f2_ f3_; have f4_ := f1_.symm; have f5_ := f3_.symm; clear f1_ f2_ f3_; subst f4_; subst f5_)); refine hK.out _ _ (k3_3_ BK16.out BK17.out) (fun hHeld => ?_); clear hK K; refine nA_ ?_; refine one_ (i := 11) (N := some 16) #[true, true, true, true, true, true, true, true, true, true, true, true, false] rfl rfl (one_of HT_.out z159_) z106_ (fun K hK => ?_); refine goes_ Tryz.func89 z159_ rfl #[.slice Ao11 y15.length co11] z214_ rfl rfl z1_ ?_
 with_reducible refine (f63.calls k _ _ y15 t14 _ ?side1 ?side2 A5.out).mono ?_
 (case side1 => exact z202_); (case side2 => exact (Kd.R_reads' HO19.out).2.1); rintro e w' ⟨rfl, ⟨nd, rfl⟩⟩; refine ⟨_, rfl, ?_⟩; refine hK.out _ _ (k3_3_ BK16.out BK17.out) (fun hHeld => ?_); clear hK K; refine nA_ ?_; refine rgQ 12 4 ?_; refine done_ (done_of HT_.out z159_) ?_
 try go_wp2
 go_ret; exact ⟨z138_, z169_⟩
def f90.f (k : Nat) (a0_0 : ByteArray) (a0_1 : Int) (l0_2 : List ByteArray) (a1_0 : ByteArray) (a1_1 : Int) (l1_2 : List ByteArray) : Option (Bool) := (f72.f k a0_0 a0_1 l0_2 a1_0 a1_1 l1_2).bind fun t10 => (some (decide (t10 < 0)))
theorem f90.calls (k : Nat) (a0_0 : ByteArray) (a0_1 : Int) (A0_2 : Option Addr) (c0_2 : Nat) (l0_2 : List ByteArray) (a1_0 : ByteArray) (a1_1 : Int) (A1_2 : Option Addr) (c1_2 : Nat) (l1_2 : List ByteArray) (r : Bool) (w : World) (hr0_2 : Kd.C Kd.string w A0_2 l0_2.length l0_2) (hc0_2 : l0_2.length ≤ c0_2) (hr1_2 : Kd.C Kd.string w A1_2 l1_2.length l1_2) (hc1_2 : l1_2.length ≤ c1_2) (h : f90.f k a0_0 a0_1 l0_2 a1_0 a1_1 l1_2 = some r) :
  Calls Tryz.prog 44 #[.agg #[.string a0_0, .int .i64 a0_1, .slice A0_2 l0_2.length c0_2], .agg #[.string a1_0, .int .i64 a1_1, .slice A1_2 l1_2.length c1_2]] w fun e w' => e = .returned (.bool r) ∧ Below w.heap.size w w' := by
 have hu55 := Tryz.underlying55; have HR0_2 := A_ hr0_2; have HC0_2 := A_ hc0_2; clear hr0_2 hc0_2; have HR1_2 := A_ hr1_2; have HC1_2 := A_ hc1_2; clear hr1_2 hc1_2; have HB := A_ (Below.refl w.heap.size w); unfold f90.f at h; have H := h; clear h; replace H := bm_ H; obtain ⟨t10, A30, H⟩ := H; have A3 := A_ A30; clear A30; obtain rfl := sj_ H; go_enter Tryz.func44, Tryz.ntmps44
 go_wp2_with (first | ((with_reducible refine gate_dst (N := 2) rfl ?_); refine box_event ?hg (N := 2) ?hd (cs := #[.string a0_0, .int .i64 a0_1, .slice A0_2 l0_2.length c0_2]) (t := 55) ?hr ?_; (case hd => rfl); (case hg => rfl); (case hr => exact z107_); intro gb11 hg w4 hbox hb; have n_ := a4_ (below_step z186_ hb) (hbox) ((z234_ : w.heap.size ≤ gb11)) ((z234_ : w.heap.size ≤ gb11)); clear HB; obtain ⟨HB, BK11, GW11, GE11⟩ := n_; clear hb hbox hg) | ((with_reducible refine gate_dst (N := 3) rfl ?_); refine box_event ?hg (N := 3) ?hd (cs := #[.string a1_0, .int .i64 a1_1, .slice A1_2 l1_2.length c1_2]) (t := 55) ?hr ?_; (case hd => rfl); (case hg => rfl); (case hr => exact z107_); intro gb12 hg w5 hbox hb; have n_ := a7_ (blk_below (g := gb11) (o := .cells #[.string a0_0, .int .i64 a0_1, .slice A0_2 l0_2.length c0_2] 55 (0, 0)) z88_ hb) (below_step z167_ hb) (hbox) ((by rw [hg]; exact (below_size z167_) : w.heap.size ≤ gb12)) ((by rw [hg]; exact (below_size z167_) : w.heap.size ≤ gb12)) ((by rw [hg]; exact Nat.ne_of_lt (blk_lt (g := gb11) (o := .cells #[.string a0_0, .int .i64 a0_1, .slice A0_2 l0_2.length c0_2] 55 (0, 0)) z88_) : gb11 ≠ gb12)) ((by rw [hg]; exact Nat.ne_of_gt (blk_lt (g := gb11) (o := .cells #[.string a0_0, .int .i64 a0_1, .slice A0_2 l0_2.length c0_2] 55 (0, 0)) z88_) : gb12 ≠ gb11)); clear BK11 HB; obtain ⟨BK11, HB, BK12, GW12, GE12, NB11_12, NB12_11⟩ := n_; clear hb hbox hg; have hnb6 := NB11_12.out; have hnc6 := NB12_11.out; have hcz7_0 : w5.cell? ⟨gb11, 0, none⟩ = some (.string a0_0) := (blk_cell BK11.out 0).trans rfl; have hcz7_1 : w5.cell? ⟨gb11, 1, none⟩ = some (.int .i64 a0_1) := (blk_cell BK11.out 1).trans rfl; have hcz7_2 : w5.cell? ⟨gb11, 2, none⟩ = some (.slice A0_2 l0_2.length c0_2) := (blk_cell BK11.out 2).trans rfl; have hfz7_0 := blk_frozen BK11.out 0; have hfz7_1 := blk_frozen BK11.out 1; have hfz7_2 := blk_frozen BK11.out 2; have hcz8_0 : w5.cell? ⟨gb12, 0, none⟩ = some (.string a1_0) := (blk_cell BK12.out 0).trans rfl; have hcz8_1 : w5.cell? ⟨gb12, 1, none⟩ = some (.int .i64 a1_1) := (blk_cell BK12.out 1).trans rfl; have hcz8_2 : w5.cell? ⟨gb12, 2, none⟩ = some (.slice A1_2 l1_2.length c1_2) := (blk_cell BK12.out 2).trans rfl; have hfz8_0 := blk_frozen BK12.out 0; have hfz8_1 := blk_frozen BK12.out 1; have hfz8_2 := blk_frozen BK12.out 2) | ((with_reducible refine gate_callee (f := 57) rfl ?_); refine gl_ (some 7) Tryz.func57 #[.agg #[.string a0_0, .int .i64 a0_1, .slice A0_2 l0_2.length c0_2], .agg #[.string a1_0, .int .i64 a1_1, .slice A1_2 l1_2.length c1_2]] ?_; (with_reducible refine (f72.calls k a0_0 a0_1 _ _ l0_2 a1_0 a1_1 _ _ l1_2 t10 _ ?side1 HC0_2.out ?side3 HC1_2.out A3.out).mono ?_); (case side1 => exact z193_); (case side3 => repeat (first | exact (Kd.C_below HR1_2.out HB.out) | (with_reducible refine Kd.C_alloc ?_ _) | (with_reducible refine Kd.C_drewN ?_ _) | (with_reducible refine Kd.C_drew ?_))); rintro e w9 ⟨rfl, hb⟩; refine ⟨_, rfl, ?_⟩; have n_ := a3_ (blk_below (g := gb11) (o := .cells #[.string a0_0, .int .i64 a0_1, .slice A0_2 l0_2.length c0_2] 55 (0, 0)) z88_ hb) (blk_below (g := gb12) (o := .cells #[.string a1_0, .int .i64 a1_1, .slice A1_2 l1_2.length c1_2] 55 (0, 0)) (by (with_reducible repeat (first | refine blk_drewN ?_ _ | refine blk_drew ?_ | refine blk_alloc ?_ _)); exact BK12.out) hb) (below_step z166_ hb); clear BK11 BK12 HB; obtain ⟨BK11, BK12, HB⟩ := n_; (try clear hb)))
 go_ret; exact ⟨z138_, z166_⟩
def f39.l0 : Nat → List Int → List Int → Int → Option (Bool)
 | 0, _, _, _ => none
 | k + 1, x0, x1, x5 => if x5 < (x0.length : Int) then (if 0 ≤ x5 then (if x5 < (x1.length : Int) then (if (rd x0 x5) = (rd x1 x5) then (f39.l0 k x0 x1 (wrap64 (x5 + 1))) else (some false)) else (none)) else (none)) else (some true)
def f39.f (k : Nat) (l0 : List Int) (l1 : List Int) : Option (Bool) := if (l0.length : Int) = (l1.length : Int) then (f39.l0 k l0 l1 0) else (some false)
theorem f39.calls (k : Nat) (A0 : Option Addr) (c0 : Nat) (l0 : List Int) (A1 : Option Addr) (c1 : Nat) (l1 : List Int) (r : Bool) (w : World) (hr0 : Kd.C (Kd.int .i64) w A0 l0.length l0) (hc0 : l0.length ≤ c0) (hr1 : Kd.C (Kd.int .i64) w A1 l1.length l1) (hc1 : l1.length ≤ c1) (h : f39.f k l0 l1 = some r) :
  Calls Tryz.prog 30 #[.slice A0 l0.length c0, .slice A1 l1.length c1] w fun e w' => e = .returned (.bool r) ∧ Drawn0 w w' := by
 have HR0 := A_ hr0; have HC0 := A_ hc0; clear hr0 hc0; have HR1 := A_ hr1; have HC1 := A_ hc1; clear hr1 hc1; unfold f39.f at h; have H := h; clear h; revert H; refine i2_ (fun c3 H => ?_) fun c3 H => ?_; rotate_left
 ·
  have c3b0 := beq_eq_false_iff_ne.mpr c3; have c3b1 := bne_iff_ne.mpr c3; have c3b2 : (l0.length == l1.length) = false := z142_; obtain rfl := sj_ H; go_enter Tryz.func30, Tryz.ntmps30; go_wp2
  repeat (go_quiet (fail); try go_wp2)
  go_ret; exact ⟨z139_, z207_⟩
 have c3b0 := beq_iff_eq.mpr c3; have c3b1 := bne_eq_false_iff_eq.mpr c3; have c3b2 : (l0.length == l1.length) = true := z142_; clear c3; have H' := A_ H; clear H; go_enter Tryz.func30, Tryz.ntmps30; go_wp2
 repeat (go_quiet (fail); try go_wp2)
 go_loopg [5] k (fun kq v5 w' => ∃ (x5_1 : Int), v5 = .int .i64 x5_1 ∧ Aside0 (f39.l0 kq l0 l1 x5_1 = some r) ∧ Aside0 (kq ≤ k) ∧ Drawn0 w w')
 case atStart => exact ⟨(0), z139_, H', ⟨Nat.le_refl _⟩, z207_⟩
 case round =>
  clear H'; (try clear c1); (try clear c3); (try clear c3b0); (try clear c3b1); (try clear c3b2); obtain ⟨x5_1, rfl, HA, HK1, ⟨m1, rfl⟩⟩ := hrel
  cases gk with
  | zero => exact absurd HA.out (by simp [f39.l0])
  | succ k1 =>
  have H := HA.out; clear HA; simp only [f39.l0] at H; revert H; refine i1_ (fun c4b0 H => ?_) fun c4b0 H => ?_; rotate_left
  ·
   obtain rfl := sj_ H; go_wp2
   repeat (go_quiet (fail); try go_wp2)
   go_ret; exact ⟨z139_, z207_⟩
  revert H; refine i3_ fun c5b0 H => ?_; revert H; refine i3_ fun c6b0 H => ?_; revert H; refine i2_ (fun c7 H => ?_) fun c7 H => ?_; rotate_left
  ·
   have c7b0 := beq_eq_false_iff_ne.mpr c7; have c7b1 := bne_iff_ne.mpr c7; obtain rfl := sj_ H; obtain ⟨p10, q10, ad10, e10, hx10_0⟩ := pq_ (Kd.at_int HR0.out x5_1); cases e10; obtain ⟨p11, q11, ad11, e11, hx11_0⟩ := pq_ (Kd.at_int HR1.out x5_1); cases e11; go_wp2
   repeat (go_quiet (fail); try go_wp2)
   go_ret; exact ⟨z139_, z207_⟩
  have c7b0 := beq_iff_eq.mpr c7; have c7b1 := bne_eq_false_iff_eq.mpr c7; clear c7; have H' := A_ H; clear H; obtain ⟨p10, q10, ad10, e10, hx10_0⟩ := pq_ (Kd.at_int HR0.out x5_1); cases e10; obtain ⟨p11, q11, ad11, e11, hx11_0⟩ := pq_ (Kd.at_int HR1.out x5_1); cases e11; go_wp2
  repeat (go_quiet (fail); try go_wp2)
  go_roundg k1
  case measure => have := HK1.out; omega
  case rel => exact ⟨(wrap64 (x5_1 + 1)), z139_, H', ⟨z148_⟩, z207_⟩
end Go.Proofs.YtbbmdakdghefnaaGreatDoor.T
/- Plain facts for Query: segments, postings and words that may be (as in the texts of Pack). -/
namespace Go.Proofs.YtbbmdakdghefnaaGreatDoor.Plain
set_option linter.unusedVariables false
set_option linter.unusedSimpArgs false
open Go.RowKit Go.Proofs.YtbbmdakdghefnaaGreatDoor.T Go.Proofs.YtbbmdakdghefnaaGreatDoorW.PrintWords Go.Proofs.YtbbmdakdghefnaaGreatDoorW.PrintLast Go.Proofs.YtbbmdakdghefnaaGreatDoorW.PrintMore
theorem wid {n : Int} (h1 : -9223372036854775808 ≤ n) (h2 : n ≤ 9223372036854775807) : wrap64 n = n := by unfold wrap64; omega
theorem rd_nat (l : List Int) (i : Nat) (h : i < l.length) : rd l (i : Int) = l[i] := by
 unfold rd; rw [Int.toNat_natCast, List.getD_eq_getElem?_getD, List.getElem?_eq_getElem h]
 rfl
/-- Numbers that rise, from behind one, below an end. -/
def risingP (last : Int) (en : Int) : List Int → Bool
 | [] => true
 | a :: r => decide (last < a) && decide (a < en) && risingP a en r
theorem rising_loop (l : List Int) (en : Int) (hl : l.length ≤ 9223372036854775806) : ∀ (f i : Nat) (last : Int) (k : Nat), f + i = l.length → f < k → f55.l0 k en last l (l.length : Int) (i : Int) = some (risingP last en (l.drop i)) := by
 intro f
 induction f with
 | zero =>
  intro i last k hfi hk; obtain ⟨k, rfl⟩ : ∃ m, k = m + 1 := ⟨k - 1, z161_⟩; simp only [f55.l0]; rw [if_neg z161_, List.drop_eq_nil_of_le z161_]
  rfl
 | succ f ih =>
  intro i last k hfi hk; obtain ⟨k, rfl⟩ : ∃ m, k = m + 1 := ⟨k - 1, z161_⟩; have hlt : i < l.length := z161_; simp only [f55.l0]; have hw : wrap64 ((i : Int) + 1) = ((i + 1 : Nat) : Int) := z237_; rw [if_pos z161_, if_pos z161_, if_pos z161_, rd_nat l i hlt, List.drop_eq_getElem_cons hlt, hw]; clear hw; generalize l[i] = a; unfold risingP
  by_cases h1 : a ≤ last
  · rw [if_pos h1, decide_eq_false z161_]; rfl
  ·
   rw [if_neg h1, decide_eq_true z161_]
   by_cases h2 : a ≥ en
   · rw [if_pos h2, decide_eq_false z161_]; rfl
   ·
    rw [if_neg h2, decide_eq_true z161_, ih (i + 1) a k z161_ z161_]
    simp
theorem rising_eq (l : List Int) (en : Int) (hl : l.length ≤ 9223372036854775806) (k : Nat) (hk : l.length < k) : f55.f k l en = some (risingP (-1) en l) := rising_loop l en hl l.length 0 (-1) k rfl hk
/-- A posting that may be. -/
def postOk (p : S99) : Bool := !decide (p.f1.length = 0) && decide (p.f1.length ≤ 120) && risingP (-1) 120 p.f1
def postMayP (l : List S99) : Bool := l.all postOk && decide (l.length ≤ 64) && risingP (-1) 64 (l.map (·.f0))
theorem rd64_nat (l : List S99) (i : Nat) (h : i < l.length) : rd_T99 l (i : Int) = l[i] := by
 unfold rd_T99; rw [Int.toNat_natCast, List.getD_eq_getElem?_getD, List.getElem?_eq_getElem h]
 rfl
theorem postMay_loop (l : List S99) (hl : l.length ≤ 17592186044416) : ∀ (f i : Nat) (k : Nat), f + i = l.length → f + 124 ≤ k →
  f51.l0 k l ((l.take i).map (·.f0)) l (l.length : Int) (i : Int) = some ((l.drop i).all postOk && decide (l.length ≤ 64) && risingP (-1) 64 (l.map (·.f0))) := by
 intro f
 induction f with
 | zero =>
  intro i k hfi hk; obtain ⟨k, rfl⟩ : ∃ m, k = m + 1 := ⟨k - 1, z161_⟩; simp only [f51.l0]; rw [if_neg z161_, List.drop_eq_nil_of_le z161_, List.take_of_length_le z161_]
  by_cases h : l.length ≤ 64
  ·
   rw [if_pos z161_, rising_eq _ _ (by rw [List.length_map]; omega) k (by rw [List.length_map]; omega)]; simp [h]
  ·
   rw [if_neg z161_]; simp [h]
 | succ f ih =>
  intro i k hfi hk; obtain ⟨k, rfl⟩ : ∃ m, k = m + 1 := ⟨k - 1, z161_⟩; have hlt : i < l.length := z161_; simp only [f51.l0]; have hw : wrap64 ((i : Int) + 1) = ((i + 1 : Nat) : Int) := z237_; rw [if_pos z161_, if_pos z161_, if_pos z161_, rd64_nat l i hlt, List.drop_eq_getElem_cons hlt, hw]; clear hw
  have ht : (l.take i).map (·.f0) ++ [(l[i]).f0] = (l.take (i + 1)).map (·.f0) := by
   rw [List.take_succ_eq_append_getElem hlt, List.map_append]; rfl
  rw [ht, List.all_cons]; have hi := ih (i + 1) k z161_ z161_; generalize l[i] = p
  by_cases h1 : p.f1.length = 0
  ·
   rw [if_pos z161_]; simp [postOk, h1]
  ·
   rw [if_neg z161_]
   by_cases h2 : p.f1.length ≤ 120
   ·
    rw [if_neg z161_, rising_eq _ _ z161_ k z161_]; simp only [Option.bind_some]
    cases h3 : risingP (-1) 120 p.f1
    · simp [postOk, h3]
    ·
     rw [if_pos rfl, if_pos (by rw [List.length_map, List.length_take]; omega), hi]
     have : postOk p = true := by simp [postOk, h1, h2, h3]
     rw [this, Bool.true_and]
   ·
    rw [if_pos z161_]; simp [postOk, h2]
theorem postMay_eq (l : List S99) (hl : l.length ≤ 17592186044416) (k : Nat) (hk : l.length + 124 ≤ k) : f51.f k l = some (postMayP l) := postMay_loop l hl l.length 0 k rfl hk
/-- Words that may be. -/
def wordOk (t : ByteArray) : Bool := decide (1 ≤ t.size) && decide (t.size ≤ 32)
def lessB (a b : ByteArray) : Bool := Op.bytesLess a.toList b.toList
def ascP : List ByteArray → Bool
 | [] => true
 | [a] => wordOk a
 | a :: b :: r => wordOk a && lessB a b && ascP (b :: r)
def dictMayP (l : List ByteArray) : Bool := ascP l && decide (l.length ≤ 200)
def asc1 (a : ByteArray) : List ByteArray → Bool
 | [] => true
 | b :: r => wordOk b && lessB a b && asc1 b r
theorem asc_cons (a : ByteArray) (r : List ByteArray) : ascP (a :: r) = (wordOk a && asc1 a r) := by
 induction r generalizing a with
 | nil => simp [ascP, asc1]
 | cons b r ih =>
  simp only [ascP, asc1, ih b]
  cases wordOk a <;> cases lessB a b <;> cases wordOk b <;> rfl
theorem rdOf_nat (l : List ByteArray) (i : Nat) (h : i < l.length) : rdOf ByteArray.empty l (i : Int) = l[i] := by
 unfold rdOf; rw [Int.toNat_natCast, List.getD_eq_getElem?_getD, List.getElem?_eq_getElem h]
 rfl
theorem dictMay_loop (l : List ByteArray) (hl : l.length ≤ 9223372036854775806) : ∀ (f i : Nat) (k : Nat), f + i + 1 = l.length → f + 1 < k → (hi : i < l.length) →
  f45.l0 k l l (l.length : Int) ((i + 1 : Nat) : Int) = some (asc1 l[i] (l.drop (i + 1)) && decide (l.length ≤ 200)) := by
 intro f
 induction f with
 | zero =>
  intro i k hfi hk hi; obtain ⟨k, rfl⟩ : ∃ m, k = m + 1 := ⟨k - 1, z161_⟩; simp only [f45.l0]; rw [if_neg z161_, List.drop_eq_nil_of_le z161_]
  congr 1
  simp only [asc1, Bool.true_and]; exact decide_eq_decide.2 z161_
 | succ f ih =>
  intro i k hfi hk hi; obtain ⟨k, rfl⟩ : ∃ m, k = m + 1 := ⟨k - 1, z161_⟩; have hlt : i + 1 < l.length := z161_; simp only [f45.l0]; have hw : wrap64 (((i + 1 : Nat) : Int) + 1) = ((i + 1 + 1 : Nat) : Int) := z237_; have hw2 : wrap64 (((i + 1 : Nat) : Int) - 1) = ((i : Nat) : Int) := z237_; rw [if_pos z161_, if_pos z161_, if_pos z161_, rdOf_nat l (i + 1) hlt, hw2, if_pos (show ((i + 1 : Nat) : Int) > 0 from z161_), if_pos (show (0 : Int) ≤ (i : Int) from z161_), if_pos (show (i : Int) < (l.length : Int) from z161_), rdOf_nat l i z161_, List.drop_eq_getElem_cons hlt, hw]; clear hw hw2; have hii := ih (i + 1) k z161_ z161_ hlt; rw [hii]; have hst : ∀ (a b : ByteArray) (r : List ByteArray), asc1 a (b :: r) = (wordOk b && lessB a b && asc1 b r) := fun _ _ _ => rfl; rw [hst]; generalize l[i + 1] = b; generalize l[i] = a
  by_cases h1 : 1 ≤ b.size
  ·
   rw [if_neg z161_]
   by_cases h2 : b.size ≤ 32
   ·
    rw [if_neg z161_]
    cases h3 : lessB a b
    ·
     rw [if_neg (by unfold lessB at h3; rw [h3]; simp)]
     simp
    ·
     rw [if_pos (show Op.bytesLess a.toList b.toList = true from h3)]; simp [wordOk, h1, h2]
   ·
    rw [if_pos z161_]; simp [wordOk, h2]
  ·
   rw [if_pos z161_]; simp [wordOk, h1]
theorem dictMay_eq (l : List ByteArray) (hl : l.length ≤ 9223372036854775806) (k : Nat) (hk : l.length + 1 < k) : f45.f k l = some (dictMayP l) := by
 obtain ⟨k, rfl⟩ : ∃ m, k = m + 1 := ⟨k - 1, z161_⟩; unfold f45.f dictMayP
 match l, hl, hk with
 | [], _, _ => simp [f45.l0, ascP]
 | a :: r, hl, hk =>
  have hlt : 0 < (a :: r).length := z219_; simp only [f45.l0]
  have hw : wrap64 ((0 : Int) + 1) = ((0 + 1 : Nat) : Int) := by rw [wid z161_ z161_]; rfl
  have ha : rdOf ByteArray.empty (a :: r) 0 = a := rdOf_nat (a :: r) 0 hlt; rw [if_pos z161_, if_pos z161_, if_pos z161_, ha, if_neg (show ¬ (0 : Int) > 0 from z161_), hw, asc_cons]; rw [dictMay_loop (a :: r) hl r.length 0 k z219_ (by simp at hk; omega) hlt]
  by_cases h1 : 1 ≤ a.size
  ·
   rw [if_neg z161_]
   by_cases h2 : a.size ≤ 32
   ·
    rw [if_neg z161_]; simp [wordOk, h1, h2]
   ·
    rw [if_pos z161_]; simp [wordOk, h2]
  ·
   rw [if_pos z161_]; simp [wordOk, h1]
theorem segmay_eq (id : ByteArray) (key : Int) (k : Nat) (hk : 1 ≤ k) : f60.f k id key [] = some (decide (1 ≤ id.size) && decide (id.size ≤ 16) && decide (0 ≤ key) && decide (key ≤ 1073741824)) := by
 obtain ⟨k, rfl⟩ : ∃ m, k = m + 1 := ⟨k - 1, z161_⟩; unfold f60.f f87.f
 by_cases h1 : (id.size : Int) > 0
 ·
  rw [if_pos h1]; simp only [Option.bind_some]
  by_cases h2 : id.size ≤ 16
  ·
   rw [if_pos z223_]
   by_cases h3 : key ≥ 0
   ·
    rw [if_pos h3]
    by_cases h4 : key ≤ 1073741824
    ·
     rw [if_pos h4, if_pos z219_]; simp [f43.f, f31.f, f31.l0, h2, h3, h4]; omega
    · rw [if_neg h4]; simp [h4]
   · rw [if_neg h3]; simp [h3]
  · rw [if_neg z223_]; simp [h2]
 ·
  rw [if_neg h1]
  simp
  omega
/-- Which card comes first: by key, then by id. -/
def cmpL (a b : ByteArray) : Int := Lib.compareBytes a.data.toList b.data.toList
def beforeP (a : ByteArray) (ka : Int) (b : ByteArray) (kb : Int) : Bool := decide (ka < kb) || (decide (ka = kb) && decide (cmpL a b < 0))
theorem before_eq (a : ByteArray) (ka : Int) (la : List ByteArray) (b : ByteArray) (kb : Int) (lb : List ByteArray) (k : Nat) (hk : 4 ≤ k) : f90.f k a ka la b kb lb = some (beforeP a ka b kb) := by
 obtain ⟨k, rfl⟩ : ∃ m, k = m + 3 := ⟨k - 3, z161_⟩
 have hcmp : f75.f ka kb = some (if ka < kb then -1 else if ka > kb then 1 else 0) := by
  unfold f75.f f40.f
  simp
  split
  · rfl
  · split <;> rfl
 have hor : ∀ x y : Int, f63.f (k + 3) [x, y] = some (if x = 0 then y else x) := by
  intro x y; unfold f63.f; simp only [f63.l0, List.length_cons, List.length_nil]
  have w1 : wrap64 ((0 : Int) + 1) = 1 := by rw [wid z161_ z161_]; rfl
  have w2 : wrap64 ((1 : Int) + 1) = 2 := by rw [wid z161_ z161_]; rfl
  rw [w1, w2]; have r0 : rd [x, y] 0 = x := rfl; have r1 : rd [x, y] 1 = y := rfl; rw [r0, r1]
  by_cases hx : x = 0
  ·
   simp [hx]; intro h; exact h.symm
  · simp [hx]
 unfold f90.f f72.f; rw [hcmp]; simp only [Option.bind_some, f73.f, hor]; unfold beforeP
 by_cases h1 : ka < kb
 · simp [h1]
 ·
  by_cases h2 : ka > kb
  ·
   have h3 : ka ≠ kb := z161_; simp [h1, h2, h3]
  ·
   have h3 : ka = kb := z161_; subst h3; simp [cmpL]; exact decide_eq_decide.2 Iff.rfl
def plAts (lens : List Int) (d : Int) : List Int → List (Int × Int) → Option (List (Int × Int))
 | [], s => some s
 | a :: r, s => if d < (lens.length : Int) ∧ a < rd lens d ∧ (d, a) ∉ s then plAts lens d r ((d, a) :: s) else none
def plPosts (lens : List Int) : List S99 → List (Int × Int) → Option (List (Int × Int))
 | [], s => some s
 | p :: r, s => (plAts lens p.f0 p.f1 s).bind (plPosts lens r)
def plTerms (lens : List Int) : List S71 → List (Int × Int) → Option (List (Int × Int))
 | [], s => some s
 | t :: r, s => if t.f1.length = 0 ∨ postMayP t.f1 = false then none else (plPosts lens t.f1 s).bind (plTerms lens r)
def sumP : List Int → Int
 | [] => 0
 | a :: r => a + sumP r
def plEnd (terms : List S71) (lens : List Int) : Option (List (Int × Int)) → Bool
 | none => false
 | some s => dictMayP (terms.map (·.f0)) && decide (sumP lens = (s.length : Int))
def placedP (terms : List S71) (lens : List Int) : Bool := plEnd terms lens (plTerms lens terms [])
theorem wstep {i : Nat} (h : i ≤ 1000000000000) : wrap64 ((i : Int) + 1) = ((i + 1 : Nat) : Int) := by rw [wid z161_ z161_]; omega
theorem plAts_good {lens : List Int} {d a : Int} {r : List Int} {s : List (Int × Int)} (h : d < (lens.length : Int) ∧ a < rd lens d ∧ (d, a) ∉ s) : plAts lens d (a :: r) s = plAts lens d r ((d, a) :: s) := if_pos h
theorem plAts_bad {lens : List Int} {d a : Int} {r : List Int} {s : List (Int × Int)} (h : ¬ (d < (lens.length : Int) ∧ a < rd lens d ∧ (d, a) ∉ s)) : plAts lens d (a :: r) s = none := if_neg h
theorem pl_none {terms : List S71} {lens : List Int} (h : plTerms lens terms [] = none) : placedP terms lens = false := by
 unfold placedP; rw [h]
 rfl
theorem rising_ge {last en : Int} {l : List Int} (h : risingP last en l = true) : ∀ a ∈ l, last < a ∧ a < en := by
 induction l generalizing last with
 | nil => intro a ha; cases ha
 | cons x r ih =>
  unfold risingP at h; simp only [Bool.and_eq_true, decide_eq_true_eq] at h; intro a ha
  rcases List.mem_cons.1 ha with rfl | ha
  · exact h.1
  · have := ih h.2 a ha; omega
theorem postMay_post {l : List S99} (h : postMayP l = true) : l.length ≤ 64 ∧ ∀ p ∈ l, (0 ≤ p.f0 ∧ p.f0 < 64) ∧ p.f1.length ≤ 120 ∧ ∀ a ∈ p.f1, 0 ≤ a ∧ a < 120 := by
 unfold postMayP at h; simp only [Bool.and_eq_true, decide_eq_true_eq, List.all_eq_true] at h; obtain ⟨⟨h1, h2⟩, h3⟩ := h; refine ⟨h2, fun p hp => ?_⟩; have hd := rising_ge h3 p.f0 (List.mem_map_of_mem hp); have hok := h1 p hp; unfold postOk at hok; simp only [Bool.and_eq_true, decide_eq_true_eq] at hok; refine ⟨z161_, hok.1.2, fun a ha => ?_⟩; have := rising_ge hok.2 a ha; omega
theorem sum_range (l : List Int) (N : Nat) (hl : l.length ≤ N) (h : ∀ n ∈ l, 0 ≤ n ∧ n ≤ 120) : 0 ≤ sumP l ∧ sumP l ≤ 120 * N := by
 induction l generalizing N with
 | nil => simp [sumP]; omega
 | cons a r ih =>
  obtain ⟨M, rfl⟩ : ∃ M, N = M + 1 := ⟨N - 1, by simp at hl; omega⟩; have h1 := h a z219_; have h2 := ih M (by simpa using hl) (fun n hn => h n (by simp [hn])); simp only [sumP]; omega
theorem rd44_nat (l : List S71) (i : Nat) (h : i < l.length) : rd_T71 l (i : Int) = l[i] := by
 unfold rd_T71; rw [Int.toNat_natCast, List.getD_eq_getElem?_getD, List.getElem?_eq_getElem h]
 rfl
theorem rd44_mem (l : List S71) (i : Nat) (h : i < l.length) : rd_T71 l (i : Int) ∈ l := by rw [rd44_nat l i h]; exact List.getElem_mem h
theorem drop44 (l : List S71) (i : Nat) (h : i < l.length) : l.drop i = rd_T71 l (i : Int) :: l.drop (i + 1) := by rw [rd44_nat l i h]; exact List.drop_eq_getElem_cons h
theorem take44 (l : List S71) (i : Nat) (h : i < l.length) : (l.take i).map (·.f0) ++ [(rd_T71 l (i : Int)).f0] = (l.take (i + 1)).map (·.f0) := by
 rw [rd44_nat l i h, List.take_succ_eq_append_getElem h, List.map_append]; rfl
theorem rd64_mem (l : List S99) (i : Nat) (h : i < l.length) : rd_T99 l (i : Int) ∈ l := by rw [rd64_nat l i h]; exact List.getElem_mem h
theorem drop64 (l : List S99) (i : Nat) (h : i < l.length) : l.drop i = rd_T99 l (i : Int) :: l.drop (i + 1) := by rw [rd64_nat l i h]; exact List.drop_eq_getElem_cons h
theorem dropI (l : List Int) (i : Nat) (h : i < l.length) : l.drop i = rd l (i : Int) :: l.drop (i + 1) := by rw [rd_nat l i h]; exact List.drop_eq_getElem_cons h
theorem rd_mem (l : List Int) (i : Nat) (h : i < l.length) : rd l (i : Int) ∈ l := by rw [rd_nat l i h]; exact List.getElem_mem h
theorem sum_app (a b : List Int) : sumP (a ++ b) = sumP a + sumP b := by
 induction a with
 | nil => simp [sumP]
 | cons x a ih => simp only [List.cons_append, sumP, ih]; omega
theorem sum_step (lens : List Int) (m : Nat) (hl : lens.length ≤ 64) (hb : ∀ n ∈ lens, 0 ≤ n ∧ n ≤ 120) (h : m < lens.length) : wrap64 (sumP (lens.take m) + rd lens (m : Int)) = sumP (lens.take (m + 1)) := by
 have e : lens.take (m + 1) = lens.take m ++ [rd lens (m : Int)] := by rw [rd_nat lens m h, List.take_succ_eq_append_getElem h]
 have h1 := sum_range (lens.take (m + 1)) 64 z216_ (fun n hn => hb n (List.mem_of_mem_take hn)); rw [e, sum_app] at h1 ⊢; simp only [sumP, Int.add_zero] at h1 ⊢; exact wid z161_ z161_
theorem pl_end {terms : List S71} {lens : List Int} {s : List (Int × Int)} (h : plTerms lens terms [] = some s) : placedP terms lens = (dictMayP (terms.map (·.f0)) && decide (sumP lens = (s.length : Int))) := by
 unfold placedP; rw [h]
 rfl
instance decBA : DecidableEq ByteArray := fun a b => if h : a.data = b.data then isTrue (by cases a; cases b; cases h; rfl) else isFalse (fun e => h (by rw [e]))
instance decMem (x : ByteArray) (l : List ByteArray) : Decidable (x ∈ l) := @List.instDecidableMemOfLawfulBEq _ (@instBEqOfDecidableEq _ decBA) _ x l
def cardOk (id : ByteArray) (key : Int) : Bool := decide (1 ≤ id.size) && decide (id.size ≤ 16) && decide (0 ≤ key) && decide (key ≤ 1073741824)
def mayStep (keys lens : List Int) (so : Bool) (id : ByteArray) (i : Nat) (seen : List ByteArray) (pid : ByteArray) (pk : Int) : Prop :=
 cardOk id (rd keys i) = true ∧ id ∉ seen ∧ 0 ≤ rd lens i ∧ rd lens i ≤ 120 ∧ (so && (decide (0 < i) && !beforeP pid pk id (rd keys i))) = false
instance (keys lens : List Int) (so : Bool) (id : ByteArray) (i : Nat) (seen : List ByteArray) (pid : ByteArray) (pk : Int) : Decidable (mayStep keys lens so id i seen pid pk) := by unfold mayStep; infer_instance
def mayGo (keys lens : List Int) (so : Bool) : List ByteArray → Nat → List ByteArray → ByteArray → Int → Bool
 | [], _, _, _, _ => true
 | id :: r, i, seen, pid, pk => if mayStep keys lens so id i seen pid pk then mayGo keys lens so r (i + 1) (id :: seen) id (rd keys i) else false
def segMayP (ids : List ByteArray) (keys lens : List Int) (terms : List S71) (so : Bool) : Bool :=
 decide (ids.length ≤ 64) && (decide (keys.length = ids.length) && (decide (lens.length = ids.length) && (mayGo keys lens so ids 0 [] ⟨#[]⟩ 0 && placedP terms lens)))
theorem dropS (l : List ByteArray) (i : Nat) (h : i < l.length) : l.drop i = rdOf ByteArray.empty l (i : Int) :: l.drop (i + 1) := by rw [rdOf_nat l i h]; exact List.drop_eq_getElem_cons h
theorem rdOf_mem (l : List ByteArray) (i : Nat) (h : i < l.length) : rdOf ByteArray.empty l (i : Int) ∈ l := by rw [rdOf_nat l i h]; exact List.getElem_mem h
theorem mayGo_lens {keys lens : List Int} {so : Bool} (r : List ByteArray) : ∀ (i : Nat) (seen : List ByteArray) (pid : ByteArray) (pk : Int), mayGo keys lens so r i seen pid pk = true → ∀ j, i ≤ j → j < i + r.length → 0 ≤ rd lens (j : Int) ∧ rd lens (j : Int) ≤ 120 := by
 induction r with
 | nil => intro i _ _ _ _ j h1 h2; simp at h2; omega
 | cons id r ih =>
  intro i seen pid pk h j h1 h2; unfold mayGo at h
  split at h
  ·
   rename_i hs
   by_cases hj : j = i
   · subst hj; exact ⟨hs.2.2.1, hs.2.2.2.1⟩
   · exact ih (i + 1) _ _ _ h j z161_ (by simp at h2; omega)
  · cases h
theorem mayGo_all {ids : List ByteArray} {keys lens : List Int} {so : Bool} (h : mayGo keys lens so ids 0 [] ⟨#[]⟩ 0 = true) (hl : lens.length = ids.length) : ∀ n ∈ lens, 0 ≤ n ∧ n ≤ 120 := by
 intro n hn; obtain ⟨j, hj, e⟩ := List.getElem_of_mem hn; have := mayGo_lens ids 0 [] ⟨#[]⟩ 0 h j z161_ z161_; rw [rd_nat lens j hj, e] at this; exact this
theorem may_bad1 {ids : List ByteArray} {keys lens : List Int} {terms : List S71} {so : Bool} (h : ¬ ids.length ≤ 64) : segMayP ids keys lens terms so = false := by unfold segMayP; rw [decide_eq_false h]; rfl
theorem may_bad2 {ids : List ByteArray} {keys lens : List Int} {terms : List S71} {so : Bool} (h : ¬ keys.length = ids.length) : segMayP ids keys lens terms so = false := by unfold segMayP; rw [decide_eq_false h]; cases decide (ids.length ≤ 64) <;> rfl
theorem may_bad3 {ids : List ByteArray} {keys lens : List Int} {terms : List S71} {so : Bool} (h : ¬ lens.length = ids.length) : segMayP ids keys lens terms so = false := by unfold segMayP; rw [decide_eq_false h]; cases decide (ids.length ≤ 64) <;> cases decide (keys.length = ids.length) <;> rfl
theorem may_bad4 {ids : List ByteArray} {keys lens : List Int} {terms : List S71} {so : Bool} (h : mayGo keys lens so ids 0 [] ⟨#[]⟩ 0 = false) : segMayP ids keys lens terms so = false := by unfold segMayP; rw [h]; cases decide (ids.length ≤ 64) <;> cases decide (keys.length = ids.length) <;> cases decide (lens.length = ids.length) <;> rfl
theorem may_good {ids : List ByteArray} {keys lens : List Int} {terms : List S71} {so : Bool} (h1 : ids.length ≤ 64) (h2 : keys.length = ids.length) (h3 : lens.length = ids.length) (h : mayGo keys lens so ids 0 [] ⟨#[]⟩ 0 = true) : segMayP ids keys lens terms so = placedP terms lens := by
 unfold segMayP; rw [decide_eq_true h1, decide_eq_true h2, decide_eq_true h3, h]
 rfl
theorem mayGo_good {keys lens : List Int} {so : Bool} {id : ByteArray} {r : List ByteArray} {i : Nat} {seen : List ByteArray} {pid : ByteArray} {pk : Int} (h : mayStep keys lens so id i seen pid pk) : mayGo keys lens so (id :: r) i seen pid pk = mayGo keys lens so r (i + 1) (id :: seen) id (rd keys i) := if_pos h
theorem mayGo_bad {keys lens : List Int} {so : Bool} {id : ByteArray} {r : List ByteArray} {i : Nat} {seen : List ByteArray} {pid : ByteArray} {pk : Int} (h : ¬ mayStep keys lens so id i seen pid pk) : mayGo keys lens so (id :: r) i seen pid pk = false := if_neg h
end Go.Proofs.YtbbmdakdghefnaaGreatDoor.Plain
