import Derived.Test.YtbbmdakdghefnaaGreatDoorQPO
import Derived.Test.YtbbmdakdghefnaaGreatDoorQPC
/- Texts of this claim, laid together by a program (merge.py): Tx8. -/
set_option maxHeartbeats 8000000
set_option maxRecDepth 100000
namespace Go.Proofs.YtbbmdakdghefnaaGreatDoor.T
open Go.RowKit Go.Proofs.YtbbmdakdghefnaaGreatDoorW.PrintWords Go.Proofs.YtbbmdakdghefnaaGreatDoorW.PrintLast Go.Proofs.YtbbmdakdghefnaaGreatDoorW.PrintMore
attribute [local go_sem] max2_int min2_int max_two min_two max_three min_three max_four min_four
set_option linter.unusedVariables false
set_option linter.unusedSimpArgs false
def f41.l0 : Nat → List Bool → List (S99) → List (S99) → Int → Int → Option ((List (S99)))
 | 0, _, _, _, _, _ => none
 | k + 1, x1, x5, x11, x12, x13 => if x13 < x12 then (if 0 ≤ x13 then (if x13 < (x11.length : Int) then (if ((rd_T99 x11 x13).f0) < (x1.length : Int) then (if 0 ≤ ((rd_T99 x11 x13).f0) then (if rdOf false x1 ((rd_T99 x11 x13).f0) = true then ((f67.f ((rd_T99 x11 x13).f1)).bind fun t10 => (if x5.length < 4398046511104 then (f41.l0 k x1 (x5 ++ [(⟨(rd_T99 x11 x13).f0, t10⟩ : S99)]) x11 x12 (wrap64 (x13 + 1))) else (none))) else (f41.l0 k x1 x5 x11 x12 (wrap64 (x13 + 1)))) else (none)) else (f41.l0 k x1 x5 x11 x12 (wrap64 (x13 + 1)))) else (none)) else (none)) else (some x5)
def f41.f (k : Nat) (l0 : List (S99)) (l1 : List Bool) : Option ((List (S99))) := (f51.f k l0).bind fun t10 => (if t10 = true then (f41.l0 k l1 ([] : List (S99)) l0 (l0.length : Int) 0) else (some ([] : List (S99))))
def f41.T8 : Bool × List (List Nat × List Nat) := (true, [([], []), ([], []), ([1], [1]), ([], []), ([3], [3]), ([4], [4]), ([2, 5], [2, 5]), ([6], [6]), ([0, 7, 5], [0, 7]), ([8, 8, 0, 1, 2, 3, 4, 5, 6, 7, 8], [0, 8])])
def f41.B8 : List Nat := [0, 0, 2, 0, 8, 24, 62, 126, 255, 511]
theorem f41.tab8 : rtab .any (opsOf Tryz.f79 8) = f41.T8 := by kernel_rfl
theorem f41.bits8 : waitsOk f41.T8.2 f41.B8 = true := by kernel_rfl
theorem f41.calls (k : Nat) (A0 : Option Addr) (c0 : Nat) (l0 : List (S99)) (A1 : Option Addr) (c1 : Nat) (l1 : List Bool) (r : List (S99)) (w : World) (hr0 : Kd.C k99 w A0 l0.length l0) (hc0 : l0.length ≤ c0) (hr1 : Kd.C Kd.bool w A1 l1.length l1) (hc1 : l1.length ≤ c1) (h : f41.f k l0 l1 = some r) :
  Calls Tryz.prog 79 #[.slice A0 l0.length c0, .slice A1 l1.length c1] w fun e w' => ∃ v0_ : Value, e = .returned (v0_) ∧ Kd.S k99 99 w' w.heap.size (fun _ => True) v0_ r ∧ Below w.heap.size w w' := by
 have hu99 := Tryz.underlying99; have HR0 := A_ hr0; have HC0 := A_ hc0; clear hr0 hc0; have HR1 := A_ hr1; have HC1 := A_ hc1; clear hr1 hc1; have HB := A_ (Below.refl w.heap.size w); unfold f41.f at h; have H := h; clear h; replace H := bm_ H; obtain ⟨t27, A30, H⟩ := H; have A3 := A_ A30; clear A30
 by_cases c4 : t27 = true
 ·
  subst c4; have H1 := tt_ H; clear H; have H := H1; clear H1; have H' := A_ H; clear H; go_enter Tryz.func79, Tryz.ntmps79
  go_wp2_with (first | ((with_reducible refine gate_callee (f := 75) rfl ?_); refine gl_ (some 9) Tryz.func75 #[.slice A0 l0.length c0] ?_; (with_reducible refine (f51.calls k _ _ l0 true _ ?side1 HC0.out A3.out).mono ?_); (case side1 => exact z208_); rintro e w5 ⟨rfl, hb⟩; refine ⟨_, rfl, ?_⟩; replace HB := A_ (below_step z186_ hb); (try clear hb)))
  go_loopg [5, 13] k (fun kq v5 v13 w' => ∃ (x5_1 : List (S99)) (x13_1 : Int), v13 = .int .i64 x13_1 ∧ Aside0 (f41.l0 kq l1 x5_1 l0 (l0.length : Int) x13_1 = some r) ∧ Aside0 (kq ≤ k) ∧ Aside0 (Kd.S k99 99 w' w.heap.size (fun _ => True) v5 x5_1) ∧ Aside0 (Below w.heap.size w w'))
  case atStart => exact ⟨(([] : List (S99))), (0), z139_, H', ⟨Nat.le_refl _⟩, ⟨z135_⟩, ⟨z186_⟩⟩
  case round =>
   clear H'; (try clear c1); (try clear c4); obtain ⟨x5_1, x13_1, rfl, HA, HK1, HO_5, HB⟩ := hrel
   cases gk with
   | zero => exact absurd HA.out (by simp [f41.l0])
   | succ k1 =>
   have H := HA.out; clear HA; simp only [f41.l0] at H; revert H; refine i1_ (fun c6b0 H => ?_) fun c6b0 H => ?_; rotate_left
   ·
    obtain rfl := sj_ H; go_wp2; go_ret; exact ⟨_, z138_, z75_, z186_⟩
   revert H; refine i3_ fun c7b0 H => ?_; revert H; refine i3_ fun c8b0 H => ?_; revert H; refine i1_ (fun c9b0 H => ?_) fun c9b0 H => ?_; rotate_left
   ·
    have H' := A_ H; clear H; obtain ⟨p32, q32, ad32, A32_1, c32_1, e32, hx32_0, hx32_1, hl32_1, hi32_1⟩ := pq_ (at_T99 HR0.out x13_1); cases e32; replace hx32_0 := hc_ HB.out hx32_0; replace hx32_1 := hc_ HB.out hx32_1; have HR32_1 := A_ hi32_1; have HC32_1 := A_ hl32_1; clear hi32_1 hl32_1
    go_wp2_with (first | ((with_reducible refine gate_dst (N := 7) rfl ?_); refine box_event ?hg (N := 7) ?hd (cs := #[.int .i64 0, .slice none 0 0]) (t := 99) ?hr ?_; (case hd => rfl); (case hg => rfl); (case hr => exact z107_); intro gb33 hg w24 hbox hb; have n_ := a5_ (Kd.S_below (Kd.S_elderB z75_ gb33 (Nat.le_of_eq hg.symm)) hb) (below_step z186_ hb) (hbox) ((z234_ : w.heap.size ≤ gb33)) ((z234_ : w.heap.size ≤ gb33)); clear HO_5 HB; obtain ⟨HO_5, HB, BK33, GW33, GE33⟩ := n_; clear hb hbox hg; obtain ⟨hcz25_0, hcz25_1, hfz25_0, hfz25_1⟩ := b2_ BK33.out))
    go_roundg k1
    case measure => have := HK1.out; omega
    case rel => exact ⟨(x5_1), (wrap64 (x13_1 + 1)), z139_, H', ⟨z148_⟩, ⟨z77_⟩, ⟨z176_⟩⟩
   revert H; refine i3_ fun c10b0 H => ?_; obtain ⟨bq11, hbq11⟩ : ∃ b_ : Bool, b_ = (rdOf false l1 ((rd_T99 l0 x13_1).f0)) := ⟨_, rfl⟩
   replace H : (if bq11 = true then ((f67.f ((rd_T99 l0 x13_1).f1)).bind fun t28 => (if x5_1.length < 4398046511104 then (f41.l0 k1 l1 (x5_1 ++ [(⟨(rd_T99 l0 x13_1).f0, t28⟩ : S99)]) l0 (l0.length : Int) (wrap64 (x13_1 + 1))) else (none))) else (f41.l0 k1 l1 x5_1 l0 (l0.length : Int) (wrap64 (x13_1 + 1)))) = some r := by rw [← hbq11] at H; exact H
   have Nbq11 := A_ hbq11; clear hbq11
   by_cases c12 : bq11 = true
   ·
    subst c12; have H1 := tt_ H; clear H; have H := H1; clear H1; replace H := bm_ H; obtain ⟨t28, A29, H⟩ := H; have A13 := A_ A29; clear A29; revert H; refine i4_ fun c14 H => ?_; have LMc14 := A_ c14; clear c14; obtain ⟨y31, hy31⟩ : ∃ y_ : List (S99), y_ = (x5_1 ++ [(⟨(rd_T99 l0 x13_1).f0, t28⟩ : S99)]) := ⟨_, rfl⟩; replace H : (f41.l0 k1 l1 y31 l0 (l0.length : Int) (wrap64 (x13_1 + 1))) = some r := z124_; have Ny31 := A_ hy31; clear hy31; have H' := A_ H; clear H; obtain ⟨p32, q32, ad32, A32_1, c32_1, e32, hx32_0, hx32_1, hl32_1, hi32_1⟩ := pq_ (at_T99 HR0.out x13_1); cases e32; replace hx32_0 := hc_ HB.out hx32_0; replace hx32_1 := hc_ HB.out hx32_1; have HR32_1 := A_ hi32_1; have HC32_1 := A_ hl32_1; clear hi32_1 hl32_1
    try go_wp2_with (first | ((with_reducible refine gate_dst (N := 7) rfl ?_); refine box_event ?hg (N := 7) ?hd (cs := #[.int .i64 0, .slice none 0 0]) (t := 99) ?hr ?_; (case hd => rfl); (case hg => rfl); (case hr => exact z107_); intro gb33 hg w15 hbox hb; have n_ := a5_ (Kd.S_below (Kd.S_elderB z75_ gb33 (Nat.le_of_eq hg.symm)) hb) (below_step z186_ hb) (hbox) ((z234_ : w.heap.size ≤ gb33)) ((z234_ : w.heap.size ≤ gb33)); clear HO_5 HB; obtain ⟨HO_5, HB, BK33, GW33, GE33⟩ := n_; clear hb hbox hg; obtain ⟨hcz16_0, hcz16_1, hfz16_0, hfz16_1⟩ := b2_ BK33.out; obtain ⟨p34, q34, ad34, e34, hx34_0⟩ := pq_ (Kd.at_bool HR1.out ((rd_T99 l0 x13_1).f0)); (try rw [← Nbq11.out] at hx34_0); cases e34; have hn324_0 : ad34.block ≠ gb33 := Nat.ne_of_lt (Nat.lt_of_lt_of_le z156_ GW33.out); have hn324_1 : ad34.block ≠ gb33 := Nat.ne_of_lt (Nat.lt_of_lt_of_le z156_ GW33.out); replace hx34_0 := hc_ HB.out hx34_0; replace hx34_0 := (cell_far (p := ⟨gb33, 0, none⟩) z108_ (.int .i64 ((rd_T99 l0 x13_1).f0))).trans hx34_0; replace hx34_0 := (cell_far (p := ⟨gb33, 1, none⟩) z109_ (.slice A32_1 ((rd_T99 l0 x13_1).f1).length c32_1)).trans hx34_0; clear hn324_0 hn324_1))
    have n0_ := A_ (show Kd.S k99 99 ((w15.setCell ⟨gb33, 0, none⟩ (.int .i64 ((rd_T99 l0 x13_1).f0))).setCell ⟨gb33, 1, none⟩ (.slice A32_1 ((rd_T99 l0 x13_1).f1).length c32_1)) w.heap.size (fun k_ => k_ ≠ gb33) u5 x5_1 from by (with_reducible repeat (first | apply Kd.S_alloc | apply Kd.S_drewN | apply Kd.S_drew)); exact Kd.S_mono (Kd.S_far (p := ⟨gb33, 1, none⟩) (Kd.S_far (p := ⟨gb33, 0, none⟩) (Kd.S_mono HO_5.out (fun k_ hk => (⟨hk, hk.2⟩ : _ ∧ k_ ≠ gb33))) (fun _ hk => hk.2) (.int .i64 ((rd_T99 l0 x13_1).f0))) (fun _ hk => hk.2) (.slice A32_1 ((rd_T99 l0 x13_1).f1).length c32_1)) (fun _ hk => hk.1.2)); have n1_ := A_ (show ((w15.setCell ⟨gb33, 0, none⟩ (.int .i64 ((rd_T99 l0 x13_1).f0))).setCell ⟨gb33, 1, none⟩ (.slice A32_1 ((rd_T99 l0 x13_1).f1).length c32_1)).heap[gb33]? = some (.cells #[.int .i64 ((rd_T99 l0 x13_1).f0), .slice A32_1 ((rd_T99 l0 x13_1).f1).length c32_1] 99 (0, 0)) from by (with_reducible repeat (first | refine blk_drewN ?_ _ | refine blk_drew ?_ | refine blk_alloc ?_ _)); refine blk_put (cs := #[.int .i64 ((rd_T99 l0 x13_1).f0), .slice none 0 0]) ?_ 1 _ rfl; (with_reducible repeat (first | refine blk_drewN ?_ _ | refine blk_drew ?_ | refine blk_alloc ?_ _)); refine blk_put (cs := #[.int .i64 0, .slice none 0 0]) ?_ 0 _ rfl; (with_reducible repeat (first | refine blk_drewN ?_ _ | refine blk_drew ?_ | refine blk_alloc ?_ _)); exact BK33.out); have n2_ := A_ (show Below w.heap.size w ((w15.setCell ⟨gb33, 0, none⟩ (.int .i64 ((rd_T99 l0 x13_1).f0))).setCell ⟨gb33, 1, none⟩ (.slice A32_1 ((rd_T99 l0 x13_1).f1).length c32_1)) from z176_); (try clear HO_5); (try clear BK33); (try clear HB); generalize ((w15.setCell ⟨gb33, 0, none⟩ (.int .i64 ((rd_T99 l0 x13_1).f0))).setCell ⟨gb33, 1, none⟩ (.slice A32_1 ((rd_T99 l0 x13_1).f1).length c32_1)) = w17 at n0_ n1_ n2_ ⊢; have HO_5 := n0_; have BK33 := n1_; have HB := n2_; clear n0_ n1_ n2_; have n_ := a3_ (Kd.S_drew HO_5.out) (blk_drew BK33.out) (below_drew1 HB.out); clear HO_5 BK33 HB; obtain ⟨HO_5, BK33, HB⟩ := n_; refine start_ (n := 10) (S := fun w' => w'.cell? ⟨gb33, 0, none⟩ = some (.int .i64 ((rd_T99 l0 x13_1).f0)) ∧ w'.cell? ⟨gb33, 1, none⟩ = some (.slice A32_1 ((rd_T99 l0 x13_1).f1).length c32_1)) (ds := []) #[false, false, false, false, false, false, false, false, false, false] z159_ rfl rfl (k2_ BK33.out) (fun hHeld => ?_); refine with_tabW f41.tab8 f41.bits8 (fun HT_ HW_ => ?_); generalize w17.drew = w18 at HO_5 BK33 HB hHeld ⊢; refine rgQ 0 29 ?_; refine rgQ 1 30 ?_; refine rgQ 3 32 ?_; refine rgS2 2 31 hHeld ?_; refine rgS2 4 33 hHeld ?_; refine one_ (i := 5) (N := some 34) #[true, true, true, true, true, true, false, false, false, false] rfl rfl (one_of HT_.out z159_) z106_ (fun K hK => ?_); refine goes_ Tryz.func50 z159_ rfl #[.slice A32_1 ((rd_T99 l0 x13_1).f1).length c32_1] z214_ rfl rfl z1_ ?_
    with_reducible refine (f67.calls _ _ ((rd_T99 l0 x13_1).f1) t28 _ ?side1 ?side2 A13.out).mono ?_
    (case side1 => repeat (first | exact (Kd.C_below HR32_1.out HB.out) | (with_reducible refine Kd.C_alloc ?_ _) | (with_reducible refine Kd.C_drewN ?_ _) | (with_reducible refine Kd.C_drew ?_))); (case side2 => exact HC32_1.out); rintro e w19 ⟨v35, rfl, ho0, hb⟩; refine ⟨_, rfl, ?_⟩; have n_ := a4_ (Kd.S_elder' z75_ (Kd.R_base ho0) hb) (Kd.R_lower ho0 (below_size z176_)) (blk_below (g := gb33) (o := .cells #[.int .i64 ((rd_T99 l0 x13_1).f0), .slice A32_1 ((rd_T99 l0 x13_1).f1).length c32_1] 99 (0, 0)) z93_ hb) (below_step z176_ hb); clear HO_5 BK33 HB; obtain ⟨HO_5, HO36, BK33, HB⟩ := n_; (try clear hb); (try clear hb2); (try clear hk); (try clear hi); (try clear ho0); obtain ⟨Ao20, co20, eo20⟩ := Kd.R_slice HO36.out; (first | subst eo20 | (injection eo20 with f1_ f2_ f3_; have f4_ := f1_.symm; have f5_ := f3_.symm; clear f1_ f2_ f3_; subst f4_; subst f5_)); refine hK.out _ _ (k2_ BK33.out) (fun hHeld => ?_); clear hK K; refine nA_ ?_; refine rgQ 6 35 ?_; refine one_ (i := 7) (N := some 36) #[true, true, true, true, true, true, true, true, false, false] rfl rfl (one_of HT_.out z159_) z106_ (fun K hK => ?_); refine value_ (w1 := ?_) (v := ?_) z214_ rfl ?_ ?_; rotate_left 2
    ·
     go_simp
     constructor
     · rfl
     · rfl
    refine hK.out _ _ ⟨(blk_cell (blk_alloc BK33.out _) 0).trans rfl, (blk_cell (blk_alloc BK33.out _) 1).trans rfl⟩ (fun hHeld => ?_); clear hK K; refine nA_ ?_; refine one_ (i := 8) (N := some 37) #[true, true, true, true, true, true, true, true, true, false] rfl rfl (one_of HT_.out z159_) z106_ (fun K hK => ?_); refine Kd.S_append_step k99 (w0 := w) w.heap.size z214_ (.tmp 29) (.tmp 36) 69 99 (.agg #[(.int .i64 0), (.slice none 0 0)]) 32 rfl Tryz.underlying69 info99 rfl z106_ z161_ u5 x5_1 (⟨(rd_T99 l0 x13_1).f0, t28⟩ : S99) [.int .i64 ((rd_T99 l0 x13_1).f0), .slice Ao20 t28.length co20] (fun k_ => k_ ≠ gb33) (fun k_ => some k_ = (.slice Ao20 t28.length co20 : Value).ownBlock) rfl rfl ?aP (fun k_ hk_ => ((Kd.R_mono (ok' := fun k_ => ((fun k_ => k_ ≠ gb33)) k_ ∧ some k_ ≠ (u5 : Value).ownBlock) (Kd.R_types (Kd.R_apart' (HO36.out) (Kd.S_typed HO_5.out) z106_) BK33.out z106_) (fun k_ hk => ⟨hk.2, hk.1.2⟩))).1 k_ hk_.symm) ?aF ?aO ?aB ?aS ?aL ?_; (case aP => exact k99_mkM _ _ _ (⟨(rd_T99 l0 x13_1).f0, t28⟩ : S99) (Kd.R_mono (Kd.R_tight rfl (Kd.R_mono (ok' := fun k_ => ((fun k_ => k_ ≠ gb33)) k_ ∧ some k_ ≠ (u5 : Value).ownBlock) (Kd.R_types (Kd.R_apart' (HO36.out) (Kd.S_typed HO_5.out) z106_) BK33.out z106_) (fun k_ hk => ⟨hk.2, hk.1.2⟩))) (fun _ h_ => h_))); (case aB => exact z176_); (case aF => exact (fun k_ hk => Kd.freshB (g := gb33) (o := .cells #[.int .i64 ((rd_T99 l0 x13_1).f0), .slice A32_1 ((rd_T99 l0 x13_1).f1).length c32_1] 99 (0, 0)) z93_ k_ hk)); (case aO => exact z78_); (case aS => exact (below_size z176_)); (case aL => have := LMc14.out; omega); intro v37 w21 ho hb hg hat; rw [← Ny31.out] at ho; have n_ := a3_ (blk_grown (g := gb33) (o := .cells #[.int .i64 ((rd_T99 l0 x13_1).f0), .slice A32_1 ((rd_T99 l0 x13_1).f1).length c32_1] 99 (0, 0)) z93_ hg (Kd.S_away HO_5.out (fun _ hk => hk.1))) (hb) (ho); clear BK33 HB HO_5 HO36; obtain ⟨BK33, HB, HO38⟩ := n_; clear ho hb hg hat; refine hK.out _ _ (k2_ BK33.out) (fun hHeld => ?_); clear hK K; refine nA_ ?_; refine rgQ 9 5 ?_; refine done_ (done_of HT_.out z159_) ?_
    try go_wp2
    go_roundg k1
    case measure => have := HK1.out; omega
    case rel => exact ⟨(y31), (wrap64 (x13_1 + 1)), z139_, H', ⟨z148_⟩, ⟨by (with_reducible repeat (first | apply Kd.S_alloc | apply Kd.S_drewN | apply Kd.S_drew)); exact Kd.S_mono HO38.out (fun _ hk => trivial)⟩, ⟨z176_⟩⟩
   ·
    replace c12 := Bool.eq_false_iff.mpr c12; subst c12; have H1 := ff_ H; clear H; have H := H1; clear H1; have H' := A_ H; clear H; obtain ⟨p32, q32, ad32, A32_1, c32_1, e32, hx32_0, hx32_1, hl32_1, hi32_1⟩ := pq_ (at_T99 HR0.out x13_1); cases e32; replace hx32_0 := hc_ HB.out hx32_0; replace hx32_1 := hc_ HB.out hx32_1; have HR32_1 := A_ hi32_1; have HC32_1 := A_ hl32_1; clear hi32_1 hl32_1
    go_wp2_with (first | ((with_reducible refine gate_dst (N := 7) rfl ?_); refine box_event ?hg (N := 7) ?hd (cs := #[.int .i64 0, .slice none 0 0]) (t := 99) ?hr ?_; (case hd => rfl); (case hg => rfl); (case hr => exact z107_); intro gb33 hg w22 hbox hb; have n_ := a5_ (Kd.S_below (Kd.S_elderB z75_ gb33 (Nat.le_of_eq hg.symm)) hb) (below_step z186_ hb) (hbox) ((z234_ : w.heap.size ≤ gb33)) ((z234_ : w.heap.size ≤ gb33)); clear HO_5 HB; obtain ⟨HO_5, HB, BK33, GW33, GE33⟩ := n_; clear hb hbox hg; obtain ⟨hcz23_0, hcz23_1, hfz23_0, hfz23_1⟩ := b2_ BK33.out; obtain ⟨p34, q34, ad34, e34, hx34_0⟩ := pq_ (Kd.at_bool HR1.out ((rd_T99 l0 x13_1).f0)); (try rw [← Nbq11.out] at hx34_0); cases e34; have hn324_0 : ad34.block ≠ gb33 := Nat.ne_of_lt (Nat.lt_of_lt_of_le z156_ GW33.out); have hn324_1 : ad34.block ≠ gb33 := Nat.ne_of_lt (Nat.lt_of_lt_of_le z156_ GW33.out); replace hx34_0 := hc_ HB.out hx34_0; replace hx34_0 := (cell_far (p := ⟨gb33, 0, none⟩) z108_ (.int .i64 ((rd_T99 l0 x13_1).f0))).trans hx34_0; replace hx34_0 := (cell_far (p := ⟨gb33, 1, none⟩) z109_ (.slice A32_1 ((rd_T99 l0 x13_1).f1).length c32_1)).trans hx34_0; clear hn324_0 hn324_1))
    go_roundg k1
    case measure => have := HK1.out; omega
    case rel => exact ⟨(x5_1), (wrap64 (x13_1 + 1)), z139_, H', ⟨z148_⟩, ⟨z77_⟩, ⟨z176_⟩⟩
 ·
  replace c4 := Bool.eq_false_iff.mpr c4; subst c4; have H1 := ff_ H; clear H; have H := H1; clear H1; obtain rfl := sj_ H; go_enter Tryz.func79, Tryz.ntmps79
  go_wp2_with (first | ((with_reducible refine gate_callee (f := 75) rfl ?_); refine gl_ (some 9) Tryz.func75 #[.slice A0 l0.length c0] ?_; (with_reducible refine (f51.calls k _ _ l0 false _ ?side1 HC0.out A3.out).mono ?_); (case side1 => exact z208_); rintro e w26 ⟨rfl, hb⟩; refine ⟨_, rfl, ?_⟩; replace HB := A_ (below_step z186_ hb); (try clear hb); (try clear hb2); (try clear hk); (try clear hi)))
  go_ret; exact ⟨_, z138_, z135_, z186_⟩
def f77.f (a0_0 : Int) (l0_1 : List Int) (a1 : Int) : Option (Int) := some (wrap64 (a0_0 - a1))
theorem f77.calls (a0_0 : Int) (A0_1 : Option Addr) (c0_1 : Nat) (l0_1 : List Int) (a1 : Int) (r : Int) (w : World) (hr0_1 : Kd.C (Kd.int .i64) w A0_1 l0_1.length l0_1) (hc0_1 : l0_1.length ≤ c0_1) (h : f77.f a0_0 l0_1 a1 = some r) :
  Calls Tryz.prog 210 #[.agg #[.int .i64 a0_0, .slice A0_1 l0_1.length c0_1], .int .i64 a1] w fun e w' => e = .returned (.int .i64 r) ∧ Below w.heap.size w w' := by
 have hu99 := Tryz.underlying99; have HR0_1 := A_ hr0_1; have HC0_1 := A_ hc0_1; clear hr0_1 hc0_1; have HB := A_ (Below.refl w.heap.size w); unfold f77.f at h; have H := h; clear h; obtain rfl := sj_ H; go_enter Tryz.func210, Tryz.ntmps210
 go_wp2_with (first | ((with_reducible refine gate_dst (N := 2) rfl ?_); refine box_event ?hg (N := 2) ?hd (cs := #[.int .i64 a0_0, .slice A0_1 l0_1.length c0_1]) (t := 99) ?hr ?_; (case hd => rfl); (case hg => rfl); (case hr => exact z107_); intro gb10 hg w3 hbox hb; have n_ := a4_ (below_step z186_ hb) (hbox) ((z234_ : w.heap.size ≤ gb10)) ((z234_ : w.heap.size ≤ gb10)); clear HB; obtain ⟨HB, BK10, GW10, GE10⟩ := n_; clear hb hbox hg; obtain ⟨hcz4_0, hcz4_1, hfz4_0, hfz4_1⟩ := b2_ BK10.out))
 go_ret; exact ⟨z138_, by repeat (first | (with_reducible first | exact HB.out | apply below_alloc | apply pw_below_drewN | apply below_drew1 | refine below_set ?_ GE10.out) | exact HB.out)⟩
def f8.l0 : Nat → List (S99) → Int → Int → Int → Int → Option (Int × Bool)
 | 0, _, _, _, _, _ => none
 | k + 1, x0, x1, x8, x9, x10 => if x9 < x10 then (if 0 ≤ (wrap64 ((IntKind.u64.wrap (wrap64 (x9 + x10))) / 2)) then (if (wrap64 ((IntKind.u64.wrap (wrap64 (x9 + x10))) / 2)) < (x0.length : Int) then ((f77.f ((rd_T99 x0 (wrap64 ((IntKind.u64.wrap (wrap64 (x9 + x10))) / 2))).f0) ((rd_T99 x0 (wrap64 ((IntKind.u64.wrap (wrap64 (x9 + x10))) / 2))).f1) x1).bind fun t11 => (if t11 < 0 then (f8.l0 k x0 x1 x8 (wrap64 ((wrap64 ((IntKind.u64.wrap (wrap64 (x9 + x10))) / 2)) + 1)) x10) else (f8.l0 k x0 x1 x8 x9 (wrap64 ((IntKind.u64.wrap (wrap64 (x9 + x10))) / 2))))) else (none)) else (none)) else (if x9 < x8 then (if 0 ≤ x9 then (if x9 < (x0.length : Int) then ((f77.f ((rd_T99 x0 x9).f0) ((rd_T99 x0 x9).f1) x1).bind fun t12 => (some (x9, (t12 == 0)))) else (none)) else (none)) else (some (x9, false)))
def f8.f (k : Nat) (l0 : List (S99)) (a1 : Int)  : Option (Int × Bool) := f8.l0 k l0 a1 (l0.length : Int) 0 (l0.length : Int)
theorem f8.calls (k : Nat) (A0 : Option Addr) (c0 : Nat) (l0 : List (S99)) (a1 : Int)  (r1 : Int) (r2 : Bool) (w : World) (hr0 : Kd.C k99 w A0 l0.length l0) (hc0 : l0.length ≤ c0) (h : f8.f k l0 a1 = some (r1, r2)) :
  Calls Tryz.prog 209 #[.slice A0 l0.length c0, .int .i64 a1, (.func (.func 210) #[] #[])] w fun e w' => e = .returned (.tuple #[.int .i64 r1, .bool r2]) ∧ Below w.heap.size w w' := by
 have hu99 := Tryz.underlying99; have HR0 := A_ hr0; have HC0 := A_ hc0; clear hr0 hc0; have HB := A_ (Below.refl w.heap.size w); have H : (f8.l0 k l0 a1 (l0.length : Int) 0 (l0.length : Int)) = some (r1, r2) := h; clear h; have H' := A_ H; clear H; go_enter Tryz.func209, Tryz.ntmps209; go_wp2
 go_loopg [9, 10] k (fun kq v9 v10 w' => ∃ (x9_1 : Int) (x10_1 : Int), v9 = .int .i64 x9_1 ∧ v10 = .int .i64 x10_1 ∧ Aside0 (f8.l0 kq l0 a1 (l0.length : Int) x9_1 x10_1 = some (r1, r2)) ∧ Aside0 (kq ≤ k) ∧ Aside0 (Below w.heap.size w w'))
 case atStart => exact ⟨(0), ((l0.length : Int)), z139_, z139_, H', ⟨Nat.le_refl _⟩, ⟨z186_⟩⟩
 case round =>
  clear H'; obtain ⟨x9_1, x10_1, rfl, rfl, HA, HK1, HB⟩ := hrel
  cases gk with
  | zero => exact absurd HA.out (by simp [f8.l0])
  | succ k1 =>
  have H := HA.out; clear HA; simp only [f8.l0] at H; revert H; refine i1_ (fun c4b0 H => ?_) fun c4b0 H => ?_; rotate_left
  ·
   revert H; refine i1_ (fun c12b0 H => ?_) fun c12b0 H => ?_; rotate_left
   ·
    simp only [Option.some.injEq, Prod.mk.injEq] at H; obtain ⟨rfl, rfl⟩ := H; go_wp2
    go_ret2
    exact ⟨z138_, z186_⟩
   revert H; refine i3_ fun c13b0 H => ?_; revert H; refine i3_ fun c14b0 H => ?_; replace H := bm_ H; obtain ⟨t19, A20, H⟩ := H; have A15 := A_ A20; clear A20; simp only [Option.some.injEq, Prod.mk.injEq] at H; obtain ⟨rfl, rfl⟩ := H; obtain ⟨p21, q21, ad21, A21_1, c21_1, e21, hx21_0, hx21_1, hl21_1, hi21_1⟩ := pq_ (at_T99 HR0.out x9_1); cases e21; replace hx21_0 := hc_ HB.out hx21_0; replace hx21_1 := hc_ HB.out hx21_1; have HR21_1 := A_ hi21_1; have HC21_1 := A_ hl21_1; clear hi21_1 hl21_1
   go_wp2_with (first | (go_at_call 210; (with_reducible refine (f77.calls ((rd_T99 l0 x9_1).f0) _ _ ((rd_T99 l0 x9_1).f1) a1 t19 _ ?side1 HC21_1.out A15.out).mono ?_); (case side1 => exact z197_); rintro e w16 ⟨rfl, hb⟩; replace HB := A_ (below_step z186_ hb); (try clear hb)))
   go_ret2
   exact ⟨z138_, z186_⟩
  obtain ⟨ji5, hji5⟩ : ∃ j_ : Int, (wrap64 ((IntKind.u64.wrap (wrap64 (x9_1 + x10_1))) / 2)) = j_ := ⟨_, rfl⟩; replace H : (if 0 ≤ (ji5) then (if (ji5) < (l0.length : Int) then ((f77.f ((rd_T99 l0 (ji5)).f0) ((rd_T99 l0 (ji5)).f1) a1).bind fun t17 => (if t17 < 0 then (f8.l0 k1 l0 a1 (l0.length : Int) (wrap64 ((ji5) + 1)) x10_1) else (f8.l0 k1 l0 a1 (l0.length : Int) x9_1 ji5))) else (none)) else (none)) = some (r1, r2) := z122_; have hji5w : (IntKind.i64.wrap ((IntKind.u64.wrap (wrap64 (x9_1 + x10_1))) / 2)) = ji5 := (i64_w _).trans hji5; revert H; refine i3_ fun c6b0 H => ?_; revert H; refine i3_ fun c7b0 H => ?_; replace H := bm_ H; obtain ⟨t17, A80, H⟩ := H; have A8 := A_ A80; clear A80; revert H; refine i1_ (fun c9b0 H => ?_) fun c9b0 H => ?_; rotate_left
  ·
   have H' := A_ H; clear H; obtain ⟨p18, q18, ad18, A18_1, c18_1, e18, hx18_0, hx18_1, hl18_1, hi18_1⟩ := pq_ (at_T99 HR0.out (ji5)); cases e18; replace hx18_0 := hc_ HB.out hx18_0; replace hx18_1 := hc_ HB.out hx18_1; have HR18_1 := A_ hi18_1; have HC18_1 := A_ hl18_1; clear hi18_1 hl18_1
   go_wp2_with (first | (go_at_call 210; (with_reducible refine (f77.calls ((rd_T99 l0 (ji5)).f0) _ _ ((rd_T99 l0 (ji5)).f1) a1 t17 _ ?side1 HC18_1.out A8.out).mono ?_); (case side1 => exact z196_); rintro e w11 ⟨rfl, hb⟩; replace HB := A_ (below_step z186_ hb); (try clear hb)))
   go_roundg k1
   case measure => have := HK1.out; omega
   case rel => exact ⟨(x9_1), (ji5), z139_, z141_, H', ⟨z148_⟩, ⟨z186_⟩⟩
  have H' := A_ H; clear H; obtain ⟨p18, q18, ad18, A18_1, c18_1, e18, hx18_0, hx18_1, hl18_1, hi18_1⟩ := pq_ (at_T99 HR0.out (ji5)); cases e18; replace hx18_0 := hc_ HB.out hx18_0; replace hx18_1 := hc_ HB.out hx18_1; have HR18_1 := A_ hi18_1; have HC18_1 := A_ hl18_1; clear hi18_1 hl18_1
  go_wp2_with (first | (go_at_call 210; (with_reducible refine (f77.calls ((rd_T99 l0 (ji5)).f0) _ _ ((rd_T99 l0 (ji5)).f1) a1 t17 _ ?side1 HC18_1.out A8.out).mono ?_); (case side1 => exact z196_); rintro e w10 ⟨rfl, hb⟩; replace HB := A_ (below_step z186_ hb); (try clear hb)))
  go_roundg k1
  case measure => have := HK1.out; omega
  case rel => exact ⟨(wrap64 ((ji5) + 1)), (x10_1), z141_, z139_, H', ⟨z148_⟩, ⟨z186_⟩⟩
def f107.f (k : Nat) (l0 : List (S99)) (a1 : Int) : Option (Int × Bool) := (f8.f k l0 a1).bind fun bt10 => (some (bt10.1, bt10.2))
theorem f107.calls (k : Nat) (A0 : Option Addr) (c0 : Nat) (l0 : List (S99)) (a1 : Int) (r1 : Int) (r2 : Bool) (w : World) (hr0 : Kd.C k99 w A0 l0.length l0) (hc0 : l0.length ≤ c0) (h : f107.f k l0 a1 = some (r1, r2)) :
  Calls Tryz.prog 183 #[.slice A0 l0.length c0, .int .i64 a1] w fun e w' => e = .returned (.tuple #[.int .i64 r1, .bool r2]) ∧ Below w.heap.size w w' := by
 have HR0 := A_ hr0; have HC0 := A_ hc0; clear hr0 hc0; have HB := A_ (Below.refl w.heap.size w); have H : ((f8.f k l0 a1).bind fun bt10 => (some (bt10.1, bt10.2))) = some (r1, r2) := h; clear h; replace H := bm_ H; obtain ⟨⟨t10, t11⟩, A30, H⟩ := H; replace H : (some (t10, t11)) = some (r1, r2) := H; have A3 := A_ A30; clear A30; simp only [Option.some.injEq, Prod.mk.injEq] at H; obtain ⟨rfl, rfl⟩ := H; go_enter Tryz.func183, Tryz.ntmps183
 go_wp2_with (first | ((with_reducible refine gate_callee (f := 209) rfl ?_); refine gl_ (some 8) Tryz.func209 #[.slice A0 l0.length c0, .int .i64 a1, (.func (.func 210) #[] #[])] ?_; (with_reducible refine (f8.calls k _ _ l0 a1  t10 t11 _ ?side1 HC0.out A3.out).mono ?_); (case side1 => exact z208_); rintro e w4 ⟨rfl, hb⟩; refine ⟨_, rfl, ?_⟩; replace HB := A_ (below_step z186_ hb); (try clear hb)))
 go_ret2
 exact ⟨z138_, z186_⟩
def f83.j0 : Nat → List (S99) → Int → Bool → Option (Int)
 | 0, _, _, _ => none
 | k + 1, x0, x1, x17 => if x17 = true then (some (-1)) else ((f107.f k x0 x1).bind fun bt10 => (if bt10.2 = true then (some bt10.1) else (some (-1))))
def f83.f (k : Nat) (l0 : List (S99)) (a1 : Int) : Option (Int) := (f51.f k l0).bind fun t10 => (if t10 = true then (if a1 < 0 then (f83.j0 k l0 a1 true) else (f83.j0 k l0 a1 (decide (a1 ≥ 64)))) else (f83.j0 k l0 a1 true))
theorem f83.calls (k : Nat) (A0 : Option Addr) (c0 : Nat) (l0 : List (S99)) (a1 : Int) (r : Int) (w : World) (hr0 : Kd.C k99 w A0 l0.length l0) (hc0 : l0.length ≤ c0) (h : f83.f k l0 a1 = some r) :
  Calls Tryz.prog 142 #[.slice A0 l0.length c0, .int .i64 a1] w fun e w' => e = .returned (.int .i64 r) ∧ Below w.heap.size w w' := by
 have HR0 := A_ hr0; have HC0 := A_ hc0; clear hr0 hc0; have HB := A_ (Below.refl w.heap.size w); unfold f83.f at h; have H := h; clear h; have HC3 := A_ H; clear H; go_enter Tryz.func142, Tryz.ntmps142
 go_upto_region 1 with (fail)
 go_cut [17] (fun v17 wc => ∃ (kq : Nat) (x17_2 : Bool), v17 = .bool x17_2 ∧ Aside0 (f83.j0 kq l0 a1 x17_2 = some r) ∧ Aside0 (kq ≤ k) ∧ Aside0 (Below w.heap.size w wc))
 case first =>
  have H := HC3.out; clear HC3; replace H := bm_ H; obtain ⟨t15, A40, H⟩ := H; have A4 := A_ A40; clear A40
  by_cases c5 : t15 = true
  ·
   subst c5; have H1 := tt_ H; clear H; have H := H1; clear H1; revert H; refine i1_ (fun c6b0 H => ?_) fun c6b0 H => ?_
   ·
    (first | rw [c6b0] | (simp only [i64_w, i32_w]; rw [c6b0]) | skip); have H' := A_ H; clear H
    go_wp2_with (first | ((with_reducible refine gate_callee (f := 75) rfl ?_); refine gl_ (some 8) Tryz.func75 #[.slice A0 l0.length c0] ?_; (with_reducible refine (f51.calls k _ _ l0 true _ ?side1 HC0.out A4.out).mono ?_); (case side1 => exact z190_); rintro e w7 ⟨rfl, hb⟩; refine ⟨_, rfl, ?_⟩; replace HB := A_ (below_step z186_ hb); (try clear hb)))
    go_meet
    case rel => exact ⟨_, (true), z139_, H', ⟨z137_⟩, ⟨z186_⟩⟩
   (first | rw [c6b0] | (simp only [i64_w, i32_w]; rw [c6b0]) | skip); have H' := A_ H; clear H
   go_wp2_with (first | ((with_reducible refine gate_callee (f := 75) rfl ?_); refine gl_ (some 8) Tryz.func75 #[.slice A0 l0.length c0] ?_; (with_reducible refine (f51.calls k _ _ l0 true _ ?side1 HC0.out A4.out).mono ?_); (case side1 => exact z190_); rintro e w8 ⟨rfl, hb⟩; refine ⟨_, rfl, ?_⟩; replace HB := A_ (below_step z186_ hb); (try clear hb)))
   go_meet
   case rel => exact ⟨_, (decide (a1 ≥ 64)), z139_, H', ⟨z137_⟩, ⟨z186_⟩⟩
  ·
   replace c5 := Bool.eq_false_iff.mpr c5; subst c5; have H1 := ff_ H; clear H; have H := H1; clear H1; have H' := A_ H; clear H
   go_wp2_with (first | ((with_reducible refine gate_callee (f := 75) rfl ?_); refine gl_ (some 8) Tryz.func75 #[.slice A0 l0.length c0] ?_; (with_reducible refine (f51.calls k _ _ l0 false _ ?side1 HC0.out A4.out).mono ?_); (case side1 => exact z190_); rintro e w9 ⟨rfl, hb⟩; refine ⟨_, rfl, ?_⟩; replace HB := A_ (below_step z186_ hb); (try clear hb)))
   go_meet
   case rel => exact ⟨_, (true), z139_, H', ⟨z137_⟩, ⟨z186_⟩⟩
 case rest =>
  clear HC3; obtain ⟨kq, x17_2, rfl, HA, HJ2, HB⟩ := hcut
  cases kq with
  | zero => exact absurd HA.out (by simp [f83.j0])
  | succ kj2 =>
  have H := HA.out; clear HA; simp only [f83.j0] at H
  by_cases c10 : x17_2 = true
  ·
   subst c10; have H1 := tt_ H; clear H; have H := H1; clear H1; obtain rfl := sj_ H; go_wp2; go_ret; exact ⟨z138_, z186_⟩
  ·
   replace c10 := Bool.eq_false_iff.mpr c10; subst c10; have H1 := ff_ H; clear H; have H := H1; clear H1; replace H := bm_ H; obtain ⟨⟨t16, t18⟩, A19, H⟩ := H; replace H : (if t18 = true then (some t16) else (some (-1))) = some r := H; have A11 := A_ A19; clear A19
   by_cases c12 : t18 = true
   ·
    subst c12; have H1 := tt_ H; clear H; have H := H1; clear H1; obtain rfl := sj_ H
    go_wp2_with (first | ((with_reducible refine gate_callee (f := 183) rfl ?_); refine gl_ (some 21) Tryz.func183 #[.slice A0 l0.length c0, .int .i64 a1] ?_; (with_reducible refine (f107.calls kj2 _ _ l0 a1 t16 true _ ?side1 HC0.out A11.out).mono ?_); (case side1 => exact z190_); rintro e w13 ⟨rfl, hb⟩; refine ⟨_, rfl, ?_⟩; replace HB := A_ (below_step z186_ hb); (try clear hb)))
    go_ret; exact ⟨z138_, z186_⟩
   ·
    replace c12 := Bool.eq_false_iff.mpr c12; subst c12; have H1 := ff_ H; clear H; have H := H1; clear H1; obtain rfl := sj_ H
    go_wp2_with (first | ((with_reducible refine gate_callee (f := 183) rfl ?_); refine gl_ (some 21) Tryz.func183 #[.slice A0 l0.length c0, .int .i64 a1] ?_; (with_reducible refine (f107.calls kj2 _ _ l0 a1 t16 false _ ?side1 HC0.out A11.out).mono ?_); (case side1 => exact z190_); rintro e w14 ⟨rfl, hb⟩; refine ⟨_, rfl, ?_⟩; replace HB := A_ (below_step z186_ hb); (try clear hb)))
    go_ret; exact ⟨z138_, z186_⟩
def f95.f (a0_0 : ByteArray) (l0_1 : List (S99)) (a1 : ByteArray) : Option (Int) := (f73.f a0_0 a1).bind fun t10 => (some t10)
theorem f95.calls (a0_0 : ByteArray) (A0_1 : Option Addr) (c0_1 : Nat) (l0_1 : List (S99)) (a1 : ByteArray) (r : Int) (w : World) (hr0_1 : Kd.C k99 w A0_1 l0_1.length l0_1) (hc0_1 : l0_1.length ≤ c0_1) (h : f95.f a0_0 l0_1 a1 = some r) :
  Calls Tryz.prog 105 #[.agg #[.string a0_0, .slice A0_1 l0_1.length c0_1], .string a1] w fun e w' => e = .returned (.int .i64 r) ∧ Below w.heap.size w w' := by
 have hu71 := Tryz.underlying71; have HR0_1 := A_ hr0_1; have HC0_1 := A_ hc0_1; clear hr0_1 hc0_1; have HB := A_ (Below.refl w.heap.size w); unfold f95.f at h; have H := h; clear h; replace H := bm_ H; obtain ⟨t10, A30, H⟩ := H; have A3 := A_ A30; clear A30; obtain rfl := sj_ H; go_enter Tryz.func105, Tryz.ntmps105
 go_wp2_with (first | ((with_reducible refine gate_dst (N := 2) rfl ?_); refine box_event ?hg (N := 2) ?hd (cs := #[.string a0_0, .slice A0_1 l0_1.length c0_1]) (t := 71) ?hr ?_; (case hd => rfl); (case hg => rfl); (case hr => exact z107_); intro gb11 hg w4 hbox hb; have n_ := a4_ (below_step z186_ hb) (hbox) ((z234_ : w.heap.size ≤ gb11)) ((z234_ : w.heap.size ≤ gb11)); clear HB; obtain ⟨HB, BK11, GW11, GE11⟩ := n_; clear hb hbox hg; obtain ⟨hcz5_0, hcz5_1, hfz5_0, hfz5_1⟩ := b2_ BK11.out) | ((with_reducible refine gate_callee (f := 55) rfl ?_); refine gl_ (some 8) Tryz.func55 #[.string a0_0, .string a1] ?_; (with_reducible refine (f73.calls a0_0 a1 t10 _ A3.out).mono ?_); rintro e w' ⟨rfl, ⟨nd, rfl⟩⟩; refine ⟨_, rfl, ?_⟩))
 go_ret; exact ⟨z138_, z167_⟩
end Go.Proofs.YtbbmdakdghefnaaGreatDoor.T
