import Derived.Test.YtbbmdakdghefnaaGreatDoorQGO
import Derived.Test.YtbbmdakdghefnaaGreatDoorQGT
import Derived.Test.YtbbmdakdghefnaaGreatDoorQGYC
/- Texts of this claim, laid together by a program (merge.py): Aw, Tx24, PQ, Tx25, PX. -/
set_option maxHeartbeats 8000000
set_option maxRecDepth 100000
namespace Go.Proofs.YtbbmdakdghefnaaGreatDoor.T
open Go.RowKit Go.Proofs.YtbbmdakdghefnaaGreatDoorW.PrintWords Go.Proofs.YtbbmdakdghefnaaGreatDoorW.PrintLast Go.Proofs.YtbbmdakdghefnaaGreatDoorW.PrintMore
attribute [local go_sem] max2_int min2_int max_two min_two max_three min_three max_four min_four
set_option linter.unusedVariables false
set_option linter.unusedSimpArgs false
def awQ : ByteArray := ⟨#[97, 32, 98, 43, 99, 32, 38, 32, 100, 32, 33]⟩
def awT : List S37 := [⟨0, [⟨#[97]⟩], 0, 0⟩, ⟨1, [⟨#[98]⟩, ⟨#[99]⟩], 0, 0⟩, ⟨2, [], 0, 1⟩, ⟨0, [⟨#[100]⟩], 0, 0⟩, ⟨4, [], 2, 3⟩]
def awX : S55 := ⟨⟨#[120]⟩, 0, [⟨#[98]⟩, ⟨#[99]⟩, ⟨#[97]⟩]⟩
def awY : S55 := ⟨⟨#[121]⟩, 0, [⟨#[97]⟩, ⟨#[98]⟩, ⟨#[99]⟩, ⟨#[100]⟩]⟩
def awO : List S71 := [⟨⟨#[98]⟩, [⟨0, [0]⟩, ⟨1, [1]⟩]⟩, ⟨⟨#[99]⟩, [⟨0, [1]⟩, ⟨1, [2]⟩]⟩, ⟨⟨#[97]⟩, [⟨0, [2]⟩, ⟨1, [0]⟩]⟩, ⟨⟨#[100]⟩, [⟨1, [3]⟩]⟩]
def awS : List S71 := [⟨⟨#[97]⟩, [⟨0, [2]⟩, ⟨1, [0]⟩]⟩, ⟨⟨#[98]⟩, [⟨0, [0]⟩, ⟨1, [1]⟩]⟩, ⟨⟨#[99]⟩, [⟨0, [1]⟩, ⟨1, [2]⟩]⟩, ⟨⟨#[100]⟩, [⟨1, [3]⟩]⟩]
theorem aw_read : f35.f 60 awQ = some (awT, 0) := by kernel_rfl
theorem aw_mayx : f58.f 60 awX.f0 awX.f1 awX.f2 = some true := by kernel_rfl
theorem aw_mayy : f58.f 60 awY.f0 awY.f1 awY.f2 = some true := by kernel_rfl
theorem aw_terms : f70.l0 60 [awX, awY] 0 [] = some awO := by kernel_rfl
def f80.f : Option Bool := some true
def f114.f (k : Nat) (l0_0 : List ByteArray) (l0_1 : List Int) (l0_2 : List Int) (l0_3 : List (S71)) (a0_4 : Bool) (l1 : List (S37)) (a2 : Int) (a3 : Int) : Option (Bool) := if a2 = 0 then (if a3 = 0 then (if (l1.length : Int) = 5 then ((f40.f k l1).bind fun t10 => (if t10 = true then ((f73.f k l1).bind fun t11 => ((f41.f k t11 (([(⟨#[97]⟩ : ByteArray), (⟨#[98]⟩ : ByteArray), (⟨#[99]⟩ : ByteArray)] : List ByteArray))).bind fun t12 => (if t12 = true then ((f8.f k l1 (([(⟨#[98]⟩ : ByteArray), (⟨#[99]⟩ : ByteArray), (⟨#[97]⟩ : ByteArray)] : List ByteArray))).bind fun t13 => (if t13 = true then ((f8.f k l1 (([(⟨#[98]⟩ : ByteArray), (⟨#[97]⟩ : ByteArray), (⟨#[99]⟩ : ByteArray)] : List ByteArray))).bind fun t14 => (if t14 = true then (some false) else ((f62.f k l1 l0_0 l0_1 l0_2 l0_3 a0_4 (([true, true] : List Bool))).bind fun t15 => ((f32.f k t15 (([0] : List Int))).bind fun t16 => (some t16))))) else (some false))) else (some false)))) else (some false))) else (some false)) else (some false)) else (some false)
theorem aw9 : f114.f 60 [⟨#[120]⟩, ⟨#[121]⟩] [0, 0] [3, 4] awS false awT 0 0 = some true := by kernel_rfl
theorem awS_uniq {s : List S71} (hp : s.Perm awO) (hq : s.Pairwise (fun x y => cmpN x.f0 y.f0 < 0)) : s = awS := by
 have hs : awS.Pairwise (fun x y => cmpN x.f0 y.f0 < 0) := z77_; refine List.Perm.eq_of_pairwise (fun a b _ _ h1 h2 => ?_) hq hs (hp.trans ?_)
 ·
  have := cmpN_anti a.f0 b.f0; omega
 · exact List.perm_middle (l₁ := [_, _]) (l₂ := [_])
theorem raw_new (W : World) (x y : RC) : Kd.C rawC (W.alloc (.cells (encC x ++ encC y).toArray 55)) (some ⟨W.heap.size, 0, none⟩) 2 [x, y] := by
 refine ⟨rfl, z77_, fun _ => ⟨_, rfl, fun j p hj => ?_⟩⟩; obtain ⟨hl, hp⟩ := List.getElem?_eq_some_iff.1 hj; have hl : j < 2 := hl
 rcases (show j = 0 ∨ j = 1 from z131_) with rfl | rfl
 ·
  obtain rfl : x = p := by simpa using hp
  refine ⟨encC x, rfl, rfl, fun i u hu => ?_⟩; have hi : i < 3 := (List.getElem?_eq_some_iff.1 hu).1
  rcases (show i = 0 ∨ i = 1 ∨ i = 2 from z131_) with rfl | rfl | rfl
  · exact (blk_cell (blk_new W _) 0).trans hu
  · exact (blk_cell (blk_new W _) 1).trans hu
  · exact (blk_cell (blk_new W _) 2).trans hu
 ·
  obtain rfl : y = p := by simpa using hp
  refine ⟨encC y, rfl, rfl, fun i u hu => ?_⟩; have hi : i < 3 := (List.getElem?_eq_some_iff.1 hu).1
  rcases (show i = 0 ∨ i = 1 ∨ i = 2 from z131_) with rfl | rfl | rfl
  · exact (blk_cell (blk_new W _) 3).trans hu
  · exact (blk_cell (blk_new W _) 4).trans hu
  · exact (blk_cell (blk_new W _) 5).trans hu
theorem build_aw (A10 A12 : Option Addr) (c10 c12 : Nat) (a : Addr) (c : Nat) (w : World) (hC : Kd.C rawC w (some a) 2 [(awX, (A10, c10)), (awY, (A12, c12))]) (hc : 2 ≤ c) (h10 : 3 ≤ c10) (h12 : 4 ≤ c12) (hw10 : Kd.C Kd.string w A10 3 awX.f2) (hw12 : Kd.C Kd.string w A12 4 awY.f2) :
  Calls Tryz.prog 29 #[.slice (some a) 2 c, .bool false] w fun e w' => ∃ A0 c0 A1 c1 A2 c2 A3 c3, ∃ (l0_0 : List ByteArray) (l0_1 l0_2 : List Int) (l0_3 : List S71), e = .returned (.tuple #[.agg #[.slice A0 l0_0.length c0, .slice A1 l0_1.length c1, .slice A2 l0_2.length c2, .slice A3 l0_3.length c3, .bool false], .int .i64 0]) ∧
   (l0_0.length ≤ c0 ∧ l0_1.length ≤ c1 ∧ l0_2.length ≤ c2 ∧ l0_3.length ≤ c3) ∧ Kd.C Kd.string w' A0 l0_0.length l0_0 ∧ Kd.C (Kd.int .i64) w' A1 l0_1.length l0_1 ∧ Kd.C (Kd.int .i64) w' A2 l0_2.length l0_2 ∧ Kd.C k71 w' A3 l0_3.length l0_3 ∧ f114.f 60 l0_0 l0_1 l0_2 l0_3 false awT 0 0 = some true ∧ Below w.heap.size w w' := by
 refine (build2 60 60 (awX, (A10, c10)) (awY, (A12, c12)) a c awO w hC h10 h12 hw10 hw12 hc (show 0 ≤ cmpN awY.f0 awX.f0 from z77_) (of_decide_eq_false (z128_ : decide (awY.f0.toList = awX.f0.toList) = false)) aw_mayx aw_mayy aw_terms z77_ z77_ z77_).mono ?_; rintro e w' ⟨A0, c0, A1, c1, A2, c2, A3, c3, s, rfl, ⟨q0, q1, q2, q3⟩, h0, h1, h2, hpm, hpw, h3, hb⟩; obtain rfl := awS_uniq hpm hpw; exact ⟨A0, c0, A1, c1, A2, c2, A3, c3, [⟨#[120]⟩, ⟨#[121]⟩], [0, 0], [3, 4], awS, rfl, ⟨q0, q1, q2, q3⟩, h0, h1, h2, h3, aw9, hb⟩
theorem f80.calls (r : Bool) (w : World) (hG : GG w) (h : f80.f = some r) :
  Calls Tryz.prog 9 #[] w fun e w' => e = .returned (.bool r) ∧ Below w.heap.size w w' := by
 have hu45 := Tryz.underlying45; have HRT := A_ (show r = true from (Option.some.inj h).symm); have HG := A_ hG; clear h hG; obtain ⟨l1, hl1⟩ : ∃ l, l = awT := ⟨_, rfl⟩; have ER := A_ (show f35.f 60 awQ = some (l1, 0) from hl1 ▸ aw_read); have HL1 := A_ hl1; clear hl1; have HA := A_ (Below.refl w.heap.size w); go_enter Tryz.func9, Tryz.ntmps9
 go_upto_region 3 with (first
  | (go_at_call 19; (refine (f35.calls 60 awQ l1 0 _ HG.out ER.out).mono ?_); rintro e w1 ⟨v0_, rfl, hs, hb⟩; obtain ⟨A1, c1, ev, hcap, hC1⟩ := Kd.S_reads hs; subst ev; have HR1 := A_ hC1; have HC1 := A_ hcap; have HA2 := A_ (below_step HA.out hb); clear hs hb hC1 hcap HA; have HA := HA2; clear HA2)
  | ((with_reducible refine gate_dst (N := 10) rfl ?_); refine Kd.R_lit Kd.string _ 9 ?hg (N := 10) ?hd (xs := ([(⟨#[98]⟩ : ByteArray), (⟨#[99]⟩ : ByteArray), (⟨#[97]⟩ : ByteArray)] : List ByteArray)) (inner := [.string (⟨#[98]⟩ : ByteArray), .string (⟨#[99]⟩ : ByteArray), .string (⟨#[97]⟩ : ByteArray)]) (ok := fun _ => True) (okp := fun _ => True) ?hr ?hp (fun _ hk => hk) trivial (Below.refl _ _) (Nat.le_refl _) z183_ ?_; (case hd => rfl); (case hg => rfl); (case hr => exact z78_); (case hp => exact (Reps.one (show Kd.M Kd.string _ _ _ (⟨#[98]⟩ : ByteArray) [.string (⟨#[98]⟩ : ByteArray)] from rfl) (Reps.one (show Kd.M Kd.string _ _ _ (⟨#[99]⟩ : ByteArray) [.string (⟨#[99]⟩ : ByteArray)] from rfl) (Reps.one (show Kd.M Kd.string _ _ _ (⟨#[97]⟩ : ByteArray) [.string (⟨#[97]⟩ : ByteArray)] from rfl) (Reps.none _ _))))); intro v10 wl10 ho hb hg_ hnew_; clear hg_ hnew_; obtain ⟨A10, c10, ev⟩ := Kd.R_slice ho; subst ev; have HO10 := A_ (Kd.R_mono ho (fun _ _ => trivial)); have HR1_ := A_ (Kd.C_below HR1.out hb); have HA2 := A_ (below_step HA.out hb); clear ho hb HA HR1; have HA := HA2; have HR1 := HR1_; clear HA2 HR1_)
  | ((with_reducible refine gate_dst (N := 12) rfl ?_); refine Kd.R_lit Kd.string _ 9 ?hg (N := 12) ?hd (xs := ([(⟨#[97]⟩ : ByteArray), (⟨#[98]⟩ : ByteArray), (⟨#[99]⟩ : ByteArray), (⟨#[100]⟩ : ByteArray)] : List ByteArray)) (inner := [.string (⟨#[97]⟩ : ByteArray), .string (⟨#[98]⟩ : ByteArray), .string (⟨#[99]⟩ : ByteArray), .string (⟨#[100]⟩ : ByteArray)]) (ok := fun _ => True) (okp := fun _ => True) ?hr ?hp (fun _ hk => hk) trivial (Below.refl _ _) (Nat.le_refl _) z183_ ?_; (case hd => rfl); (case hg => rfl); (case hr => exact z78_); (case hp => exact (Reps.one (show Kd.M Kd.string _ _ _ (⟨#[97]⟩ : ByteArray) [.string (⟨#[97]⟩ : ByteArray)] from rfl) (Reps.one (show Kd.M Kd.string _ _ _ (⟨#[98]⟩ : ByteArray) [.string (⟨#[98]⟩ : ByteArray)] from rfl) (Reps.one (show Kd.M Kd.string _ _ _ (⟨#[99]⟩ : ByteArray) [.string (⟨#[99]⟩ : ByteArray)] from rfl) (Reps.one (show Kd.M Kd.string _ _ _ (⟨#[100]⟩ : ByteArray) [.string (⟨#[100]⟩ : ByteArray)] from rfl) (Reps.none _ _)))))); intro v12 wl12 ho hb hg_ hnew_; clear hg_ hnew_; obtain ⟨A12, c12, ev⟩ := Kd.R_slice ho; subst ev; have HN10 := A_ (Kd.R_below HO10.out hb); clear HO10; have HO10 := HN10; clear HN10; have HO12 := A_ (Kd.R_mono ho (fun _ _ => trivial)); have HR1_ := A_ (Kd.C_below HR1.out hb); have HA2 := A_ (below_step HA.out hb); clear ho hb HA HR1; have HA := HA2; have HR1 := HR1_; clear HA2 HR1_)
  | (go_at_call 29; (refine (build_aw A10 A12 c10 c12 ⟨wl12.heap.size, 0, none⟩ 2 _ (raw_new wl12 (awX, (A10, c10)) (awY, (A12, c12))) (Nat.le_refl _) (Kd.R_reads' HO10.out).2.1 (Kd.R_reads' HO12.out).2.1 (Kd.C_alloc (Kd.R_reads' HO10.out).2.2 _) (Kd.C_alloc (Kd.R_reads' HO12.out).2.2 _)).mono ?_); rintro e w2 ⟨A0_0, c0_0, A0_1, c0_1, A0_2, c0_2, A0_3, c0_3, l0_0, l0_1, l0_2, l0_3, rfl, hcs, h0, h1, h2, h3, hE, hb⟩; have HR0_0 := A_ h0; have HR0_1 := A_ h1; have HR0_2 := A_ h2; have HR0_3 := A_ h3; have HC0_0 := A_ hcs.1; have HC0_1 := A_ hcs.2.1; have HC0_2 := A_ hcs.2.2.1; have HC0_3 := A_ hcs.2.2.2; have HE := A_ hE; have HR1_ := A_ (Kd.C_below (Kd.C_alloc HR1.out _) hb); have HA2 := A_ (below_step (below_alloc HA.out _) hb); clear hcs h0 h1 h2 h3 hE hb HA HO10 HO12 HR1; have HA := HA2; have HR1 := HR1_; clear HA2 HR1_; have HB := A_ (Below.refl w2.heap.size w2))
  | ((with_reducible refine gate_dst (N := 3) rfl ?_); (try (refine gate_guard (by rfl) ?_; dsimp only)); refine box_event ?hg (N := 3) ?hd (cs := #[.slice none 0 0, .slice none 0 0, .slice none 0 0, .slice none 0 0, .bool false]) (t := 45) ?hr ?_; (case hd => rfl); (case hg => rfl); (case hr => exact z78_); intro gb17 hg w35 hbox hb; have n_ := a4_ (below_step z154_ hb) (hbox) ((z195_ : w2.heap.size ≤ gb17)) ((z195_ : w2.heap.size ≤ gb17)); clear HB; obtain ⟨HB, BK17, GW17, GE17⟩ := n_; clear hb hbox hg; obtain ⟨hcz36_0, hcz36_1, hcz36_2, hcz36_3, hcz36_4, hfz36_0, hfz36_1, hfz36_2, hfz36_3, hfz36_4⟩ := b5_ BK17.out))
 have H : (if (0 : Int) = 0 then (if (0 : Int) = 0 then (if (l1.length : Int) = 5 then ((f40.f 60 l1).bind fun t18 => (if t18 = true then ((f73.f 60 l1).bind fun t19 => ((f41.f 60 t19 (([(⟨#[97]⟩ : ByteArray), (⟨#[98]⟩ : ByteArray), (⟨#[99]⟩ : ByteArray)] : List ByteArray))).bind fun t20 => (if t20 = true then ((f8.f 60 l1 (([(⟨#[98]⟩ : ByteArray), (⟨#[99]⟩ : ByteArray), (⟨#[97]⟩ : ByteArray)] : List ByteArray))).bind fun t21 => (if t21 = true then ((f8.f 60 l1 (([(⟨#[98]⟩ : ByteArray), (⟨#[97]⟩ : ByteArray), (⟨#[99]⟩ : ByteArray)] : List ByteArray))).bind fun t22 => (if t22 = true then (some false) else ((f62.f 60 l1 l0_0 l0_1 l0_2 l0_3 false (([true, true] : List Bool))).bind fun t23 => ((f32.f 60 t23 (([0] : List Int))).bind fun t24 => (some t24))))) else (some false))) else (some false)))) else (some false))) else (some false)) else (some false)) else (some false)) = some r := by rw [HRT.out, HL1.out]; exact HE.out
 by_cases c5 : (0 : Int) = 0
 ·
  rw [if_pos c5] at H; have c5b0 := beq_iff_eq.mpr c5; have c5b1 := bne_eq_false_iff_eq.mpr c5; clear c5
  by_cases c6 : (0 : Int) = 0
  ·
   rw [if_pos c6] at H; have c6b0 := beq_iff_eq.mpr c6; have c6b1 := bne_eq_false_iff_eq.mpr c6; clear c6
   by_cases c7 : (l1.length : Int) = 5
   ·
    rw [if_pos c7] at H; have c7b0 := beq_iff_eq.mpr c7; have c7b1 := bne_eq_false_iff_eq.mpr c7; clear c7; replace H := bm_ H; obtain ⟨t18, A80, H⟩ := H; have A8 := A_ A80; clear A80
    by_cases c9 : t18 = true
    ·
     subst c9; have H1 := tt_ H; clear H; have H := H1; clear H1; replace H := bm_ H; obtain ⟨t19, A25, H⟩ := H; have A10 := A_ A25; clear A25; obtain ⟨y26, hy26⟩ : ∃ y_ : List ByteArray, y_ = (([(⟨#[97]⟩ : ByteArray), (⟨#[98]⟩ : ByteArray), (⟨#[99]⟩ : ByteArray)] : List ByteArray)) := ⟨_, rfl⟩; replace H : ((f41.f 60 t19 y26).bind fun t20 => (if t20 = true then ((f8.f 60 l1 (([(⟨#[98]⟩ : ByteArray), (⟨#[99]⟩ : ByteArray), (⟨#[97]⟩ : ByteArray)] : List ByteArray))).bind fun t21 => (if t21 = true then ((f8.f 60 l1 (([(⟨#[98]⟩ : ByteArray), (⟨#[97]⟩ : ByteArray), (⟨#[99]⟩ : ByteArray)] : List ByteArray))).bind fun t22 => (if t22 = true then (some false) else ((f62.f 60 l1 l0_0 l0_1 l0_2 l0_3 false (([true, true] : List Bool))).bind fun t23 => ((f32.f 60 t23 (([0] : List Int))).bind fun t24 => (some t24))))) else (some false))) else (some false))) = some r := z95_; have Ny26 := A_ hy26; clear hy26; replace H := bm_ H; obtain ⟨t20, A27, H⟩ := H; have A11 := A_ A27; clear A27
     by_cases c12 : t20 = true
     ·
      subst c12; have H1 := tt_ H; clear H; have H := H1; clear H1; obtain ⟨y28, hy28⟩ : ∃ y_ : List ByteArray, y_ = (([(⟨#[98]⟩ : ByteArray), (⟨#[99]⟩ : ByteArray), (⟨#[97]⟩ : ByteArray)] : List ByteArray)) := ⟨_, rfl⟩
      replace H : ((f8.f 60 l1 y28).bind fun t21 => (if t21 = true then ((f8.f 60 l1 (([(⟨#[98]⟩ : ByteArray), (⟨#[97]⟩ : ByteArray), (⟨#[99]⟩ : ByteArray)] : List ByteArray))).bind fun t22 => (if t22 = true then (some false) else ((f62.f 60 l1 l0_0 l0_1 l0_2 l0_3 false (([true, true] : List Bool))).bind fun t23 => ((f32.f 60 t23 (([0] : List Int))).bind fun t24 => (some t24))))) else (some false))) = some r := by first | (rw [hy28]; with_reducible exact H) | (have H2_ := (Option.bind_some _ _).symm.trans H; rw [hy28]; with_reducible exact H2_) | (have H2_ := (Option.bind_some _ _).symm.trans H; with_reducible exact H2_) | with_reducible exact H | (rw [hy28]; exact H) | exact H
      have Ny28 := A_ hy28; clear hy28; replace H := bm_ H; obtain ⟨t21, A29, H⟩ := H; have A13 := A_ A29; clear A29
      by_cases c14 : t21 = true
      ·
       subst c14; have H1 := tt_ H; clear H; have H := H1; clear H1; obtain ⟨y30, hy30⟩ : ∃ y_ : List ByteArray, y_ = (([(⟨#[98]⟩ : ByteArray), (⟨#[97]⟩ : ByteArray), (⟨#[99]⟩ : ByteArray)] : List ByteArray)) := ⟨_, rfl⟩
       replace H : ((f8.f 60 l1 y30).bind fun t22 => (if t22 = true then (some false) else ((f62.f 60 l1 l0_0 l0_1 l0_2 l0_3 false (([true, true] : List Bool))).bind fun t23 => ((f32.f 60 t23 (([0] : List Int))).bind fun t24 => (some t24))))) = some r := by first | (rw [hy30]; with_reducible exact H) | (have H2_ := (Option.bind_some _ _).symm.trans H; rw [hy30]; with_reducible exact H2_) | (have H2_ := (Option.bind_some _ _).symm.trans H; with_reducible exact H2_) | with_reducible exact H | (rw [hy30]; exact H) | exact H
       have Ny30 := A_ hy30; clear hy30; replace H := bm_ H; obtain ⟨t22, A31, H⟩ := H; have A15 := A_ A31; clear A31
       by_cases c16 : t22 = true
       ·
        subst c16; have H1 := tt_ H; clear H; have H := H1; clear H1; exact absurd (sj_ H) z180_
       ·
        replace c16 := Bool.eq_false_iff.mpr c16; subst c16; have H1 := ff_ H; clear H; have H := H1; clear H1; obtain ⟨y32, hy32⟩ : ∃ y_ : List Bool, y_ = (([true, true] : List Bool)) := ⟨_, rfl⟩
        replace H : ((f62.f 60 l1 l0_0 l0_1 l0_2 l0_3 false y32).bind fun t23 => ((f32.f 60 t23 (([0] : List Int))).bind fun t24 => (some t24))) = some r := by first | (rw [hy32]; with_reducible exact H) | (have H2_ := (Option.bind_some _ _).symm.trans H; rw [hy32]; with_reducible exact H2_) | (have H2_ := (Option.bind_some _ _).symm.trans H; with_reducible exact H2_) | with_reducible exact H | (rw [hy32]; exact H) | exact H
        have Ny32 := A_ hy32; clear hy32; replace H := bm_ H; obtain ⟨t23, A60, H⟩ := H; have A33 := A_ A60; clear A60; obtain ⟨y61, hy61⟩ : ∃ y_ : List Int, y_ = (([0] : List Int)) := ⟨_, rfl⟩; replace H : ((f32.f 60 t23 y61).bind fun t24 => (some t24)) = some r := z100_; have Ny61 := A_ hy61; clear hy61; replace H := bm_ H; obtain ⟨t24, A62, H⟩ := H; have A34 := A_ A62; clear A62; obtain rfl := sj_ H
        go_wp2_with (first | ((with_reducible refine gate_dst (N := 3) rfl ?_); (try (refine gate_guard (by rfl) ?_; dsimp only)); refine box_event ?hg (N := 3) ?hd (cs := #[.slice none 0 0, .slice none 0 0, .slice none 0 0, .slice none 0 0, .bool false]) (t := 45) ?hr ?_; (case hd => rfl); (case hg => rfl); (case hr => exact z78_); intro gb17 hg w35 hbox hb; have n_ := a4_ (below_step z154_ hb) (hbox) ((z195_ : w2.heap.size ≤ gb17)) ((z195_ : w2.heap.size ≤ gb17)); clear HB; obtain ⟨HB, BK17, GW17, GE17⟩ := n_; clear hb hbox hg; obtain ⟨hcz36_0, hcz36_1, hcz36_2, hcz36_3, hcz36_4, hfz36_0, hfz36_1, hfz36_2, hfz36_3, hfz36_4⟩ := b5_ BK17.out) | (go_at_call 15; (with_reducible refine (f40.calls 60 _ _ l1 true _ ?side1 HC1.out A8.out).mono ?_); (case side1 => exact Kd.C_below HR1.out z140_); rintro e w37 ⟨rfl, hb⟩; have n_ := a2_ (blk_below (g := gb17) (o := .cells #[.slice A0_0 l0_0.length c0_0, .slice A0_1 l0_1.length c0_1, .slice A0_2 l0_2.length c0_2, .slice A0_3 l0_3.length c0_3, .bool false] 45 (0, 0)) (by (with_reducible repeat (first | refine blk_drewN ?_ _ | refine blk_drew ?_ | refine blk_alloc ?_ _)); refine blk_put (cs := #[.slice A0_0 l0_0.length c0_0, .slice A0_1 l0_1.length c0_1, .slice A0_2 l0_2.length c0_2, .slice A0_3 l0_3.length c0_3, .bool false]) ?_ 4 _ rfl; (with_reducible repeat (first | refine blk_drewN ?_ _ | refine blk_drew ?_ | refine blk_alloc ?_ _)); refine blk_put (cs := #[.slice A0_0 l0_0.length c0_0, .slice A0_1 l0_1.length c0_1, .slice A0_2 l0_2.length c0_2, .slice none 0 0, .bool false]) ?_ 3 _ rfl; (with_reducible repeat (first | refine blk_drewN ?_ _ | refine blk_drew ?_ | refine blk_alloc ?_ _)); refine blk_put (cs := #[.slice A0_0 l0_0.length c0_0, .slice A0_1 l0_1.length c0_1, .slice none 0 0, .slice none 0 0, .bool false]) ?_ 2 _ rfl; (with_reducible repeat (first | refine blk_drewN ?_ _ | refine blk_drew ?_ | refine blk_alloc ?_ _)); refine blk_put (cs := #[.slice A0_0 l0_0.length c0_0, .slice none 0 0, .slice none 0 0, .slice none 0 0, .bool false]) ?_ 1 _ rfl; (with_reducible repeat (first | refine blk_drewN ?_ _ | refine blk_drew ?_ | refine blk_alloc ?_ _)); refine blk_put (cs := #[.slice none 0 0, .slice none 0 0, .slice none 0 0, .slice none 0 0, .bool false]) ?_ 0 _ rfl; (with_reducible repeat (first | refine blk_drewN ?_ _ | refine blk_drew ?_ | refine blk_alloc ?_ _)); exact BK17.out) hb) (below_step z140_ hb); clear BK17 HB; obtain ⟨BK17, HB⟩ := n_; (try clear hb); (try clear hk)) | (go_at_call 13; (with_reducible refine (f73.calls 60 _ _ l1 t19 _ ?side1 HC1.out A10.out).mono ?_); (case side1 => exact z163_); rintro e w38 ⟨v63, rfl, ho0, hb⟩; have n_ := a3_ (Kd.R_lower ho0 (below_size z140_)) (blk_below (g := gb17) (o := .cells #[.slice A0_0 l0_0.length c0_0, .slice A0_1 l0_1.length c0_1, .slice A0_2 l0_2.length c0_2, .slice A0_3 l0_3.length c0_3, .bool false] 45 (0, 0)) z63_ hb) (below_step z140_ hb); clear BK17 HB; obtain ⟨HO64, BK17, HB⟩ := n_; (try clear hb); (try clear hk); (try clear ho0)) | ((with_reducible refine gate_dst (N := 36) rfl ?_); (try (refine gate_guard (by rfl) ?_; dsimp only)); refine Kd.R_lit Kd.string _ 9 ?hg (N := 36) ?hd (xs := ([(⟨#[97]⟩ : ByteArray), (⟨#[98]⟩ : ByteArray), (⟨#[99]⟩ : ByteArray)] : List ByteArray)) (inner := [.string (⟨#[97]⟩ : ByteArray), .string (⟨#[98]⟩ : ByteArray), .string (⟨#[99]⟩ : ByteArray)]) (ok := fun _ => True) (okp := fun _ => True) ?hr ?hp (fun _ hk => hk) trivial (Below.refl _ _) (Nat.le_refl _) z183_ ?_; (case hd => rfl); (case hg => rfl); (case hr => exact z78_); (case hp => exact (Reps.one (show Kd.M Kd.string _ _ _ (⟨#[97]⟩ : ByteArray) [.string (⟨#[97]⟩ : ByteArray)] from rfl) (Reps.one (show Kd.M Kd.string _ _ _ (⟨#[98]⟩ : ByteArray) [.string (⟨#[98]⟩ : ByteArray)] from rfl) (Reps.one (show Kd.M Kd.string _ _ _ (⟨#[99]⟩ : ByteArray) [.string (⟨#[99]⟩ : ByteArray)] from rfl) (Reps.none _ _))))); intro v65 w39 ho40 hb hg_ hnew_; clear hg_ hnew_; (first | rw [← Ny26.out] at ho40 | (simp only [Int.reduceToNat] at ho40; rw [← Ny26.out] at ho40)); have n_ := a4_ (Kd.R_elder' z16_ (Kd.R_base ho40) hb) (Kd.R_lower (Kd.R_new' ho40 (Kd.R_lt z16_)) (below_size z140_)) (blk_below (g := gb17) (o := .cells #[.slice A0_0 l0_0.length c0_0, .slice A0_1 l0_1.length c0_1, .slice A0_2 l0_2.length c0_2, .slice A0_3 l0_3.length c0_3, .bool false] 45 (0, 0)) z63_ hb) (below_step z140_ hb); clear HO64 BK17 HB; obtain ⟨HO64, HO66, BK17, HB⟩ := n_; clear hb ho40; obtain ⟨Ao41, co41, eo41⟩ := Kd.R_slice HO64.out; subst eo41; obtain ⟨Ao42, co42, eo42⟩ := Kd.R_slice HO66.out; subst eo42) | (go_at_call 12; (with_reducible refine (f41.calls 60 _ _ t19 _ _ y26 true _ ?side1 ?side2 ?side3 ?side4 A11.out).mono ?_); (case side1 => repeat (first | exact (Kd.R_reads' HO64.out).2.2 | (with_reducible refine Kd.C_alloc ?_ _) | (with_reducible refine Kd.C_drewN ?_ _) | (with_reducible refine Kd.C_drew ?_))); (case side2 => exact (Kd.R_reads' HO64.out).2.1); (case side3 => repeat (first | exact (Kd.R_reads' HO66.out).2.2 | (with_reducible refine Kd.C_alloc ?_ _) | (with_reducible refine Kd.C_drewN ?_ _) | (with_reducible refine Kd.C_drew ?_))); (case side4 => exact (Kd.R_reads' HO66.out).2.1); rintro e w' ⟨rfl, ⟨nd, rfl⟩⟩) | ((with_reducible refine gate_dst (N := 41) rfl ?_); (try (refine gate_guard (by rfl) ?_; dsimp only)); refine Kd.R_lit Kd.string _ 9 ?hg (N := 41) ?hd (xs := ([(⟨#[98]⟩ : ByteArray), (⟨#[99]⟩ : ByteArray), (⟨#[97]⟩ : ByteArray)] : List ByteArray)) (inner := [.string (⟨#[98]⟩ : ByteArray), .string (⟨#[99]⟩ : ByteArray), .string (⟨#[97]⟩ : ByteArray)]) (ok := fun _ => True) (okp := fun _ => True) ?hr ?hp (fun _ hk => hk) trivial (Below.refl _ _) (Nat.le_refl _) z183_ ?_; (case hd => rfl); (case hg => rfl); (case hr => exact z78_); (case hp => exact (Reps.one (show Kd.M Kd.string _ _ _ (⟨#[98]⟩ : ByteArray) [.string (⟨#[98]⟩ : ByteArray)] from rfl) (Reps.one (show Kd.M Kd.string _ _ _ (⟨#[99]⟩ : ByteArray) [.string (⟨#[99]⟩ : ByteArray)] from rfl) (Reps.one (show Kd.M Kd.string _ _ _ (⟨#[97]⟩ : ByteArray) [.string (⟨#[97]⟩ : ByteArray)] from rfl) (Reps.none _ _))))); intro v67 w43 ho44 hb hg_ hnew_; clear hg_ hnew_; (first | rw [← Ny28.out] at ho44 | (simp only [Int.reduceToNat] at ho44; rw [← Ny28.out] at ho44)); have n_ := a5_ (Kd.R_elder' z16_ (Kd.R_base ho44) hb) (Kd.R_elder' z17_ (Kd.R_base ho44) hb) (Kd.R_lower (Kd.R_new' (Kd.R_new' ho44 (Kd.R_lt z16_)) (Kd.R_lt z17_)) (below_size z140_)) (blk_below (g := gb17) (o := .cells #[.slice A0_0 l0_0.length c0_0, .slice A0_1 l0_1.length c0_1, .slice A0_2 l0_2.length c0_2, .slice A0_3 l0_3.length c0_3, .bool false] 45 (0, 0)) z63_ hb) (below_step z140_ hb); clear HO64 HO66 BK17 HB; obtain ⟨HO64, HO66, HO68, BK17, HB⟩ := n_; clear hb ho44; obtain ⟨Ao45, co45, eo45⟩ := Kd.R_slice HO68.out; subst eo45) | (go_at_call 17; (with_reducible refine (f8.calls 60 _ _ l1 _ _ y28 true _ ?side1 HC1.out ?side3 ?side4 A13.out).mono ?_); (case side1 => exact z163_); (case side3 => repeat (first | exact (Kd.R_reads' HO68.out).2.2 | (with_reducible refine Kd.C_alloc ?_ _) | (with_reducible refine Kd.C_drewN ?_ _) | (with_reducible refine Kd.C_drew ?_))); (case side4 => exact (Kd.R_reads' HO68.out).2.1); rintro e w46 ⟨rfl, hb⟩; have n_ := a5_ (Kd.R_below z16_ hb) (Kd.R_below z17_ hb) (Kd.R_below z18_ hb) (blk_below (g := gb17) (o := .cells #[.slice A0_0 l0_0.length c0_0, .slice A0_1 l0_1.length c0_1, .slice A0_2 l0_2.length c0_2, .slice A0_3 l0_3.length c0_3, .bool false] 45 (0, 0)) z63_ hb) (below_step z140_ hb); clear HO64 HO66 HO68 BK17 HB; obtain ⟨HO64, HO66, HO68, BK17, HB⟩ := n_; (try clear hb); (try clear hk)) | ((with_reducible refine gate_dst (N := 46) rfl ?_); (try (refine gate_guard (by rfl) ?_; dsimp only)); refine Kd.R_lit Kd.string _ 9 ?hg (N := 46) ?hd (xs := ([(⟨#[98]⟩ : ByteArray), (⟨#[97]⟩ : ByteArray), (⟨#[99]⟩ : ByteArray)] : List ByteArray)) (inner := [.string (⟨#[98]⟩ : ByteArray), .string (⟨#[97]⟩ : ByteArray), .string (⟨#[99]⟩ : ByteArray)]) (ok := fun _ => True) (okp := fun _ => True) ?hr ?hp (fun _ hk => hk) trivial (Below.refl _ _) (Nat.le_refl _) z183_ ?_; (case hd => rfl); (case hg => rfl); (case hr => exact z78_); (case hp => exact (Reps.one (show Kd.M Kd.string _ _ _ (⟨#[98]⟩ : ByteArray) [.string (⟨#[98]⟩ : ByteArray)] from rfl) (Reps.one (show Kd.M Kd.string _ _ _ (⟨#[97]⟩ : ByteArray) [.string (⟨#[97]⟩ : ByteArray)] from rfl) (Reps.one (show Kd.M Kd.string _ _ _ (⟨#[99]⟩ : ByteArray) [.string (⟨#[99]⟩ : ByteArray)] from rfl) (Reps.none _ _))))); intro v69 w47 ho48 hb hg_ hnew_; clear hg_ hnew_; (first | rw [← Ny30.out] at ho48 | (simp only [Int.reduceToNat] at ho48; rw [← Ny30.out] at ho48)); have n_ := a6_ (Kd.R_elder' z16_ (Kd.R_base ho48) hb) (Kd.R_elder' z17_ (Kd.R_base ho48) hb) (Kd.R_elder' z18_ (Kd.R_base ho48) hb) (Kd.R_lower (Kd.R_new' (Kd.R_new' (Kd.R_new' ho48 (Kd.R_lt z16_)) (Kd.R_lt z17_)) (Kd.R_lt z18_)) (below_size z140_)) (blk_below (g := gb17) (o := .cells #[.slice A0_0 l0_0.length c0_0, .slice A0_1 l0_1.length c0_1, .slice A0_2 l0_2.length c0_2, .slice A0_3 l0_3.length c0_3, .bool false] 45 (0, 0)) z63_ hb) (below_step z140_ hb); clear HO64 HO66 HO68 BK17 HB; obtain ⟨HO64, HO66, HO68, HO70, BK17, HB⟩ := n_; clear hb ho48; obtain ⟨Ao49, co49, eo49⟩ := Kd.R_slice HO70.out; subst eo49) | (go_at_call 17; (with_reducible refine (f8.calls 60 _ _ l1 _ _ y30 false _ ?side1 HC1.out ?side3 ?side4 A15.out).mono ?_); (case side1 => exact z163_); (case side3 => repeat (first | exact (Kd.R_reads' HO70.out).2.2 | (with_reducible refine Kd.C_alloc ?_ _) | (with_reducible refine Kd.C_drewN ?_ _) | (with_reducible refine Kd.C_drew ?_))); (case side4 => exact (Kd.R_reads' HO70.out).2.1); rintro e w50 ⟨rfl, hb⟩; have n_ := a6_ (Kd.R_below z16_ hb) (Kd.R_below z17_ hb) (Kd.R_below z18_ hb) (Kd.R_below z20_ hb) (blk_below (g := gb17) (o := .cells #[.slice A0_0 l0_0.length c0_0, .slice A0_1 l0_1.length c0_1, .slice A0_2 l0_2.length c0_2, .slice A0_3 l0_3.length c0_3, .bool false] 45 (0, 0)) z63_ hb) (below_step z140_ hb); clear HO64 HO66 HO68 HO70 BK17 HB; obtain ⟨HO64, HO66, HO68, HO70, BK17, HB⟩ := n_; (try clear hb); (try clear hk); obtain ⟨hcz51_0, hcz51_1, hcz51_2, hcz51_3, hcz51_4, hfz51_0, hfz51_1, hfz51_2, hfz51_3, hfz51_4⟩ := b5_ BK17.out) | ((with_reducible refine gate_dst (N := 53) rfl ?_); (try (refine gate_guard (by rfl) ?_; dsimp only)); refine Kd.R_lit Kd.bool _ 4 ?hg (N := 53) ?hd (xs := ([true, true] : List Bool)) (inner := [.bool true, .bool true]) (ok := fun _ => True) (okp := fun _ => True) ?hr ?hp (fun _ hk => hk) trivial (Below.refl _ _) (Nat.le_refl _) z183_ ?_; (case hd => rfl); (case hg => rfl); (case hr => exact z78_); (case hp => exact (Reps.one (show Kd.M Kd.bool _ _ _ true [.bool true] from rfl) (Reps.one (show Kd.M Kd.bool _ _ _ true [.bool true] from rfl) (Reps.none _ _)))); intro v71 w52 ho53 hb hg_ hnew_; clear hg_ hnew_; (first | rw [← Ny32.out] at ho53 | (simp only [Int.reduceToNat] at ho53; rw [← Ny32.out] at ho53)); have n_ := a7_ (Kd.R_below z16_ hb) (Kd.R_below z17_ hb) (Kd.R_below z18_ hb) (Kd.R_below z20_ hb) (Kd.R_lower ho53 (below_size z140_)) (blk_below (g := gb17) (o := .cells #[.slice A0_0 l0_0.length c0_0, .slice A0_1 l0_1.length c0_1, .slice A0_2 l0_2.length c0_2, .slice A0_3 l0_3.length c0_3, .bool false] 45 (0, 0)) z63_ hb) (below_step z140_ hb); clear HO64 HO66 HO68 HO70 BK17 HB; obtain ⟨HO64, HO66, HO68, HO70, HO72, BK17, HB⟩ := n_; clear hb ho53; obtain ⟨Ao54, co54, eo54⟩ := Kd.R_slice HO72.out; subst eo54) | (go_at_call 26; (with_reducible refine (f62.calls 60 _ _ l1 _ _ l0_0 _ _ l0_1 _ _ l0_2 _ _ l0_3 false _ _ y32 t23 _ ?side1 HC1.out ?side3 HC0_0.out ?side5 HC0_1.out ?side7 HC0_2.out ?side9 HC0_3.out ?side11 ?side12 A33.out).mono ?_); (case side1 => exact z163_); (case side3 => exact z159_); (case side5 => exact z160_); (case side7 => exact z161_); (case side9 => exact z162_); (case side11 => repeat (first | exact (Kd.R_reads' HO72.out).2.2 | (with_reducible refine Kd.C_alloc ?_ _) | (with_reducible refine Kd.C_drewN ?_ _) | (with_reducible refine Kd.C_drew ?_))); (case side12 => exact (Kd.R_reads' HO72.out).2.1); rintro e w55 ⟨v73, rfl, ho0, hb⟩; have n_ := a8_ (Kd.R_below z16_ hb) (Kd.R_below z17_ hb) (Kd.R_below z18_ hb) (Kd.R_below z20_ hb) (Kd.R_below z21_ hb) (Kd.R_lower ho0 (below_size z140_)) (blk_below (g := gb17) (o := .cells #[.slice A0_0 l0_0.length c0_0, .slice A0_1 l0_1.length c0_1, .slice A0_2 l0_2.length c0_2, .slice A0_3 l0_3.length c0_3, .bool false] 45 (0, 0)) z63_ hb) (below_step z140_ hb); clear HO64 HO66 HO68 HO70 HO72 BK17 HB; obtain ⟨HO64, HO66, HO68, HO70, HO72, HO74, BK17, HB⟩ := n_; (try clear hb); (try clear hk); (try clear ho0)) | ((with_reducible refine gate_dst (N := 55) rfl ?_); (try (refine gate_guard (by rfl) ?_; dsimp only)); refine Kd.R_lit (Kd.int .i64) _ 3 ?hg (N := 55) ?hd (xs := ([0] : List Int)) (inner := [.int .i64 0]) (ok := fun _ => True) (okp := fun _ => True) ?hr ?hp (fun _ hk => hk) trivial (Below.refl _ _) (Nat.le_refl _) z183_ ?_; (case hd => rfl); (case hg => rfl); (case hr => exact z78_); (case hp => exact (Reps.one (show Kd.M (Kd.int .i64) _ _ _ 0 [.int .i64 0] from rfl) (Reps.none _ _))); intro v75 w56 ho57 hb hg_ hnew_; clear hg_ hnew_; (first | rw [← Ny61.out] at ho57 | (simp only [Int.reduceToNat] at ho57; rw [← Ny61.out] at ho57)); have n_ := a9_ (Kd.R_below z16_ hb) (Kd.R_below z17_ hb) (Kd.R_below z18_ hb) (Kd.R_below z20_ hb) (Kd.R_below z21_ hb) (Kd.R_elder' z22_ (Kd.R_base ho57) hb) (Kd.R_lower (Kd.R_new' ho57 (Kd.R_lt z22_)) (below_size z140_)) (blk_below (g := gb17) (o := .cells #[.slice A0_0 l0_0.length c0_0, .slice A0_1 l0_1.length c0_1, .slice A0_2 l0_2.length c0_2, .slice A0_3 l0_3.length c0_3, .bool false] 45 (0, 0)) z63_ hb) (below_step z140_ hb); clear HO64 HO66 HO68 HO70 HO72 HO74 BK17 HB; obtain ⟨HO64, HO66, HO68, HO70, HO72, HO74, HO76, BK17, HB⟩ := n_; clear hb ho57; obtain ⟨Ao58, co58, eo58⟩ := Kd.R_slice HO74.out; subst eo58; obtain ⟨Ao59, co59, eo59⟩ := Kd.R_slice HO76.out; subst eo59) | (go_at_call 30; (with_reducible refine (f32.calls 60 _ _ t23 _ _ y61 t24 _ ?side1 ?side2 ?side3 ?side4 A34.out).mono ?_); (case side1 => exact z173_); (case side2 => exact (Kd.R_reads' HO74.out).2.1); (case side3 => repeat (first | exact (Kd.R_reads' HO76.out).2.2 | (with_reducible refine Kd.C_alloc ?_ _) | (with_reducible refine Kd.C_drewN ?_ _) | (with_reducible refine Kd.C_drew ?_))); (case side4 => exact (Kd.R_reads' HO76.out).2.1); rintro e w' ⟨rfl, ⟨nd, rfl⟩⟩))
        go_ret; exact ⟨rfl, below_step HA.out z140_⟩
      ·
       replace c14 := Bool.eq_false_iff.mpr c14; subst c14; have H1 := ff_ H; clear H; have H := H1; clear H1; exact absurd (sj_ H) z180_
     ·
      replace c12 := Bool.eq_false_iff.mpr c12; subst c12; have H1 := ff_ H; clear H; have H := H1; clear H1; exact absurd (sj_ H) z180_
    ·
     replace c9 := Bool.eq_false_iff.mpr c9; subst c9; have H1 := ff_ H; clear H; have H := H1; clear H1; exact absurd (sj_ H) z180_
   ·
    rw [if_neg c7] at H; have c7b0 := beq_eq_false_iff_ne.mpr c7; have c7b1 := bne_iff_ne.mpr c7; exact absurd (sj_ H) z180_
  ·
   rw [if_neg c6] at H; have c6b0 := beq_eq_false_iff_ne.mpr c6; have c6b1 := bne_iff_ne.mpr c6; exact absurd (sj_ H) z180_
 ·
  rw [if_neg c5] at H; have c5b0 := beq_eq_false_iff_ne.mpr c5; have c5b1 := bne_iff_ne.mpr c5; exact absurd (sj_ H) z180_
end Go.Proofs.YtbbmdakdghefnaaGreatDoor.T
/- Plain facts for Query: who matches, in the program and in the document's answer; QueryTells. -/
namespace Go.Proofs.YtbbmdakdghefnaaGreatDoor.Plain
set_option linter.unusedVariables false
set_option linter.unusedSimpArgs false
open Go.RowKit Go.Proofs.YtbbmdakdghefnaaGreatDoor.T Go.Proofs.YtbbmdakdghefnaaGreatDoorW.PrintWords Go.Proofs.YtbbmdakdghefnaaGreatDoorW.PrintLast Go.Proofs.YtbbmdakdghefnaaGreatDoorW.PrintMore
theorem equal_loop (a b : List ByteArray) (hl : a.length = b.length) (hb : a.length ≤ 1000000) : ∀ (d i k : Nat), i + d = a.length → d < k → f17.l0 k a b (a.length : Int) (i : Int) = some (decide (a.drop i = b.drop i)) := by
 intro d
 induction d with
 | zero =>
  intro i k hd hk; obtain ⟨k, rfl⟩ : ∃ m, k = m + 1 := ⟨k - 1, z131_⟩; rw [f17.l0, if_neg z131_, List.drop_eq_nil_of_le z131_, List.drop_eq_nil_of_le z131_]
  rfl
 | succ d ih =>
  intro i k hd hk; obtain ⟨k, rfl⟩ : ∃ m, k = m + 1 := ⟨k - 1, z131_⟩; have hi : i < a.length := z131_; have hib : i < b.length := z131_; rw [f17.l0, if_pos z131_, if_pos z131_, if_pos z131_, if_pos z131_, rdOf_nat a i hi, rdOf_nat b i hib, Plain.w1 i z131_, ih (i + 1) k z131_ z131_, List.drop_eq_getElem_cons hi, List.drop_eq_getElem_cons hib]
  by_cases h : a[i] = b[i]
  ·
   rw [if_pos (by rw [h]), h]; exact congrArg some (decide_eq_decide.2 ⟨fun e => by rw [e], fun e => (List.cons.inj e).2⟩)
  ·
   rw [if_neg (fun e => h (list_inj e))]; exact congrArg some (decide_eq_false (fun e => h (List.cons.inj e).1)).symm
theorem equal_eq (a b : List ByteArray) (hb : a.length ≤ 1000000) (k : Nat) (hk : a.length < k) : f17.f k a b = some (decide (a = b)) := by
 unfold f17.f
 by_cases h : a.length = b.length
 ·
  rw [if_pos z131_]; have := equal_loop a b h hb a.length 0 k z131_ hk
  simpa using this
 · rw [if_neg z131_, decide_eq_false (fun e => h (by rw [e]))]
/-- Do words stand among others from a place on. -/
def stF (w o : List ByteArray) : Nat → Nat → Bool
 | 0, _ => false
 | d + 1, i => if i + w.length ≤ o.length then (decide ((o.take (i + w.length)).drop i = w) || stF w o d (i + 1)) else false
def standsP (w o : List ByteArray) : Bool := stF w o (o.length + 1) 0
theorem qstands_loop (w o : List ByteArray) (hw : w.length ≤ 1000) (ho : o.length ≤ 1000) : ∀ (d i k : Nat), i + d = o.length + 1 → 2000 + d ≤ k → f54.l0 k w o (i : Int) = some (stF w o d i) := by
 intro d
 induction d with
 | zero =>
  intro i k hd hk; obtain ⟨k, rfl⟩ : ∃ m, k = m + 1 := ⟨k - 1, z131_⟩; have hs : wrap64 ((i : Int) + (w.length : Int)) = ((i + w.length : Nat) : Int) := z198_; rw [f54.l0, hs, if_neg z131_, stF]
 | succ d ih =>
  intro i k hd hk; obtain ⟨k, rfl⟩ : ∃ m, k = m + 1 := ⟨k - 1, z131_⟩; have hs : wrap64 ((i : Int) + (w.length : Int)) = ((i + w.length : Nat) : Int) := z198_; rw [f54.l0, hs, stF]
  by_cases h : i + w.length ≤ o.length
  ·
   rw [if_pos z131_, if_pos z131_, if_pos z131_, if_pos h, Int.toNat_natCast, Int.toNat_natCast, equal_eq _ w (by rw [List.length_drop, List.length_take]; omega) k (by rw [List.length_drop, List.length_take]; omega), Option.bind_some, Plain.w1 i z131_, ih (i + 1) k z131_ z131_]
   cases decide ((o.take (i + w.length)).drop i = w) <;> simp
  · rw [if_neg z131_, if_neg h]
theorem qstands_eq (w o : List ByteArray) (hw : w.length ≤ 1000) (ho : o.length ≤ 1000) (k : Nat) (hk : 4000 ≤ k) : f54.f k w o = some (standsP w o) := qstands_loop w o hw ho (o.length + 1) 0 k z131_ z131_
/-- Does a node match, behind the nodes ahead. -/
def stepM (o : List ByteArray) (rows : List Bool) (x : S37) : Bool :=
 if x.f0 = 2 then rdOf false rows x.f2 && rdOf false rows x.f3
 else if x.f0 = 3 then rdOf false rows x.f2 || rdOf false rows x.f3
 else if x.f0 = 4 then rdOf false rows x.f2 && !rdOf false rows x.f3
 else standsP x.f1 o
def boolsP (o : List ByteArray) (q : List S37) (rows : List Bool) : List Bool := q.foldl (fun rows x => rows ++ [stepM o rows x]) rows
theorem boolsP_cons (o : List ByteArray) (x : S37) (q : List S37) (rows : List Bool) : boolsP o (x :: q) rows = boolsP o q (rows ++ [stepM o rows x]) := rfl
theorem boolsP_len (o : List ByteArray) : ∀ (q : List S37) (rows : List Bool), (boolsP o q rows).length = rows.length + q.length
 | [], rows => by simp [boolsP]
 | x :: q, rows => by rw [boolsP_cons, boolsP_len o q]; simp; omega
def matchP (q : List S37) (o : List ByteArray) : Bool := mayP q && rdOf false (boolsP o q []) ((q.length - 1 : Nat) : Int)
theorem qmatch_loop (q : List S37) (o : List ByteArray) (ho : o.length ≤ 1000) (h0 : 0 < q.length) (hq : q.length ≤ 12) (hr : ∀ (j : Nat) (h : j < q.length), rightP q[j] (j : Int) = true) : ∀ (d i k : Nat) (rows : List Bool), i + d = q.length → rows.length = i → 4000 + d < k → f8.l0 k o rows q (q.length : Int) (i : Int) = some (rdOf false (boolsP o (q.drop i) rows) ((q.length - 1 : Nat) : Int)) := by
 intro d
 induction d with
 | zero =>
  intro i k rows hd hrl hk; obtain ⟨k, rfl⟩ : ∃ m, k = m + 1 := ⟨k - 1, z131_⟩; have hw : wrap64 ((rows.length : Int) - 1) = ((q.length - 1 : Nat) : Int) := z198_; rw [f8.l0, if_neg z131_, hw, if_pos z131_, if_pos z131_, List.drop_eq_nil_of_le z131_]
  rfl
 | succ d ih =>
  intro i k rows hd hrl hk; obtain ⟨k, rfl⟩ : ∃ m, k = m + 1 := ⟨k - 1, z131_⟩; have hi : i < q.length := z131_; obtain ⟨hw, hop⟩ := right_told (hr i hi); have hlen : rows.length < 140737488355328 := z131_
  have hnext : ∀ v : Bool, v = stepM o rows q[i] → f8.l0 k o (rows ++ [v]) q (q.length : Int) ((i + 1 : Nat) : Int) = some (rdOf false (boolsP o (q.drop i) rows) ((q.length - 1 : Nat) : Int)) := by
   intro v hv; rw [ih (i + 1) k (rows ++ [v]) z131_ z187_ z131_, List.drop_eq_getElem_cons hi, boolsP_cons, hv]
  rw [f8.l0, if_pos z131_, if_pos z131_, if_pos z131_, rd37 q i hi, Plain.w1 i z131_]; simp only [hlen, if_true]
  rcases hop with ⟨e, h6⟩ | ⟨e, hn, a1, a2, b1, b2⟩
  ·
   rw [if_neg z131_, if_neg z131_, if_neg z131_, qstands_eq _ o z131_ ho k z131_, Option.bind_some]; exact hnext _ (by unfold stepM; rw [if_neg z131_, if_neg z131_, if_neg z131_])
  ·
   have a2' : q[i].f2 < (rows.length : Int) := z131_; have b2' : q[i].f3 < (rows.length : Int) := z131_; simp only [a1, a2', b1, b2', if_true]
   by_cases e2 : q[i].f0 = 2
   ·
    rw [if_pos e2]
    cases hA : rdOf false rows q[i].f2
    ·
     rw [if_neg z77_]; exact hnext _ (by unfold stepM; rw [if_pos e2, hA]; rfl)
    ·
     rw [if_pos rfl]; exact hnext _ (by unfold stepM; rw [if_pos e2, hA]; rfl)
   ·
    rw [if_neg e2]
    by_cases e3 : q[i].f0 = 3
    ·
     rw [if_pos e3]
     cases hA : rdOf false rows q[i].f2
     ·
      rw [if_neg z77_]; exact hnext _ (by unfold stepM; rw [if_neg e2, if_pos e3, hA]; rfl)
     ·
      rw [if_pos rfl]; exact hnext _ (by unfold stepM; rw [if_neg e2, if_pos e3, hA]; rfl)
    ·
     have e4 : q[i].f0 = 4 := z131_; rw [if_neg e3, if_pos e4]
     cases hA : rdOf false rows q[i].f2
     ·
      rw [if_neg z77_]; exact hnext _ (by unfold stepM; rw [if_neg e2, if_neg e3, if_pos e4, hA]; rfl)
     ·
      rw [if_pos rfl]; exact hnext _ (by unfold stepM; rw [if_neg e2, if_neg e3, if_pos e4, hA]; rfl)
theorem qmatch_eq (q : List S37) (o : List ByteArray) (ho : o.length ≤ 1000) (hF : q.length ≤ 14) (hF8 : ∀ x ∈ q, x.f1.length ≤ 8) (k : Nat) (hk : 5000 ≤ k) : f8.f k q o = some (matchP q o) := by
 unfold f8.f matchP; rw [qmay_eq q hF hF8 k hk, Option.bind_some]
 by_cases h : mayP q = true
 ·
  obtain ⟨h0, h12, hr, _⟩ := mayP_told h; have hr' := (allR_told q q.length 0 z131_).1 hr; rw [if_pos h, h, show (0 : Int) = ((0 : Nat) : Int) from rfl, qmatch_loop q o ho h0 h12 (fun j hj => hr' j hj z131_) q.length 0 k [] z131_ rfl z131_]
  rfl
 · rw [if_neg h, Bool.eq_false_iff.2 h]; rfl
/-- Few, and what it says. -/
theorem few_l1 (q : List S37) (hq : q.length ≤ 14) (i : Nat) (hi : i < q.length) (h8 : q[i].f1.length ≤ 8) (P : Prop) (K : Nat) (H : ∀ k, K ≤ k → ∃ b, f13.l0 k q ((i + 1 : Nat) : Int) = some b ∧ (b = true → P)) :
  ∀ (e j k : Nat), j + e = q[i].f1.length → K + e + 1 ≤ k → ∃ b, f13.l1 k q (i : Int) (j : Int) = some b ∧ (b = true → P) := by
 intro e
 induction e with
 | zero =>
  intro j k he hk; obtain ⟨k, rfl⟩ : ∃ m, k = m + 1 := ⟨k - 1, z131_⟩; rw [f13.l1, if_pos z131_, if_pos z131_, rd37 q i hi, if_neg z131_, Plain.w1 i z131_]; exact H k z131_
 | succ e ih =>
  intro j k he hk; obtain ⟨k, rfl⟩ : ∃ m, k = m + 1 := ⟨k - 1, z131_⟩; rw [f13.l1, if_pos z131_, if_pos z131_, rd37 q i hi, if_pos z131_, if_pos z131_]
  split
  · exact ⟨false, rfl, fun h => by cases h⟩
  ·
   rw [Plain.w1 j z131_]; exact ih (j + 1) k z131_ z131_
theorem few_l0 (q : List S37) (hq : q.length ≤ 14) : ∀ (d i k : Nat), i + d = q.length → 12 * d + 1 ≤ k → ∃ b, f13.l0 k q (i : Int) = some b ∧ (b = true → ∀ x ∈ q.drop i, x.f1.length ≤ 8) := by
 intro d
 induction d with
 | zero =>
  intro i k hd hk; obtain ⟨k, rfl⟩ : ∃ m, k = m + 1 := ⟨k - 1, z131_⟩; rw [f13.l0, if_neg z131_, List.drop_eq_nil_of_le z131_]; exact ⟨true, rfl, fun _ x h => by cases h⟩
 | succ d ih =>
  intro i k hd hk; obtain ⟨k, rfl⟩ : ∃ m, k = m + 1 := ⟨k - 1, z131_⟩; have hi : i < q.length := z131_; rw [f13.l0, if_pos z131_, if_pos z131_, rd37 q i hi]
  by_cases h8 : (q[i].f1.length : Int) > 8
  ·
   rw [if_pos h8]; exact ⟨false, rfl, fun h => by cases h⟩
  ·
   rw [if_neg h8]; obtain ⟨b, h1, h2⟩ := few_l1 q hq i hi z131_ (∀ x ∈ q.drop (i + 1), x.f1.length ≤ 8) (12 * d + 1) (fun k hk => ih (i + 1) k z131_ hk) q[i].f1.length 0 k z131_ z131_; refine ⟨b, h1, fun hb x hx => ?_⟩; rw [List.drop_eq_getElem_cons hi] at hx
   rcases List.mem_cons.1 hx with rfl | hx
   · omega
   · exact h2 hb x hx
theorem few_told (q : List S37) (k : Nat) (hk : 1000 ≤ k) : ∃ b, f13.f k q = some b ∧ (b = true → q.length ≤ 14 ∧ ∀ x ∈ q, x.f1.length ≤ 8) := by
 unfold f13.f
 by_cases h : (q.length : Int) > 14
 ·
  rw [if_pos h]; exact ⟨false, rfl, fun h => by cases h⟩
 ·
  rw [if_neg h]; obtain ⟨b, h1, h2⟩ := few_l0 q z131_ q.length 0 k z131_ z131_; exact ⟨b, h1, fun hb => ⟨z131_, fun x hx => h2 hb x (by simpa using hx)⟩⟩
theorem words_l0 (w : List ByteArray) (hw : w.length ≤ 130) : ∀ (d i k : Nat), i + d = w.length → d < k → ∃ b, f30.l0 k w (i : Int) = some b := by
 intro d
 induction d with
 | zero =>
  intro i k hd hk; obtain ⟨k, rfl⟩ : ∃ m, k = m + 1 := ⟨k - 1, z131_⟩; rw [f30.l0, if_neg z131_]; exact ⟨true, rfl⟩
 | succ d ih =>
  intro i k hd hk; obtain ⟨k, rfl⟩ : ∃ m, k = m + 1 := ⟨k - 1, z131_⟩; rw [f30.l0, if_pos z131_, if_pos z131_]
  split
  · exact ⟨false, rfl⟩
  ·
   rw [Plain.w1 i z131_]; exact ih (i + 1) k z131_ z131_
theorem words_told (w : List ByteArray) (k : Nat) (hk : 1000 ≤ k) : ∃ b, f30.f k w = some b ∧ (b = true → w.length ≤ 130) := by
 unfold f30.f
 by_cases h : (w.length : Int) > 130
 ·
  rw [if_pos h]; exact ⟨false, rfl, fun h => by cases h⟩
 ·
  rw [if_neg h]; obtain ⟨b, h1⟩ := words_l0 w z131_ w.length 0 k z131_ z131_; exact ⟨b, h1, fun _ => z131_⟩
theorem termsP_len (q : List S37) : (termsP q).length ≤ 6 := by
 unfold termsP
 split
 ·
  rename_i h
  exact (mayP_told h).2.2.2
 · simp
end Go.Proofs.YtbbmdakdghefnaaGreatDoor.Plain
namespace Go.Proofs.YtbbmdakdghefnaaGreatDoor.T
open Go.RowKit Go.Proofs.YtbbmdakdghefnaaGreatDoorW.PrintWords Go.Proofs.YtbbmdakdghefnaaGreatDoorW.PrintLast Go.Proofs.YtbbmdakdghefnaaGreatDoorW.PrintMore
attribute [local go_sem] max2_int min2_int max_two min_two max_three min_three max_four min_four
set_option linter.unusedVariables false
set_option linter.unusedSimpArgs false
mutual
def catchwordlaw18_QueryWeighs.j0 : Nat → List (S37) → List ByteArray → List ByteArray → Bool → Bool → Option (Bool)
 | 0, _, _, _, _, _ => none
 | k + 1, x0, x1, x2, x7, x44 => if x44 = true then (some x7) else ((f73.f k x0).bind fun t10 => (catchwordlaw18_QueryWeighs.l0 k x0 x1 x2 t10 false 0))
def catchwordlaw18_QueryWeighs.l0 : Nat → List (S37) → List ByteArray → List ByteArray → List ByteArray → Bool → Int → Option (Bool)
 | 0, _, _, _, _, _, _ => none
 | k + 1, x0, x1, x2, x11, x12, x13 => if x13 < (x11.length : Int) then (if 0 ≤ x13 then ((f36.f k x1 (rdOf ByteArray.empty x11 x13)).bind fun t14 => (if x12 = true then (catchwordlaw18_QueryWeighs.l0 k x0 x1 x2 x11 true (wrap64 (x13 + 1))) else (catchwordlaw18_QueryWeighs.l0 k x0 x1 x2 x11 t14 (wrap64 (x13 + 1))))) else (none)) else (catchwordlaw18_QueryWeighs.l1 k x0 x1 x2 x12 true 0)
def catchwordlaw18_QueryWeighs.l1 : Nat → List (S37) → List ByteArray → List ByteArray → Bool → Bool → Int → Option (Bool)
 | 0, _, _, _, _, _, _ => none
 | k + 1, x0, x1, x2, x12, x15, x16 => if x16 < (x0.length : Int) then (if x15 = true then (if 0 ≤ x16 then (catchwordlaw18_QueryWeighs.l1 k x0 x1 x2 x12 (((rd_T37 x0 x16).f0) != 4) (wrap64 (x16 + 1))) else (none)) else (catchwordlaw18_QueryWeighs.l1 k x0 x1 x2 x12 false (wrap64 (x16 + 1)))) else (if ([] : List ByteArray).length + x2.length < 8796093022208 then ((some (([] : List ByteArray) ++ x2 : List ByteArray)).bind fun y17 => (if y17.length + x1.length < 8796093022208 then ((some (y17 ++ x1 : List ByteArray)).bind fun y18 => (if y18.length + x2.length < 8796093022208 then (if x12 = true then (if x15 = true then ((f8.f k x0 (y18 ++ x2)).bind fun t19 => (some t19)) else (some true)) else (some false)) else (none))) else (none))) else (none))
end
def catchwordlaw18_QueryWeighs.f (k : Nat) (l0 : List (S37)) (l1 : List ByteArray) (l2 : List ByteArray) : Option (Bool) := (f80.f).bind fun t10 => ((f13.f k l0).bind fun t11 => ((f30.f k l1).bind fun t12 => ((f30.f k l2).bind fun t13 => (if t10 = true then (if t11 = true then (if t12 = true then (if t13 = true then ((f8.f k l0 l1).bind fun t14 => (catchwordlaw18_QueryWeighs.j0 k l0 l1 l2 t10 (!t14))) else (catchwordlaw18_QueryWeighs.j0 k l0 l1 l2 t10 true)) else (catchwordlaw18_QueryWeighs.j0 k l0 l1 l2 t10 true)) else (catchwordlaw18_QueryWeighs.j0 k l0 l1 l2 t10 true)) else (catchwordlaw18_QueryWeighs.j0 k l0 l1 l2 t10 true)))))
theorem catchwordlaw18_QueryWeighs.calls (k : Nat) (A0 : Option Addr) (c0 : Nat) (l0 : List (S37)) (A1 : Option Addr) (c1 : Nat) (l1 : List ByteArray) (A2 : Option Addr) (c2 : Nat) (l2 : List ByteArray) (r : Bool) (w : World) (hr0 : Kd.C k37 w A0 l0.length l0) (hc0 : l0.length ≤ c0) (hr1 : Kd.C Kd.string w A1 l1.length l1) (hc1 : l1.length ≤ c1) (hr2 : Kd.C Kd.string w A2 l2.length l2) (hc2 : l2.length ≤ c2) (hG : GG w) (h : catchwordlaw18_QueryWeighs.f k l0 l1 l2 = some r) :
  Calls Tryz.prog 6 #[.slice A0 l0.length c0, .slice A1 l1.length c1, .slice A2 l2.length c2] w fun e w' => e = .returned (.bool r) ∧ Below w.heap.size w w' := by
 have HR0 := A_ hr0; have HC0 := A_ hc0; clear hr0 hc0; have HR1 := A_ hr1; have HC1 := A_ hc1; clear hr1 hc1; have HR2 := A_ hr2; have HC2 := A_ hc2; clear hr2 hc2; have HB := A_ (Below.refl w.heap.size w); have HG := A_ hG; clear hG; unfold catchwordlaw18_QueryWeighs.f at h; have H := h; clear h; replace H := bm_ H; obtain ⟨t46, A40, H⟩ := H; have A4 := A_ A40; clear A40; replace H := bm_ H; obtain ⟨t47, A50, H⟩ := H; have A5 := A_ A50; clear A50; replace H := bm_ H; obtain ⟨t48, A60, H⟩ := H; have A6 := A_ A60; clear A60; replace H := bm_ H; obtain ⟨t49, A70, H⟩ := H; have A7 := A_ A70; clear A70; have HC8 := A_ H; clear H; go_enter Tryz.func6, Tryz.ntmps6
 go_upto_region 5 with (first | ((with_reducible refine gate_callee (f := 9) rfl ?_); refine gl_ (some 18) Tryz.func9 #[] ?_; (with_reducible refine (f80.calls  t46 _ ?side1 A4.out).mono ?_); (case side1 => exact GG_below HG.out z154_); rintro e w9 ⟨rfl, hb⟩; refine ⟨_, rfl, ?_⟩; replace HB := A_ (below_step z154_ hb); (try clear hb)) | ((with_reducible refine gate_callee (f := 10) rfl ?_); refine gl_ (some 20) Tryz.func10 #[.slice A0 l0.length c0] ?_; (with_reducible refine (f13.calls k _ _ l0 t47 _ ?side1 HC0.out A5.out).mono ?_); (case side1 => exact z158_); rintro e w' ⟨rfl, ⟨nd, rfl⟩⟩; refine ⟨_, rfl, ?_⟩) | ((with_reducible refine gate_callee (f := 11) rfl ?_); refine gl_ (some 22) Tryz.func11 #[.slice A1 l1.length c1] ?_; (with_reducible refine (f30.calls k _ _ l1 t48 _ ?side1 HC1.out A6.out).mono ?_); (case side1 => repeat (first | exact (Kd.C_below HR1.out z154_) | (with_reducible refine Kd.C_alloc ?_ _) | (with_reducible refine Kd.C_drewN ?_ _) | (with_reducible refine Kd.C_drew ?_))); rintro e w' ⟨rfl, ⟨nd, rfl⟩⟩; refine ⟨_, rfl, ?_⟩) | ((with_reducible refine gate_callee (f := 11) rfl ?_); refine gl_ (some 24) Tryz.func11 #[.slice A2 l2.length c2] ?_; (with_reducible refine (f30.calls k _ _ l2 t49 _ ?side1 HC2.out A7.out).mono ?_); (case side1 => repeat (first | exact (Kd.C_below HR2.out z154_) | (with_reducible refine Kd.C_alloc ?_ _) | (with_reducible refine Kd.C_drewN ?_ _) | (with_reducible refine Kd.C_drew ?_))); rintro e w' ⟨rfl, ⟨nd, rfl⟩⟩; refine ⟨_, rfl, ?_⟩))
 (try simp only [Act.put, List.setIfInBounds_toArray, List.set_cons_zero, List.set_cons_succ])
 go_cut [44] (fun v44 wc => ∃ (kq : Nat) (x44_7 : Bool), v44 = .bool x44_7 ∧ Aside0 (catchwordlaw18_QueryWeighs.j0 kq l0 l1 l2 t46 x44_7 = some r) ∧ Aside0 (kq ≤ k) ∧ Aside0 (Below w.heap.size w wc))
 case first =>
  have H := HC8.out; clear HC8
  by_cases c10 : t46 = true
  ·
   subst c10; have H1 := tt_ H; clear H; have H := H1; clear H1
   by_cases c11 : t47 = true
   ·
    subst c11; have H1 := tt_ H; clear H; have H := H1; clear H1
    by_cases c12 : t48 = true
    ·
     subst c12; have H1 := tt_ H; clear H; have H := H1; clear H1
     by_cases c13 : t49 = true
     ·
      subst c13; have H1 := tt_ H; clear H; have H := H1; clear H1; replace H := bm_ H; obtain ⟨t51, A52, H⟩ := H; have A14 := A_ A52; clear A52; have H' := A_ H; clear H
      go_wp2_with (first | (go_at_call 17; (with_reducible refine (f8.calls k _ _ l0 _ _ l1 t51 _ ?side1 HC0.out ?side3 HC1.out A14.out).mono ?_); (case side1 => exact z158_); (case side3 => exact z163_); rintro e w15 ⟨rfl, hb⟩; replace HB := A_ (below_step z154_ hb); (try clear hb)))
      go_meet
      case rel => exact ⟨_, (!t51), z110_, H', ⟨z108_⟩, ⟨z154_⟩⟩
     ·
      replace c13 := Bool.eq_false_iff.mpr c13; subst c13; have H1 := ff_ H; clear H; have H := H1; clear H1; have H' := A_ H; clear H; go_wp2
      go_meet
      case rel => exact ⟨_, (true), z110_, H', ⟨z108_⟩, ⟨z154_⟩⟩
    ·
     replace c12 := Bool.eq_false_iff.mpr c12; subst c12; have H1 := ff_ H; clear H; have H := H1; clear H1; have H' := A_ H; clear H; go_wp2
     go_meet
     case rel => exact ⟨_, (true), z110_, H', ⟨z108_⟩, ⟨z154_⟩⟩
   ·
    replace c11 := Bool.eq_false_iff.mpr c11; subst c11; have H1 := ff_ H; clear H; have H := H1; clear H1; have H' := A_ H; clear H; go_wp2
    go_meet
    case rel => exact ⟨_, (true), z110_, H', ⟨z108_⟩, ⟨z154_⟩⟩
  ·
   replace c10 := Bool.eq_false_iff.mpr c10; subst c10; have H1 := ff_ H; clear H; have H := H1; clear H1; have H' := A_ H; clear H; go_wp2
   go_meet
   case rel => exact ⟨_, (true), z110_, H', ⟨z108_⟩, ⟨z154_⟩⟩
 case rest =>
  clear HC8; (try clear c1); (try clear c2); obtain ⟨kq, x44_7, rfl, HA, HJ7, HB⟩ := hcut
  cases kq with
  | zero => exact absurd HA.out (by simp [catchwordlaw18_QueryWeighs.j0])
  | succ kj7 =>
  have H := HA.out; clear HA; simp only [catchwordlaw18_QueryWeighs.j0] at H
  by_cases c16 : x44_7 = true
  ·
   subst c16; have H1 := tt_ H; clear H; have H := H1; clear H1; obtain rfl := sj_ H; go_wp2; go_ret; exact ⟨z109_, z154_⟩
  ·
   replace c16 := Bool.eq_false_iff.mpr c16; subst c16; have H1 := ff_ H; clear H; have H := H1; clear H1; replace H := bm_ H; obtain ⟨t53, A54, H⟩ := H; have A17 := A_ A54; clear A54; have H' := A_ H; clear H
   go_wp2_with (first | ((with_reducible refine gate_callee (f := 13) rfl ?_); refine gl_ (some 47) Tryz.func13 #[.slice A0 l0.length c0] ?_; (with_reducible refine (f73.calls kj7 _ _ l0 t53 _ ?side1 HC0.out A17.out).mono ?_); (case side1 => exact z158_); rintro e w18 ⟨v55, rfl, ho0, hb⟩; refine ⟨_, rfl, ?_⟩; have n_ := a2_ (Kd.R_lower ho0 (below_size z154_)) (below_step z154_ hb); clear HB; obtain ⟨HO56, HB⟩ := n_; (try clear hb); (try clear ho0)))
   go_loopg [12, 13] kj7 (fun kq v12 v13 w' => ∃ (x12_2 : Bool) (x13_2 : Int), v12 = .bool x12_2 ∧ v13 = .int .i64 x13_2 ∧ Aside0 (catchwordlaw18_QueryWeighs.l0 kq l0 l1 l2 t53 x12_2 x13_2 = some r) ∧ Aside0 (kq ≤ kj7) ∧ Aside0 (Kd.R Kd.string 9 w' w.heap.size (fun _ => True) v55 t53) ∧ Aside0 (Below w.heap.size w w'))
   case atStart => exact ⟨(false), (0), z110_, z110_, H', ⟨Nat.le_refl _⟩, ⟨z12_⟩, ⟨z154_⟩⟩
   case round =>
    clear H'; (try clear c1); (try clear c2); (try clear c16); obtain ⟨x12_2, x13_2, rfl, rfl, HA, HK2, HO_11, HB⟩ := hrel
    cases gk with
    | zero => exact absurd HA.out (by simp [catchwordlaw18_QueryWeighs.l0])
    | succ k2 =>
    have H := HA.out; clear HA; simp only [catchwordlaw18_QueryWeighs.l0] at H; revert H; refine i1_ (fun c19b0 H => ?_) fun c19b0 H => ?_
    ·
     revert H; refine i3_ fun c20b0 H => ?_; replace H := bm_ H; obtain ⟨t57, A58, H⟩ := H; have A21 := A_ A58; clear A58
     by_cases c22 : x12_2 = true
     ·
      subst c22; have H1 := tt_ H; clear H; have H := H1; clear H1; have H' := A_ H; clear H; obtain ⟨Ao23, co23, eo23⟩ := Kd.R_slice HO_11.out; subst eo23; obtain ⟨p59, q59, ad59, e59, hx59_0⟩ := pq_ (Kd.at_string (Kd.R_reads' HO_11.out).2.2 x13_2); cases e59
      go_wp2_with (first | ((with_reducible refine gate_callee (f := 23) rfl ?_); refine gl_ (some 59) Tryz.func23 #[.slice A1 l1.length c1, .string (rdOf ByteArray.empty t53 x13_2)] ?_; (with_reducible refine (f36.calls k2 _ _ l1 (rdOf ByteArray.empty t53 x13_2) t57 _ ?side1 HC1.out A21.out).mono ?_); (case side1 => exact z163_); rintro e w' ⟨rfl, ⟨nd, rfl⟩⟩; refine ⟨_, rfl, ?_⟩))
      go_roundg k2
      case measure => have := HJ7.out; have := HK2.out; omega
      case rel => exact ⟨(true), (wrap64 (x13_2 + 1)), z110_, z110_, H', ⟨by have := HJ7.out; have := HK2.out; omega⟩, ⟨z26_⟩, ⟨z154_⟩⟩
     ·
      replace c22 := Bool.eq_false_iff.mpr c22; subst c22; have H1 := ff_ H; clear H; have H := H1; clear H1; have H' := A_ H; clear H; obtain ⟨Ao24, co24, eo24⟩ := Kd.R_slice HO_11.out; subst eo24; obtain ⟨p59, q59, ad59, e59, hx59_0⟩ := pq_ (Kd.at_string (Kd.R_reads' HO_11.out).2.2 x13_2); cases e59
      go_wp2_with (first | ((with_reducible refine gate_callee (f := 23) rfl ?_); refine gl_ (some 59) Tryz.func23 #[.slice A1 l1.length c1, .string (rdOf ByteArray.empty t53 x13_2)] ?_; (with_reducible refine (f36.calls k2 _ _ l1 (rdOf ByteArray.empty t53 x13_2) t57 _ ?side1 HC1.out A21.out).mono ?_); (case side1 => exact z163_); rintro e w' ⟨rfl, ⟨nd, rfl⟩⟩; refine ⟨_, rfl, ?_⟩))
      go_roundg k2
      case measure => have := HJ7.out; have := HK2.out; omega
      case rel => exact ⟨(t57), (wrap64 (x13_2 + 1)), z110_, z110_, H', ⟨by have := HJ7.out; have := HK2.out; omega⟩, ⟨z26_⟩, ⟨z154_⟩⟩
    have H' := A_ H; clear H; obtain ⟨Ao25, co25, eo25⟩ := Kd.R_slice HO_11.out; subst eo25; go_wp2
    go_loopg [15, 16] k2 (fun kq v15 v16 w' => ∃ (x15_3 : Bool) (x16_3 : Int), v15 = .bool x15_3 ∧ v16 = .int .i64 x16_3 ∧ Aside0 (catchwordlaw18_QueryWeighs.l1 kq l0 l1 l2 x12_2 x15_3 x16_3 = some r) ∧ Aside0 (kq ≤ k2) ∧ Aside0 (Below w.heap.size w w'))
    case atStart => exact ⟨(true), (0), z110_, z110_, H', ⟨Nat.le_refl _⟩, ⟨z154_⟩⟩
    case round =>
     clear H'; (try clear c1); (try clear c2); (try clear c16); (try clear c19); (try clear c19b0); obtain ⟨x15_3, x16_3, rfl, rfl, HA, HK3, HB⟩ := hrel
     cases gk with
     | zero => exact absurd HA.out (by simp [catchwordlaw18_QueryWeighs.l1])
     | succ k3 =>
     have H := HA.out; clear HA; simp only [catchwordlaw18_QueryWeighs.l1] at H; revert H; refine i1_ (fun c26b0 H => ?_) fun c26b0 H => ?_
     ·
      by_cases c27 : x15_3 = true
      ·
       subst c27; have H1 := tt_ H; clear H; have H := H1; clear H1; revert H; refine i3_ fun c28b0 H => ?_; have H' := A_ H; clear H; obtain ⟨p61, q61, ad61, A61_1, c61_1, e61, hx61_0, hx61_1, hx61_2, hx61_3, hl61_1, hi61_1⟩ := pq_ (at_T37 HR0.out x16_3); cases e61; replace hx61_0 := hc_ HB.out hx61_0; replace hx61_1 := hc_ HB.out hx61_1; replace hx61_2 := hc_ HB.out hx61_2; replace hx61_3 := hc_ HB.out hx61_3; have HR61_1 := A_ hi61_1; have HC61_1 := A_ hl61_1; clear hi61_1 hl61_1; go_wp2
       go_roundg k3
       case measure => have := HJ7.out; have := HK2.out; have := HK3.out; omega
       case rel => exact ⟨((((rd_T37 l0 x16_3).f0) != 4)), (wrap64 (x16_3 + 1)), z110_, z110_, H', ⟨by have := HJ7.out; have := HK2.out; have := HK3.out; omega⟩, ⟨z154_⟩⟩
      ·
       replace c27 := Bool.eq_false_iff.mpr c27; subst c27; have H1 := ff_ H; clear H; have H := H1; clear H1; have H' := A_ H; clear H; go_wp2
       go_roundg k3
       case measure => have := HJ7.out; have := HK2.out; have := HK3.out; omega
       case rel => exact ⟨(false), (wrap64 (x16_3 + 1)), z110_, z110_, H', ⟨by have := HJ7.out; have := HK2.out; have := HK3.out; omega⟩, ⟨z154_⟩⟩
     revert H; refine i2_ (fun c29 H => ?_) fun c29 H => ?_; rotate_left
     · exact absurd H z183_
     have LMc29 := A_ c29; clear c29; obtain ⟨y62, hy62⟩ : ∃ y_ : List ByteArray, y_ = (([] : List ByteArray) ++ l2) := ⟨_, rfl⟩; replace H : (if y62.length + l1.length < 8796093022208 then ((some (y62 ++ l1 : List ByteArray)).bind fun y63 => (if y63.length + l2.length < 8796093022208 then (if x12_2 = true then (if x15_3 = true then ((f8.f k3 l0 (y63 ++ l2)).bind fun t65 => (some t65)) else (some true)) else (some false)) else (none))) else (none)) = some r := z101_; have Ny62 := A_ hy62; clear hy62; revert H; refine i4_ fun c30 H => ?_; have LMc30 := A_ c30; clear c30; obtain ⟨y63, hy63⟩ : ∃ y_ : List ByteArray, y_ = (y62 ++ l1) := ⟨_, rfl⟩
     replace H : (if y63.length + l2.length < 8796093022208 then (if x12_2 = true then (if x15_3 = true then ((f8.f k3 l0 (y63 ++ l2)).bind fun t65 => (some t65)) else (some true)) else (some false)) else (none)) = some r := by first | (rw [hy63]; with_reducible exact H) | (have H2_ := (Option.bind_some _ _).symm.trans H; rw [hy63]; with_reducible exact H2_) | (have H2_ := (Option.bind_some _ _).symm.trans H; with_reducible exact H2_) | with_reducible exact H | (rw [hy63]; exact H) | exact H
     have Ny63 := A_ hy63; clear hy63; revert H; refine i4_ fun c31 H => ?_; have LMc31 := A_ c31; clear c31; obtain ⟨y66, hy66⟩ : ∃ y_ : List ByteArray, y_ = (y63 ++ l2) := ⟨_, rfl⟩; replace H : (if x12_2 = true then (if x15_3 = true then ((f8.f k3 l0 y66).bind fun t65 => (some t65)) else (some true)) else (some false)) = some r := z102_; have Ny66 := A_ hy66; clear hy66
     by_cases c32 : x12_2 = true
     ·
      subst c32; have H1 := tt_ H; clear H; have H := H1; clear H1
      by_cases c33 : x15_3 = true
      ·
       subst c33; have H1 := tt_ H; clear H; have H := H1; clear H1; replace H := bm_ H; obtain ⟨t65, A67, H⟩ := H; have A34 := A_ A67; clear A67; obtain rfl := sj_ H
       go_wp2_with (first | ((with_reducible refine gate_builtin (b := .append) (xs := #[.const (.slice none 0 0), .tmp 79]) rfl ?_); at_builtin; refine Kd.R_append_rows Kd.string (w0 := w) w.heap.size rfl (.const (.slice none 0 0)) (.tmp 79) 23 9 (.string ⟨#[]⟩) 16 rfl Tryz.underlying23 info9 rfl z77_ z131_ (.slice none 0 0) ([] : List ByteArray) l2 _ _ _ (fun _ => True) (fun _ => False) rfl rfl ?aO ?aR (fun _ _ h => h) (fun _ h => h.elim) ?aF ?aB ?aS ?aL ?_; (case aR => exact z165_); (case aB => exact z154_); (case aF => exact (fun _ _ => trivial)); (case aO => exact ((Kd.R_nil _ _ _ _ (fun _ => True)))); (case aS => exact (below_size z154_)); (case aL => have := LMc29.out; omega); intro v68 w35 ho hb hg hat; rw [← Ny62.out] at ho; have n_ := a2_ (hb) (ho); clear HB; obtain ⟨HB, HO69⟩ := n_; clear ho hb hg hat) | ((with_reducible refine gate_builtin (b := .append) (xs := #[.tmp 80, .tmp 81]) rfl ?_); at_builtin; refine Kd.R_append_rows Kd.string (w0 := w) w.heap.size rfl (.tmp 80) (.tmp 81) 23 9 (.string ⟨#[]⟩) 16 rfl Tryz.underlying23 info9 rfl z77_ z131_ v68 y62 l1 _ _ _ (fun _ => True) (fun _ => False) rfl rfl ?aO ?aR (fun _ _ h => h) (fun _ h => h.elim) ?aF ?aB ?aS ?aL ?_; (case aR => exact z163_); (case aB => exact z154_); (case aF => exact (fun _ _ => trivial)); (case aO => exact z19_); (case aS => exact (below_size z154_)); (case aL => have := LMc30.out; omega); intro v71 w36 ho hb hg hat; rw [← Ny63.out] at ho; have n_ := a2_ (hb) (ho); clear HB HO69; obtain ⟨HB, HO72⟩ := n_; clear ho hb hg hat) | ((with_reducible refine gate_builtin (b := .append) (xs := #[.tmp 82, .tmp 83]) rfl ?_); at_builtin; refine Kd.R_append_rows Kd.string (w0 := w) w.heap.size rfl (.tmp 82) (.tmp 83) 23 9 (.string ⟨#[]⟩) 16 rfl Tryz.underlying23 info9 rfl z77_ z131_ v71 y63 l2 _ _ _ (fun _ => True) (fun _ => False) rfl rfl ?aO ?aR (fun _ _ h => h) (fun _ h => h.elim) ?aF ?aB ?aS ?aL ?_; (case aR => exact z165_); (case aB => exact z154_); (case aF => exact (fun _ _ => trivial)); (case aO => exact z21_); (case aS => exact (below_size z154_)); (case aL => have := LMc31.out; omega); intro v73 w37 ho hb hg hat; rw [← Ny66.out] at ho; have n_ := a2_ (hb) (ho); clear HB HO72; obtain ⟨HB, HO74⟩ := n_; clear ho hb hg hat; obtain ⟨Ao38, co38, eo38⟩ := Kd.R_slice HO74.out; subst eo38) | (go_at_call 17; (with_reducible refine (f8.calls k3 _ _ l0 _ _ y66 t65 _ ?side1 HC0.out ?side3 ?side4 A34.out).mono ?_); (case side1 => exact z158_); (case side3 => exact z173_); (case side4 => exact (Kd.R_reads' HO74.out).2.1); rintro e w39 ⟨rfl, hb⟩; have n_ := a2_ (Kd.R_below z22_ hb) (below_step z154_ hb); clear HO74 HB; obtain ⟨HO74, HB⟩ := n_; (try clear hb)))
       go_ret; exact ⟨z109_, z154_⟩
      ·
       replace c33 := Bool.eq_false_iff.mpr c33; subst c33; have H1 := ff_ H; clear H; have H := H1; clear H1; obtain rfl := sj_ H
       go_wp2_with (first | ((with_reducible refine gate_builtin (b := .append) (xs := #[.const (.slice none 0 0), .tmp 79]) rfl ?_); at_builtin; refine Kd.R_append_rows Kd.string (w0 := w) w.heap.size rfl (.const (.slice none 0 0)) (.tmp 79) 23 9 (.string ⟨#[]⟩) 16 rfl Tryz.underlying23 info9 rfl z77_ z131_ (.slice none 0 0) ([] : List ByteArray) l2 _ _ _ (fun _ => True) (fun _ => False) rfl rfl ?aO ?aR (fun _ _ h => h) (fun _ h => h.elim) ?aF ?aB ?aS ?aL ?_; (case aR => exact z165_); (case aB => exact z154_); (case aF => exact (fun _ _ => trivial)); (case aO => exact ((Kd.R_nil _ _ _ _ (fun _ => True)))); (case aS => exact (below_size z154_)); (case aL => have := LMc29.out; omega); intro v68 w40 ho hb hg hat; rw [← Ny62.out] at ho; have n_ := a2_ (hb) (ho); clear HB; obtain ⟨HB, HO69⟩ := n_; clear ho hb hg hat) | ((with_reducible refine gate_builtin (b := .append) (xs := #[.tmp 80, .tmp 81]) rfl ?_); at_builtin; refine Kd.R_append_rows Kd.string (w0 := w) w.heap.size rfl (.tmp 80) (.tmp 81) 23 9 (.string ⟨#[]⟩) 16 rfl Tryz.underlying23 info9 rfl z77_ z131_ v68 y62 l1 _ _ _ (fun _ => True) (fun _ => False) rfl rfl ?aO ?aR (fun _ _ h => h) (fun _ h => h.elim) ?aF ?aB ?aS ?aL ?_; (case aR => exact z163_); (case aB => exact z154_); (case aF => exact (fun _ _ => trivial)); (case aO => exact z19_); (case aS => exact (below_size z154_)); (case aL => have := LMc30.out; omega); intro v71 w41 ho hb hg hat; rw [← Ny63.out] at ho; have n_ := a2_ (hb) (ho); clear HB HO69; obtain ⟨HB, HO72⟩ := n_; clear ho hb hg hat) | ((with_reducible refine gate_builtin (b := .append) (xs := #[.tmp 82, .tmp 83]) rfl ?_); at_builtin; refine Kd.R_append_rows Kd.string (w0 := w) w.heap.size rfl (.tmp 82) (.tmp 83) 23 9 (.string ⟨#[]⟩) 16 rfl Tryz.underlying23 info9 rfl z77_ z131_ v71 y63 l2 _ _ _ (fun _ => True) (fun _ => False) rfl rfl ?aO ?aR (fun _ _ h => h) (fun _ h => h.elim) ?aF ?aB ?aS ?aL ?_; (case aR => exact z165_); (case aB => exact z154_); (case aF => exact (fun _ _ => trivial)); (case aO => exact z21_); (case aS => exact (below_size z154_)); (case aL => have := LMc31.out; omega); intro v73 w42 ho hb hg hat; rw [← Ny66.out] at ho; have n_ := a2_ (hb) (ho); clear HB HO72; obtain ⟨HB, HO74⟩ := n_; clear ho hb hg hat))
       go_ret; exact ⟨z109_, z154_⟩
     ·
      replace c32 := Bool.eq_false_iff.mpr c32; subst c32; have H1 := ff_ H; clear H; have H := H1; clear H1; obtain rfl := sj_ H
      go_wp2_with (first | ((with_reducible refine gate_builtin (b := .append) (xs := #[.const (.slice none 0 0), .tmp 79]) rfl ?_); at_builtin; refine Kd.R_append_rows Kd.string (w0 := w) w.heap.size rfl (.const (.slice none 0 0)) (.tmp 79) 23 9 (.string ⟨#[]⟩) 16 rfl Tryz.underlying23 info9 rfl z77_ z131_ (.slice none 0 0) ([] : List ByteArray) l2 _ _ _ (fun _ => True) (fun _ => False) rfl rfl ?aO ?aR (fun _ _ h => h) (fun _ h => h.elim) ?aF ?aB ?aS ?aL ?_; (case aR => exact z165_); (case aB => exact z154_); (case aF => exact (fun _ _ => trivial)); (case aO => exact ((Kd.R_nil _ _ _ _ (fun _ => True)))); (case aS => exact (below_size z154_)); (case aL => have := LMc29.out; omega); intro v68 w43 ho hb hg hat; rw [← Ny62.out] at ho; have n_ := a2_ (hb) (ho); clear HB; obtain ⟨HB, HO69⟩ := n_; clear ho hb hg hat) | ((with_reducible refine gate_builtin (b := .append) (xs := #[.tmp 80, .tmp 81]) rfl ?_); at_builtin; refine Kd.R_append_rows Kd.string (w0 := w) w.heap.size rfl (.tmp 80) (.tmp 81) 23 9 (.string ⟨#[]⟩) 16 rfl Tryz.underlying23 info9 rfl z77_ z131_ v68 y62 l1 _ _ _ (fun _ => True) (fun _ => False) rfl rfl ?aO ?aR (fun _ _ h => h) (fun _ h => h.elim) ?aF ?aB ?aS ?aL ?_; (case aR => exact z163_); (case aB => exact z154_); (case aF => exact (fun _ _ => trivial)); (case aO => exact z19_); (case aS => exact (below_size z154_)); (case aL => have := LMc30.out; omega); intro v71 w44 ho hb hg hat; rw [← Ny63.out] at ho; have n_ := a2_ (hb) (ho); clear HB HO69; obtain ⟨HB, HO72⟩ := n_; clear ho hb hg hat) | ((with_reducible refine gate_builtin (b := .append) (xs := #[.tmp 82, .tmp 83]) rfl ?_); at_builtin; refine Kd.R_append_rows Kd.string (w0 := w) w.heap.size rfl (.tmp 82) (.tmp 83) 23 9 (.string ⟨#[]⟩) 16 rfl Tryz.underlying23 info9 rfl z77_ z131_ v71 y63 l2 _ _ _ (fun _ => True) (fun _ => False) rfl rfl ?aO ?aR (fun _ _ h => h) (fun _ h => h.elim) ?aF ?aB ?aS ?aL ?_; (case aR => exact z165_); (case aB => exact z154_); (case aF => exact (fun _ _ => trivial)); (case aO => exact z21_); (case aS => exact (below_size z154_)); (case aL => have := LMc31.out; omega); intro v73 w45 ho hb hg hat; rw [← Ny66.out] at ho; have n_ := a2_ (hb) (ho); clear HB HO72; obtain ⟨HB, HO74⟩ := n_; clear ho hb hg hat))
      go_ret; exact ⟨z109_, z154_⟩
end Go.Proofs.YtbbmdakdghefnaaGreatDoor.T
/- Plain facts for Query: who matches has a word that weighs; more words match no less; QueryWeighs. -/
namespace Go.Proofs.YtbbmdakdghefnaaGreatDoor.Plain
set_option linter.unusedVariables false
set_option linter.unusedSimpArgs false
open Go.RowKit Go.Proofs.YtbbmdakdghefnaaGreatDoor.T Go.Proofs.YtbbmdakdghefnaaGreatDoorW.PrintWords Go.Proofs.YtbbmdakdghefnaaGreatDoorW.PrintLast Go.Proofs.YtbbmdakdghefnaaGreatDoorW.PrintMore
theorem rdB_nat (l : List Bool) (i : Nat) (h : i < l.length) : rdOf false l (i : Int) = l[i] := by
 unfold rdOf; rw [Int.toNat_natCast, List.getD_eq_getElem?_getD, List.getElem?_eq_getElem h]
 rfl
theorem stF_iff (w o : List ByteArray) : ∀ (d i : Nat), i + d = o.length + 1 → (stF w o d i = true ↔ ∃ j, i ≤ j ∧ j + w.length ≤ o.length ∧ (o.take (j + w.length)).drop j = w) := by
 intro d
 induction d with
 | zero =>
  intro i hd; simp only [stF, Bool.false_eq_true, false_iff]; rintro ⟨j, h1, h2, _⟩; omega
 | succ d ih =>
  intro i hd; rw [stF]
  by_cases h : i + w.length ≤ o.length
  ·
   rw [if_pos h, Bool.or_eq_true, decide_eq_true_eq, ih (i + 1) z131_]
   constructor
   ·
    rintro (h1 | ⟨j, h1, h2, h3⟩)
    · exact ⟨i, Nat.le_refl _, h, h1⟩
    · exact ⟨j, z131_, h2, h3⟩
   ·
    rintro ⟨j, h1, h2, h3⟩
    by_cases e : j = i
    · subst e; exact .inl h3
    · exact .inr ⟨j, z131_, h2, h3⟩
  ·
   rw [if_neg h]; simp only [Bool.false_eq_true, false_iff]; rintro ⟨j, h1, h2, _⟩; omega
theorem stands_iff (w o : List ByteArray) : standsP w o = true ↔ ∃ a b, o = a ++ (w ++ b) := by
 unfold standsP; rw [stF_iff w o (o.length + 1) 0 z131_]
 constructor
 ·
  rintro ⟨j, _, h2, h3⟩; refine ⟨o.take j, o.drop (j + w.length), ?_⟩
  have h4 : o.take (j + w.length) = o.take j ++ w := by
   have := (List.take_append_drop j (o.take (j + w.length))).symm; rw [h3, List.take_take, Nat.min_eq_left z131_] at this; exact this
  rw [← List.append_assoc, ← h4, List.take_append_drop]
 ·
  rintro ⟨a, b, rfl⟩; refine ⟨a.length, z131_, z183_, ?_⟩; rw [← List.append_assoc, List.take_left' z183_, List.drop_left' rfl]
theorem stands_more (w o m : List ByteArray) (h : standsP w o = true) : standsP w ((m ++ o) ++ m) = true := by
 obtain ⟨a, b, rfl⟩ := (stands_iff w o).1 h; exact (stands_iff w _).2 ⟨m ++ a, b ++ m, z183_⟩
theorem right_leaf {x : S37} {p : Int} (h : rightP x p = true) (h2 : x.f0 ≠ 2) (h3 : x.f0 ≠ 3) (h4 : x.f0 ≠ 4) : 0 < x.f1.length := by
 unfold rightP kindP at h; rw [Bool.and_eq_true] at h; have hk := h.2
 by_cases e0 : x.f0 = 0
 ·
  rw [if_pos e0] at hk; simp only [Bool.and_eq_true, decide_eq_true_eq] at hk; omega
 ·
  rw [if_neg e0] at hk
  by_cases e1 : x.f0 = 1
  ·
   rw [if_pos e1] at hk; simp only [Bool.and_eq_true, decide_eq_true_eq] at hk; omega
  ·
   rw [if_neg e1, if_neg z131_] at hk; cases hk
theorem rd_bool (l : List Bool) (a : Int) (h0 : 0 ≤ a) (h1 : a < (l.length : Int)) : ∃ n : Nat, ∃ h : n < l.length, a = (n : Int) ∧ rdOf false l a = l[n] := by
 obtain ⟨n, rfl⟩ : ∃ n : Nat, a = (n : Int) := ⟨a.toNat, z131_⟩; have hn : n < l.length := z131_; exact ⟨n, hn, rfl, rdB_nat l n hn⟩
def InvB (o : List ByteArray) (rows : List (List ByteArray)) (bs : List Bool) : Prop := rows.length = bs.length ∧ ∀ (j : Nat) (h : j < bs.length) (h' : j < rows.length), bs[j] = true → ∃ t ∈ rows[j], t ∈ o
theorem rowP_mem (rows : List (List ByteArray)) (x : S37) (t : ByteArray) : t ∈ rowP rows x ↔ t ∈ rowFrom rows x := by
 unfold rowP; rw [fold_mem]
 simp
theorem step_has (o : List ByteArray) (rows : List (List ByteArray)) (bs : List Bool) (x : S37) (hi : InvB o rows bs) (hr : rightP x (bs.length : Int) = true) (h : stepM o bs x = true) : ∃ t ∈ rowP rows x, t ∈ o := by
 obtain ⟨hl, hh⟩ := hi; obtain ⟨_, hop⟩ := right_told hr
 have hA : ∀ a : Int, 0 ≤ a → a < (bs.length : Int) → rdOf false bs a = true → ∃ t ∈ rd_L3 rows a, t ∈ o := by
  intro a h0 h1 h2; obtain ⟨n, hn, rfl, e⟩ := rd_bool bs a h0 h1; rw [e] at h2; rw [rdL3_nat rows n z131_]; exact hh n hn z131_ h2
 unfold stepM at h
 by_cases e2 : x.f0 = 2
 ·
  rw [if_pos e2, Bool.and_eq_true] at h
  obtain ⟨_, _, a1, a2, b1, b2⟩ : (x.f0 = 2 ∨ x.f0 = 3 ∨ x.f0 = 4) ∧ x.f1 = [] ∧ 0 ≤ x.f2 ∧ x.f2 < (bs.length : Int) ∧ 0 ≤ x.f3 ∧ x.f3 < (bs.length : Int) := by
   rcases hop with ⟨e, _⟩ | e
   · omega
   · exact e
  obtain ⟨t, h1, h2⟩ := hA _ a1 a2 h.1; refine ⟨t, (rowP_mem _ _ _).2 ?_, h2⟩; unfold rowFrom; rw [if_pos z131_]; simp [h1]
 ·
  rw [if_neg e2] at h
  by_cases e3 : x.f0 = 3
  ·
   rw [if_pos e3, Bool.or_eq_true] at h
   obtain ⟨_, _, a1, a2, b1, b2⟩ : (x.f0 = 2 ∨ x.f0 = 3 ∨ x.f0 = 4) ∧ x.f1 = [] ∧ 0 ≤ x.f2 ∧ x.f2 < (bs.length : Int) ∧ 0 ≤ x.f3 ∧ x.f3 < (bs.length : Int) := by
    rcases hop with ⟨e, _⟩ | e
    · omega
    · exact e
   rcases h with h | h
   ·
    obtain ⟨t, h1, h2⟩ := hA _ a1 a2 h; refine ⟨t, (rowP_mem _ _ _).2 ?_, h2⟩; unfold rowFrom; rw [if_pos z131_]; simp [h1]
   ·
    obtain ⟨t, h1, h2⟩ := hA _ b1 b2 h; refine ⟨t, (rowP_mem _ _ _).2 ?_, h2⟩; unfold rowFrom; rw [if_pos (show x.f0 = 2 ∨ x.f0 = 3 from .inr e3)]; simp [h1]
  ·
   rw [if_neg e3] at h
   by_cases e4 : x.f0 = 4
   ·
    rw [if_pos e4, Bool.and_eq_true] at h
    obtain ⟨_, _, a1, a2, b1, b2⟩ : (x.f0 = 2 ∨ x.f0 = 3 ∨ x.f0 = 4) ∧ x.f1 = [] ∧ 0 ≤ x.f2 ∧ x.f2 < (bs.length : Int) ∧ 0 ≤ x.f3 ∧ x.f3 < (bs.length : Int) := by
     rcases hop with ⟨e, _⟩ | e
     · omega
     · exact e
    obtain ⟨t, h1, h2⟩ := hA _ a1 a2 h.1; refine ⟨t, (rowP_mem _ _ _).2 ?_, h2⟩; unfold rowFrom; rw [if_pos z131_]; simp [h1]
   ·
    rw [if_neg e4] at h; have hp := right_leaf hr e2 e3 e4; obtain ⟨a, b, e⟩ := (stands_iff _ _).1 h; have hm : x.f1[0] ∈ x.f1 := List.getElem_mem hp; refine ⟨x.f1[0], (rowP_mem _ _ _).2 ?_, ?_⟩
    ·
     unfold rowFrom; simp [hm]
    ·
     rw [e]; simp [hm]
theorem inv_all (o : List ByteArray) : ∀ (q : List S37) (rows : List (List ByteArray)) (bs : List Bool), InvB o rows bs → (∀ (j : Nat) (h : j < q.length), rightP q[j] ((bs.length + j : Nat) : Int) = true) → InvB o (rowsP q rows) (boolsP o q bs)
 | [], rows, bs, hi, _ => hi
 | x :: q, rows, bs, hi, hr => by
  have h0 := hr 0 z183_; simp only [List.getElem_cons_zero, Nat.add_zero] at h0; refine inv_all o q (rows ++ [rowP rows x]) (bs ++ [stepM o bs x]) ⟨by simp [hi.1], fun j h h' hb => ?_⟩ (fun j h => ?_)
  ·
   by_cases e : j < bs.length
   ·
    rw [List.getElem_append_left e] at hb; rw [List.getElem_append_left (by have := hi.1; omega)]; exact hi.2 j e _ hb
   ·
    have hj : j = bs.length := by simp at h; omega
    subst hj
    have hb2 : stepM o bs x = true := by simpa using hb
    have := step_has o rows bs x hi h0 hb2; have hl := hi.1
    simpa [List.getElem_append, hl] using this
  ·
   have := hr (j + 1) z187_; simp only [List.getElem_cons_succ] at this
   simpa [Nat.add_comm, Nat.add_left_comm, Nat.add_assoc] using this
/-- Who matches has a word that weighs. -/
theorem match_has (q : List S37) (o : List ByteArray) (h : matchP q o = true) : ∃ t ∈ termsP q, t ∈ o := by
 unfold matchP at h; rw [Bool.and_eq_true] at h; obtain ⟨hm, hb⟩ := h; obtain ⟨h0, h12, hr, _⟩ := mayP_told hm; have hr' := (allR_told q q.length 0 z131_).1 hr; have hi := inv_all o q [] [] ⟨rfl, fun j h => by simp at h⟩ (fun j h => by simpa using hr' j h z131_)
 have hbl : (boolsP o q []).length = q.length := by rw [boolsP_len]; simp
 obtain ⟨n, hn, e1, e2⟩ := rd_bool (boolsP o q []) ((q.length - 1 : Nat) : Int) z131_ z131_; rw [e2] at hb; unfold termsP lastRow; rw [if_pos hm, e1, rdL3_nat _ n (by have := hi.1; omega)]; exact hi.2 n hn (by have := hi.1; omega) hb
theorem bools_more (o o' : List ByteArray) (ho : ∀ w, standsP w o = true → standsP w o' = true) : ∀ (q : List S37) (bs bs' : List Bool), (∀ x ∈ q, x.f0 ≠ 4) → bs.length = bs'.length → (∀ (j : Nat) (h : j < bs.length) (h' : j < bs'.length), bs[j] = true → bs'[j] = true) → (∀ (j : Nat) (h : j < q.length), rightP q[j] ((bs.length + j : Nat) : Int) = true) → ∀ (j : Nat) (h : j < (boolsP o q bs).length) (h' : j < (boolsP o' q bs').length), (boolsP o q bs)[j] = true → (boolsP o' q bs')[j] = true
 | [], bs, bs', _, _, hh, _ => hh
 | x :: q, bs, bs', h4, hl, hh, hr => by
  have h0 := hr 0 z183_; simp only [List.getElem_cons_zero, Nat.add_zero] at h0; obtain ⟨_, hop⟩ := right_told h0
  have hA : ∀ a : Int, 0 ≤ a → a < (bs.length : Int) → rdOf false bs a = true → rdOf false bs' a = true := by
   intro a p0 p1 p2; obtain ⟨n, hn, rfl, e⟩ := rd_bool bs a p0 p1; rw [e] at p2; rw [rdB_nat bs' n z131_]; exact hh n hn z131_ p2
  have hs : stepM o bs x = true → stepM o' bs' x = true := by
   intro h; unfold stepM at h ⊢; have e4 := h4 x z183_
   rcases hop with ⟨e, _⟩ | ⟨e, _, a1, a2, b1, b2⟩
   ·
    rw [if_neg z131_, if_neg z131_, if_neg z131_] at h ⊢; exact ho _ h
   ·
    by_cases e2 : x.f0 = 2
    ·
     rw [if_pos e2, Bool.and_eq_true] at h ⊢; exact ⟨hA _ a1 a2 h.1, hA _ b1 b2 h.2⟩
    ·
     have e3 : x.f0 = 3 := z131_; rw [if_neg e2, if_pos e3, Bool.or_eq_true] at h ⊢; exact h.imp (hA _ a1 a2) (hA _ b1 b2)
  refine bools_more o o' ho q (bs ++ [stepM o bs x]) (bs' ++ [stepM o' bs' x]) (fun y hy => h4 y (List.mem_cons_of_mem _ hy)) (by simp [hl]) (fun j h h' hb => ?_) (fun j h => ?_)
  ·
   by_cases e : j < bs.length
   ·
    rw [List.getElem_append_left e] at hb; rw [List.getElem_append_left z131_]; exact hh j e _ hb
   ·
    have hj : j = bs.length := by simp at h; omega
    subst hj
    have hb2 : stepM o bs x = true := by simpa using hb
    have := hs hb2
    simpa [List.getElem_append, hl] using this
  ·
   have := hr (j + 1) z187_; simp only [List.getElem_cons_succ] at this
   simpa [Nat.add_comm, Nat.add_left_comm, Nat.add_assoc] using this
/-- More words match no less, where nothing is taken away. -/
theorem match_more (q : List S37) (o o' : List ByteArray) (ho : ∀ w, standsP w o = true → standsP w o' = true) (h4 : ∀ x ∈ q, x.f0 ≠ 4) (h : matchP q o = true) : matchP q o' = true := by
 unfold matchP at h ⊢; rw [Bool.and_eq_true] at h ⊢; obtain ⟨hm, hb⟩ := h; obtain ⟨h0, h12, hr, _⟩ := mayP_told hm; have hr' := (allR_told q q.length 0 z131_).1 hr
 have h1 : (boolsP o q []).length = q.length := by rw [boolsP_len]; simp
 have h2 : (boolsP o' q []).length = q.length := by rw [boolsP_len]; simp
 refine ⟨hm, ?_⟩; have hn : q.length - 1 < q.length := z131_; rw [rdB_nat _ (q.length - 1) z131_] at hb ⊢; exact bools_more o o' ho q [] [] h4 rfl (fun j h => by simp at h) (fun j h => by simpa using hr' j h z131_) _ _ _ hb
theorem has_loop (l : List ByteArray) (t : ByteArray) (hl : l.length ≤ 1000000) : ∀ (d i k : Nat), i + d = l.length → d < k → f36.l0 k l t (i : Int) = some (decide (t ∈ l.drop i)) := by
 intro d
 induction d with
 | zero =>
  intro i k hd hk; obtain ⟨k, rfl⟩ : ∃ m, k = m + 1 := ⟨k - 1, z131_⟩; rw [f36.l0, if_neg z131_, List.drop_eq_nil_of_le z131_]
  simp
 | succ d ih =>
  intro i k hd hk; obtain ⟨k, rfl⟩ : ∃ m, k = m + 1 := ⟨k - 1, z131_⟩; have hi : i < l.length := z131_; rw [f36.l0, if_pos z131_, if_pos z131_, rdOf_nat l i hi, Plain.w1 i z131_, ih (i + 1) k z131_ z131_, List.drop_eq_getElem_cons hi]
  by_cases h : l[i] = t
  ·
   rw [if_pos (by rw [h])]; simp [h]
  ·
   rw [if_neg (fun e => h (list_inj e))]; exact congrArg some (decide_eq_decide.2 ⟨fun e => List.mem_cons_of_mem _ e, fun e => (List.mem_cons.1 e).resolve_left (fun e => h e.symm)⟩)
theorem has_eq (l : List ByteArray) (t : ByteArray) (hl : l.length ≤ 1000000) (k : Nat) (hk : l.length < k) : f36.f k l t = some (decide (t ∈ l)) := by
 have := has_loop l t hl l.length 0 k z131_ hk
 simpa [f36.f] using this
theorem weighs_l1 (q : List S37) (w m : List ByteArray) (any : Bool) (hq : q.length ≤ 14) (h8 : ∀ x ∈ q, x.f1.length ≤ 8) (hw : w.length ≤ 130) (hm : m.length ≤ 130) : ∀ (d i k : Nat) (pl : Bool), i + d = q.length → 5001 + d ≤ k →
  catchwordlaw18_QueryWeighs.l1 k q w m any pl (i : Int) = if any = true then (if (pl && (q.drop i).all (fun x => x.f0 != 4)) = true then some (matchP q ((m ++ w) ++ m)) else some true) else some false := by
 intro d
 induction d with
 | zero =>
  intro i k pl hd hk; obtain ⟨k, rfl⟩ : ∃ m, k = m + 1 := ⟨k - 1, z131_⟩; rw [catchwordlaw18_QueryWeighs.l1, if_neg z131_, List.drop_eq_nil_of_le (show q.length ≤ i from z131_), if_pos (by simp only [List.length_nil]; omega), Option.bind_some, if_pos z185_, Option.bind_some, if_pos z185_, qmatch_eq q _ z185_ hq h8 k z131_]
  simp
 | succ d ih =>
  intro i k pl hd hk; obtain ⟨k, rfl⟩ : ∃ m, k = m + 1 := ⟨k - 1, z131_⟩; have hi : i < q.length := z131_; rw [catchwordlaw18_QueryWeighs.l1, if_pos z131_, rd37 q i hi, Plain.w1 i z131_, List.drop_eq_getElem_cons hi, List.all_cons]; cases pl
  ·
   rw [if_neg z77_, ih (i + 1) k false z131_ z131_]
   simp
  ·
   rw [if_pos rfl, if_pos z131_, ih (i + 1) k _ z131_ z131_]
   simp
theorem weighs_l0 (q : List S37) (w m ts : List ByteArray) (hw : w.length ≤ 130) (ht : ts.length ≤ 6) : ∀ (d i k : Nat) (any : Bool), i + d = ts.length → 1000 + d ≤ k →
  catchwordlaw18_QueryWeighs.l0 k q w m ts any (i : Int) = catchwordlaw18_QueryWeighs.l1 (k - d - 1) q w m (any || (ts.drop i).any (fun t => decide (t ∈ w))) true 0 := by
 intro d
 induction d with
 | zero =>
  intro i k any hd hk; obtain ⟨k, rfl⟩ : ∃ m, k = m + 1 := ⟨k - 1, z131_⟩; rw [catchwordlaw18_QueryWeighs.l0, if_neg z131_, List.drop_eq_nil_of_le (show ts.length ≤ i from z131_)]
  simp
 | succ d ih =>
  intro i k any hd hk; obtain ⟨k, rfl⟩ : ∃ m, k = m + 1 := ⟨k - 1, z131_⟩; have hi : i < ts.length := z131_; rw [catchwordlaw18_QueryWeighs.l0, if_pos z131_, if_pos z131_, rdOf_nat ts i hi, Plain.w1 i z131_, has_eq w _ z131_ k z131_, Option.bind_some, List.drop_eq_getElem_cons hi, List.any_cons]; cases any
  ·
   rw [if_neg z77_, ih (i + 1) k _ z131_ z131_, show k + 1 - (d + 1) - 1 = k - d - 1 from z131_]
   simp
  ·
   rw [if_pos rfl, ih (i + 1) k _ z131_ z131_, show k + 1 - (d + 1) - 1 = k - d - 1 from z131_]
   simp
/-- QueryWeighs, as a plain law. -/
theorem weighs_true (q : List S37) (w m : List ByteArray) (k : Nat) (hk : 8000 ≤ k) : catchwordlaw18_QueryWeighs.f k q w m = some true := by
 obtain ⟨k, rfl⟩ : ∃ m, k = m + 1 := ⟨k - 1, z131_⟩; obtain ⟨b1, h1, h2⟩ := few_told q (k + 1) z131_; obtain ⟨b2, h3, h4⟩ := words_told w (k + 1) z131_; obtain ⟨b3, h5, h6⟩ := words_told m (k + 1) z131_
 have hj : catchwordlaw18_QueryWeighs.j0 (k + 1) q w m true true = some true := by rw [catchwordlaw18_QueryWeighs.j0, if_pos rfl]
 unfold catchwordlaw18_QueryWeighs.f f80.f; rw [Option.bind_some, h1, Option.bind_some, h3, Option.bind_some, h5, Option.bind_some, if_pos rfl]; cases b1
 · rw [if_neg z77_, hj]
 obtain ⟨hq, h8⟩ := h2 rfl; rw [if_pos rfl]; cases b2
 · rw [if_neg z77_, hj]
 have hw := h4 rfl; rw [if_pos rfl]; cases b3
 · rw [if_neg z77_, hj]
 have hm := h6 rfl; rw [if_pos rfl, qmatch_eq q w z131_ hq h8 (k + 1) z131_, Option.bind_some]
 cases hM : matchP q w
 · rw [show (!false) = true from rfl, hj]
 ·
  have ht := termsP_len q; obtain ⟨t, t1, t2⟩ := match_has q w hM; have hany : (termsP q).any (fun t => decide (t ∈ w)) = true := List.any_eq_true.2 ⟨t, t1, by simpa using t2⟩; have e0 := weighs_l0 q w m (termsP q) hw ht (termsP q).length 0 k false z131_ z131_; have e1 := weighs_l1 q w m true hq h8 hw hm q.length 0 (k - (termsP q).length - 1) true z131_ z131_; simp only [Int.natCast_zero, List.drop_zero, Bool.false_or, hany, Bool.true_and, if_true] at e0 e1; rw [show (!true) = false from rfl, catchwordlaw18_QueryWeighs.j0, if_neg z77_, qterms_eq q hq h8 k z131_, Option.bind_some]; refine e0.trans (e1.trans ?_)
  split
  ·
   rename_i hp
   rw [match_more q w ((m ++ w) ++ m) (fun v hv => stands_more v w m hv) (fun x hx => by simpa using List.all_eq_true.1 hp x hx) hM]
  · rfl
theorem QueryWeighs (q : List S37) (w m : List ByteArray) : ∃ k, catchwordlaw18_QueryWeighs.f k q w m = some true := ⟨8000, weighs_true q w m 8000 z131_⟩
end Go.Proofs.YtbbmdakdghefnaaGreatDoor.Plain
