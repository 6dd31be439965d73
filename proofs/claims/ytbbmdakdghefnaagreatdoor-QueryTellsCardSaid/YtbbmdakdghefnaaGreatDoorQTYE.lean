import Derived.Test.YtbbmdakdghefnaaGreatDoorQTP
import Derived.Test.YtbbmdakdghefnaaGreatDoorQTU
import Derived.Test.YtbbmdakdghefnaaGreatDoorQTYD
/- Texts of this claim, laid together by a program (merge.py): Aw, Tx24, PQ. -/
set_option maxHeartbeats 8000000
set_option maxRecDepth 100000
namespace Go.Proofs.YtbbmdakdghefnaaGreatDoor.T
open Go.RowKit Go.Proofs.YtbbmdakdghefnaaGreatDoorW.PrintWords Go.Proofs.YtbbmdakdghefnaaGreatDoorW.PrintLast Go.Proofs.YtbbmdakdghefnaaGreatDoorW.PrintMore
attribute [local go_sem] max2_int min2_int max_two min_two max_three min_three max_four min_four
set_option linter.unusedVariables false
set_option linter.unusedSimpArgs false
def awQ : ByteArray := ⟨#[97, 32, 98, 43, 99, 32, 38, 32, 100, 32, 33]⟩
def awT : List S37 := [⟨0, [⟨#[97]⟩], 0, 0⟩, ⟨1, [⟨#[98]⟩, ⟨#[99]⟩], 0, 0⟩, ⟨2, [], 0, 1⟩, ⟨0, [⟨#[100]⟩], 0, 0⟩, ⟨4, [], 2, 3⟩]
def awX : S55 := ⟨⟨#[120]⟩, 0, [⟨#[98]⟩, ⟨#[99]⟩, ⟨#[97]⟩]⟩
def awY : S55 := ⟨⟨#[121]⟩, 0, [⟨#[97]⟩, ⟨#[98]⟩, ⟨#[99]⟩, ⟨#[100]⟩]⟩
def awO : List S71 := [⟨⟨#[98]⟩, [⟨0, [0]⟩, ⟨1, [1]⟩]⟩, ⟨⟨#[99]⟩, [⟨0, [1]⟩, ⟨1, [2]⟩]⟩, ⟨⟨#[97]⟩, [⟨0, [2]⟩, ⟨1, [0]⟩]⟩, ⟨⟨#[100]⟩, [⟨1, [3]⟩]⟩]
def awS : List S71 := [⟨⟨#[97]⟩, [⟨0, [2]⟩, ⟨1, [0]⟩]⟩, ⟨⟨#[98]⟩, [⟨0, [0]⟩, ⟨1, [1]⟩]⟩, ⟨⟨#[99]⟩, [⟨0, [1]⟩, ⟨1, [2]⟩]⟩, ⟨⟨#[100]⟩, [⟨1, [3]⟩]⟩]
theorem aw_read : f42.f 60 awQ = some (awT, 0) := by kernel_rfl
theorem aw_mayx : f65.f 60 awX.f0 awX.f1 awX.f2 = some true := by kernel_rfl
theorem aw_mayy : f65.f 60 awY.f0 awY.f1 awY.f2 = some true := by kernel_rfl
theorem aw_terms : f78.l0 60 [awX, awY] 0 [] = some awO := by kernel_rfl
def f87.f : Option Bool := some true
def f121.f (k : Nat) (l0_0 : List ByteArray) (l0_1 : List Int) (l0_2 : List Int) (l0_3 : List (S71)) (a0_4 : Bool) (l1 : List (S37)) (a2 : Int) (a3 : Int) : Option (Bool) := if a2 = 0 then (if a3 = 0 then (if (l1.length : Int) = 5 then ((f44.f k l1).bind fun t10 => (if t10 = true then ((f76.f k l1).bind fun t11 => ((f16.f k t11 (([(⟨#[97]⟩ : ByteArray), (⟨#[98]⟩ : ByteArray), (⟨#[99]⟩ : ByteArray)] : List ByteArray))).bind fun t12 => (if t12 = true then ((f17.f k l1 (([(⟨#[98]⟩ : ByteArray), (⟨#[99]⟩ : ByteArray), (⟨#[97]⟩ : ByteArray)] : List ByteArray))).bind fun t13 => (if t13 = true then ((f17.f k l1 (([(⟨#[98]⟩ : ByteArray), (⟨#[97]⟩ : ByteArray), (⟨#[99]⟩ : ByteArray)] : List ByteArray))).bind fun t14 => (if t14 = true then (some false) else ((f69.f k l1 l0_0 l0_1 l0_2 l0_3 a0_4 (([true, true] : List Bool))).bind fun t15 => ((f36.f k t15 (([0] : List Int))).bind fun t16 => (some t16))))) else (some false))) else (some false)))) else (some false))) else (some false)) else (some false)) else (some false)
theorem aw9 : f121.f 60 [⟨#[120]⟩, ⟨#[121]⟩] [0, 0] [3, 4] awS false awT 0 0 = some true := by kernel_rfl
theorem awS_uniq {s : List S71} (hp : s.Perm awO) (hq : s.Pairwise (fun x y => cmpN x.f0 y.f0 < 0)) : s = awS := by
 have hs : awS.Pairwise (fun x y => cmpN x.f0 y.f0 < 0) := z81_; refine List.Perm.eq_of_pairwise (fun a b _ _ h1 h2 => ?_) hq hs (hp.trans ?_)
 ·
  have := cmpN_anti a.f0 b.f0; omega
 · exact List.perm_middle (l₁ := [_, _]) (l₂ := [_])
theorem raw_new (W : World) (x y : RC) : Kd.C rawC (W.alloc (.cells (encC x ++ encC y).toArray 55)) (some ⟨W.heap.size, 0, none⟩) 2 [x, y] := by
 refine ⟨rfl, z81_, fun _ => ⟨_, rfl, fun j p hj => ?_⟩⟩; obtain ⟨hl, hp⟩ := List.getElem?_eq_some_iff.1 hj; have hl : j < 2 := hl
 rcases (show j = 0 ∨ j = 1 from z143_) with rfl | rfl
 ·
  obtain rfl : x = p := by simpa using hp
  refine ⟨encC x, rfl, rfl, fun i u hu => ?_⟩; have hi : i < 3 := (List.getElem?_eq_some_iff.1 hu).1
  rcases (show i = 0 ∨ i = 1 ∨ i = 2 from z143_) with rfl | rfl | rfl
  · exact (blk_cell (blk_new W _) 0).trans hu
  · exact (blk_cell (blk_new W _) 1).trans hu
  · exact (blk_cell (blk_new W _) 2).trans hu
 ·
  obtain rfl : y = p := by simpa using hp
  refine ⟨encC y, rfl, rfl, fun i u hu => ?_⟩; have hi : i < 3 := (List.getElem?_eq_some_iff.1 hu).1
  rcases (show i = 0 ∨ i = 1 ∨ i = 2 from z143_) with rfl | rfl | rfl
  · exact (blk_cell (blk_new W _) 3).trans hu
  · exact (blk_cell (blk_new W _) 4).trans hu
  · exact (blk_cell (blk_new W _) 5).trans hu
theorem build_aw (A10 A12 : Option Addr) (c10 c12 : Nat) (a : Addr) (c : Nat) (w : World) (hC : Kd.C rawC w (some a) 2 [(awX, (A10, c10)), (awY, (A12, c12))]) (hc : 2 ≤ c) (h10 : 3 ≤ c10) (h12 : 4 ≤ c12) (hw10 : Kd.C Kd.string w A10 3 awX.f2) (hw12 : Kd.C Kd.string w A12 4 awY.f2) :
  Calls Tryz.prog 29 #[.slice (some a) 2 c, .bool false] w fun e w' => ∃ A0 c0 A1 c1 A2 c2 A3 c3, ∃ (l0_0 : List ByteArray) (l0_1 l0_2 : List Int) (l0_3 : List S71), e = .returned (.tuple #[.agg #[.slice A0 l0_0.length c0, .slice A1 l0_1.length c1, .slice A2 l0_2.length c2, .slice A3 l0_3.length c3, .bool false], .int .i64 0]) ∧
   (l0_0.length ≤ c0 ∧ l0_1.length ≤ c1 ∧ l0_2.length ≤ c2 ∧ l0_3.length ≤ c3) ∧ Kd.C Kd.string w' A0 l0_0.length l0_0 ∧ Kd.C (Kd.int .i64) w' A1 l0_1.length l0_1 ∧ Kd.C (Kd.int .i64) w' A2 l0_2.length l0_2 ∧ Kd.C k71 w' A3 l0_3.length l0_3 ∧ f121.f 60 l0_0 l0_1 l0_2 l0_3 false awT 0 0 = some true ∧ Below w.heap.size w w' := by
 refine (build2 60 60 (awX, (A10, c10)) (awY, (A12, c12)) a c awO w hC h10 h12 hw10 hw12 hc (show 0 ≤ cmpN awY.f0 awX.f0 from z81_) (of_decide_eq_false (z140_ : decide (awY.f0.toList = awX.f0.toList) = false)) aw_mayx aw_mayy aw_terms z81_ z81_ z81_).mono ?_; rintro e w' ⟨A0, c0, A1, c1, A2, c2, A3, c3, s, rfl, ⟨q0, q1, q2, q3⟩, h0, h1, h2, hpm, hpw, h3, hb⟩; obtain rfl := awS_uniq hpm hpw; exact ⟨A0, c0, A1, c1, A2, c2, A3, c3, [⟨#[120]⟩, ⟨#[121]⟩], [0, 0], [3, 4], awS, rfl, ⟨q0, q1, q2, q3⟩, h0, h1, h2, h3, aw9, hb⟩
theorem f87.calls (r : Bool) (w : World) (hG : GG w) (h : f87.f = some r) :
  Calls Tryz.prog 9 #[] w fun e w' => e = .returned (.bool r) ∧ Below w.heap.size w w' := by
 have hu45 := Tryz.underlying45; have HRT := A_ (show r = true from (Option.some.inj h).symm); have HG := A_ hG; clear h hG; obtain ⟨l1, hl1⟩ : ∃ l, l = awT := ⟨_, rfl⟩; have ER := A_ (show f42.f 60 awQ = some (l1, 0) from hl1 ▸ aw_read); have HL1 := A_ hl1; clear hl1; have HA := A_ (Below.refl w.heap.size w); go_enter Tryz.func9, Tryz.ntmps9
 go_upto_region 3 with (first
  | (go_at_call 19; (refine (f42.calls 60 awQ l1 0 _ HG.out ER.out).mono ?_); rintro e w1 ⟨v0_, rfl, hs, hb⟩; obtain ⟨A1, c1, ev, hcap, hC1⟩ := Kd.S_reads hs; subst ev; have HR1 := A_ hC1; have HC1 := A_ hcap; have HA2 := A_ (below_step HA.out hb); clear hs hb hC1 hcap HA; have HA := HA2; clear HA2)
  | ((with_reducible refine gate_dst (N := 10) rfl ?_); refine Kd.R_lit Kd.string _ 9 ?hg (N := 10) ?hd (xs := ([(⟨#[98]⟩ : ByteArray), (⟨#[99]⟩ : ByteArray), (⟨#[97]⟩ : ByteArray)] : List ByteArray)) (inner := [.string (⟨#[98]⟩ : ByteArray), .string (⟨#[99]⟩ : ByteArray), .string (⟨#[97]⟩ : ByteArray)]) (ok := fun _ => True) (okp := fun _ => True) ?hr ?hp (fun _ hk => hk) trivial (Below.refl _ _) (Nat.le_refl _) z198_ ?_; (case hd => rfl); (case hg => rfl); (case hr => exact z82_); (case hp => exact (Reps.one (show Kd.M Kd.string _ _ _ (⟨#[98]⟩ : ByteArray) [.string (⟨#[98]⟩ : ByteArray)] from rfl) (Reps.one (show Kd.M Kd.string _ _ _ (⟨#[99]⟩ : ByteArray) [.string (⟨#[99]⟩ : ByteArray)] from rfl) (Reps.one (show Kd.M Kd.string _ _ _ (⟨#[97]⟩ : ByteArray) [.string (⟨#[97]⟩ : ByteArray)] from rfl) (Reps.none _ _))))); intro v10 wl10 ho hb hg_ hnew_; clear hg_ hnew_; obtain ⟨A10, c10, ev⟩ := Kd.R_slice ho; subst ev; have HO10 := A_ (Kd.R_mono ho (fun _ _ => trivial)); have HR1_ := A_ (Kd.C_below HR1.out hb); have HA2 := A_ (below_step HA.out hb); clear ho hb HA HR1; have HA := HA2; have HR1 := HR1_; clear HA2 HR1_)
  | ((with_reducible refine gate_dst (N := 12) rfl ?_); refine Kd.R_lit Kd.string _ 9 ?hg (N := 12) ?hd (xs := ([(⟨#[97]⟩ : ByteArray), (⟨#[98]⟩ : ByteArray), (⟨#[99]⟩ : ByteArray), (⟨#[100]⟩ : ByteArray)] : List ByteArray)) (inner := [.string (⟨#[97]⟩ : ByteArray), .string (⟨#[98]⟩ : ByteArray), .string (⟨#[99]⟩ : ByteArray), .string (⟨#[100]⟩ : ByteArray)]) (ok := fun _ => True) (okp := fun _ => True) ?hr ?hp (fun _ hk => hk) trivial (Below.refl _ _) (Nat.le_refl _) z198_ ?_; (case hd => rfl); (case hg => rfl); (case hr => exact z82_); (case hp => exact (Reps.one (show Kd.M Kd.string _ _ _ (⟨#[97]⟩ : ByteArray) [.string (⟨#[97]⟩ : ByteArray)] from rfl) (Reps.one (show Kd.M Kd.string _ _ _ (⟨#[98]⟩ : ByteArray) [.string (⟨#[98]⟩ : ByteArray)] from rfl) (Reps.one (show Kd.M Kd.string _ _ _ (⟨#[99]⟩ : ByteArray) [.string (⟨#[99]⟩ : ByteArray)] from rfl) (Reps.one (show Kd.M Kd.string _ _ _ (⟨#[100]⟩ : ByteArray) [.string (⟨#[100]⟩ : ByteArray)] from rfl) (Reps.none _ _)))))); intro v12 wl12 ho hb hg_ hnew_; clear hg_ hnew_; obtain ⟨A12, c12, ev⟩ := Kd.R_slice ho; subst ev; have HN10 := A_ (Kd.R_below HO10.out hb); clear HO10; have HO10 := HN10; clear HN10; have HO12 := A_ (Kd.R_mono ho (fun _ _ => trivial)); have HR1_ := A_ (Kd.C_below HR1.out hb); have HA2 := A_ (below_step HA.out hb); clear ho hb HA HR1; have HA := HA2; have HR1 := HR1_; clear HA2 HR1_)
  | (go_at_call 29; (refine (build_aw A10 A12 c10 c12 ⟨wl12.heap.size, 0, none⟩ 2 _ (raw_new wl12 (awX, (A10, c10)) (awY, (A12, c12))) (Nat.le_refl _) (Kd.R_reads' HO10.out).2.1 (Kd.R_reads' HO12.out).2.1 (Kd.C_alloc (Kd.R_reads' HO10.out).2.2 _) (Kd.C_alloc (Kd.R_reads' HO12.out).2.2 _)).mono ?_); rintro e w2 ⟨A0_0, c0_0, A0_1, c0_1, A0_2, c0_2, A0_3, c0_3, l0_0, l0_1, l0_2, l0_3, rfl, hcs, h0, h1, h2, h3, hE, hb⟩; have HR0_0 := A_ h0; have HR0_1 := A_ h1; have HR0_2 := A_ h2; have HR0_3 := A_ h3; have HC0_0 := A_ hcs.1; have HC0_1 := A_ hcs.2.1; have HC0_2 := A_ hcs.2.2.1; have HC0_3 := A_ hcs.2.2.2; have HE := A_ hE; have HR1_ := A_ (Kd.C_below (Kd.C_alloc HR1.out _) hb); have HA2 := A_ (below_step (below_alloc HA.out _) hb); clear hcs h0 h1 h2 h3 hE hb HA HO10 HO12 HR1; have HA := HA2; have HR1 := HR1_; clear HA2 HR1_; have HB := A_ (Below.refl w2.heap.size w2))
  | ((with_reducible refine gate_dst (N := 3) rfl ?_); (try (refine gate_guard (by rfl) ?_; dsimp only)); refine box_event ?hg (N := 3) ?hd (cs := #[.slice none 0 0, .slice none 0 0, .slice none 0 0, .slice none 0 0, .bool false]) (t := 45) ?hr ?_; (case hd => rfl); (case hg => rfl); (case hr => exact z82_); intro gb17 hg w35 hbox hb; have n_ := a4_ (below_step z167_ hb) (hbox) ((z216_ : w2.heap.size ≤ gb17)) ((z216_ : w2.heap.size ≤ gb17)); clear HB; obtain ⟨HB, BK17, GW17, GE17⟩ := n_; clear hb hbox hg; obtain ⟨hcz36_0, hcz36_1, hcz36_2, hcz36_3, hcz36_4, hfz36_0, hfz36_1, hfz36_2, hfz36_3, hfz36_4⟩ := b5_ BK17.out))
 have H : (if (0 : Int) = 0 then (if (0 : Int) = 0 then (if (l1.length : Int) = 5 then ((f44.f 60 l1).bind fun t18 => (if t18 = true then ((f76.f 60 l1).bind fun t19 => ((f16.f 60 t19 (([(⟨#[97]⟩ : ByteArray), (⟨#[98]⟩ : ByteArray), (⟨#[99]⟩ : ByteArray)] : List ByteArray))).bind fun t20 => (if t20 = true then ((f17.f 60 l1 (([(⟨#[98]⟩ : ByteArray), (⟨#[99]⟩ : ByteArray), (⟨#[97]⟩ : ByteArray)] : List ByteArray))).bind fun t21 => (if t21 = true then ((f17.f 60 l1 (([(⟨#[98]⟩ : ByteArray), (⟨#[97]⟩ : ByteArray), (⟨#[99]⟩ : ByteArray)] : List ByteArray))).bind fun t22 => (if t22 = true then (some false) else ((f69.f 60 l1 l0_0 l0_1 l0_2 l0_3 false (([true, true] : List Bool))).bind fun t23 => ((f36.f 60 t23 (([0] : List Int))).bind fun t24 => (some t24))))) else (some false))) else (some false)))) else (some false))) else (some false)) else (some false)) else (some false)) = some r := by rw [HRT.out, HL1.out]; exact HE.out
 by_cases c5 : (0 : Int) = 0
 ·
  rw [if_pos c5] at H; have c5b0 := beq_iff_eq.mpr c5; have c5b1 := bne_eq_false_iff_eq.mpr c5; clear c5
  by_cases c6 : (0 : Int) = 0
  ·
   rw [if_pos c6] at H; have c6b0 := beq_iff_eq.mpr c6; have c6b1 := bne_eq_false_iff_eq.mpr c6; clear c6
   by_cases c7 : (l1.length : Int) = 5
   ·
    rw [if_pos c7] at H; have c7b0 := beq_iff_eq.mpr c7; have c7b1 := bne_eq_false_iff_eq.mpr c7; clear c7; replace H := bm_ H; obtain ⟨t18, A80, H⟩ := H; have A8 := A_ A80; clear A80
    by_cases c9 : t18 = true
    ·
     subst c9; have H1 := tt_ H; clear H; have H := H1; clear H1; replace H := bm_ H; obtain ⟨t19, A25, H⟩ := H; have A10 := A_ A25; clear A25; obtain ⟨y26, hy26⟩ : ∃ y_ : List ByteArray, y_ = (([(⟨#[97]⟩ : ByteArray), (⟨#[98]⟩ : ByteArray), (⟨#[99]⟩ : ByteArray)] : List ByteArray)) := ⟨_, rfl⟩; replace H : ((f16.f 60 t19 y26).bind fun t20 => (if t20 = true then ((f17.f 60 l1 (([(⟨#[98]⟩ : ByteArray), (⟨#[99]⟩ : ByteArray), (⟨#[97]⟩ : ByteArray)] : List ByteArray))).bind fun t21 => (if t21 = true then ((f17.f 60 l1 (([(⟨#[98]⟩ : ByteArray), (⟨#[97]⟩ : ByteArray), (⟨#[99]⟩ : ByteArray)] : List ByteArray))).bind fun t22 => (if t22 = true then (some false) else ((f69.f 60 l1 l0_0 l0_1 l0_2 l0_3 false (([true, true] : List Bool))).bind fun t23 => ((f36.f 60 t23 (([0] : List Int))).bind fun t24 => (some t24))))) else (some false))) else (some false))) = some r := z99_; have Ny26 := A_ hy26; clear hy26; replace H := bm_ H; obtain ⟨t20, A27, H⟩ := H; have A11 := A_ A27; clear A27
     by_cases c12 : t20 = true
     ·
      subst c12; have H1 := tt_ H; clear H; have H := H1; clear H1; obtain ⟨y28, hy28⟩ : ∃ y_ : List ByteArray, y_ = (([(⟨#[98]⟩ : ByteArray), (⟨#[99]⟩ : ByteArray), (⟨#[97]⟩ : ByteArray)] : List ByteArray)) := ⟨_, rfl⟩; replace H : ((f17.f 60 l1 y28).bind fun t21 => (if t21 = true then ((f17.f 60 l1 (([(⟨#[98]⟩ : ByteArray), (⟨#[97]⟩ : ByteArray), (⟨#[99]⟩ : ByteArray)] : List ByteArray))).bind fun t22 => (if t22 = true then (some false) else ((f69.f 60 l1 l0_0 l0_1 l0_2 l0_3 false (([true, true] : List Bool))).bind fun t23 => ((f36.f 60 t23 (([0] : List Int))).bind fun t24 => (some t24))))) else (some false))) = some r := z100_; have Ny28 := A_ hy28; clear hy28; replace H := bm_ H; obtain ⟨t21, A29, H⟩ := H; have A13 := A_ A29; clear A29
      by_cases c14 : t21 = true
      ·
       subst c14; have H1 := tt_ H; clear H; have H := H1; clear H1; obtain ⟨y30, hy30⟩ : ∃ y_ : List ByteArray, y_ = (([(⟨#[98]⟩ : ByteArray), (⟨#[97]⟩ : ByteArray), (⟨#[99]⟩ : ByteArray)] : List ByteArray)) := ⟨_, rfl⟩; replace H : ((f17.f 60 l1 y30).bind fun t22 => (if t22 = true then (some false) else ((f69.f 60 l1 l0_0 l0_1 l0_2 l0_3 false (([true, true] : List Bool))).bind fun t23 => ((f36.f 60 t23 (([0] : List Int))).bind fun t24 => (some t24))))) = some r := z101_; have Ny30 := A_ hy30; clear hy30; replace H := bm_ H; obtain ⟨t22, A31, H⟩ := H; have A15 := A_ A31; clear A31
       by_cases c16 : t22 = true
       ·
        subst c16; have H1 := tt_ H; clear H; have H := H1; clear H1; exact absurd (sj_ H) z193_
       ·
        replace c16 := Bool.eq_false_iff.mpr c16; subst c16; have H1 := ff_ H; clear H; have H := H1; clear H1; obtain ⟨y32, hy32⟩ : ∃ y_ : List Bool, y_ = (([true, true] : List Bool)) := ⟨_, rfl⟩
        replace H : ((f69.f 60 l1 l0_0 l0_1 l0_2 l0_3 false y32).bind fun t23 => ((f36.f 60 t23 (([0] : List Int))).bind fun t24 => (some t24))) = some r := by first | (rw [hy32]; with_reducible exact H) | (have H2_ := (Option.bind_some _ _).symm.trans H; rw [hy32]; with_reducible exact H2_) | (have H2_ := (Option.bind_some _ _).symm.trans H; with_reducible exact H2_) | with_reducible exact H | (rw [hy32]; exact H) | exact H
        have Ny32 := A_ hy32; clear hy32; replace H := bm_ H; obtain ⟨t23, A60, H⟩ := H; have A33 := A_ A60; clear A60; obtain ⟨y61, hy61⟩ : ∃ y_ : List Int, y_ = (([0] : List Int)) := ⟨_, rfl⟩; replace H : ((f36.f 60 t23 y61).bind fun t24 => (some t24)) = some r := z109_; have Ny61 := A_ hy61; clear hy61; replace H := bm_ H; obtain ⟨t24, A62, H⟩ := H; have A34 := A_ A62; clear A62; obtain rfl := sj_ H
        go_wp2_with (first | ((with_reducible refine gate_dst (N := 3) rfl ?_); (try (refine gate_guard (by rfl) ?_; dsimp only)); refine box_event ?hg (N := 3) ?hd (cs := #[.slice none 0 0, .slice none 0 0, .slice none 0 0, .slice none 0 0, .bool false]) (t := 45) ?hr ?_; (case hd => rfl); (case hg => rfl); (case hr => exact z82_); intro gb17 hg w35 hbox hb; have n_ := a4_ (below_step z167_ hb) (hbox) ((z216_ : w2.heap.size ≤ gb17)) ((z216_ : w2.heap.size ≤ gb17)); clear HB; obtain ⟨HB, BK17, GW17, GE17⟩ := n_; clear hb hbox hg; obtain ⟨hcz36_0, hcz36_1, hcz36_2, hcz36_3, hcz36_4, hfz36_0, hfz36_1, hfz36_2, hfz36_3, hfz36_4⟩ := b5_ BK17.out) | (go_at_call 15; (with_reducible refine (f44.calls 60 _ _ l1 true _ ?side1 HC1.out A8.out).mono ?_); (case side1 => exact Kd.C_below HR1.out z152_); rintro e w37 ⟨rfl, hb⟩; have n_ := a2_ (blk_below (g := gb17) (o := .cells #[.slice A0_0 l0_0.length c0_0, .slice A0_1 l0_1.length c0_1, .slice A0_2 l0_2.length c0_2, .slice A0_3 l0_3.length c0_3, .bool false] 45 (0, 0)) (by (with_reducible repeat (first | refine blk_drewN ?_ _ | refine blk_drew ?_ | refine blk_alloc ?_ _)); refine blk_put (cs := #[.slice A0_0 l0_0.length c0_0, .slice A0_1 l0_1.length c0_1, .slice A0_2 l0_2.length c0_2, .slice A0_3 l0_3.length c0_3, .bool false]) ?_ 4 _ rfl; (with_reducible repeat (first | refine blk_drewN ?_ _ | refine blk_drew ?_ | refine blk_alloc ?_ _)); refine blk_put (cs := #[.slice A0_0 l0_0.length c0_0, .slice A0_1 l0_1.length c0_1, .slice A0_2 l0_2.length c0_2, .slice none 0 0, .bool false]) ?_ 3 _ rfl; (with_reducible repeat (first | refine blk_drewN ?_ _ | refine blk_drew ?_ | refine blk_alloc ?_ _)); refine blk_put (cs := #[.slice A0_0 l0_0.length c0_0, .slice A0_1 l0_1.length c0_1, .slice none 0 0, .slice none 0 0, .bool false]) ?_ 2 _ rfl; (with_reducible repeat (first | refine blk_drewN ?_ _ | refine blk_drew ?_ | refine blk_alloc ?_ _)); refine blk_put (cs := #[.slice A0_0 l0_0.length c0_0, .slice none 0 0, .slice none 0 0, .slice none 0 0, .bool false]) ?_ 1 _ rfl; (with_reducible repeat (first | refine blk_drewN ?_ _ | refine blk_drew ?_ | refine blk_alloc ?_ _)); refine blk_put (cs := #[.slice none 0 0, .slice none 0 0, .slice none 0 0, .slice none 0 0, .bool false]) ?_ 0 _ rfl; (with_reducible repeat (first | refine blk_drewN ?_ _ | refine blk_drew ?_ | refine blk_alloc ?_ _)); exact BK17.out) hb) (below_step z152_ hb); clear BK17 HB; obtain ⟨BK17, HB⟩ := n_; (try clear hb); (try clear hk)) | (go_at_call 13; (with_reducible refine (f76.calls 60 _ _ l1 t19 _ ?side1 HC1.out A10.out).mono ?_); (case side1 => exact z176_); rintro e w38 ⟨v63, rfl, ho0, hb⟩; have n_ := a3_ (Kd.R_lower ho0 (below_size z152_)) (blk_below (g := gb17) (o := .cells #[.slice A0_0 l0_0.length c0_0, .slice A0_1 l0_1.length c0_1, .slice A0_2 l0_2.length c0_2, .slice A0_3 l0_3.length c0_3, .bool false] 45 (0, 0)) z66_ hb) (below_step z152_ hb); clear BK17 HB; obtain ⟨HO64, BK17, HB⟩ := n_; (try clear hb); (try clear hk); (try clear ho0)) | ((with_reducible refine gate_dst (N := 36) rfl ?_); (try (refine gate_guard (by rfl) ?_; dsimp only)); refine Kd.R_lit Kd.string _ 9 ?hg (N := 36) ?hd (xs := ([(⟨#[97]⟩ : ByteArray), (⟨#[98]⟩ : ByteArray), (⟨#[99]⟩ : ByteArray)] : List ByteArray)) (inner := [.string (⟨#[97]⟩ : ByteArray), .string (⟨#[98]⟩ : ByteArray), .string (⟨#[99]⟩ : ByteArray)]) (ok := fun _ => True) (okp := fun _ => True) ?hr ?hp (fun _ hk => hk) trivial (Below.refl _ _) (Nat.le_refl _) z198_ ?_; (case hd => rfl); (case hg => rfl); (case hr => exact z82_); (case hp => exact (Reps.one (show Kd.M Kd.string _ _ _ (⟨#[97]⟩ : ByteArray) [.string (⟨#[97]⟩ : ByteArray)] from rfl) (Reps.one (show Kd.M Kd.string _ _ _ (⟨#[98]⟩ : ByteArray) [.string (⟨#[98]⟩ : ByteArray)] from rfl) (Reps.one (show Kd.M Kd.string _ _ _ (⟨#[99]⟩ : ByteArray) [.string (⟨#[99]⟩ : ByteArray)] from rfl) (Reps.none _ _))))); intro v65 w39 ho40 hb hg_ hnew_; clear hg_ hnew_; (first | rw [← Ny26.out] at ho40 | (simp only [Int.reduceToNat] at ho40; rw [← Ny26.out] at ho40)); have n_ := a4_ (Kd.R_elder' z17_ (Kd.R_base ho40) hb) (Kd.R_lower (Kd.R_new' ho40 (Kd.R_lt z17_)) (below_size z152_)) (blk_below (g := gb17) (o := .cells #[.slice A0_0 l0_0.length c0_0, .slice A0_1 l0_1.length c0_1, .slice A0_2 l0_2.length c0_2, .slice A0_3 l0_3.length c0_3, .bool false] 45 (0, 0)) z66_ hb) (below_step z152_ hb); clear HO64 BK17 HB; obtain ⟨HO64, HO66, BK17, HB⟩ := n_; clear hb ho40; obtain ⟨Ao41, co41, eo41⟩ := Kd.R_slice HO64.out; subst eo41; obtain ⟨Ao42, co42, eo42⟩ := Kd.R_slice HO66.out; subst eo42) | (go_at_call 12; (with_reducible refine (f16.calls 60 _ _ t19 _ _ y26 true _ ?side1 ?side2 ?side3 ?side4 A11.out).mono ?_); (case side1 => repeat (first | exact (Kd.R_reads' HO64.out).2.2 | (with_reducible refine Kd.C_alloc ?_ _) | (with_reducible refine Kd.C_drewN ?_ _) | (with_reducible refine Kd.C_drew ?_))); (case side2 => exact (Kd.R_reads' HO64.out).2.1); (case side3 => repeat (first | exact (Kd.R_reads' HO66.out).2.2 | (with_reducible refine Kd.C_alloc ?_ _) | (with_reducible refine Kd.C_drewN ?_ _) | (with_reducible refine Kd.C_drew ?_))); (case side4 => exact (Kd.R_reads' HO66.out).2.1); rintro e w' ⟨rfl, ⟨nd, rfl⟩⟩) | ((with_reducible refine gate_dst (N := 41) rfl ?_); (try (refine gate_guard (by rfl) ?_; dsimp only)); refine Kd.R_lit Kd.string _ 9 ?hg (N := 41) ?hd (xs := ([(⟨#[98]⟩ : ByteArray), (⟨#[99]⟩ : ByteArray), (⟨#[97]⟩ : ByteArray)] : List ByteArray)) (inner := [.string (⟨#[98]⟩ : ByteArray), .string (⟨#[99]⟩ : ByteArray), .string (⟨#[97]⟩ : ByteArray)]) (ok := fun _ => True) (okp := fun _ => True) ?hr ?hp (fun _ hk => hk) trivial (Below.refl _ _) (Nat.le_refl _) z198_ ?_; (case hd => rfl); (case hg => rfl); (case hr => exact z82_); (case hp => exact (Reps.one (show Kd.M Kd.string _ _ _ (⟨#[98]⟩ : ByteArray) [.string (⟨#[98]⟩ : ByteArray)] from rfl) (Reps.one (show Kd.M Kd.string _ _ _ (⟨#[99]⟩ : ByteArray) [.string (⟨#[99]⟩ : ByteArray)] from rfl) (Reps.one (show Kd.M Kd.string _ _ _ (⟨#[97]⟩ : ByteArray) [.string (⟨#[97]⟩ : ByteArray)] from rfl) (Reps.none _ _))))); intro v67 w43 ho44 hb hg_ hnew_; clear hg_ hnew_; (first | rw [← Ny28.out] at ho44 | (simp only [Int.reduceToNat] at ho44; rw [← Ny28.out] at ho44)); have n_ := a5_ (Kd.R_elder' z17_ (Kd.R_base ho44) hb) (Kd.R_elder' z18_ (Kd.R_base ho44) hb) (Kd.R_lower (Kd.R_new' (Kd.R_new' ho44 (Kd.R_lt z17_)) (Kd.R_lt z18_)) (below_size z152_)) (blk_below (g := gb17) (o := .cells #[.slice A0_0 l0_0.length c0_0, .slice A0_1 l0_1.length c0_1, .slice A0_2 l0_2.length c0_2, .slice A0_3 l0_3.length c0_3, .bool false] 45 (0, 0)) z66_ hb) (below_step z152_ hb); clear HO64 HO66 BK17 HB; obtain ⟨HO64, HO66, HO68, BK17, HB⟩ := n_; clear hb ho44; obtain ⟨Ao45, co45, eo45⟩ := Kd.R_slice HO68.out; subst eo45) | (go_at_call 17; (with_reducible refine (f17.calls 60 _ _ l1 _ _ y28 true _ ?side1 HC1.out ?side3 ?side4 A13.out).mono ?_); (case side1 => exact z176_); (case side3 => repeat (first | exact (Kd.R_reads' HO68.out).2.2 | (with_reducible refine Kd.C_alloc ?_ _) | (with_reducible refine Kd.C_drewN ?_ _) | (with_reducible refine Kd.C_drew ?_))); (case side4 => exact (Kd.R_reads' HO68.out).2.1); rintro e w46 ⟨rfl, hb⟩; have n_ := a5_ (Kd.R_below z17_ hb) (Kd.R_below z18_ hb) (Kd.R_below z19_ hb) (blk_below (g := gb17) (o := .cells #[.slice A0_0 l0_0.length c0_0, .slice A0_1 l0_1.length c0_1, .slice A0_2 l0_2.length c0_2, .slice A0_3 l0_3.length c0_3, .bool false] 45 (0, 0)) z66_ hb) (below_step z152_ hb); clear HO64 HO66 HO68 BK17 HB; obtain ⟨HO64, HO66, HO68, BK17, HB⟩ := n_; (try clear hb); (try clear hk)) | ((with_reducible refine gate_dst (N := 46) rfl ?_); (try (refine gate_guard (by rfl) ?_; dsimp only)); refine Kd.R_lit Kd.string _ 9 ?hg (N := 46) ?hd (xs := ([(⟨#[98]⟩ : ByteArray), (⟨#[97]⟩ : ByteArray), (⟨#[99]⟩ : ByteArray)] : List ByteArray)) (inner := [.string (⟨#[98]⟩ : ByteArray), .string (⟨#[97]⟩ : ByteArray), .string (⟨#[99]⟩ : ByteArray)]) (ok := fun _ => True) (okp := fun _ => True) ?hr ?hp (fun _ hk => hk) trivial (Below.refl _ _) (Nat.le_refl _) z198_ ?_; (case hd => rfl); (case hg => rfl); (case hr => exact z82_); (case hp => exact (Reps.one (show Kd.M Kd.string _ _ _ (⟨#[98]⟩ : ByteArray) [.string (⟨#[98]⟩ : ByteArray)] from rfl) (Reps.one (show Kd.M Kd.string _ _ _ (⟨#[97]⟩ : ByteArray) [.string (⟨#[97]⟩ : ByteArray)] from rfl) (Reps.one (show Kd.M Kd.string _ _ _ (⟨#[99]⟩ : ByteArray) [.string (⟨#[99]⟩ : ByteArray)] from rfl) (Reps.none _ _))))); intro v69 w47 ho48 hb hg_ hnew_; clear hg_ hnew_; (first | rw [← Ny30.out] at ho48 | (simp only [Int.reduceToNat] at ho48; rw [← Ny30.out] at ho48)); have n_ := a6_ (Kd.R_elder' z17_ (Kd.R_base ho48) hb) (Kd.R_elder' z18_ (Kd.R_base ho48) hb) (Kd.R_elder' z19_ (Kd.R_base ho48) hb) (Kd.R_lower (Kd.R_new' (Kd.R_new' (Kd.R_new' ho48 (Kd.R_lt z17_)) (Kd.R_lt z18_)) (Kd.R_lt z19_)) (below_size z152_)) (blk_below (g := gb17) (o := .cells #[.slice A0_0 l0_0.length c0_0, .slice A0_1 l0_1.length c0_1, .slice A0_2 l0_2.length c0_2, .slice A0_3 l0_3.length c0_3, .bool false] 45 (0, 0)) z66_ hb) (below_step z152_ hb); clear HO64 HO66 HO68 BK17 HB; obtain ⟨HO64, HO66, HO68, HO70, BK17, HB⟩ := n_; clear hb ho48; obtain ⟨Ao49, co49, eo49⟩ := Kd.R_slice HO70.out; subst eo49) | (go_at_call 17; (with_reducible refine (f17.calls 60 _ _ l1 _ _ y30 false _ ?side1 HC1.out ?side3 ?side4 A15.out).mono ?_); (case side1 => exact z176_); (case side3 => repeat (first | exact (Kd.R_reads' HO70.out).2.2 | (with_reducible refine Kd.C_alloc ?_ _) | (with_reducible refine Kd.C_drewN ?_ _) | (with_reducible refine Kd.C_drew ?_))); (case side4 => exact (Kd.R_reads' HO70.out).2.1); rintro e w50 ⟨rfl, hb⟩; have n_ := a6_ (Kd.R_below z17_ hb) (Kd.R_below z18_ hb) (Kd.R_below z19_ hb) (Kd.R_below z20_ hb) (blk_below (g := gb17) (o := .cells #[.slice A0_0 l0_0.length c0_0, .slice A0_1 l0_1.length c0_1, .slice A0_2 l0_2.length c0_2, .slice A0_3 l0_3.length c0_3, .bool false] 45 (0, 0)) z66_ hb) (below_step z152_ hb); clear HO64 HO66 HO68 HO70 BK17 HB; obtain ⟨HO64, HO66, HO68, HO70, BK17, HB⟩ := n_; (try clear hb); (try clear hk); obtain ⟨hcz51_0, hcz51_1, hcz51_2, hcz51_3, hcz51_4, hfz51_0, hfz51_1, hfz51_2, hfz51_3, hfz51_4⟩ := b5_ BK17.out) | ((with_reducible refine gate_dst (N := 53) rfl ?_); (try (refine gate_guard (by rfl) ?_; dsimp only)); refine Kd.R_lit Kd.bool _ 4 ?hg (N := 53) ?hd (xs := ([true, true] : List Bool)) (inner := [.bool true, .bool true]) (ok := fun _ => True) (okp := fun _ => True) ?hr ?hp (fun _ hk => hk) trivial (Below.refl _ _) (Nat.le_refl _) z198_ ?_; (case hd => rfl); (case hg => rfl); (case hr => exact z82_); (case hp => exact (Reps.one (show Kd.M Kd.bool _ _ _ true [.bool true] from rfl) (Reps.one (show Kd.M Kd.bool _ _ _ true [.bool true] from rfl) (Reps.none _ _)))); intro v71 w52 ho53 hb hg_ hnew_; clear hg_ hnew_; (first | rw [← Ny32.out] at ho53 | (simp only [Int.reduceToNat] at ho53; rw [← Ny32.out] at ho53)); have n_ := a7_ (Kd.R_below z17_ hb) (Kd.R_below z18_ hb) (Kd.R_below z19_ hb) (Kd.R_below z20_ hb) (Kd.R_lower ho53 (below_size z152_)) (blk_below (g := gb17) (o := .cells #[.slice A0_0 l0_0.length c0_0, .slice A0_1 l0_1.length c0_1, .slice A0_2 l0_2.length c0_2, .slice A0_3 l0_3.length c0_3, .bool false] 45 (0, 0)) z66_ hb) (below_step z152_ hb); clear HO64 HO66 HO68 HO70 BK17 HB; obtain ⟨HO64, HO66, HO68, HO70, HO72, BK17, HB⟩ := n_; clear hb ho53; obtain ⟨Ao54, co54, eo54⟩ := Kd.R_slice HO72.out; subst eo54) | (go_at_call 26; (with_reducible refine (f69.calls 60 _ _ l1 _ _ l0_0 _ _ l0_1 _ _ l0_2 _ _ l0_3 false _ _ y32 t23 _ ?side1 HC1.out ?side3 HC0_0.out ?side5 HC0_1.out ?side7 HC0_2.out ?side9 HC0_3.out ?side11 ?side12 A33.out).mono ?_); (case side1 => exact z176_); (case side3 => exact z172_); (case side5 => exact z173_); (case side7 => exact z174_); (case side9 => exact z175_); (case side11 => repeat (first | exact (Kd.R_reads' HO72.out).2.2 | (with_reducible refine Kd.C_alloc ?_ _) | (with_reducible refine Kd.C_drewN ?_ _) | (with_reducible refine Kd.C_drew ?_))); (case side12 => exact (Kd.R_reads' HO72.out).2.1); rintro e w55 ⟨v73, rfl, ho0, hb⟩; have n_ := a8_ (Kd.R_below z17_ hb) (Kd.R_below z18_ hb) (Kd.R_below z19_ hb) (Kd.R_below z20_ hb) (Kd.R_below z21_ hb) (Kd.R_lower ho0 (below_size z152_)) (blk_below (g := gb17) (o := .cells #[.slice A0_0 l0_0.length c0_0, .slice A0_1 l0_1.length c0_1, .slice A0_2 l0_2.length c0_2, .slice A0_3 l0_3.length c0_3, .bool false] 45 (0, 0)) z66_ hb) (below_step z152_ hb); clear HO64 HO66 HO68 HO70 HO72 BK17 HB; obtain ⟨HO64, HO66, HO68, HO70, HO72, HO74, BK17, HB⟩ := n_; (try clear hb); (try clear hk); (try clear ho0)) | ((with_reducible refine gate_dst (N := 55) rfl ?_); (try (refine gate_guard (by rfl) ?_; dsimp only)); refine Kd.R_lit (Kd.int .i64) _ 3 ?hg (N := 55) ?hd (xs := ([0] : List Int)) (inner := [.int .i64 0]) (ok := fun _ => True) (okp := fun _ => True) ?hr ?hp (fun _ hk => hk) trivial (Below.refl _ _) (Nat.le_refl _) z198_ ?_; (case hd => rfl); (case hg => rfl); (case hr => exact z82_); (case hp => exact (Reps.one (show Kd.M (Kd.int .i64) _ _ _ 0 [.int .i64 0] from rfl) (Reps.none _ _))); intro v75 w56 ho57 hb hg_ hnew_; clear hg_ hnew_; (first | rw [← Ny61.out] at ho57 | (simp only [Int.reduceToNat] at ho57; rw [← Ny61.out] at ho57)); have n_ := a9_ (Kd.R_below z17_ hb) (Kd.R_below z18_ hb) (Kd.R_below z19_ hb) (Kd.R_below z20_ hb) (Kd.R_below z21_ hb) (Kd.R_elder' z22_ (Kd.R_base ho57) hb) (Kd.R_lower (Kd.R_new' ho57 (Kd.R_lt z22_)) (below_size z152_)) (blk_below (g := gb17) (o := .cells #[.slice A0_0 l0_0.length c0_0, .slice A0_1 l0_1.length c0_1, .slice A0_2 l0_2.length c0_2, .slice A0_3 l0_3.length c0_3, .bool false] 45 (0, 0)) z66_ hb) (below_step z152_ hb); clear HO64 HO66 HO68 HO70 HO72 HO74 BK17 HB; obtain ⟨HO64, HO66, HO68, HO70, HO72, HO74, HO76, BK17, HB⟩ := n_; clear hb ho57; obtain ⟨Ao58, co58, eo58⟩ := Kd.R_slice HO74.out; subst eo58; obtain ⟨Ao59, co59, eo59⟩ := Kd.R_slice HO76.out; subst eo59) | (go_at_call 30; (with_reducible refine (f36.calls 60 _ _ t23 _ _ y61 t24 _ ?side1 ?side2 ?side3 ?side4 A34.out).mono ?_); (case side1 => repeat (first | exact (Kd.R_reads' HO74.out).2.2 | (with_reducible refine Kd.C_alloc ?_ _) | (with_reducible refine Kd.C_drewN ?_ _) | (with_reducible refine Kd.C_drew ?_))); (case side2 => exact (Kd.R_reads' HO74.out).2.1); (case side3 => repeat (first | exact (Kd.R_reads' HO76.out).2.2 | (with_reducible refine Kd.C_alloc ?_ _) | (with_reducible refine Kd.C_drewN ?_ _) | (with_reducible refine Kd.C_drew ?_))); (case side4 => exact (Kd.R_reads' HO76.out).2.1); rintro e w' ⟨rfl, ⟨nd, rfl⟩⟩))
        go_ret; exact ⟨rfl, below_step HA.out z152_⟩
      ·
       replace c14 := Bool.eq_false_iff.mpr c14; subst c14; have H1 := ff_ H; clear H; have H := H1; clear H1; exact absurd (sj_ H) z193_
     ·
      replace c12 := Bool.eq_false_iff.mpr c12; subst c12; have H1 := ff_ H; clear H; have H := H1; clear H1; exact absurd (sj_ H) z193_
    ·
     replace c9 := Bool.eq_false_iff.mpr c9; subst c9; have H1 := ff_ H; clear H; have H := H1; clear H1; exact absurd (sj_ H) z193_
   ·
    rw [if_neg c7] at H; have c7b0 := beq_eq_false_iff_ne.mpr c7; have c7b1 := bne_iff_ne.mpr c7; exact absurd (sj_ H) z193_
  ·
   rw [if_neg c6] at H; have c6b0 := beq_eq_false_iff_ne.mpr c6; have c6b1 := bne_iff_ne.mpr c6; exact absurd (sj_ H) z193_
 ·
  rw [if_neg c5] at H; have c5b0 := beq_eq_false_iff_ne.mpr c5; have c5b1 := bne_iff_ne.mpr c5; exact absurd (sj_ H) z193_
def catchwordlaw18_QueryTells.j0 : Nat → List (S37) → List ByteArray → Bool → Bool → Option (Bool)
 | 0, _, _, _, _ => none
 | k + 1, x0, x1, x5, x23 => if x23 = true then (some x5) else ((f76.f k x0).bind fun t10 => ((f59.f k x0).bind fun t11 => ((f16.f k t10 t11).bind fun t12 => (if t12 = true then ((f44.f k x0).bind fun t13 => ((f10.f k x0).bind fun t14 => (if (t13 == t14) = true then ((f17.f k x0 x1).bind fun t15 => ((f9.f k x0 x1).bind fun t16 => (some (t15 == t16)))) else (some false)))) else (some false)))))
def catchwordlaw18_QueryTells.f (k : Nat) (l0 : List (S37)) (l1 : List ByteArray) : Option (Bool) := (f87.f).bind fun t10 => ((f30.f k l0).bind fun t11 => ((f39.f k l1).bind fun t12 => (if t10 = true then (if t11 = true then (catchwordlaw18_QueryTells.j0 k l0 l1 t10 (!t12)) else (catchwordlaw18_QueryTells.j0 k l0 l1 t10 true)) else (catchwordlaw18_QueryTells.j0 k l0 l1 t10 true))))
theorem catchwordlaw18_QueryTells.calls (k : Nat) (A0 : Option Addr) (c0 : Nat) (l0 : List (S37)) (A1 : Option Addr) (c1 : Nat) (l1 : List ByteArray) (r : Bool) (w : World) (hr0 : Kd.C k37 w A0 l0.length l0) (hc0 : l0.length ≤ c0) (hr1 : Kd.C Kd.string w A1 l1.length l1) (hc1 : l1.length ≤ c1) (hG : GG w) (h : catchwordlaw18_QueryTells.f k l0 l1 = some r) :
  Calls Tryz.prog 3 #[.slice A0 l0.length c0, .slice A1 l1.length c1] w fun e w' => e = .returned (.bool r) ∧ Below w.heap.size w w' := by
 have HR0 := A_ hr0; have HC0 := A_ hc0; clear hr0 hc0; have HR1 := A_ hr1; have HC1 := A_ hc1; clear hr1 hc1; have HB := A_ (Below.refl w.heap.size w); have HG := A_ hG; clear hG; unfold catchwordlaw18_QueryTells.f at h; have H := h; clear h; replace H := bm_ H; obtain ⟨t38, A30, H⟩ := H; have A3 := A_ A30; clear A30; replace H := bm_ H; obtain ⟨t39, A40, H⟩ := H; have A4 := A_ A40; clear A40; replace H := bm_ H; obtain ⟨t41, A50, H⟩ := H; have A5 := A_ A50; clear A50; have HC6 := A_ H; clear H; go_enter Tryz.func3, Tryz.ntmps3
 go_upto_region 4 with (first | ((with_reducible refine gate_callee (f := 9) rfl ?_); refine gl_ (some 9) Tryz.func9 #[] ?_; (with_reducible refine (f87.calls  t38 _ ?side1 A3.out).mono ?_); (case side1 => exact GG_below HG.out z167_); rintro e w7 ⟨rfl, hb⟩; refine ⟨_, rfl, ?_⟩; replace HB := A_ (below_step z167_ hb); (try clear hb)) | ((with_reducible refine gate_callee (f := 10) rfl ?_); refine gl_ (some 11) Tryz.func10 #[.slice A0 l0.length c0] ?_; (with_reducible refine (f30.calls k _ _ l0 t39 _ ?side1 HC0.out A4.out).mono ?_); (case side1 => exact z171_); rintro e w' ⟨rfl, ⟨nd, rfl⟩⟩; refine ⟨_, rfl, ?_⟩) | ((with_reducible refine gate_callee (f := 11) rfl ?_); refine gl_ (some 13) Tryz.func11 #[.slice A1 l1.length c1] ?_; (with_reducible refine (f39.calls k _ _ l1 t41 _ ?side1 HC1.out A5.out).mono ?_); (case side1 => repeat (first | exact (Kd.C_below HR1.out z167_) | (with_reducible refine Kd.C_alloc ?_ _) | (with_reducible refine Kd.C_drewN ?_ _) | (with_reducible refine Kd.C_drew ?_))); rintro e w' ⟨rfl, ⟨nd, rfl⟩⟩; refine ⟨_, rfl, ?_⟩))
 (try simp only [Act.put, List.setIfInBounds_toArray, List.set_cons_zero, List.set_cons_succ])
 go_cut [23] (fun v23 wc => ∃ (kq : Nat) (x23_5 : Bool), v23 = .bool x23_5 ∧ Aside0 (catchwordlaw18_QueryTells.j0 kq l0 l1 t38 x23_5 = some r) ∧ Aside0 (kq ≤ k) ∧ Aside0 (Below w.heap.size w wc))
 case first =>
  have H := HC6.out; clear HC6
  by_cases c8 : t38 = true
  ·
   subst c8; have H1 := tt_ H; clear H; have H := H1; clear H1
   by_cases c9 : t39 = true
   ·
    subst c9; have H1 := tt_ H; clear H; have H := H1; clear H1; have H' := A_ H; clear H; go_wp2
    go_meet
    case rel => exact ⟨_, (!t41), z119_, H', ⟨z117_⟩, ⟨z167_⟩⟩
   ·
    replace c9 := Bool.eq_false_iff.mpr c9; subst c9; have H1 := ff_ H; clear H; have H := H1; clear H1; have H' := A_ H; clear H; go_wp2
    go_meet
    case rel => exact ⟨_, (true), z119_, H', ⟨z117_⟩, ⟨z167_⟩⟩
  ·
   replace c8 := Bool.eq_false_iff.mpr c8; subst c8; have H1 := ff_ H; clear H; have H := H1; clear H1; have H' := A_ H; clear H; go_wp2
   go_meet
   case rel => exact ⟨_, (true), z119_, H', ⟨z117_⟩, ⟨z167_⟩⟩
 case rest =>
  clear HC6; (try clear c1); (try clear c8); (try clear c9); obtain ⟨kq, x23_5, rfl, HA, HJ5, HB⟩ := hcut
  cases kq with
  | zero => exact absurd HA.out (by simp [catchwordlaw18_QueryTells.j0])
  | succ kj5 =>
  have H := HA.out; clear HA; simp only [catchwordlaw18_QueryTells.j0] at H
  by_cases c10 : x23_5 = true
  ·
   subst c10; have H1 := tt_ H; clear H; have H := H1; clear H1; obtain rfl := sj_ H; go_wp2; go_ret; exact ⟨z118_, z167_⟩
  ·
   replace c10 := Bool.eq_false_iff.mpr c10; subst c10; have H1 := ff_ H; clear H; have H := H1; clear H1; replace H := bm_ H; obtain ⟨t42, A49, H⟩ := H; have A11 := A_ A49; clear A49; replace H := bm_ H; obtain ⟨t43, A51, H⟩ := H; have A12 := A_ A51; clear A51; replace H := bm_ H; obtain ⟨t44, A52, H⟩ := H; have A13 := A_ A52; clear A52
   by_cases c14 : t44 = true
   ·
    subst c14; have H1 := tt_ H; clear H; have H := H1; clear H1; replace H := bm_ H; obtain ⟨t45, A53, H⟩ := H; have A15 := A_ A53; clear A53; replace H := bm_ H; obtain ⟨t46, A54, H⟩ := H; have A16 := A_ A54; clear A54; revert H; refine i2_ (fun c17 H => ?_) fun c17 H => ?_; rotate_left
    ·
     have c17b0 : (t45 == t46) = false := by simpa using c17
     (try (have c17b1 : decide (t45 = t46) = false := by simpa using c17))
     (try (have c17b2 : (t45 == t46) = false := by simpa using c17))
     (try (have c17b3 : ¬ (t45 = t46) := by simpa using c17))
     clear c17; obtain rfl := sj_ H
     go_wp2_with (first | ((with_reducible refine gate_callee (f := 13) rfl ?_); refine gl_ (some 26) Tryz.func13 #[.slice A0 l0.length c0] ?_; (with_reducible refine (f76.calls kj5 _ _ l0 t42 _ ?side1 HC0.out A11.out).mono ?_); (case side1 => exact z171_); rintro e w28 ⟨v57, rfl, ho0, hb⟩; refine ⟨_, rfl, ?_⟩; have n_ := a2_ (Kd.R_lower ho0 (below_size z167_)) (below_step z167_ hb); clear HB; obtain ⟨HO58, HB⟩ := n_; (try clear hb); (try clear ho0)) | ((with_reducible refine gate_callee (f := 14) rfl ?_); refine gl_ (some 28) Tryz.func14 #[.slice A0 l0.length c0] ?_; (with_reducible refine (f59.calls kj5 _ _ l0 t43 _ ?side1 HC0.out A12.out).mono ?_); (case side1 => exact z171_); rintro e w29 ⟨v59, rfl, ho0, hb⟩; refine ⟨_, rfl, ?_⟩; have n_ := a3_ (Kd.R_elder' z14_ (Kd.R_base ho0) hb) (Kd.R_lower (Kd.R_new' ho0 (Kd.R_lt z14_)) (below_size z167_)) (below_step z167_ hb); clear HO58 HB; obtain ⟨HO58, HO60, HB⟩ := n_; (try clear hb); (try clear ho0); obtain ⟨Ao30, co30, eo30⟩ := Kd.R_slice HO58.out; subst eo30; obtain ⟨Ao31, co31, eo31⟩ := Kd.R_slice HO60.out; subst eo31) | ((with_reducible refine gate_callee (f := 12) rfl ?_); refine gl_ (some 29) Tryz.func12 #[.slice Ao30 t42.length co30, .slice Ao31 t43.length co31] ?_; (with_reducible refine (f16.calls kj5 _ _ t42 _ _ t43 true _ ?side1 ?side2 ?side3 ?side4 A13.out).mono ?_); (case side1 => exact z185_); (case side2 => exact (Kd.R_reads' HO58.out).2.1); (case side3 => exact z186_); (case side4 => exact (Kd.R_reads' HO60.out).2.1); rintro e w' ⟨rfl, ⟨nd, rfl⟩⟩; refine ⟨_, rfl, ?_⟩) | (go_at_call 15; (with_reducible refine (f44.calls kj5 _ _ l0 t45 _ ?side1 HC0.out A15.out).mono ?_); (case side1 => exact z213_); rintro e w32 ⟨rfl, hb⟩; have n_ := a3_ (Kd.R_below z14_ hb) (Kd.R_below z15_ hb) (below_step z167_ hb); clear HO58 HO60 HB; obtain ⟨HO58, HO60, HB⟩ := n_; (try clear hb)) | (go_at_call 16; (with_reducible refine (f10.calls kj5 _ _ l0 t46 _ ?side1 HC0.out A16.out).mono ?_); (case side1 => exact z171_); rintro e w33 ⟨rfl, hb⟩; have n_ := a3_ (Kd.R_below z14_ hb) (Kd.R_below z15_ hb) (below_step z167_ hb); clear HO58 HO60 HB; obtain ⟨HO58, HO60, HB⟩ := n_; (try clear hb)))
     go_ret; exact ⟨z118_, z167_⟩
    have c17b0 : (t45 == t46) = true := c17
    (try (have c17b1 : decide (t45 = t46) = true := by simpa using c17))
    (try (have c17b2 : (t45 == t46) = true := by simpa using c17))
    clear c17; replace H := bm_ H; obtain ⟨t47, A55, H⟩ := H; have A18 := A_ A55; clear A55; replace H := bm_ H; obtain ⟨t48, A56, H⟩ := H; have A19 := A_ A56; clear A56; obtain rfl := sj_ H
    go_wp2_with (first | ((with_reducible refine gate_callee (f := 13) rfl ?_); refine gl_ (some 26) Tryz.func13 #[.slice A0 l0.length c0] ?_; (with_reducible refine (f76.calls kj5 _ _ l0 t42 _ ?side1 HC0.out A11.out).mono ?_); (case side1 => exact z171_); rintro e w20 ⟨v57, rfl, ho0, hb⟩; refine ⟨_, rfl, ?_⟩; have n_ := a2_ (Kd.R_lower ho0 (below_size z167_)) (below_step z167_ hb); clear HB; obtain ⟨HO58, HB⟩ := n_; (try clear hb); (try clear ho0)) | ((with_reducible refine gate_callee (f := 14) rfl ?_); refine gl_ (some 28) Tryz.func14 #[.slice A0 l0.length c0] ?_; (with_reducible refine (f59.calls kj5 _ _ l0 t43 _ ?side1 HC0.out A12.out).mono ?_); (case side1 => exact z171_); rintro e w21 ⟨v59, rfl, ho0, hb⟩; refine ⟨_, rfl, ?_⟩; have n_ := a3_ (Kd.R_elder' z14_ (Kd.R_base ho0) hb) (Kd.R_lower (Kd.R_new' ho0 (Kd.R_lt z14_)) (below_size z167_)) (below_step z167_ hb); clear HO58 HB; obtain ⟨HO58, HO60, HB⟩ := n_; (try clear hb); (try clear ho0); obtain ⟨Ao22, co22, eo22⟩ := Kd.R_slice HO58.out; subst eo22; obtain ⟨Ao23, co23, eo23⟩ := Kd.R_slice HO60.out; subst eo23) | ((with_reducible refine gate_callee (f := 12) rfl ?_); refine gl_ (some 29) Tryz.func12 #[.slice Ao22 t42.length co22, .slice Ao23 t43.length co23] ?_; (with_reducible refine (f16.calls kj5 _ _ t42 _ _ t43 true _ ?side1 ?side2 ?side3 ?side4 A13.out).mono ?_); (case side1 => exact z185_); (case side2 => exact (Kd.R_reads' HO58.out).2.1); (case side3 => exact z186_); (case side4 => exact (Kd.R_reads' HO60.out).2.1); rintro e w' ⟨rfl, ⟨nd, rfl⟩⟩; refine ⟨_, rfl, ?_⟩) | (go_at_call 15; (with_reducible refine (f44.calls kj5 _ _ l0 t45 _ ?side1 HC0.out A15.out).mono ?_); (case side1 => exact z213_); rintro e w24 ⟨rfl, hb⟩; have n_ := a3_ (Kd.R_below z14_ hb) (Kd.R_below z15_ hb) (below_step z167_ hb); clear HO58 HO60 HB; obtain ⟨HO58, HO60, HB⟩ := n_; (try clear hb)) | (go_at_call 16; (with_reducible refine (f10.calls kj5 _ _ l0 t46 _ ?side1 HC0.out A16.out).mono ?_); (case side1 => exact z171_); rintro e w25 ⟨rfl, hb⟩; have n_ := a3_ (Kd.R_below z14_ hb) (Kd.R_below z15_ hb) (below_step z167_ hb); clear HO58 HO60 HB; obtain ⟨HO58, HO60, HB⟩ := n_; (try clear hb)) | (go_at_call 17; (with_reducible refine (f17.calls kj5 _ _ l0 _ _ l1 t47 _ ?side1 HC0.out ?side3 HC1.out A18.out).mono ?_); (case side1 => exact z171_); (case side3 => exact z176_); rintro e w26 ⟨rfl, hb⟩; have n_ := a3_ (Kd.R_below z14_ hb) (Kd.R_below z15_ hb) (below_step z167_ hb); clear HO58 HO60 HB; obtain ⟨HO58, HO60, HB⟩ := n_; (try clear hb)) | (go_at_call 18; (with_reducible refine (f9.calls kj5 _ _ l0 _ _ l1 t48 _ ?side1 HC0.out ?side3 HC1.out A19.out).mono ?_); (case side1 => exact z171_); (case side3 => exact z176_); rintro e w27 ⟨rfl, hb⟩; have n_ := a3_ (Kd.R_below z14_ hb) (Kd.R_below z15_ hb) (below_step z167_ hb); clear HO58 HO60 HB; obtain ⟨HO58, HO60, HB⟩ := n_; (try clear hb)))
    go_ret; exact ⟨z118_, z167_⟩
   ·
    replace c14 := Bool.eq_false_iff.mpr c14; subst c14; have H1 := ff_ H; clear H; have H := H1; clear H1; obtain rfl := sj_ H
    go_wp2_with (first | ((with_reducible refine gate_callee (f := 13) rfl ?_); refine gl_ (some 26) Tryz.func13 #[.slice A0 l0.length c0] ?_; (with_reducible refine (f76.calls kj5 _ _ l0 t42 _ ?side1 HC0.out A11.out).mono ?_); (case side1 => exact z171_); rintro e w34 ⟨v57, rfl, ho0, hb⟩; refine ⟨_, rfl, ?_⟩; have n_ := a2_ (Kd.R_lower ho0 (below_size z167_)) (below_step z167_ hb); clear HB; obtain ⟨HO58, HB⟩ := n_; (try clear hb); (try clear ho0)) | ((with_reducible refine gate_callee (f := 14) rfl ?_); refine gl_ (some 28) Tryz.func14 #[.slice A0 l0.length c0] ?_; (with_reducible refine (f59.calls kj5 _ _ l0 t43 _ ?side1 HC0.out A12.out).mono ?_); (case side1 => exact z171_); rintro e w35 ⟨v59, rfl, ho0, hb⟩; refine ⟨_, rfl, ?_⟩; have n_ := a3_ (Kd.R_elder' z14_ (Kd.R_base ho0) hb) (Kd.R_lower (Kd.R_new' ho0 (Kd.R_lt z14_)) (below_size z167_)) (below_step z167_ hb); clear HO58 HB; obtain ⟨HO58, HO60, HB⟩ := n_; (try clear hb); (try clear ho0); obtain ⟨Ao36, co36, eo36⟩ := Kd.R_slice HO58.out; subst eo36; obtain ⟨Ao37, co37, eo37⟩ := Kd.R_slice HO60.out; subst eo37) | ((with_reducible refine gate_callee (f := 12) rfl ?_); refine gl_ (some 29) Tryz.func12 #[.slice Ao36 t42.length co36, .slice Ao37 t43.length co37] ?_; (with_reducible refine (f16.calls kj5 _ _ t42 _ _ t43 false _ ?side1 ?side2 ?side3 ?side4 A13.out).mono ?_); (case side1 => exact z185_); (case side2 => exact (Kd.R_reads' HO58.out).2.1); (case side3 => exact z186_); (case side4 => exact (Kd.R_reads' HO60.out).2.1); rintro e w' ⟨rfl, ⟨nd, rfl⟩⟩; refine ⟨_, rfl, ?_⟩))
    go_ret; exact ⟨z118_, z167_⟩
end Go.Proofs.YtbbmdakdghefnaaGreatDoor.T
/- Plain facts for Query: who matches, in the program and in the document's answer; QueryTells. -/
namespace Go.Proofs.YtbbmdakdghefnaaGreatDoor.Plain
set_option linter.unusedVariables false
set_option linter.unusedSimpArgs false
open Go.RowKit Go.Proofs.YtbbmdakdghefnaaGreatDoor.T Go.Proofs.YtbbmdakdghefnaaGreatDoorW.PrintWords Go.Proofs.YtbbmdakdghefnaaGreatDoorW.PrintLast Go.Proofs.YtbbmdakdghefnaaGreatDoorW.PrintMore
theorem equal_loop (a b : List ByteArray) (hl : a.length = b.length) (hb : a.length ≤ 1000000) : ∀ (d i k : Nat), i + d = a.length → d < k → f32.l0 k a b (a.length : Int) (i : Int) = some (decide (a.drop i = b.drop i)) := by
 intro d
 induction d with
 | zero =>
  intro i k hd hk; obtain ⟨k, rfl⟩ : ∃ m, k = m + 1 := ⟨k - 1, z143_⟩; rw [f32.l0, if_neg z143_, List.drop_eq_nil_of_le z143_, List.drop_eq_nil_of_le z143_]
  rfl
 | succ d ih =>
  intro i k hd hk; obtain ⟨k, rfl⟩ : ∃ m, k = m + 1 := ⟨k - 1, z143_⟩; have hi : i < a.length := z143_; have hib : i < b.length := z143_; rw [f32.l0, if_pos z143_, if_pos z143_, if_pos z143_, if_pos z143_, rdOf_nat a i hi, rdOf_nat b i hib, Plain.w1 i z143_, ih (i + 1) k z143_ z143_, List.drop_eq_getElem_cons hi, List.drop_eq_getElem_cons hib]
  by_cases h : a[i] = b[i]
  ·
   rw [if_pos (by rw [h]), h]; exact congrArg some (decide_eq_decide.2 ⟨fun e => by rw [e], fun e => (List.cons.inj e).2⟩)
  ·
   rw [if_neg (fun e => h (list_inj e))]; exact congrArg some (decide_eq_false (fun e => h (List.cons.inj e).1)).symm
theorem equal_eq (a b : List ByteArray) (hb : a.length ≤ 1000000) (k : Nat) (hk : a.length < k) : f32.f k a b = some (decide (a = b)) := by
 unfold f32.f
 by_cases h : a.length = b.length
 ·
  rw [if_pos z143_]; have := equal_loop a b h hb a.length 0 k z143_ hk
  simpa using this
 · rw [if_neg z143_, decide_eq_false (fun e => h (by rw [e]))]
theorem texts_loop (a b : List ByteArray) (hl : a.length = b.length) (hb : a.length ≤ 1000000) : ∀ (d i k : Nat), i + d = a.length → d < k → f16.l0 k a b (i : Int) = some (decide (a.drop i = b.drop i)) := by
 intro d
 induction d with
 | zero =>
  intro i k hd hk; obtain ⟨k, rfl⟩ : ∃ m, k = m + 1 := ⟨k - 1, z143_⟩; rw [f16.l0, if_neg z143_, List.drop_eq_nil_of_le z143_, List.drop_eq_nil_of_le z143_]
  rfl
 | succ d ih =>
  intro i k hd hk; obtain ⟨k, rfl⟩ : ∃ m, k = m + 1 := ⟨k - 1, z143_⟩; have hi : i < a.length := z143_; have hib : i < b.length := z143_; rw [f16.l0, if_pos z143_, if_pos z143_, if_pos z143_, rdOf_nat a i hi, rdOf_nat b i hib, Plain.w1 i z143_, ih (i + 1) k z143_ z143_, List.drop_eq_getElem_cons hi, List.drop_eq_getElem_cons hib]
  by_cases h : a[i] = b[i]
  ·
   rw [if_pos (by rw [h]), h]; exact congrArg some (decide_eq_decide.2 ⟨fun e => by rw [e], fun e => (List.cons.inj e).2⟩)
  ·
   rw [if_neg (fun e => h (list_inj e))]; exact congrArg some (decide_eq_false (fun e => h (List.cons.inj e).1)).symm
theorem texts_eq (a b : List ByteArray) (hb : a.length ≤ 1000000) (k : Nat) (hk : a.length < k) : f16.f k a b = some (decide (a = b)) := by
 unfold f16.f
 by_cases h : a.length = b.length
 ·
  rw [if_pos z143_]; have := texts_loop a b h hb a.length 0 k z143_ hk
  simpa using this
 · rw [if_neg z143_, decide_eq_false (fun e => h (by rw [e]))]
/-- Do words stand among others from a place on. -/
def stF (w o : List ByteArray) : Nat → Nat → Bool
 | 0, _ => false
 | d + 1, i => if i + w.length ≤ o.length then (decide ((o.take (i + w.length)).drop i = w) || stF w o d (i + 1)) else false
def standsP (w o : List ByteArray) : Bool := stF w o (o.length + 1) 0
theorem qstands_loop (w o : List ByteArray) (hw : w.length ≤ 1000) (ho : o.length ≤ 1000) : ∀ (d i k : Nat), i + d = o.length + 1 → 2000 + d ≤ k → f63.l0 k w o (i : Int) = some (stF w o d i) := by
 intro d
 induction d with
 | zero =>
  intro i k hd hk; obtain ⟨k, rfl⟩ : ∃ m, k = m + 1 := ⟨k - 1, z143_⟩; have hs : wrap64 ((i : Int) + (w.length : Int)) = ((i + w.length : Nat) : Int) := z219_; rw [f63.l0, hs, if_neg z143_, stF]
 | succ d ih =>
  intro i k hd hk; obtain ⟨k, rfl⟩ : ∃ m, k = m + 1 := ⟨k - 1, z143_⟩; have hs : wrap64 ((i : Int) + (w.length : Int)) = ((i + w.length : Nat) : Int) := z219_; rw [f63.l0, hs, stF]
  by_cases h : i + w.length ≤ o.length
  ·
   rw [if_pos z143_, if_pos z143_, if_pos z143_, if_pos h, Int.toNat_natCast, Int.toNat_natCast, equal_eq _ w (by rw [List.length_drop, List.length_take]; omega) k (by rw [List.length_drop, List.length_take]; omega), Option.bind_some, Plain.w1 i z143_, ih (i + 1) k z143_ z143_]
   cases decide ((o.take (i + w.length)).drop i = w) <;> simp
  · rw [if_neg z143_, if_neg h]
theorem qstands_eq (w o : List ByteArray) (hw : w.length ≤ 1000) (ho : o.length ≤ 1000) (k : Nat) (hk : 4000 ≤ k) : f63.f k w o = some (standsP w o) := qstands_loop w o hw ho (o.length + 1) 0 k z143_ z143_
theorem rstands_loop (w o : List ByteArray) (hw : w.length ≤ 1000) (ho : o.length ≤ 1000) : ∀ (d i k : Nat), i + d = o.length + 1 → 2000 + d ≤ k → f40.l0 k w o (i : Int) = some (stF w o d i) := by
 intro d
 induction d with
 | zero =>
  intro i k hd hk; obtain ⟨k, rfl⟩ : ∃ m, k = m + 1 := ⟨k - 1, z143_⟩; have hs : wrap64 ((i : Int) + (w.length : Int)) = ((i + w.length : Nat) : Int) := z219_; rw [f40.l0, hs, if_neg z143_, stF]
 | succ d ih =>
  intro i k hd hk; obtain ⟨k, rfl⟩ : ∃ m, k = m + 1 := ⟨k - 1, z143_⟩; have hs : wrap64 ((i : Int) + (w.length : Int)) = ((i + w.length : Nat) : Int) := z219_; rw [f40.l0, hs, stF]
  by_cases h : i + w.length ≤ o.length
  ·
   rw [if_pos z143_, if_pos z143_, if_pos z143_, if_pos h, Int.toNat_natCast, Int.toNat_natCast, texts_eq w _ z143_ k z143_, Option.bind_some, Plain.w1 i z143_, ih (i + 1) k z143_ z143_, show decide (w = (o.take (i + w.length)).drop i) = decide ((o.take (i + w.length)).drop i = w) from decide_eq_decide.2 eq_comm]
   cases decide ((o.take (i + w.length)).drop i = w) <;> simp
  · rw [if_neg z143_, if_neg h]
theorem rstands_eq (w o : List ByteArray) (hw : w.length ≤ 1000) (ho : o.length ≤ 1000) (k : Nat) (hk : 4000 ≤ k) : f40.f k w o = some (standsP w o) := rstands_loop w o hw ho (o.length + 1) 0 k z143_ z143_
/-- Does a node match, behind the nodes ahead. -/
def stepM (o : List ByteArray) (rows : List Bool) (x : S37) : Bool :=
 if x.f0 = 2 then rdOf false rows x.f2 && rdOf false rows x.f3
 else if x.f0 = 3 then rdOf false rows x.f2 || rdOf false rows x.f3
 else if x.f0 = 4 then rdOf false rows x.f2 && !rdOf false rows x.f3
 else standsP x.f1 o
def boolsP (o : List ByteArray) (q : List S37) (rows : List Bool) : List Bool := q.foldl (fun rows x => rows ++ [stepM o rows x]) rows
theorem boolsP_cons (o : List ByteArray) (x : S37) (q : List S37) (rows : List Bool) : boolsP o (x :: q) rows = boolsP o q (rows ++ [stepM o rows x]) := rfl
def matchP (q : List S37) (o : List ByteArray) : Bool := mayP q && rdOf false (boolsP o q []) ((q.length - 1 : Nat) : Int)
theorem qmatch_loop (q : List S37) (o : List ByteArray) (ho : o.length ≤ 1000) (h0 : 0 < q.length) (hq : q.length ≤ 12) (hr : ∀ (j : Nat) (h : j < q.length), rightP q[j] (j : Int) = true) : ∀ (d i k : Nat) (rows : List Bool), i + d = q.length → rows.length = i → 4000 + d < k → f17.l0 k o rows q (q.length : Int) (i : Int) = some (rdOf false (boolsP o (q.drop i) rows) ((q.length - 1 : Nat) : Int)) := by
 intro d
 induction d with
 | zero =>
  intro i k rows hd hrl hk; obtain ⟨k, rfl⟩ : ∃ m, k = m + 1 := ⟨k - 1, z143_⟩; have hw : wrap64 ((rows.length : Int) - 1) = ((q.length - 1 : Nat) : Int) := z219_; rw [f17.l0, if_neg z143_, hw, if_pos z143_, if_pos z143_, List.drop_eq_nil_of_le z143_]
  rfl
 | succ d ih =>
  intro i k rows hd hrl hk; obtain ⟨k, rfl⟩ : ∃ m, k = m + 1 := ⟨k - 1, z143_⟩; have hi : i < q.length := z143_; obtain ⟨hw, hop⟩ := right_told (hr i hi); have hlen : rows.length < 140737488355328 := z143_
  have hnext : ∀ v : Bool, v = stepM o rows q[i] → f17.l0 k o (rows ++ [v]) q (q.length : Int) ((i + 1 : Nat) : Int) = some (rdOf false (boolsP o (q.drop i) rows) ((q.length - 1 : Nat) : Int)) := by
   intro v hv; rw [ih (i + 1) k (rows ++ [v]) z143_ z202_ z143_, List.drop_eq_getElem_cons hi, boolsP_cons, hv]
  rw [f17.l0, if_pos z143_, if_pos z143_, if_pos z143_, rd37 q i hi, Plain.w1 i z143_]; simp only [hlen, if_true]
  rcases hop with ⟨e, h6⟩ | ⟨e, hn, a1, a2, b1, b2⟩
  ·
   rw [if_neg z143_, if_neg z143_, if_neg z143_, qstands_eq _ o z143_ ho k z143_, Option.bind_some]; exact hnext _ (by unfold stepM; rw [if_neg z143_, if_neg z143_, if_neg z143_])
  ·
   have a2' : q[i].f2 < (rows.length : Int) := z143_; have b2' : q[i].f3 < (rows.length : Int) := z143_; simp only [a1, a2', b1, b2', if_true]
   by_cases e2 : q[i].f0 = 2
   ·
    rw [if_pos e2]
    cases hA : rdOf false rows q[i].f2
    ·
     rw [if_neg z81_]; exact hnext _ z205_
    ·
     rw [if_pos rfl]; exact hnext _ z205_
   ·
    rw [if_neg e2]
    by_cases e3 : q[i].f0 = 3
    ·
     rw [if_pos e3]
     cases hA : rdOf false rows q[i].f2
     ·
      rw [if_neg z81_]; exact hnext _ z204_
     ·
      rw [if_pos rfl]; exact hnext _ z204_
    ·
     have e4 : q[i].f0 = 4 := z143_; rw [if_neg e3, if_pos e4]
     cases hA : rdOf false rows q[i].f2
     ·
      rw [if_neg z81_]; exact hnext _ z203_
     ·
      rw [if_pos rfl]; exact hnext _ z203_
theorem rmatch_loop (q : List S37) (o : List ByteArray) (ho : o.length ≤ 1000) (h0 : 0 < q.length) (hq : q.length ≤ 12) (hr : ∀ (j : Nat) (h : j < q.length), rightP q[j] (j : Int) = true) : ∀ (d i k : Nat) (rows : List Bool), i + d = q.length → rows.length = i → 4000 + d < k → f9.l0 k q o rows (i : Int) = some (rdOf false (boolsP o (q.drop i) rows) ((q.length - 1 : Nat) : Int)) := by
 intro d
 induction d with
 | zero =>
  intro i k rows hd hrl hk; obtain ⟨k, rfl⟩ : ∃ m, k = m + 1 := ⟨k - 1, z143_⟩; have hw : wrap64 ((q.length : Int) - 1) = ((q.length - 1 : Nat) : Int) := z219_; rw [f9.l0, if_neg z143_, hw, if_pos z143_, if_pos z143_, List.drop_eq_nil_of_le z143_]
  rfl
 | succ d ih =>
  intro i k rows hd hrl hk; obtain ⟨k, rfl⟩ : ∃ m, k = m + 1 := ⟨k - 1, z143_⟩; have hi : i < q.length := z143_; obtain ⟨hw, hop⟩ := right_told (hr i hi); have hlen : rows.length < 140737488355328 := z143_
  have hnext : ∀ v : Bool, v = stepM o rows q[i] → f9.l0 k q o (rows ++ [v]) ((i + 1 : Nat) : Int) = some (rdOf false (boolsP o (q.drop i) rows) ((q.length - 1 : Nat) : Int)) := by
   intro v hv; rw [ih (i + 1) k (rows ++ [v]) z143_ z202_ z143_, List.drop_eq_getElem_cons hi, boolsP_cons, hv]
  rw [f9.l0, if_pos z143_, if_pos z143_, rd37 q i hi, Plain.w1 i z143_]; simp only [hlen, if_true]
  rcases hop with ⟨e, h6⟩ | ⟨e, hn, a1, a2, b1, b2⟩
  ·
   rw [if_neg z143_, if_neg z143_, if_neg z143_, rstands_eq _ o z143_ ho k z143_, Option.bind_some]; exact hnext _ (by unfold stepM; rw [if_neg z143_, if_neg z143_, if_neg z143_])
  ·
   have a2' : q[i].f2 < (rows.length : Int) := z143_; have b2' : q[i].f3 < (rows.length : Int) := z143_; simp only [a1, a2', b1, b2', if_true]
   by_cases e2 : q[i].f0 = 2
   ·
    rw [if_pos e2]
    cases hA : rdOf false rows q[i].f2
    ·
     rw [if_neg z81_]; exact hnext _ z205_
    ·
     rw [if_pos rfl]; exact hnext _ z205_
   ·
    rw [if_neg e2]
    by_cases e3 : q[i].f0 = 3
    ·
     rw [if_pos e3]
     cases hA : rdOf false rows q[i].f2
     ·
      rw [if_neg z81_]; exact hnext _ z204_
     ·
      rw [if_pos rfl]; exact hnext _ z204_
    ·
     have e4 : q[i].f0 = 4 := z143_; rw [if_neg e3, if_pos e4]
     cases hA : rdOf false rows q[i].f2
     ·
      rw [if_neg z81_]; exact hnext _ z203_
     ·
      rw [if_pos rfl]; exact hnext _ z203_
theorem qmatch_eq (q : List S37) (o : List ByteArray) (ho : o.length ≤ 1000) (hF : q.length ≤ 14) (hF8 : ∀ x ∈ q, x.f1.length ≤ 8) (k : Nat) (hk : 5000 ≤ k) : f17.f k q o = some (matchP q o) := by
 unfold f17.f matchP; rw [qmay_eq q hF hF8 k hk, Option.bind_some]
 by_cases h : mayP q = true
 ·
  obtain ⟨h0, h12, hr, _⟩ := mayP_told h; have hr' := (allR_told q q.length 0 z143_).1 hr; rw [if_pos h, h, show (0 : Int) = ((0 : Nat) : Int) from rfl, qmatch_loop q o ho h0 h12 (fun j hj => hr' j hj z143_) q.length 0 k [] z143_ rfl z143_]
  rfl
 · rw [if_neg h, Bool.eq_false_iff.2 h]; rfl
theorem rmatch_eq (q : List S37) (o : List ByteArray) (ho : o.length ≤ 1000) (hF8 : ∀ x ∈ q, x.f1.length ≤ 8) (k : Nat) (hk : 5000 ≤ k) : f9.f k q o = some (matchP q o) := by
 unfold f9.f matchP; rw [rmay_eq q hF8 k hk, Option.bind_some]
 by_cases h : mayP q = true
 ·
  obtain ⟨h0, h12, hr, _⟩ := mayP_told h; have hr' := (allR_told q q.length 0 z143_).1 hr; rw [if_pos h, h, show (0 : Int) = ((0 : Nat) : Int) from rfl, rmatch_loop q o ho h0 h12 (fun j hj => hr' j hj z143_) q.length 0 k [] z143_ rfl z143_]
  rfl
 · rw [if_neg h, Bool.eq_false_iff.2 h]; rfl
/-- Few, and what it says. -/
theorem few_l1 (q : List S37) (hq : q.length ≤ 14) (i : Nat) (hi : i < q.length) (h8 : q[i].f1.length ≤ 8) (P : Prop) (K : Nat) (H : ∀ k, K ≤ k → ∃ b, f30.l0 k q ((i + 1 : Nat) : Int) = some b ∧ (b = true → P)) :
  ∀ (e j k : Nat), j + e = q[i].f1.length → K + e + 1 ≤ k → ∃ b, f30.l1 k q (i : Int) (j : Int) = some b ∧ (b = true → P) := by
 intro e
 induction e with
 | zero =>
  intro j k he hk; obtain ⟨k, rfl⟩ : ∃ m, k = m + 1 := ⟨k - 1, z143_⟩; rw [f30.l1, if_pos z143_, if_pos z143_, rd37 q i hi, if_neg z143_, Plain.w1 i z143_]; exact H k z143_
 | succ e ih =>
  intro j k he hk; obtain ⟨k, rfl⟩ : ∃ m, k = m + 1 := ⟨k - 1, z143_⟩; rw [f30.l1, if_pos z143_, if_pos z143_, rd37 q i hi, if_pos z143_, if_pos z143_]
  split
  · exact ⟨false, rfl, fun h => by cases h⟩
  ·
   rw [Plain.w1 j z143_]; exact ih (j + 1) k z143_ z143_
theorem few_l0 (q : List S37) (hq : q.length ≤ 14) : ∀ (d i k : Nat), i + d = q.length → 12 * d + 1 ≤ k → ∃ b, f30.l0 k q (i : Int) = some b ∧ (b = true → ∀ x ∈ q.drop i, x.f1.length ≤ 8) := by
 intro d
 induction d with
 | zero =>
  intro i k hd hk; obtain ⟨k, rfl⟩ : ∃ m, k = m + 1 := ⟨k - 1, z143_⟩; rw [f30.l0, if_neg z143_, List.drop_eq_nil_of_le z143_]; exact ⟨true, rfl, fun _ x h => by cases h⟩
 | succ d ih =>
  intro i k hd hk; obtain ⟨k, rfl⟩ : ∃ m, k = m + 1 := ⟨k - 1, z143_⟩; have hi : i < q.length := z143_; rw [f30.l0, if_pos z143_, if_pos z143_, rd37 q i hi]
  by_cases h8 : (q[i].f1.length : Int) > 8
  ·
   rw [if_pos h8]; exact ⟨false, rfl, fun h => by cases h⟩
  ·
   rw [if_neg h8]; obtain ⟨b, h1, h2⟩ := few_l1 q hq i hi z143_ (∀ x ∈ q.drop (i + 1), x.f1.length ≤ 8) (12 * d + 1) (fun k hk => ih (i + 1) k z143_ hk) q[i].f1.length 0 k z143_ z143_; refine ⟨b, h1, fun hb x hx => ?_⟩; rw [List.drop_eq_getElem_cons hi] at hx
   rcases List.mem_cons.1 hx with rfl | hx
   · omega
   · exact h2 hb x hx
theorem few_told (q : List S37) (k : Nat) (hk : 1000 ≤ k) : ∃ b, f30.f k q = some b ∧ (b = true → q.length ≤ 14 ∧ ∀ x ∈ q, x.f1.length ≤ 8) := by
 unfold f30.f
 by_cases h : (q.length : Int) > 14
 ·
  rw [if_pos h]; exact ⟨false, rfl, fun h => by cases h⟩
 ·
  rw [if_neg h]; obtain ⟨b, h1, h2⟩ := few_l0 q z143_ q.length 0 k z143_ z143_; exact ⟨b, h1, fun hb => ⟨z143_, fun x hx => h2 hb x (by simpa using hx)⟩⟩
theorem words_l0 (w : List ByteArray) (hw : w.length ≤ 130) : ∀ (d i k : Nat), i + d = w.length → d < k → ∃ b, f39.l0 k w (i : Int) = some b := by
 intro d
 induction d with
 | zero =>
  intro i k hd hk; obtain ⟨k, rfl⟩ : ∃ m, k = m + 1 := ⟨k - 1, z143_⟩; rw [f39.l0, if_neg z143_]; exact ⟨true, rfl⟩
 | succ d ih =>
  intro i k hd hk; obtain ⟨k, rfl⟩ : ∃ m, k = m + 1 := ⟨k - 1, z143_⟩; rw [f39.l0, if_pos z143_, if_pos z143_]
  split
  · exact ⟨false, rfl⟩
  ·
   rw [Plain.w1 i z143_]; exact ih (i + 1) k z143_ z143_
theorem words_told (w : List ByteArray) (k : Nat) (hk : 1000 ≤ k) : ∃ b, f39.f k w = some b ∧ (b = true → w.length ≤ 130) := by
 unfold f39.f
 by_cases h : (w.length : Int) > 130
 ·
  rw [if_pos h]; exact ⟨false, rfl, fun h => by cases h⟩
 ·
  rw [if_neg h]; obtain ⟨b, h1⟩ := words_l0 w z143_ w.length 0 k z143_ z143_; exact ⟨b, h1, fun _ => z143_⟩
theorem termsP_len (q : List S37) : (termsP q).length ≤ 6 := by
 unfold termsP
 split
 ·
  rename_i h
  exact (mayP_told h).2.2.2
 · simp
/-- QueryTells, as a plain law. -/
theorem tells_true (q : List S37) (w : List ByteArray) (k : Nat) (hk : 6000 ≤ k) : catchwordlaw18_QueryTells.f k q w = some true := by
 obtain ⟨k, rfl⟩ : ∃ m, k = m + 1 := ⟨k - 1, z143_⟩; obtain ⟨b1, h1, h2⟩ := few_told q (k + 1) z143_; obtain ⟨b2, h3, h4⟩ := words_told w (k + 1) z143_; unfold catchwordlaw18_QueryTells.f f87.f; rw [Option.bind_some, h1, Option.bind_some, h3, Option.bind_some, if_pos rfl]; cases b1
 · rw [if_neg z81_, catchwordlaw18_QueryTells.j0, if_pos rfl]
 ·
  obtain ⟨hq, h8⟩ := h2 rfl; rw [if_pos rfl, catchwordlaw18_QueryTells.j0]; cases b2
  · rfl
  ·
   have hw := h4 rfl; rw [if_neg z81_, qterms_eq q hq h8 k z143_, Option.bind_some, rterms_eq q h8 k z143_, Option.bind_some, texts_eq _ _ (by have := termsP_len q; omega) k (by have := termsP_len q; omega), Option.bind_some, if_pos z198_, qmay_eq q hq h8 k z143_, Option.bind_some, rmay_eq q h8 k z143_, Option.bind_some, if_pos z198_, qmatch_eq q w z143_ hq h8 k z143_, Option.bind_some, rmatch_eq q w z143_ h8 k z143_, Option.bind_some]
   simp
theorem QueryTells (q : List S37) (w : List ByteArray) : ∃ k, catchwordlaw18_QueryTells.f k q w = some true := ⟨6000, tells_true q w 6000 z143_⟩
end Go.Proofs.YtbbmdakdghefnaaGreatDoor.Plain
