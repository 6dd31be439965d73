import Derived.Test.YtbbmdakdghefnaaGreatDoorQTA
/- Texts of this claim, laid together by a program (merge.py): Tx12, Tx13, Tx14, Tx15. -/
set_option maxHeartbeats 8000000
set_option maxRecDepth 100000
namespace Go.Proofs.YtbbmdakdghefnaaGreatDoor.T
open Go.RowKit Go.Proofs.YtbbmdakdghefnaaGreatDoorW.PrintWords Go.Proofs.YtbbmdakdghefnaaGreatDoorW.PrintLast Go.Proofs.YtbbmdakdghefnaaGreatDoorW.PrintMore
attribute [local go_sem] max2_int min2_int max_two min_two max_three min_three max_four min_four
set_option linter.unusedVariables false
set_option linter.unusedSimpArgs false
mutual
def f5.l0 : Nat → List (S37) → List (List ByteArray) → Int → Option ((List (List ByteArray)))
 | 0, _, _, _ => none
 | k + 1, x0, x3, x4 => if x4 < (x0.length : Int) then (if 0 ≤ x4 then (if ([] : List ByteArray).length + ((rd_T37 x0 x4).f1).length < 8796093022208 then ((some (([] : List ByteArray) ++ ((rd_T37 x0 x4).f1) : List ByteArray)).bind fun y10 => (if ((rd_T37 x0 x4).f0) ≥ 2 then (if 0 ≤ ((rd_T37 x0 x4).f2) then (if ((rd_T37 x0 x4).f2) < (x3.length : Int) then (if y10.length + (rd_L3 x3 ((rd_T37 x0 x4).f2)).length < 8796093022208 then (f5.j1 k x0 x3 x4 ([] : List ByteArray) (y10 ++ (rd_L3 x3 ((rd_T37 x0 x4).f2)))) else (none)) else (none)) else (none)) else (f5.j1 k x0 x3 x4 ([] : List ByteArray) y10))) else (none)) else (none)) else (some x3)
def f5.j1 : Nat → List (S37) → List (List ByteArray) → Int → List ByteArray → List ByteArray → Option ((List (List ByteArray)))
 | 0, _, _, _, _, _ => none
 | k + 1, x0, x3, x4, x5, x6 => if 0 ≤ x4 then (if x4 < (x0.length : Int) then (if ((rd_T37 x0 x4).f0) = 2 then (f5.j2 k x0 x3 x4 x5 x6 true) else (f5.j2 k x0 x3 x4 x5 x6 (((rd_T37 x0 x4).f0) == 3))) else (none)) else (none)
def f5.j2 : Nat → List (S37) → List (List ByteArray) → Int → List ByteArray → List ByteArray → Bool → Option ((List (List ByteArray)))
 | 0, _, _, _, _, _, _ => none
 | k + 1, x0, x3, x4, x5, x6, x49 => if x49 = true then (if 0 ≤ x4 then (if x4 < (x0.length : Int) then (if 0 ≤ ((rd_T37 x0 x4).f3) then (if ((rd_T37 x0 x4).f3) < (x3.length : Int) then (if x6.length + (rd_L3 x3 ((rd_T37 x0 x4).f3)).length < 8796093022208 then (f5.j3 k x0 x3 x4 x5 (x6 ++ (rd_L3 x3 ((rd_T37 x0 x4).f3)))) else (none)) else (none)) else (none)) else (none)) else (none)) else (f5.j3 k x0 x3 x4 x5 x6)
def f5.j3 : Nat → List (S37) → List (List ByteArray) → Int → List ByteArray → List ByteArray → Option ((List (List ByteArray)))
 | 0, _, _, _, _, _ => none
 | k + 1, x0, x3, x4, x5, x6 => f5.l1 k x0 x3 x4 x5 x6 0
def f5.l1 : Nat → List (S37) → List (List ByteArray) → Int → List ByteArray → List ByteArray → Int → Option ((List (List ByteArray)))
 | 0, _, _, _, _, _, _ => none
 | k + 1, x0, x3, x4, x5, x6, x7 => if x7 < (x6.length : Int) then (if 0 ≤ x7 then ((f43.f k x5 (rdOf ByteArray.empty x6 x7)).bind fun t11 => (f5.l1 k x0 x3 x4 t11 x6 (wrap64 (x7 + 1)))) else (none)) else (if x3.length < 5864062014805 then (f5.l0 k x0 (x3 ++ [x5]) (wrap64 (x4 + 1))) else (none))
end
def f5.f (k : Nat) (l0 : List (S37)) : Option ((List (List ByteArray))) := f5.l0 k l0 ([] : List (List ByteArray)) 0
theorem f5.calls (k : Nat) (A0 : Option Addr) (c0 : Nat) (l0 : List (S37)) (r : List (List ByteArray)) (w : World) (hr0 : Kd.C k37 w A0 l0.length l0) (hc0 : l0.length ≤ c0) (h : f5.f k l0 = some r) :
  Calls Tryz.prog 32 #[.slice A0 l0.length c0] w fun e w' => ∃ v0_ : Value, e = .returned (v0_) ∧ Kd.S (Kd.slice 9 Kd.string) 23 w' w.heap.size (fun _ => True) v0_ r ∧ Below w.heap.size w w' := by
 have HR0 := A_ hr0; have HC0 := A_ hc0; clear hr0 hc0; have HB := A_ (Below.refl w.heap.size w); unfold f5.f at h; have H := h; clear h; have H' := A_ H; clear H; go_enter Tryz.func32, Tryz.ntmps32; go_wp2
 go_loopg [3, 4] k (fun kq v3 v4 w' => ∃ (x3_1 : List (List ByteArray)) (x4_1 : Int), v4 = .int .i64 x4_1 ∧ Aside0 (f5.l0 kq l0 x3_1 x4_1 = some r) ∧ Aside0 (kq ≤ k) ∧ Aside0 (Kd.S (Kd.slice 9 Kd.string) 23 w' w.heap.size (fun _ => True) v3 x3_1) ∧ Aside0 (Below w.heap.size w w'))
 case atStart => exact ⟨(([] : List (List ByteArray))), (0), z119_, H', ⟨Nat.le_refl _⟩, ⟨z115_⟩, ⟨z167_⟩⟩
 case round =>
  clear H'; obtain ⟨x3_1, x4_1, rfl, HA, HK1, HO_3, HB⟩ := hrel
  cases gk with
  | zero => exact absurd HA.out (by simp [f5.l0])
  | succ k1 =>
  have H := HA.out; clear HA; simp only [f5.l0] at H; revert H; refine i1_ (fun c2b0 H => ?_) fun c2b0 H => ?_; rotate_left
  ·
   obtain rfl := sj_ H; go_wp2; go_ret; exact ⟨_, z118_, z57_, z167_⟩
  revert H; refine i3_ fun c3b0 H => ?_; revert H; refine i4_ fun c4 H => ?_; have LMc4 := A_ c4; clear c4; obtain ⟨y36, hy36⟩ : ∃ y_ : List ByteArray, y_ = (([] : List ByteArray) ++ ((rd_T37 l0 x4_1).f1)) := ⟨_, rfl⟩; replace H : (if ((rd_T37 l0 x4_1).f0) ≥ 2 then (if 0 ≤ ((rd_T37 l0 x4_1).f2) then (if ((rd_T37 l0 x4_1).f2) < (x3_1.length : Int) then (if y36.length + (rd_L3 x3_1 ((rd_T37 l0 x4_1).f2)).length < 8796093022208 then (f5.j1 k1 l0 x3_1 x4_1 ([] : List ByteArray) (y36 ++ (rd_L3 x3_1 ((rd_T37 l0 x4_1).f2)))) else (none)) else (none)) else (none)) else (f5.j1 k1 l0 x3_1 x4_1 ([] : List ByteArray) y36)) = some r := z103_; have Ny36 := A_ hy36; clear hy36; have HC5 := A_ H; clear H; obtain ⟨p38, q38, ad38, A38_1, c38_1, e38, hx38_0, hx38_1, hx38_2, hx38_3, hl38_1, hi38_1⟩ := pq_ (at_T37 HR0.out x4_1); cases e38; replace hx38_0 := hc_ HB.out hx38_0; replace hx38_1 := hc_ HB.out hx38_1; replace hx38_2 := hc_ HB.out hx38_2; replace hx38_3 := hc_ HB.out hx38_3; have HR38_1 := A_ hi38_1; have HC38_1 := A_ hl38_1; clear hi38_1 hl38_1
  go_upto_if 25 with (first | ((with_reducible refine gate_builtin (b := .append) (xs := #[.const (.slice none 0 0), .tmp 18]) rfl ?_); at_builtin; refine Kd.R_append_rows Kd.string (w0 := w) w.heap.size rfl (.const (.slice none 0 0)) (.tmp 18) 23 9 (.string ⟨#[]⟩) 16 rfl Tryz.underlying23 info9 rfl z81_ z143_ (.slice none 0 0) ([] : List ByteArray) ((rd_T37 l0 x4_1).f1) _ _ _ (fun _ => True) (fun _ => False) rfl rfl ?aO ?aR (fun _ _ h => h) (fun _ h => h.elim) ?aF ?aB ?aS ?aL ?_; (case aR => repeat (first | exact (Kd.C_below HR38_1.out HB.out) | (with_reducible refine Kd.C_alloc ?_ _) | (with_reducible refine Kd.C_drewN ?_ _) | (with_reducible refine Kd.C_drew ?_))); (case aB => exact z167_); (case aF => exact (fun _ _ => trivial)); (case aO => exact ((Kd.R_nil _ _ _ _ (fun _ => True)))); (case aS => exact (below_size z167_)); (case aL => have := LMc4.out; omega); intro v39 w6 ho hb hg hat; rw [← Ny36.out] at ho; have n_ := a3_ (Kd.S_after (Kd.S_apart_nil z57_) hg hat) (hb) (ho); clear HO_3 HB; obtain ⟨HO_3, HB, HO40⟩ := n_; clear ho hb hg hat; have p41 : 0 ≤ (x4_1 : Int) := of_decide_eq_true z113_; have q41 : x4_1 < (l0.length : Int) := of_decide_eq_true z113_; obtain ⟨ad41, A41_1, c41_1, e41, hx41_0, hx41_1, hx41_2, hx41_3, hl41_1, hi41_1⟩ := at_T37 HR0.out x4_1 p41 q41; obtain rfl : ad38 = ad41 := (by injection e41); replace hx41_0 := hc_ HB.out hx41_0; replace hx41_1 := hc_ HB.out hx41_1; replace hx41_2 := hc_ HB.out hx41_2; replace hx41_3 := hc_ HB.out hx41_3; have HR41_1 := A_ hi41_1; have HC41_1 := A_ hl41_1; clear hi41_1 hl41_1; replace p41 := eq_true p41; replace q41 := eq_true q41))
  (try simp only [Act.put, List.setIfInBounds_toArray, List.set_cons_zero, List.set_cons_succ])
  go_cut [6] (fun v6 wc => ∃ (kq : Nat) (x6_4 : List ByteArray), Aside0 (f5.j1 kq l0 x3_1 x4_1 ([] : List ByteArray) x6_4 = some r) ∧ Aside0 (kq ≤ k1) ∧ Aside0 (Kd.S (Kd.slice 9 Kd.string) 23 wc w.heap.size (o2_ ((.slice none 0 0)) (v6)) u3 x3_1) ∧ Aside0 (Kd.R Kd.string 9 wc w.heap.size (o1_ (v6)) (.slice none 0 0) ([] : List ByteArray)) ∧ Aside0 (Kd.R Kd.string 9 wc w.heap.size (o1_ ((.slice none 0 0))) v6 x6_4) ∧ Aside0 (Below w.heap.size w wc))
  case first =>
   have H := HC5.out; clear HC5; revert H; refine i1_ (fun c7b0 H => ?_) fun c7b0 H => ?_; rotate_left
   ·
    (first | rw [c7b0] | (simp only [i64_w, i32_w]; rw [c7b0]) | skip); have H' := A_ H; clear H; go_wp2
    go_meet
    case rel => exact ⟨_, (y36), H', ⟨z125_⟩, ⟨z209_⟩, ⟨z114_⟩, ⟨by (with_reducible repeat (first | apply Kd.R_alloc | apply Kd.R_drewN | apply Kd.R_drew)); exact Kd.R_mono HO40.out (fun _ hk => z200_)⟩, ⟨z167_⟩⟩
   (first | rw [c7b0] | (simp only [i64_w, i32_w]; rw [c7b0]) | skip); revert H; refine i3_ fun c8b0 H => ?_; revert H; refine i3_ fun c9b0 H => ?_; revert H; refine i4_ fun c10 H => ?_; have LMc10 := A_ c10; clear c10; obtain ⟨y42, hy42⟩ : ∃ y_ : List ByteArray, y_ = (y36 ++ (rd_L3 x3_1 ((rd_T37 l0 x4_1).f2))) := ⟨_, rfl⟩; replace H : (f5.j1 k1 l0 x3_1 x4_1 ([] : List ByteArray) y42) = some r := z104_; have Ny42 := A_ hy42; clear hy42; have H' := A_ H; clear H; obtain ⟨p43, q43, ad43, A43_1, c43_1, e43, hx43_0, hx43_1, hx43_2, hx43_3, hl43_1, hi43_1⟩ := pq_ (at_T37 HR0.out x4_1); obtain rfl : ad38 = ad43 := (by injection e43); replace hx43_0 := hc_ HB.out hx43_0; replace hx43_1 := hc_ HB.out hx43_1; replace hx43_2 := hc_ HB.out hx43_2; replace hx43_3 := hc_ HB.out hx43_3; have HR43_1 := A_ hi43_1; have HC43_1 := A_ hl43_1; clear hi43_1 hl43_1; obtain ⟨Ao11, co11, eo11⟩ := Kd.S_slice HO_3.out; subst eo11; have p44 : 0 ≤ (((rd_T37 l0 x4_1).f2) : Int) := of_decide_eq_true z113_; have q44 : ((rd_T37 l0 x4_1).f2) < (x3_1.length : Int) := of_decide_eq_true z113_; obtain ⟨ad44, A44_0, c44_0, e44, hx44_0, hl44_0, hi44_0⟩ := at_L3 (Kd.S_reads' HO_3.out).2.2 ((rd_T37 l0 x4_1).f2) p44 q44; cases e44; obtain ⟨ce475, hce475, hMe475, hcc475⟩ := Kd.S_get HO_3.out [] ((rd_T37 l0 x4_1).f2) p44 (by first | exact q44 | exact of_decide_eq_true z113_ | (have e_ := (Kd.S_reads' HO_3.out).1; omega)); obtain ⟨ve475_0, rfl, ge475_0⟩ := hMe475; have hv475_0 := hcc475 0 _ rfl; rw [Nat.add_zero, show ((Kd.slice 9 Kd.string)).sz = 1 from rfl, Nat.mul_one] at hv475_0; replace hv475_0 := Option.some.inj (hv475_0.symm.trans hx44_0); rw [hv475_0] at ge475_0; have HL475_0 := A_ (show Kd.R Kd.string 9 _ _ _ _ (rd_L3 x3_1 ((rd_T37 l0 x4_1).f2)) from ge475_0); clear hv475_0 ge475_0 hcc475 hce475; have HR44_0 := A_ hi44_0; have HC44_0 := A_ hl44_0; clear hi44_0 hl44_0; replace p44 := eq_true p44; replace q44 := eq_true q44
   go_wp2_with (first | ((with_reducible refine gate_builtin (b := .append) (xs := #[.tmp 26, .tmp 34]) rfl ?_); at_builtin; refine Kd.R_append_rows Kd.string (w0 := w) w.heap.size rfl (.tmp 26) (.tmp 34) 23 9 (.string ⟨#[]⟩) 16 rfl Tryz.underlying23 info9 rfl z81_ z143_ v39 y36 (rd_L3 x3_1 ((rd_T37 l0 x4_1).f2)) _ _ _ (fun _ => True) (fun _ => False) rfl rfl ?aO ?aR (fun _ _ h => h) (fun _ h => h.elim) ?aF ?aB ?aS ?aL ?_; (case aR => repeat (first | exact (by repeat (first | (with_reducible exact HR44_0.out) | (with_reducible refine Kd.C_alloc ?_ _) | (with_reducible refine Kd.C_drewN ?_ _) | (with_reducible refine Kd.C_drew ?_) | exact HR44_0.out)) | (with_reducible refine Kd.C_alloc ?_ _) | (with_reducible refine Kd.C_drewN ?_ _) | (with_reducible refine Kd.C_drew ?_))); (case aB => exact z167_); (case aF => exact (fun _ _ => trivial)); (case aO => exact z10_); (case aS => exact (below_size z167_)); (case aL => have := LMc10.out; omega); intro v45 w12 ho hb hg hat; rw [← Ny42.out] at ho; have n_ := a4_ (Kd.S_after (ok := (fun _ => True)) z57_ hg hat) (Kd.R_after (ok := (o1_ (.slice (some ad44) x3_1.length co11))) (by (with_reducible repeat (first | apply Kd.R_alloc | apply Kd.R_drewN | apply Kd.R_drew)); exact Kd.R_mono HL475_0.out (fun _ hk => ⟨hk.2, hk.1.2⟩)) hg hat) (hb) (ho); clear HO_3 HL475_0 HB HO40; obtain ⟨HO_3, HL475_0, HB, HO46⟩ := n_; clear ho hb hg hat))
   go_meet
   case rel => exact ⟨_, (y42), H', ⟨z125_⟩, ⟨z209_⟩, ⟨z114_⟩, ⟨by (with_reducible repeat (first | apply Kd.R_alloc | apply Kd.R_drewN | apply Kd.R_drew)); exact Kd.R_mono HO46.out (fun _ hk => z200_)⟩, ⟨z167_⟩⟩
  case rest =>
   clear HC5; (try clear c2); (try clear c2b0); (try clear c3); (try clear c3b0); (try clear c4); (try clear c7); (try clear c7b0); (try clear c8); (try clear c8b0); (try clear c9); (try clear c9b0); (try clear c10); (try clear hx38_0); (try clear hx38_1); (try clear hx38_2); (try clear hx38_3); (try clear hx41_0); (try clear hx41_1); (try clear hx41_2); (try clear hx41_3); (try clear hx43_0); (try clear hx43_1); (try clear hx43_2); (try clear hx43_3); (try clear hx44_0); (try clear p38); (try clear p41); (try clear p43); (try clear p44); (try clear q38); (try clear q41); (try clear q43); (try clear q44); obtain ⟨kq, x6_4, HA, HJ4, HO_3, HO_5, HO_6, HB⟩ := hcut
   cases kq with
   | zero => exact absurd HA.out (by simp [f5.j1])
   | succ kj4 =>
   have H := HA.out; clear HA; simp only [f5.j1] at H; have HC13 := A_ H; clear H
   go_upto_region 9 with (fail)
   go_cut [49] (fun v49 wc => ∃ (kq : Nat) (x49_12 : Bool), v49 = .bool x49_12 ∧ Aside0 (f5.j2 kq l0 x3_1 x4_1 ([] : List ByteArray) x6_4 x49_12 = some r) ∧ Aside0 (kq ≤ kj4) ∧ Aside0 (Kd.S (Kd.slice 9 Kd.string) 23 wc w.heap.size (o2_ ((.slice none 0 0)) (u6)) u3 x3_1) ∧ Aside0 (Kd.R Kd.string 9 wc w.heap.size (o1_ (u6)) (.slice none 0 0) ([] : List ByteArray)) ∧ Aside0 (Kd.R Kd.string 9 wc w.heap.size (o1_ ((.slice none 0 0))) u6 x6_4) ∧ Aside0 (Below w.heap.size w wc))
   case first =>
    have H := HC13.out; clear HC13; revert H; refine i3_ fun c14b0 H => ?_; (first | rw [c14b0] | (simp only [i64_w, i32_w]; rw [c14b0]) | skip); revert H; refine i3_ fun c15b0 H => ?_; revert H; refine i2_ (fun c16 H => ?_) fun c16 H => ?_
    ·
     have c16b0 := beq_iff_eq.mpr c16; have c16b1 := bne_eq_false_iff_eq.mpr c16; clear c16; have H' := A_ H; clear H; obtain ⟨p47, q47, ad47, A47_1, c47_1, e47, hx47_0, hx47_1, hx47_2, hx47_3, hl47_1, hi47_1⟩ := pq_ (at_T37 HR0.out x4_1); obtain rfl : ad38 = ad47 := (by injection e47); replace hx47_0 := hc_ HB.out hx47_0; replace hx47_1 := hc_ HB.out hx47_1; replace hx47_2 := hc_ HB.out hx47_2; replace hx47_3 := hc_ HB.out hx47_3; have HR47_1 := A_ hi47_1; have HC47_1 := A_ hl47_1; clear hi47_1 hl47_1; go_wp2
     go_meet
     case rel => exact ⟨_, (true), z119_, H', ⟨by have := HK1.out; have := HJ4.out; first | omega | exact Nat.le_refl _⟩, ⟨z57_⟩, ⟨z37_⟩, ⟨z38_⟩, ⟨z167_⟩⟩
    have c16b0 := beq_eq_false_iff_ne.mpr c16; have c16b1 := bne_iff_ne.mpr c16; have H' := A_ H; clear H; obtain ⟨p47, q47, ad47, A47_1, c47_1, e47, hx47_0, hx47_1, hx47_2, hx47_3, hl47_1, hi47_1⟩ := pq_ (at_T37 HR0.out x4_1); obtain rfl : ad38 = ad47 := (by injection e47); replace hx47_0 := hc_ HB.out hx47_0; replace hx47_1 := hc_ HB.out hx47_1; replace hx47_2 := hc_ HB.out hx47_2; replace hx47_3 := hc_ HB.out hx47_3; have HR47_1 := A_ hi47_1; have HC47_1 := A_ hl47_1; clear hi47_1 hl47_1; obtain ⟨p48, q48, ad48, A48_1, c48_1, e48, hx48_0, hx48_1, hx48_2, hx48_3, hl48_1, hi48_1⟩ := pq_ (at_T37 HR0.out x4_1); obtain rfl : ad38 = ad48 := (by injection e48); replace hx48_0 := hc_ HB.out hx48_0; replace hx48_1 := hc_ HB.out hx48_1; replace hx48_2 := hc_ HB.out hx48_2; replace hx48_3 := hc_ HB.out hx48_3; have HR48_1 := A_ hi48_1; have HC48_1 := A_ hl48_1; clear hi48_1 hl48_1; have ea_ := Option.some.inj (hx47_1.symm.trans hx48_1)
    injection ea_ with ea_ en_ ec_
    subst ea_; subst ec_; clear en_; go_wp2
    go_meet
    case rel => exact ⟨_, ((((rd_T37 l0 x4_1).f0) == 3)), z119_, H', ⟨by have := HK1.out; have := HJ4.out; first | omega | exact Nat.le_refl _⟩, ⟨z57_⟩, ⟨z37_⟩, ⟨z38_⟩, ⟨z167_⟩⟩
   case rest =>
    clear HC13; (try clear c2); (try clear c2b0); (try clear c3); (try clear c3b0); (try clear c4); (try clear c7); (try clear c7b0); (try clear c8); (try clear c8b0); (try clear c9); (try clear c9b0); (try clear c10); (try clear c14); (try clear c14b0); (try clear c15); (try clear c15b0); (try clear c16); (try clear c16b0); (try clear c16b1); (try clear hx38_0); (try clear hx38_1); (try clear hx38_2); (try clear hx38_3); (try clear hx41_0); (try clear hx41_1); (try clear hx41_2); (try clear hx41_3); (try clear hx43_0); (try clear hx43_1); (try clear hx43_2); (try clear hx43_3); (try clear hx44_0); (try clear hx47_0); (try clear hx47_1); (try clear hx47_2); (try clear hx47_3); (try clear hx48_0); (try clear hx48_1); (try clear hx48_2); (try clear hx48_3); (try clear p38); (try clear p41); (try clear p43); (try clear p44); (try clear p47); (try clear p48); (try clear q38); (try clear q41); (try clear q43); (try clear q44); (try clear q47); (try clear q48); obtain ⟨kq, x49_12, rfl, HA, HJ12, HO_3, HO_5, HO_6, HB⟩ := hcut
    cases kq with
    | zero => exact absurd HA.out (by simp [f5.j2])
    | succ kj12 =>
    have H := HA.out; clear HA; simp only [f5.j2] at H; have HC17 := A_ H; clear H
    go_upto_if 49 with (fail)
    go_cut [6] (fun v6 wc => ∃ (kq : Nat) (x6_16 : List ByteArray), Aside0 (f5.j3 kq l0 x3_1 x4_1 ([] : List ByteArray) x6_16 = some r) ∧ Aside0 (kq ≤ kj12) ∧ Aside0 (Kd.S (Kd.slice 9 Kd.string) 23 wc w.heap.size (o2_ ((.slice none 0 0)) (v6)) u3 x3_1) ∧ Aside0 (Kd.R Kd.string 9 wc w.heap.size (o1_ (v6)) (.slice none 0 0) ([] : List ByteArray)) ∧ Aside0 (Kd.R Kd.string 9 wc w.heap.size (o1_ ((.slice none 0 0))) v6 x6_16) ∧ Aside0 (Below w.heap.size w wc))
    case first =>
     have H := HC17.out; clear HC17
     by_cases c18 : x49_12 = true
     ·
      subst c18; have H1 := tt_ H; clear H; have H := H1; clear H1; revert H; refine i3_ fun c19b0 H => ?_; (first | rw [c19b0] | (simp only [i64_w, i32_w]; rw [c19b0]) | skip); revert H; refine i3_ fun c20b0 H => ?_; revert H; refine i3_ fun c21b0 H => ?_; revert H; refine i3_ fun c22b0 H => ?_; revert H; refine i4_ fun c23 H => ?_; have LMc23 := A_ c23; clear c23; obtain ⟨y50, hy50⟩ : ∃ y_ : List ByteArray, y_ = (x6_4 ++ (rd_L3 x3_1 ((rd_T37 l0 x4_1).f3))) := ⟨_, rfl⟩
      replace H : (f5.j3 kj12 l0 x3_1 x4_1 ([] : List ByteArray) y50) = some r := by first | (rw [hy50]; with_reducible exact H) | (have H2_ := (Option.bind_some _ _).symm.trans H; rw [hy50]; with_reducible exact H2_) | (have H2_ := (Option.bind_some _ _).symm.trans H; with_reducible exact H2_) | with_reducible exact H | (rw [hy50]; exact H) | exact H
      have Ny50 := A_ hy50; clear hy50; have H' := A_ H; clear H; obtain ⟨p51, q51, ad51, A51_1, c51_1, e51, hx51_0, hx51_1, hx51_2, hx51_3, hl51_1, hi51_1⟩ := pq_ (at_T37 HR0.out x4_1); obtain rfl : ad38 = ad51 := (by injection e51); replace hx51_0 := hc_ HB.out hx51_0; replace hx51_1 := hc_ HB.out hx51_1; replace hx51_2 := hc_ HB.out hx51_2; replace hx51_3 := hc_ HB.out hx51_3; have HR51_1 := A_ hi51_1; have HC51_1 := A_ hl51_1; clear hi51_1 hl51_1; obtain ⟨Ao24, co24, eo24⟩ := Kd.S_slice HO_3.out; subst eo24; have p52 : 0 ≤ (((rd_T37 l0 x4_1).f3) : Int) := of_decide_eq_true z113_; have q52 : ((rd_T37 l0 x4_1).f3) < (x3_1.length : Int) := of_decide_eq_true z113_; obtain ⟨ad52, A52_0, c52_0, e52, hx52_0, hl52_0, hi52_0⟩ := at_L3 (Kd.S_reads' HO_3.out).2.2 ((rd_T37 l0 x4_1).f3) p52 q52; cases e52; obtain ⟨ce482, hce482, hMe482, hcc482⟩ := Kd.S_get HO_3.out [] ((rd_T37 l0 x4_1).f3) p52 (by first | exact q52 | exact of_decide_eq_true z113_ | (have e_ := (Kd.S_reads' HO_3.out).1; omega)); obtain ⟨ve482_0, rfl, ge482_0⟩ := hMe482; have hv482_0 := hcc482 0 _ rfl; rw [Nat.add_zero, show ((Kd.slice 9 Kd.string)).sz = 1 from rfl, Nat.mul_one] at hv482_0; replace hv482_0 := Option.some.inj (hv482_0.symm.trans hx52_0); rw [hv482_0] at ge482_0; have HL482_0 := A_ (show Kd.R Kd.string 9 _ _ _ _ (rd_L3 x3_1 ((rd_T37 l0 x4_1).f3)) from ge482_0); clear hv482_0 ge482_0 hcc482 hce482; have HR52_0 := A_ hi52_0; have HC52_0 := A_ hl52_0; clear hi52_0 hl52_0; replace p52 := eq_true p52; replace q52 := eq_true q52
      go_wp2_with (first | ((with_reducible refine gate_builtin (b := .append) (xs := #[.tmp 50, .tmp 58]) rfl ?_); at_builtin; refine Kd.R_append_rows Kd.string (w0 := w) w.heap.size rfl (.tmp 50) (.tmp 58) 23 9 (.string ⟨#[]⟩) 16 rfl Tryz.underlying23 info9 rfl z81_ z143_ u6 x6_4 (rd_L3 x3_1 ((rd_T37 l0 x4_1).f3)) _ _ _ (o1_ (.slice none 0 0)) (fun _ => False) rfl rfl ?aO ?aR (fun _ _ h => h) (fun _ h => h.elim) ?aF ?aB ?aS ?aL ?_; (case aR => repeat (first | exact (by repeat (first | (with_reducible exact HR52_0.out) | (with_reducible refine Kd.C_alloc ?_ _) | (with_reducible refine Kd.C_drewN ?_ _) | (with_reducible refine Kd.C_drew ?_) | exact HR52_0.out)) | (with_reducible refine Kd.C_alloc ?_ _) | (with_reducible refine Kd.C_drewN ?_ _) | (with_reducible refine Kd.C_drew ?_))); (case aB => exact z167_); (case aF => exact (fun k_ hk => Kd.fresh' (Kd.R_lt z37_) k_ hk)); (case aO => exact z38_); (case aS => exact (below_size z167_)); (case aL => have := LMc23.out; omega); intro v53 w25 ho hb hg hat; rw [← Ny50.out] at ho; have n_ := a5_ (Kd.S_after (ok := (o1_ (.slice none 0 0))) z57_ hg hat) (Kd.R_after (ok := (fun _ => True)) (by (with_reducible repeat (first | apply Kd.R_alloc | apply Kd.R_drewN | apply Kd.R_drew)); exact Kd.R_mono HO_5.out (fun _ hk => ⟨trivial, hk⟩)) hg hat) (Kd.R_after (ok := (o2_ (.slice (some ad52) x3_1.length co24) (.slice none 0 0))) (by (with_reducible repeat (first | apply Kd.R_alloc | apply Kd.R_drewN | apply Kd.R_drew)); exact Kd.R_mono HL482_0.out (fun _ hk => ⟨⟨hk.2, hk.1.1⟩, hk.1.2⟩)) hg hat) (hb) (ho); clear HO_3 HO_5 HL482_0 HB HO_6; obtain ⟨HO_3, HO_5, HL482_0, HB, HO54⟩ := n_; clear ho hb hg hat))
      go_meet
      case rel => exact ⟨_, (y50), H', ⟨z126_⟩, ⟨z57_⟩, ⟨by (with_reducible repeat (first | apply Kd.R_alloc | apply Kd.R_drewN | apply Kd.R_drew)); exact Kd.R_mono HO_5.out (fun _ hk => hk.2)⟩, ⟨by (with_reducible repeat (first | apply Kd.R_alloc | apply Kd.R_drewN | apply Kd.R_drew)); exact HO54.out⟩, ⟨z167_⟩⟩
     ·
      replace c18 := Bool.eq_false_iff.mpr c18; subst c18; have H1 := ff_ H; clear H; have H := H1; clear H1; have H' := A_ H; clear H; go_wp2
      go_meet
      case rel => exact ⟨_, (x6_4), H', ⟨z126_⟩, ⟨z57_⟩, ⟨z37_⟩, ⟨z38_⟩, ⟨z167_⟩⟩
    case rest =>
     clear HC17; (try clear c2); (try clear c2b0); (try clear c3); (try clear c3b0); (try clear c4); (try clear c7); (try clear c7b0); (try clear c8); (try clear c8b0); (try clear c9); (try clear c9b0); (try clear c10); (try clear c14); (try clear c14b0); (try clear c15); (try clear c15b0); (try clear c16); (try clear c16b0); (try clear c16b1); (try clear c18); (try clear c19); (try clear c19b0); (try clear c20); (try clear c20b0); (try clear c21); (try clear c21b0); (try clear c22); (try clear c22b0); (try clear c23); (try clear hx38_0); (try clear hx38_1); (try clear hx38_2); (try clear hx38_3); (try clear hx41_0); (try clear hx41_1); (try clear hx41_2); (try clear hx41_3); (try clear hx43_0); (try clear hx43_1); (try clear hx43_2); (try clear hx43_3); (try clear hx44_0); (try clear hx47_0); (try clear hx47_1); (try clear hx47_2); (try clear hx47_3); (try clear hx48_0); (try clear hx48_1); (try clear hx48_2); (try clear hx48_3); (try clear hx51_0); (try clear hx51_1); (try clear hx51_2); (try clear hx51_3); (try clear hx52_0); (try clear p38); (try clear p41); (try clear p43); (try clear p44); (try clear p47); (try clear p48); (try clear p51); (try clear p52); (try clear q38); (try clear q41); (try clear q43); (try clear q44); (try clear q47); (try clear q48); (try clear q51); (try clear q52); obtain ⟨kq, x6_16, HA, HJ16, HO_3, HO_5, HO_6, HB⟩ := hcut
     cases kq with
     | zero => exact absurd HA.out (by simp [f5.j3])
     | succ kj16 =>
     have H := HA.out; clear HA; simp only [f5.j3] at H; have H' := A_ H; clear H; go_wp2
     go_loopg [5, 7] kj16 (fun kq v5 v7 w' => ∃ (x5_5 : List ByteArray) (x7_5 : Int), v7 = .int .i64 x7_5 ∧ Aside0 (f5.l1 kq l0 x3_1 x4_1 x5_5 x6_16 x7_5 = some r) ∧ Aside0 (kq ≤ kj16) ∧ Aside0 (Kd.S (Kd.slice 9 Kd.string) 23 w' w.heap.size (o2_ (v5) (u6)) u3 x3_1) ∧ Aside0 (Kd.R Kd.string 9 w' w.heap.size (o1_ (u6)) v5 x5_5) ∧ Aside0 (Kd.R Kd.string 9 w' w.heap.size (o1_ (v5)) u6 x6_16) ∧ Aside0 (Below w.heap.size w w'))
     case atStart => exact ⟨(([] : List ByteArray)), (0), z119_, H', ⟨Nat.le_refl _⟩, ⟨z57_⟩, ⟨z37_⟩, ⟨z38_⟩, ⟨z167_⟩⟩
     case round =>
      clear H'; (try clear c2); (try clear c2b0); (try clear c3); (try clear c3b0); (try clear c4); (try clear c7); (try clear c7b0); (try clear c8); (try clear c8b0); (try clear c9); (try clear c9b0); (try clear c10); (try clear c14); (try clear c14b0); (try clear c15); (try clear c15b0); (try clear c16); (try clear c16b0); (try clear c16b1); (try clear c18); (try clear c19); (try clear c19b0); (try clear c20); (try clear c20b0); (try clear c21); (try clear c21b0); (try clear c22); (try clear c22b0); (try clear c23); (try clear hx38_0); (try clear hx38_1); (try clear hx38_2); (try clear hx38_3); (try clear hx41_0); (try clear hx41_1); (try clear hx41_2); (try clear hx41_3); (try clear hx43_0); (try clear hx43_1); (try clear hx43_2); (try clear hx43_3); (try clear hx44_0); (try clear hx47_0); (try clear hx47_1); (try clear hx47_2); (try clear hx47_3); (try clear hx48_0); (try clear hx48_1); (try clear hx48_2); (try clear hx48_3); (try clear hx51_0); (try clear hx51_1); (try clear hx51_2); (try clear hx51_3); (try clear hx52_0); (try clear p38); (try clear p41); (try clear p43); (try clear p44); (try clear p47); (try clear p48); (try clear p51); (try clear p52); (try clear q38); (try clear q41); (try clear q43); (try clear q44); (try clear q47); (try clear q48); (try clear q51); (try clear q52); obtain ⟨x5_5, x7_5, rfl, HA, HK5, HO_3, HO_5, HO_6, HB⟩ := hrel
      cases gk with
      | zero => exact absurd HA.out (by simp [f5.l1])
      | succ k5 =>
      have H := HA.out; clear HA; simp only [f5.l1] at H; revert H; refine i1_ (fun c26b0 H => ?_) fun c26b0 H => ?_
      ·
       revert H; refine i3_ fun c27b0 H => ?_; replace H := bm_ H; obtain ⟨t55, A56, H⟩ := H; have A28 := A_ A56; clear A56; have H' := A_ H; clear H; obtain ⟨Ao29, co29, eo29⟩ := Kd.R_slice HO_6.out; subst eo29; obtain ⟨p57, q57, ad57, e57, hx57_0⟩ := pq_ (Kd.at_string (Kd.R_reads' HO_6.out).2.2 x7_5); cases e57; obtain ⟨Ao30, co30, eo30⟩ := Kd.R_slice HO_5.out; subst eo30
       go_wp2_with (first | ((with_reducible refine gate_callee (f := 64) rfl ?_); refine gl_ (some 71) Tryz.func64 #[.slice Ao30 x5_5.length co30, .string (rdOf ByteArray.empty x6_16 x7_5)] ?_; (with_reducible refine (f43.calls k5 (fun k_ => some k_ = (.slice Ao30 x5_5.length co30 : Value).ownBlock) (.slice Ao30 x5_5.length co30) x5_5 (rdOf ByteArray.empty x6_16 x7_5) t55 w _ ?side1 ?side2 A28.out).mono ?_); (case side1 => exact z167_); (case side2 => exact Kd.R_tight rfl HO_5.out); rintro e w31 ⟨v58, rfl, ho0, hb, hkp⟩; refine ⟨_, rfl, ?_⟩; have n_ := a4_ (Kd.S_mono (ok' := fun k_ => some k_ ≠ (.slice (some ad57) x6_16.length co29 : Value).ownBlock ∧ some k_ ≠ (v58 : Value).ownBlock) (Kd.S_keptB (HO_3.out) hkp (fun k_ hk_ hs_ => (hk_.1) hs_)) (fun k_ hk_ => ⟨hk_.1.2, fun e_ => Or.elim (ho0.1 k_ e_.symm) (fun hs_ => hk_.2.1 hs_) (fun hn_ => Nat.not_le.2 hk_.2.2 hn_)⟩)) (Kd.R_mono (ok' := fun k_ => some k_ ≠ (v58 : Value).ownBlock) (Kd.R_keptB (HO_6.out) hkp (fun k_ hk_ hs_ => (hk_) hs_)) (fun k_ hk_ => fun e_ => Or.elim (ho0.1 k_ e_.symm) (fun hs_ => hk_.2.1 hs_) (fun hn_ => Nat.not_le.2 hk_.2.2 hn_))) (Kd.R_mono (ok' := fun k_ => some k_ ≠ (.slice (some ad57) x6_16.length co29 : Value).ownBlock) ho0 (fun k_ hk_ => Or.elim hk_ (fun hs_ => fun e_ => (((HO_6.out).1 k_ e_.symm)) hs_) (fun hn_ => (Kd.fresh' (Kd.R_lt z38_) k_ hn_)))) (hb); clear HO_3 HO_6 HB HO_5; obtain ⟨HO_3, HO_6, HO59, HB⟩ := n_; (try clear hb); (try clear hkp); (try clear ho0)))
       go_roundg k5
       case measure => have := HK1.out; have := HJ4.out; have := HJ12.out; have := HJ16.out; have := HK5.out; omega
       case rel => exact ⟨(t55), (wrap64 (x7_5 + 1)), z119_, H', ⟨z127_⟩, ⟨by (with_reducible repeat (first | apply Kd.S_alloc | apply Kd.S_drewN | apply Kd.S_drew)); exact Kd.S_mono HO_3.out (fun _ hk => ⟨hk.2, hk.1⟩)⟩, ⟨by (with_reducible repeat (first | apply Kd.R_alloc | apply Kd.R_drewN | apply Kd.R_drew)); exact HO59.out⟩, ⟨z38_⟩, ⟨z167_⟩⟩
      revert H; refine i4_ fun c32 H => ?_; have LMc32 := A_ c32; clear c32; obtain ⟨y60, hy60⟩ : ∃ y_ : List (List ByteArray), y_ = (x3_1 ++ [x5_5]) := ⟨_, rfl⟩
      replace H : (f5.l0 k5 l0 y60 (wrap64 (x4_1 + 1))) = some r := by first | (rw [hy60]; with_reducible exact H) | (have H2_ := (Option.bind_some _ _).symm.trans H; rw [hy60]; with_reducible exact H2_) | (have H2_ := (Option.bind_some _ _).symm.trans H; with_reducible exact H2_) | with_reducible exact H | (rw [hy60]; exact H) | exact H
      have Ny60 := A_ hy60; clear hy60; have H' := A_ H; clear H; obtain ⟨Ao33, co33, eo33⟩ := Kd.R_slice HO_6.out; subst eo33; obtain ⟨Ao35, co35, eo35⟩ := Kd.R_slice HO_5.out; subst eo35
      go_wp2_with (first | ((with_reducible refine gate_builtin (b := .append) (xs := #[.tmp 72, .tmp 74]) rfl ?_); at_builtin; refine Kd.S_append (Kd.slice 9 Kd.string) (w0 := w) w.heap.size rfl (.tmp 72) (.tmp 74) 58 23 (.slice none 0 0) 24 rfl Tryz.underlying58 info23 rfl z81_ z143_ u3 x3_1 x5_5 [.slice Ao35 x5_5.length co35] (o1_ (.slice Ao33 x6_16.length co33)) (fun k_ => some k_ = (.slice Ao35 x5_5.length co35 : Value).ownBlock) rfl rfl ?aP (fun k_ hk_ => ((Kd.R_mono (ok' := fun k_ => ((o1_ (.slice Ao33 x6_16.length co33))) k_ ∧ some k_ ≠ (u3 : Value).ownBlock) (Kd.R_apart' (HO_5.out) (Kd.S_typed HO_3.out) z81_) (fun k_ hk => ⟨hk.1, hk.2⟩))).1 k_ hk_.symm) ?aF ?aO ?aB ?aS ?aL ?_; (case aP => exact Kd.M_row (Kd.R_mono (Kd.R_tight rfl (Kd.R_mono (ok' := fun k_ => ((o1_ (.slice Ao33 x6_16.length co33))) k_ ∧ some k_ ≠ (u3 : Value).ownBlock) (Kd.R_apart' (HO_5.out) (Kd.S_typed HO_3.out) z81_) (fun k_ hk => ⟨hk.1, hk.2⟩))) (fun _ h_ => h_))); (case aB => exact z167_); (case aF => exact (fun k_ hk => Kd.fresh' (Kd.R_lt z38_) k_ hk)); (case aO => exact (by (with_reducible repeat (first | apply Kd.S_alloc | apply Kd.S_drewN | apply Kd.S_drew)); exact Kd.S_mono HO_3.out (fun k_ hk => ⟨hk.2, fun e_ => hk.1 e_⟩))); (case aS => exact (below_size z167_)); (case aL => have := LMc32.out; omega); intro v61 w34 ho hb hg hat; rw [← Ny60.out] at ho; have n_ := a3_ (Kd.R_over' z38_ (Kd.S_typed z57_) z81_ hg) (hb) (ho); clear HO_6 HB HO_3 HO_5; obtain ⟨HO_6, HB, HO62⟩ := n_; clear ho hb hg hat))
      go_roundg k5
      case measure => have := HK1.out; have := HJ4.out; have := HJ12.out; have := HJ16.out; have := HK5.out; omega
      case rel => exact ⟨(y60), (wrap64 (x4_1 + 1)), z119_, H', ⟨z127_⟩, ⟨by (with_reducible repeat (first | apply Kd.S_alloc | apply Kd.S_drewN | apply Kd.S_drew)); exact Kd.S_mono HO62.out (fun _ hk => trivial)⟩, ⟨z167_⟩⟩
def f38.l0 : Nat → Int → Int → Int → List ByteArray → Int → Int → Option (Bool)
 | 0, _, _, _, _, _, _ => none
 | k + 1, x1, x5, x10, x11, x12, x13 => if x5 < (x11.length : Int) then (if 0 ≤ x5 then (if ((rdOf ByteArray.empty x11 x5).size : Int) < 1 then (some false) else (if ((rdOf ByteArray.empty x11 x5).size : Int) > 32 then (some false) else (f38.l0 k x1 (wrap64 (x5 + 1)) x10 x11 x12 x13))) else (none)) else (if x10 = 0 then (if (x11.length : Int) = 1 then (if x12 = 0 then (some (x13 == 0)) else (some false)) else (some false)) else (if x10 = 1 then (if (x11.length : Int) ≥ 2 then (if (x11.length : Int) ≤ 6 then (if x12 = 0 then (some (x13 == 0)) else (some false)) else (some false)) else (some false)) else (if x10 = 2 then (if (x11.length : Int) = 0 then (if x12 ≥ 0 then (if x12 < x1 then (if x13 ≥ 0 then (some (decide (x13 < x1))) else (some false)) else (some false)) else (some false)) else (some false)) else (if x10 = 3 then (if (x11.length : Int) = 0 then (if x12 ≥ 0 then (if x12 < x1 then (if x13 ≥ 0 then (some (decide (x13 < x1))) else (some false)) else (some false)) else (some false)) else (some false)) else (if x10 = 4 then (if (x11.length : Int) = 0 then (if x12 ≥ 0 then (if x12 < x1 then (if x13 ≥ 0 then (some (decide (x13 < x1))) else (some false)) else (some false)) else (some false)) else (some false)) else (some false))))))
def f38.f (k : Nat) (a0_0 : Int) (l0_1 : List ByteArray) (a0_2 : Int) (a0_3 : Int) (a1 : Int) : Option (Bool) := f38.l0 k a1 0 a0_0 l0_1 a0_2 a0_3
theorem f38.calls (k : Nat) (a0_0 : Int) (A0_1 : Option Addr) (c0_1 : Nat) (l0_1 : List ByteArray) (a0_2 : Int) (a0_3 : Int) (a1 : Int) (r : Bool) (w : World) (hr0_1 : Kd.C Kd.string w A0_1 l0_1.length l0_1) (hc0_1 : l0_1.length ≤ c0_1) (h : f38.f k a0_0 l0_1 a0_2 a0_3 a1 = some r) :
  Calls Tryz.prog 34 #[.agg #[.int .i64 a0_0, .slice A0_1 l0_1.length c0_1, .int .i64 a0_2, .int .i64 a0_3], .int .i64 a1] w fun e w' => e = .returned (.bool r) ∧ Below w.heap.size w w' := by
 have hu37 := Tryz.underlying37; have HR0_1 := A_ hr0_1; have HC0_1 := A_ hc0_1; clear hr0_1 hc0_1; have HB := A_ (Below.refl w.heap.size w); unfold f38.f at h; have H := h; clear h; have H' := A_ H; clear H; go_enter Tryz.func34, Tryz.ntmps34
 go_wp2_with (first | ((with_reducible refine gate_dst (N := 2) rfl ?_); (try (refine gate_guard (by rfl) ?_; dsimp only)); refine box_event ?hg (N := 2) ?hd (cs := #[.int .i64 a0_0, .slice A0_1 l0_1.length c0_1, .int .i64 a0_2, .int .i64 a0_3]) (t := 37) ?hr ?_; (case hd => rfl); (case hg => rfl); (case hr => exact z82_); intro gb56 hg w3 hbox hb; have n_ := a4_ (below_step z167_ hb) (hbox) ((z216_ : w.heap.size ≤ gb56)) ((z216_ : w.heap.size ≤ gb56)); clear HB; obtain ⟨HB, BK56, GW56, GE56⟩ := n_; clear hb hbox hg))
 go_loopg [5] k (fun kq v5 w' => ∃ (x5_1 : Int), v5 = .int .i64 x5_1 ∧ Aside0 (f38.l0 kq a1 x5_1 a0_0 l0_1 a0_2 a0_3 = some r) ∧ Aside0 (kq ≤ k) ∧ Aside0 (w'.heap[gb56]? = some (.cells #[.int .i64 a0_0, (.slice A0_1 l0_1.length c0_1), .int .i64 a0_2, .int .i64 a0_3] 37 (0, 0))) ∧ Aside0 (Below w.heap.size w w'))
 case atStart => exact ⟨(0), z119_, H', ⟨Nat.le_refl _⟩, ⟨z76_⟩, ⟨z165_⟩⟩
 case round =>
  clear H'; obtain ⟨x5_1, rfl, HA, HK1, BK56, HB⟩ := hrel
  cases gk with
  | zero => exact absurd HA.out (by simp [f38.l0])
  | succ k1 =>
  have H := HA.out; clear HA; simp only [f38.l0] at H; revert H; refine i1_ (fun c4b0 H => ?_) fun c4b0 H => ?_
  ·
   revert H; refine i3_ fun c5b0 H => ?_; revert H; refine i2_ (fun c6 H => ?_) fun c6 H => ?_
   ·
    have c6b0 := decide_eq_true c6; have c6b1 : decide ((rdOf ByteArray.empty l0_1 x5_1).size < 1) = true := decide_eq_true z143_; clear c6; obtain rfl := sj_ H; obtain ⟨hcz7_0, hcz7_1, hcz7_2, hcz7_3, hfz7_0, hfz7_1, hfz7_2, hfz7_3⟩ := b4_ BK56.out; obtain ⟨p57, q57, ad57, e57, hx57_0⟩ := pq_ (Kd.at_string HR0_1.out x5_1); cases e57; replace hx57_0 := hc_ HB.out hx57_0; go_wp2; go_ret; exact ⟨z118_, z165_⟩
   have c6b0 := decide_eq_false c6; have c6b1 : decide ((rdOf ByteArray.empty l0_1 x5_1).size < 1) = false := decide_eq_false z143_; clear c6; revert H; refine i2_ (fun c8 H => ?_) fun c8 H => ?_
   ·
    have c8b0 := decide_eq_true c8; have c8b1 : decide (32 < (rdOf ByteArray.empty l0_1 x5_1).size) = true := decide_eq_true z143_; clear c8; obtain rfl := sj_ H; obtain ⟨hcz9_0, hcz9_1, hcz9_2, hcz9_3, hfz9_0, hfz9_1, hfz9_2, hfz9_3⟩ := b4_ BK56.out; obtain ⟨p57, q57, ad57, e57, hx57_0⟩ := pq_ (Kd.at_string HR0_1.out x5_1); cases e57; replace hx57_0 := hc_ HB.out hx57_0; obtain ⟨p58, q58, ad58, e58, hx58_0⟩ := pq_ (Kd.at_string HR0_1.out x5_1); obtain rfl : ad57 = ad58 := (by injection e58); replace hx58_0 := hc_ HB.out hx58_0; go_wp2; go_ret; exact ⟨z118_, z165_⟩
   have c8b0 := decide_eq_false c8; have c8b1 : decide (32 < (rdOf ByteArray.empty l0_1 x5_1).size) = false := decide_eq_false z143_; clear c8; have H' := A_ H; clear H; obtain ⟨hcz10_0, hcz10_1, hcz10_2, hcz10_3, hfz10_0, hfz10_1, hfz10_2, hfz10_3⟩ := b4_ BK56.out; obtain ⟨p57, q57, ad57, e57, hx57_0⟩ := pq_ (Kd.at_string HR0_1.out x5_1); cases e57; replace hx57_0 := hc_ HB.out hx57_0; obtain ⟨p58, q58, ad58, e58, hx58_0⟩ := pq_ (Kd.at_string HR0_1.out x5_1); obtain rfl : ad57 = ad58 := (by injection e58); replace hx58_0 := hc_ HB.out hx58_0; go_wp2
   go_roundg k1
   case measure => have := HK1.out; omega
   case rel => exact ⟨(wrap64 (x5_1 + 1)), z119_, H', ⟨z132_⟩, ⟨z76_⟩, ⟨z165_⟩⟩
  revert H; refine i2_ (fun c11 H => ?_) fun c11 H => ?_
  ·
   have c11b0 := beq_iff_eq.mpr c11; have c11b1 := bne_eq_false_iff_eq.mpr c11; clear c11; revert H; refine i2_ (fun c12 H => ?_) fun c12 H => ?_; rotate_left
   ·
    have c12b0 := beq_eq_false_iff_ne.mpr c12; have c12b1 := bne_iff_ne.mpr c12; obtain rfl := sj_ H; obtain ⟨hcz16_0, hcz16_1, hcz16_2, hcz16_3, hfz16_0, hfz16_1, hfz16_2, hfz16_3⟩ := b4_ BK56.out; go_wp2; go_ret; exact ⟨z118_, z165_⟩
   have c12b0 := beq_iff_eq.mpr c12; have c12b1 := bne_eq_false_iff_eq.mpr c12; clear c12; revert H; refine i2_ (fun c13 H => ?_) fun c13 H => ?_; rotate_left
   ·
    have c13b0 := beq_eq_false_iff_ne.mpr c13; have c13b1 := bne_iff_ne.mpr c13; obtain rfl := sj_ H; obtain ⟨hcz15_0, hcz15_1, hcz15_2, hcz15_3, hfz15_0, hfz15_1, hfz15_2, hfz15_3⟩ := b4_ BK56.out; go_wp2; go_ret; exact ⟨z118_, z165_⟩
   have c13b0 := beq_iff_eq.mpr c13; have c13b1 := bne_eq_false_iff_eq.mpr c13; clear c13; obtain rfl := sj_ H; obtain ⟨hcz14_0, hcz14_1, hcz14_2, hcz14_3, hfz14_0, hfz14_1, hfz14_2, hfz14_3⟩ := b4_ BK56.out; go_wp2; go_ret; exact ⟨z118_, z165_⟩
  have c11b0 := beq_eq_false_iff_ne.mpr c11; have c11b1 := bne_iff_ne.mpr c11; revert H; refine i2_ (fun c17 H => ?_) fun c17 H => ?_
  ·
   have c17b0 := beq_iff_eq.mpr c17; have c17b1 := bne_eq_false_iff_eq.mpr c17; clear c17; revert H; refine i2_ (fun c18 H => ?_) fun c18 H => ?_; rotate_left
   ·
    have c18b0 := decide_eq_false c18; have c18b1 : decide (2 ≤ l0_1.length) = false := decide_eq_false z143_; clear c18; obtain rfl := sj_ H; obtain ⟨hcz24_0, hcz24_1, hcz24_2, hcz24_3, hfz24_0, hfz24_1, hfz24_2, hfz24_3⟩ := b4_ BK56.out; go_wp2; go_ret; exact ⟨z118_, z165_⟩
   have c18b0 := decide_eq_true c18; have c18b1 : decide (2 ≤ l0_1.length) = true := decide_eq_true z143_; clear c18; revert H; refine i2_ (fun c19 H => ?_) fun c19 H => ?_; rotate_left
   ·
    have c19b0 := decide_eq_false c19; have c19b1 : decide (l0_1.length ≤ 6) = false := decide_eq_false z143_; clear c19; obtain rfl := sj_ H; obtain ⟨hcz23_0, hcz23_1, hcz23_2, hcz23_3, hfz23_0, hfz23_1, hfz23_2, hfz23_3⟩ := b4_ BK56.out; go_wp2; go_ret; exact ⟨z118_, z165_⟩
   have c19b0 := decide_eq_true c19; have c19b1 : decide (l0_1.length ≤ 6) = true := decide_eq_true z143_; clear c19; revert H; refine i2_ (fun c20 H => ?_) fun c20 H => ?_; rotate_left
   ·
    have c20b0 := beq_eq_false_iff_ne.mpr c20; have c20b1 := bne_iff_ne.mpr c20; obtain rfl := sj_ H; obtain ⟨hcz22_0, hcz22_1, hcz22_2, hcz22_3, hfz22_0, hfz22_1, hfz22_2, hfz22_3⟩ := b4_ BK56.out; go_wp2; go_ret; exact ⟨z118_, z165_⟩
   have c20b0 := beq_iff_eq.mpr c20; have c20b1 := bne_eq_false_iff_eq.mpr c20; clear c20; obtain rfl := sj_ H; obtain ⟨hcz21_0, hcz21_1, hcz21_2, hcz21_3, hfz21_0, hfz21_1, hfz21_2, hfz21_3⟩ := b4_ BK56.out; go_wp2; go_ret; exact ⟨z118_, z165_⟩
  have c17b0 := beq_eq_false_iff_ne.mpr c17; have c17b1 := bne_iff_ne.mpr c17; revert H; refine i2_ (fun c25 H => ?_) fun c25 H => ?_
  ·
   have c25b0 := beq_iff_eq.mpr c25; have c25b1 := bne_eq_false_iff_eq.mpr c25; clear c25; revert H; refine i2_ (fun c26 H => ?_) fun c26 H => ?_; rotate_left
   ·
    have c26b0 := beq_eq_false_iff_ne.mpr c26; have c26b1 := bne_iff_ne.mpr c26; have c26b2 : ¬ (l0_1 = []) := fun h_ => c26 (by rw [h_]; rfl); obtain rfl := sj_ H; obtain ⟨hcz34_0, hcz34_1, hcz34_2, hcz34_3, hfz34_0, hfz34_1, hfz34_2, hfz34_3⟩ := b4_ BK56.out; go_wp2; go_ret; exact ⟨z118_, z165_⟩
   have c26b0 := beq_iff_eq.mpr c26; have c26b1 := bne_eq_false_iff_eq.mpr c26; clear c26; revert H; refine i1_ (fun c27b0 H => ?_) fun c27b0 H => ?_; rotate_left
   ·
    obtain rfl := sj_ H; obtain ⟨hcz33_0, hcz33_1, hcz33_2, hcz33_3, hfz33_0, hfz33_1, hfz33_2, hfz33_3⟩ := b4_ BK56.out; go_wp2; go_ret; exact ⟨z118_, z165_⟩
   revert H; refine i1_ (fun c28b0 H => ?_) fun c28b0 H => ?_; rotate_left
   ·
    obtain rfl := sj_ H; obtain ⟨hcz32_0, hcz32_1, hcz32_2, hcz32_3, hfz32_0, hfz32_1, hfz32_2, hfz32_3⟩ := b4_ BK56.out; go_wp2; go_ret; exact ⟨z118_, z165_⟩
   revert H; refine i1_ (fun c29b0 H => ?_) fun c29b0 H => ?_; rotate_left
   ·
    obtain rfl := sj_ H; obtain ⟨hcz31_0, hcz31_1, hcz31_2, hcz31_3, hfz31_0, hfz31_1, hfz31_2, hfz31_3⟩ := b4_ BK56.out; go_wp2; go_ret; exact ⟨z118_, z165_⟩
   obtain rfl := sj_ H; obtain ⟨hcz30_0, hcz30_1, hcz30_2, hcz30_3, hfz30_0, hfz30_1, hfz30_2, hfz30_3⟩ := b4_ BK56.out; go_wp2; go_ret; exact ⟨z118_, z165_⟩
  have c25b0 := beq_eq_false_iff_ne.mpr c25; have c25b1 := bne_iff_ne.mpr c25; revert H; refine i2_ (fun c35 H => ?_) fun c35 H => ?_
  ·
   have c35b0 := beq_iff_eq.mpr c35; have c35b1 := bne_eq_false_iff_eq.mpr c35; clear c35; revert H; refine i2_ (fun c36 H => ?_) fun c36 H => ?_; rotate_left
   ·
    have c36b0 := beq_eq_false_iff_ne.mpr c36; have c36b1 := bne_iff_ne.mpr c36; have c36b2 : ¬ (l0_1 = []) := fun h_ => c36 (by rw [h_]; rfl); obtain rfl := sj_ H; obtain ⟨hcz44_0, hcz44_1, hcz44_2, hcz44_3, hfz44_0, hfz44_1, hfz44_2, hfz44_3⟩ := b4_ BK56.out; go_wp2; go_ret; exact ⟨z118_, z165_⟩
   have c36b0 := beq_iff_eq.mpr c36; have c36b1 := bne_eq_false_iff_eq.mpr c36; clear c36; revert H; refine i1_ (fun c37b0 H => ?_) fun c37b0 H => ?_; rotate_left
   ·
    obtain rfl := sj_ H; obtain ⟨hcz43_0, hcz43_1, hcz43_2, hcz43_3, hfz43_0, hfz43_1, hfz43_2, hfz43_3⟩ := b4_ BK56.out; go_wp2; go_ret; exact ⟨z118_, z165_⟩
   revert H; refine i1_ (fun c38b0 H => ?_) fun c38b0 H => ?_; rotate_left
   ·
    obtain rfl := sj_ H; obtain ⟨hcz42_0, hcz42_1, hcz42_2, hcz42_3, hfz42_0, hfz42_1, hfz42_2, hfz42_3⟩ := b4_ BK56.out; go_wp2; go_ret; exact ⟨z118_, z165_⟩
   revert H; refine i1_ (fun c39b0 H => ?_) fun c39b0 H => ?_; rotate_left
   ·
    obtain rfl := sj_ H; obtain ⟨hcz41_0, hcz41_1, hcz41_2, hcz41_3, hfz41_0, hfz41_1, hfz41_2, hfz41_3⟩ := b4_ BK56.out; go_wp2; go_ret; exact ⟨z118_, z165_⟩
   obtain rfl := sj_ H; obtain ⟨hcz40_0, hcz40_1, hcz40_2, hcz40_3, hfz40_0, hfz40_1, hfz40_2, hfz40_3⟩ := b4_ BK56.out; go_wp2; go_ret; exact ⟨z118_, z165_⟩
  have c35b0 := beq_eq_false_iff_ne.mpr c35; have c35b1 := bne_iff_ne.mpr c35; revert H; refine i2_ (fun c45 H => ?_) fun c45 H => ?_; rotate_left
  ·
   have c45b0 := beq_eq_false_iff_ne.mpr c45; have c45b1 := bne_iff_ne.mpr c45; obtain rfl := sj_ H; obtain ⟨hcz55_0, hcz55_1, hcz55_2, hcz55_3, hfz55_0, hfz55_1, hfz55_2, hfz55_3⟩ := b4_ BK56.out; go_wp2; go_ret; exact ⟨z118_, z165_⟩
  have c45b0 := beq_iff_eq.mpr c45; have c45b1 := bne_eq_false_iff_eq.mpr c45; clear c45; revert H; refine i2_ (fun c46 H => ?_) fun c46 H => ?_; rotate_left
  ·
   have c46b0 := beq_eq_false_iff_ne.mpr c46; have c46b1 := bne_iff_ne.mpr c46; have c46b2 : ¬ (l0_1 = []) := fun h_ => c46 (by rw [h_]; rfl); obtain rfl := sj_ H; obtain ⟨hcz54_0, hcz54_1, hcz54_2, hcz54_3, hfz54_0, hfz54_1, hfz54_2, hfz54_3⟩ := b4_ BK56.out; go_wp2; go_ret; exact ⟨z118_, z165_⟩
  have c46b0 := beq_iff_eq.mpr c46; have c46b1 := bne_eq_false_iff_eq.mpr c46; clear c46; revert H; refine i1_ (fun c47b0 H => ?_) fun c47b0 H => ?_; rotate_left
  ·
   obtain rfl := sj_ H; obtain ⟨hcz53_0, hcz53_1, hcz53_2, hcz53_3, hfz53_0, hfz53_1, hfz53_2, hfz53_3⟩ := b4_ BK56.out; go_wp2; go_ret; exact ⟨z118_, z165_⟩
  revert H; refine i1_ (fun c48b0 H => ?_) fun c48b0 H => ?_; rotate_left
  ·
   obtain rfl := sj_ H; obtain ⟨hcz52_0, hcz52_1, hcz52_2, hcz52_3, hfz52_0, hfz52_1, hfz52_2, hfz52_3⟩ := b4_ BK56.out; go_wp2; go_ret; exact ⟨z118_, z165_⟩
  revert H; refine i1_ (fun c49b0 H => ?_) fun c49b0 H => ?_; rotate_left
  ·
   obtain rfl := sj_ H; obtain ⟨hcz51_0, hcz51_1, hcz51_2, hcz51_3, hfz51_0, hfz51_1, hfz51_2, hfz51_3⟩ := b4_ BK56.out; go_wp2; go_ret; exact ⟨z118_, z165_⟩
  obtain rfl := sj_ H; obtain ⟨hcz50_0, hcz50_1, hcz50_2, hcz50_3, hfz50_0, hfz50_1, hfz50_2, hfz50_3⟩ := b4_ BK56.out; go_wp2; go_ret; exact ⟨z118_, z165_⟩
mutual
def f10.j0 : Nat → List (S37) → Bool → Option (Bool)
 | 0, _, _ => none
 | k + 1, x0, x13 => if x13 = true then (some false) else (f10.l0 k x0 0)
def f10.l0 : Nat → List (S37) → Int → Option (Bool)
 | 0, _, _ => none
 | k + 1, x0, x3 => if x3 < (x0.length : Int) then (if 0 ≤ x3 then ((f38.f k ((rd_T37 x0 x3).f0) ((rd_T37 x0 x3).f1) ((rd_T37 x0 x3).f2) ((rd_T37 x0 x3).f3) x3).bind fun t10 => (if t10 = true then (f10.l0 k x0 (wrap64 (x3 + 1))) else (some false))) else (none)) else ((f5.f k x0).bind fun t11 => (if 0 ≤ (wrap64 ((x0.length : Int) - 1)) then (if (wrap64 ((x0.length : Int) - 1)) < (t11.length : Int) then (some (decide (((rd_L3 t11 (wrap64 ((x0.length : Int) - 1))).length : Int) ≤ 6))) else (none)) else (none)))
end
def f10.f (k : Nat) (l0 : List (S37)) : Option (Bool) := if (l0.length : Int) < 1 then (f10.j0 k l0 true) else (f10.j0 k l0 (decide ((l0.length : Int) > 12)))
theorem f10.calls (k : Nat) (A0 : Option Addr) (c0 : Nat) (l0 : List (S37)) (r : Bool) (w : World) (hr0 : Kd.C k37 w A0 l0.length l0) (hc0 : l0.length ≤ c0) (h : f10.f k l0 = some r) :
  Calls Tryz.prog 16 #[.slice A0 l0.length c0] w fun e w' => e = .returned (.bool r) ∧ Below w.heap.size w w' := by
 have hu37 := Tryz.underlying37; have HR0 := A_ hr0; have HC0 := A_ hc0; clear hr0 hc0; have HB := A_ (Below.refl w.heap.size w); unfold f10.f at h; have H := h; clear h; have HC2 := A_ H; clear H; go_enter Tryz.func16, Tryz.ntmps16
 go_upto_region 1 with (fail)
 go_cut [13] (fun v13 wc => ∃ (kq : Nat) (x13_1 : Bool), v13 = .bool x13_1 ∧ Aside0 (f10.j0 kq l0 x13_1 = some r) ∧ Aside0 (kq ≤ k) ∧ Aside0 (Below w.heap.size w wc))
 case first =>
  have H := HC2.out; clear HC2; revert H; refine i2_ (fun c3 H => ?_) fun c3 H => ?_
  ·
   have c3b0 := decide_eq_true c3; have c3b1 : decide (l0.length < 1) = true := decide_eq_true z143_; clear c3; (first | rw [c3b0] | (simp only [i64_w, i32_w]; rw [c3b0]) | skip); have H' := A_ H; clear H; go_wp2
   go_meet
   case rel => exact ⟨_, (true), z119_, H', ⟨z117_⟩, ⟨z167_⟩⟩
  have c3b0 := decide_eq_false c3; have c3b1 : decide (l0.length < 1) = false := decide_eq_false z143_; clear c3; (first | rw [c3b0] | (simp only [i64_w, i32_w]; rw [c3b0]) | skip); have H' := A_ H; clear H; go_wp2
  go_meet
  case rel => exact ⟨_, (decide ((l0.length : Int) > 12)), z119_, H', ⟨z117_⟩, ⟨z167_⟩⟩
 case rest =>
  clear HC2; (try clear c3); (try clear c3b0); (try clear c3b1); obtain ⟨kq, x13_1, rfl, HA, HJ1, HB⟩ := hcut
  cases kq with
  | zero => exact absurd HA.out (by simp [f10.j0])
  | succ kj1 =>
  have H := HA.out; clear HA; simp only [f10.j0] at H
  by_cases c4 : x13_1 = true
  ·
   subst c4; have H1 := tt_ H; clear H; have H := H1; clear H1; obtain rfl := sj_ H; go_wp2; go_ret; exact ⟨z118_, z167_⟩
  ·
   replace c4 := Bool.eq_false_iff.mpr c4; subst c4; have H1 := ff_ H; clear H; have H := H1; clear H1; have H' := A_ H; clear H; go_wp2
   go_loopg [3] kj1 (fun kq v3 w' => ∃ (x3_2 : Int), v3 = .int .i64 x3_2 ∧ Aside0 (f10.l0 kq l0 x3_2 = some r) ∧ Aside0 (kq ≤ kj1) ∧ Aside0 (Below w.heap.size w w'))
   case atStart => exact ⟨(0), z119_, H', ⟨Nat.le_refl _⟩, ⟨z167_⟩⟩
   case round =>
    clear H'; (try clear c3); (try clear c3b0); (try clear c3b1); (try clear c4); obtain ⟨x3_2, rfl, HA, HK2, HB⟩ := hrel
    cases gk with
    | zero => exact absurd HA.out (by simp [f10.l0])
    | succ k2 =>
    have H := HA.out; clear HA; simp only [f10.l0] at H; revert H; refine i1_ (fun c5b0 H => ?_) fun c5b0 H => ?_; rotate_left
    ·
     replace H := bm_ H; obtain ⟨t19, A20, H⟩ := H; have A11 := A_ A20; clear A20; obtain ⟨ji12, hji12⟩ : ∃ j_ : Int, (wrap64 ((l0.length : Int) - 1)) = j_ := ⟨_, rfl⟩
     replace H : (if 0 ≤ (ji12) then (if (ji12) < (t19.length : Int) then (some (decide (((rd_L3 t19 (ji12)).length : Int) ≤ 6))) else (none)) else (none)) = some r := by first | (rw [hji12] at H; exact H) | (simp only [hji12] at H ⊢; exact H)
     (try rw [hji12] at A11)
     have hji12w : (IntKind.i64.wrap ((l0.length : Int) - 1)) = ji12 := (i64_w _).trans hji12; revert H; refine i2_ (fun c13 H => ?_) fun c13 H => ?_; rotate_left
     · exact absurd H z198_
     have c13b0 := decide_eq_true c13; clear c13; revert H; refine i3_ fun c14b0 H => ?_; obtain rfl := sj_ H
     go_wp2_with (first | ((with_reducible refine gate_callee (f := 32) rfl ?_); refine gl_ (some 29) Tryz.func32 #[.slice A0 l0.length c0] ?_; (with_reducible refine (f5.calls k2 _ _ l0 t19 _ ?side1 HC0.out A11.out).mono ?_); (case side1 => exact z171_); rintro e w15 ⟨v21, rfl, ho0, hb⟩; refine ⟨_, rfl, ?_⟩; have n_ := a2_ (Kd.S_lower ho0 (below_size z167_)) (below_step z167_ hb); clear HB; obtain ⟨HO22, HB⟩ := n_; (try clear hb); (try clear ho0); obtain ⟨Ao16, co16, eo16⟩ := Kd.S_slice HO22.out; subst eo16; have p23 : 0 ≤ ((ji12) : Int) := of_decide_eq_true z113_; have q23 : (ji12) < (t19.length : Int) := of_decide_eq_true z113_; obtain ⟨ad23, A23_0, c23_0, e23, hx23_0, hl23_0, hi23_0⟩ := at_L3 (Kd.S_reads' HO22.out).2.2 (ji12) p23 q23; cases e23; obtain ⟨ce501, hce501, hMe501, hcc501⟩ := Kd.S_get HO22.out [] (ji12) p23 (by first | exact q23 | exact of_decide_eq_true z113_ | (have e_ := (Kd.S_reads' HO22.out).1; omega)); obtain ⟨ve501_0, rfl, ge501_0⟩ := hMe501; have hv501_0 := hcc501 0 _ rfl; rw [Nat.add_zero, show ((Kd.slice 9 Kd.string)).sz = 1 from rfl, Nat.mul_one] at hv501_0; replace hv501_0 := Option.some.inj (hv501_0.symm.trans hx23_0); rw [hv501_0] at ge501_0; have HL501_0 := A_ (show Kd.R Kd.string 9 _ _ _ _ (rd_L3 t19 (ji12)) from ge501_0); clear hv501_0 ge501_0 hcc501 hce501; have HR23_0 := A_ hi23_0; have HC23_0 := A_ hl23_0; clear hi23_0 hl23_0; replace p23 := eq_true p23; replace q23 := eq_true q23))
     go_ret; exact ⟨by first | rfl | (simp [errW_none, errW_some] <;> rfl) | (simp only [← hji12]; first | rfl | (simp [errW_none, errW_some] <;> rfl)) | (simp [*, errW_none, errW_some] <;> rfl), z167_⟩
    revert H; refine i3_ fun c6b0 H => ?_; replace H := bm_ H; obtain ⟨t17, A70, H⟩ := H; have A7 := A_ A70; clear A70
    by_cases c8 : t17 = true
    ·
     subst c8; have H1 := tt_ H; clear H; have H := H1; clear H1; have H' := A_ H; clear H; obtain ⟨p18, q18, ad18, A18_1, c18_1, e18, hx18_0, hx18_1, hx18_2, hx18_3, hl18_1, hi18_1⟩ := pq_ (at_T37 HR0.out x3_2); cases e18; replace hx18_0 := hc_ HB.out hx18_0; replace hx18_1 := hc_ HB.out hx18_1; replace hx18_2 := hc_ HB.out hx18_2; replace hx18_3 := hc_ HB.out hx18_3; have HR18_1 := A_ hi18_1; have HC18_1 := A_ hl18_1; clear hi18_1 hl18_1
     go_wp2_with (first | ((with_reducible refine gate_callee (f := 34) rfl ?_); refine gl_ (some 25) Tryz.func34 #[.agg #[.int .i64 ((rd_T37 l0 x3_2).f0), .slice A18_1 ((rd_T37 l0 x3_2).f1).length c18_1, .int .i64 ((rd_T37 l0 x3_2).f2), .int .i64 ((rd_T37 l0 x3_2).f3)], .int .i64 x3_2] ?_; (with_reducible refine (f38.calls k2 ((rd_T37 l0 x3_2).f0) _ _ ((rd_T37 l0 x3_2).f1) ((rd_T37 l0 x3_2).f2) ((rd_T37 l0 x3_2).f3) x3_2 true _ ?side1 HC18_1.out A7.out).mono ?_); (case side1 => exact z177_); rintro e w9 ⟨rfl, hb⟩; refine ⟨_, rfl, ?_⟩; replace HB := A_ (below_step z167_ hb); (try clear hb)))
     go_roundg k2
     case measure => have := HJ1.out; have := HK2.out; omega
     case rel => exact ⟨(wrap64 (x3_2 + 1)), z119_, H', ⟨by have := HJ1.out; have := HK2.out; omega⟩, ⟨z167_⟩⟩
    ·
     replace c8 := Bool.eq_false_iff.mpr c8; subst c8; have H1 := ff_ H; clear H; have H := H1; clear H1; obtain rfl := sj_ H; obtain ⟨p18, q18, ad18, A18_1, c18_1, e18, hx18_0, hx18_1, hx18_2, hx18_3, hl18_1, hi18_1⟩ := pq_ (at_T37 HR0.out x3_2); cases e18; replace hx18_0 := hc_ HB.out hx18_0; replace hx18_1 := hc_ HB.out hx18_1; replace hx18_2 := hc_ HB.out hx18_2; replace hx18_3 := hc_ HB.out hx18_3; have HR18_1 := A_ hi18_1; have HC18_1 := A_ hl18_1; clear hi18_1 hl18_1
     go_wp2_with (first | ((with_reducible refine gate_callee (f := 34) rfl ?_); refine gl_ (some 25) Tryz.func34 #[.agg #[.int .i64 ((rd_T37 l0 x3_2).f0), .slice A18_1 ((rd_T37 l0 x3_2).f1).length c18_1, .int .i64 ((rd_T37 l0 x3_2).f2), .int .i64 ((rd_T37 l0 x3_2).f3)], .int .i64 x3_2] ?_; (with_reducible refine (f38.calls k2 ((rd_T37 l0 x3_2).f0) _ _ ((rd_T37 l0 x3_2).f1) ((rd_T37 l0 x3_2).f2) ((rd_T37 l0 x3_2).f3) x3_2 false _ ?side1 HC18_1.out A7.out).mono ?_); (case side1 => exact z177_); rintro e w10 ⟨rfl, hb⟩; refine ⟨_, rfl, ?_⟩; replace HB := A_ (below_step z167_ hb); (try clear hb)))
     go_ret; exact ⟨z118_, z167_⟩
def f59.f (k : Nat) (l0 : List (S37)) : Option (List ByteArray) := (f10.f k l0).bind fun t10 => (if t10 = true then ((f5.f k l0).bind fun t11 => (if 0 ≤ (wrap64 ((l0.length : Int) - 1)) then (if (wrap64 ((l0.length : Int) - 1)) < (t11.length : Int) then (some (rd_L3 t11 (wrap64 ((l0.length : Int) - 1)))) else (none)) else (none))) else (some ([] : List ByteArray)))
theorem f59.calls (k : Nat) (A0 : Option Addr) (c0 : Nat) (l0 : List (S37)) (r : List ByteArray) (w : World) (hr0 : Kd.C k37 w A0 l0.length l0) (hc0 : l0.length ≤ c0) (h : f59.f k l0 = some r) :
  Calls Tryz.prog 14 #[.slice A0 l0.length c0] w fun e w' => ∃ v0_ : Value, e = .returned (v0_) ∧ Kd.R Kd.string 9 w' w.heap.size (fun _ => True) v0_ r ∧ Below w.heap.size w w' := by
 have HR0 := A_ hr0; have HC0 := A_ hc0; clear hr0 hc0; have HB := A_ (Below.refl w.heap.size w); unfold f59.f at h; have H := h; clear h; replace H := bm_ H; obtain ⟨t12, A20, H⟩ := H; have A2 := A_ A20; clear A20
 by_cases c3 : t12 = true
 ·
  subst c3; have H1 := tt_ H; clear H; have H := H1; clear H1; replace H := bm_ H; obtain ⟨t13, A40, H⟩ := H; have A4 := A_ A40; clear A40; obtain ⟨ji5, hji5⟩ : ∃ j_ : Int, (wrap64 ((l0.length : Int) - 1)) = j_ := ⟨_, rfl⟩; replace H : (if 0 ≤ (ji5) then (if (ji5) < (t13.length : Int) then (some (rd_L3 t13 (ji5))) else (none)) else (none)) = some r := z97_
  (try rw [hji5] at A2)
  (try rw [hji5] at A4)
  have hji5w : (IntKind.i64.wrap ((l0.length : Int) - 1)) = ji5 := (i64_w _).trans hji5; revert H; refine i3_ fun c6b0 H => ?_; revert H; refine i3_ fun c7b0 H => ?_; obtain rfl := sj_ H; go_enter Tryz.func14, Tryz.ntmps14
  go_wp2_with (first | ((with_reducible refine gate_callee (f := 16) rfl ?_); refine gl_ (some 6) Tryz.func16 #[.slice A0 l0.length c0] ?_; (with_reducible refine (f10.calls k _ _ l0 true _ ?side1 HC0.out A2.out).mono ?_); (case side1 => exact z189_); rintro e w8 ⟨rfl, hb⟩; refine ⟨_, rfl, ?_⟩; replace HB := A_ (below_step z167_ hb); (try clear hb)) | ((with_reducible refine gate_callee (f := 32) rfl ?_); refine gl_ (some 10) Tryz.func32 #[.slice A0 l0.length c0] ?_; (with_reducible refine (f5.calls k _ _ l0 t13 _ ?side1 HC0.out A4.out).mono ?_); (case side1 => exact z171_); rintro e w9 ⟨v14, rfl, ho0, hb⟩; refine ⟨_, rfl, ?_⟩; have n_ := a2_ (Kd.S_lower ho0 (below_size z167_)) (below_step z167_ hb); clear HB; obtain ⟨HO15, HB⟩ := n_; (try clear hb); (try clear ho0); obtain ⟨Ao10, co10, eo10⟩ := Kd.S_slice HO15.out; subst eo10; have p16 : 0 ≤ ((ji5) : Int) := of_decide_eq_true z113_; have q16 : (ji5) < (t13.length : Int) := of_decide_eq_true z113_; obtain ⟨ad16, A16_0, c16_0, e16, hx16_0, hl16_0, hi16_0⟩ := at_L3 (Kd.S_reads' HO15.out).2.2 (ji5) p16 q16; cases e16; obtain ⟨ce506, hce506, hMe506, hcc506⟩ := Kd.S_get HO15.out [] (ji5) p16 (by first | exact q16 | exact of_decide_eq_true z113_ | (have e_ := (Kd.S_reads' HO15.out).1; omega)); obtain ⟨ve506_0, rfl, ge506_0⟩ := hMe506; have hv506_0 := hcc506 0 _ rfl; rw [Nat.add_zero, show ((Kd.slice 9 Kd.string)).sz = 1 from rfl, Nat.mul_one] at hv506_0; replace hv506_0 := Option.some.inj (hv506_0.symm.trans hx16_0); rw [hv506_0] at ge506_0; have HL506_0 := A_ (show Kd.R Kd.string 9 _ _ _ _ (rd_L3 t13 (ji5)) from ge506_0); clear hv506_0 ge506_0 hcc506 hce506; have HR16_0 := A_ hi16_0; have HC16_0 := A_ hl16_0; clear hi16_0 hl16_0; replace p16 := eq_true p16; replace q16 := eq_true q16))
  go_ret; exact ⟨_, by first | rfl | (simp [errW_none, errW_some] <;> rfl) | (simp only [← hji5]; first | rfl | (simp [errW_none, errW_some] <;> rfl)) | (simp [*, errW_none, errW_some] <;> rfl), by (with_reducible repeat (first | apply Kd.R_alloc | apply Kd.R_drewN | apply Kd.R_drew)); exact Kd.R_mono HL506_0.out (fun _ hk => trivial), z167_⟩
 ·
  replace c3 := Bool.eq_false_iff.mpr c3; subst c3; have H1 := ff_ H; clear H; have H := H1; clear H1; obtain rfl := sj_ H; go_enter Tryz.func14, Tryz.ntmps14
  go_wp2_with (first | ((with_reducible refine gate_callee (f := 16) rfl ?_); refine gl_ (some 6) Tryz.func16 #[.slice A0 l0.length c0] ?_; (with_reducible refine (f10.calls k _ _ l0 false _ ?side1 HC0.out A2.out).mono ?_); (case side1 => exact z189_); rintro e w11 ⟨rfl, hb⟩; refine ⟨_, rfl, ?_⟩; replace HB := A_ (below_step z167_ hb); (try clear hb); (try clear hk)))
  go_ret; exact ⟨_, z118_, z114_, z167_⟩
def f40.l0 : Nat → List ByteArray → List ByteArray → Int → Option (Bool)
 | 0, _, _, _ => none
 | k + 1, x0, x1, x5 => if (wrap64 (x5 + (x0.length : Int))) ≤ (x1.length : Int) then (if 0 ≤ x5 then (if x5 ≤ (wrap64 (x5 + (x0.length : Int))) then ((f16.f k x0 ((x1.take ((wrap64 (x5 + (x0.length : Int))) : Int).toNat).drop (x5 : Int).toNat)).bind fun t10 => (if t10 = true then (some true) else (f40.l0 k x0 x1 (wrap64 (x5 + 1))))) else (none)) else (none)) else (some false)
def f40.f (k : Nat) (l0 : List ByteArray) (l1 : List ByteArray) : Option (Bool) := f40.l0 k l0 l1 0
theorem f40.calls (k : Nat) (A0 : Option Addr) (c0 : Nat) (l0 : List ByteArray) (A1 : Option Addr) (c1 : Nat) (l1 : List ByteArray) (r : Bool) (w : World) (hr0 : Kd.C Kd.string w A0 l0.length l0) (hc0 : l0.length ≤ c0) (hr1 : Kd.C Kd.string w A1 l1.length l1) (hc1 : l1.length ≤ c1) (h : f40.f k l0 l1 = some r) :
  Calls Tryz.prog 36 #[.slice A0 l0.length c0, .slice A1 l1.length c1] w fun e w' => e = .returned (.bool r) ∧ Drawn0 w w' := by
 have HR0 := A_ hr0; have HC0 := A_ hc0; clear hr0 hc0; have HR1 := A_ hr1; have HC1 := A_ hc1; clear hr1 hc1; unfold f40.f at h; have H := h; clear h; have H' := A_ H; clear H; go_enter Tryz.func36, Tryz.ntmps36; go_wp2
 go_loopg [5] k (fun kq v5 w' => ∃ (x5_1 : Int), v5 = .int .i64 x5_1 ∧ Aside0 (f40.l0 kq l0 l1 x5_1 = some r) ∧ Aside0 (kq ≤ k) ∧ Drawn0 w w')
 case atStart => exact ⟨(0), z119_, H', ⟨Nat.le_refl _⟩, z188_⟩
 case round =>
  clear H'; (try clear c1); obtain ⟨x5_1, rfl, HA, HK1, ⟨m1, rfl⟩⟩ := hrel
  cases gk with
  | zero => exact absurd HA.out (by simp [f40.l0])
  | succ k1 =>
  have H := HA.out; clear HA; simp only [f40.l0] at H; revert H; refine i1_ (fun c3b0 H => ?_) fun c3b0 H => ?_; rotate_left
  ·
   obtain rfl := sj_ H; go_wp2; go_ret; exact ⟨z119_, z188_⟩
  revert H; refine i4_ fun c4 H => ?_; have c4b0 := eq_true c4; have c4b1 := decide_eq_true c4; clear c4; revert H; refine i4_ fun c5 H => ?_; have c5b0 := eq_true c5; have c5b1 := decide_eq_true c5; have c6b0 := eq_true (of_decide_eq_true z113_ : (wrap64 (x5_1 + (l0.length : Int))) ≤ (l1.length : Int)); replace H := bm_ H; obtain ⟨t11, A70, H⟩ := H; have A7 := A_ A70; clear A70
  by_cases c8 : t11 = true
  ·
   subst c8; have H1 := tt_ H; clear H; have H := H1; clear H1; obtain rfl := sj_ H; obtain ⟨i09, hi09, _, hsz9, _⟩ := info_parts info9; obtain ⟨A9, hcut9, hA9, hC9⟩ := print_mid_of (P := Tryz.prog) Value.string (⟨#[]⟩ : ByteArray) 23 9 .i64 .i64 Tryz.underlying23 hi09 hsz9 A1 c1 l1 x5_1 (wrap64 (x5_1 + (l0.length : Int))) (of_decide_eq_true z113_) z212_ (of_decide_eq_true z113_) HC1.out; have HR12 := A_ (Kd.C_of_reads (h1 := fun _ => rfl) (hA9 _ (Kd.reads_of_C HR1.out))); have HC12 := A_ hC9; clear hA9 hC9 hi09 hsz9
   go_wp2_with (first | ((with_reducible refine gate_callee (f := 12) rfl ?_); refine goesL_ (some 24) rfl rfl Tryz.func12 z140_ rfl #[.slice A0 l0.length c0, .slice A9 ((l1.take ((wrap64 (x5_1 + (l0.length : Int))) : Int).toNat).drop (x5_1 : Int).toNat).length (c1 - x5_1.toNat)] rfl z221_ ?_; (with_reducible refine (f16.calls k1 _ _ l0 _ _ ((l1.take ((wrap64 (x5_1 + (l0.length : Int))) : Int).toNat).drop (x5_1 : Int).toNat) true _ ?side1 HC0.out ?side3 HC12.out A7.out).mono ?_); (case side1 => exact z189_); (case side3 => exact z191_); rintro e w' ⟨rfl, ⟨nd, rfl⟩⟩; refine ⟨_, rfl, ?_⟩))
   go_ret; exact ⟨z119_, z188_⟩
  ·
   replace c8 := Bool.eq_false_iff.mpr c8; subst c8; have H1 := ff_ H; clear H; have H := H1; clear H1; have H' := A_ H; clear H; obtain ⟨i010, hi010, _, hsz10, _⟩ := info_parts info9; obtain ⟨A10, hcut10, hA10, hC10⟩ := print_mid_of (P := Tryz.prog) Value.string (⟨#[]⟩ : ByteArray) 23 9 .i64 .i64 Tryz.underlying23 hi010 hsz10 A1 c1 l1 x5_1 (wrap64 (x5_1 + (l0.length : Int))) (of_decide_eq_true z113_) z212_ (of_decide_eq_true z113_) HC1.out; have HR12 := A_ (Kd.C_of_reads (h1 := fun _ => rfl) (hA10 _ (Kd.reads_of_C HR1.out))); have HC12 := A_ hC10; clear hA10 hC10 hi010 hsz10
   go_wp2_with (first | ((with_reducible refine gate_callee (f := 12) rfl ?_); refine goesL_ (some 24) rfl rfl Tryz.func12 z140_ rfl #[.slice A0 l0.length c0, .slice A10 ((l1.take ((wrap64 (x5_1 + (l0.length : Int))) : Int).toNat).drop (x5_1 : Int).toNat).length (c1 - x5_1.toNat)] rfl z221_ ?_; (with_reducible refine (f16.calls k1 _ _ l0 _ _ ((l1.take ((wrap64 (x5_1 + (l0.length : Int))) : Int).toNat).drop (x5_1 : Int).toNat) false _ ?side1 HC0.out ?side3 HC12.out A7.out).mono ?_); (case side1 => exact z189_); (case side3 => exact z191_); rintro e w' ⟨rfl, ⟨nd, rfl⟩⟩; refine ⟨_, rfl, ?_⟩))
   go_roundg k1
   case measure => have := HK1.out; omega
   case rel => exact ⟨(wrap64 (x5_1 + 1)), z119_, H', ⟨z132_⟩, z188_⟩
def f9.l0 : Nat → List (S37) → List ByteArray → List Bool → Int → Option (Bool)
 | 0, _, _, _, _ => none
 | k + 1, x0, x1, x6, x7 => if x7 < (x0.length : Int) then (if 0 ≤ x7 then (if ((rd_T37 x0 x7).f0) = 2 then (if 0 ≤ ((rd_T37 x0 x7).f2) then (if ((rd_T37 x0 x7).f2) < (x6.length : Int) then (if rdOf false x6 ((rd_T37 x0 x7).f2) = true then (if 0 ≤ ((rd_T37 x0 x7).f3) then (if ((rd_T37 x0 x7).f3) < (x6.length : Int) then (if x6.length < 140737488355328 then (f9.l0 k x0 x1 (x6 ++ [rdOf false x6 ((rd_T37 x0 x7).f3)]) (wrap64 (x7 + 1))) else (none)) else (none)) else (none)) else (if x6.length < 140737488355328 then (f9.l0 k x0 x1 (x6 ++ [false]) (wrap64 (x7 + 1))) else (none))) else (none)) else (none)) else (if ((rd_T37 x0 x7).f0) = 3 then (if 0 ≤ ((rd_T37 x0 x7).f2) then (if ((rd_T37 x0 x7).f2) < (x6.length : Int) then (if rdOf false x6 ((rd_T37 x0 x7).f2) = true then (if x6.length < 140737488355328 then (f9.l0 k x0 x1 (x6 ++ [true]) (wrap64 (x7 + 1))) else (none)) else (if 0 ≤ ((rd_T37 x0 x7).f3) then (if ((rd_T37 x0 x7).f3) < (x6.length : Int) then (if x6.length < 140737488355328 then (f9.l0 k x0 x1 (x6 ++ [rdOf false x6 ((rd_T37 x0 x7).f3)]) (wrap64 (x7 + 1))) else (none)) else (none)) else (none))) else (none)) else (none)) else (if ((rd_T37 x0 x7).f0) = 4 then (if 0 ≤ ((rd_T37 x0 x7).f2) then (if ((rd_T37 x0 x7).f2) < (x6.length : Int) then (if rdOf false x6 ((rd_T37 x0 x7).f2) = true then (if 0 ≤ ((rd_T37 x0 x7).f3) then (if ((rd_T37 x0 x7).f3) < (x6.length : Int) then (if x6.length < 140737488355328 then (f9.l0 k x0 x1 (x6 ++ [!(rdOf false x6 ((rd_T37 x0 x7).f3))]) (wrap64 (x7 + 1))) else (none)) else (none)) else (none)) else (if x6.length < 140737488355328 then (f9.l0 k x0 x1 (x6 ++ [false]) (wrap64 (x7 + 1))) else (none))) else (none)) else (none)) else ((f40.f k ((rd_T37 x0 x7).f1) x1).bind fun t10 => (if x6.length < 140737488355328 then (f9.l0 k x0 x1 (x6 ++ [t10]) (wrap64 (x7 + 1))) else (none)))))) else (none)) else (if 0 ≤ (wrap64 ((x0.length : Int) - 1)) then (if (wrap64 ((x0.length : Int) - 1)) < (x6.length : Int) then (some (rdOf false x6 (wrap64 ((x0.length : Int) - 1)))) else (none)) else (none))
def f9.f (k : Nat) (l0 : List (S37)) (l1 : List ByteArray) : Option (Bool) := (f10.f k l0).bind fun t10 => (if t10 = true then (f9.l0 k l0 l1 ([] : List Bool) 0) else (some false))
theorem f9.calls (k : Nat) (A0 : Option Addr) (c0 : Nat) (l0 : List (S37)) (A1 : Option Addr) (c1 : Nat) (l1 : List ByteArray) (r : Bool) (w : World) (hr0 : Kd.C k37 w A0 l0.length l0) (hc0 : l0.length ≤ c0) (hr1 : Kd.C Kd.string w A1 l1.length l1) (hc1 : l1.length ≤ c1) (h : f9.f k l0 l1 = some r) :
  Calls Tryz.prog 18 #[.slice A0 l0.length c0, .slice A1 l1.length c1] w fun e w' => e = .returned (.bool r) ∧ Below w.heap.size w w' := by
 have HR0 := A_ hr0; have HC0 := A_ hc0; clear hr0 hc0; have HR1 := A_ hr1; have HC1 := A_ hc1; clear hr1 hc1; have HB := A_ (Below.refl w.heap.size w); unfold f9.f at h; have H := h; clear h; replace H := bm_ H; obtain ⟨t55, A30, H⟩ := H; have A3 := A_ A30; clear A30
 by_cases c4 : t55 = true
 ·
  subst c4; have H1 := tt_ H; clear H; have H := H1; clear H1; have H' := A_ H; clear H; go_enter Tryz.func18, Tryz.ntmps18
  go_wp2_with (first | ((with_reducible refine gate_callee (f := 16) rfl ?_); refine gl_ (some 10) Tryz.func16 #[.slice A0 l0.length c0] ?_; (with_reducible refine (f10.calls k _ _ l0 true _ ?side1 HC0.out A3.out).mono ?_); (case side1 => exact z189_); rintro e w5 ⟨rfl, hb⟩; refine ⟨_, rfl, ?_⟩; replace HB := A_ (below_step z167_ hb); (try clear hb)))
  go_loopg [6, 7] k (fun kq v6 v7 w' => ∃ (x6_1 : List Bool) (x7_1 : Int), v7 = .int .i64 x7_1 ∧ Aside0 (f9.l0 kq l0 l1 x6_1 x7_1 = some r) ∧ Aside0 (kq ≤ k) ∧ Aside0 (Kd.R Kd.bool 4 w' w.heap.size (fun _ => True) v6 x6_1) ∧ Aside0 (Below w.heap.size w w'))
  case atStart => exact ⟨(([] : List Bool)), (0), z119_, H', ⟨Nat.le_refl _⟩, ⟨z114_⟩, ⟨z167_⟩⟩
  case round =>
   clear H'; (try clear c1); (try clear c4); obtain ⟨x6_1, x7_1, rfl, HA, HK1, HO_6, HB⟩ := hrel
   cases gk with
   | zero => exact absurd HA.out (by simp [f9.l0])
   | succ k1 =>
   have H := HA.out; clear HA; simp only [f9.l0] at H; revert H; refine i1_ (fun c6b0 H => ?_) fun c6b0 H => ?_; rotate_left
   ·
    obtain ⟨ji50, hji50⟩ : ∃ j_ : Int, (wrap64 ((l0.length : Int) - 1)) = j_ := ⟨_, rfl⟩
    replace H : (if 0 ≤ (ji50) then (if (ji50) < (x6_1.length : Int) then (some (rdOf false x6_1 (ji50))) else (none)) else (none)) = some r := by first | (rw [hji50] at H; exact H) | (simp only [hji50] at H ⊢; exact H)
    have hji50w : (IntKind.i64.wrap ((l0.length : Int) - 1)) = ji50 := (i64_w _).trans hji50; revert H; refine i3_ fun c51b0 H => ?_; revert H; refine i3_ fun c52b0 H => ?_; obtain rfl := sj_ H; obtain ⟨Ao53, co53, eo53⟩ := Kd.R_slice HO_6.out; subst eo53; obtain ⟨p94, q94, ad94, e94, hx94_0⟩ := pq_ (Kd.at_bool (Kd.R_reads' HO_6.out).2.2 (ji50)); cases e94; go_wp2; go_ret; exact ⟨by first | rfl | (simp [errW_none, errW_some] <;> rfl) | (simp only [← hji50]; first | rfl | (simp [errW_none, errW_some] <;> rfl)) | (simp [*, errW_none, errW_some] <;> rfl), z167_⟩
   revert H; refine i3_ fun c7b0 H => ?_; revert H; refine i2_ (fun c8 H => ?_) fun c8 H => ?_
   ·
    have c8b0 := beq_iff_eq.mpr c8; have c8b1 := bne_eq_false_iff_eq.mpr c8; clear c8; revert H; refine i3_ fun c9b0 H => ?_; revert H; refine i3_ fun c10b0 H => ?_; obtain ⟨bq11, hbq11⟩ : ∃ b_ : Bool, b_ = (rdOf false x6_1 ((rd_T37 l0 x7_1).f2)) := ⟨_, rfl⟩
    replace H : (if bq11 = true then (if 0 ≤ ((rd_T37 l0 x7_1).f3) then (if ((rd_T37 l0 x7_1).f3) < (x6_1.length : Int) then (if x6_1.length < 140737488355328 then (f9.l0 k1 l0 l1 (x6_1 ++ [rdOf false x6_1 ((rd_T37 l0 x7_1).f3)]) (wrap64 (x7_1 + 1))) else (none)) else (none)) else (none)) else (if x6_1.length < 140737488355328 then (f9.l0 k1 l0 l1 (x6_1 ++ [false]) (wrap64 (x7_1 + 1))) else (none))) = some r := by rw [← hbq11] at H; exact H
    have Nbq11 := A_ hbq11; clear hbq11
    by_cases c12 : bq11 = true
    ·
     subst c12; have H1 := tt_ H; clear H; have H := H1; clear H1; revert H; refine i3_ fun c13b0 H => ?_; revert H; refine i3_ fun c14b0 H => ?_; revert H; refine i4_ fun c15 H => ?_; have LMc15 := A_ c15; clear c15; obtain ⟨y56, hy56⟩ : ∃ y_ : List Bool, y_ = (x6_1 ++ [rdOf false x6_1 ((rd_T37 l0 x7_1).f3)]) := ⟨_, rfl⟩
     replace H : (f9.l0 k1 l0 l1 y56 (wrap64 (x7_1 + 1))) = some r := by first | (rw [hy56]; with_reducible exact H) | (have H2_ := (Option.bind_some _ _).symm.trans H; rw [hy56]; with_reducible exact H2_) | (have H2_ := (Option.bind_some _ _).symm.trans H; with_reducible exact H2_) | with_reducible exact H | (rw [hy56]; exact H) | exact H
     have Ny56 := A_ hy56; clear hy56; have H' := A_ H; clear H; obtain ⟨p57, q57, ad57, A57_1, c57_1, e57, hx57_0, hx57_1, hx57_2, hx57_3, hl57_1, hi57_1⟩ := pq_ (at_T37 HR0.out x7_1); cases e57; replace hx57_0 := hc_ HB.out hx57_0; replace hx57_1 := hc_ HB.out hx57_1; replace hx57_2 := hc_ HB.out hx57_2; replace hx57_3 := hc_ HB.out hx57_3; have HR57_1 := A_ hi57_1; have HC57_1 := A_ hl57_1; clear hi57_1 hl57_1; obtain ⟨p58, q58, ad58, A58_1, c58_1, e58, hx58_0, hx58_1, hx58_2, hx58_3, hl58_1, hi58_1⟩ := pq_ (at_T37 HR0.out x7_1); obtain rfl : ad57 = ad58 := (by injection e58); replace hx58_0 := hc_ HB.out hx58_0; replace hx58_1 := hc_ HB.out hx58_1; replace hx58_2 := hc_ HB.out hx58_2; replace hx58_3 := hc_ HB.out hx58_3; have HR58_1 := A_ hi58_1; have HC58_1 := A_ hl58_1; clear hi58_1 hl58_1; have ea_ := Option.some.inj (hx57_1.symm.trans hx58_1)
     injection ea_ with ea_ en_ ec_
     subst ea_; subst ec_; clear en_; obtain ⟨Ao16, co16, eo16⟩ := Kd.R_slice HO_6.out; subst eo16; obtain ⟨p59, q59, ad59, e59, hx59_0⟩ := pq_ (Kd.at_bool (Kd.R_reads' HO_6.out).2.2 ((rd_T37 l0 x7_1).f2))
     (try rw [← Nbq11.out] at hx59_0)
     cases e59; obtain ⟨p60, q60, ad60, A60_1, c60_1, e60, hx60_0, hx60_1, hx60_2, hx60_3, hl60_1, hi60_1⟩ := pq_ (at_T37 HR0.out x7_1); obtain rfl : ad57 = ad60 := (by injection e60); replace hx60_0 := hc_ HB.out hx60_0; replace hx60_1 := hc_ HB.out hx60_1; replace hx60_2 := hc_ HB.out hx60_2; replace hx60_3 := hc_ HB.out hx60_3; have HR60_1 := A_ hi60_1; have HC60_1 := A_ hl60_1; clear hi60_1 hl60_1; have ea_ := Option.some.inj (hx57_1.symm.trans hx60_1)
     injection ea_ with ea_ en_ ec_
     subst ea_; subst ec_; clear en_; obtain ⟨p61, q61, ad61, e61, hx61_0⟩ := pq_ (Kd.at_bool (Kd.R_reads' HO_6.out).2.2 ((rd_T37 l0 x7_1).f3))
     (try rw [← Nbq11.out] at hx61_0)
     obtain rfl : ad59 = ad61 := (by injection e61)
     go_wp2_with (first | ((with_reducible refine gate_builtin (b := .append) (xs := #[.tmp 92, .tmp 94]) rfl ?_); at_builtin; refine Kd.R_append Kd.bool (w0 := w) w.heap.size rfl (.tmp 92) (.tmp 94) 46 4 (.bool false) 1 rfl Tryz.underlying46 info4 rfl z81_ z143_ (.slice (some ad59) x6_1.length co16) x6_1 (rdOf false x6_1 ((rd_T37 l0 x7_1).f3)) [.bool (rdOf false x6_1 ((rd_T37 l0 x7_1).f3))] (fun _ => True) (fun _ => False) rfl rfl ?aP (fun _ hk => hk.elim) ?aF ?aO ?aB ?aS ?aL ?_; (case aP => exact rfl); (case aB => exact z167_); (case aF => exact (fun _ _ => trivial)); (case aO => exact z38_); (case aS => exact (below_size z167_)); (case aL => have := LMc15.out; omega); intro v62 w17 ho hb hg hat; rw [← Ny56.out] at ho; have n_ := a2_ (hb) (ho); clear HB HO_6; obtain ⟨HB, HO63⟩ := n_; clear ho hb hg hat))
     go_roundg k1
     case measure => have := HK1.out; omega
     case rel => exact ⟨(y56), (wrap64 (x7_1 + 1)), z119_, H', ⟨z132_⟩, ⟨by (with_reducible repeat (first | apply Kd.R_alloc | apply Kd.R_drewN | apply Kd.R_drew)); exact HO63.out⟩, ⟨z167_⟩⟩
    ·
     replace c12 := Bool.eq_false_iff.mpr c12; subst c12; have H1 := ff_ H; clear H; have H := H1; clear H1; revert H; refine i4_ fun c18 H => ?_; have LMc18 := A_ c18; clear c18; obtain ⟨y65, hy65⟩ : ∃ y_ : List Bool, y_ = (x6_1 ++ [false]) := ⟨_, rfl⟩
     replace H : (f9.l0 k1 l0 l1 y65 (wrap64 (x7_1 + 1))) = some r := by first | (rw [hy65]; with_reducible exact H) | (have H2_ := (Option.bind_some _ _).symm.trans H; rw [hy65]; with_reducible exact H2_) | (have H2_ := (Option.bind_some _ _).symm.trans H; with_reducible exact H2_) | with_reducible exact H | (rw [hy65]; exact H) | exact H
     have Ny65 := A_ hy65; clear hy65; have H' := A_ H; clear H; obtain ⟨p57, q57, ad57, A57_1, c57_1, e57, hx57_0, hx57_1, hx57_2, hx57_3, hl57_1, hi57_1⟩ := pq_ (at_T37 HR0.out x7_1); cases e57; replace hx57_0 := hc_ HB.out hx57_0; replace hx57_1 := hc_ HB.out hx57_1; replace hx57_2 := hc_ HB.out hx57_2; replace hx57_3 := hc_ HB.out hx57_3; have HR57_1 := A_ hi57_1; have HC57_1 := A_ hl57_1; clear hi57_1 hl57_1; obtain ⟨p58, q58, ad58, A58_1, c58_1, e58, hx58_0, hx58_1, hx58_2, hx58_3, hl58_1, hi58_1⟩ := pq_ (at_T37 HR0.out x7_1); obtain rfl : ad57 = ad58 := (by injection e58); replace hx58_0 := hc_ HB.out hx58_0; replace hx58_1 := hc_ HB.out hx58_1; replace hx58_2 := hc_ HB.out hx58_2; replace hx58_3 := hc_ HB.out hx58_3; have HR58_1 := A_ hi58_1; have HC58_1 := A_ hl58_1; clear hi58_1 hl58_1; have ea_ := Option.some.inj (hx57_1.symm.trans hx58_1)
     injection ea_ with ea_ en_ ec_
     subst ea_; subst ec_; clear en_; obtain ⟨Ao19, co19, eo19⟩ := Kd.R_slice HO_6.out; subst eo19; obtain ⟨p59, q59, ad59, e59, hx59_0⟩ := pq_ (Kd.at_bool (Kd.R_reads' HO_6.out).2.2 ((rd_T37 l0 x7_1).f2))
     (try rw [← Nbq11.out] at hx59_0)
     cases e59
     go_wp2_with (first | ((with_reducible refine gate_builtin (b := .append) (xs := #[.tmp 92, .tmp 94]) rfl ?_); at_builtin; refine Kd.R_append Kd.bool (w0 := w) w.heap.size rfl (.tmp 92) (.tmp 94) 46 4 (.bool false) 1 rfl Tryz.underlying46 info4 rfl z81_ z143_ (.slice (some ad59) x6_1.length co19) x6_1 false [.bool false] (fun _ => True) (fun _ => False) rfl rfl ?aP (fun _ hk => hk.elim) ?aF ?aO ?aB ?aS ?aL ?_; (case aP => exact rfl); (case aB => exact z167_); (case aF => exact (fun _ _ => trivial)); (case aO => exact z38_); (case aS => exact (below_size z167_)); (case aL => have := LMc18.out; omega); intro v66 w20 ho hb hg hat; rw [← Ny65.out] at ho; have n_ := a2_ (hb) (ho); clear HB HO_6; obtain ⟨HB, HO67⟩ := n_; clear ho hb hg hat))
     go_roundg k1
     case measure => have := HK1.out; omega
     case rel => exact ⟨(y65), (wrap64 (x7_1 + 1)), z119_, H', ⟨z132_⟩, ⟨by (with_reducible repeat (first | apply Kd.R_alloc | apply Kd.R_drewN | apply Kd.R_drew)); exact HO67.out⟩, ⟨z167_⟩⟩
   have c8b0 := beq_eq_false_iff_ne.mpr c8; have c8b1 := bne_iff_ne.mpr c8; revert H; refine i2_ (fun c21 H => ?_) fun c21 H => ?_
   ·
    have c21b0 := beq_iff_eq.mpr c21; have c21b1 := bne_eq_false_iff_eq.mpr c21; clear c21; revert H; refine i3_ fun c22b0 H => ?_; revert H; refine i3_ fun c23b0 H => ?_; obtain ⟨bq24, hbq24⟩ : ∃ b_ : Bool, b_ = (rdOf false x6_1 ((rd_T37 l0 x7_1).f2)) := ⟨_, rfl⟩
    replace H : (if bq24 = true then (if x6_1.length < 140737488355328 then (f9.l0 k1 l0 l1 (x6_1 ++ [true]) (wrap64 (x7_1 + 1))) else (none)) else (if 0 ≤ ((rd_T37 l0 x7_1).f3) then (if ((rd_T37 l0 x7_1).f3) < (x6_1.length : Int) then (if x6_1.length < 140737488355328 then (f9.l0 k1 l0 l1 (x6_1 ++ [rdOf false x6_1 ((rd_T37 l0 x7_1).f3)]) (wrap64 (x7_1 + 1))) else (none)) else (none)) else (none))) = some r := by rw [← hbq24] at H; exact H
    have Nbq24 := A_ hbq24; clear hbq24
    by_cases c25 : bq24 = true
    ·
     subst c25; have H1 := tt_ H; clear H; have H := H1; clear H1; revert H; refine i4_ fun c26 H => ?_; have LMc26 := A_ c26; clear c26; obtain ⟨y68, hy68⟩ : ∃ y_ : List Bool, y_ = (x6_1 ++ [true]) := ⟨_, rfl⟩
     replace H : (f9.l0 k1 l0 l1 y68 (wrap64 (x7_1 + 1))) = some r := by first | (rw [hy68]; with_reducible exact H) | (have H2_ := (Option.bind_some _ _).symm.trans H; rw [hy68]; with_reducible exact H2_) | (have H2_ := (Option.bind_some _ _).symm.trans H; with_reducible exact H2_) | with_reducible exact H | (rw [hy68]; exact H) | exact H
     have Ny68 := A_ hy68; clear hy68; have H' := A_ H; clear H; obtain ⟨p57, q57, ad57, A57_1, c57_1, e57, hx57_0, hx57_1, hx57_2, hx57_3, hl57_1, hi57_1⟩ := pq_ (at_T37 HR0.out x7_1); cases e57; replace hx57_0 := hc_ HB.out hx57_0; replace hx57_1 := hc_ HB.out hx57_1; replace hx57_2 := hc_ HB.out hx57_2; replace hx57_3 := hc_ HB.out hx57_3; have HR57_1 := A_ hi57_1; have HC57_1 := A_ hl57_1; clear hi57_1 hl57_1; obtain ⟨p69, q69, ad69, A69_1, c69_1, e69, hx69_0, hx69_1, hx69_2, hx69_3, hl69_1, hi69_1⟩ := pq_ (at_T37 HR0.out x7_1); obtain rfl : ad57 = ad69 := (by injection e69); replace hx69_0 := hc_ HB.out hx69_0; replace hx69_1 := hc_ HB.out hx69_1; replace hx69_2 := hc_ HB.out hx69_2; replace hx69_3 := hc_ HB.out hx69_3; have HR69_1 := A_ hi69_1; have HC69_1 := A_ hl69_1; clear hi69_1 hl69_1; have ea_ := Option.some.inj (hx57_1.symm.trans hx69_1)
     injection ea_ with ea_ en_ ec_
     subst ea_; subst ec_; clear en_; obtain ⟨Ao27, co27, eo27⟩ := Kd.R_slice HO_6.out; subst eo27; obtain ⟨p70, q70, ad70, e70, hx70_0⟩ := pq_ (Kd.at_bool (Kd.R_reads' HO_6.out).2.2 ((rd_T37 l0 x7_1).f2))
     (try rw [← Nbq24.out] at hx70_0)
     cases e70
     go_wp2_with (first | ((with_reducible refine gate_builtin (b := .append) (xs := #[.tmp 92, .tmp 94]) rfl ?_); at_builtin; refine Kd.R_append Kd.bool (w0 := w) w.heap.size rfl (.tmp 92) (.tmp 94) 46 4 (.bool false) 1 rfl Tryz.underlying46 info4 rfl z81_ z143_ (.slice (some ad70) x6_1.length co27) x6_1 true [.bool true] (fun _ => True) (fun _ => False) rfl rfl ?aP (fun _ hk => hk.elim) ?aF ?aO ?aB ?aS ?aL ?_; (case aP => exact rfl); (case aB => exact z167_); (case aF => exact (fun _ _ => trivial)); (case aO => exact z38_); (case aS => exact (below_size z167_)); (case aL => have := LMc26.out; omega); intro v71 w28 ho hb hg hat; rw [← Ny68.out] at ho; have n_ := a2_ (hb) (ho); clear HB HO_6; obtain ⟨HB, HO72⟩ := n_; clear ho hb hg hat))
     go_roundg k1
     case measure => have := HK1.out; omega
     case rel => exact ⟨(y68), (wrap64 (x7_1 + 1)), z119_, H', ⟨z132_⟩, ⟨z21_⟩, ⟨z167_⟩⟩
    ·
     replace c25 := Bool.eq_false_iff.mpr c25; subst c25; have H1 := ff_ H; clear H; have H := H1; clear H1; revert H; refine i3_ fun c29b0 H => ?_; revert H; refine i3_ fun c30b0 H => ?_; revert H; refine i4_ fun c31 H => ?_; have LMc31 := A_ c31; clear c31; obtain ⟨y73, hy73⟩ : ∃ y_ : List Bool, y_ = (x6_1 ++ [rdOf false x6_1 ((rd_T37 l0 x7_1).f3)]) := ⟨_, rfl⟩
     replace H : (f9.l0 k1 l0 l1 y73 (wrap64 (x7_1 + 1))) = some r := by first | (rw [hy73]; with_reducible exact H) | (have H2_ := (Option.bind_some _ _).symm.trans H; rw [hy73]; with_reducible exact H2_) | (have H2_ := (Option.bind_some _ _).symm.trans H; with_reducible exact H2_) | with_reducible exact H | (rw [hy73]; exact H) | exact H
     have Ny73 := A_ hy73; clear hy73; have H' := A_ H; clear H; obtain ⟨p57, q57, ad57, A57_1, c57_1, e57, hx57_0, hx57_1, hx57_2, hx57_3, hl57_1, hi57_1⟩ := pq_ (at_T37 HR0.out x7_1); cases e57; replace hx57_0 := hc_ HB.out hx57_0; replace hx57_1 := hc_ HB.out hx57_1; replace hx57_2 := hc_ HB.out hx57_2; replace hx57_3 := hc_ HB.out hx57_3; have HR57_1 := A_ hi57_1; have HC57_1 := A_ hl57_1; clear hi57_1 hl57_1; obtain ⟨p69, q69, ad69, A69_1, c69_1, e69, hx69_0, hx69_1, hx69_2, hx69_3, hl69_1, hi69_1⟩ := pq_ (at_T37 HR0.out x7_1); obtain rfl : ad57 = ad69 := (by injection e69); replace hx69_0 := hc_ HB.out hx69_0; replace hx69_1 := hc_ HB.out hx69_1; replace hx69_2 := hc_ HB.out hx69_2; replace hx69_3 := hc_ HB.out hx69_3; have HR69_1 := A_ hi69_1; have HC69_1 := A_ hl69_1; clear hi69_1 hl69_1; have ea_ := Option.some.inj (hx57_1.symm.trans hx69_1)
     injection ea_ with ea_ en_ ec_
     subst ea_; subst ec_; clear en_; obtain ⟨Ao32, co32, eo32⟩ := Kd.R_slice HO_6.out; subst eo32; obtain ⟨p70, q70, ad70, e70, hx70_0⟩ := pq_ (Kd.at_bool (Kd.R_reads' HO_6.out).2.2 ((rd_T37 l0 x7_1).f2))
     (try rw [← Nbq24.out] at hx70_0)
     cases e70; obtain ⟨p74, q74, ad74, A74_1, c74_1, e74, hx74_0, hx74_1, hx74_2, hx74_3, hl74_1, hi74_1⟩ := pq_ (at_T37 HR0.out x7_1); obtain rfl : ad57 = ad74 := (by injection e74); replace hx74_0 := hc_ HB.out hx74_0; replace hx74_1 := hc_ HB.out hx74_1; replace hx74_2 := hc_ HB.out hx74_2; replace hx74_3 := hc_ HB.out hx74_3; have HR74_1 := A_ hi74_1; have HC74_1 := A_ hl74_1; clear hi74_1 hl74_1; have ea_ := Option.some.inj (hx57_1.symm.trans hx74_1)
     injection ea_ with ea_ en_ ec_
     subst ea_; subst ec_; clear en_; obtain ⟨p75, q75, ad75, e75, hx75_0⟩ := pq_ (Kd.at_bool (Kd.R_reads' HO_6.out).2.2 ((rd_T37 l0 x7_1).f3))
     (try rw [← Nbq24.out] at hx75_0)
     obtain rfl : ad70 = ad75 := (by injection e75)
     go_wp2_with (first | ((with_reducible refine gate_builtin (b := .append) (xs := #[.tmp 92, .tmp 94]) rfl ?_); at_builtin; refine Kd.R_append Kd.bool (w0 := w) w.heap.size rfl (.tmp 92) (.tmp 94) 46 4 (.bool false) 1 rfl Tryz.underlying46 info4 rfl z81_ z143_ (.slice (some ad70) x6_1.length co32) x6_1 (rdOf false x6_1 ((rd_T37 l0 x7_1).f3)) [.bool (rdOf false x6_1 ((rd_T37 l0 x7_1).f3))] (fun _ => True) (fun _ => False) rfl rfl ?aP (fun _ hk => hk.elim) ?aF ?aO ?aB ?aS ?aL ?_; (case aP => exact rfl); (case aB => exact z167_); (case aF => exact (fun _ _ => trivial)); (case aO => exact z38_); (case aS => exact (below_size z167_)); (case aL => have := LMc31.out; omega); intro v76 w33 ho hb hg hat; rw [← Ny73.out] at ho; have n_ := a2_ (hb) (ho); clear HB HO_6; obtain ⟨HB, HO77⟩ := n_; clear ho hb hg hat))
     go_roundg k1
     case measure => have := HK1.out; omega
     case rel => exact ⟨(y73), (wrap64 (x7_1 + 1)), z119_, H', ⟨z132_⟩, ⟨z23_⟩, ⟨z167_⟩⟩
   have c21b0 := beq_eq_false_iff_ne.mpr c21; have c21b1 := bne_iff_ne.mpr c21; revert H; refine i2_ (fun c34 H => ?_) fun c34 H => ?_; rotate_left
   ·
    have c34b0 := beq_eq_false_iff_ne.mpr c34; have c34b1 := bne_iff_ne.mpr c34; replace H := bm_ H; obtain ⟨t88, A89, H⟩ := H; have A47 := A_ A89; clear A89; revert H; refine i4_ fun c48 H => ?_; have LMc48 := A_ c48; clear c48; obtain ⟨y90, hy90⟩ : ∃ y_ : List Bool, y_ = (x6_1 ++ [t88]) := ⟨_, rfl⟩
    replace H : (f9.l0 k1 l0 l1 y90 (wrap64 (x7_1 + 1))) = some r := by first | (rw [hy90]; with_reducible exact H) | (have H2_ := (Option.bind_some _ _).symm.trans H; rw [hy90]; with_reducible exact H2_) | (have H2_ := (Option.bind_some _ _).symm.trans H; with_reducible exact H2_) | with_reducible exact H | (rw [hy90]; exact H) | exact H
    have Ny90 := A_ hy90; clear hy90; have H' := A_ H; clear H; obtain ⟨p57, q57, ad57, A57_1, c57_1, e57, hx57_0, hx57_1, hx57_2, hx57_3, hl57_1, hi57_1⟩ := pq_ (at_T37 HR0.out x7_1); cases e57; replace hx57_0 := hc_ HB.out hx57_0; replace hx57_1 := hc_ HB.out hx57_1; replace hx57_2 := hc_ HB.out hx57_2; replace hx57_3 := hc_ HB.out hx57_3; have HR57_1 := A_ hi57_1; have HC57_1 := A_ hl57_1; clear hi57_1 hl57_1; obtain ⟨p91, q91, ad91, A91_1, c91_1, e91, hx91_0, hx91_1, hx91_2, hx91_3, hl91_1, hi91_1⟩ := pq_ (at_T37 HR0.out x7_1); obtain rfl : ad57 = ad91 := (by injection e91); replace hx91_0 := hc_ HB.out hx91_0; replace hx91_1 := hc_ HB.out hx91_1; replace hx91_2 := hc_ HB.out hx91_2; replace hx91_3 := hc_ HB.out hx91_3; have HR91_1 := A_ hi91_1; have HC91_1 := A_ hl91_1; clear hi91_1 hl91_1; have ea_ := Option.some.inj (hx57_1.symm.trans hx91_1)
    injection ea_ with ea_ en_ ec_
    subst ea_; subst ec_; clear en_
    go_wp2_with (first | ((with_reducible refine gate_callee (f := 36) rfl ?_); refine gl_ (some 30) Tryz.func36 #[.slice A57_1 ((rd_T37 l0 x7_1).f1).length c57_1, .slice A1 l1.length c1] ?_; (with_reducible refine (f40.calls k1 _ _ ((rd_T37 l0 x7_1).f1) _ _ l1 t88 _ ?side1 HC91_1.out ?side3 HC1.out A47.out).mono ?_); (case side1 => repeat (first | exact (Kd.C_below HR91_1.out HB.out) | (with_reducible refine Kd.C_alloc ?_ _) | (with_reducible refine Kd.C_drewN ?_ _) | (with_reducible refine Kd.C_drew ?_))); (case side3 => exact z176_); rintro e w' ⟨rfl, ⟨nd, rfl⟩⟩; refine ⟨_, rfl, ?_⟩) | ((with_reducible refine gate_builtin (b := .append) (xs := #[.tmp 92, .tmp 94]) rfl ?_); at_builtin; refine Kd.R_append Kd.bool (w0 := w) w.heap.size rfl (.tmp 92) (.tmp 94) 46 4 (.bool false) 1 rfl Tryz.underlying46 info4 rfl z81_ z143_ u6 x6_1 t88 [.bool t88] (fun _ => True) (fun _ => False) rfl rfl ?aP (fun _ hk => hk.elim) ?aF ?aO ?aB ?aS ?aL ?_; (case aP => exact rfl); (case aB => exact z167_); (case aF => exact (fun _ _ => trivial)); (case aO => exact z38_); (case aS => exact (below_size z167_)); (case aL => have := LMc48.out; omega); intro v92 w49 ho hb hg hat; rw [← Ny90.out] at ho; have n_ := a2_ (hb) (ho); clear HB HO_6; obtain ⟨HB, HO93⟩ := n_; clear ho hb hg hat))
    go_roundg k1
    case measure => have := HK1.out; omega
    case rel => exact ⟨(y90), (wrap64 (x7_1 + 1)), z119_, H', ⟨z132_⟩, ⟨z26_⟩, ⟨z167_⟩⟩
   have c34b0 := beq_iff_eq.mpr c34; have c34b1 := bne_eq_false_iff_eq.mpr c34; clear c34; revert H; refine i3_ fun c35b0 H => ?_; revert H; refine i3_ fun c36b0 H => ?_; obtain ⟨bq37, hbq37⟩ : ∃ b_ : Bool, b_ = (rdOf false x6_1 ((rd_T37 l0 x7_1).f2)) := ⟨_, rfl⟩
   replace H : (if bq37 = true then (if 0 ≤ ((rd_T37 l0 x7_1).f3) then (if ((rd_T37 l0 x7_1).f3) < (x6_1.length : Int) then (if x6_1.length < 140737488355328 then (f9.l0 k1 l0 l1 (x6_1 ++ [!(rdOf false x6_1 ((rd_T37 l0 x7_1).f3))]) (wrap64 (x7_1 + 1))) else (none)) else (none)) else (none)) else (if x6_1.length < 140737488355328 then (f9.l0 k1 l0 l1 (x6_1 ++ [false]) (wrap64 (x7_1 + 1))) else (none))) = some r := by rw [← hbq37] at H; exact H
   have Nbq37 := A_ hbq37; clear hbq37
   by_cases c38 : bq37 = true
   ·
    subst c38; have H1 := tt_ H; clear H; have H := H1; clear H1; revert H; refine i3_ fun c39b0 H => ?_; revert H; refine i3_ fun c40b0 H => ?_; revert H; refine i4_ fun c41 H => ?_; have LMc41 := A_ c41; clear c41; obtain ⟨y78, hy78⟩ : ∃ y_ : List Bool, y_ = (x6_1 ++ [!(rdOf false x6_1 ((rd_T37 l0 x7_1).f3))]) := ⟨_, rfl⟩; replace H : (f9.l0 k1 l0 l1 y78 (wrap64 (x7_1 + 1))) = some r := z110_; have Ny78 := A_ hy78; clear hy78; have H' := A_ H; clear H; obtain ⟨p57, q57, ad57, A57_1, c57_1, e57, hx57_0, hx57_1, hx57_2, hx57_3, hl57_1, hi57_1⟩ := pq_ (at_T37 HR0.out x7_1); cases e57; replace hx57_0 := hc_ HB.out hx57_0; replace hx57_1 := hc_ HB.out hx57_1; replace hx57_2 := hc_ HB.out hx57_2; replace hx57_3 := hc_ HB.out hx57_3; have HR57_1 := A_ hi57_1; have HC57_1 := A_ hl57_1; clear hi57_1 hl57_1; obtain ⟨p79, q79, ad79, A79_1, c79_1, e79, hx79_0, hx79_1, hx79_2, hx79_3, hl79_1, hi79_1⟩ := pq_ (at_T37 HR0.out x7_1); obtain rfl : ad57 = ad79 := (by injection e79); replace hx79_0 := hc_ HB.out hx79_0; replace hx79_1 := hc_ HB.out hx79_1; replace hx79_2 := hc_ HB.out hx79_2; replace hx79_3 := hc_ HB.out hx79_3; have HR79_1 := A_ hi79_1; have HC79_1 := A_ hl79_1; clear hi79_1 hl79_1; have ea_ := Option.some.inj (hx57_1.symm.trans hx79_1)
    injection ea_ with ea_ en_ ec_
    subst ea_; subst ec_; clear en_; obtain ⟨Ao42, co42, eo42⟩ := Kd.R_slice HO_6.out; subst eo42; obtain ⟨p80, q80, ad80, e80, hx80_0⟩ := pq_ (Kd.at_bool (Kd.R_reads' HO_6.out).2.2 ((rd_T37 l0 x7_1).f2))
    (try rw [← Nbq37.out] at hx80_0)
    cases e80; obtain ⟨p81, q81, ad81, A81_1, c81_1, e81, hx81_0, hx81_1, hx81_2, hx81_3, hl81_1, hi81_1⟩ := pq_ (at_T37 HR0.out x7_1); obtain rfl : ad57 = ad81 := (by injection e81); replace hx81_0 := hc_ HB.out hx81_0; replace hx81_1 := hc_ HB.out hx81_1; replace hx81_2 := hc_ HB.out hx81_2; replace hx81_3 := hc_ HB.out hx81_3; have HR81_1 := A_ hi81_1; have HC81_1 := A_ hl81_1; clear hi81_1 hl81_1; have ea_ := Option.some.inj (hx57_1.symm.trans hx81_1)
    injection ea_ with ea_ en_ ec_
    subst ea_; subst ec_; clear en_; obtain ⟨p82, q82, ad82, e82, hx82_0⟩ := pq_ (Kd.at_bool (Kd.R_reads' HO_6.out).2.2 ((rd_T37 l0 x7_1).f3))
    (try rw [← Nbq37.out] at hx82_0)
    obtain rfl : ad80 = ad82 := (by injection e82)
    go_wp2_with (first | ((with_reducible refine gate_builtin (b := .append) (xs := #[.tmp 92, .tmp 94]) rfl ?_); at_builtin; refine Kd.R_append Kd.bool (w0 := w) w.heap.size rfl (.tmp 92) (.tmp 94) 46 4 (.bool false) 1 rfl Tryz.underlying46 info4 rfl z81_ z143_ (.slice (some ad80) x6_1.length co42) x6_1 (!(rdOf false x6_1 ((rd_T37 l0 x7_1).f3))) [.bool (!(rdOf false x6_1 ((rd_T37 l0 x7_1).f3)))] (fun _ => True) (fun _ => False) rfl rfl ?aP (fun _ hk => hk.elim) ?aF ?aO ?aB ?aS ?aL ?_; (case aP => exact rfl); (case aB => exact z167_); (case aF => exact (fun _ _ => trivial)); (case aO => exact z38_); (case aS => exact (below_size z167_)); (case aL => have := LMc41.out; omega); intro v83 w43 ho hb hg hat; rw [← Ny78.out] at ho; have n_ := a2_ (hb) (ho); clear HB HO_6; obtain ⟨HB, HO84⟩ := n_; clear ho hb hg hat))
    go_roundg k1
    case measure => have := HK1.out; omega
    case rel => exact ⟨(y78), (wrap64 (x7_1 + 1)), z119_, H', ⟨z132_⟩, ⟨z24_⟩, ⟨z167_⟩⟩
   ·
    replace c38 := Bool.eq_false_iff.mpr c38; subst c38; have H1 := ff_ H; clear H; have H := H1; clear H1; revert H; refine i4_ fun c44 H => ?_; have LMc44 := A_ c44; clear c44; obtain ⟨y85, hy85⟩ : ∃ y_ : List Bool, y_ = (x6_1 ++ [false]) := ⟨_, rfl⟩; replace H : (f9.l0 k1 l0 l1 y85 (wrap64 (x7_1 + 1))) = some r := z111_; have Ny85 := A_ hy85; clear hy85; have H' := A_ H; clear H; obtain ⟨p57, q57, ad57, A57_1, c57_1, e57, hx57_0, hx57_1, hx57_2, hx57_3, hl57_1, hi57_1⟩ := pq_ (at_T37 HR0.out x7_1); cases e57; replace hx57_0 := hc_ HB.out hx57_0; replace hx57_1 := hc_ HB.out hx57_1; replace hx57_2 := hc_ HB.out hx57_2; replace hx57_3 := hc_ HB.out hx57_3; have HR57_1 := A_ hi57_1; have HC57_1 := A_ hl57_1; clear hi57_1 hl57_1; obtain ⟨p79, q79, ad79, A79_1, c79_1, e79, hx79_0, hx79_1, hx79_2, hx79_3, hl79_1, hi79_1⟩ := pq_ (at_T37 HR0.out x7_1); obtain rfl : ad57 = ad79 := (by injection e79); replace hx79_0 := hc_ HB.out hx79_0; replace hx79_1 := hc_ HB.out hx79_1; replace hx79_2 := hc_ HB.out hx79_2; replace hx79_3 := hc_ HB.out hx79_3; have HR79_1 := A_ hi79_1; have HC79_1 := A_ hl79_1; clear hi79_1 hl79_1; have ea_ := Option.some.inj (hx57_1.symm.trans hx79_1)
    injection ea_ with ea_ en_ ec_
    subst ea_; subst ec_; clear en_; obtain ⟨Ao45, co45, eo45⟩ := Kd.R_slice HO_6.out; subst eo45; obtain ⟨p80, q80, ad80, e80, hx80_0⟩ := pq_ (Kd.at_bool (Kd.R_reads' HO_6.out).2.2 ((rd_T37 l0 x7_1).f2))
    (try rw [← Nbq37.out] at hx80_0)
    cases e80
    go_wp2_with (first | ((with_reducible refine gate_builtin (b := .append) (xs := #[.tmp 92, .tmp 94]) rfl ?_); at_builtin; refine Kd.R_append Kd.bool (w0 := w) w.heap.size rfl (.tmp 92) (.tmp 94) 46 4 (.bool false) 1 rfl Tryz.underlying46 info4 rfl z81_ z143_ (.slice (some ad80) x6_1.length co45) x6_1 false [.bool false] (fun _ => True) (fun _ => False) rfl rfl ?aP (fun _ hk => hk.elim) ?aF ?aO ?aB ?aS ?aL ?_; (case aP => exact rfl); (case aB => exact z167_); (case aF => exact (fun _ _ => trivial)); (case aO => exact z38_); (case aS => exact (below_size z167_)); (case aL => have := LMc44.out; omega); intro v86 w46 ho hb hg hat; rw [← Ny85.out] at ho; have n_ := a2_ (hb) (ho); clear HB HO_6; obtain ⟨HB, HO87⟩ := n_; clear ho hb hg hat))
    go_roundg k1
    case measure => have := HK1.out; omega
    case rel => exact ⟨(y85), (wrap64 (x7_1 + 1)), z119_, H', ⟨z132_⟩, ⟨by (with_reducible repeat (first | apply Kd.R_alloc | apply Kd.R_drewN | apply Kd.R_drew)); exact HO87.out⟩, ⟨z167_⟩⟩
 ·
  replace c4 := Bool.eq_false_iff.mpr c4; subst c4; have H1 := ff_ H; clear H; have H := H1; clear H1; obtain rfl := sj_ H; go_enter Tryz.func18, Tryz.ntmps18
  go_wp2_with (first | ((with_reducible refine gate_callee (f := 16) rfl ?_); refine gl_ (some 10) Tryz.func16 #[.slice A0 l0.length c0] ?_; (with_reducible refine (f10.calls k _ _ l0 false _ ?side1 HC0.out A3.out).mono ?_); (case side1 => exact z189_); rintro e w54 ⟨rfl, hb⟩; refine ⟨_, rfl, ?_⟩; replace HB := A_ (below_step z167_ hb); (try clear hb); (try clear hk)))
  go_ret; exact ⟨z118_, z167_⟩
end Go.Proofs.YtbbmdakdghefnaaGreatDoor.T
