import Derived.Lib.BufferOwn
import Derived.Test.YtbbmdakdghefnaaGreatDoorQPK
/- Texts of this claim, laid together by a program (merge.py): An, Bu. -/
set_option maxRecDepth 100000
namespace Go.Proofs.YtbbmdakdghefnaaGreatDoor.T
open Go.RowKit Go.Proofs.YtbbmdakdghefnaaGreatDoorW.PrintWords Go.Proofs.YtbbmdakdghefnaaGreatDoorW.PrintLast Go.Proofs.YtbbmdakdghefnaaGreatDoorW.PrintMore
attribute [local go_sem] max2_int min2_int max_two min_two max_three min_three max_four min_four
set_option linter.unusedVariables false
set_option linter.unusedSimpArgs false
def f93.l0 : Nat → List (List Int) → Int → Int → List Int → Option (Bool × List Int)
 | 0, _, _, _, _ => none
 | k + 1, l, x, i, ats => if i < (l.length : Int) then (if 0 ≤ i then ((f58.f k (rd_L5 l i) (rd ats i) x).bind fun g => if g = ((rd_L5 l i).length : Int) then some (false, ats.set i.toNat g) else if 0 ≤ g then (if g < ((rd_L5 l i).length : Int) then (if rd (rd_L5 l i) g = x then f93.l0 k l x (wrap64 (i + 1)) (ats.set i.toNat g) else some (false, ats.set i.toNat g)) else none) else none) else none) else some (true, ats)
theorem ne_types {w : World} {b : Nat} {ok : Nat → Prop} {ga n c g t : Nat} {xs : List Int} {cells : Array Value} (h : (Kd.int .i64).R 3 w b ok (.slice (some ⟨ga, 0, none⟩) n c) xs) (hb : w.heap[g]? = some (.cells cells t (0, 0))) (ht : 3 ≠ t) : some g ≠ (some ga : Option Nat) := fun e => Kd.R_ne h hb ht (by simpa [Value.ownBlock] using e)
theorem own_lt_at {w : World} {b : Nat} {ok : Nat → Prop} {ga n c : Nat} {xs : List Int} (h : (Kd.int .i64).R 3 w b ok (.slice (some ⟨ga, 0, none⟩) n c) xs) : ga < w.heap.size := by
 obtain ⟨inner, ho⟩ := Kd.R_own h; exact own_lt ho ga z221_
theorem own_only {w : World} {b : Nat} {ok : Nat → Prop} {ga n c : Nat} {xs : List Int} (h : (Kd.int .i64).R 3 w b ok (.slice (some ⟨ga, 0, none⟩) n c) xs) : (Kd.int .i64).R 3 w b (fun k => k = ga) (.slice (some ⟨ga, 0, none⟩) n c) xs := ⟨fun k hk => by simpa [Value.ownBlock] using hk.symm, h.2⟩
theorem rd_set_same (xs : List Int) (i g : Int) (h0 : 0 ≤ i) (h1 : i < (xs.length : Int)) : rdOf 0 (xs.set i.toNat g) i = g := by
 simp only [rdOf, List.getD_eq_getElem?_getD]; rw [List.getElem?_set_self z161_]
 rfl
set_option maxHeartbeats 4000000 in
theorem f93.calls (k : Nat) (l : List (List Int)) (x : Int) (ats : List Int) (b : Bool) (as' : List Int) (W w : World) (A : Option Addr) (c gl gt ga ca : Nat) (hC : Kd.C (Kd.slice 3 (Kd.int .i64)) W A l.length l) (hc : l.length ≤ c) (hB : Below W.heap.size W w) (hga : W.heap.size ≤ ga)
  (hl : w.heap[gl]? = some (.cells #[.slice A l.length c] 78 (0, 0))) (ht : w.heap[gt]? = some (.cells #[.slice (some ⟨ga, 0, none⟩) l.length ca] 42 (0, 0)))
  (hR : Kd.R (Kd.int .i64) 3 w W.heap.size (fun _ => True) (.slice (some ⟨ga, 0, none⟩) l.length ca) ats) (h : f93.l0 k l x 0 ats = some (b, as')) :
  Calls Tryz.prog 110 #[.int .i64 x, .pointer (some ⟨gl, 0, none⟩), .pointer (some ⟨gt, 0, none⟩)] w fun e w' => e = .returned (.bool b) ∧ Kd.R (Kd.int .i64) 3 w' W.heap.size (fun _ => True) (.slice (some ⟨ga, 0, none⟩) l.length ca) as' ∧ w.grownBy w' (some ga) := by
 have HC := A_ hC; have HCC := A_ hc; have HB := A_ hB; have HGA := A_ hga; have HL := A_ hl; have HT := A_ ht; have HR := A_ hR; have nl : some gl ≠ (some ga : Option Nat) := fun e => Kd.R_ne hR hl z106_ (by simpa [Value.ownBlock] using e); have nt : some gt ≠ (some ga : Option Nat) := fun e => Kd.R_ne hR ht z106_ (by simpa [Value.ownBlock] using e); have NL := A_ nl; have NT := A_ nt; have e1 : w.cell? ⟨gl, 0, none⟩ = some (.slice A l.length c) := (blk_cell hl 0).trans rfl; have H' := A_ h; clear hC hc hB hl ht hR h hga nl nt; go_enter Tryz.func110, Tryz.ntmps110; go_wp2
 go_loopg [9] k (fun kq v9 w' => ∃ (i : Int) (as1 : List Int), v9 = .int .i64 i ∧ Aside0 (f93.l0 kq l x i as1 = some (b, as')) ∧ Aside0 (Kd.R (Kd.int .i64) 3 w' W.heap.size (fun _ => True) (.slice (some ⟨ga, 0, none⟩) l.length ca) as1) ∧ Aside0 (w.grownBy w' (some ga)))
 case atStart => exact ⟨0, ats, rfl, H', HR, ⟨World.grownBy.refl _ _⟩⟩
 case round =>
  clear H' HR; obtain ⟨i, as1, rfl, HA, HR, HK⟩ := hrel
  cases gk with
  | zero => exact absurd HA.out (by simp [f93.l0])
  | succ k1 =>
  have H := HA.out; clear HA; simp only [f93.l0] at H; have HBB := A_ (HB.out.grown HK.out (below_size HB.out) (fun _ h => by cases h; exact HGA.out)); have HLW := A_ ((HK.out.block gl (blk_lt HL.out) NL.out).trans HL.out); have HTW := A_ ((HK.out.block gt (blk_lt HT.out) NT.out).trans HT.out)
  by_cases h1 : i < (l.length : Int)
  ·
   rw [if_pos h1] at H; have d1 : decide (i < (l.length : Int)) = true := decide_eq_true h1
   by_cases h0 : 0 ≤ i
   ·
    rw [if_pos h0] at H; obtain ⟨g, hg, H⟩ := bm_ H; have HG := A_ hg; clear hg
    have hlen : l.length = as1.length := by
     obtain ⟨A_, c_, e_, _⟩ := Kd.R_reads HR.out
     injection e_
    have HLEN := A_ hlen; clear hlen; obtain ⟨ad, A1, c1, ea, hx, hc1, hrow⟩ := at_L5 HC.out i h0 h1; cases ea; have hx := (HBB.out.cell (World.block_lt_of_cell? W _ hx)).trans hx; have HROW := A_ hrow; have HC1 := A_ hc1; have HP := A_ h0; have HQ := A_ h1; have e1 := (blk_cell HLW.out 0).trans rfl; have e2 := (blk_cell HTW.out 0).trans rfl; have e3 := (Kd.R_celln 0 HR.out i h0 h1).1; have p0 := eq_true h0; have q0 := eq_true h1; clear hrow hc1 h0 h1; have HH := A_ H; clear H; go_wp2; refine start_ (n := 11) (S := fun w' => w'.cell? ⟨gl, 0, none⟩ = some (.slice (some ad) l.length c) ∧ w'.cell? ⟨gt, 0, none⟩ = some (.slice (some ⟨ga, 0, none⟩) l.length ca) ∧ w'.cell? ⟨ga, i.toNat, none⟩ = some (.int .i64 (rd as1 i))) (ds := [10]) #[false, false, false, false, false, false, false, false, false, false, false] z159_ rfl rfl ⟨e1, e2, e3⟩ (fun hHeld => ?_); refine rgP 1 15 ?_; refine rgP 2 16 ?_; refine rgP 4 18 ?_; refine rgP 7 21 ?_; refine rgT3 0 14 hHeld ?_; refine rgT3 3 17 hHeld ?_; refine rgP 5 19 ?_; refine rgT3 6 20 hHeld ?_; refine one_ (i := 8) (N := some 22) #[true, true, true, true, true, true, true, true, true, false, false] rfl rfl z159_ z106_ (fun K hK => ?_); refine goes_ Tryz.func111 z159_ rfl #[.slice A1 (rd_L5 l i).length c1, .int .i64 (rd as1 i), .int .i64 x] z214_ rfl rfl z222_ ?_
    with_reducible refine (f58.calls k1 A1 c1 (rd_L5 l i) (rd as1 i) x g _ (Kd.C_below HROW.out (below_step HBB.out z189_)) HC1.out HG.out).mono ?_
    rintro e w3 ⟨rfl, hb⟩; refine ⟨_, rfl, ?_⟩; have HR3 := A_ (Kd.R_below HR.out (below_step z189_ hb)); have HK3 := A_ (Lib.grownBy_below HK.out (below_step z189_ hb)); refine hK.out _ _ ⟨pw_cell_below hb hHeld.1, pw_cell_below hb hHeld.2.1, pw_cell_below hb hHeld.2.2⟩ (fun hHeld => ?_); clear hK K; refine nA_ ?_; refine rgP 9 23 ?_; refine last_ (i := 10) (N := none) #[true, true, true, true, true, true, true, true, true, true, true] rfl rfl z159_ z106_ (fun K hK => ?_); have hf_ := (Kd.R_celln 0 HR3.out i HP.out HQ.out).2; refine skip_ (w1 := ?_) z214_ rfl ?_ ?_; rotate_left
    ·
     go_simp
     rfl
    refine hK.out _ _ ?_; clear hK K; refine done_ z159_ ?_; have HP4 := Kd.R_putg HR3.out i g; have hr4 := HP4.1; have hk4 := Lib.grownBy_trans HK3.out HP4.2; have e3 := (Kd.R_celln 0 hr4 i HP.out HQ.out).1; rw [show rdOf 0 (as1.set i.toNat g) i = g from rd_set_same as1 i g HP.out (by have := HLEN.out; have := HQ.out; omega)] at e3; change World.cell? _ _ = some (.int .i64 g) at e3; generalize w3.setCell ⟨ga, i.toNat, none⟩ (.int .i64 g) = w4 at hr4 hk4 e3 ⊢; have HBX := A_ (HB.out.grown hk4 (below_size HB.out) (fun _ h => by cases h; exact HGA.out)); have e1 : w4.cell? ⟨gl, 0, none⟩ = some (.slice (some ad) l.length c) := (blk_cell ((hk4.block gl (blk_lt HL.out) NL.out).trans HL.out) 0).trans rfl; have e2 : w4.cell? ⟨gt, 0, none⟩ = some (.slice (some ⟨ga, 0, none⟩) l.length ca) := (blk_cell ((hk4.block gt (blk_lt HT.out) NT.out).trans HT.out) 0).trans rfl; have HR4 := A_ hr4; have HK4 := A_ hk4; have H := HH.out; have p0 := eq_true HP.out; have q0 := eq_true HQ.out; clear hr4 hk4 HP4 HR3 HK3 HR HK HH HBB
    by_cases hg1 : g = ((rd_L5 l i).length : Int)
    ·
     rw [if_pos hg1] at H; simp only [Option.some.injEq, Prod.mk.injEq] at H; obtain ⟨rfl, rfl⟩ := H
     have d2 : (g == ((rd_L5 l i).length : Int)) = true := by simpa using hg1
     clear hg1; go_wp2; go_ret; exact ⟨rfl, HR4.out, HK4.out⟩
    ·
     rw [if_neg hg1] at H
     have d2 : (g == ((rd_L5 l i).length : Int)) = false := by simpa using hg1
     clear hg1
     by_cases hg2 : 0 ≤ g
     ·
      rw [if_pos hg2] at H
      by_cases hg3 : g < ((rd_L5 l i).length : Int)
      ·
       rw [if_pos hg3] at H; obtain ⟨ad2, ea, hx2⟩ := Kd.at_int HROW.out g hg2 hg3; cases ea; have hx2 := (HBX.out.cell (World.block_lt_of_cell? W _ hx2)).trans hx2; have p1 := eq_true hg2; have q1 := eq_true hg3; clear hg2 hg3
       by_cases hxx : rd (rd_L5 l i) g = x
       ·
        rw [if_pos hxx] at H; have H' := A_ H
        have d3 : (rd (rd_L5 l i) g != x) = false := by simpa using hxx
        clear H hxx; go_wp2
        go_roundg k1
        case measure => omega
        case rel => exact ⟨_, _, rfl, H', HR4, HK4⟩
       ·
        rw [if_neg hxx] at H; simp only [Option.some.injEq, Prod.mk.injEq] at H; obtain ⟨rfl, rfl⟩ := H
        have d3 : (rd (rd_L5 l i) g != x) = true := by simpa using hxx
        clear hxx; go_wp2; go_ret; exact ⟨rfl, HR4.out, HK4.out⟩
      ·
       rw [if_neg hg3] at H; cases H
     ·
      rw [if_neg hg2] at H; cases H
   ·
    rw [if_neg h0] at H; cases H
  ·
   rw [if_neg h1] at H; have d1 : decide (i < (l.length : Int)) = false := decide_eq_false h1; simp only [Option.some.injEq, Prod.mk.injEq] at H; obtain ⟨rfl, rfl⟩ := H; clear h1; go_wp2; go_ret; exact ⟨rfl, HR.out, HK.out⟩
def f62.l0 : Nat → List (List Int) → List Int → Int → List Int → List Int → Option (List Int)
 | 0, _, _, _, _, _ => none
 | k + 1, l, xs, i, out, ats => if i < (xs.length : Int) then (if 0 ≤ i then ((f93.l0 k l (rd xs i) 0 ats).bind fun q => if q.1 = true then (if out.length < 17592186044416 then f62.l0 k l xs (wrap64 (i + 1)) (out ++ [rd xs i]) q.2 else none) else f62.l0 k l xs (wrap64 (i + 1)) out q.2) else none) else some out
def f62.f (k : Nat) (l : List (List Int)) : Option (List Int) := if l.length = 0 then some [] else (f94.f k l).bind fun b => if b = true then (if l.length ≤ 35184372088832 then f62.l0 k l (rd_L5 l 0) 0 [] (List.replicate l.length 0) else none) else some []
set_option maxHeartbeats 4000000 in
theorem f112.calls (k : Nat) (l : List (List Int)) (xs : List Int) (ats r : List Int) (W w : World) (A Ax : Option Addr) (c cx gl gt ga ca : Nat) (hC : Kd.C (Kd.slice 3 (Kd.int .i64)) W A l.length l) (hc : l.length ≤ c) (hX : Kd.C (Kd.int .i64) W Ax xs.length xs) (hcx : xs.length ≤ cx) (hB : Below W.heap.size W w) (hga : W.heap.size ≤ ga)
  (hgl : W.heap.size ≤ gl) (hgt : W.heap.size ≤ gt) (hl : w.heap[gl]? = some (.cells #[.slice A l.length c] 78 (0, 0))) (ht : w.heap[gt]? = some (.cells #[.slice (some ⟨ga, 0, none⟩) l.length ca] 42 (0, 0)))
  (hR : Kd.R (Kd.int .i64) 3 w W.heap.size (fun _ => True) (.slice (some ⟨ga, 0, none⟩) l.length ca) ats) (h : f62.l0 k l xs 0 [] ats = some r) :
  Calls Tryz.prog 109 #[.slice Ax xs.length cx, .func (.func 110) #[] #[.pointer (some ⟨gl, 0, none⟩), .pointer (some ⟨gt, 0, none⟩)]] w fun e w' => ∃ v, e = .returned v ∧ Kd.R (Kd.int .i64) 3 w' W.heap.size (fun _ => True) v r ∧ Below W.heap.size W w' := by
 have HC := A_ hC; have HCC := A_ hc; have HX := A_ hX; have HB := A_ hB; have HGA := A_ hga; have HGL := A_ hgl; have HGT := A_ hgt; have HL := A_ hl; have HT := A_ ht; have HR := A_ hR; have H' := A_ h; clear hC hc hX hB hga hgl hgt hl ht hR h; go_enter Tryz.func109, Tryz.ntmps109; go_wp2
 go_loopg [5, 10] k (fun kq v5 v10 w' => ∃ (i : Int) (out as1 : List Int), v10 = .int .i64 i ∧ Aside0 (f62.l0 kq l xs i out as1 = some r) ∧ Aside0 (Kd.R (Kd.int .i64) 3 w' W.heap.size (fun k => k ≠ ga ∧ k ≠ gl ∧ k ≠ gt) v5 out) ∧ Aside0 (Kd.R (Kd.int .i64) 3 w' W.heap.size (fun _ => True) (.slice (some ⟨ga, 0, none⟩) l.length ca) as1) ∧ Aside0 (w'.heap[gl]? = some (.cells #[.slice A l.length c] 78 (0, 0))) ∧ Aside0 (w'.heap[gt]? = some (.cells #[.slice (some ⟨ga, 0, none⟩) l.length ca] 42 (0, 0))) ∧ Aside0 (Below W.heap.size W w'))
 case atStart => exact ⟨0, [], ats, rfl, H', ⟨Kd.R_nil _ _ _ _ _⟩, HR, HL, HT, HB⟩
 case round =>
  clear H' HR HL HT HB; obtain ⟨i, out, as1, rfl, HA, HO, HR, HL, HT, HB⟩ := hrel
  cases gk with
  | zero => exact absurd HA.out (by simp [f62.l0])
  | succ k1 =>
  have H := HA.out; clear HA; simp only [f62.l0] at H
  by_cases h1 : i < (xs.length : Int)
  ·
   rw [if_pos h1] at H; have d1 : decide (i < (xs.length : Int)) = true := decide_eq_true h1
   by_cases h0 : 0 ≤ i
   ·
    rw [if_pos h0] at H; obtain ⟨⟨b, as2⟩, hg, H⟩ := bm_ H; have HG := A_ hg; clear hg; simp only at H; obtain ⟨ad, ea, hx⟩ := Kd.at_int HX.out i h0 h1; cases ea; have hx := (HB.out.cell (World.block_lt_of_cell? W _ hx)).trans hx; have p0 := eq_true h0; have q0 := eq_true h1; clear h0 h1
    cases b with
    | false =>
     simp only [Bool.false_eq_true, if_false] at H; have H' := A_ H; clear H
     go_wp2_with (first | (go_at_call 110; (refine (f93.calls k1 l (rd xs i) as1 false as2 W _ A c gl gt ga ca HC.out HCC.out HB.out HGA.out HL.out HT.out HR.out HG.out).mono ?_); rintro e w2 ⟨rfl, hR2, hK2⟩; have HO2 := A_ (Kd.R_grown HO.out hK2 (fun k hk e => hk.1 (Option.some.inj e))); have HR2 := A_ hR2; have HL2 := A_ ((hK2.block gl (blk_lt HL.out) (ne_types HR.out HL.out z106_)).trans HL.out); have HT2 := A_ ((hK2.block gt (blk_lt HT.out) (ne_types HR.out HT.out z106_)).trans HT.out); have HB2 := A_ (HB.out.grown hK2 (below_size HB.out) (fun _ h => by cases h; exact HGA.out)); clear hR2 hK2 HO HR HL HT HB))
     go_roundg k1
     case measure => omega
     case rel => exact ⟨_, out, as2, rfl, H', HO2, HR2, HL2, HT2, HB2⟩
    | true =>
     simp only [if_true] at H
     by_cases hlen : out.length < 17592186044416
     ·
      rw [if_pos hlen] at H; have H' := A_ H; have HLEN := A_ hlen; clear H hlen
      go_wp2_with (first | (go_at_call 110; (refine (f93.calls k1 l (rd xs i) as1 true as2 W _ A c gl gt ga ca HC.out HCC.out HB.out HGA.out HL.out HT.out HR.out HG.out).mono ?_); rintro e w2 ⟨rfl, hR2, hK2⟩; have HO2 := A_ (Kd.R_grown HO.out hK2 (fun k hk e => hk.1 (Option.some.inj e))); have HR2 := A_ hR2; have HL2 := A_ ((hK2.block gl (blk_lt HL.out) (ne_types HR.out HL.out z106_)).trans HL.out); have HT2 := A_ ((hK2.block gt (blk_lt HT.out) (ne_types HR.out HT.out z106_)).trans HT.out); have HB2 := A_ (HB.out.grown hK2 (below_size HB.out) (fun _ h => by cases h; exact HGA.out)); clear hR2 hK2 HO HR HL HT HB) | ((with_reducible refine gate_builtin (b := .append) (xs := #[.tmp 17, .tmp 19]) rfl ?_); at_builtin; refine Kd.R_append (Kd.int .i64) (w0 := W) W.heap.size rfl (.tmp 17) (.tmp 19) 42 3 (.int .i64 0) 8 rfl Tryz.underlying42 info3 rfl z106_ z161_ _ out (rd xs i) [.int .i64 (rd xs i)] (fun k => k ≠ ga ∧ k ≠ gl ∧ k ≠ gt) (fun _ => False) rfl z107_ rfl (fun _ hk => hk.elim) (fun k hk => ⟨by have := own_lt_at HR2.out; omega, by have := blk_lt HL2.out; omega, by have := blk_lt HT2.out; omega⟩) HO2.out HB2.out (below_size HB2.out) (by have := HLEN.out; omega) ?_; intro v3 w3 ho3 hb3 hg3 hat3; have HR3 := A_ (Kd.R_grown (own_only HR2.out) hg3 (fun k hk e => by have := HO2.out.1 k e.symm; omega)); have HR3 := A_ (Kd.R_mono HR3.out (fun _ _ => trivial)); have HL3 := A_ ((hg3.block gl (blk_lt HL2.out) (fun e => (HO2.out.1 gl e.symm).2.1 rfl)).trans HL2.out); have HT3 := A_ ((hg3.block gt (blk_lt HT2.out) (fun e => (HO2.out.1 gt e.symm).2.2 rfl)).trans HT2.out); have HO3 := A_ ho3; have HB3 := A_ hb3; clear ho3 hb3 hg3 hat3 HR2 HO2 HL2 HT2 HB2))
      go_roundg k1
      case measure => omega
      case rel => exact ⟨_, _, as2, rfl, H', HO3, HR3, HL3, HT3, HB3⟩
     ·
      rw [if_neg hlen] at H; cases H
   ·
    rw [if_neg h0] at H; cases H
  ·
   rw [if_neg h1] at H; have d1 : decide (i < (xs.length : Int)) = false := decide_eq_false h1; obtain rfl := sj_ H; clear h1; go_wp2; go_ret; exact ⟨_, rfl, Kd.R_mono HO.out (fun _ _ => trivial), HB.out⟩
set_option maxHeartbeats 4000000 in
theorem f62.calls (k : Nat) (A0 : Option Addr) (c0 : Nat) (l : List (List Int)) (r : List Int) (w : World) (hr0 : Kd.C (Kd.slice 3 (Kd.int .i64)) w A0 l.length l) (hc0 : l.length ≤ c0) (h : f62.f k l = some r) :
  Calls Tryz.prog 81 #[.slice A0 l.length c0] w fun e w' => ∃ v0_ : Value, e = .returned (v0_) ∧ Kd.R (Kd.int .i64) 3 w' w.heap.size (fun _ => True) v0_ r ∧ Below w.heap.size w w' := by
 have hmf : ∀ (fn : Fn) (first cap : Array Value) (w : World), (Instr.makeFunc fn first cap).run Tryz.prog w = .ok (.func fn first cap) w := fun _ _ _ _ => rfl; have HC := A_ hr0; have HCC := A_ hc0; unfold f62.f at h; clear hr0 hc0
 by_cases h0 : l.length = 0
 ·
  rw [if_pos h0] at h; obtain rfl := Option.some.inj h
  have d1 : (((l.length : Nat) : Int) == 0) = true := by simpa using h0
  clear h h0; go_enter Tryz.func81, Tryz.ntmps81; go_wp2; go_ret; exact ⟨_, rfl, Kd.R_nil _ _ _ _ _, below_alloc (Below.refl _ _) _⟩
 ·
  rw [if_neg h0] at h
  have d1 : (((l.length : Nat) : Int) == 0) = false := by simpa using h0
  obtain ⟨b, hb, h⟩ := Option.bind_eq_some_iff.mp h; have HA := A_ hb; clear hb
  cases b with
  | false =>
   simp only [Bool.false_eq_true, if_false] at h; obtain rfl := Option.some.inj h; clear h h0; go_enter Tryz.func81, Tryz.ntmps81
   go_wp2_with (go_at_call 108; (refine (f94.calls k A0 c0 l false _ (Kd.C_alloc HC.out _) HCC.out HA.out).mono ?_); rintro e w2 ⟨rfl, ⟨nd, rfl⟩⟩)
   go_ret; exact ⟨_, rfl, Kd.R_nil _ _ _ _ _, pw_below_drewN (below_alloc (Below.refl _ _) _) nd⟩
  | true =>
   simp only [if_true] at h
   by_cases hm : l.length ≤ 35184372088832
   ·
    rw [if_pos hm] at h; have HM := A_ hm; have HF := A_ h; have H0 := A_ h0; obtain ⟨ad, A1, c1, ea, hx, hc1, hrow⟩ := at_L5 HC.out 0 (Int.le_refl _) z161_; cases ea; have HROW := A_ hrow; have HC1 := A_ hc1; have z0 : decide ((0 : Int) < (l.length : Int)) = true := decide_eq_true z161_; have z1 : (0 < l.length) = True := eq_true z161_; clear hrow hc1 hm h h0; go_enter Tryz.func81, Tryz.ntmps81
    go_wp2_with (first | (go_at_call 108; (refine (f94.calls k (some ad) c0 l true _ (Kd.C_alloc HC.out _) HCC.out HA.out).mono ?_); rintro e w2 ⟨rfl, ⟨nd, rfl⟩⟩; have HL := A_ (blk_drewN (blk_new w (.cells #[.slice (some ad) l.length c0] 78 (0, 0))) nd); have HB := A_ (pw_below_drewN (below_alloc (Below.refl w.heap.size w) (.cells #[.slice (some ad) l.length c0] 78 (0, 0))) nd); generalize World.drewN _ nd = w3 at HL HB ⊢; have e1 : w3.cell? ⟨w.heap.size, 0, none⟩ = some (.slice (some ad) l.length c0) := (blk_cell HL.out 0).trans rfl) | ((with_reducible refine gate_dst (N := 14) rfl ?_); refine Kd.R_make (Kd.int .i64) w.heap.size 3 rfl (N := 14) rfl 42 _ _ rfl (l.length : Int) rfl rfl Tryz.underlying42 (.int .i64 0) 8 info3 rfl z106_ z161_ 0 (ok := fun _ => True) (okp := fun _ => True) rfl (fun _ hk => hk) trivial z161_ (by have := HM.out; omega) HB.out (below_size HB.out) ?_; intro v4 w4 ho4 hb4 hg4 hn4; rw [Int.toNat_natCast] at ho4; obtain ⟨ga, ca, ev4, hga4, _, _⟩ := Kd.R_form ho4 (by rw [List.length_replicate]; have := H0.out; omega); rw [List.length_replicate] at ev4; subst ev4; have HL4 := A_ ((hg4.block w.heap.size (blk_lt HL.out) z219_).trans HL.out); have HO4 := A_ ho4; have HB4 := A_ hb4; have HGA := A_ hga4; have e1 : w4.cell? ⟨w.heap.size, 0, none⟩ = some (.slice (some ad) l.length c0) := (blk_cell HL4.out 0).trans rfl; clear ho4 hb4 hg4 hn4 hga4 HL HB) | ((with_reducible refine gate_dst (N := 3) rfl ?_); refine box_event ?hg (N := 3) ?hd (cs := #[.slice none 0 0]) (t := 42) ?hr ?_; (case hd => rfl); (case hg => rfl); (case hr => exact z107_); intro gt hgt w5 hbox hb5; have HL5 := A_ (blk_below HL4.out hb5); have HO5 := A_ (Kd.R_below HO4.out hb5); have HB5 := A_ (below_step HB4.out hb5); have HT5 := A_ hbox; have HGT := A_ (show w.heap.size ≤ gt by rw [hgt]; exact below_size HB4.out); have e2 : w5.cell? ⟨gt, 0, none⟩ = some (.slice none 0 0) := (blk_cell hbox 0).trans rfl; have f2 := blk_frozen hbox 0; have HNE := A_ (show w.heap.size ≠ gt by have := blk_lt HL4.out; omega); clear hbox hb5 hgt HL4 HO4 HB4) | ((with_reducible refine gate_store (t := 42) (p := 3) rfl ?_); refine store_event (t := 42) (p := 3) (v := ?vo_) (w1 := w5.setCell ⟨gt, 0, none⟩ (.slice (some ⟨ga, 0, none⟩) l.length ca)) ?hg ?ho ?hn ?hr ?_; (case ho => rfl); (case hg => rfl); (case hn => rfl); (case hr => exact z107_); intro w6 hw; have HT6 := A_ (show w6.heap[gt]? = some (.cells #[.slice (some ⟨ga, 0, none⟩) l.length ca] 42 (0, 0)) by rw [hw]; exact blk_set HT5.out 0 _); have HL6 := A_ (show w6.heap[w.heap.size]? = some (.cells #[.slice (some ad) l.length c0] 78 (0, 0)) by rw [hw]; exact blk_far HL5.out (HNE.out : w.heap.size ≠ (⟨gt, 0, none⟩ : Addr).block) _); have HO6 := A_ (show Kd.R (Kd.int .i64) 3 w6 w.heap.size (fun _ => True) (.slice (some ⟨ga, 0, none⟩) l.length ca) (List.replicate l.length 0) by rw [hw]; exact Kd.R_set HO5.out HT5.out z106_ 0 _); have HB6 := A_ (show Below w.heap.size w w6 by rw [hw]; exact below_set HB5.out HGT.out); have e1 : w6.cell? ⟨w.heap.size, 0, none⟩ = some (.slice (some ad) l.length c0) := (blk_cell HL6.out 0).trans rfl; have hx6 : w6.cell? ad = some (.slice A1 (rd_L5 l 0).length c1) := (by have h_ := (HB6.out.cell (World.block_lt_of_cell? w _ hx)).trans hx; rw [show ((0 : Int)).toNat = 0 from rfl, Addr.add_zero'] at h_; exact h_); clear hw HT5 HL5 HO5 HB5) | (go_at_call 109; (refine (f112.calls k l (rd_L5 l 0) (List.replicate l.length 0) r w _ (some ad) A1 c0 c1 w.heap.size gt ga ca HC.out HCC.out HROW.out HC1.out HB6.out HGA.out (Nat.le_refl _) HGT.out HL6.out HT6.out HO6.out HF.out).mono ?_); rintro e w7 ⟨v, rfl, hR7, hB7⟩; have HR7 := A_ hR7; have HB7 := A_ hB7; clear hR7 hB7))
    go_ret; exact ⟨_, rfl, HR7.out, HB7.out⟩
   ·
    rw [if_neg hm] at h; cases h
def f108.f (k : Nat) (bl : List Int) (at_ x : Int) : Option (Bool × Int) := (f58.f k bl at_ x).bind fun g => if g = (bl.length : Int) then some (true, g) else if 0 ≤ g then (if g < (bl.length : Int) then some (rd bl g != x, g) else none) else none
set_option maxHeartbeats 4000000 in
theorem f108.calls (k : Nat) (bl : List Int) (at_ x g : Int) (b : Bool) (W w : World) (A : Option Addr) (c gb gt : Nat) (hC : Kd.C (Kd.int .i64) W A bl.length bl) (hc : bl.length ≤ c) (hB : Below W.heap.size W w) (hgt : W.heap.size ≤ gt)
  (hl : w.heap[gb]? = some (.cells #[.slice A bl.length c] 42 (0, 0))) (ht : w.heap[gt]? = some (.cells #[.int .i64 at_] 3 (0, 0))) (h : f108.f k bl at_ x = some (b, g)) :
  Calls Tryz.prog 115 #[.int .i64 x, .pointer (some ⟨gb, 0, none⟩), .pointer (some ⟨gt, 0, none⟩)] w fun e w' => e = .returned (.bool b) ∧ w'.heap[gt]? = some (.cells #[.int .i64 g] 3 (0, 0)) ∧ w.grownBy w' (some gt) := by
 have HC := A_ hC; have HB := A_ hB; have HL := A_ hl; have HT := A_ ht
 have ne : gb ≠ gt := fun e => by subst e; rw [hl] at ht; simp at ht
 have NE := A_ ne; have e1 : w.cell? ⟨gb, 0, none⟩ = some (.slice A bl.length c) := (blk_cell hl 0).trans rfl; have e2 : w.cell? ⟨gt, 0, none⟩ = some (.int .i64 at_) := (blk_cell ht 0).trans rfl; obtain ⟨g', hg, h⟩ := Option.bind_eq_some_iff.mp h; have HG := A_ hg
 have hgg : g' = g := by
  split at h
  · simp only [Option.some.injEq, Prod.mk.injEq] at h; exact h.2
  ·
   split at h
   ·
    split at h
    · simp only [Option.some.injEq, Prod.mk.injEq] at h; exact h.2
    · cases h
   · cases h
 subst hgg
 have HST : ∀ w3, Below w.heap.size w w3 → w3.frozen? ⟨gt, 0, none⟩ = false ∧ (w3.setCell ⟨gt, 0, none⟩ (.int .i64 g')).heap[gt]? = some (.cells #[.int .i64 g'] 3 (0, 0)) ∧ (w3.setCell ⟨gt, 0, none⟩ (.int .i64 g')).heap[gb]? = some (.cells #[.slice A bl.length c] 42 (0, 0)) ∧ w.grownBy (w3.setCell ⟨gt, 0, none⟩ (.int .i64 g')) (some gt) ∧ w3.cell? ⟨gt, 0, none⟩ = some (.int .i64 at_) := by
  intro w3 hb; have ht3 := blk_below ht hb; have hl3 := blk_below hl hb; exact ⟨blk_frozen ht3 0, blk_set ht3 0 _, blk_far hl3 (ne : gb ≠ (⟨gt, 0, none⟩ : Addr).block) _, Lib.grownBy_setB (Lib.grownBy_below (World.grownBy.refl w (some gt)) hb) 0 _, (blk_cell ht3 0).trans rfl⟩
 have HST := A_ HST; have HGT := A_ hgt; have HCC := A_ hc; clear hC hB hl ht hg ne hgt hc; have arm : ∀ (b2 : Bool), True := fun _ => trivial; clear arm
 by_cases h1 : g' = (bl.length : Int)
 ·
  rw [if_pos h1] at h; simp only [Option.some.injEq, Prod.mk.injEq] at h; obtain ⟨rfl, -⟩ := h
  have d1 : (g' == (bl.length : Int)) = true := by simpa using h1
  clear h1; go_enter Tryz.func115, Tryz.ntmps115
  go_wp2_with (first | (go_at_call 111; (refine (f58.calls k A c bl at_ x g' _ (Kd.C_below HC.out HB.out) HCC.out HG.out).mono ?_); rintro e w3 ⟨rfl, hb⟩; have HX3 := A_ (HST.out w3 hb); have e3 := HX3.out.2.2.2.2; have f3 := HX3.out.1; clear hb) | ((with_reducible refine gate_store (t := 3) (p := 2) rfl ?_); refine store_event (t := 3) (p := 2) (v := ?vo_) (w1 := w3.setCell ⟨gt, 0, none⟩ (.int .i64 g')) ?hg ?ho ?hn ?hr ?_; (case ho => rfl); (case hg => rfl); (case hn => rfl); (case hr => exact z107_); intro w4 hw; have HT4 := A_ (show w4.heap[gt]? = some (.cells #[.int .i64 g'] 3 (0, 0)) by rw [hw]; exact HX3.out.2.1); have HL4 := A_ (show w4.heap[gb]? = some (.cells #[.slice A bl.length c] 42 (0, 0)) by rw [hw]; exact HX3.out.2.2.1); have HK4 := A_ (show w.grownBy w4 (some gt) by rw [hw]; exact HX3.out.2.2.2.1); have HB4 := A_ (HB.out.grown HK4.out (below_size HB.out) (fun _ h => by cases h; exact HGT.out)); have e4 : w4.cell? ⟨gt, 0, none⟩ = some (.int .i64 g') := (blk_cell HT4.out 0).trans rfl; have e5 : w4.cell? ⟨gb, 0, none⟩ = some (.slice A bl.length c) := (blk_cell HL4.out 0).trans rfl; clear hw))
  go_ret; exact ⟨rfl, HT4.out, HK4.out⟩
 ·
  rw [if_neg h1] at h
  by_cases h2 : 0 ≤ g'
  ·
   rw [if_pos h2] at h
   by_cases h3 : g' < (bl.length : Int)
   ·
    rw [if_pos h3] at h; simp only [Option.some.injEq, Prod.mk.injEq] at h; obtain ⟨rfl, -⟩ := h
    have d1 : (g' == (bl.length : Int)) = false := by simpa using h1
    obtain ⟨ad, ea, hx⟩ := Kd.at_int HC.out g' h2 h3; cases ea; have p0 := eq_true h2; have q0 := eq_true h3; clear h1 h2 h3; go_enter Tryz.func115, Tryz.ntmps115
    go_wp2_with (first | (go_at_call 111; (refine (f58.calls k (some ad) c bl at_ x g' _ (Kd.C_below HC.out HB.out) HCC.out HG.out).mono ?_); rintro e w3 ⟨rfl, hb⟩; have HX3 := A_ (HST.out w3 hb); have e3 := HX3.out.2.2.2.2; have f3 := HX3.out.1; clear hb) | ((with_reducible refine gate_store (t := 3) (p := 2) rfl ?_); refine store_event (t := 3) (p := 2) (v := ?vo_) (w1 := w3.setCell ⟨gt, 0, none⟩ (.int .i64 g')) ?hg ?ho ?hn ?hr ?_; (case ho => rfl); (case hg => rfl); (case hn => rfl); (case hr => exact z107_); intro w4 hw; have HT4 := A_ (show w4.heap[gt]? = some (.cells #[.int .i64 g'] 3 (0, 0)) by rw [hw]; exact HX3.out.2.1); have HL4 := A_ (show w4.heap[gb]? = some (.cells #[.slice (some ad) bl.length c] 42 (0, 0)) by rw [hw]; exact HX3.out.2.2.1); have HK4 := A_ (show w.grownBy w4 (some gt) by rw [hw]; exact HX3.out.2.2.2.1); have HB4 := A_ (HB.out.grown HK4.out (below_size HB.out) (fun _ h => by cases h; exact HGT.out)); have e4 : w4.cell? ⟨gt, 0, none⟩ = some (.int .i64 g') := (blk_cell HT4.out 0).trans rfl; have e5 : w4.cell? ⟨gb, 0, none⟩ = some (.slice (some ad) bl.length c) := (blk_cell HL4.out 0).trans rfl; have hx4 := (HB4.out.cell (World.block_lt_of_cell? W _ hx)).trans hx; clear hw))
    go_ret; exact ⟨rfl, HT4.out, HK4.out⟩
   ·
    rw [if_neg h3] at h; cases h
  ·
   rw [if_neg h2] at h; cases h
def f81.l0 : Nat → List Int → List Int → Int → List Int → Int → Option (List Int)
 | 0, _, _, _, _, _ => none
 | k + 1, bl, xs, i, out, at_ => if i < (xs.length : Int) then (if 0 ≤ i then ((f108.f k bl at_ (rd xs i)).bind fun q => if q.1 = true then (if out.length < 17592186044416 then f81.l0 k bl xs (wrap64 (i + 1)) (out ++ [rd xs i]) q.2 else none) else f81.l0 k bl xs (wrap64 (i + 1)) out q.2) else none) else some out
def f81.f (k : Nat) (a b : List Int) : Option (List Int) := (f94.f k [a, b]).bind fun t => if t = true then f81.l0 k b a 0 [] 0 else some []
set_option maxHeartbeats 4000000 in
theorem f114.calls (k : Nat) (bl xs : List Int) (r : List Int) (W w : World) (A Ax : Option Addr) (c cx gb gt : Nat) (hC : Kd.C (Kd.int .i64) W A bl.length bl) (hc : bl.length ≤ c) (hX : Kd.C (Kd.int .i64) W Ax xs.length xs) (hcx : xs.length ≤ cx) (hB : Below W.heap.size W w)
  (hgb : W.heap.size ≤ gb) (hgt : W.heap.size ≤ gt) (hl : w.heap[gb]? = some (.cells #[.slice A bl.length c] 42 (0, 0))) (ht : w.heap[gt]? = some (.cells #[.int .i64 0] 3 (0, 0))) (h : f81.l0 k bl xs 0 [] 0 = some r) :
  Calls Tryz.prog 109 #[.slice Ax xs.length cx, .func (.func 115) #[] #[.pointer (some ⟨gb, 0, none⟩), .pointer (some ⟨gt, 0, none⟩)]] w fun e w' => ∃ v, e = .returned v ∧ Kd.R (Kd.int .i64) 3 w' W.heap.size (fun _ => True) v r ∧ Below W.heap.size W w' := by
 have HC := A_ hC; have HCC := A_ hc; have HX := A_ hX; have HB := A_ hB; have HGT := A_ hgt; have HL := A_ hl; have HT := A_ ht
 have hne : gb ≠ gt := fun e => by subst e; rw [hl] at ht; simp at ht
 have HNE := A_ hne; have H' := A_ h; clear hC hc hX hB hgb hgt hl ht h hne; go_enter Tryz.func109, Tryz.ntmps109; go_wp2
 go_loopg [5, 10] k (fun kq v5 v10 w' => ∃ (i at_ : Int) (out : List Int), v10 = .int .i64 i ∧ Aside0 (f81.l0 kq bl xs i out at_ = some r) ∧ Aside0 (Kd.R (Kd.int .i64) 3 w' W.heap.size (fun k => k ≠ gb ∧ k ≠ gt) v5 out) ∧ Aside0 (w'.heap[gb]? = some (.cells #[.slice A bl.length c] 42 (0, 0))) ∧ Aside0 (w'.heap[gt]? = some (.cells #[.int .i64 at_] 3 (0, 0))) ∧ Aside0 (Below W.heap.size W w'))
 case atStart => exact ⟨0, 0, [], rfl, H', ⟨Kd.R_nil _ _ _ _ _⟩, HL, HT, HB⟩
 case round =>
  clear H' HL HT HB; obtain ⟨i, at_, out, rfl, HA, HO, HL, HT, HB⟩ := hrel
  cases gk with
  | zero => exact absurd HA.out (by simp [f81.l0])
  | succ k1 =>
  have H := HA.out; clear HA; simp only [f81.l0] at H
  by_cases h1 : i < (xs.length : Int)
  ·
   rw [if_pos h1] at H; have d1 : decide (i < (xs.length : Int)) = true := decide_eq_true h1
   by_cases h0 : 0 ≤ i
   ·
    rw [if_pos h0] at H; obtain ⟨⟨b, at2⟩, hg, H⟩ := bm_ H; have HG := A_ hg; clear hg; simp only at H; obtain ⟨ad, ea, hx⟩ := Kd.at_int HX.out i h0 h1; cases ea; have hx := (HB.out.cell (World.block_lt_of_cell? W _ hx)).trans hx; have p0 := eq_true h0; have q0 := eq_true h1; clear h0 h1
    cases b with
    | false =>
     simp only [Bool.false_eq_true, if_false] at H; have H' := A_ H; clear H
     go_wp2_with (first | (go_at_call 115; (refine (f108.calls k1 bl at_ (rd xs i) at2 false W _ A c gb gt HC.out HCC.out HB.out HGT.out HL.out HT.out HG.out).mono ?_); rintro e w2 ⟨rfl, hT2, hK2⟩; have HO2 := A_ (Kd.R_grown HO.out hK2 (fun k hk e => hk.2 (Option.some.inj e))); have HT2 := A_ hT2; have HL2 := A_ ((hK2.block gb (blk_lt HL.out) (fun e => HNE.out (Option.some.inj e))).trans HL.out); have HB2 := A_ (HB.out.grown hK2 (below_size HB.out) (fun _ h => by cases h; exact HGT.out)); clear hT2 hK2 HO HL HT HB))
     go_roundg k1
     case measure => omega
     case rel => exact ⟨_, at2, out, rfl, H', HO2, HL2, HT2, HB2⟩
    | true =>
     simp only [if_true] at H
     by_cases hlen : out.length < 17592186044416
     ·
      rw [if_pos hlen] at H; have H' := A_ H; have HLEN := A_ hlen; clear H hlen
      go_wp2_with (first | (go_at_call 115; (refine (f108.calls k1 bl at_ (rd xs i) at2 true W _ A c gb gt HC.out HCC.out HB.out HGT.out HL.out HT.out HG.out).mono ?_); rintro e w2 ⟨rfl, hT2, hK2⟩; have HO2 := A_ (Kd.R_grown HO.out hK2 (fun k hk e => hk.2 (Option.some.inj e))); have HT2 := A_ hT2; have HL2 := A_ ((hK2.block gb (blk_lt HL.out) (fun e => HNE.out (Option.some.inj e))).trans HL.out); have HB2 := A_ (HB.out.grown hK2 (below_size HB.out) (fun _ h => by cases h; exact HGT.out)); clear hT2 hK2 HO HL HT HB) | ((with_reducible refine gate_builtin (b := .append) (xs := #[.tmp 17, .tmp 19]) rfl ?_); at_builtin; refine Kd.R_append (Kd.int .i64) (w0 := W) W.heap.size rfl (.tmp 17) (.tmp 19) 42 3 (.int .i64 0) 8 rfl Tryz.underlying42 info3 rfl z106_ z161_ _ out (rd xs i) [.int .i64 (rd xs i)] (fun k => k ≠ gb ∧ k ≠ gt) (fun _ => False) rfl z107_ rfl (fun _ hk => hk.elim) (fun k hk => ⟨by have := blk_lt HL2.out; omega, by have := blk_lt HT2.out; omega⟩) HO2.out HB2.out (below_size HB2.out) (by have := HLEN.out; omega) ?_; intro v3 w3 ho3 hb3 hg3 hat3; have HL3 := A_ ((hg3.block gb (blk_lt HL2.out) (fun e => (HO2.out.1 gb e.symm).1 rfl)).trans HL2.out); have HT3 := A_ ((hg3.block gt (blk_lt HT2.out) (fun e => (HO2.out.1 gt e.symm).2 rfl)).trans HT2.out); have HO3 := A_ ho3; have HB3 := A_ hb3; clear ho3 hb3 hg3 hat3 HO2 HL2 HT2 HB2))
      go_roundg k1
      case measure => omega
      case rel => exact ⟨_, at2, _, rfl, H', HO3, HL3, HT3, HB3⟩
     ·
      rw [if_neg hlen] at H; cases H
   ·
    rw [if_neg h0] at H; cases H
  ·
   rw [if_neg h1] at H; have d1 : decide (i < (xs.length : Int)) = false := decide_eq_false h1; obtain rfl := sj_ H; clear h1; go_wp2; go_ret; exact ⟨_, rfl, Kd.R_mono HO.out (fun _ _ => trivial), HB.out⟩
theorem new1 (W : World) (o1 o2 : Obj) : ((W.alloc o1).alloc o2).heap[W.heap.size + 1]? = some o2 := by
 have h := blk_new (W.alloc o1) o2; rw [World.size_alloc] at h; exact h
/-- a literal of two rows -/
theorem C_two {W : World} (g t : Nat) (A B : Option Addr) (c d : Nat) (xs ys : List Int) (hc : xs.length ≤ c) (hd : ys.length ≤ d) (hh : W.heap[g]? = some (.cells #[.slice A xs.length c, .slice B ys.length d] t (0, 0))) (h1 : (Kd.int .i64).C W A xs.length xs) (h2 : (Kd.int .i64).C W B ys.length ys) :
  (Kd.slice 3 (Kd.int .i64)).C W (some ⟨g, 0, none⟩) 2 ([xs, ys] : List (List Int)) := by
 refine ⟨rfl, z219_, fun _ => ⟨⟨g, 0, none⟩, rfl, fun j p hj => ?_⟩⟩; obtain ⟨hl, hp⟩ := List.getElem?_eq_some_iff.1 hj; have hl : j < 2 := hl
 have hcell : ∀ i u, (#[Value.slice A xs.length c, .slice B ys.length d] : Array Value)[i]? = some u → W.cell? ((⟨g, 0, none⟩ : Addr).add i) = some u := fun i u hi => by
  rw [show (⟨g, 0, none⟩ : Addr).add i = ⟨g, i, none⟩ from add_plain g i, cell_of_row W g i _ t (0, 0) hh]; exact hi
 rcases (show j = 0 ∨ j = 1 from z161_) with rfl | rfl
 ·
  obtain rfl : xs = p := by simpa using hp
  refine ⟨[.slice A xs.length c], rfl, ⟨A, c, rfl, hc, h1⟩, fun i u hu => ?_⟩; obtain ⟨hi, hu'⟩ := List.getElem?_eq_some_iff.1 hu
  obtain rfl : i = 0 := by simpa using hi
  subst hu'; exact hcell 0 _ rfl
 ·
  obtain rfl : ys = p := by simpa using hp
  refine ⟨[.slice B ys.length d], rfl, ⟨B, d, rfl, hd, h2⟩, fun i u hu => ?_⟩; obtain ⟨hi, hu'⟩ := List.getElem?_eq_some_iff.1 hu
  obtain rfl : i = 0 := by simpa using hi
  subst hu'; exact hcell 1 _ rfl
set_option maxHeartbeats 4000000 in
theorem f81.calls (k : Nat) (A0 : Option Addr) (c0 : Nat) (a : List Int) (A1 : Option Addr) (c1 : Nat) (bl : List Int) (r : List Int) (w : World) (hr0 : Kd.C (Kd.int .i64) w A0 a.length a) (hc0 : a.length ≤ c0) (hr1 : Kd.C (Kd.int .i64) w A1 bl.length bl) (hc1 : bl.length ≤ c1) (h : f81.f k a bl = some r) :
  Calls Tryz.prog 83 #[.slice A0 a.length c0, .slice A1 bl.length c1] w fun e w' => ∃ v0_ : Value, e = .returned (v0_) ∧ Kd.R (Kd.int .i64) 3 w' w.heap.size (fun _ => True) v0_ r ∧ Below w.heap.size w w' := by
 have hmf : ∀ (fn : Fn) (first cap : Array Value) (w : World), (Instr.makeFunc fn first cap).run Tryz.prog w = .ok (.func fn first cap) w := fun _ _ _ _ => rfl; have HC := A_ hr0; have HCC := A_ hc0; have HD := A_ hr1; have HDD := A_ hc1; unfold f81.f at h; obtain ⟨b, hb, h⟩ := Option.bind_eq_some_iff.mp h; have HA := A_ hb; clear hr0 hc0 hr1 hc1 hb
 cases b with
 | false =>
  simp only [Bool.false_eq_true, if_false] at h; obtain rfl := Option.some.inj h; clear h; go_enter Tryz.func83, Tryz.ntmps83
  go_wp2_with (go_at_call 108; (refine (f94.calls k (some ⟨w.heap.size + 1, 0, none⟩) 2 [a, bl] _ _ (C_two (w.heap.size + 1) 42 A0 A1 c0 c1 a bl HCC.out HDD.out (new1 _ _ _) (Kd.C_below HC.out (below_alloc (below_alloc (Below.refl _ _) _) _)) (Kd.C_below HD.out (below_alloc (below_alloc (Below.refl _ _) _) _))) z219_ HA.out).mono ?_); rintro e w2 ⟨rfl, ⟨nd, rfl⟩⟩; have HL := A_ (blk_drewN (blk_alloc (blk_new w (.cells #[.slice A1 bl.length c1] 42 (0, 0))) (.cells #[.slice A0 a.length c0, .slice A1 bl.length c1] 42 (0, 0))) nd); have HB := A_ (pw_below_drewN (below_alloc (below_alloc (Below.refl w.heap.size w) (.cells #[.slice A1 bl.length c1] 42 (0, 0))) (.cells #[.slice A0 a.length c0, .slice A1 bl.length c1] 42 (0, 0))) nd); generalize World.drewN _ nd = w3 at HL HB ⊢; have e1 : w3.cell? ⟨w.heap.size, 0, none⟩ = some (.slice A1 bl.length c1) := (blk_cell HL.out 0).trans rfl)
  go_ret; exact ⟨_, rfl, Kd.R_nil _ _ _ _ _, HB.out⟩
 | true =>
  simp only [if_true] at h; have HF := A_ h; clear h; go_enter Tryz.func83, Tryz.ntmps83
  go_wp2_with (first | (go_at_call 108; (refine (f94.calls k (some ⟨w.heap.size + 1, 0, none⟩) 2 [a, bl] _ _ (C_two (w.heap.size + 1) 42 A0 A1 c0 c1 a bl HCC.out HDD.out (new1 _ _ _) (Kd.C_below HC.out (below_alloc (below_alloc (Below.refl _ _) _) _)) (Kd.C_below HD.out (below_alloc (below_alloc (Below.refl _ _) _) _))) z219_ HA.out).mono ?_); rintro e w2 ⟨rfl, ⟨nd, rfl⟩⟩; have HL := A_ (blk_drewN (blk_alloc (blk_new w (.cells #[.slice A1 bl.length c1] 42 (0, 0))) (.cells #[.slice A0 a.length c0, .slice A1 bl.length c1] 42 (0, 0))) nd); have HB := A_ (pw_below_drewN (below_alloc (below_alloc (Below.refl w.heap.size w) (.cells #[.slice A1 bl.length c1] 42 (0, 0))) (.cells #[.slice A0 a.length c0, .slice A1 bl.length c1] 42 (0, 0))) nd); generalize World.drewN _ nd = w3 at HL HB ⊢; have e1 : w3.cell? ⟨w.heap.size, 0, none⟩ = some (.slice A1 bl.length c1) := (blk_cell HL.out 0).trans rfl) | (go_at_call 109; (refine (f114.calls k bl a r w _ A1 A0 c1 c0 w.heap.size w3.heap.size HD.out HDD.out HC.out HCC.out (below_alloc HB.out _) (Nat.le_refl _) (below_size HB.out) (blk_alloc HL.out _) (blk_new _ _) HF.out).mono ?_); rintro e w7 ⟨v, rfl, hR7, hB7⟩; have HR7 := A_ hR7; have HB7 := A_ hB7; clear hR7 hB7))
  go_ret; exact ⟨_, rfl, HR7.out, HB7.out⟩
end Go.Proofs.YtbbmdakdghefnaaGreatDoor.T
