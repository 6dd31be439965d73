import Derived.Test.YtaldbabkdoabkaaProg
import Derived.Test.YtaldbabkdoabkaaQV
import Derived.Test.YtaldbabkdoabkaaQA
import Derived.Test.YtaldbabkdoabkaaQJ
import Derived.Test.YtaldbabkdoabkaaQL
import Derived.Test.YtaldbabkdoabkaaQU
import Derived.Test.YtaldbabkdoabkaaQW
import Derived.Test.YtaldbabkdoabkaaQY
import Derived.Test.YtaldbabkdoabkaaSL
namespace Go.Proofs.Ytaldbabkdoabkaa.T
open Go.RowKit Go.Proofs.YtaldbabkdoabkaaW.PrintWords Go.Proofs.YtaldbabkdoabkaaW.PrintLast Go.Proofs.YtaldbabkdoabkaaW.PrintMore
attribute [local go_sem] max2_int min2_int max_two min_two max_three min_three max_four min_four   -- for this text's walks alone
set_option linter.unusedVariables false
set_option linter.unusedSimpArgs false
/-! ### the law DiskSure (function 7), by hand -/
open Go.Proofs.Ytaldbabkdoabkaa.Plain
theorem pair_of2 {α β : Type} (x : α × β) : ∃ a b, x = (a, b) := ⟨x.1, x.2, rfl⟩
set_option maxHeartbeats 8000000 in
set_option maxRecDepth 100000 in
theorem diskSure_calls (cap : Int) (A : Option Addr) (c : Nat) (l : List S48) (a b : ByteArray) (A1 : Option Addr) (c1 : Nat) (d : List Int) (s : Bool) (A2 : Option Addr) (c2 : Nat) (q : List Int) (w : World) (hC : Kd.C k48 w A l.length l) (hc : l.length ≤ c) (hC1 : Kd.C (Kd.int .u8) w A1 d.length d) (hc1 : d.length ≤ c1) (hC2 : Kd.C (Kd.int .i64) w A2 q.length q) (hc2 : q.length ≤ c2) :
    Calls Try.prog 7 #[.agg #[.int .i64 cap, .slice A l.length c], .string a, .string b, .slice A1 d.length c1, .bool s, .slice A2 q.length c2] w fun e w' => e = .returned (.bool true) ∧ Below w.heap.size w w' := by
  have hu24 := Try.underlying24
  have hu39 := Try.underlying39
  have hu27 := Try.underlying27
  have HC := Aside0.mk hC
  have HC1 := Aside0.mk hC1
  have HC2 := Aside0.mk hC2
  have HCC := Aside0.mk hc
  have HCC1 := Aside0.mk hc1
  have HCC2 := Aside0.mk hc2
  clear hC hC1 hc hc1 hC2 hc2
  go_enter Try.func7, Try.ntmps7
  go_upto_region 1 with fail
  have b0 := blk_new w (.cells #[.int .i64 cap, .slice A l.length c] 24)
  have bb := below_alloc (Below.refl w.heap.size w) (.cells #[.int .i64 cap, .slice A l.length c] 24)
  generalize (w.alloc (.cells #[.int .i64 cap, .slice A l.length c] 24)) = wb at *
  have HB := Aside0.mk bb
  clear bb
  generalize w.heap.size = D at b0 ⊢
  have BD := Aside0.mk b0
  clear b0
  have p0 : wb.cell? ⟨D, 0, none⟩ = some (.int .i64 cap) := (blk_cell BD.out 0).trans rfl
  have p1 : wb.cell? ⟨D, 1, none⟩ = some (.slice A l.length c) := (blk_cell BD.out 1).trans rfl
  obtain ⟨fb, hf⟩ : ∃ x, fewB l = x := ⟨_, rfl⟩
  have HF := Aside0.mk hf
  cases fb with
  | false =>
    clear hf
    go_wp2_with (first | (go_at_call 10; (refine (awake_calls _).mono ?_); rintro e_ w1 ⟨rfl, hb⟩; have n0_ := Aside0.mk (below_step HB.out hb); have m0_ := Aside0.mk (blk_below BD.out hb); replace p0 := pw_cell_below hb p0; replace p1 := pw_cell_below hb p1; clear hb HB BD; have HB := n0_; have BD := m0_; clear n0_ m0_) | (go_at_call 11; (refine (qfew (Kd.C_below HC.out HB.out) HCC.out HF.out).mono ?_); rintro e_ w1 ⟨rfl, hb⟩; have n0_ := Aside0.mk (below_step HB.out hb); have m0_ := Aside0.mk (blk_below BD.out hb); replace p0 := pw_cell_below hb p0; replace p1 := pw_cell_below hb p1; clear hb HB BD; have HB := n0_; have BD := m0_; clear n0_ m0_))
    go_ret
    exact ⟨rfl, HB.out⟩
  | true =>
  by_cases h0 : 300 < d.length
  · have z0 : decide ((300 : Int) < (d.length : Int)) = true := decide_eq_true (by omega)
    have y0 : decide (300 < d.length) = true := decide_eq_true h0
    clear hf h0
    go_wp2_with (first | (go_at_call 10; (refine (awake_calls _).mono ?_); rintro e_ w1 ⟨rfl, hb⟩; have n0_ := Aside0.mk (below_step HB.out hb); have m0_ := Aside0.mk (blk_below BD.out hb); replace p0 := pw_cell_below hb p0; replace p1 := pw_cell_below hb p1; clear hb HB BD; have HB := n0_; have BD := m0_; clear n0_ m0_) | (go_at_call 11; (refine (qfew (Kd.C_below HC.out HB.out) HCC.out HF.out).mono ?_); rintro e_ w1 ⟨rfl, hb⟩; have n0_ := Aside0.mk (below_step HB.out hb); have m0_ := Aside0.mk (blk_below BD.out hb); replace p0 := pw_cell_below hb p0; replace p1 := pw_cell_below hb p1; clear hb HB BD; have HB := n0_; have BD := m0_; clear n0_ m0_))
    go_ret
    exact ⟨rfl, HB.out⟩
  have z0 : decide ((300 : Int) < (d.length : Int)) = false := decide_eq_false (by omega)
  have y0 : decide (300 < d.length) = false := decide_eq_false h0
  by_cases h1 : 40 < a.size
  · have z1 : decide ((40 : Int) < (a.size : Int)) = true := decide_eq_true (by omega)
    have y1 : decide (40 < a.size) = true := decide_eq_true h1
    clear hf h0 h1
    go_wp2_with (first | (go_at_call 10; (refine (awake_calls _).mono ?_); rintro e_ w1 ⟨rfl, hb⟩; have n0_ := Aside0.mk (below_step HB.out hb); have m0_ := Aside0.mk (blk_below BD.out hb); replace p0 := pw_cell_below hb p0; replace p1 := pw_cell_below hb p1; clear hb HB BD; have HB := n0_; have BD := m0_; clear n0_ m0_) | (go_at_call 11; (refine (qfew (Kd.C_below HC.out HB.out) HCC.out HF.out).mono ?_); rintro e_ w1 ⟨rfl, hb⟩; have n0_ := Aside0.mk (below_step HB.out hb); have m0_ := Aside0.mk (blk_below BD.out hb); replace p0 := pw_cell_below hb p0; replace p1 := pw_cell_below hb p1; clear hb HB BD; have HB := n0_; have BD := m0_; clear n0_ m0_))
    go_ret
    exact ⟨rfl, HB.out⟩
  have z1 : decide ((40 : Int) < (a.size : Int)) = false := decide_eq_false (by omega)
  have y1 : decide (40 < a.size) = false := decide_eq_false h1
  by_cases h2 : 40 < b.size
  · have z2 : decide ((40 : Int) < (b.size : Int)) = true := decide_eq_true (by omega)
    have y2 : decide (40 < b.size) = true := decide_eq_true h2
    clear hf h0 h1 h2
    go_wp2_with (first | (go_at_call 10; (refine (awake_calls _).mono ?_); rintro e_ w1 ⟨rfl, hb⟩; have n0_ := Aside0.mk (below_step HB.out hb); have m0_ := Aside0.mk (blk_below BD.out hb); replace p0 := pw_cell_below hb p0; replace p1 := pw_cell_below hb p1; clear hb HB BD; have HB := n0_; have BD := m0_; clear n0_ m0_) | (go_at_call 11; (refine (qfew (Kd.C_below HC.out HB.out) HCC.out HF.out).mono ?_); rintro e_ w1 ⟨rfl, hb⟩; have n0_ := Aside0.mk (below_step HB.out hb); have m0_ := Aside0.mk (blk_below BD.out hb); replace p0 := pw_cell_below hb p0; replace p1 := pw_cell_below hb p1; clear hb HB BD; have HB := n0_; have BD := m0_; clear n0_ m0_))
    go_ret
    exact ⟨rfl, HB.out⟩
  have z2 : decide ((40 : Int) < (b.size : Int)) = false := decide_eq_false (by omega)
  have y2 : decide (40 < b.size) = false := decide_eq_false h2
  by_cases h3 : 100 < q.length
  · have z3 : decide ((100 : Int) < (q.length : Int)) = true := decide_eq_true (by omega)
    have y3 : decide (100 < q.length) = true := decide_eq_true h3
    clear hf h0 h1 h2 h3
    go_wp2_with (first | (go_at_call 10; (refine (awake_calls _).mono ?_); rintro e_ w1 ⟨rfl, hb⟩; have n0_ := Aside0.mk (below_step HB.out hb); have m0_ := Aside0.mk (blk_below BD.out hb); replace p0 := pw_cell_below hb p0; replace p1 := pw_cell_below hb p1; clear hb HB BD; have HB := n0_; have BD := m0_; clear n0_ m0_) | (go_at_call 11; (refine (qfew (Kd.C_below HC.out HB.out) HCC.out HF.out).mono ?_); rintro e_ w1 ⟨rfl, hb⟩; have n0_ := Aside0.mk (below_step HB.out hb); have m0_ := Aside0.mk (blk_below BD.out hb); replace p0 := pw_cell_below hb p0; replace p1 := pw_cell_below hb p1; clear hb HB BD; have HB := n0_; have BD := m0_; clear n0_ m0_))
    go_ret
    exact ⟨rfl, HB.out⟩
  have z3 : decide ((100 : Int) < (q.length : Int)) = false := decide_eq_false (by omega)
  have y3 : decide (100 < q.length) = false := decide_eq_false h3
  obtain ⟨h70, hx⟩ := few_sm hf
  have hs := sm_of_few hf
  have ok0 : ∀ x ∈ l, Okf x := fun x hxx => hx x hxx
  obtain ⟨r1, e1, hr1⟩ : ∃ r e, doQ cap l 0 a ⟨#[]⟩ d = (r, e) := pair_of2 _
  have s1 := sure_small (cap := cap) (kind := 0) (a := a) (b := ⟨#[]⟩) (d := d) h70 ok0 (by omega) (by decide) (by omega)
  have t1 := sure1 (cap := cap) (l := l) (a := a) (b := ⟨#[]⟩) (d := d)
  rw [hr1] at s1 t1
  have HA := Aside0.mk (show a.size ≤ 40 by omega)
  have HBS := Aside0.mk (show b.size ≤ 40 by omega)
  have HDL := Aside0.mk (show d.length ≤ 300 by omega)
  have HS0 := Aside0.mk hs
  have HR1 := Aside0.mk hr1
  have HO1 := Aside0.mk (show r1.length ≤ 71 ∧ ∀ x ∈ r1, Okf x from s1)
  have HT1 := Aside0.mk t1
  clear h70 hx hs ok0 hr1 s1 t1 hf h0 h1 h2 h3
  go_upto_region 6 with (first | (go_at_call 10; (refine (awake_calls _).mono ?_); rintro e_ w1 ⟨rfl, hb⟩; have n0_ := Aside0.mk (below_step HB.out hb); have m0_ := Aside0.mk (blk_below BD.out hb); replace p0 := pw_cell_below hb p0; replace p1 := pw_cell_below hb p1; clear hb HB BD; have HB := n0_; have BD := m0_; clear n0_ m0_) | (go_at_call 11; (refine (qfew (Kd.C_below HC.out HB.out) HCC.out HF.out).mono ?_); rintro e_ w1 ⟨rfl, hb⟩; have n0_ := Aside0.mk (below_step HB.out hb); have m0_ := Aside0.mk (blk_below BD.out hb); replace p0 := pw_cell_below hb p0; replace p1 := pw_cell_below hb p1; clear hb HB BD; have HB := n0_; have BD := m0_; clear n0_ m0_) | (go_at_call 25; (refine (qdo (Kd.C_below HC.out HB.out) HCC.out (Kd.C_below HC1.out HB.out) HCC1.out HS0.out (by have := HA.out; omega) (by decide) HR1.out).mono ?_); rintro e_ w2 ⟨Ax, cx, rfl, HCX, HXV, hb⟩; have n0_ := Aside0.mk (below_step HB.out hb); have m0_ := Aside0.mk (blk_below BD.out hb); replace p0 := pw_cell_below hb p0; replace p1 := pw_cell_below hb p1; clear hb HB BD; have HB := n0_; have BD := m0_; clear n0_ m0_))
  clear z0 y0 z1 y1 z2 y2 z3 y3
  have HGXW := Aside0.mk (show w.heap.size ≤ w2.heap.size from below_size HB.out)
  have HXC := Aside0.mk (Kd.V_reads' HXV.out).2.2
  have hb := below_alloc (Below.refl w2.heap.size w2) (.cells #[.int .i64 cap, .slice Ax r1.length cx] 24)
  have BX := Aside0.mk (blk_new w2 (.cells #[.int .i64 cap, .slice Ax r1.length cx] 24))
  generalize (w2.alloc (.cells #[.int .i64 cap, .slice Ax r1.length cx] 24)) = w3 at *
  have HX := Aside0.mk (Kd.C_below HXC.out hb)
  have n0_ := Aside0.mk (below_step HB.out hb)
  have m0_ := Aside0.mk (blk_below BD.out hb)
  replace p0 := pw_cell_below hb p0
  replace p1 := pw_cell_below hb p1
  clear hb HB BD
  have HB := n0_
  have BD := m0_
  clear n0_ m0_
  clear HXC HXV
  generalize w2.heap.size = X at *
  have x0 : w3.cell? ⟨X, 0, none⟩ = some (.int .i64 cap) := (blk_cell BX.out 0).trans rfl
  have x1 : w3.cell? ⟨X, 1, none⟩ = some (.slice Ax r1.length cx) := (blk_cell BX.out 1).trans rfl
  by_cases he1 : e1 = 0
  · subst he1
    obtain ⟨hz, hn⟩ := HT1.out rfl
    have HZ := Aside0.mk hz
    have HN := Aside0.mk hn
    clear hz hn HT1
    cases s with
    | false =>
      obtain ⟨r3, e3, hr3⟩ : ∃ r e, doQ cap r1 2 a b [] = (r, e) := pair_of2 _
      have t3 := sure3 (b := b) (e := []) HN.out HZ.out
      have s3 := sure_small (cap := cap) (kind := 2) (a := a) (b := b) (d := []) HO1.out.1 HO1.out.2 HA.out HBS.out (by decide)
      rw [hr3] at t3 s3
      have HR3 := Aside0.mk hr3
      have HO3 := Aside0.mk (show r3.length ≤ 72 ∧ ∀ x ∈ r3, Okf x from s3)
      have HSZ := Aside0.mk (sm_okf (by have := HO1.out.1; omega) HO1.out.2 : Sm r1)
      obtain ⟨t3a, t3b⟩ := t3
      have HT3 := Aside0.mk t3b
      clear t3b hr3 s3
      go_upto_region 14 with (first | (go_at_call 25; (refine (qdo (d := []) (A1 := none) (c1 := 0) HX.out HCX.out (Kd.C_nil _ _) (Nat.le_refl _) HSZ.out (by have := HA.out; omega) (by have := HBS.out; omega) HR3.out).mono ?_); rintro e_ w7 ⟨A3, c3, rfl, HC3, HV3, hb⟩; have n0_ := Aside0.mk (below_step HB.out hb); have m0_ := Aside0.mk (blk_below BD.out hb); have m1_ := Aside0.mk (blk_below BX.out hb); have k0_ := Aside0.mk (Kd.C_below HX.out hb); replace p0 := pw_cell_below hb p0; replace p1 := pw_cell_below hb p1; replace x0 := pw_cell_below hb x0; replace x1 := pw_cell_below hb x1; clear hb HB BD BX HX; have HB := n0_; have BD := m0_; have BX := m1_; have HX := k0_; clear n0_ m0_ m1_ k0_))
      have HGZW := Aside0.mk (show w.heap.size ≤ w7.heap.size from below_size HB.out)
      have H3C := Aside0.mk (Kd.V_reads' HV3.out).2.2
      have hb := below_alloc (Below.refl w7.heap.size w7) (.cells #[.int .i64 cap, .slice A3 r3.length c3] 24)
      have BZ := Aside0.mk (blk_new w7 (.cells #[.int .i64 cap, .slice A3 r3.length c3] 24))
      generalize (w7.alloc (.cells #[.int .i64 cap, .slice A3 r3.length c3] 24)) = w8 at *
      have H3 := Aside0.mk (Kd.C_below H3C.out hb)
      have n0_ := Aside0.mk (below_step HB.out hb)
      have m0_ := Aside0.mk (blk_below BD.out hb)
      have m1_ := Aside0.mk (blk_below BX.out hb)
      have k0_ := Aside0.mk (Kd.C_below HX.out hb)
      replace p0 := pw_cell_below hb p0
      replace p1 := pw_cell_below hb p1
      replace x0 := pw_cell_below hb x0
      replace x1 := pw_cell_below hb x1
      clear hb HB BD BX HX
      have HB := n0_
      have BD := m0_
      have BX := m1_
      have HX := k0_
      clear n0_ m0_ m1_ k0_
      clear H3C HV3
      generalize w7.heap.size = Z at *
      have z0 : w8.cell? ⟨Z, 0, none⟩ = some (.int .i64 cap) := (blk_cell BZ.out 0).trans rfl
      have z1 : w8.cell? ⟨Z, 1, none⟩ = some (.slice A3 r3.length c3) := (blk_cell BZ.out 1).trans rfl
      by_cases he3 : e3 = 0
      · subst he3
        have hz3 := HT3.out rfl
        obtain ⟨g1, n, gn, g2⟩ := sure4 hz3 q
        obtain ⟨r4, hr4⟩ : ∃ r, crashQ cap r3 q = r := ⟨_, rfl⟩
        have s4 := crashQ_small (cap := cap) q HO3.out.2
        rw [hr4] at g1 g2 s4
        have HR4 := Aside0.mk hr4
        have HS3 := Aside0.mk (sm_okf (by have := HO3.out.1; omega) HO3.out.2 : Sm r3)
        have HS4 := Aside0.mk (sm_okf (by have := HO3.out.1; have := s4.1; omega) s4.2 : Sm r4)
        clear hz3 t3a HT3 s4 hr4
        clear g1
        obtain ⟨pp, hpp⟩ : ∃ x, d.take n = x := ⟨_, rfl⟩
        have hpl : pp.length = n := by rw [← hpp, List.length_take]; omega
        rw [hpp] at g2
        subst hpl
        have HPP := Aside0.mk hpp
        have HGN := Aside0.mk gn
        obtain ⟨e5, he5, hq5⟩ : ∃ e5 : Int, (e5 = 0 ∨ e5 = 2) ∧ readQ cap r4 b = (pp, e5) := by
          rcases g2 with g | g
          · exact ⟨0, .inl rfl, g⟩
          · exact ⟨2, .inr rfl, g⟩
        have HQ := Aside0.mk hq5
        have le1 : decide ((pp.length : Int) ≤ (d.length : Int)) = true := decide_eq_true (by omega)
        have le2 : decide (pp.length ≤ d.length) = true := decide_eq_true gn
        obtain ⟨bq, hbq⟩ : ∃ x, decide (pp = d) = x := ⟨_, rfl⟩
        have HBQ := Aside0.mk hbq
        have hp1 : (pp.length : Int) ≤ (c1 : Int) := by have := HCC1.out; omega
        clear g2 hq5 hbq hpp
        go_upto_region 17 with (first | (go_at_call 27; (refine (qcrash H3.out HC3.out (Kd.C_below HC2.out HB.out) HCC2.out HS3.out HR4.out).mono ?_); rintro e_ w9 ⟨A4, c4, rfl, HC4, H4, hb⟩; have n0_ := Aside0.mk (below_step HB.out hb); have m0_ := Aside0.mk (blk_below BD.out hb); have m1_ := Aside0.mk (blk_below BX.out hb); have m2_ := Aside0.mk (blk_below BZ.out hb); have k0_ := Aside0.mk (Kd.C_below HX.out hb); have k1_ := Aside0.mk (Kd.C_below H3.out hb); replace p0 := pw_cell_below hb p0; replace p1 := pw_cell_below hb p1; replace x0 := pw_cell_below hb x0; replace x1 := pw_cell_below hb x1; replace z0 := pw_cell_below hb z0; replace z1 := pw_cell_below hb z1; clear hb HB BD BX BZ HX H3; have HB := n0_; have BD := m0_; have BX := m1_; have BZ := m2_; have HX := k0_; have H3 := k1_; clear n0_ m0_ m1_ m2_ k0_ k1_) | (go_at_call 12; (refine (qread H4.out HC4.out HS4.out (by have := HBS.out; omega) HQ.out).mono ?_); rintro e_ w10 ⟨A5, c5, rfl, HC5, H5, hb⟩; have n0_ := Aside0.mk (below_step HB.out hb); have m0_ := Aside0.mk (blk_below BD.out hb); have m1_ := Aside0.mk (blk_below BX.out hb); have m2_ := Aside0.mk (blk_below BZ.out hb); have k0_ := Aside0.mk (Kd.C_below HX.out hb); have k1_ := Aside0.mk (Kd.C_below H3.out hb); have k2_ := Aside0.mk (Kd.C_below H4.out hb); replace p0 := pw_cell_below hb p0; replace p1 := pw_cell_below hb p1; replace x0 := pw_cell_below hb x0; replace x1 := pw_cell_below hb x1; replace z0 := pw_cell_below hb z0; replace z1 := pw_cell_below hb z1; clear hb HB BD BX BZ HX H3 H4; have HB := n0_; have BD := m0_; have BX := m1_; have BZ := m2_; have HX := k0_; have H3 := k1_; have H4 := k2_; clear n0_ m0_ m1_ m2_ k0_ k1_ k2_))
        go_upto_region 18 with (first | (go_at_call 14; (refine (qbytes H5.out HC5.out (Kd.C_below HC1.out HB.out) HCC1.out (by have := HDL.out; have := HGN.out; omega) HBQ.out).mono ?_); rintro e_ w11 ⟨rfl, hb⟩; have n0_ := Aside0.mk (below_step HB.out hb); have m0_ := Aside0.mk (blk_below BD.out hb); have m1_ := Aside0.mk (blk_below BX.out hb); have m2_ := Aside0.mk (blk_below BZ.out hb); have k0_ := Aside0.mk (Kd.C_below HX.out hb); have k1_ := Aside0.mk (Kd.C_below H3.out hb); have k2_ := Aside0.mk (Kd.C_below H4.out hb); have k3_ := Aside0.mk (Kd.C_below H5.out hb); replace p0 := pw_cell_below hb p0; replace p1 := pw_cell_below hb p1; replace x0 := pw_cell_below hb x0; replace x1 := pw_cell_below hb x1; replace z0 := pw_cell_below hb z0; replace z1 := pw_cell_below hb z1; clear hb HB BD BX BZ HX H3 H4 H5; have HB := n0_; have BD := m0_; have BX := m1_; have BZ := m2_; have HX := k0_; have H3 := k1_; have H4 := k2_; have H5 := k3_; clear n0_ m0_ m1_ m2_ k0_ k1_ k2_ k3_))
        have HTK := Aside0.mk (show Kd.C (Kd.int .u8) w A1 pp.length pp from by have h := Kd.C_take HC1.out HGN.out; rw [HPP.out] at h; exact h)
        go_upto_region 21 with (first | (go_at_call 14; (refine (qbytes H5.out HC5.out (Kd.C_below HTK.out HB.out) (Nat.le_trans HGN.out HCC1.out) (by have := HDL.out; have := HGN.out; omega) (decide_eq_true rfl)).mono ?_); rintro e_ w12 ⟨rfl, hb⟩; have n0_ := Aside0.mk (below_step HB.out hb); have m0_ := Aside0.mk (blk_below BD.out hb); have m1_ := Aside0.mk (blk_below BX.out hb); have m2_ := Aside0.mk (blk_below BZ.out hb); have k0_ := Aside0.mk (Kd.C_below HX.out hb); have k1_ := Aside0.mk (Kd.C_below H3.out hb); have k2_ := Aside0.mk (Kd.C_below H4.out hb); have k3_ := Aside0.mk (Kd.C_below H5.out hb); replace p0 := pw_cell_below hb p0; replace p1 := pw_cell_below hb p1; replace x0 := pw_cell_below hb x0; replace x1 := pw_cell_below hb x1; replace z0 := pw_cell_below hb z0; replace z1 := pw_cell_below hb z1; clear hb HB BD BX BZ HX H3 H4 H5; have HB := n0_; have BD := m0_; have BX := m1_; have BZ := m2_; have HX := k0_; have H3 := k1_; have H4 := k2_; have H5 := k3_; clear n0_ m0_ m1_ m2_ k0_ k1_ k2_ k3_))
        rcases he5 with rfl | rfl
        · go_wp2
          go_ret
          exact ⟨rfl, HB.out⟩
        · go_wp2
          go_ret
          exact ⟨rfl, HB.out⟩
      · obtain rfl := t3a.resolve_left he3
        clear he3
        go_wp2
        go_ret
        exact ⟨rfl, HB.out⟩
    | true =>
      obtain ⟨r2, e2, hr2⟩ : ∃ r e, doQ cap r1 1 a ⟨#[]⟩ [] = (r, e) := pair_of2 _
      have t2 := sure2 (b := ⟨#[]⟩) (e := []) HN.out HZ.out
      have s2 := sure_small (cap := cap) (kind := 1) (a := a) (b := ⟨#[]⟩) (d := []) HO1.out.1 HO1.out.2 HA.out (by decide) (by decide)
      rw [hr2] at t2 s2
      obtain ⟨t2a, t2b⟩ := t2
      replace t2a : e2 = 0 := t2a
      subst t2a
      have HR2 := Aside0.mk hr2
      have n0_ := Aside0.mk (show Has cap r2 a d true from t2b)
      clear HZ
      have HZ := n0_
      have HO2 := Aside0.mk (show r2.length ≤ 72 ∧ ∀ x ∈ r2, Okf x from s2)
      have HS1 := Aside0.mk (sm_okf (by have := HO1.out.1; omega) HO1.out.2 : Sm r1)
      clear hr2 t2b s2 n0_
      have HX3 := Aside0.mk (blk_lt BX.out)
      go_upto_region 10 with (first | (go_at_call 25; (refine (qdo (d := []) (A1 := none) (c1 := 0) HX.out HCX.out (Kd.C_nil _ _) (Nat.le_refl _) HS1.out (by have := HA.out; omega) (by decide) HR2.out).mono ?_); rintro e_ w4 ⟨Ay, cy, rfl, HCY, HYV, hb⟩; have n0_ := Aside0.mk (below_step HB.out hb); have m0_ := Aside0.mk (blk_below BD.out hb); have m1_ := Aside0.mk (blk_below BX.out hb); have k0_ := Aside0.mk (Kd.C_below HX.out hb); replace p0 := pw_cell_below hb p0; replace p1 := pw_cell_below hb p1; replace x0 := pw_cell_below hb x0; replace x1 := pw_cell_below hb x1; clear hb HB BD BX HX; have HB := n0_; have BD := m0_; have BX := m1_; have HX := k0_; clear n0_ m0_ m1_ k0_))
      have HYW := Aside0.mk (Kd.V_alloc HYV.out (.cells #[.int .i64 cap, .slice Ay r2.length cy] 24))
      have HGYW := Aside0.mk (show w.heap.size ≤ w4.heap.size from below_size HB.out)
      have HYC := Aside0.mk (Kd.V_reads' HYV.out).2.2
      have hb := below_alloc (Below.refl w4.heap.size w4) (.cells #[.int .i64 cap, .slice Ay r2.length cy] 24)
      have BY := Aside0.mk (blk_new w4 (.cells #[.int .i64 cap, .slice Ay r2.length cy] 24))
      generalize (w4.alloc (.cells #[.int .i64 cap, .slice Ay r2.length cy] 24)) = w5 at *
      have HY := Aside0.mk (Kd.C_below HYC.out hb)
      have n0_ := Aside0.mk (below_step HB.out hb)
      have m0_ := Aside0.mk (blk_below BD.out hb)
      have m1_ := Aside0.mk (blk_below BX.out hb)
      have k0_ := Aside0.mk (Kd.C_below HX.out hb)
      replace p0 := pw_cell_below hb p0
      replace p1 := pw_cell_below hb p1
      replace x0 := pw_cell_below hb x0
      replace x1 := pw_cell_below hb x1
      clear hb HB BD BX HX
      have HB := n0_
      have BD := m0_
      have BX := m1_
      have HX := k0_
      clear n0_ m0_ m1_ k0_
      clear HYC HYV
      generalize w4.heap.size = Y at *
      have y0 : w5.cell? ⟨Y, 0, none⟩ = some (.int .i64 cap) := (blk_cell BY.out 0).trans rfl
      have y1 : w5.cell? ⟨Y, 1, none⟩ = some (.slice Ay r2.length cy) := (blk_cell BY.out 1).trans rfl
      have f0 := blk_frozen BX.out 0
      have f1 := blk_frozen BX.out 1
      go_upto_region 13 with fail
      have hV6 := Kd.V_far (p := ⟨X, 1, none⟩) (Kd.V_far (p := ⟨X, 0, none⟩) HYW.out (fun k hk => by have h1 := HX3.out; have h2 : _ ≤ k := hk; show k ≠ X; omega) (.int .i64 cap)) (fun k hk => by have h1 := HX3.out; have h2 : _ ≤ k := hk; show k ≠ X; omega) (.slice Ay r2.length cy)
      have H6 := Aside0.mk (Kd.V_reads' hV6).2.2
      have B6 := Aside0.mk (show ((w5.setCell ⟨X, 0, none⟩ (.int .i64 cap)).setCell ⟨X, 1, none⟩ (.slice Ay r2.length cy)).heap[X]? = some (.cells #[.int .i64 cap, .slice Ay r2.length cy] 24 (0, 0)) from blk_set (blk_set BX.out 0 _) 1 _)
      have HB6 := Aside0.mk (below_set (j := 1) (v := .slice Ay r2.length cy) (below_set (j := 0) (v := .int .i64 cap) HB.out HGXW.out) HGXW.out)
      clear hV6 HYW BD p0 p1 x0 x1 y0 y1 f0 f1 HB BX BY HY HX
      generalize ((w5.setCell ⟨X, 0, none⟩ (.int .i64 cap)).setCell ⟨X, 1, none⟩ (.slice Ay r2.length cy)) = w6 at *
      have HB := HB6
      have BX := B6
      clear HB6 B6
      have x0 : w6.cell? ⟨X, 0, none⟩ = some (.int .i64 cap) := (blk_cell BX.out 0).trans rfl
      have x1 : w6.cell? ⟨X, 1, none⟩ = some (.slice Ay r2.length cy) := (blk_cell BX.out 1).trans rfl
      obtain ⟨r3, e3, hr3⟩ : ∃ r e, doQ cap r2 2 a b [] = (r, e) := pair_of2 _
      have t3 := sure3 (b := b) (e := []) HN.out HZ.out
      have s3 := sure_small (cap := cap) (kind := 2) (a := a) (b := b) (d := []) HO2.out.1 HO2.out.2 HA.out HBS.out (by decide)
      rw [hr3] at t3 s3
      have HR3 := Aside0.mk hr3
      have HO3 := Aside0.mk (show r3.length ≤ 73 ∧ ∀ x ∈ r3, Okf x from s3)
      have HSZ := Aside0.mk (sm_okf (by have := HO2.out.1; omega) HO2.out.2 : Sm r2)
      obtain ⟨t3a, t3b⟩ := t3
      have HT3 := Aside0.mk t3b
      clear t3b hr3 s3
      go_upto_region 14 with (first | (go_at_call 25; (refine (qdo (d := []) (A1 := none) (c1 := 0) H6.out HCY.out (Kd.C_nil _ _) (Nat.le_refl _) HSZ.out (by have := HA.out; omega) (by have := HBS.out; omega) HR3.out).mono ?_); rintro e_ w7 ⟨A3, c3, rfl, HC3, HV3, hb⟩; have n0_ := Aside0.mk (below_step HB.out hb); have m0_ := Aside0.mk (blk_below BX.out hb); have k0_ := Aside0.mk (Kd.C_below H6.out hb); replace x0 := pw_cell_below hb x0; replace x1 := pw_cell_below hb x1; clear hb HB BX H6; have HB := n0_; have BX := m0_; have H6 := k0_; clear n0_ m0_ k0_))
      have HGZW := Aside0.mk (show w.heap.size ≤ w7.heap.size from below_size HB.out)
      have H3C := Aside0.mk (Kd.V_reads' HV3.out).2.2
      have hb := below_alloc (Below.refl w7.heap.size w7) (.cells #[.int .i64 cap, .slice A3 r3.length c3] 24)
      have BZ := Aside0.mk (blk_new w7 (.cells #[.int .i64 cap, .slice A3 r3.length c3] 24))
      generalize (w7.alloc (.cells #[.int .i64 cap, .slice A3 r3.length c3] 24)) = w8 at *
      have H3 := Aside0.mk (Kd.C_below H3C.out hb)
      have n0_ := Aside0.mk (below_step HB.out hb)
      have m0_ := Aside0.mk (blk_below BX.out hb)
      have k0_ := Aside0.mk (Kd.C_below H6.out hb)
      replace x0 := pw_cell_below hb x0
      replace x1 := pw_cell_below hb x1
      clear hb HB BX H6
      have HB := n0_
      have BX := m0_
      have H6 := k0_
      clear n0_ m0_ k0_
      clear H3C HV3
      generalize w7.heap.size = Z at *
      have z0 : w8.cell? ⟨Z, 0, none⟩ = some (.int .i64 cap) := (blk_cell BZ.out 0).trans rfl
      have z1 : w8.cell? ⟨Z, 1, none⟩ = some (.slice A3 r3.length c3) := (blk_cell BZ.out 1).trans rfl
      by_cases he3 : e3 = 0
      · subst he3
        have hz3 := HT3.out rfl
        obtain ⟨g1, n, gn, g2⟩ := sure4 hz3 q
        obtain ⟨r4, hr4⟩ : ∃ r, crashQ cap r3 q = r := ⟨_, rfl⟩
        have s4 := crashQ_small (cap := cap) q HO3.out.2
        rw [hr4] at g1 g2 s4
        have HR4 := Aside0.mk hr4
        have HS3 := Aside0.mk (sm_okf (by have := HO3.out.1; omega) HO3.out.2 : Sm r3)
        have HS4 := Aside0.mk (sm_okf (by have := HO3.out.1; have := s4.1; omega) s4.2 : Sm r4)
        clear hz3 t3a HT3 s4 hr4
        have HQ := Aside0.mk (g1 rfl)
        clear g1 gn g2
        go_upto_region 17 with (first | (go_at_call 27; (refine (qcrash H3.out HC3.out (Kd.C_below HC2.out HB.out) HCC2.out HS3.out HR4.out).mono ?_); rintro e_ w9 ⟨A4, c4, rfl, HC4, H4, hb⟩; have n0_ := Aside0.mk (below_step HB.out hb); have m0_ := Aside0.mk (blk_below BX.out hb); have m1_ := Aside0.mk (blk_below BZ.out hb); have k0_ := Aside0.mk (Kd.C_below H6.out hb); have k1_ := Aside0.mk (Kd.C_below H3.out hb); replace x0 := pw_cell_below hb x0; replace x1 := pw_cell_below hb x1; replace z0 := pw_cell_below hb z0; replace z1 := pw_cell_below hb z1; clear hb HB BX BZ H6 H3; have HB := n0_; have BX := m0_; have BZ := m1_; have H6 := k0_; have H3 := k1_; clear n0_ m0_ m1_ k0_ k1_) | (go_at_call 12; (refine (qread H4.out HC4.out HS4.out (by have := HBS.out; omega) HQ.out).mono ?_); rintro e_ w10 ⟨A5, c5, rfl, HC5, H5, hb⟩; have n0_ := Aside0.mk (below_step HB.out hb); have m0_ := Aside0.mk (blk_below BX.out hb); have m1_ := Aside0.mk (blk_below BZ.out hb); have k0_ := Aside0.mk (Kd.C_below H6.out hb); have k1_ := Aside0.mk (Kd.C_below H3.out hb); have k2_ := Aside0.mk (Kd.C_below H4.out hb); replace x0 := pw_cell_below hb x0; replace x1 := pw_cell_below hb x1; replace z0 := pw_cell_below hb z0; replace z1 := pw_cell_below hb z1; clear hb HB BX BZ H6 H3 H4; have HB := n0_; have BX := m0_; have BZ := m1_; have H6 := k0_; have H3 := k1_; have H4 := k2_; clear n0_ m0_ m1_ k0_ k1_ k2_))
        go_wp2_with (first | (go_at_call 14; (refine (qbytes H5.out HC5.out (Kd.C_below HC1.out HB.out) HCC1.out (by have := HDL.out; omega) (decide_eq_true rfl)).mono ?_); rintro e_ w11 ⟨rfl, hb⟩; have n0_ := Aside0.mk (below_step HB.out hb); have m0_ := Aside0.mk (blk_below BX.out hb); have m1_ := Aside0.mk (blk_below BZ.out hb); have k0_ := Aside0.mk (Kd.C_below H6.out hb); have k1_ := Aside0.mk (Kd.C_below H3.out hb); have k2_ := Aside0.mk (Kd.C_below H4.out hb); have k3_ := Aside0.mk (Kd.C_below H5.out hb); replace x0 := pw_cell_below hb x0; replace x1 := pw_cell_below hb x1; replace z0 := pw_cell_below hb z0; replace z1 := pw_cell_below hb z1; clear hb HB BX BZ H6 H3 H4 H5; have HB := n0_; have BX := m0_; have BZ := m1_; have H6 := k0_; have H3 := k1_; have H4 := k2_; have H5 := k3_; clear n0_ m0_ m1_ k0_ k1_ k2_ k3_))
        go_ret
        exact ⟨rfl, HB.out⟩
      · obtain rfl := t3a.resolve_left he3
        clear he3
        go_wp2
        go_ret
        exact ⟨rfl, HB.out⟩
  · have ze : (e1 == 0) = false := beq_eq_false_iff_ne.2 he1
    have ze1 : (e1 != 0) = true := by rw [bne, ze]; rfl
    have ze2 : decide (e1 = 0) = false := decide_eq_false he1
    clear he1 HT1
    go_wp2
    go_ret
    exact ⟨rfl, HB.out⟩
end Go.Proofs.Ytaldbabkdoabkaa.T
