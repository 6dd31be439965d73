import Derived.Test.YtaldbabkdoabkaaProg
import Derived.Test.YtaldbabkdoabkaaQV
import Derived.Test.YtaldbabkdoabkaaQA
import Derived.Test.YtaldbabkdoabkaaQJ
import Derived.Test.YtaldbabkdoabkaaQL
import Derived.Test.YtaldbabkdoabkaaQU
import Derived.Test.YtaldbabkdoabkaaQW
import Derived.Test.YtaldbabkdoabkaaKL
namespace Go.Proofs.Ytaldbabkdoabkaa.T
open Go.RowKit Go.Proofs.YtaldbabkdoabkaaW.PrintWords Go.Proofs.YtaldbabkdoabkaaW.PrintLast Go.Proofs.YtaldbabkdoabkaaW.PrintMore
attribute [local go_sem] max2_int min2_int max_two min_two max_three min_three max_four min_four   -- for this text's walks alone
set_option linter.unusedVariables false
set_option linter.unusedSimpArgs false
/-! ### the law DiskKeeps (function 6), by hand -/
open Go.Proofs.Ytaldbabkdoabkaa.Plain
theorem pair_of {α β : Type} (x : α × β) : ∃ a b, x = (a, b) := ⟨x.1, x.2, rfl⟩
set_option maxHeartbeats 8000000 in
set_option maxRecDepth 100000 in
theorem diskKeeps_calls (cap : Int) (A : Option Addr) (c : Nat) (l : List S48) (kind : Int) (a b : ByteArray) (A1 : Option Addr) (c1 : Nat) (d : List Int) (nm : ByteArray) (w : World) (hC : Kd.C k48 w A l.length l) (hc : l.length ≤ c) (hC1 : Kd.C (Kd.int .u8) w A1 d.length d) (hc1 : d.length ≤ c1) (hnm : nm.size ≤ 9223372036854775807) :
    Calls Try.prog 6 #[.agg #[.int .i64 cap, .slice A l.length c], .agg #[.int .i64 kind, .string a, .string b, .slice A1 d.length c1], .string nm] w fun e w' => e = .returned (.bool true) ∧ Below w.heap.size w w' := by
  have hu24 := Try.underlying24
  have hu39 := Try.underlying39
  have HC := Aside0.mk hC
  have HC1 := Aside0.mk hC1
  have HCC := Aside0.mk hc
  have HCC1 := Aside0.mk hc1
  have HNM := Aside0.mk hnm
  clear hC hC1 hc hc1 hnm
  go_enter Try.func6, Try.ntmps6
  go_upto_region 1 with fail
  obtain ⟨b0, b1, bb⟩ := two_blocks w (.cells #[.int .i64 cap, .slice A l.length c] 24) (.cells #[.int .i64 kind, .string a, .string b, .slice A1 d.length c1] 39)
  generalize ((w.alloc (.cells #[.int .i64 cap, .slice A l.length c] 24)).alloc (.cells #[.int .i64 kind, .string a, .string b, .slice A1 d.length c1] 39)) = wb at *
  have HB := Aside0.mk bb
  have BO := Aside0.mk b1
  clear bb b1
  generalize w.heap.size + 1 = O at *
  generalize w.heap.size = D at b0 ⊢
  have BD := Aside0.mk b0
  clear b0
  have p0 : wb.cell? ⟨D, 0, none⟩ = some (.int .i64 cap) := (blk_cell BD.out 0).trans rfl
  have p1 : wb.cell? ⟨D, 1, none⟩ = some (.slice A l.length c) := (blk_cell BD.out 1).trans rfl
  have o0 : wb.cell? ⟨O, 0, none⟩ = some (.int .i64 kind) := (blk_cell BO.out 0).trans rfl
  have o1 : wb.cell? ⟨O, 1, none⟩ = some (.string a) := (blk_cell BO.out 1).trans rfl
  have o2 : wb.cell? ⟨O, 2, none⟩ = some (.string b) := (blk_cell BO.out 2).trans rfl
  have o3 : wb.cell? ⟨O, 3, none⟩ = some (.slice A1 d.length c1) := (blk_cell BO.out 3).trans rfl
  obtain ⟨fb, hf⟩ : ∃ x, fewB l = x := ⟨_, rfl⟩
  have HF := Aside0.mk hf
  obtain ⟨fo, hfo⟩ : ∃ x, fewO a b d = x := ⟨_, rfl⟩
  have HFO := Aside0.mk hfo
  cases fb with
  | false =>
    clear hf hfo
    go_wp2_with (first | (go_at_call 10; (refine (awake_calls _).mono ?_); rintro e_ w1 ⟨rfl, hb⟩; have n0_ := Aside0.mk (below_step HB.out hb); have m0_ := Aside0.mk (blk_below BD.out hb); have m1_ := Aside0.mk (blk_below BO.out hb); replace p0 := pw_cell_below hb p0; replace p1 := pw_cell_below hb p1; replace o0 := pw_cell_below hb o0; replace o1 := pw_cell_below hb o1; replace o2 := pw_cell_below hb o2; replace o3 := pw_cell_below hb o3; clear hb HB BD BO; have HB := n0_; have BD := m0_; have BO := m1_; clear n0_ m0_ m1_) | (go_at_call 11; (refine (qfew (Kd.C_below HC.out HB.out) HCC.out HF.out).mono ?_); rintro e_ w1 ⟨rfl, hb⟩; have n0_ := Aside0.mk (below_step HB.out hb); have m0_ := Aside0.mk (blk_below BD.out hb); have m1_ := Aside0.mk (blk_below BO.out hb); replace p0 := pw_cell_below hb p0; replace p1 := pw_cell_below hb p1; replace o0 := pw_cell_below hb o0; replace o1 := pw_cell_below hb o1; replace o2 := pw_cell_below hb o2; replace o3 := pw_cell_below hb o3; clear hb HB BD BO; have HB := n0_; have BD := m0_; have BO := m1_; clear n0_ m0_ m1_) | (go_at_call 24; (refine (qfewo (Kd.C_below HC1.out HB.out) HCC1.out HFO.out).mono ?_); rintro e_ w1 ⟨rfl, hb⟩; have n0_ := Aside0.mk (below_step HB.out hb); have m0_ := Aside0.mk (blk_below BD.out hb); have m1_ := Aside0.mk (blk_below BO.out hb); replace p0 := pw_cell_below hb p0; replace p1 := pw_cell_below hb p1; replace o0 := pw_cell_below hb o0; replace o1 := pw_cell_below hb o1; replace o2 := pw_cell_below hb o2; replace o3 := pw_cell_below hb o3; clear hb HB BD BO; have HB := n0_; have BD := m0_; have BO := m1_; clear n0_ m0_ m1_))
    go_ret
    exact ⟨rfl, HB.out⟩
  | true =>
  cases fo with
  | false =>
    clear hf hfo
    go_wp2_with (first | (go_at_call 10; (refine (awake_calls _).mono ?_); rintro e_ w1 ⟨rfl, hb⟩; have n0_ := Aside0.mk (below_step HB.out hb); have m0_ := Aside0.mk (blk_below BD.out hb); have m1_ := Aside0.mk (blk_below BO.out hb); replace p0 := pw_cell_below hb p0; replace p1 := pw_cell_below hb p1; replace o0 := pw_cell_below hb o0; replace o1 := pw_cell_below hb o1; replace o2 := pw_cell_below hb o2; replace o3 := pw_cell_below hb o3; clear hb HB BD BO; have HB := n0_; have BD := m0_; have BO := m1_; clear n0_ m0_ m1_) | (go_at_call 11; (refine (qfew (Kd.C_below HC.out HB.out) HCC.out HF.out).mono ?_); rintro e_ w1 ⟨rfl, hb⟩; have n0_ := Aside0.mk (below_step HB.out hb); have m0_ := Aside0.mk (blk_below BD.out hb); have m1_ := Aside0.mk (blk_below BO.out hb); replace p0 := pw_cell_below hb p0; replace p1 := pw_cell_below hb p1; replace o0 := pw_cell_below hb o0; replace o1 := pw_cell_below hb o1; replace o2 := pw_cell_below hb o2; replace o3 := pw_cell_below hb o3; clear hb HB BD BO; have HB := n0_; have BD := m0_; have BO := m1_; clear n0_ m0_ m1_) | (go_at_call 24; (refine (qfewo (Kd.C_below HC1.out HB.out) HCC1.out HFO.out).mono ?_); rintro e_ w1 ⟨rfl, hb⟩; have n0_ := Aside0.mk (below_step HB.out hb); have m0_ := Aside0.mk (blk_below BD.out hb); have m1_ := Aside0.mk (blk_below BO.out hb); replace p0 := pw_cell_below hb p0; replace p1 := pw_cell_below hb p1; replace o0 := pw_cell_below hb o0; replace o1 := pw_cell_below hb o1; replace o2 := pw_cell_below hb o2; replace o3 := pw_cell_below hb o3; clear hb HB BD BO; have HB := n0_; have BD := m0_; have BO := m1_; clear n0_ m0_ m1_))
    go_ret
    exact ⟨rfl, HB.out⟩
  | true =>
  by_cases e1 : nm.toList = a.toList
  · have z1 : (nm.toList == a.toList) = true := beq_iff_eq.2 e1
    clear hf hfo e1
    go_wp2_with (first | (go_at_call 10; (refine (awake_calls _).mono ?_); rintro e_ w1 ⟨rfl, hb⟩; have n0_ := Aside0.mk (below_step HB.out hb); have m0_ := Aside0.mk (blk_below BD.out hb); have m1_ := Aside0.mk (blk_below BO.out hb); replace p0 := pw_cell_below hb p0; replace p1 := pw_cell_below hb p1; replace o0 := pw_cell_below hb o0; replace o1 := pw_cell_below hb o1; replace o2 := pw_cell_below hb o2; replace o3 := pw_cell_below hb o3; clear hb HB BD BO; have HB := n0_; have BD := m0_; have BO := m1_; clear n0_ m0_ m1_) | (go_at_call 11; (refine (qfew (Kd.C_below HC.out HB.out) HCC.out HF.out).mono ?_); rintro e_ w1 ⟨rfl, hb⟩; have n0_ := Aside0.mk (below_step HB.out hb); have m0_ := Aside0.mk (blk_below BD.out hb); have m1_ := Aside0.mk (blk_below BO.out hb); replace p0 := pw_cell_below hb p0; replace p1 := pw_cell_below hb p1; replace o0 := pw_cell_below hb o0; replace o1 := pw_cell_below hb o1; replace o2 := pw_cell_below hb o2; replace o3 := pw_cell_below hb o3; clear hb HB BD BO; have HB := n0_; have BD := m0_; have BO := m1_; clear n0_ m0_ m1_) | (go_at_call 24; (refine (qfewo (Kd.C_below HC1.out HB.out) HCC1.out HFO.out).mono ?_); rintro e_ w1 ⟨rfl, hb⟩; have n0_ := Aside0.mk (below_step HB.out hb); have m0_ := Aside0.mk (blk_below BD.out hb); have m1_ := Aside0.mk (blk_below BO.out hb); replace p0 := pw_cell_below hb p0; replace p1 := pw_cell_below hb p1; replace o0 := pw_cell_below hb o0; replace o1 := pw_cell_below hb o1; replace o2 := pw_cell_below hb o2; replace o3 := pw_cell_below hb o3; clear hb HB BD BO; have HB := n0_; have BD := m0_; have BO := m1_; clear n0_ m0_ m1_))
    go_ret
    exact ⟨rfl, HB.out⟩
  have z1 : (nm.toList == a.toList) = false := beq_eq_false_iff_ne.2 e1
  by_cases e2 : nm.toList = b.toList ∧ kind = 2
  · have z2 : (nm.toList == b.toList) = true := beq_iff_eq.2 e2.1
    have z3 : decide (kind = 2) = true := decide_eq_true e2.2
    have z4 : (kind == 2) = true := beq_iff_eq.2 e2.2
    clear hf hfo e1 e2
    go_wp2_with (first | (go_at_call 10; (refine (awake_calls _).mono ?_); rintro e_ w1 ⟨rfl, hb⟩; have n0_ := Aside0.mk (below_step HB.out hb); have m0_ := Aside0.mk (blk_below BD.out hb); have m1_ := Aside0.mk (blk_below BO.out hb); replace p0 := pw_cell_below hb p0; replace p1 := pw_cell_below hb p1; replace o0 := pw_cell_below hb o0; replace o1 := pw_cell_below hb o1; replace o2 := pw_cell_below hb o2; replace o3 := pw_cell_below hb o3; clear hb HB BD BO; have HB := n0_; have BD := m0_; have BO := m1_; clear n0_ m0_ m1_) | (go_at_call 11; (refine (qfew (Kd.C_below HC.out HB.out) HCC.out HF.out).mono ?_); rintro e_ w1 ⟨rfl, hb⟩; have n0_ := Aside0.mk (below_step HB.out hb); have m0_ := Aside0.mk (blk_below BD.out hb); have m1_ := Aside0.mk (blk_below BO.out hb); replace p0 := pw_cell_below hb p0; replace p1 := pw_cell_below hb p1; replace o0 := pw_cell_below hb o0; replace o1 := pw_cell_below hb o1; replace o2 := pw_cell_below hb o2; replace o3 := pw_cell_below hb o3; clear hb HB BD BO; have HB := n0_; have BD := m0_; have BO := m1_; clear n0_ m0_ m1_) | (go_at_call 24; (refine (qfewo (Kd.C_below HC1.out HB.out) HCC1.out HFO.out).mono ?_); rintro e_ w1 ⟨rfl, hb⟩; have n0_ := Aside0.mk (below_step HB.out hb); have m0_ := Aside0.mk (blk_below BD.out hb); have m1_ := Aside0.mk (blk_below BO.out hb); replace p0 := pw_cell_below hb p0; replace p1 := pw_cell_below hb p1; replace o0 := pw_cell_below hb o0; replace o1 := pw_cell_below hb o1; replace o2 := pw_cell_below hb o2; replace o3 := pw_cell_below hb o3; clear hb HB BD BO; have HB := n0_; have BD := m0_; have BO := m1_; clear n0_ m0_ m1_))
    go_ret
    exact ⟨rfl, HB.out⟩
  have law := keeps_law (cap := cap) hf hfo e1 e2
  have hs := sm_of_few hf
  obtain ⟨ha, hb_, hd⟩ := fewO_sizes hfo
  obtain ⟨r, er, hr⟩ : ∃ r er, doQ cap l kind a b d = (r, er) := pair_of _
  rw [hr] at law
  obtain ⟨hsr, lr, lf⟩ := law
  obtain ⟨q1, q2, hq⟩ : ∃ q1 q2, readQ cap l nm = (q1, q2) := pair_of _
  rw [hq] at lr
  have HSL := Aside0.mk hs
  have HA := Aside0.mk (show a.size ≤ 100 by omega)
  have HB_ := Aside0.mk (show b.size ≤ 100 by omega)
  have HR := Aside0.mk hr
  have HSR := Aside0.mk (show Sm r from hsr)
  have HQ := Aside0.mk hq
  have HQR := Aside0.mk (show readQ cap r nm = (q1, q2) from lr.1.symm)
  have HQL := Aside0.mk (show q1.length ≤ 500 from lr.2)
  have HLF := Aside0.mk lf
  clear hf hfo hs ha hb_ hd hr lr hq hsr lf
  go_upto_region 4 with (first | (go_at_call 10; (refine (awake_calls _).mono ?_); rintro e_ w1 ⟨rfl, hb⟩; have n0_ := Aside0.mk (below_step HB.out hb); have m0_ := Aside0.mk (blk_below BD.out hb); have m1_ := Aside0.mk (blk_below BO.out hb); replace p0 := pw_cell_below hb p0; replace p1 := pw_cell_below hb p1; replace o0 := pw_cell_below hb o0; replace o1 := pw_cell_below hb o1; replace o2 := pw_cell_below hb o2; replace o3 := pw_cell_below hb o3; clear hb HB BD BO; have HB := n0_; have BD := m0_; have BO := m1_; clear n0_ m0_ m1_) | (go_at_call 11; (refine (qfew (Kd.C_below HC.out HB.out) HCC.out HF.out).mono ?_); rintro e_ w1 ⟨rfl, hb⟩; have n0_ := Aside0.mk (below_step HB.out hb); have m0_ := Aside0.mk (blk_below BD.out hb); have m1_ := Aside0.mk (blk_below BO.out hb); replace p0 := pw_cell_below hb p0; replace p1 := pw_cell_below hb p1; replace o0 := pw_cell_below hb o0; replace o1 := pw_cell_below hb o1; replace o2 := pw_cell_below hb o2; replace o3 := pw_cell_below hb o3; clear hb HB BD BO; have HB := n0_; have BD := m0_; have BO := m1_; clear n0_ m0_ m1_) | (go_at_call 24; (refine (qfewo (Kd.C_below HC1.out HB.out) HCC1.out HFO.out).mono ?_); rintro e_ w1 ⟨rfl, hb⟩; have n0_ := Aside0.mk (below_step HB.out hb); have m0_ := Aside0.mk (blk_below BD.out hb); have m1_ := Aside0.mk (blk_below BO.out hb); replace p0 := pw_cell_below hb p0; replace p1 := pw_cell_below hb p1; replace o0 := pw_cell_below hb o0; replace o1 := pw_cell_below hb o1; replace o2 := pw_cell_below hb o2; replace o3 := pw_cell_below hb o3; clear hb HB BD BO; have HB := n0_; have BD := m0_; have BO := m1_; clear n0_ m0_ m1_))
  go_cut [50] (fun v50 wc => v50 = .bool false ∧ wc = w1)
  case first =>
    by_cases e3 : nm.toList = b.toList
    · have z2 : (nm.toList == b.toList) = true := beq_iff_eq.2 e3
      have e4 : ¬ kind = 2 := fun h => e2 ⟨e3, h⟩
      have z3 : decide (kind = 2) = false := decide_eq_false e4
      have z4 : (kind == 2) = false := beq_eq_false_iff_ne.2 e4
      clear e1 e2 e3 e4
      go_wp2
      go_meet
      case rel => exact ⟨rfl, rfl⟩
    · have z2 : (nm.toList == b.toList) = false := beq_eq_false_iff_ne.2 e3
      clear e1 e2 e3
      go_wp2
      go_meet
      case rel => exact ⟨rfl, rfl⟩
  case rest =>
  obtain ⟨rfl, rfl⟩ := hcut
  obtain ⟨w1, rfl⟩ : ∃ x : World, x = wc := ⟨_, rfl⟩
  clear e1 e2 z1
  go_upto_region 7 with (first | (go_at_call 25; (refine (qdo (Kd.C_below HC.out HB.out) HCC.out (Kd.C_below HC1.out HB.out) HCC1.out HSL.out HA.out HB_.out HR.out).mono ?_); rintro e_ w2 ⟨Ax, cx, rfl, HCX, HXV, hb⟩; have n0_ := Aside0.mk (below_step HB.out hb); have m0_ := Aside0.mk (blk_below BD.out hb); have m1_ := Aside0.mk (blk_below BO.out hb); replace p0 := pw_cell_below hb p0; replace p1 := pw_cell_below hb p1; replace o0 := pw_cell_below hb o0; replace o1 := pw_cell_below hb o1; replace o2 := pw_cell_below hb o2; replace o3 := pw_cell_below hb o3; clear hb HB BD BO; have HB := n0_; have BD := m0_; have BO := m1_; clear n0_ m0_ m1_))
  have HXC := Aside0.mk (Kd.V_reads' HXV.out).2.2
  have hx := below_alloc (Below.refl w2.heap.size w2) (.cells #[.int .i64 cap, .slice Ax r.length cx] 24)
  have BX := Aside0.mk (blk_new w2 (.cells #[.int .i64 cap, .slice Ax r.length cx] 24))
  generalize (w2.alloc (.cells #[.int .i64 cap, .slice Ax r.length cx] 24)) = w3 at *
  have hb := hx
  have n0_ := Aside0.mk (below_step HB.out hb)
  have m0_ := Aside0.mk (blk_below BD.out hb)
  have m1_ := Aside0.mk (blk_below BO.out hb)
  have k0_ := Aside0.mk (Kd.C_below HXC.out hb)
  replace p0 := pw_cell_below hb p0
  replace p1 := pw_cell_below hb p1
  replace o0 := pw_cell_below hb o0
  replace o1 := pw_cell_below hb o1
  replace o2 := pw_cell_below hb o2
  replace o3 := pw_cell_below hb o3
  clear hb HB BD BO HXC
  have HB := n0_
  have BD := m0_
  have BO := m1_
  have HXC := k0_
  clear n0_ m0_ m1_ k0_
  clear hx HXV
  have HX := HXC
  clear HXC
  generalize w2.heap.size = X at *
  have x0 : w3.cell? ⟨X, 0, none⟩ = some (.int .i64 cap) := (blk_cell BX.out 0).trans rfl
  have x1 : w3.cell? ⟨X, 1, none⟩ = some (.slice Ax r.length cx) := (blk_cell BX.out 1).trans rfl
  go_upto_region 8 with (first | (go_at_call 12; (refine (qread (Kd.C_below HC.out HB.out) HCC.out HSL.out HNM.out HQ.out).mono ?_); rintro e_ w4 ⟨Ap, cp, rfl, HCP, HP, hb⟩; have n0_ := Aside0.mk (below_step HB.out hb); have m0_ := Aside0.mk (blk_below BD.out hb); have m1_ := Aside0.mk (blk_below BO.out hb); have m2_ := Aside0.mk (blk_below BX.out hb); have k0_ := Aside0.mk (Kd.C_below HX.out hb); replace p0 := pw_cell_below hb p0; replace p1 := pw_cell_below hb p1; replace o0 := pw_cell_below hb o0; replace o1 := pw_cell_below hb o1; replace o2 := pw_cell_below hb o2; replace o3 := pw_cell_below hb o3; replace x0 := pw_cell_below hb x0; replace x1 := pw_cell_below hb x1; clear hb HB BD BO BX HX; have HB := n0_; have BD := m0_; have BO := m1_; have BX := m2_; have HX := k0_; clear n0_ m0_ m1_ m2_ k0_))
  go_upto_region 9 with (first | (go_at_call 12; (refine (qread HX.out HCX.out HSR.out HNM.out HQR.out).mono ?_); rintro e_ w5 ⟨Aq, cq, rfl, HCQ, HQ5, hb⟩; have n0_ := Aside0.mk (below_step HB.out hb); have m0_ := Aside0.mk (blk_below BD.out hb); have m1_ := Aside0.mk (blk_below BO.out hb); have m2_ := Aside0.mk (blk_below BX.out hb); have k0_ := Aside0.mk (Kd.C_below HX.out hb); have k1_ := Aside0.mk (Kd.C_below HP.out hb); replace p0 := pw_cell_below hb p0; replace p1 := pw_cell_below hb p1; replace o0 := pw_cell_below hb o0; replace o1 := pw_cell_below hb o1; replace o2 := pw_cell_below hb o2; replace o3 := pw_cell_below hb o3; replace x0 := pw_cell_below hb x0; replace x1 := pw_cell_below hb x1; clear hb HB BD BO BX HX HP; have HB := n0_; have BD := m0_; have BO := m1_; have BX := m2_; have HX := k0_; have HP := k1_; clear n0_ m0_ m1_ m2_ k0_ k1_))
  go_upto_region 10 with (first | (go_at_call 14; (refine (qbytes HP.out HCP.out HQ5.out HCQ.out HQL.out (decide_eq_true rfl)).mono ?_); rintro e_ w6 ⟨rfl, hb⟩; clear HP HQ5; have n0_ := Aside0.mk (below_step HB.out hb); have m0_ := Aside0.mk (blk_below BD.out hb); have m1_ := Aside0.mk (blk_below BO.out hb); have m2_ := Aside0.mk (blk_below BX.out hb); have k0_ := Aside0.mk (Kd.C_below HX.out hb); replace p0 := pw_cell_below hb p0; replace p1 := pw_cell_below hb p1; replace o0 := pw_cell_below hb o0; replace o1 := pw_cell_below hb o1; replace o2 := pw_cell_below hb o2; replace o3 := pw_cell_below hb o3; replace x0 := pw_cell_below hb x0; replace x1 := pw_cell_below hb x1; clear hb HB BD BO BX HX; have HB := n0_; have BD := m0_; have BO := m1_; have BX := m2_; have HX := k0_; clear n0_ m0_ m1_ m2_ k0_))
  obtain ⟨i, hi⟩ : ∃ i, findQ cap l nm = i := ⟨_, rfl⟩
  obtain ⟨k, hk⟩ : ∃ k, findQ cap r nm = k := ⟨_, rfl⟩
  have HI := Aside0.mk hi
  have HK := Aside0.mk hk
  have hlf := HLF.out
  rw [hi, hk] at hlf
  clear hi hk HLF
  go_upto_region 11 with (first | (go_at_call 21; (refine (qfind (Kd.C_below HC.out HB.out) HCC.out HSL.out HNM.out HI.out).mono ?_); rintro e_ w7 ⟨rfl, hb⟩; have n0_ := Aside0.mk (below_step HB.out hb); have m0_ := Aside0.mk (blk_below BD.out hb); have m1_ := Aside0.mk (blk_below BO.out hb); have m2_ := Aside0.mk (blk_below BX.out hb); have k0_ := Aside0.mk (Kd.C_below HX.out hb); replace p0 := pw_cell_below hb p0; replace p1 := pw_cell_below hb p1; replace o0 := pw_cell_below hb o0; replace o1 := pw_cell_below hb o1; replace o2 := pw_cell_below hb o2; replace o3 := pw_cell_below hb o3; replace x0 := pw_cell_below hb x0; replace x1 := pw_cell_below hb x1; clear hb HB BD BO BX HX; have HB := n0_; have BD := m0_; have BO := m1_; have BX := m2_; have HX := k0_; clear n0_ m0_ m1_ m2_ k0_))
  go_upto_region 12 with (first | (go_at_call 21; (refine (qfind HX.out HCX.out HSR.out HNM.out HK.out).mono ?_); rintro e_ w8 ⟨rfl, hb⟩; have n0_ := Aside0.mk (below_step HB.out hb); have m0_ := Aside0.mk (blk_below BD.out hb); have m1_ := Aside0.mk (blk_below BO.out hb); have m2_ := Aside0.mk (blk_below BX.out hb); have k0_ := Aside0.mk (Kd.C_below HX.out hb); replace p0 := pw_cell_below hb p0; replace p1 := pw_cell_below hb p1; replace o0 := pw_cell_below hb o0; replace o1 := pw_cell_below hb o1; replace o2 := pw_cell_below hb o2; replace o3 := pw_cell_below hb o3; replace x0 := pw_cell_below hb x0; replace x1 := pw_cell_below hb x1; clear hb HB BD BO BX HX; have HB := n0_; have BD := m0_; have BO := m1_; have BX := m2_; have HX := k0_; clear n0_ m0_ m1_ m2_ k0_))
  rcases hlf with ⟨i0, k0⟩ | ⟨ni, nk, rfl, rfl, hil, hkl, hsu⟩
  · have di : decide (i < 0) = true := decide_eq_true i0
    have dk : decide (k < 0) = true := decide_eq_true k0
    clear i0 k0
    go_wp2
    go_ret
    exact ⟨rfl, HB.out⟩
  · have di : decide ((ni : Int) < 0) = false := decide_eq_false (by omega)
    have dk : decide ((nk : Int) < 0) = false := decide_eq_false (by omega)
    have dj : decide ((l.length : Int) ≤ (ni : Int)) = false := decide_eq_false (by omega)
    have dm : decide ((r.length : Int) ≤ (nk : Int)) = false := decide_eq_false (by omega)
    have djn : decide (l.length ≤ ni) = false := decide_eq_false (by omega)
    have dmn : decide (r.length ≤ nk) = false := decide_eq_false (by omega)
    obtain ⟨gl, f1, g1, qa, _, _, s1, _, _⟩ := at_T48 (Kd.C_below HC.out HB.out) (ni : Int) (by omega) (by omega)
    subst qa
    obtain ⟨gr, f2, g2, qb, _, _, s2, _, _⟩ := at_T48 HX.out (nk : Int) (by omega) (by omega)
    subst qb
    rw [Int.toNat_natCast] at s1 s2
    rw [← hsu] at s2
    generalize (rd_T48 l (ni : Int)).f2 = su at s1 s2
    clear hsu
    go_wp2
    refine start_ (n := 22) (S := fun w' => w'.cell? ⟨D, 1, none⟩ = some (.slice (some gl) l.length c) ∧ w'.cell? ⟨(gl.add (ni * 3)).block, (gl.add (ni * 3)).off + 2, none⟩ = some (.bool su) ∧ w'.cell? ⟨X, 1, none⟩ = some (.slice (some gr) r.length cx) ∧ w'.cell? ⟨(gr.add (nk * 3)).block, (gr.add (nk * 3)).off + 2, none⟩ = some (.bool su)) (ds := []) #[false, false, false, false, false, false, false, false, false, false, false, false, false, false, false, false, false, false, false, false, false, false] (by kernel_rfl) rfl rfl ⟨p1, s1, x1, s2⟩ (fun hHeld => ?_)
    refine pure_ (i := 0) (N := some 113) (v := ?_) (a' := ?_) #[true, false, false, false, false, false, false, false, false, false, false, false, false, false, false, false, false, false, false, false, false, false] rfl rfl (by kernel_rfl) (fun _ _ _ h => h) (Or.inl ⟨by rfl, ?_⟩) ?_ ?_
    rotate_left
    · intro w'
      go_simp
      with_reducible rfl
    rotate_left
    · simp only [Act.put, List.setIfInBounds_toArray, List.set_cons_zero, List.set_cons_succ, i64_w, i32_w]
      rfl
    refine pure_ (i := 1) (N := some 114) (v := ?_) (a' := ?_) #[true, true, false, false, false, false, false, false, false, false, false, false, false, false, false, false, false, false, false, false, false, false] rfl rfl (by kernel_rfl) (fun _ _ _ h => h) (Or.inl ⟨by rfl, ?_⟩) ?_ ?_
    rotate_left
    · intro w'
      go_simp
      with_reducible rfl
    rotate_left
    · simp only [Act.put, List.setIfInBounds_toArray, List.set_cons_zero, List.set_cons_succ, i64_w, i32_w]
      rfl
    refine pure_ (i := 2) (N := some 115) (v := ?_) (a' := ?_) #[true, true, true, false, false, false, false, false, false, false, false, false, false, false, false, false, false, false, false, false, false, false] rfl rfl (by kernel_rfl) (fun _ _ _ h => h) (Or.inl ⟨by rfl, ?_⟩) ?_ ?_
    rotate_left
    · intro w'
      go_simp
      with_reducible rfl
    rotate_left
    · simp only [Act.put, List.setIfInBounds_toArray, List.set_cons_zero, List.set_cons_succ, i64_w, i32_w]
      rfl
    refine pure_ (i := 3) (N := some 116) (v := ?_) (a' := ?_) #[true, true, true, true, false, false, false, false, false, false, false, false, false, false, false, false, false, false, false, false, false, false] rfl rfl (by kernel_rfl) (fun _ _ _ h => h) (Or.inl ⟨by rfl, ?_⟩) ?_ ?_
    rotate_left
    · intro w'
      go_simp
      with_reducible rfl
    rotate_left
    · simp only [Act.put, List.setIfInBounds_toArray, List.set_cons_zero, List.set_cons_succ, i64_w, i32_w]
      rfl
    refine pure_ (i := 4) (N := some 117) (v := ?_) (a' := ?_) #[true, true, true, true, true, false, false, false, false, false, false, false, false, false, false, false, false, false, false, false, false, false] rfl rfl (by kernel_rfl) (fun _ _ _ h => h) (Or.inl ⟨by rfl, ?_⟩) ?_ ?_
    rotate_left
    · intro w'
      go_simp
      with_reducible rfl
    rotate_left
    · simp only [Act.put, List.setIfInBounds_toArray, List.set_cons_zero, List.set_cons_succ, i64_w, i32_w]
      rfl
    refine pure_ (i := 5) (N := some 118) (v := ?_) (a' := ?_) #[true, true, true, true, true, true, false, false, false, false, false, false, false, false, false, false, false, false, false, false, false, false] rfl rfl (by kernel_rfl) (fun _ _ _ h => h) (Or.inl ⟨by rfl, ?_⟩) ?_ ?_
    rotate_left
    · intro w'
      go_simp
      with_reducible rfl
    rotate_left
    · simp only [Act.put, List.setIfInBounds_toArray, List.set_cons_zero, List.set_cons_succ, i64_w, i32_w]
      rfl
    refine pure_ (i := 6) (N := some 119) (v := ?_) (a' := ?_) #[true, true, true, true, true, true, true, false, false, false, false, false, false, false, false, false, false, false, false, false, false, false] rfl rfl (by kernel_rfl) (fun _ _ _ h => h) (Or.inl ⟨by rfl, ?_⟩) ?_ ?_
    rotate_left
    · intro w'
      go_simp
      with_reducible rfl
    rotate_left
    · simp only [Act.put, List.setIfInBounds_toArray, List.set_cons_zero, List.set_cons_succ, i64_w, i32_w]
      rfl
    refine pure_ (i := 7) (N := some 120) (v := ?_) (a' := ?_) #[true, true, true, true, true, true, true, true, false, false, false, false, false, false, false, false, false, false, false, false, false, false] rfl rfl (by kernel_rfl) (fun _ _ _ h => h) (Or.inl ⟨by rfl, ?_⟩) ?_ ?_
    rotate_left
    · intro w'
      go_simp
      with_reducible rfl
    rotate_left
    · simp only [Act.put, List.setIfInBounds_toArray, List.set_cons_zero, List.set_cons_succ, i64_w, i32_w]
      rfl
    refine pure_ (i := 9) (N := some 122) (v := ?_) (a' := ?_) #[true, true, true, true, true, true, true, true, false, true, false, false, false, false, false, false, false, false, false, false, false, false] rfl rfl (by kernel_rfl) (fun _ _ _ h => h) (Or.inl ⟨by rfl, ?_⟩) ?_ ?_
    rotate_left
    · intro w'
      go_simp
      with_reducible rfl
    rotate_left
    · simp only [Act.put, List.setIfInBounds_toArray, List.set_cons_zero, List.set_cons_succ, i64_w, i32_w]
      rfl
    refine pure_ (i := 13) (N := some 126) (v := ?_) (a' := ?_) #[true, true, true, true, true, true, true, true, false, true, false, false, false, true, false, false, false, false, false, false, false, false] rfl rfl (by kernel_rfl) (fun _ _ _ h => h) (Or.inl ⟨by rfl, ?_⟩) ?_ ?_
    rotate_left
    · intro w'
      go_simp
      with_reducible rfl
    rotate_left
    · simp only [Act.put, List.setIfInBounds_toArray, List.set_cons_zero, List.set_cons_succ, i64_w, i32_w]
      rfl
    refine pure_ (i := 15) (N := some 128) (v := ?_) (a' := ?_) #[true, true, true, true, true, true, true, true, false, true, false, false, false, true, false, true, false, false, false, false, false, false] rfl rfl (by kernel_rfl) (fun _ _ _ h => h) (Or.inl ⟨by rfl, ?_⟩) ?_ ?_
    rotate_left
    · intro w'
      go_simp
      with_reducible rfl
    rotate_left
    · simp only [Act.put, List.setIfInBounds_toArray, List.set_cons_zero, List.set_cons_succ, i64_w, i32_w]
      rfl
    refine take_ (i := 8) (N := some 121) (v := ?_) (a' := ?_) #[true, true, true, true, true, true, true, true, true, true, false, false, false, true, false, true, false, false, false, false, false, false] rfl rfl (by kernel_rfl) (fun _ _ _ h => h) (Or.inl ⟨by rfl, ?_⟩) hHeld ?_ ?_
    rotate_left
    · rintro w' ⟨s0, s1, s2, s3⟩
      go_simp
      with_reducible rfl
    rotate_left
    · simp only [Act.put, List.setIfInBounds_toArray, List.set_cons_zero, List.set_cons_succ, i64_w, i32_w]
      rfl
    refine pure_ (i := 10) (N := some 123) (v := ?_) (a' := ?_) #[true, true, true, true, true, true, true, true, true, true, true, false, false, true, false, true, false, false, false, false, false, false] rfl rfl (by kernel_rfl) (fun _ _ _ h => h) (Or.inl ⟨by rfl, ?_⟩) ?_ ?_
    rotate_left
    · intro w'
      go_simp
      with_reducible rfl
    rotate_left
    · simp only [Act.put, List.setIfInBounds_toArray, List.set_cons_zero, List.set_cons_succ, i64_w, i32_w]
      rfl
    refine pure_ (i := 11) (N := some 124) (v := ?_) (a' := ?_) #[true, true, true, true, true, true, true, true, true, true, true, true, false, true, false, true, false, false, false, false, false, false] rfl rfl (by kernel_rfl) (fun _ _ _ h => h) (Or.inl ⟨by rfl, ?_⟩) ?_ ?_
    rotate_left
    · intro w'
      go_simp
      with_reducible rfl
    rotate_left
    · simp only [Act.put, List.setIfInBounds_toArray, List.set_cons_zero, List.set_cons_succ, i64_w, i32_w]
      rfl
    refine take_ (i := 12) (N := some 125) (v := ?_) (a' := ?_) #[true, true, true, true, true, true, true, true, true, true, true, true, true, true, false, true, false, false, false, false, false, false] rfl rfl (by kernel_rfl) (fun _ _ _ h => h) (Or.inl ⟨by rfl, ?_⟩) hHeld ?_ ?_
    rotate_left
    · rintro w' ⟨s0, s1, s2, s3⟩
      go_simp
      with_reducible rfl
    rotate_left
    · simp only [Act.put, List.setIfInBounds_toArray, List.set_cons_zero, List.set_cons_succ, i64_w, i32_w]
      rfl
    refine take_ (i := 14) (N := some 127) (v := ?_) (a' := ?_) #[true, true, true, true, true, true, true, true, true, true, true, true, true, true, true, true, false, false, false, false, false, false] rfl rfl (by kernel_rfl) (fun _ _ _ h => h) (Or.inl ⟨by rfl, ?_⟩) hHeld ?_ ?_
    rotate_left
    · rintro w' ⟨s0, s1, s2, s3⟩
      go_simp
      with_reducible rfl
    rotate_left
    · simp only [Act.put, List.setIfInBounds_toArray, List.set_cons_zero, List.set_cons_succ, i64_w, i32_w]
      rfl
    refine pure_ (i := 16) (N := some 129) (v := ?_) (a' := ?_) #[true, true, true, true, true, true, true, true, true, true, true, true, true, true, true, true, true, false, false, false, false, false] rfl rfl (by kernel_rfl) (fun _ _ _ h => h) (Or.inl ⟨by rfl, ?_⟩) ?_ ?_
    rotate_left
    · intro w'
      go_simp
      with_reducible rfl
    rotate_left
    · simp only [Act.put, List.setIfInBounds_toArray, List.set_cons_zero, List.set_cons_succ, i64_w, i32_w]
      rfl
    refine pure_ (i := 17) (N := some 130) (v := ?_) (a' := ?_) #[true, true, true, true, true, true, true, true, true, true, true, true, true, true, true, true, true, true, false, false, false, false] rfl rfl (by kernel_rfl) (fun _ _ _ h => h) (Or.inl ⟨by rfl, ?_⟩) ?_ ?_
    rotate_left
    · intro w'
      go_simp
      with_reducible rfl
    rotate_left
    · simp only [Act.put, List.setIfInBounds_toArray, List.set_cons_zero, List.set_cons_succ, i64_w, i32_w]
      rfl
    refine take_ (i := 18) (N := some 131) (v := ?_) (a' := ?_) #[true, true, true, true, true, true, true, true, true, true, true, true, true, true, true, true, true, true, true, false, false, false] rfl rfl (by kernel_rfl) (fun _ _ _ h => h) (Or.inl ⟨by rfl, ?_⟩) hHeld ?_ ?_
    rotate_left
    · rintro w' ⟨s0, s1, s2, s3⟩
      go_simp
      with_reducible rfl
    rotate_left
    · simp only [Act.put, List.setIfInBounds_toArray, List.set_cons_zero, List.set_cons_succ, i64_w, i32_w]
      rfl
    refine pure_ (i := 19) (N := some 132) (v := ?_) (a' := ?_) #[true, true, true, true, true, true, true, true, true, true, true, true, true, true, true, true, true, true, true, true, false, false] rfl rfl (by kernel_rfl) (fun _ _ _ h => h) (Or.inl ⟨by rfl, ?_⟩) ?_ ?_
    rotate_left
    · intro w'
      go_simp
      with_reducible rfl
    rotate_left
    · simp only [Act.put, List.setIfInBounds_toArray, List.set_cons_zero, List.set_cons_succ, i64_w, i32_w]
      rfl
    refine pure_ (i := 20) (N := some 133) (v := ?_) (a' := ?_) #[true, true, true, true, true, true, true, true, true, true, true, true, true, true, true, true, true, true, true, true, true, false] rfl rfl (by kernel_rfl) (fun _ _ _ h => h) (Or.inl ⟨by rfl, ?_⟩) ?_ ?_
    rotate_left
    · intro w'
      go_simp
      with_reducible rfl
    rotate_left
    · simp only [Act.put, List.setIfInBounds_toArray, List.set_cons_zero, List.set_cons_succ, i64_w, i32_w]
      rfl
    refine pure_ (i := 21) (N := some 6) (v := ?_) (a' := ?_) #[true, true, true, true, true, true, true, true, true, true, true, true, true, true, true, true, true, true, true, true, true, true] rfl rfl (by kernel_rfl) (fun _ _ _ h => h) (Or.inl ⟨by rfl, ?_⟩) ?_ ?_
    rotate_left
    · intro w'
      go_simp
      with_reducible rfl
    rotate_left
    · simp only [Act.put, List.setIfInBounds_toArray, List.set_cons_zero, List.set_cons_succ, i64_w, i32_w]
      rfl
    refine done_ (by kernel_rfl) ?_
    go_wp2
    go_ret
    exact ⟨rfl, below_drew HB.out⟩
end Go.Proofs.Ytaldbabkdoabkaa.T
