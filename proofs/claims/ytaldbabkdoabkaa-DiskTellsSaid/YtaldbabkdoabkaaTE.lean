import Derived.Test.YtaldbabkdoabkaaProg
import Derived.Test.YtaldbabkdoabkaaQV
import Derived.Test.YtaldbabkdoabkaaQA
import Derived.Test.YtaldbabkdoabkaaQJ
import Derived.Test.YtaldbabkdoabkaaQL
import Derived.Test.YtaldbabkdoabkaaQU
import Derived.Test.YtaldbabkdoabkaaTR
namespace Go.Proofs.Ytaldbabkdoabkaa.T
open Go.RowKit Go.Proofs.YtaldbabkdoabkaaW.PrintWords Go.Proofs.YtaldbabkdoabkaaW.PrintLast Go.Proofs.YtaldbabkdoabkaaW.PrintMore
attribute [local go_sem] max2_int min2_int max_two min_two max_three min_three max_four min_four   -- for this text's walks alone
set_option linter.unusedVariables false
set_option linter.unusedSimpArgs false
/-! ### the law DiskTells (function 3), by hand -/
open Go.Proofs.Ytaldbabkdoabkaa.Plain
theorem pair_of3 {α β : Type} (x : α × β) : ∃ a b, x = (a, b) := ⟨x.1, x.2, rfl⟩
theorem read_len3 {cap : Int} {l : List S48} {nm : ByteArray} (hs : Sm l) : (readQ cap l nm).1.length ≤ 500 := by
  unfold readQ
  split
  · split
    · rename_i hx
      have := (hs.2 _ (atX_mem hx)).1
      show (atX nm l).f1.length ≤ 500
      omega
    · exact Nat.zero_le _
  · exact Nat.zero_le _
set_option maxHeartbeats 8000000 in
set_option maxRecDepth 100000 in
theorem diskTells_calls (cap : Int) (A : Option Addr) (c : Nat) (l : List S48) (cap2 : Int) (A2 : Option Addr) (c2 : Nat) (m : List S48) (a : ByteArray) (room : Int) (w : World) (hC : Kd.C k48 w A l.length l) (hc : l.length ≤ c) (hC2 : Kd.C k48 w A2 m.length m) (hc2 : m.length ≤ c2) :
    Calls Try.prog 3 #[.agg #[.int .i64 cap, .slice A l.length c], .agg #[.int .i64 cap2, .slice A2 m.length c2], .string a, .int .i64 room] w fun e w' => e = .returned (.bool true) ∧ Below w.heap.size w w' := by
  have hu24 := Try.underlying24
  have HC := Aside0.mk hC
  have HC2 := Aside0.mk hC2
  have HCC := Aside0.mk hc
  have HCC2 := Aside0.mk hc2
  clear hC hc hC2 hc2
  go_enter Try.func3, Try.ntmps3
  go_upto_region 1 with fail
  obtain ⟨b0, b1, bb⟩ := two_blocks w (.cells #[.int .i64 cap, .slice A l.length c] 24) (.cells #[.int .i64 cap2, .slice A2 m.length c2] 24)
  generalize ((w.alloc (.cells #[.int .i64 cap, .slice A l.length c] 24)).alloc (.cells #[.int .i64 cap2, .slice A2 m.length c2] 24)) = wb at *
  have HB := Aside0.mk bb
  clear bb
  generalize w.heap.size + 1 = E at *
  generalize w.heap.size = D at b0 ⊢
  have p0 : wb.cell? ⟨D, 0, none⟩ = some (.int .i64 cap) := (blk_cell b0 0).trans rfl
  have p1 : wb.cell? ⟨D, 1, none⟩ = some (.slice A l.length c) := (blk_cell b0 1).trans rfl
  have q0 : wb.cell? ⟨E, 0, none⟩ = some (.int .i64 cap2) := (blk_cell b1 0).trans rfl
  have q1 : wb.cell? ⟨E, 1, none⟩ = some (.slice A2 m.length c2) := (blk_cell b1 1).trans rfl
  clear b0 b1
  obtain ⟨fb, hf⟩ : ∃ x, fewB l = x := ⟨_, rfl⟩
  have HF := Aside0.mk hf
  obtain ⟨fc, hf2⟩ : ∃ x, fewB m = x := ⟨_, rfl⟩
  have HF2 := Aside0.mk hf2
  cases fb with
  | false =>
    clear hf hf2
    go_upto_region 3 with (first | (go_at_call 10; (refine (awake_calls _).mono ?_); rintro e_ w1 ⟨rfl, hb⟩; have n0_ := Aside0.mk (below_step HB.out hb); replace p0 := pw_cell_below hb p0; replace p1 := pw_cell_below hb p1; replace q0 := pw_cell_below hb q0; replace q1 := pw_cell_below hb q1; clear hb HB; have HB := n0_; clear n0_ ) | (go_at_call 11; (refine (qfew (Kd.C_below HC.out HB.out) HCC.out HF.out).mono ?_); rintro e_ w1 ⟨rfl, hb⟩; have n0_ := Aside0.mk (below_step HB.out hb); replace p0 := pw_cell_below hb p0; replace p1 := pw_cell_below hb p1; replace q0 := pw_cell_below hb q0; replace q1 := pw_cell_below hb q1; clear hb HB; have HB := n0_; clear n0_ ))
    go_wp2_with (first | (go_at_call 11; (refine (qfew (Kd.C_below HC2.out HB.out) HCC2.out HF2.out).mono ?_); rintro e_ w1 ⟨rfl, hb⟩; have n0_ := Aside0.mk (below_step HB.out hb); replace p0 := pw_cell_below hb p0; replace p1 := pw_cell_below hb p1; replace q0 := pw_cell_below hb q0; replace q1 := pw_cell_below hb q1; clear hb HB; have HB := n0_; clear n0_ ))
    go_ret
    exact ⟨rfl, HB.out⟩
  | true =>
  cases fc with
  | false =>
    clear hf hf2
    go_upto_region 3 with (first | (go_at_call 10; (refine (awake_calls _).mono ?_); rintro e_ w1 ⟨rfl, hb⟩; have n0_ := Aside0.mk (below_step HB.out hb); replace p0 := pw_cell_below hb p0; replace p1 := pw_cell_below hb p1; replace q0 := pw_cell_below hb q0; replace q1 := pw_cell_below hb q1; clear hb HB; have HB := n0_; clear n0_ ) | (go_at_call 11; (refine (qfew (Kd.C_below HC.out HB.out) HCC.out HF.out).mono ?_); rintro e_ w1 ⟨rfl, hb⟩; have n0_ := Aside0.mk (below_step HB.out hb); replace p0 := pw_cell_below hb p0; replace p1 := pw_cell_below hb p1; replace q0 := pw_cell_below hb q0; replace q1 := pw_cell_below hb q1; clear hb HB; have HB := n0_; clear n0_ ))
    go_wp2_with (first | (go_at_call 11; (refine (qfew (Kd.C_below HC2.out HB.out) HCC2.out HF2.out).mono ?_); rintro e_ w1 ⟨rfl, hb⟩; have n0_ := Aside0.mk (below_step HB.out hb); replace p0 := pw_cell_below hb p0; replace p1 := pw_cell_below hb p1; replace q0 := pw_cell_below hb q0; replace q1 := pw_cell_below hb q1; clear hb HB; have HB := n0_; clear n0_ ))
    go_ret
    exact ⟨rfl, HB.out⟩
  | true =>
  by_cases h0 : 40 < a.size
  · have z0 : decide ((40 : Int) < (a.size : Int)) = true := decide_eq_true (by omega)
    have y0 : decide (40 < a.size) = true := decide_eq_true h0
    clear hf hf2 h0
    go_upto_region 3 with (first | (go_at_call 10; (refine (awake_calls _).mono ?_); rintro e_ w1 ⟨rfl, hb⟩; have n0_ := Aside0.mk (below_step HB.out hb); replace p0 := pw_cell_below hb p0; replace p1 := pw_cell_below hb p1; replace q0 := pw_cell_below hb q0; replace q1 := pw_cell_below hb q1; clear hb HB; have HB := n0_; clear n0_ ) | (go_at_call 11; (refine (qfew (Kd.C_below HC.out HB.out) HCC.out HF.out).mono ?_); rintro e_ w1 ⟨rfl, hb⟩; have n0_ := Aside0.mk (below_step HB.out hb); replace p0 := pw_cell_below hb p0; replace p1 := pw_cell_below hb p1; replace q0 := pw_cell_below hb q0; replace q1 := pw_cell_below hb q1; clear hb HB; have HB := n0_; clear n0_ ))
    go_wp2_with (first | (go_at_call 11; (refine (qfew (Kd.C_below HC2.out HB.out) HCC2.out HF2.out).mono ?_); rintro e_ w1 ⟨rfl, hb⟩; have n0_ := Aside0.mk (below_step HB.out hb); replace p0 := pw_cell_below hb p0; replace p1 := pw_cell_below hb p1; replace q0 := pw_cell_below hb q0; replace q1 := pw_cell_below hb q1; clear hb HB; have HB := n0_; clear n0_ ))
    go_ret
    exact ⟨rfl, HB.out⟩
  have z0 : decide ((40 : Int) < (a.size : Int)) = false := decide_eq_false (by omega)
  have y0 : decide (40 < a.size) = false := decide_eq_false h0
  have HS := Aside0.mk (sm_of_few hf)
  have HS2 := Aside0.mk (sm_of_few hf2)
  have HA := Aside0.mk (show a.size ≤ 9223372036854775807 by omega)
  obtain ⟨r1, e1, hr1⟩ : ∃ r e, readQ cap l a = (r, e) := pair_of3 _
  have HR := Aside0.mk hr1
  have HRL := Aside0.mk (show r1.length ≤ 500 by have := read_len3 (cap := cap) (nm := a) HS.out; rw [hr1] at this; exact this)
  obtain ⟨mr, hmr⟩ : ∃ x, mayB room [] = x := ⟨_, rfl⟩
  have HMR := Aside0.mk hmr
  obtain ⟨md, hmd⟩ : ∃ x, mayB cap l = x := ⟨_, rfl⟩
  have HMD := Aside0.mk hmd
  obtain ⟨ud, hud⟩ : ∃ x, usedQ cap l = x := ⟨_, rfl⟩
  have HUD := Aside0.mk hud
  obtain ⟨fd, hfd⟩ : ∃ x, findQ cap l a = x := ⟨_, rfl⟩
  have HFD := Aside0.mk hfd
  obtain ⟨sd, hsd⟩ : ∃ x, (decide (cap = cap2) && decide (l = m)) = x := ⟨_, rfl⟩
  have HSD := Aside0.mk hsd
  obtain ⟨rr, hrr⟩ : ∃ x : Int, (if mr = true then room else 0) = x := ⟨_, rfl⟩
  have HRR := Aside0.mk hrr
  clear hf hf2 h0 hr1 hmr hmd hud hfd hsd hrr
  go_upto_region 3 with (first | (go_at_call 10; (refine (awake_calls _).mono ?_); rintro e_ w1 ⟨rfl, hb⟩; have n0_ := Aside0.mk (below_step HB.out hb); replace p0 := pw_cell_below hb p0; replace p1 := pw_cell_below hb p1; replace q0 := pw_cell_below hb q0; replace q1 := pw_cell_below hb q1; clear hb HB; have HB := n0_; clear n0_ ) | (go_at_call 11; (refine (qfew (Kd.C_below HC.out HB.out) HCC.out HF.out).mono ?_); rintro e_ w1 ⟨rfl, hb⟩; have n0_ := Aside0.mk (below_step HB.out hb); replace p0 := pw_cell_below hb p0; replace p1 := pw_cell_below hb p1; replace q0 := pw_cell_below hb q0; replace q1 := pw_cell_below hb q1; clear hb HB; have HB := n0_; clear n0_ ))
  go_upto_region 6 with (first | (go_at_call 11; (refine (qfew (Kd.C_below HC2.out HB.out) HCC2.out HF2.out).mono ?_); rintro e_ w1 ⟨rfl, hb⟩; have n0_ := Aside0.mk (below_step HB.out hb); replace p0 := pw_cell_below hb p0; replace p1 := pw_cell_below hb p1; replace q0 := pw_cell_below hb q0; replace q1 := pw_cell_below hb q1; clear hb HB; have HB := n0_; clear n0_ ))
  clear z0 y0
  go_upto_region 7 with (first | (go_at_call 12; (refine (qread (Kd.C_below HC.out HB.out) HCC.out HS.out HA.out HR.out).mono ?_); rintro e_ w1 ⟨A5, c5, rfl, HC5, H5, hb⟩; have n0_ := Aside0.mk (below_step HB.out hb); replace p0 := pw_cell_below hb p0; replace p1 := pw_cell_below hb p1; replace q0 := pw_cell_below hb q0; replace q1 := pw_cell_below hb q1; clear hb HB; have HB := n0_; clear n0_ ))
  go_upto_region 8 with (first | (go_at_call 13; (refine (rread (Kd.C_below HC.out HB.out) HCC.out HS.out HR.out).mono ?_); rintro e_ w1 ⟨A6, c6, rfl, HC6, H6, hb⟩; have n0_ := Aside0.mk (below_step HB.out hb); have k0_ := Aside0.mk (Kd.C_below H5.out hb); replace p0 := pw_cell_below hb p0; replace p1 := pw_cell_below hb p1; replace q0 := pw_cell_below hb q0; replace q1 := pw_cell_below hb q1; clear hb HB H5; have HB := n0_; have H5 := k0_; clear n0_ k0_))
  go_upto_region 9 with (first | (go_at_call 14; (refine (qbytes H5.out HC5.out H6.out HC6.out HRL.out (decide_eq_true rfl)).mono ?_); rintro e_ w1 ⟨rfl, hb⟩; clear H5 H6; have n0_ := Aside0.mk (below_step HB.out hb); replace p0 := pw_cell_below hb p0; replace p1 := pw_cell_below hb p1; replace q0 := pw_cell_below hb q0; replace q1 := pw_cell_below hb q1; clear hb HB; have HB := n0_; clear n0_ ))
  go_upto_region 10 with (first | (go_at_call 15; (refine (qnew HMR.out HRR.out).mono ?_); rintro e_ w2 ⟨An, cn, rfl, HNV, hb⟩; have n0_ := Aside0.mk (below_step HB.out hb); replace p0 := pw_cell_below hb p0; replace p1 := pw_cell_below hb p1; replace q0 := pw_cell_below hb q0; replace q1 := pw_cell_below hb q1; clear hb HB; have HB := n0_; clear n0_ ))
  have hb := below_alloc (Below.refl w2.heap.size w2) (.cells #[.int .i64 rr, .slice An 0 cn] 24)
  have bn := blk_new w2 (.cells #[.int .i64 rr, .slice An 0 cn] 24)
  generalize (w2.alloc (.cells #[.int .i64 rr, .slice An 0 cn] 24)) = w3 at *
  have HN := Aside0.mk (Kd.C_below HNV.out hb)
  have n0_ := Aside0.mk (below_step HB.out hb)
  replace p0 := pw_cell_below hb p0
  replace p1 := pw_cell_below hb p1
  replace q0 := pw_cell_below hb q0
  replace q1 := pw_cell_below hb q1
  clear hb HB
  have HB := n0_
  clear n0_ 
  clear HNV
  generalize w2.heap.size = N at *
  have n0 : w3.cell? ⟨N, 0, none⟩ = some (.int .i64 rr) := (blk_cell bn 0).trans rfl
  have n1 : w3.cell? ⟨N, 1, none⟩ = some (.slice An 0 cn) := (blk_cell bn 1).trans rfl
  clear bn
  go_upto_region 11 with (first | (go_at_call 16; (refine (rmay (l := []) (Kd.C_nil _ _) (Nat.le_refl _) sm_nil HMR.out).mono ?_); rintro e_ w4 ⟨rfl, hb⟩; have n0_ := Aside0.mk (below_step HB.out hb); have k0_ := Aside0.mk (Kd.C_below HN.out hb); replace p0 := pw_cell_below hb p0; replace p1 := pw_cell_below hb p1; replace q0 := pw_cell_below hb q0; replace q1 := pw_cell_below hb q1; replace n0 := pw_cell_below hb n0; replace n1 := pw_cell_below hb n1; clear hb HB HN; have HB := n0_; have HN := k0_; clear n0_ k0_))
  go_cut [20] (fun v20 wc => v20 = .bool true ∧ Aside0 (Below w4.heap.size w4 wc))
  case first =>
    cases mr with
    | true =>
      obtain rfl : room = rr := HRR.out
      have hbb := Below.refl w4.heap.size w4
      go_wp2_with (first | (go_at_call 17; (refine (rsame (l := []) (m := []) HN.out (Nat.zero_le _) (Kd.C_nil _ _) (Nat.le_refl _) sm_nil (b := true) (by simp)).mono ?_); rintro e_ w5 ⟨rfl, hb⟩; replace hbb := below_step hbb hb; clear hb))
      go_meet
      case rel => exact ⟨rfl, ⟨hbb⟩⟩
    | false =>
      obtain rfl : 0 = rr := HRR.out
      have hbb := Below.refl w4.heap.size w4
      go_wp2_with (first | (go_at_call 17; (refine (rsame (l := []) (m := []) HN.out (Nat.zero_le _) (Kd.C_nil _ _) (Nat.le_refl _) sm_nil (b := true) (by simp)).mono ?_); rintro e_ w5 ⟨rfl, hb⟩; replace hbb := below_step hbb hb; clear hb))
      go_meet
      case rel => exact ⟨rfl, ⟨hbb⟩⟩
  case rest =>
  obtain ⟨rfl, ⟨hb⟩⟩ := hcut
  obtain ⟨w5, rfl⟩ : ∃ x : World, x = wc := ⟨_, rfl⟩
  clear n0 n1 HN
  have n0_ := Aside0.mk (below_step HB.out hb)
  replace p0 := pw_cell_below hb p0
  replace p1 := pw_cell_below hb p1
  replace q0 := pw_cell_below hb q0
  replace q1 := pw_cell_below hb q1
  clear hb HB
  have HB := n0_
  clear n0_ 
  have t0 : (md == md) = true := beq_self_eq_true md
  have t1 : (ud == ud) = true := beq_self_eq_true ud
  have t2 : (fd == fd) = true := beq_self_eq_true fd
  have t3 : (sd == sd) = true := beq_self_eq_true sd
  have t4 : (mr == mr) = true := beq_self_eq_true mr
  have t5 : (e1 == e1) = true := beq_self_eq_true e1
  have HW := Aside0.mk (Below.refl w5.heap.size w5)
  go_upto_region 12 with fail
  refine start_ (n := 22) (S := fun w' => w'.cell? ⟨D, 0, none⟩ = some (.int .i64 cap) ∧ w'.cell? ⟨D, 1, none⟩ = some (.slice A l.length c)) (ds := []) #[false, false, false, false, false, false, false, false, false, false, false, false, false, false, false, false, false, false, false, false, false, false] (by kernel_rfl) rfl rfl ⟨(pw_cell_below (below_drew (Below.refl _ _)) p0), (pw_cell_below (below_drew (Below.refl _ _)) p1)⟩ (fun hHeld => ?_)
  refine take_ (i := 0) (N := some 82) (v := ?_) (a' := ?_) #[true, false, false, false, false, false, false, false, false, false, false, false, false, false, false, false, false, false, false, false, false, false] rfl rfl (by kernel_rfl) (fun _ _ _ h => h) (Or.inl ⟨by rfl, ?_⟩) hHeld ?_ ?_
  rotate_left
  · rintro w' ⟨s0, s1⟩
    go_simp
    with_reducible rfl
  rotate_left
  · simp only [Act.put, List.setIfInBounds_toArray, List.set_cons_zero, List.set_cons_succ, i64_w, i32_w]
    rfl
  refine take_ (i := 2) (N := some 84) (v := ?_) (a' := ?_) #[true, false, true, false, false, false, false, false, false, false, false, false, false, false, false, false, false, false, false, false, false, false] rfl rfl (by kernel_rfl) (fun _ _ _ h => h) (Or.inl ⟨by rfl, ?_⟩) hHeld ?_ ?_
  rotate_left
  · rintro w' ⟨s0, s1⟩
    go_simp
    with_reducible rfl
  rotate_left
  · simp only [Act.put, List.setIfInBounds_toArray, List.set_cons_zero, List.set_cons_succ, i64_w, i32_w]
    rfl
  refine one_ (i := 1) (N := some 83) #[true, true, true, false, false, false, false, false, false, false, false, false, false, false, false, false, false, false, false, false, false, false] rfl rfl (by kernel_rfl) (by decide) (fun K hK => ?_)
  refine goes_ Try.func18 (by kernel_rfl) rfl #[.agg #[.int .i64 cap, .slice A l.length c]] (by rfl) rfl rfl (by simp only [List.map_toArray, List.map_cons, List.map_nil]; rfl) ?_
  with_reducible refine (qmay (Kd.C_below HC.out (below_step HB.out (by repeat (first | exact HW.out | (with_reducible refine below_drew ?_))))) HCC.out HS.out HMD.out).mono ?_
  rintro e_ v18 ⟨rfl, hb18⟩
  refine ⟨_, rfl, ?_⟩
  have m_ := Aside0.mk (show Below w5.heap.size w5 v18 from below_step (by repeat (first | exact HW.out | (with_reducible refine below_drew ?_))) hb18)
  clear HW
  have HW := m_
  clear m_
  refine hK.out _ _ ⟨pw_cell_below hb18 hHeld.1, pw_cell_below hb18 hHeld.2⟩ (fun hHeld => ?_)
  clear hK K
  refine norm_ (a' := ?_) ?_ ?_
  rotate_left
  · show Act.put _ (some 83) _ = _
    simp only [Act.put, List.setIfInBounds_toArray, List.set_cons_zero, List.set_cons_succ, i64_w, i32_w]
    rfl
  refine one_ (i := 3) (N := some 85) #[true, true, true, true, false, false, false, false, false, false, false, false, false, false, false, false, false, false, false, false, false, false] rfl rfl (by kernel_rfl) (by decide) (fun K hK => ?_)
  refine goes_ Try.func16 (by kernel_rfl) rfl #[.agg #[.int .i64 cap, .slice A l.length c]] (by rfl) rfl rfl (by simp only [List.map_toArray, List.map_cons, List.map_nil]; rfl) ?_
  with_reducible refine (rmay (Kd.C_below HC.out (below_step HB.out (by repeat (first | exact HW.out | (with_reducible refine below_drew ?_))))) HCC.out HS.out HMD.out).mono ?_
  rintro e_ v16 ⟨rfl, hb16⟩
  refine ⟨_, rfl, ?_⟩
  have m_ := Aside0.mk (show Below w5.heap.size w5 v16 from below_step (by repeat (first | exact HW.out | (with_reducible refine below_drew ?_))) hb16)
  clear HW
  have HW := m_
  clear m_
  refine hK.out _ _ ⟨pw_cell_below hb16 hHeld.1, pw_cell_below hb16 hHeld.2⟩ (fun hHeld => ?_)
  clear hK K
  refine norm_ (a' := ?_) ?_ ?_
  rotate_left
  · show Act.put _ (some 85) _ = _
    simp only [Act.put, List.setIfInBounds_toArray, List.set_cons_zero, List.set_cons_succ, i64_w, i32_w]
    rfl
  refine pure_ (i := 4) (N := some 86) (v := ?_) (a' := ?_) #[true, true, true, true, true, false, false, false, false, false, false, false, false, false, false, false, false, false, false, false, false, false] rfl rfl (by kernel_rfl) (fun _ _ _ h => h) (Or.inl ⟨by rfl, ?_⟩) ?_ ?_
  rotate_left
  · intro w'
    go_simp
    with_reducible rfl
  rotate_left
  · simp only [Act.put, List.setIfInBounds_toArray, List.set_cons_zero, List.set_cons_succ, i64_w, i32_w]
    rfl
  refine pure_ (i := 5) (N := some 87) (v := ?_) (a' := ?_) #[true, true, true, true, true, true, false, false, false, false, false, false, false, false, false, false, false, false, false, false, false, false] rfl rfl (by kernel_rfl) (fun _ _ _ h => h) (Or.inl ⟨by rfl, ?_⟩) ?_ ?_
  rotate_left
  · intro w'
    go_simp
    with_reducible rfl
  rotate_left
  · simp only [Act.put, List.setIfInBounds_toArray, List.set_cons_zero, List.set_cons_succ, i64_w, i32_w]
    rfl
  refine take_ (i := 6) (N := some 88) (v := ?_) (a' := ?_) #[true, true, true, true, true, true, true, false, false, false, false, false, false, false, false, false, false, false, false, false, false, false] rfl rfl (by kernel_rfl) (fun _ _ _ h => h) (Or.inl ⟨by rfl, ?_⟩) hHeld ?_ ?_
  rotate_left
  · rintro w' ⟨s0, s1⟩
    go_simp
    with_reducible rfl
  rotate_left
  · simp only [Act.put, List.setIfInBounds_toArray, List.set_cons_zero, List.set_cons_succ, i64_w, i32_w]
    rfl
  refine take_ (i := 8) (N := some 90) (v := ?_) (a' := ?_) #[true, true, true, true, true, true, true, false, true, false, false, false, false, false, false, false, false, false, false, false, false, false] rfl rfl (by kernel_rfl) (fun _ _ _ h => h) (Or.inl ⟨by rfl, ?_⟩) hHeld ?_ ?_
  rotate_left
  · rintro w' ⟨s0, s1⟩
    go_simp
    with_reducible rfl
  rotate_left
  · simp only [Act.put, List.setIfInBounds_toArray, List.set_cons_zero, List.set_cons_succ, i64_w, i32_w]
    rfl
  refine one_ (i := 7) (N := some 89) #[true, true, true, true, true, true, true, true, true, false, false, false, false, false, false, false, false, false, false, false, false, false] rfl rfl (by kernel_rfl) (by decide) (fun K hK => ?_)
  refine goes_ Try.func19 (by kernel_rfl) rfl #[.agg #[.int .i64 cap, .slice A l.length c]] (by rfl) rfl rfl (by simp only [List.map_toArray, List.map_cons, List.map_nil]; rfl) ?_
  with_reducible refine (qused (Kd.C_below HC.out (below_step HB.out (by repeat (first | exact HW.out | (with_reducible refine below_drew ?_))))) HCC.out HS.out HUD.out).mono ?_
  rintro e_ v19 ⟨rfl, hb19⟩
  refine ⟨_, rfl, ?_⟩
  have m_ := Aside0.mk (show Below w5.heap.size w5 v19 from below_step (by repeat (first | exact HW.out | (with_reducible refine below_drew ?_))) hb19)
  clear HW
  have HW := m_
  clear m_
  refine hK.out _ _ ⟨pw_cell_below hb19 hHeld.1, pw_cell_below hb19 hHeld.2⟩ (fun hHeld => ?_)
  clear hK K
  refine norm_ (a' := ?_) ?_ ?_
  rotate_left
  · show Act.put _ (some 89) _ = _
    simp only [Act.put, List.setIfInBounds_toArray, List.set_cons_zero, List.set_cons_succ, i64_w, i32_w]
    rfl
  refine one_ (i := 9) (N := some 91) #[true, true, true, true, true, true, true, true, true, true, false, false, false, false, false, false, false, false, false, false, false, false] rfl rfl (by kernel_rfl) (by decide) (fun K hK => ?_)
  refine goes_ Try.func20 (by kernel_rfl) rfl #[.agg #[.int .i64 cap, .slice A l.length c]] (by rfl) rfl rfl (by simp only [List.map_toArray, List.map_cons, List.map_nil]; rfl) ?_
  with_reducible refine (rused (Kd.C_below HC.out (below_step HB.out (by repeat (first | exact HW.out | (with_reducible refine below_drew ?_))))) HCC.out HS.out HUD.out).mono ?_
  rintro e_ v20 ⟨rfl, hb20⟩
  refine ⟨_, rfl, ?_⟩
  have m_ := Aside0.mk (show Below w5.heap.size w5 v20 from below_step (by repeat (first | exact HW.out | (with_reducible refine below_drew ?_))) hb20)
  clear HW
  have HW := m_
  clear m_
  refine hK.out _ _ ⟨pw_cell_below hb20 hHeld.1, pw_cell_below hb20 hHeld.2⟩ (fun hHeld => ?_)
  clear hK K
  refine norm_ (a' := ?_) ?_ ?_
  rotate_left
  · show Act.put _ (some 91) _ = _
    simp only [Act.put, List.setIfInBounds_toArray, List.set_cons_zero, List.set_cons_succ, i64_w, i32_w]
    rfl
  refine pure_ (i := 10) (N := some 92) (v := ?_) (a' := ?_) #[true, true, true, true, true, true, true, true, true, true, true, false, false, false, false, false, false, false, false, false, false, false] rfl rfl (by kernel_rfl) (fun _ _ _ h => h) (Or.inl ⟨by rfl, ?_⟩) ?_ ?_
  rotate_left
  · intro w'
    go_simp
    with_reducible rfl
  rotate_left
  · simp only [Act.put, List.setIfInBounds_toArray, List.set_cons_zero, List.set_cons_succ, i64_w, i32_w]
    rfl
  refine pure_ (i := 11) (N := some 93) (v := ?_) (a' := ?_) #[true, true, true, true, true, true, true, true, true, true, true, true, false, false, false, false, false, false, false, false, false, false] rfl rfl (by kernel_rfl) (fun _ _ _ h => h) (Or.inl ⟨by rfl, ?_⟩) ?_ ?_
  rotate_left
  · intro w'
    go_simp
    with_reducible rfl
  rotate_left
  · simp only [Act.put, List.setIfInBounds_toArray, List.set_cons_zero, List.set_cons_succ, i64_w, i32_w]
    rfl
  refine pure_ (i := 12) (N := some 94) (v := ?_) (a' := ?_) #[true, true, true, true, true, true, true, true, true, true, true, true, true, false, false, false, false, false, false, false, false, false] rfl rfl (by kernel_rfl) (fun _ _ _ h => h) (Or.inl ⟨by rfl, ?_⟩) ?_ ?_
  rotate_left
  · intro w'
    go_simp
    with_reducible rfl
  rotate_left
  · simp only [Act.put, List.setIfInBounds_toArray, List.set_cons_zero, List.set_cons_succ, i64_w, i32_w]
    rfl
  refine pure_ (i := 14) (N := some 96) (v := ?_) (a' := ?_) #[true, true, true, true, true, true, true, true, true, true, true, true, true, false, true, false, false, false, false, false, false, false] rfl rfl (by kernel_rfl) (fun _ _ _ h => h) (Or.inl ⟨by rfl, ?_⟩) ?_ ?_
  rotate_left
  · intro w'
    go_simp
    with_reducible rfl
  rotate_left
  · simp only [Act.put, List.setIfInBounds_toArray, List.set_cons_zero, List.set_cons_succ, i64_w, i32_w]
    rfl
  refine pure_ (i := 17) (N := some 99) (v := ?_) (a' := ?_) #[true, true, true, true, true, true, true, true, true, true, true, true, true, false, true, false, false, true, false, false, false, false] rfl rfl (by kernel_rfl) (fun _ _ _ h => h) (Or.inl ⟨by rfl, ?_⟩) ?_ ?_
  rotate_left
  · intro w'
    go_simp
    with_reducible rfl
  rotate_left
  · simp only [Act.put, List.setIfInBounds_toArray, List.set_cons_zero, List.set_cons_succ, i64_w, i32_w]
    rfl
  refine take_ (i := 13) (N := some 95) (v := ?_) (a' := ?_) #[true, true, true, true, true, true, true, true, true, true, true, true, true, true, true, false, false, true, false, false, false, false] rfl rfl (by kernel_rfl) (fun _ _ _ h => h) (Or.inl ⟨by rfl, ?_⟩) hHeld ?_ ?_
  rotate_left
  · rintro w' ⟨s0, s1⟩
    go_simp
    with_reducible rfl
  rotate_left
  · simp only [Act.put, List.setIfInBounds_toArray, List.set_cons_zero, List.set_cons_succ, i64_w, i32_w]
    rfl
  refine take_ (i := 16) (N := some 98) (v := ?_) (a' := ?_) #[true, true, true, true, true, true, true, true, true, true, true, true, true, true, true, false, true, true, false, false, false, false] rfl rfl (by kernel_rfl) (fun _ _ _ h => h) (Or.inl ⟨by rfl, ?_⟩) hHeld ?_ ?_
  rotate_left
  · rintro w' ⟨s0, s1⟩
    go_simp
    with_reducible rfl
  rotate_left
  · simp only [Act.put, List.setIfInBounds_toArray, List.set_cons_zero, List.set_cons_succ, i64_w, i32_w]
    rfl
  refine one_ (i := 15) (N := some 97) #[true, true, true, true, true, true, true, true, true, true, true, true, true, true, true, true, true, true, false, false, false, false] rfl rfl (by kernel_rfl) (by decide) (fun K hK => ?_)
  refine goes_ Try.func21 (by kernel_rfl) rfl #[.agg #[.int .i64 cap, .slice A l.length c], .string a] (by rfl) rfl rfl (by simp only [List.map_toArray, List.map_cons, List.map_nil]; rfl) ?_
  with_reducible refine (qfind (Kd.C_below HC.out (below_step HB.out (by repeat (first | exact HW.out | (with_reducible refine below_drew ?_))))) HCC.out HS.out HA.out HFD.out).mono ?_
  rintro e_ v21 ⟨rfl, hb21⟩
  refine ⟨_, rfl, ?_⟩
  have m_ := Aside0.mk (show Below w5.heap.size w5 v21 from below_step (by repeat (first | exact HW.out | (with_reducible refine below_drew ?_))) hb21)
  clear HW
  have HW := m_
  clear m_
  refine hK.out _ _ ⟨pw_cell_below hb21 hHeld.1, pw_cell_below hb21 hHeld.2⟩ (fun hHeld => ?_)
  clear hK K
  refine norm_ (a' := ?_) ?_ ?_
  rotate_left
  · show Act.put _ (some 97) _ = _
    simp only [Act.put, List.setIfInBounds_toArray, List.set_cons_zero, List.set_cons_succ, i64_w, i32_w]
    rfl
  refine one_ (i := 18) (N := some 100) #[true, true, true, true, true, true, true, true, true, true, true, true, true, true, true, true, true, true, true, false, false, false] rfl rfl (by kernel_rfl) (by decide) (fun K hK => ?_)
  refine goes_ Try.func22 (by kernel_rfl) rfl #[.agg #[.int .i64 cap, .slice A l.length c], .string a] (by rfl) rfl rfl (by simp only [List.map_toArray, List.map_cons, List.map_nil]; rfl) ?_
  with_reducible refine (rfind (Kd.C_below HC.out (below_step HB.out (by repeat (first | exact HW.out | (with_reducible refine below_drew ?_))))) HCC.out HS.out HFD.out).mono ?_
  rintro e_ v22 ⟨rfl, hb22⟩
  refine ⟨_, rfl, ?_⟩
  have m_ := Aside0.mk (show Below w5.heap.size w5 v22 from below_step (by repeat (first | exact HW.out | (with_reducible refine below_drew ?_))) hb22)
  clear HW
  have HW := m_
  clear m_
  refine hK.out _ _ ⟨pw_cell_below hb22 hHeld.1, pw_cell_below hb22 hHeld.2⟩ (fun hHeld => ?_)
  clear hK K
  refine norm_ (a' := ?_) ?_ ?_
  rotate_left
  · show Act.put _ (some 100) _ = _
    simp only [Act.put, List.setIfInBounds_toArray, List.set_cons_zero, List.set_cons_succ, i64_w, i32_w]
    rfl
  refine pure_ (i := 19) (N := some 101) (v := ?_) (a' := ?_) #[true, true, true, true, true, true, true, true, true, true, true, true, true, true, true, true, true, true, true, true, false, false] rfl rfl (by kernel_rfl) (fun _ _ _ h => h) (Or.inl ⟨by rfl, ?_⟩) ?_ ?_
  rotate_left
  · intro w'
    go_simp
    with_reducible rfl
  rotate_left
  · simp only [Act.put, List.setIfInBounds_toArray, List.set_cons_zero, List.set_cons_succ, i64_w, i32_w]
    rfl
  refine pure_ (i := 20) (N := some 102) (v := ?_) (a' := ?_) #[true, true, true, true, true, true, true, true, true, true, true, true, true, true, true, true, true, true, true, true, true, false] rfl rfl (by kernel_rfl) (fun _ _ _ h => h) (Or.inl ⟨by rfl, ?_⟩) ?_ ?_
  rotate_left
  · intro w'
    go_simp
    with_reducible rfl
  rotate_left
  · simp only [Act.put, List.setIfInBounds_toArray, List.set_cons_zero, List.set_cons_succ, i64_w, i32_w]
    rfl
  refine pure_ (i := 21) (N := some 21) (v := ?_) (a' := ?_) #[true, true, true, true, true, true, true, true, true, true, true, true, true, true, true, true, true, true, true, true, true, true] rfl rfl (by kernel_rfl) (fun _ _ _ h => h) (Or.inl ⟨by rfl, ?_⟩) ?_ ?_
  rotate_left
  · intro w'
    go_simp
    with_reducible rfl
  rotate_left
  · simp only [Act.put, List.setIfInBounds_toArray, List.set_cons_zero, List.set_cons_succ, i64_w, i32_w]
    rfl
  refine done_ (by kernel_rfl) ?_
  have hb := HW.out
  clear HW
  have n0_ := Aside0.mk (below_step HB.out hb)
  replace p0 := pw_cell_below hb p0
  replace p1 := pw_cell_below hb p1
  replace q0 := pw_cell_below hb q0
  replace q1 := pw_cell_below hb q1
  clear hb HB
  have HB := n0_
  clear n0_ 
  clear hb18 hb16 hb19 hb20 hb21 hb22
  have HW := Aside0.mk (Below.refl v22.heap.size v22)
  go_upto_region 13 with fail
  refine start_ (n := 27) (S := fun w' => w'.cell? ⟨D, 0, none⟩ = some (.int .i64 cap) ∧ w'.cell? ⟨D, 1, none⟩ = some (.slice A l.length c) ∧ w'.cell? ⟨E, 0, none⟩ = some (.int .i64 cap2) ∧ w'.cell? ⟨E, 1, none⟩ = some (.slice A2 m.length c2)) (ds := []) #[false, false, false, false, false, false, false, false, false, false, false, false, false, false, false, false, false, false, false, false, false, false, false, false, false, false, false] (by kernel_rfl) rfl rfl ⟨(pw_cell_below (below_drew (Below.refl _ _)) p0), (pw_cell_below (below_drew (Below.refl _ _)) p1), (pw_cell_below (below_drew (Below.refl _ _)) q0), (pw_cell_below (below_drew (Below.refl _ _)) q1)⟩ (fun hHeld => ?_)
  refine pure_ (i := 0) (N := some 103) (v := ?_) (a' := ?_) #[true, false, false, false, false, false, false, false, false, false, false, false, false, false, false, false, false, false, false, false, false, false, false, false, false, false, false] rfl rfl (by kernel_rfl) (fun _ _ _ h => h) (Or.inl ⟨by rfl, ?_⟩) ?_ ?_
  rotate_left
  · intro w'
    go_simp
    with_reducible rfl
  rotate_left
  · simp only [Act.put, List.setIfInBounds_toArray, List.set_cons_zero, List.set_cons_succ, i64_w, i32_w]
    rfl
  refine pure_ (i := 1) (N := some 104) (v := ?_) (a' := ?_) #[true, true, false, false, false, false, false, false, false, false, false, false, false, false, false, false, false, false, false, false, false, false, false, false, false, false, false] rfl rfl (by kernel_rfl) (fun _ _ _ h => h) (Or.inl ⟨by rfl, ?_⟩) ?_ ?_
  rotate_left
  · intro w'
    go_simp
    with_reducible rfl
  rotate_left
  · simp only [Act.put, List.setIfInBounds_toArray, List.set_cons_zero, List.set_cons_succ, i64_w, i32_w]
    rfl
  refine pure_ (i := 2) (N := some 105) (v := ?_) (a' := ?_) #[true, true, true, false, false, false, false, false, false, false, false, false, false, false, false, false, false, false, false, false, false, false, false, false, false, false, false] rfl rfl (by kernel_rfl) (fun _ _ _ h => h) (Or.inl ⟨by rfl, ?_⟩) ?_ ?_
  rotate_left
  · intro w'
    go_simp
    with_reducible rfl
  rotate_left
  · simp only [Act.put, List.setIfInBounds_toArray, List.set_cons_zero, List.set_cons_succ, i64_w, i32_w]
    rfl
  refine pure_ (i := 3) (N := some 106) (v := ?_) (a' := ?_) #[true, true, true, true, false, false, false, false, false, false, false, false, false, false, false, false, false, false, false, false, false, false, false, false, false, false, false] rfl rfl (by kernel_rfl) (fun _ _ _ h => h) (Or.inl ⟨by rfl, ?_⟩) ?_ ?_
  rotate_left
  · intro w'
    go_simp
    with_reducible rfl
  rotate_left
  · simp only [Act.put, List.setIfInBounds_toArray, List.set_cons_zero, List.set_cons_succ, i64_w, i32_w]
    rfl
  refine pure_ (i := 4) (N := some 107) (v := ?_) (a' := ?_) #[true, true, true, true, true, false, false, false, false, false, false, false, false, false, false, false, false, false, false, false, false, false, false, false, false, false, false] rfl rfl (by kernel_rfl) (fun _ _ _ h => h) (Or.inl ⟨by rfl, ?_⟩) ?_ ?_
  rotate_left
  · intro w'
    go_simp
    with_reducible rfl
  rotate_left
  · simp only [Act.put, List.setIfInBounds_toArray, List.set_cons_zero, List.set_cons_succ, i64_w, i32_w]
    rfl
  refine pure_ (i := 5) (N := some 108) (v := ?_) (a' := ?_) #[true, true, true, true, true, true, false, false, false, false, false, false, false, false, false, false, false, false, false, false, false, false, false, false, false, false, false] rfl rfl (by kernel_rfl) (fun _ _ _ h => h) (Or.inl ⟨by rfl, ?_⟩) ?_ ?_
  rotate_left
  · intro w'
    go_simp
    with_reducible rfl
  rotate_left
  · simp only [Act.put, List.setIfInBounds_toArray, List.set_cons_zero, List.set_cons_succ, i64_w, i32_w]
    rfl
  refine pure_ (i := 6) (N := some 109) (v := ?_) (a' := ?_) #[true, true, true, true, true, true, true, false, false, false, false, false, false, false, false, false, false, false, false, false, false, false, false, false, false, false, false] rfl rfl (by kernel_rfl) (fun _ _ _ h => h) (Or.inl ⟨by rfl, ?_⟩) ?_ ?_
  rotate_left
  · intro w'
    go_simp
    with_reducible rfl
  rotate_left
  · simp only [Act.put, List.setIfInBounds_toArray, List.set_cons_zero, List.set_cons_succ, i64_w, i32_w]
    rfl
  refine pure_ (i := 7) (N := some 110) (v := ?_) (a' := ?_) #[true, true, true, true, true, true, true, true, false, false, false, false, false, false, false, false, false, false, false, false, false, false, false, false, false, false, false] rfl rfl (by kernel_rfl) (fun _ _ _ h => h) (Or.inl ⟨by rfl, ?_⟩) ?_ ?_
  rotate_left
  · intro w'
    go_simp
    with_reducible rfl
  rotate_left
  · simp only [Act.put, List.setIfInBounds_toArray, List.set_cons_zero, List.set_cons_succ, i64_w, i32_w]
    rfl
  refine pure_ (i := 8) (N := some 111) (v := ?_) (a' := ?_) #[true, true, true, true, true, true, true, true, true, false, false, false, false, false, false, false, false, false, false, false, false, false, false, false, false, false, false] rfl rfl (by kernel_rfl) (fun _ _ _ h => h) (Or.inl ⟨by rfl, ?_⟩) ?_ ?_
  rotate_left
  · intro w'
    go_simp
    with_reducible rfl
  rotate_left
  · simp only [Act.put, List.setIfInBounds_toArray, List.set_cons_zero, List.set_cons_succ, i64_w, i32_w]
    rfl
  refine pure_ (i := 9) (N := some 112) (v := ?_) (a' := ?_) #[true, true, true, true, true, true, true, true, true, true, false, false, false, false, false, false, false, false, false, false, false, false, false, false, false, false, false] rfl rfl (by kernel_rfl) (fun _ _ _ h => h) (Or.inl ⟨by rfl, ?_⟩) ?_ ?_
  rotate_left
  · intro w'
    go_simp
    with_reducible rfl
  rotate_left
  · simp only [Act.put, List.setIfInBounds_toArray, List.set_cons_zero, List.set_cons_succ, i64_w, i32_w]
    rfl
  refine pure_ (i := 10) (N := some 113) (v := ?_) (a' := ?_) #[true, true, true, true, true, true, true, true, true, true, true, false, false, false, false, false, false, false, false, false, false, false, false, false, false, false, false] rfl rfl (by kernel_rfl) (fun _ _ _ h => h) (Or.inl ⟨by rfl, ?_⟩) ?_ ?_
  rotate_left
  · intro w'
    go_simp
    with_reducible rfl
  rotate_left
  · simp only [Act.put, List.setIfInBounds_toArray, List.set_cons_zero, List.set_cons_succ, i64_w, i32_w]
    rfl
  refine pure_ (i := 11) (N := some 114) (v := ?_) (a' := ?_) #[true, true, true, true, true, true, true, true, true, true, true, true, false, false, false, false, false, false, false, false, false, false, false, false, false, false, false] rfl rfl (by kernel_rfl) (fun _ _ _ h => h) (Or.inl ⟨by rfl, ?_⟩) ?_ ?_
  rotate_left
  · intro w'
    go_simp
    with_reducible rfl
  rotate_left
  · simp only [Act.put, List.setIfInBounds_toArray, List.set_cons_zero, List.set_cons_succ, i64_w, i32_w]
    rfl
  refine pure_ (i := 12) (N := some 115) (v := ?_) (a' := ?_) #[true, true, true, true, true, true, true, true, true, true, true, true, true, false, false, false, false, false, false, false, false, false, false, false, false, false, false] rfl rfl (by kernel_rfl) (fun _ _ _ h => h) (Or.inl ⟨by rfl, ?_⟩) ?_ ?_
  rotate_left
  · intro w'
    go_simp
    with_reducible rfl
  rotate_left
  · simp only [Act.put, List.setIfInBounds_toArray, List.set_cons_zero, List.set_cons_succ, i64_w, i32_w]
    rfl
  refine pure_ (i := 13) (N := some 116) (v := ?_) (a' := ?_) #[true, true, true, true, true, true, true, true, true, true, true, true, true, true, false, false, false, false, false, false, false, false, false, false, false, false, false] rfl rfl (by kernel_rfl) (fun _ _ _ h => h) (Or.inl ⟨by rfl, ?_⟩) ?_ ?_
  rotate_left
  · intro w'
    go_simp
    with_reducible rfl
  rotate_left
  · simp only [Act.put, List.setIfInBounds_toArray, List.set_cons_zero, List.set_cons_succ, i64_w, i32_w]
    rfl
  refine pure_ (i := 14) (N := some 117) (v := ?_) (a' := ?_) #[true, true, true, true, true, true, true, true, true, true, true, true, true, true, true, false, false, false, false, false, false, false, false, false, false, false, false] rfl rfl (by kernel_rfl) (fun _ _ _ h => h) (Or.inl ⟨by rfl, ?_⟩) ?_ ?_
  rotate_left
  · intro w'
    go_simp
    with_reducible rfl
  rotate_left
  · simp only [Act.put, List.setIfInBounds_toArray, List.set_cons_zero, List.set_cons_succ, i64_w, i32_w]
    rfl
  refine pure_ (i := 15) (N := some 118) (v := ?_) (a' := ?_) #[true, true, true, true, true, true, true, true, true, true, true, true, true, true, true, true, false, false, false, false, false, false, false, false, false, false, false] rfl rfl (by kernel_rfl) (fun _ _ _ h => h) (Or.inl ⟨by rfl, ?_⟩) ?_ ?_
  rotate_left
  · intro w'
    go_simp
    with_reducible rfl
  rotate_left
  · simp only [Act.put, List.setIfInBounds_toArray, List.set_cons_zero, List.set_cons_succ, i64_w, i32_w]
    rfl
  refine pure_ (i := 16) (N := some 119) (v := ?_) (a' := ?_) #[true, true, true, true, true, true, true, true, true, true, true, true, true, true, true, true, true, false, false, false, false, false, false, false, false, false, false] rfl rfl (by kernel_rfl) (fun _ _ _ h => h) (Or.inl ⟨by rfl, ?_⟩) ?_ ?_
  rotate_left
  · intro w'
    go_simp
    with_reducible rfl
  rotate_left
  · simp only [Act.put, List.setIfInBounds_toArray, List.set_cons_zero, List.set_cons_succ, i64_w, i32_w]
    rfl
  refine pure_ (i := 17) (N := some 120) (v := ?_) (a' := ?_) #[true, true, true, true, true, true, true, true, true, true, true, true, true, true, true, true, true, true, false, false, false, false, false, false, false, false, false] rfl rfl (by kernel_rfl) (fun _ _ _ h => h) (Or.inl ⟨by rfl, ?_⟩) ?_ ?_
  rotate_left
  · intro w'
    go_simp
    with_reducible rfl
  rotate_left
  · simp only [Act.put, List.setIfInBounds_toArray, List.set_cons_zero, List.set_cons_succ, i64_w, i32_w]
    rfl
  refine take_ (i := 18) (N := some 121) (v := ?_) (a' := ?_) #[true, true, true, true, true, true, true, true, true, true, true, true, true, true, true, true, true, true, true, false, false, false, false, false, false, false, false] rfl rfl (by kernel_rfl) (fun _ _ _ h => h) (Or.inl ⟨by rfl, ?_⟩) hHeld ?_ ?_
  rotate_left
  · rintro w' ⟨s0, s1, s2, s3⟩
    go_simp
    with_reducible rfl
  rotate_left
  · simp only [Act.put, List.setIfInBounds_toArray, List.set_cons_zero, List.set_cons_succ, i64_w, i32_w]
    rfl
  refine take_ (i := 19) (N := some 122) (v := ?_) (a' := ?_) #[true, true, true, true, true, true, true, true, true, true, true, true, true, true, true, true, true, true, true, true, false, false, false, false, false, false, false] rfl rfl (by kernel_rfl) (fun _ _ _ h => h) (Or.inl ⟨by rfl, ?_⟩) hHeld ?_ ?_
  rotate_left
  · rintro w' ⟨s0, s1, s2, s3⟩
    go_simp
    with_reducible rfl
  rotate_left
  · simp only [Act.put, List.setIfInBounds_toArray, List.set_cons_zero, List.set_cons_succ, i64_w, i32_w]
    rfl
  refine take_ (i := 21) (N := some 124) (v := ?_) (a' := ?_) #[true, true, true, true, true, true, true, true, true, true, true, true, true, true, true, true, true, true, true, true, false, true, false, false, false, false, false] rfl rfl (by kernel_rfl) (fun _ _ _ h => h) (Or.inl ⟨by rfl, ?_⟩) hHeld ?_ ?_
  rotate_left
  · rintro w' ⟨s0, s1, s2, s3⟩
    go_simp
    with_reducible rfl
  rotate_left
  · simp only [Act.put, List.setIfInBounds_toArray, List.set_cons_zero, List.set_cons_succ, i64_w, i32_w]
    rfl
  refine take_ (i := 22) (N := some 125) (v := ?_) (a' := ?_) #[true, true, true, true, true, true, true, true, true, true, true, true, true, true, true, true, true, true, true, true, false, true, true, false, false, false, false] rfl rfl (by kernel_rfl) (fun _ _ _ h => h) (Or.inl ⟨by rfl, ?_⟩) hHeld ?_ ?_
  rotate_left
  · rintro w' ⟨s0, s1, s2, s3⟩
    go_simp
    with_reducible rfl
  rotate_left
  · simp only [Act.put, List.setIfInBounds_toArray, List.set_cons_zero, List.set_cons_succ, i64_w, i32_w]
    rfl
  refine one_ (i := 20) (N := some 123) #[true, true, true, true, true, true, true, true, true, true, true, true, true, true, true, true, true, true, true, true, true, true, true, false, false, false, false] rfl rfl (by kernel_rfl) (by decide) (fun K hK => ?_)
  refine goes_ Try.func23 (by kernel_rfl) rfl #[.agg #[.int .i64 cap, .slice A l.length c], .agg #[.int .i64 cap2, .slice A2 m.length c2]] (by rfl) rfl rfl (by simp only [List.map_toArray, List.map_cons, List.map_nil]; rfl) ?_
  with_reducible refine (qsame (Kd.C_below HC.out (below_step HB.out (by repeat (first | exact HW.out | (with_reducible refine below_drew ?_))))) HCC.out (Kd.C_below HC2.out (below_step HB.out (by repeat (first | exact HW.out | (with_reducible refine below_drew ?_))))) HCC2.out HS.out HSD.out).mono ?_
  rintro e_ v23 ⟨rfl, hb23⟩
  refine ⟨_, rfl, ?_⟩
  have m_ := Aside0.mk (show Below v22.heap.size v22 v23 from below_step (by repeat (first | exact HW.out | (with_reducible refine below_drew ?_))) hb23)
  clear HW
  have HW := m_
  clear m_
  refine hK.out _ _ ⟨pw_cell_below hb23 hHeld.1, pw_cell_below hb23 hHeld.2.1, pw_cell_below hb23 hHeld.2.2.1, pw_cell_below hb23 hHeld.2.2.2⟩ (fun hHeld => ?_)
  clear hK K
  refine norm_ (a' := ?_) ?_ ?_
  rotate_left
  · show Act.put _ (some 123) _ = _
    simp only [Act.put, List.setIfInBounds_toArray, List.set_cons_zero, List.set_cons_succ, i64_w, i32_w]
    rfl
  refine one_ (i := 23) (N := some 126) #[true, true, true, true, true, true, true, true, true, true, true, true, true, true, true, true, true, true, true, true, true, true, true, true, false, false, false] rfl rfl (by kernel_rfl) (by decide) (fun K hK => ?_)
  refine goes_ Try.func17 (by kernel_rfl) rfl #[.agg #[.int .i64 cap, .slice A l.length c], .agg #[.int .i64 cap2, .slice A2 m.length c2]] (by rfl) rfl rfl (by simp only [List.map_toArray, List.map_cons, List.map_nil]; rfl) ?_
  with_reducible refine (rsame (Kd.C_below HC.out (below_step HB.out (by repeat (first | exact HW.out | (with_reducible refine below_drew ?_))))) HCC.out (Kd.C_below HC2.out (below_step HB.out (by repeat (first | exact HW.out | (with_reducible refine below_drew ?_))))) HCC2.out HS.out HSD.out).mono ?_
  rintro e_ v17 ⟨rfl, hb17⟩
  refine ⟨_, rfl, ?_⟩
  have m_ := Aside0.mk (show Below v22.heap.size v22 v17 from below_step (by repeat (first | exact HW.out | (with_reducible refine below_drew ?_))) hb17)
  clear HW
  have HW := m_
  clear m_
  refine hK.out _ _ ⟨pw_cell_below hb17 hHeld.1, pw_cell_below hb17 hHeld.2.1, pw_cell_below hb17 hHeld.2.2.1, pw_cell_below hb17 hHeld.2.2.2⟩ (fun hHeld => ?_)
  clear hK K
  refine norm_ (a' := ?_) ?_ ?_
  rotate_left
  · show Act.put _ (some 126) _ = _
    simp only [Act.put, List.setIfInBounds_toArray, List.set_cons_zero, List.set_cons_succ, i64_w, i32_w]
    rfl
  refine pure_ (i := 24) (N := some 127) (v := ?_) (a' := ?_) #[true, true, true, true, true, true, true, true, true, true, true, true, true, true, true, true, true, true, true, true, true, true, true, true, true, false, false] rfl rfl (by kernel_rfl) (fun _ _ _ h => h) (Or.inl ⟨by rfl, ?_⟩) ?_ ?_
  rotate_left
  · intro w'
    go_simp
    with_reducible rfl
  rotate_left
  · simp only [Act.put, List.setIfInBounds_toArray, List.set_cons_zero, List.set_cons_succ, i64_w, i32_w]
    rfl
  refine pure_ (i := 25) (N := some 128) (v := ?_) (a' := ?_) #[true, true, true, true, true, true, true, true, true, true, true, true, true, true, true, true, true, true, true, true, true, true, true, true, true, true, false] rfl rfl (by kernel_rfl) (fun _ _ _ h => h) (Or.inl ⟨by rfl, ?_⟩) ?_ ?_
  rotate_left
  · intro w'
    go_simp
    with_reducible rfl
  rotate_left
  · simp only [Act.put, List.setIfInBounds_toArray, List.set_cons_zero, List.set_cons_succ, i64_w, i32_w]
    rfl
  refine pure_ (i := 26) (N := some 8) (v := ?_) (a' := ?_) #[true, true, true, true, true, true, true, true, true, true, true, true, true, true, true, true, true, true, true, true, true, true, true, true, true, true, true] rfl rfl (by kernel_rfl) (fun _ _ _ h => h) (Or.inl ⟨by rfl, ?_⟩) ?_ ?_
  rotate_left
  · intro w'
    go_simp
    with_reducible rfl
  rotate_left
  · simp only [Act.put, List.setIfInBounds_toArray, List.set_cons_zero, List.set_cons_succ, i64_w, i32_w]
    rfl
  refine done_ (by kernel_rfl) ?_
  go_wp2
  go_ret
  exact ⟨rfl, below_step HB.out HW.out⟩
end Go.Proofs.Ytaldbabkdoabkaa.T
