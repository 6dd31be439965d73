/- Written by hp.py, this session's own program, out of the translation of this seat: Lean functions for the Go functions, and the proof that each call comes to what its Lean function says. -/
import Derived.Test.YtkdbfeapfcflmaaProg
import Derived.Below
import Derived.Deep.Draws
import Derived.Deep.AppendLies
import Derived.Maps.AppendAt
import Derived.OwnWalk
import Derived.Laws.BytesArg
import Derived.Laws.MakeOwn
import Derived.Laws.OwnMore
import Derived.Deep.OwnRows
import Derived.Tactics
import Derived.Lib.ConvBytes
import Derived.Laws.Slices
import Derived.WalkKit
import Derived.KernelRfl
import Derived.RowKit3
import Derived.Deep.LoopGhost
import Derived.Deep.QuietTactic
import Derived.BigQuiet
import Derived.WideLaws
import Derived.Deep.DeepCutAuto
import Derived.Deep.CutBlock
import Derived.Deep.RegionHeld3
import Derived.Laws.Rows
import Derived.Lib.AppendStr
import Derived.ArgAppend
import Derived.Laws.IdiomCopy
import Derived.OrdersHeld
import Derived.Laws.BitsLemmas
import Derived.RowKit
import Derived.Test.YtkdbfeapfcflmaaWWords
import Derived.Test.YtkdbfeapfcflmaaWLast
import Derived.Test.YtkdbfeapfcflmaaWTab
import Derived.Test.YtkdbfeapfcflmaaWFour
import Derived.Test.YtkdbfeapfcflmaaWQPut
import Derived.Test.YtkdbfeapfcflmaaWApart
import Derived.Test.YtkdbfeapfcflmaaWArr
import Derived.Test.YtkdbfeapfcflmaaWZeros
import Derived.Test.YtkdbfeapfcflmaaWFoot
import Derived.Test.YtkdbfeapfcflmaaWKept
import Derived.Test.YtkdbfeapfcflmaaWShare
import Derived.Test.YtkdbfeapfcflmaaWN
import Derived.Test.YtkdbfeapfcflmaaWFootNe
import Derived.Test.YtkdbfeapfcflmaaWAt
import Derived.Test.YtkdbfeapfcflmaaWEqStruct
import Derived.Test.YtkdbfeapfcflmaaWRepsOne
import Derived.Test.YtkdbfeapfcflmaaWInv
import Derived.Test.YtkdbfeapfcflmaaWInvWords
import Derived.Test.YtkdbfeapfcflmaaWGuard
import Derived.Test.YtkdbfeapfcflmaaWNEv
import Derived.Test.YtkdbfeapfcflmaaWMore
import Derived.Test.YtkdbfeapfcflmaaOw
import Derived.Test.YtkdbfeapfcflmaaPR
namespace Go.Proofs.Ytkdbfeapfcflmaa.T
open Go.RowKit Go.Proofs.YtkdbfeapfcflmaaW.PrintWords Go.Proofs.YtkdbfeapfcflmaaW.PrintLast Go.Proofs.YtkdbfeapfcflmaaW.PrintMore
attribute [local go_sem] max2_int min2_int max_two min_two max_three min_three max_four min_four   -- for this text's walks alone
set_option linter.unusedVariables false
set_option linter.unusedSimpArgs false
open Go.Proofs.Ytkdbfeapfcflmaa.Plain (aheadB soonerB KB mayB fewB)
theorem rev_step (l : List S27) (i j : Nat) (hj : j + 1 = i) (h : j < l.length) : (l.drop i).reverse ++ [rd_T27 l (j : Int)] = (l.drop j).reverse := by
  subst hj
  rw [Plain.rd27 l j h, ← List.reverse_cons, ← List.drop_eq_getElem_cons h]
set_option maxHeartbeats 8000000 in
set_option maxRecDepth 100000 in
theorem bestTurned_calls (n : Int) (A : Option Addr) (c : Nat) (l : List S27) (at_ : Int) (w : World) (hC : Kd.C k27 w A l.length l) (hc : l.length ≤ c) (hu : ∀ x ∈ l, HitG x) :
    Calls Try.prog 8 #[.int .i64 n, .slice A l.length c, .int .i64 at_] w fun e w' => e = .returned (.bool true) ∧ Below w.heap.size w w' := by
  have HC := Aside0.mk hC
  have HU := Aside0.mk hu
  clear hC hu
  have hu27 := Try.underlying27
  have hu22 := Try.underlying22
  cases hf : fewB l with
  | false =>
    have HF := Aside0.mk hf
    go_enter Try.func8, Try.ntmps8
    go_wp2_with (first | (go_at_call 9; (refine (awake_calls _).mono ?_); rintro e w1 ⟨rfl, hb⟩; have HB := Aside0.mk hb; clear hb) | (go_at_call 10; (refine (few_told _ _ _ false _ (Kd.C_below HC.out (by repeat (first | (with_reducible first | exact HB.out | apply below_alloc | apply pw_below_drewN | apply below_drew1) | exact HB.out))) hc HF.out).mono ?_); rintro e w' ⟨rfl, ⟨nd, rfl⟩⟩; have n0_ := Aside0.mk (pw_below_drewN HB.out nd); clear HB; have HB := n0_; clear n0_))
    go_ret
    exact ⟨rfl, HB.out⟩
  | true =>
    have HF := Aside0.mk hf
    have HL := Aside0.mk (show l.length ≤ 1110 from (Plain.few_small hf).1)
    clear hf
    by_cases h0 : at_ < 0
    · have d0 : decide (at_ < 0) = true := decide_eq_true h0
      clear h0
      go_enter Try.func8, Try.ntmps8
      go_wp2_with (first | (go_at_call 9; (refine (awake_calls _).mono ?_); rintro e w1 ⟨rfl, hb⟩; have HB := Aside0.mk hb; clear hb) | (go_at_call 10; (refine (few_told _ _ _ true _ (Kd.C_below HC.out (by repeat (first | (with_reducible first | exact HB.out | apply below_alloc | apply pw_below_drewN | apply below_drew1) | exact HB.out))) hc HF.out).mono ?_); rintro e w' ⟨rfl, ⟨nd, rfl⟩⟩; have n0_ := Aside0.mk (pw_below_drewN HB.out nd); clear HB; have HB := n0_; clear n0_))
      go_ret
      exact ⟨rfl, HB.out⟩
    · have d0 : decide (at_ < 0) = false := decide_eq_false h0
      by_cases h1 : (l.length : Int) < at_
      · have d1 : decide ((l.length : Int) < at_) = true := decide_eq_true h1
        clear h0 h1
        go_enter Try.func8, Try.ntmps8
        go_wp2_with (first | (go_at_call 9; (refine (awake_calls _).mono ?_); rintro e w1 ⟨rfl, hb⟩; have HB := Aside0.mk hb; clear hb) | (go_at_call 10; (refine (few_told _ _ _ true _ (Kd.C_below HC.out (by repeat (first | (with_reducible first | exact HB.out | apply below_alloc | apply pw_below_drewN | apply below_drew1) | exact HB.out))) hc HF.out).mono ?_); rintro e w' ⟨rfl, ⟨nd, rfl⟩⟩; have n0_ := Aside0.mk (pw_below_drewN HB.out nd); clear HB; have HB := n0_; clear n0_))
        go_ret
        exact ⟨rfl, HB.out⟩
      · have d1 : decide ((l.length : Int) < at_) = false := decide_eq_false h1
        obtain ⟨q, rfl⟩ := Int.eq_ofNat_of_zero_le (show 0 ≤ at_ by omega)
        have d1n : decide (l.length < q) = false := decide_eq_false (by omega)
        obtain ⟨i0_, hi0_, _, hsz0_, _⟩ := info_parts info27
        have cutA := cut_to (P := Try.prog) 22 27 .i64 hu22 hi0_ A l.length c (q : Int) (by omega) (by omega) hc
        have cutB := cut_from (P := Try.prog) 22 27 .i64 hu22 hi0_ 4 hsz0_ A l.length c (q : Int) (by omega) (by omega)
        rw [Int.toNat_natCast] at cutA cutB
        obtain ⟨lp, hlp⟩ : ∃ x, x = l.take q := ⟨_, rfl⟩
        obtain ⟨lq, hlq⟩ : ∃ x, x = l.drop q := ⟨_, rfl⟩
        obtain ⟨lr, hlr⟩ : ∃ x, x = l.reverse := ⟨_, rfl⟩
        obtain ⟨lm, hlm⟩ : ∃ x, x = lq ++ lp := ⟨_, rfl⟩
        have np : lp.length = q := by rw [hlp, List.length_take]; omega
        have nq : lq.length = l.length - q := by rw [hlq, List.length_drop]
        have cp := Kd.C_take (m := q) HC.out (by omega)
        have cq := Kd.C_drop (c := c) (m := q) HC.out (by omega) hc
        rw [← hlp] at cp
        rw [← hlq, show k27.sz = 4 from rfl] at cq
        have hcutA : ∀ W : World, (Instr.slice 22 (.slice A l.length c) none (some (.int .i64 (q : Int))) none).run Try.prog W = .ok (.slice A lp.length c) W := by rw [np]; exact cutA
        rw [← nq] at cutB
        have hkp : lp.length ≤ c := by omega
        have hkq : lq.length ≤ c - q := by omega
        generalize (if c = q then A else A.map (·.add (q * 4))) = AB at cutB cq
        generalize c - q = cB at cutB hkq
        have hcutB := cutB
        clear cutA cutB
        have CP := Aside0.mk cp
        have CQ := Aside0.mk cq
        have NPQ := Aside0.mk (show lq.length + lp.length ≤ 1110 by have := HL.out; omega)
        have hpr : lr.Perm l := by rw [hlr]; exact List.reverse_perm l
        have hpm : lm.Perm l := by rw [hlm, hlp, hlq]; exact List.perm_append_comm.trans (by rw [List.take_append_drop])
        have HUR := Aside0.mk (fun x (hx : x ∈ lr) => HU.out x (hpr.subset hx))
        have HUM := Aside0.mk (fun x (hx : x ∈ lm) => HU.out x (hpm.subset hx))
        have HL5 := Aside0.mk (show l.length ≤ 5000 from Nat.le_trans HL.out (by decide))
        have HR5 := Aside0.mk (show lr.length ≤ 5000 from by rw [hpr.length_eq]; exact HL5.out)
        have HM5 := Aside0.mk (show lm.length ≤ 5000 from by rw [hpm.length_eq]; exact HL5.out)
        obtain ⟨la, ea⟩ : ∃ x, ofV aheadB n l (mayB l) = x := ⟨_, rfl⟩
        obtain ⟨lf, ef⟩ : ∃ x, ofV soonerB n l (mayB l) = x := ⟨_, rfl⟩
        have EA := Aside0.mk ea
        have EF := Aside0.mk ef
        have EAR := Aside0.mk (show ofV aheadB n lr (mayB lr) = la from by rw [← ea]; exact (Plain.turned_law n HU.out hpr).1)
        have EFR := Aside0.mk (show ofV soonerB n lr (mayB lr) = lf from by rw [← ef]; exact (Plain.turned_law n HU.out hpr).2)
        have EAM := Aside0.mk (show ofV aheadB n lm (mayB lm) = la from by rw [← ea]; exact (Plain.turned_law n HU.out hpm).1)
        have EFM := Aside0.mk (show ofV soonerB n lm (mayB lm) = lf from by rw [← ef]; exact (Plain.turned_law n HU.out hpm).2)
        have ZA := Aside0.mk (show la.length ≤ 5000 from by rw [← ea]; exact Nat.le_trans (Plain.ofV_le _ _ _ _) HL5.out)
        have ZF := Aside0.mk (show lf.length ≤ 5000 from by rw [← ef]; exact Nat.le_trans (Plain.ofV_le _ _ _ _) HL5.out)
        have ELR := Aside0.mk hlr
        have ELM := Aside0.mk hlm
        clear cp cq hkp hkq hlp hlq np nq hi0_ hsz0_ ea ef h0 h1 hpr hpm hlr hlm
        go_enter Try.func8, Try.ntmps8
        go_wp2_with (first | (go_at_call 9; (refine (awake_calls _).mono ?_); rintro e w1 ⟨rfl, hb⟩; have HB := Aside0.mk hb; clear hb) | (go_at_call 10; (refine (few_told _ _ _ true _ (Kd.C_below HC.out (by repeat (first | (with_reducible first | exact HB.out | apply below_alloc | apply pw_below_drewN | apply below_drew1) | exact HB.out))) hc HF.out).mono ?_); rintro e w' ⟨rfl, ⟨nd, rfl⟩⟩; have n0_ := Aside0.mk (pw_below_drewN HB.out nd); clear HB; have HB := n0_; clear n0_))
        go_loopg [9, 10] l.length (fun kq v9 v10 w' => ∃ (i : Nat), v10 = .int .i64 (i : Int) ∧ Aside0 (i ≤ kq) ∧ Aside0 (i ≤ l.length) ∧ Aside0 (Kd.R k27 27 w' w.heap.size (fun _ => True) v9 (l.drop i).reverse) ∧ Aside0 (Below w.heap.size w w'))
        case atStart => exact ⟨l.length, rfl, ⟨Nat.le_refl _⟩, ⟨Nat.le_refl _⟩, ⟨by rw [List.drop_length]; exact Kd.R_nil _ _ _ _ _⟩, HB⟩
        case round =>
          clear HB
          obtain ⟨i, rfl, HK, HI, HO, HB⟩ := hrel
          obtain ⟨wo, rfl⟩ : ∃ wo : World, wo = wr := ⟨_, rfl⟩
          by_cases hlt : 0 < i
          · obtain ⟨kj, rfl⟩ : ∃ m, gk = m + 1 := ⟨gk - 1, by have := HK.out; omega⟩
            obtain ⟨j, hj⟩ : ∃ j : Nat, j + 1 = i := ⟨i - 1, by omega⟩
            have d2 : decide (0 < (i : Int)) = true := decide_eq_true (by omega)
            have d2n : decide (0 < i) = true := decide_eq_true hlt
            have hil : i ≤ l.length := HI.out
            have hw : wrap64 ((i : Int) - 1) = (j : Int) := by have := HC.out.2.1; unfold wrap64; omega
            obtain ⟨ad, e1, g0, g1, g2, g3⟩ := at_T27 (Kd.C_below HC.out HB.out) (j : Int) (by omega) (by omega)
            subst e1
            rw [Int.toNat_natCast] at g0 g1 g2 g3
            have hstep : (l.drop i).reverse ++ [rd_T27 l (j : Int)] = (l.drop j).reverse := rev_step l i j hj (by omega)
            generalize rd_T27 l (j : Int) = x at g0 g1 g2 g3 hstep
            have HST := Aside0.mk hstep
            have HJ := Aside0.mk hj
            have HW := Aside0.mk hw
            clear hstep hlt
            have NL := Aside0.mk (show ((l.drop i).reverse.length + 1) * 40 ≤ 140737488355328 by rw [List.length_reverse, List.length_drop]; have := HL.out; omega)
            go_wp2_with (first | ((with_reducible refine gate_builtin (b := .append) (xs := #[.tmp 40, .tmp 46]) rfl ?_); at_builtin; refine Kd.R_append k27 (w0 := w) w.heap.size rfl (.tmp 40) (.tmp 46) 22 27 (.agg #[.string ⟨#[]⟩, .int .i64 0, .int .u64 0, .int .u64 0]) 40 rfl Try.underlying22 info27 rfl (by decide) (by omega) _ (l.drop i).reverse x [.string x.f0, .int .i64 x.f1, .int .u64 x.f2.f0, .int .u64 x.f2.f1] (fun _ => True) (fun _ => False) rfl rfl ?aP (fun _ hk => hk.elim) (fun _ _ => trivial) HO.out HB.out (below_size HB.out) NL.out ?_; (case aP => exact k27_mkM _ _ _ x); intro v1 w3 ho hb hg hat; have n0_ := Aside0.mk hb; have n1_ := Aside0.mk ho; clear HB HO ho hb hg hat; have HB := n0_; have HO := n1_; clear n0_ n1_))
            go_roundg kj
            case measure => omega
            case rel => exact ⟨j, congrArg (Value.int .i64) (by omega), ⟨by have := HK.out; omega⟩, ⟨by omega⟩, ⟨by rw [← HST.out]; exact HO.out⟩, HB⟩
          · have d2 : decide (0 < (i : Int)) = false := decide_eq_false (by omega)
            have d2n : decide (0 < i) = false := decide_eq_false hlt
            have ei : i = 0 := by omega
            subst ei
            have HO2 := Aside0.mk (show Kd.R k27 27 wo w.heap.size (fun _ => True) _ lr from by have := HO.out; rw [List.drop_zero, ← ELR.out] at this; exact this)
            clear HO
            obtain ⟨Ab, cb, ev, hcb, CBo⟩ := Kd.R_reads HO2.out
            subst ev
            clear HO2
            have CB := Aside0.mk CBo
            have HCB := Aside0.mk hcb
            clear CBo hcb
            go_wp2
            refine start_ (n := 9) (S := fun w' => True) (ds := []) #[false, false, false, false, false, false, false, false, false] (by kernel_rfl) rfl rfl trivial (fun hHeld => ?_)
            refine pure_ (i := 0) (N := some 48) (v := ?_) (a' := ?_) #[true, false, false, false, false, false, false, false, false] rfl rfl (by kernel_rfl) (fun _ _ _ h => h) (Or.inl ⟨by rfl, ?_⟩) ?_ ?_
            rotate_left
            · intro w'
              go_simp
              with_reducible rfl
            rotate_left
            · simp only [Act.put, List.setIfInBounds_toArray, List.set_cons_zero, List.set_cons_succ, i64_w, i32_w]
              rfl
            refine pure_ (i := 1) (N := some 49) (v := ?_) (a' := ?_) #[true, true, false, false, false, false, false, false, false] rfl rfl (by kernel_rfl) (fun _ _ _ h => h) (Or.inl ⟨by rfl, ?_⟩) ?_ ?_
            rotate_left
            · intro w'
              go_simp
              with_reducible rfl
            rotate_left
            · simp only [Act.put, List.setIfInBounds_toArray, List.set_cons_zero, List.set_cons_succ, i64_w, i32_w]
              rfl
            refine pure_ (i := 2) (N := some 50) (v := ?_) (a' := ?_) #[true, true, true, false, false, false, false, false, false] rfl rfl (by kernel_rfl) (fun _ _ _ h => h) (Or.inl ⟨by rfl, ?_⟩) ?_ ?_
            rotate_left
            · intro w'
              go_simp
              with_reducible rfl
            rotate_left
            · simp only [Act.put, List.setIfInBounds_toArray, List.set_cons_zero, List.set_cons_succ, i64_w, i32_w]
              rfl
            refine pure_ (i := 4) (N := some 52) (v := ?_) (a' := ?_) #[true, true, true, false, true, false, false, false, false] rfl rfl (by kernel_rfl) (fun _ _ _ h => h) (Or.inl ⟨by rfl, ?_⟩) ?_ ?_
            rotate_left
            · intro w'
              go_simp
              with_reducible rfl
            rotate_left
            · simp only [Act.put, List.setIfInBounds_toArray, List.set_cons_zero, List.set_cons_succ, i64_w, i32_w]
              rfl
            refine pure_ (i := 5) (N := some 53) (v := ?_) (a' := ?_) #[true, true, true, false, true, true, false, false, false] rfl rfl (by kernel_rfl) (fun _ _ _ h => h) (Or.inl ⟨by rfl, ?_⟩) ?_ ?_
            rotate_left
            · intro w'
              go_simp
              with_reducible rfl
            rotate_left
            · simp only [Act.put, List.setIfInBounds_toArray, List.set_cons_zero, List.set_cons_succ, i64_w, i32_w]
              rfl
            refine pure_ (i := 6) (N := some 54) (v := ?_) (a' := ?_) #[true, true, true, false, true, true, true, false, false] rfl rfl (by kernel_rfl) (fun _ _ _ h => h) (Or.inl ⟨by rfl, ?_⟩) ?_ ?_
            rotate_left
            · intro w'
              go_simp
              with_reducible rfl
            rotate_left
            · simp only [Act.put, List.setIfInBounds_toArray, List.set_cons_zero, List.set_cons_succ, i64_w, i32_w]
              rfl
            refine one_ (i := 3) (N := some 51) #[true, true, true, true, true, true, true, false, false] rfl rfl (by kernel_rfl) (by decide) (fun K hK => ?_)
            refine Kd.R_append_rows_step k27 (w0 := wo) wo.heap.size (by rfl) (.const (.slice none 0 0)) (.tmp 50) 22 27 (.agg #[.string ⟨#[]⟩, .int .i64 0, .int .u64 0, .int .u64 0]) 40 rfl Try.underlying22 info27 rfl (by decide) (by omega) (.slice none 0 0) [] lq _ _ _ (fun _ => True) (fun _ => False) rfl rfl (Kd.R_nil _ _ _ _ _) (Kd.C_below (Kd.C_below CQ.out HB.out) (below_drew (Below.refl _ _))) (fun _ _ h => h) (fun _ h => h.elim) (fun _ _ => trivial) (below_drew (Below.refl _ _)) (Nat.le_refl _) (by have := NPQ.out; rw [List.length_nil]; omega) ?_
            intro v1 w3 ho3 hb3 hg3 hat3
            rw [List.nil_append] at ho3
            obtain ⟨Av_, cv_, ev_⟩ := Kd.R_slice ho3
            subst ev_
            have HO3 := Aside0.mk ho3
            have HB3 := Aside0.mk hb3
            clear hg3 hat3 ho3 hb3
            refine hK.out _ _ trivial (fun hHeld => ?_)
            clear hK K
            refine norm_ (a' := ?_) ?_ ?_
            rotate_left
            · show Act.put _ (some 51) _ = _
              simp only [Act.put, List.setIfInBounds_toArray, List.set_cons_zero, List.set_cons_succ, i64_w, i32_w]
              rfl
            refine one_ (i := 7) (N := some 55) #[true, true, true, true, true, true, true, true, false] rfl rfl (by kernel_rfl) (by decide) (fun K hK => ?_)
            refine Kd.R_append_rows_step k27 (w0 := wo) wo.heap.size (by rfl) (.tmp 51) (.tmp 54) 22 27 (.agg #[.string ⟨#[]⟩, .int .i64 0, .int .u64 0, .int .u64 0]) 40 rfl Try.underlying22 info27 rfl (by decide) (by omega) (.slice Av_ lq.length cv_) lq lp _ _ _ (fun _ => True) (fun _ => False) rfl rfl HO3.out (Kd.C_below CP.out (below_step HB.out HB3.out)) (fun _ _ h => h) (fun _ h => h.elim) (fun _ _ => trivial) HB3.out (below_size HB3.out) (by have := NPQ.out; omega) ?_
            intro v2 w5 ho5 hb5 hg5 hat5
            rw [← ELM.out] at ho5
            obtain ⟨Am, cm, ev_, hcm, CMo⟩ := Kd.R_reads ho5
            subst ev_
            have CM := Aside0.mk CMo
            have HCM := Aside0.mk hcm
            have HBo := Aside0.mk hb5
            have n0_ := Aside0.mk (below_step HB.out hb5)
            clear hg5 hat5 ho5 hb5 CMo hcm
            refine hK.out _ _ trivial (fun hHeld => ?_)
            clear hK K
            refine norm_ (a' := ?_) ?_ ?_
            rotate_left
            · show Act.put _ (some 55) _ = _
              simp only [Act.put, List.setIfInBounds_toArray, List.set_cons_zero, List.set_cons_succ, i64_w, i32_w]
              rfl
            refine pure_ (i := 8) (N := some 11) (v := ?_) (a' := ?_) #[true, true, true, true, true, true, true, true, true] rfl rfl (by kernel_rfl) (fun _ _ _ h => h) (Or.inl ⟨by rfl, ?_⟩) ?_ ?_
            rotate_left
            · intro w'
              go_simp
              with_reducible rfl
            rotate_left
            · simp only [Act.put, List.setIfInBounds_toArray, List.set_cons_zero, List.set_cons_succ, i64_w, i32_w]
              rfl
            refine done_ (by kernel_rfl) ?_
            clear HB
            have HB := n0_
            clear n0_
            have CBm := Aside0.mk (Kd.C_below CB.out HBo.out)
            clear CB
            have CB := CBm
            clear CBm
            go_wp2_with (first | (go_at_call 19; (refine (Best_one n Ab cb lr _ _ (blk_new _ _) HCB.out (Kd.C_below CB.out (below_alloc (Below.refl _ _) _)) HUR.out HR5.out la EAR.out).mono ?_); rintro e wk ⟨A1, c1, rfl, hc1, CR1, hb⟩; have n1_ := Aside0.mk (Kd.C_below CB.out (below_step (below_alloc (Below.refl _ _) _) hb)); clear CB; have CB := n1_; clear n1_; have n1_ := Aside0.mk (Kd.C_below CM.out (below_step (below_alloc (Below.refl _ _) _) hb)); clear CM; have CM := n1_; clear n1_; have n0_ := Aside0.mk (below_step (by repeat (first | (with_reducible first | exact HB.out | apply below_alloc | apply pw_below_drewN | apply below_drew1) | exact HB.out)) hb); clear HB; have HB := n0_; clear n0_; clear hb) | (go_at_call 19; (refine (Best_one n Am cm lm _ _ (blk_new _ _) HCM.out (Kd.C_below CM.out (below_alloc (Below.refl _ _) _)) HUM.out HM5.out la EAM.out).mono ?_); rintro e wk ⟨A1, c1, rfl, hc1, CR1, hb⟩; have n1_ := Aside0.mk (Kd.C_below CB.out (below_step (below_alloc (Below.refl _ _) _) hb)); clear CB; have CB := n1_; clear n1_; have n1_ := Aside0.mk (Kd.C_below CM.out (below_step (below_alloc (Below.refl _ _) _) hb)); clear CM; have CM := n1_; clear n1_; have n0_ := Aside0.mk (below_step (by repeat (first | (with_reducible first | exact HB.out | apply below_alloc | apply pw_below_drewN | apply below_drew1) | exact HB.out)) hb); clear HB; have HB := n0_; clear n0_; clear hb) | (go_at_call 19; (refine (Best_one n A c l _ _ (blk_new _ _) hc (Kd.C_below HC.out (by repeat (first | (with_reducible first | exact HB.out | apply below_alloc | apply pw_below_drewN | apply below_drew1) | exact HB.out))) HU.out HL5.out la EA.out).mono ?_); rintro e wk ⟨A2, c2, rfl, hc2, CR2, hb⟩; have n1_ := Aside0.mk (Kd.C_below CB.out (below_step (below_alloc (Below.refl _ _) _) hb)); clear CB; have CB := n1_; clear n1_; have n1_ := Aside0.mk (Kd.C_below CM.out (below_step (below_alloc (Below.refl _ _) _) hb)); clear CM; have CM := n1_; clear n1_; have n1_ := Aside0.mk (Kd.C_below CR1.out (below_step (below_alloc (Below.refl _ _) _) hb)); clear CR1; have CR1 := n1_; clear n1_; have n0_ := Aside0.mk (below_step (by repeat (first | (with_reducible first | exact HB.out | apply below_alloc | apply pw_below_drewN | apply below_drew1) | exact HB.out)) hb); clear HB; have HB := n0_; clear n0_; clear hb) | (go_at_call 18; (with_reducible refine (same_told A1 A2 c1 c2 la la _ CR1.out hc1.out CR2.out hc2.out ZA.out rfl).mono ?_); rintro e wk ⟨rfl, hb⟩; have n1_ := Aside0.mk (Kd.C_below CB.out hb); clear CB; have CB := n1_; clear n1_; have n1_ := Aside0.mk (Kd.C_below CM.out hb); clear CM; have CM := n1_; clear n1_; clear CR1 CR2; have n0_ := Aside0.mk (below_step HB.out hb); clear HB; have HB := n0_; clear n0_; clear hb) | (go_at_call 21; (refine (First_one n Ab cb lr _ _ (blk_new _ _) HCB.out (Kd.C_below CB.out (below_alloc (Below.refl _ _) _)) HUR.out HR5.out lf EFR.out).mono ?_); rintro e wk ⟨A1, c1, rfl, hc1, CR1, hb⟩; have n1_ := Aside0.mk (Kd.C_below CB.out (below_step (below_alloc (Below.refl _ _) _) hb)); clear CB; have CB := n1_; clear n1_; have n1_ := Aside0.mk (Kd.C_below CM.out (below_step (below_alloc (Below.refl _ _) _) hb)); clear CM; have CM := n1_; clear n1_; have n0_ := Aside0.mk (below_step (by repeat (first | (with_reducible first | exact HB.out | apply below_alloc | apply pw_below_drewN | apply below_drew1) | exact HB.out)) hb); clear HB; have HB := n0_; clear n0_; clear hb) | (go_at_call 21; (refine (First_one n Am cm lm _ _ (blk_new _ _) HCM.out (Kd.C_below CM.out (below_alloc (Below.refl _ _) _)) HUM.out HM5.out lf EFM.out).mono ?_); rintro e wk ⟨A1, c1, rfl, hc1, CR1, hb⟩; have n1_ := Aside0.mk (Kd.C_below CB.out (below_step (below_alloc (Below.refl _ _) _) hb)); clear CB; have CB := n1_; clear n1_; have n1_ := Aside0.mk (Kd.C_below CM.out (below_step (below_alloc (Below.refl _ _) _) hb)); clear CM; have CM := n1_; clear n1_; have n0_ := Aside0.mk (below_step (by repeat (first | (with_reducible first | exact HB.out | apply below_alloc | apply pw_below_drewN | apply below_drew1) | exact HB.out)) hb); clear HB; have HB := n0_; clear n0_; clear hb) | (go_at_call 21; (refine (First_one n A c l _ _ (blk_new _ _) hc (Kd.C_below HC.out (by repeat (first | (with_reducible first | exact HB.out | apply below_alloc | apply pw_below_drewN | apply below_drew1) | exact HB.out))) HU.out HL5.out lf EF.out).mono ?_); rintro e wk ⟨A2, c2, rfl, hc2, CR2, hb⟩; have n1_ := Aside0.mk (Kd.C_below CB.out (below_step (below_alloc (Below.refl _ _) _) hb)); clear CB; have CB := n1_; clear n1_; have n1_ := Aside0.mk (Kd.C_below CM.out (below_step (below_alloc (Below.refl _ _) _) hb)); clear CM; have CM := n1_; clear n1_; have n1_ := Aside0.mk (Kd.C_below CR1.out (below_step (below_alloc (Below.refl _ _) _) hb)); clear CR1; have CR1 := n1_; clear n1_; have n0_ := Aside0.mk (below_step (by repeat (first | (with_reducible first | exact HB.out | apply below_alloc | apply pw_below_drewN | apply below_drew1) | exact HB.out)) hb); clear HB; have HB := n0_; clear n0_; clear hb) | (go_at_call 18; (with_reducible refine (same_told A1 A2 c1 c2 lf lf _ CR1.out hc1.out CR2.out hc2.out ZF.out rfl).mono ?_); rintro e wk ⟨rfl, hb⟩; have n1_ := Aside0.mk (Kd.C_below CB.out hb); clear CB; have CB := n1_; clear n1_; have n1_ := Aside0.mk (Kd.C_below CM.out hb); clear CM; have CM := n1_; clear n1_; clear CR1 CR2; have n0_ := Aside0.mk (below_step HB.out hb); clear HB; have HB := n0_; clear n0_; clear hb))
            go_ret
            exact ⟨rfl, HB.out⟩

end Go.Proofs.Ytkdbfeapfcflmaa.T
