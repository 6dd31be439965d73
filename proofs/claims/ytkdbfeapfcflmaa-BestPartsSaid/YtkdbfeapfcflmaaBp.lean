/- Written by hp.py, this session's own program, out of the translation of this seat: Lean functions for the Go functions, and the proof that each call comes to what its Lean function says. -/
import Derived.Test.YtkdbfeapfcflmaaProg
import Derived.Below
import Derived.Deep.Draws
import Derived.Deep.AppendLies
import Derived.Maps.AppendAt
import Derived.OwnWalk
import Derived.Laws.BytesArg
import Derived.Laws.MakeOwn
import Derived.Laws.OwnMore
import Derived.Deep.OwnRows
import Derived.Tactics
import Derived.Lib.ConvBytes
import Derived.Laws.Slices
import Derived.WalkKit
import Derived.KernelRfl
import Derived.RowKit3
import Derived.Deep.LoopGhost
import Derived.Deep.QuietTactic
import Derived.BigQuiet
import Derived.WideLaws
import Derived.Deep.DeepCutAuto
import Derived.Deep.CutBlock
import Derived.Deep.RegionHeld3
import Derived.Laws.Rows
import Derived.Lib.AppendStr
import Derived.ArgAppend
import Derived.Laws.IdiomCopy
import Derived.OrdersHeld
import Derived.Laws.BitsLemmas
import Derived.RowKit
import Derived.Test.YtkdbfeapfcflmaaWWords
import Derived.Test.YtkdbfeapfcflmaaWLast
import Derived.Test.YtkdbfeapfcflmaaWTab
import Derived.Test.YtkdbfeapfcflmaaWFour
import Derived.Test.YtkdbfeapfcflmaaWQPut
import Derived.Test.YtkdbfeapfcflmaaWApart
import Derived.Test.YtkdbfeapfcflmaaWArr
import Derived.Test.YtkdbfeapfcflmaaWZeros
import Derived.Test.YtkdbfeapfcflmaaWFoot
import Derived.Test.YtkdbfeapfcflmaaWKept
import Derived.Test.YtkdbfeapfcflmaaWShare
import Derived.Test.YtkdbfeapfcflmaaWN
import Derived.Test.YtkdbfeapfcflmaaWFootNe
import Derived.Test.YtkdbfeapfcflmaaWAt
import Derived.Test.YtkdbfeapfcflmaaWEqStruct
import Derived.Test.YtkdbfeapfcflmaaWRepsOne
import Derived.Test.YtkdbfeapfcflmaaWInv
import Derived.Test.YtkdbfeapfcflmaaWInvWords
import Derived.Test.YtkdbfeapfcflmaaWGuard
import Derived.Test.YtkdbfeapfcflmaaWNEv
import Derived.Test.YtkdbfeapfcflmaaWMore
import Derived.Test.YtkdbfeapfcflmaaOw
import Derived.Test.YtkdbfeapfcflmaaPQ
namespace Go.Proofs.Ytkdbfeapfcflmaa.T
open Go.RowKit Go.Proofs.YtkdbfeapfcflmaaW.PrintWords Go.Proofs.YtkdbfeapfcflmaaW.PrintLast Go.Proofs.YtkdbfeapfcflmaaW.PrintMore
attribute [local go_sem] max2_int min2_int max_two min_two max_three min_three max_four min_four   -- for this text's walks alone
set_option linter.unusedVariables false
set_option linter.unusedSimpArgs false
open Go.Proofs.Ytkdbfeapfcflmaa.Plain (aheadB soonerB KB mayB fewB)
theorem size_alloc_ (w : World) (o : Obj) : (w.alloc o).heap.size = w.heap.size + 1 := by unfold World.alloc; exact Array.size_push _
theorem blk_new2 (w : World) (o o2 : Obj) : ((w.alloc o).alloc o2).heap[w.heap.size + 1]? = some o2 := by
  have h := blk_new (w.alloc o) o2
  rw [size_alloc_] at h
  exact h
set_option maxHeartbeats 8000000 in
set_option maxRecDepth 100000 in
theorem bestParts_calls (n : Int) (A : Option Addr) (c : Nat) (l : List S27) (at_ less : Int) (w : World) (hC : Kd.C k27 w A l.length l) (hc : l.length ≤ c) (hu : ∀ x ∈ l, HitG x) :
    Calls Try.prog 7 #[.int .i64 n, .slice A l.length c, .int .i64 at_, .int .i64 less] w fun e w' => e = .returned (.bool true) ∧ Below w.heap.size w w' := by
  have HC := Aside0.mk hC
  have HU := Aside0.mk hu
  clear hC hu
  have hu27 := Try.underlying27
  have hu22 := Try.underlying22
  cases hf : fewB l with
  | false =>
    have HF := Aside0.mk hf
    go_enter Try.func7, Try.ntmps7
    go_wp2_with (first | (go_at_call 9; (refine (awake_calls _).mono ?_); rintro e w1 ⟨rfl, hb⟩; have HB := Aside0.mk hb; clear hb) | (go_at_call 10; (refine (few_told _ _ _ false _ (Kd.C_below HC.out (by repeat (first | (with_reducible first | exact HB.out | apply below_alloc | apply pw_below_drewN | apply below_drew1) | exact HB.out))) hc HF.out).mono ?_); rintro e w' ⟨rfl, ⟨nd, rfl⟩⟩; have n0_ := Aside0.mk (pw_below_drewN HB.out nd); clear HB; have HB := n0_; clear n0_))
    go_ret
    exact ⟨rfl, HB.out⟩
  | true =>
    have HF := Aside0.mk hf
    have HL := Aside0.mk (show l.length ≤ 1110 from (Plain.few_small hf).1)
    clear hf
    cases hm : mayB l with
    | false =>
      have HM := Aside0.mk hm
      go_enter Try.func7, Try.ntmps7
      go_wp2_with (first | (go_at_call 9; (refine (awake_calls _).mono ?_); rintro e w1 ⟨rfl, hb⟩; have HB := Aside0.mk hb; clear hb) | (go_at_call 10; (refine (few_told _ _ _ true _ (Kd.C_below HC.out (by repeat (first | (with_reducible first | exact HB.out | apply below_alloc | apply pw_below_drewN | apply below_drew1) | exact HB.out))) hc HF.out).mono ?_); rintro e w' ⟨rfl, ⟨nd, rfl⟩⟩; have n0_ := Aside0.mk (pw_below_drewN HB.out nd); clear HB; have HB := n0_; clear n0_) | (go_at_call 11; (refine (may_told _ _ _ false _ (Kd.C_below HC.out (by repeat (first | (with_reducible first | exact HB.out | apply below_alloc | apply pw_below_drewN | apply below_drew1) | exact HB.out))) hc HU.out HM.out).mono ?_); rintro e w2 ⟨rfl, hb⟩; have n0_ := Aside0.mk (below_step (by repeat (first | (with_reducible first | exact HB.out | apply below_alloc | apply pw_below_drewN | apply below_drew1) | exact HB.out)) hb); clear HB; have HB := n0_; clear n0_; clear hb))
      go_ret
      exact ⟨rfl, HB.out⟩
    | true =>
      have HM := Aside0.mk hm
      clear hm
      by_cases h0 : n < 0
      · have d0 : decide (n < 0) = true := decide_eq_true h0
        clear h0
        go_enter Try.func7, Try.ntmps7
        go_wp2_with (first | (go_at_call 9; (refine (awake_calls _).mono ?_); rintro e w1 ⟨rfl, hb⟩; have HB := Aside0.mk hb; clear hb) | (go_at_call 10; (refine (few_told _ _ _ true _ (Kd.C_below HC.out (by repeat (first | (with_reducible first | exact HB.out | apply below_alloc | apply pw_below_drewN | apply below_drew1) | exact HB.out))) hc HF.out).mono ?_); rintro e w' ⟨rfl, ⟨nd, rfl⟩⟩; have n0_ := Aside0.mk (pw_below_drewN HB.out nd); clear HB; have HB := n0_; clear n0_) | (go_at_call 11; (refine (may_told _ _ _ true _ (Kd.C_below HC.out (by repeat (first | (with_reducible first | exact HB.out | apply below_alloc | apply pw_below_drewN | apply below_drew1) | exact HB.out))) hc HU.out HM.out).mono ?_); rintro e w2 ⟨rfl, hb⟩; have n0_ := Aside0.mk (below_step (by repeat (first | (with_reducible first | exact HB.out | apply below_alloc | apply pw_below_drewN | apply below_drew1) | exact HB.out)) hb); clear HB; have HB := n0_; clear n0_; clear hb))
        go_ret
        exact ⟨rfl, HB.out⟩
      · have d0 : decide (n < 0) = false := decide_eq_false h0
        by_cases h1 : 100 < n
        · have d1 : decide (100 < n) = true := decide_eq_true h1
          clear h0 h1
          go_enter Try.func7, Try.ntmps7
          go_wp2_with (first | (go_at_call 9; (refine (awake_calls _).mono ?_); rintro e w1 ⟨rfl, hb⟩; have HB := Aside0.mk hb; clear hb) | (go_at_call 10; (refine (few_told _ _ _ true _ (Kd.C_below HC.out (by repeat (first | (with_reducible first | exact HB.out | apply below_alloc | apply pw_below_drewN | apply below_drew1) | exact HB.out))) hc HF.out).mono ?_); rintro e w' ⟨rfl, ⟨nd, rfl⟩⟩; have n0_ := Aside0.mk (pw_below_drewN HB.out nd); clear HB; have HB := n0_; clear n0_) | (go_at_call 11; (refine (may_told _ _ _ true _ (Kd.C_below HC.out (by repeat (first | (with_reducible first | exact HB.out | apply below_alloc | apply pw_below_drewN | apply below_drew1) | exact HB.out))) hc HU.out HM.out).mono ?_); rintro e w2 ⟨rfl, hb⟩; have n0_ := Aside0.mk (below_step (by repeat (first | (with_reducible first | exact HB.out | apply below_alloc | apply pw_below_drewN | apply below_drew1) | exact HB.out)) hb); clear HB; have HB := n0_; clear n0_; clear hb))
          go_ret
          exact ⟨rfl, HB.out⟩
        · have d1 : decide (100 < n) = false := decide_eq_false h1
          by_cases h2 : at_ < 0
          · have d2 : decide (at_ < 0) = true := decide_eq_true h2
            clear h0 h1 h2
            go_enter Try.func7, Try.ntmps7
            go_wp2_with (first | (go_at_call 9; (refine (awake_calls _).mono ?_); rintro e w1 ⟨rfl, hb⟩; have HB := Aside0.mk hb; clear hb) | (go_at_call 10; (refine (few_told _ _ _ true _ (Kd.C_below HC.out (by repeat (first | (with_reducible first | exact HB.out | apply below_alloc | apply pw_below_drewN | apply below_drew1) | exact HB.out))) hc HF.out).mono ?_); rintro e w' ⟨rfl, ⟨nd, rfl⟩⟩; have n0_ := Aside0.mk (pw_below_drewN HB.out nd); clear HB; have HB := n0_; clear n0_) | (go_at_call 11; (refine (may_told _ _ _ true _ (Kd.C_below HC.out (by repeat (first | (with_reducible first | exact HB.out | apply below_alloc | apply pw_below_drewN | apply below_drew1) | exact HB.out))) hc HU.out HM.out).mono ?_); rintro e w2 ⟨rfl, hb⟩; have n0_ := Aside0.mk (below_step (by repeat (first | (with_reducible first | exact HB.out | apply below_alloc | apply pw_below_drewN | apply below_drew1) | exact HB.out)) hb); clear HB; have HB := n0_; clear n0_; clear hb))
            go_ret
            exact ⟨rfl, HB.out⟩
          · have d2 : decide (at_ < 0) = false := decide_eq_false h2
            by_cases h3 : (l.length : Int) < at_
            · have d3 : decide ((l.length : Int) < at_) = true := decide_eq_true h3
              clear h0 h1 h2 h3
              go_enter Try.func7, Try.ntmps7
              go_wp2_with (first | (go_at_call 9; (refine (awake_calls _).mono ?_); rintro e w1 ⟨rfl, hb⟩; have HB := Aside0.mk hb; clear hb) | (go_at_call 10; (refine (few_told _ _ _ true _ (Kd.C_below HC.out (by repeat (first | (with_reducible first | exact HB.out | apply below_alloc | apply pw_below_drewN | apply below_drew1) | exact HB.out))) hc HF.out).mono ?_); rintro e w' ⟨rfl, ⟨nd, rfl⟩⟩; have n0_ := Aside0.mk (pw_below_drewN HB.out nd); clear HB; have HB := n0_; clear n0_) | (go_at_call 11; (refine (may_told _ _ _ true _ (Kd.C_below HC.out (by repeat (first | (with_reducible first | exact HB.out | apply below_alloc | apply pw_below_drewN | apply below_drew1) | exact HB.out))) hc HU.out HM.out).mono ?_); rintro e w2 ⟨rfl, hb⟩; have n0_ := Aside0.mk (below_step (by repeat (first | (with_reducible first | exact HB.out | apply below_alloc | apply pw_below_drewN | apply below_drew1) | exact HB.out)) hb); clear HB; have HB := n0_; clear n0_; clear hb))
              go_ret
              exact ⟨rfl, HB.out⟩
            · have d3 : decide ((l.length : Int) < at_) = false := decide_eq_false h3
              by_cases h4 : less < 0
              · have d4 : decide (less < 0) = true := decide_eq_true h4
                clear h0 h1 h2 h3 h4
                go_enter Try.func7, Try.ntmps7
                go_wp2_with (first | (go_at_call 9; (refine (awake_calls _).mono ?_); rintro e w1 ⟨rfl, hb⟩; have HB := Aside0.mk hb; clear hb) | (go_at_call 10; (refine (few_told _ _ _ true _ (Kd.C_below HC.out (by repeat (first | (with_reducible first | exact HB.out | apply below_alloc | apply pw_below_drewN | apply below_drew1) | exact HB.out))) hc HF.out).mono ?_); rintro e w' ⟨rfl, ⟨nd, rfl⟩⟩; have n0_ := Aside0.mk (pw_below_drewN HB.out nd); clear HB; have HB := n0_; clear n0_) | (go_at_call 11; (refine (may_told _ _ _ true _ (Kd.C_below HC.out (by repeat (first | (with_reducible first | exact HB.out | apply below_alloc | apply pw_below_drewN | apply below_drew1) | exact HB.out))) hc HU.out HM.out).mono ?_); rintro e w2 ⟨rfl, hb⟩; have n0_ := Aside0.mk (below_step (by repeat (first | (with_reducible first | exact HB.out | apply below_alloc | apply pw_below_drewN | apply below_drew1) | exact HB.out)) hb); clear HB; have HB := n0_; clear n0_; clear hb))
                go_ret
                exact ⟨rfl, HB.out⟩
              · have d4 : decide (less < 0) = false := decide_eq_false h4
                by_cases h5 : n < less
                · have d5 : decide (n < less) = true := decide_eq_true h5
                  clear h0 h1 h2 h3 h4 h5
                  go_enter Try.func7, Try.ntmps7
                  go_wp2_with (first | (go_at_call 9; (refine (awake_calls _).mono ?_); rintro e w1 ⟨rfl, hb⟩; have HB := Aside0.mk hb; clear hb) | (go_at_call 10; (refine (few_told _ _ _ true _ (Kd.C_below HC.out (by repeat (first | (with_reducible first | exact HB.out | apply below_alloc | apply pw_below_drewN | apply below_drew1) | exact HB.out))) hc HF.out).mono ?_); rintro e w' ⟨rfl, ⟨nd, rfl⟩⟩; have n0_ := Aside0.mk (pw_below_drewN HB.out nd); clear HB; have HB := n0_; clear n0_) | (go_at_call 11; (refine (may_told _ _ _ true _ (Kd.C_below HC.out (by repeat (first | (with_reducible first | exact HB.out | apply below_alloc | apply pw_below_drewN | apply below_drew1) | exact HB.out))) hc HU.out HM.out).mono ?_); rintro e w2 ⟨rfl, hb⟩; have n0_ := Aside0.mk (below_step (by repeat (first | (with_reducible first | exact HB.out | apply below_alloc | apply pw_below_drewN | apply below_drew1) | exact HB.out)) hb); clear HB; have HB := n0_; clear n0_; clear hb))
                  go_ret
                  exact ⟨rfl, HB.out⟩
                · have d5 : decide (n < less) = false := decide_eq_false h5
                  obtain ⟨q, rfl⟩ := Int.eq_ofNat_of_zero_le (show 0 ≤ at_ by omega)
                  have d3n : decide (l.length < q) = false := decide_eq_false (by omega)
                  obtain ⟨i0_, hi0_, _, hsz0_, _⟩ := info_parts info27
                  have cutA := cut_to (P := Try.prog) 22 27 .i64 hu22 hi0_ A l.length c (q : Int) (by omega) (by omega) hc
                  have cutB := cut_from (P := Try.prog) 22 27 .i64 hu22 hi0_ 4 hsz0_ A l.length c (q : Int) (by omega) (by omega)
                  rw [Int.toNat_natCast] at cutA cutB
                  obtain ⟨lp, hlp⟩ : ∃ x, x = l.take q := ⟨_, rfl⟩
                  obtain ⟨lq, hlq⟩ : ∃ x, x = l.drop q := ⟨_, rfl⟩
                  have np : lp.length = q := by rw [hlp, List.length_take]; omega
                  have nq : lq.length = l.length - q := by rw [hlq, List.length_drop]
                  have cp := Kd.C_take (m := q) HC.out (by omega)
                  have cq := Kd.C_drop (c := c) (m := q) HC.out (by omega) hc
                  rw [← hlp] at cp
                  rw [← hlq, show k27.sz = 4 from rfl] at cq
                  have hcutA : ∀ W : World, (Instr.slice 22 (.slice A l.length c) none (some (.int .i64 (q : Int))) none).run Try.prog W = .ok (.slice A lp.length c) W := by rw [np]; exact cutA
                  rw [← nq] at cutB
                  have hkp : lp.length ≤ c := by omega
                  have hkq : lq.length ≤ c - q := by omega
                  generalize (if c = q then A else A.map (·.add (q * 4))) = AB at cutB cq
                  generalize c - q = cB at cutB hkq
                  have hcutB := cutB
                  clear cutA cutB
                  have CP := Aside0.mk cp
                  have CQ := Aside0.mk cq
                  have HP := Aside0.mk (⟨hkp, fun x hx => HU.out x (by rw [hlp] at hx; exact List.mem_of_mem_take hx), by have := HL.out; omega⟩ : lp.length ≤ c ∧ (∀ x ∈ lp, HitG x) ∧ lp.length ≤ 5000)
                  have HQ := Aside0.mk (⟨hkq, fun x hx => HU.out x (by rw [hlq] at hx; exact List.mem_of_mem_drop hx), by have := HL.out; omega⟩ : lq.length ≤ cB ∧ (∀ x ∈ lq, HitG x) ∧ lq.length ≤ 5000)
                  have HL5 := Aside0.mk (show l.length ≤ 5000 from Nat.le_trans HL.out (by decide))
                  have law := Plain.parts_law n less l q HU.out HM.out (by omega) (by omega) (by omega) (by omega) (by omega)
                  rw [← hlp, ← hlq] at law
                  obtain ⟨la, ea⟩ : ∃ x, ofV aheadB n l (mayB l) = x := ⟨_, rfl⟩
                  obtain ⟨b1, eb1⟩ : ∃ x, ofV aheadB n lp (mayB lp) = x := ⟨_, rfl⟩
                  obtain ⟨b2, eb2⟩ : ∃ x, ofV aheadB n lq (mayB lq) = x := ⟨_, rfl⟩
                  obtain ⟨lc, ec⟩ : ∃ x, ofV soonerB n l (mayB l) = x := ⟨_, rfl⟩
                  obtain ⟨f1, ef1⟩ : ∃ x, ofV soonerB n lq (mayB lq) = x := ⟨_, rfl⟩
                  obtain ⟨f2, ef2⟩ : ∃ x, ofV soonerB n lp (mayB lp) = x := ⟨_, rfl⟩
                  obtain ⟨le, ee⟩ : ∃ x, ofV aheadB less l (mayB l) = x := ⟨_, rfl⟩
                  have gb : (∀ x ∈ b1 ++ b2, HitG x) ∧ (b1 ++ b2).length ≤ 5000 := by
                    rw [← eb1, ← eb2]
                    exact Plain.two_good HP.out.2.1 HQ.out.2.1 (by have := HL.out; rw [np, nq]; omega)
                  have gf : (∀ x ∈ f1 ++ f2, HitG x) ∧ (f1 ++ f2).length ≤ 5000 := by
                    rw [← ef1, ← ef2]
                    exact Plain.two_good HQ.out.2.1 HP.out.2.1 (by have := HL.out; rw [np, nq]; omega)
                  have hla : la.length ≤ 5000 := by rw [← ea]; exact Nat.le_trans (Plain.ofV_le _ _ _ _) HL5.out
                  have hlc : lc.length ≤ 5000 := by rw [← ec]; exact Nat.le_trans (Plain.ofV_le _ _ _ _) HL5.out
                  have hle : le.length ≤ 5000 := by rw [← ee]; exact Nat.le_trans (Plain.ofV_le _ _ _ _) HL5.out
                  rw [ea, eb1, eb2, ec, ef1, ef2, ee] at law
                  obtain ⟨hlaw1, hlaw2, hlaw3⟩ := law
                  have EA := Aside0.mk ea
                  have EB1 := Aside0.mk eb1
                  have EB2 := Aside0.mk eb2
                  have EC := Aside0.mk ec
                  have EF1 := Aside0.mk ef1
                  have EF2 := Aside0.mk ef2
                  have EE := Aside0.mk ee
                  have L1 := Aside0.mk hlaw1
                  have L2 := Aside0.mk hlaw2
                  have L3 := Aside0.mk hlaw3
                  have GB := Aside0.mk gb
                  have GF := Aside0.mk gf
                  have ZA := Aside0.mk hla
                  have ZC := Aside0.mk hlc
                  have ZE := Aside0.mk hle
                  have H45 := Aside0.mk (⟨by omega, by omega⟩ : 0 ≤ less ∧ less ≤ n)
                  clear cp cq hkp hkq hlp hlq np nq hi0_ hsz0_ ea eb1 eb2 ec ef1 ef2 ee hlaw1 hlaw2 hlaw3 gb gf hla hlc hle h0 h1 h2 h3 h4 h5
                  go_enter Try.func7, Try.ntmps7
                  go_wp2_with (first | (go_at_call 9; (refine (awake_calls _).mono ?_); rintro e w1 ⟨rfl, hb⟩; have HB := Aside0.mk hb; clear hb) | (go_at_call 10; (refine (few_told _ _ _ true _ (Kd.C_below HC.out (by repeat (first | (with_reducible first | exact HB.out | apply below_alloc | apply pw_below_drewN | apply below_drew1) | exact HB.out))) hc HF.out).mono ?_); rintro e w' ⟨rfl, ⟨nd, rfl⟩⟩; have n0_ := Aside0.mk (pw_below_drewN HB.out nd); clear HB; have HB := n0_; clear n0_) | (go_at_call 11; (refine (may_told _ _ _ true _ (Kd.C_below HC.out (by repeat (first | (with_reducible first | exact HB.out | apply below_alloc | apply pw_below_drewN | apply below_drew1) | exact HB.out))) hc HU.out HM.out).mono ?_); rintro e w2 ⟨rfl, hb⟩; have n0_ := Aside0.mk (below_step (by repeat (first | (with_reducible first | exact HB.out | apply below_alloc | apply pw_below_drewN | apply below_drew1) | exact HB.out)) hb); clear HB; have HB := n0_; clear n0_; clear hb) | (go_at_call 19; (refine (Best_one n A c l _ _ (blk_new _ _) hc (Kd.C_below HC.out (by repeat (first | (with_reducible first | exact HB.out | apply below_alloc | apply pw_below_drewN | apply below_drew1) | exact HB.out))) HU.out HL5.out la EA.out).mono ?_); rintro e w3 ⟨A3, c3, rfl, hc3, hC3, hb⟩; have n0_ := Aside0.mk (below_step (by repeat (first | (with_reducible first | exact HB.out | apply below_alloc | apply pw_below_drewN | apply below_drew1) | exact HB.out)) hb); clear HB; have HB := n0_; clear n0_; clear hb))
                  refine start_ (n := 16) (S := fun w' => True) (ds := []) #[false, false, false, false, false, false, false, false, false, false, false, false, false, false, false, false] (by kernel_rfl) rfl rfl trivial (fun hHeld => ?_)
                  refine pure_ (i := 0) (N := some 65) (v := ?_) (a' := ?_) #[true, false, false, false, false, false, false, false, false, false, false, false, false, false, false, false] rfl rfl (by kernel_rfl) (fun _ _ _ h => h) (Or.inl ⟨by rfl, ?_⟩) ?_ ?_
                  rotate_left
                  · intro w'
                    go_simp
                    with_reducible rfl
                  rotate_left
                  · simp only [Act.put, List.setIfInBounds_toArray, List.set_cons_zero, List.set_cons_succ, i64_w, i32_w]
                    rfl
                  refine pure_ (i := 1) (N := some 66) (v := ?_) (a' := ?_) #[true, true, false, false, false, false, false, false, false, false, false, false, false, false, false, false] rfl rfl (by kernel_rfl) (fun _ _ _ h => h) (Or.inl ⟨by rfl, ?_⟩) ?_ ?_
                  rotate_left
                  · intro w'
                    go_simp
                    with_reducible rfl
                  rotate_left
                  · simp only [Act.put, List.setIfInBounds_toArray, List.set_cons_zero, List.set_cons_succ, i64_w, i32_w]
                    rfl
                  refine pure_ (i := 2) (N := some 67) (v := ?_) (a' := ?_) #[true, true, true, false, false, false, false, false, false, false, false, false, false, false, false, false] rfl rfl (by kernel_rfl) (fun _ _ _ h => h) (Or.inl ⟨by rfl, ?_⟩) ?_ ?_
                  rotate_left
                  · intro w'
                    go_simp
                    with_reducible rfl
                  rotate_left
                  · simp only [Act.put, List.setIfInBounds_toArray, List.set_cons_zero, List.set_cons_succ, i64_w, i32_w]
                    rfl
                  refine pure_ (i := 3) (N := some 68) (v := ?_) (a' := ?_) #[true, true, true, true, false, false, false, false, false, false, false, false, false, false, false, false] rfl rfl (by kernel_rfl) (fun _ _ _ h => h) (Or.inl ⟨by rfl, ?_⟩) ?_ ?_
                  rotate_left
                  · intro w'
                    go_simp
                    with_reducible rfl
                  rotate_left
                  · simp only [Act.put, List.setIfInBounds_toArray, List.set_cons_zero, List.set_cons_succ, i64_w, i32_w]
                    rfl
                  refine pure_ (i := 4) (N := some 69) (v := ?_) (a' := ?_) #[true, true, true, true, true, false, false, false, false, false, false, false, false, false, false, false] rfl rfl (by kernel_rfl) (fun _ _ _ h => h) (Or.inl ⟨by rfl, ?_⟩) ?_ ?_
                  rotate_left
                  · intro w'
                    go_simp
                    with_reducible rfl
                  rotate_left
                  · simp only [Act.put, List.setIfInBounds_toArray, List.set_cons_zero, List.set_cons_succ, i64_w, i32_w]
                    rfl
                  refine pure_ (i := 7) (N := some 72) (v := ?_) (a' := ?_) #[true, true, true, true, true, false, false, true, false, false, false, false, false, false, false, false] rfl rfl (by kernel_rfl) (fun _ _ _ h => h) (Or.inl ⟨by rfl, ?_⟩) ?_ ?_
                  rotate_left
                  · intro w'
                    go_simp
                    with_reducible rfl
                  rotate_left
                  · simp only [Act.put, List.setIfInBounds_toArray, List.set_cons_zero, List.set_cons_succ, i64_w, i32_w]
                    rfl
                  refine pure_ (i := 8) (N := some 73) (v := ?_) (a' := ?_) #[true, true, true, true, true, false, false, true, true, false, false, false, false, false, false, false] rfl rfl (by kernel_rfl) (fun _ _ _ h => h) (Or.inl ⟨by rfl, ?_⟩) ?_ ?_
                  rotate_left
                  · intro w'
                    go_simp
                    with_reducible rfl
                  rotate_left
                  · simp only [Act.put, List.setIfInBounds_toArray, List.set_cons_zero, List.set_cons_succ, i64_w, i32_w]
                    rfl
                  refine pure_ (i := 9) (N := some 74) (v := ?_) (a' := ?_) #[true, true, true, true, true, false, false, true, true, true, false, false, false, false, false, false] rfl rfl (by kernel_rfl) (fun _ _ _ h => h) (Or.inl ⟨by rfl, ?_⟩) ?_ ?_
                  rotate_left
                  · intro w'
                    go_simp
                    with_reducible rfl
                  rotate_left
                  · simp only [Act.put, List.setIfInBounds_toArray, List.set_cons_zero, List.set_cons_succ, i64_w, i32_w]
                    rfl
                  refine pure_ (i := 10) (N := some 75) (v := ?_) (a' := ?_) #[true, true, true, true, true, false, false, true, true, true, true, false, false, false, false, false] rfl rfl (by kernel_rfl) (fun _ _ _ h => h) (Or.inl ⟨by rfl, ?_⟩) ?_ ?_
                  rotate_left
                  · intro w'
                    go_simp
                    with_reducible rfl
                  rotate_left
                  · simp only [Act.put, List.setIfInBounds_toArray, List.set_cons_zero, List.set_cons_succ, i64_w, i32_w]
                    rfl
                  refine join_ (σ := (Nat × Nat) × (Option Addr × Nat)) 4 #[true, true, true, true, true, true, true, true, true, true, true, true, false, false, false, false] (fun s => [(70, .slice (some ⟨s.1.1, 0, none⟩) 1 1), (71, .slice s.2.1 b1.length s.2.2), (76, .slice (some ⟨s.1.2, 0, none⟩) 1 1)]) (fun s w' => Below w3.heap.size w3 w' ∧ b1.length ≤ s.2.2 ∧ Kd.C k27 w' s.2.1 b1.length b1 ∧ w'.heap[s.1.2]? = some (.cells #[.slice AB lq.length cB] 22 (0, 0))) ?_ ?_
                  rotate_left
                  · intro hCont
                    refine two_ (i := 5) (j := 11) (Ni := some 70) (Nj := some 76) #[true, true, true, true, true, true, false, true, true, true, true, false, false, false, false, false] #[true, true, true, true, true, false, false, true, true, true, true, true, false, false, false, false] rfl rfl rfl rfl (by kernel_rfl) (by decide) (by decide) (fun K hK => ?_) (fun K hK => ?_)
                    · skip
                      refine value_ (w1 := ?_) (v := ?_) (by rfl) rfl ?_ ?_
                      rotate_left 2
                      · go_simp
                        constructor
                        · rfl
                        · rfl
                      refine hK.out _ _ trivial (fun hHeld => ?_)
                      clear hK K
                      refine norm_ (a' := ?_) ?_ ?_
                      rotate_left
                      · show Act.put _ (some 70) _ = _
                        simp only [Act.put, List.setIfInBounds_toArray, List.set_cons_zero, List.set_cons_succ, i64_w, i32_w]
                        rfl
                      refine two_ (i := 6) (j := 11) (Ni := some 71) (Nj := some 76) #[true, true, true, true, true, true, true, true, true, true, true, false, false, false, false, false] #[true, true, true, true, true, true, false, true, true, true, true, true, false, false, false, false] rfl rfl rfl rfl (by kernel_rfl) (by decide) (by decide) (fun K hK => ?_) (fun K hK => ?_)
                      · skip
                        have hBW := (below_drew (below_alloc (Below.refl _ _) _) : Below w3.heap.size w3 ((w3.alloc (.cells #[.slice A lp.length c] 22)).drew))
                        refine goes_ Try.func19 (by kernel_rfl) rfl #[.int .i64 n, .slice (some ⟨w3.heap.size, 0, none⟩) 1 1] (by rfl) rfl rfl (by simp only [List.map_toArray, List.map_cons, List.map_nil]; rfl) ?_
                        refine (Best_one n A c lp ((w3.alloc (.cells #[.slice A lp.length c] 22)).drew) (w3.heap.size) (blk_drew (blk_new w3 _)) HP.out.1 (Kd.C_below (Kd.C_below CP.out HB.out) hBW) HP.out.2.1 HP.out.2.2 b1 EB1.out).mono ?_
                        rintro e w4 ⟨Ar_, cr_, rfl, hcr_, hCr_, hb_⟩
                        refine ⟨_, rfl, ?_⟩
                        have BX := Aside0.mk (below_step hBW hb_ : Below w3.heap.size w3 w4)
                        clear hBW hb_
                        refine hK.out _ _ trivial (fun hHeld => ?_)
                        clear hK K
                        refine norm_ (a' := ?_) ?_ ?_
                        rotate_left
                        · show Act.put _ (some 71) _ = _
                          simp only [Act.put, List.setIfInBounds_toArray, List.set_cons_zero, List.set_cons_succ, i64_w, i32_w]
                          rfl
                        refine one_ (i := 11) (N := some 76) #[true, true, true, true, true, true, true, true, true, true, true, true, false, false, false, false] rfl rfl (by kernel_rfl) (by decide) (fun K hK => ?_)
                        refine value_ (w1 := ?_) (v := ?_) (by rfl) rfl ?_ ?_
                        rotate_left 2
                        · go_simp
                          constructor
                          · rfl
                          · rfl
                        refine hK.out _ _ trivial (fun hHeld => ?_)
                        clear hK K
                        refine norm_ (a' := ?_) ?_ ?_
                        rotate_left
                        · show Act.put _ (some 76) _ = _
                          simp only [Act.put, List.setIfInBounds_toArray, List.set_cons_zero, List.set_cons_succ, i64_w, i32_w]
                          rfl
                        exact norm_ (by simp only [putAll, Act.put, List.setIfInBounds_toArray, List.set_cons_zero, List.set_cons_succ]) (hCont ((w3.heap.size, w4.heap.size), (Ar_, cr_)) _ ⟨BX.out.alloc BX.out.size _, hcr_.out, Kd.C_below hCr_.out (below_alloc (Below.refl _ _) _), blk_new w4 _⟩)
                      · skip
                        refine value_ (w1 := ?_) (v := ?_) (by rfl) rfl ?_ ?_
                        rotate_left 2
                        · go_simp
                          constructor
                          · rfl
                          · rfl
                        refine hK.out _ _ trivial (fun hHeld => ?_)
                        clear hK K
                        refine norm_ (a' := ?_) ?_ ?_
                        rotate_left
                        · show Act.put _ (some 76) _ = _
                          simp only [Act.put, List.setIfInBounds_toArray, List.set_cons_zero, List.set_cons_succ, i64_w, i32_w]
                          rfl
                        refine one_ (i := 6) (N := some 71) #[true, true, true, true, true, true, true, true, true, true, true, true, false, false, false, false] rfl rfl (by kernel_rfl) (by decide) (fun K hK => ?_)
                        have hBW := (below_drew ((below_alloc (Below.refl _ w3) _).alloc (by rw [size_alloc_]; omega) _) : Below w3.heap.size w3 ((w3.alloc (.cells #[.slice A lp.length c] 22)).alloc (.cells #[.slice AB lq.length cB] 22)).drew)
                        refine goes_ Try.func19 (by kernel_rfl) rfl #[.int .i64 n, .slice (some ⟨w3.heap.size, 0, none⟩) 1 1] (by rfl) rfl rfl (by simp only [List.map_toArray, List.map_cons, List.map_nil]; rfl) ?_
                        refine (Best_one n A c lp (((w3.alloc (.cells #[.slice A lp.length c] 22)).alloc (.cells #[.slice AB lq.length cB] 22)).drew) (w3.heap.size) (blk_drew (blk_alloc (blk_new w3 _) _)) HP.out.1 (Kd.C_below (Kd.C_below CP.out HB.out) hBW) HP.out.2.1 HP.out.2.2 b1 EB1.out).mono ?_
                        rintro e w4 ⟨Ar_, cr_, rfl, hcr_, hCr_, hb_⟩
                        refine ⟨_, rfl, ?_⟩
                        have BX := Aside0.mk (below_step hBW hb_ : Below w3.heap.size w3 w4)
                        have HY := Aside0.mk (blk_below (g := w3.heap.size + 1) (o := .cells #[.slice AB lq.length cB] 22 (0, 0)) (blk_drew (blk_new2 w3 _ _)) hb_)
                        clear hBW hb_
                        refine hK.out _ _ trivial (fun hHeld => ?_)
                        clear hK K
                        refine norm_ (a' := ?_) ?_ ?_
                        rotate_left
                        · show Act.put _ (some 71) _ = _
                          simp only [Act.put, List.setIfInBounds_toArray, List.set_cons_zero, List.set_cons_succ, i64_w, i32_w]
                          rfl
                        exact norm_ (by simp only [putAll, Act.put, List.setIfInBounds_toArray, List.set_cons_zero, List.set_cons_succ]) (hCont ((w3.heap.size, w3.heap.size + 1), (Ar_, cr_)) _ ⟨BX.out, hcr_.out, hCr_.out, HY.out⟩)
                    · skip
                      refine value_ (w1 := ?_) (v := ?_) (by rfl) rfl ?_ ?_
                      rotate_left 2
                      · go_simp
                        constructor
                        · rfl
                        · rfl
                      refine hK.out _ _ trivial (fun hHeld => ?_)
                      clear hK K
                      refine norm_ (a' := ?_) ?_ ?_
                      rotate_left
                      · show Act.put _ (some 76) _ = _
                        simp only [Act.put, List.setIfInBounds_toArray, List.set_cons_zero, List.set_cons_succ, i64_w, i32_w]
                        rfl
                      refine one_ (i := 5) (N := some 70) #[true, true, true, true, true, true, false, true, true, true, true, true, false, false, false, false] rfl rfl (by kernel_rfl) (by decide) (fun K hK => ?_)
                      refine value_ (w1 := ?_) (v := ?_) (by rfl) rfl ?_ ?_
                      rotate_left 2
                      · go_simp
                        constructor
                        · rfl
                        · rfl
                      refine hK.out _ _ trivial (fun hHeld => ?_)
                      clear hK K
                      refine norm_ (a' := ?_) ?_ ?_
                      rotate_left
                      · show Act.put _ (some 70) _ = _
                        simp only [Act.put, List.setIfInBounds_toArray, List.set_cons_zero, List.set_cons_succ, i64_w, i32_w]
                        rfl
                      refine one_ (i := 6) (N := some 71) #[true, true, true, true, true, true, true, true, true, true, true, true, false, false, false, false] rfl rfl (by kernel_rfl) (by decide) (fun K hK => ?_)
                      have hBW := (below_drew ((below_alloc (Below.refl _ w3) _).alloc (by rw [size_alloc_]; omega) _) : Below w3.heap.size w3 ((w3.alloc (.cells #[.slice AB lq.length cB] 22)).alloc (.cells #[.slice A lp.length c] 22)).drew)
                      refine goes_ Try.func19 (by kernel_rfl) rfl #[.int .i64 n, .slice (some ⟨w3.heap.size + 1, 0, none⟩) 1 1] (by rfl) rfl rfl (by simp only [List.map_toArray, List.map_cons, List.map_nil]; rfl) ?_
                      refine (Best_one n A c lp (((w3.alloc (.cells #[.slice AB lq.length cB] 22)).alloc (.cells #[.slice A lp.length c] 22)).drew) (w3.heap.size + 1) (blk_drew (blk_new2 w3 _ _)) HP.out.1 (Kd.C_below (Kd.C_below CP.out HB.out) hBW) HP.out.2.1 HP.out.2.2 b1 EB1.out).mono ?_
                      rintro e w4 ⟨Ar_, cr_, rfl, hcr_, hCr_, hb_⟩
                      refine ⟨_, rfl, ?_⟩
                      have BX := Aside0.mk (below_step hBW hb_ : Below w3.heap.size w3 w4)
                      have HY := Aside0.mk (blk_below (g := w3.heap.size) (o := .cells #[.slice AB lq.length cB] 22 (0, 0)) (blk_drew (blk_alloc (blk_new w3 _) _)) hb_)
                      clear hBW hb_
                      refine hK.out _ _ trivial (fun hHeld => ?_)
                      clear hK K
                      refine norm_ (a' := ?_) ?_ ?_
                      rotate_left
                      · show Act.put _ (some 71) _ = _
                        simp only [Act.put, List.setIfInBounds_toArray, List.set_cons_zero, List.set_cons_succ, i64_w, i32_w]
                        rfl
                      exact norm_ (by simp only [putAll, Act.put, List.setIfInBounds_toArray, List.set_cons_zero, List.set_cons_succ]) (hCont ((w3.heap.size + 1, w3.heap.size), (Ar_, cr_)) _ ⟨BX.out, hcr_.out, hCr_.out, HY.out⟩)
                  rintro ⟨⟨g5, g11⟩, ⟨A_w4, c_w4⟩⟩ w4 ⟨hBW, hc_w4, hC_w4, hb11⟩
                  have HB_w4 := Aside0.mk (below_step HB.out hBW)
                  have B1_w4 := Aside0.mk hBW
                  have hHeld : True := trivial
                  refine norm_ (a' := ?_) ?_ ?_
                  rotate_left
                  · simp only [putAll, Act.put, List.setIfInBounds_toArray, List.set_cons_zero, List.set_cons_succ]
                    rfl
                  refine one_ (i := 12) (N := some 77) #[true, true, true, true, true, true, true, true, true, true, true, true, true, false, false, false] rfl rfl (by kernel_rfl) (by decide) (fun K hK => ?_)
                  refine goes_ Try.func19 (by kernel_rfl) rfl #[.int .i64 n, .slice (some ⟨g11, 0, none⟩) 1 1] (by rfl) rfl rfl (by simp only [List.map_toArray, List.map_cons, List.map_nil]; rfl) ?_
                  refine (Best_one n AB cB lq w4 g11 hb11 HQ.out.1 (Kd.C_below CQ.out HB_w4.out) HQ.out.2.1 HQ.out.2.2 b2 EB2.out).mono ?_
                  rintro e w5 ⟨A_w5, c_w5, rfl, hc_w5, hC_w5, hb_⟩
                  refine ⟨_, rfl, ?_⟩
                  have CX := Aside0.mk (Kd.C_below hC_w4 hb_)
                  have BY := Aside0.mk (below_step B1_w4.out hb_)
                  clear hb_ hb11 hC_w4
                  refine hK.out _ _ trivial (fun hHeld => ?_)
                  clear hK K
                  refine norm_ (a' := ?_) ?_ ?_
                  rotate_left
                  · show Act.put _ (some 77) _ = _
                    simp only [Act.put, List.setIfInBounds_toArray, List.set_cons_zero, List.set_cons_succ, i64_w, i32_w]
                    rfl
                  refine one_ (i := 13) (N := some 78) #[true, true, true, true, true, true, true, true, true, true, true, true, true, true, false, false] rfl rfl (by kernel_rfl) (by decide) (fun K hK => ?_)
                  refine value_ (w1 := ?_) (v := ?_) (by rfl) rfl ?_ ?_
                  rotate_left 2
                  · go_simp
                    constructor
                    · rfl
                    · rfl
                  refine hK.out _ _ trivial (fun hHeld => ?_)
                  clear hK K
                  refine norm_ (a' := ?_) ?_ ?_
                  rotate_left
                  · show Act.put _ (some 78) _ = _
                    simp only [Act.put, List.setIfInBounds_toArray, List.set_cons_zero, List.set_cons_succ, i64_w, i32_w]
                    rfl
                  refine one_ (i := 14) (N := some 79) #[true, true, true, true, true, true, true, true, true, true, true, true, true, true, true, false] rfl rfl (by kernel_rfl) (by decide) (fun K hK => ?_)
                  refine goes_ Try.func19 (by kernel_rfl) rfl #[.int .i64 n, .slice (some ⟨w5.heap.size, 0, none⟩) 2 2] (by rfl) rfl rfl (by simp only [List.map_toArray, List.map_cons, List.map_nil]; rfl) ?_
                  refine (Best_two n A_w4 A_w5 c_w4 c_w5 b1 b2 (w5.alloc (.cells #[.slice A_w4 b1.length c_w4, .slice A_w5 b2.length c_w5] 22)) w5.heap.size (blk_new w5 _) hc_w4 (Kd.C_below CX.out (below_alloc (Below.refl _ _) _)) hc_w5.out (Kd.C_below hC_w5.out (below_alloc (Below.refl _ _) _)) GB.out.1 GB.out.2 la L1.out).mono ?_
                  rintro e w6 ⟨A_w6, c_w6, rfl, hc_w6, hC_w6, hb_⟩
                  refine ⟨_, rfl, ?_⟩
                  have BZ_w6 := Aside0.mk (below_step (BY.out.alloc BY.out.size _) hb_ : Below w3.heap.size w3 w6)
                  have n0_ := Aside0.mk (below_step HB.out BZ_w6.out)
                  clear hb_
                  refine hK.out _ _ trivial (fun hHeld => ?_)
                  clear hK K
                  refine norm_ (a' := ?_) ?_ ?_
                  rotate_left
                  · show Act.put _ (some 79) _ = _
                    simp only [Act.put, List.setIfInBounds_toArray, List.set_cons_zero, List.set_cons_succ, i64_w, i32_w]
                    rfl
                  refine pure_ (i := 15) (N := some 12) (v := ?_) (a' := ?_) #[true, true, true, true, true, true, true, true, true, true, true, true, true, true, true, true] rfl rfl (by kernel_rfl) (fun _ _ _ h => h) (Or.inl ⟨by rfl, ?_⟩) ?_ ?_
                  rotate_left
                  · intro w'
                    go_simp
                    with_reducible rfl
                  rotate_left
                  · simp only [Act.put, List.setIfInBounds_toArray, List.set_cons_zero, List.set_cons_succ, i64_w, i32_w]
                    rfl
                  refine done_ (by kernel_rfl) ?_
                  clear HB
                  have HB := n0_
                  clear n0_
                  have CA6 := Aside0.mk (Kd.C_below hC3.out BZ_w6.out)
                  go_wp2_with (first | (go_at_call 21; (refine (First_one n A c l _ _ (blk_new _ _) hc (Kd.C_below HC.out (by repeat (first | (with_reducible first | exact HB.out | apply below_alloc | apply pw_below_drewN | apply below_drew1) | exact HB.out))) HU.out HL5.out lc EC.out).mono ?_); rintro e w7 ⟨A7, c7, rfl, hc7, hC7, hb⟩; have CA7 := Aside0.mk (Kd.C_below CA6.out (below_step (below_alloc (Below.refl _ _) _) hb)); have CB7 := Aside0.mk (Kd.C_below hC_w6.out (below_step (below_alloc (Below.refl _ _) _) hb)); have n0_ := Aside0.mk (below_step (by repeat (first | (with_reducible first | exact HB.out | apply below_alloc | apply pw_below_drewN | apply below_drew1) | exact HB.out)) hb); clear HB; have HB := n0_; clear n0_; clear hb))
                  refine start_ (n := 16) (S := fun w' => True) (ds := []) #[false, false, false, false, false, false, false, false, false, false, false, false, false, false, false, false] (by kernel_rfl) rfl rfl trivial (fun hHeld => ?_)
                  refine pure_ (i := 0) (N := some 84) (v := ?_) (a' := ?_) #[true, false, false, false, false, false, false, false, false, false, false, false, false, false, false, false] rfl rfl (by kernel_rfl) (fun _ _ _ h => h) (Or.inl ⟨by rfl, ?_⟩) ?_ ?_
                  rotate_left
                  · intro w'
                    go_simp
                    with_reducible rfl
                  rotate_left
                  · simp only [Act.put, List.setIfInBounds_toArray, List.set_cons_zero, List.set_cons_succ, i64_w, i32_w]
                    rfl
                  refine pure_ (i := 1) (N := some 85) (v := ?_) (a' := ?_) #[true, true, false, false, false, false, false, false, false, false, false, false, false, false, false, false] rfl rfl (by kernel_rfl) (fun _ _ _ h => h) (Or.inl ⟨by rfl, ?_⟩) ?_ ?_
                  rotate_left
                  · intro w'
                    go_simp
                    with_reducible rfl
                  rotate_left
                  · simp only [Act.put, List.setIfInBounds_toArray, List.set_cons_zero, List.set_cons_succ, i64_w, i32_w]
                    rfl
                  refine pure_ (i := 2) (N := some 86) (v := ?_) (a' := ?_) #[true, true, true, false, false, false, false, false, false, false, false, false, false, false, false, false] rfl rfl (by kernel_rfl) (fun _ _ _ h => h) (Or.inl ⟨by rfl, ?_⟩) ?_ ?_
                  rotate_left
                  · intro w'
                    go_simp
                    with_reducible rfl
                  rotate_left
                  · simp only [Act.put, List.setIfInBounds_toArray, List.set_cons_zero, List.set_cons_succ, i64_w, i32_w]
                    rfl
                  refine pure_ (i := 3) (N := some 87) (v := ?_) (a' := ?_) #[true, true, true, true, false, false, false, false, false, false, false, false, false, false, false, false] rfl rfl (by kernel_rfl) (fun _ _ _ h => h) (Or.inl ⟨by rfl, ?_⟩) ?_ ?_
                  rotate_left
                  · intro w'
                    go_simp
                    with_reducible rfl
                  rotate_left
                  · simp only [Act.put, List.setIfInBounds_toArray, List.set_cons_zero, List.set_cons_succ, i64_w, i32_w]
                    rfl
                  refine pure_ (i := 4) (N := some 88) (v := ?_) (a' := ?_) #[true, true, true, true, true, false, false, false, false, false, false, false, false, false, false, false] rfl rfl (by kernel_rfl) (fun _ _ _ h => h) (Or.inl ⟨by rfl, ?_⟩) ?_ ?_
                  rotate_left
                  · intro w'
                    go_simp
                    with_reducible rfl
                  rotate_left
                  · simp only [Act.put, List.setIfInBounds_toArray, List.set_cons_zero, List.set_cons_succ, i64_w, i32_w]
                    rfl
                  refine pure_ (i := 7) (N := some 91) (v := ?_) (a' := ?_) #[true, true, true, true, true, false, false, true, false, false, false, false, false, false, false, false] rfl rfl (by kernel_rfl) (fun _ _ _ h => h) (Or.inl ⟨by rfl, ?_⟩) ?_ ?_
                  rotate_left
                  · intro w'
                    go_simp
                    with_reducible rfl
                  rotate_left
                  · simp only [Act.put, List.setIfInBounds_toArray, List.set_cons_zero, List.set_cons_succ, i64_w, i32_w]
                    rfl
                  refine pure_ (i := 8) (N := some 92) (v := ?_) (a' := ?_) #[true, true, true, true, true, false, false, true, true, false, false, false, false, false, false, false] rfl rfl (by kernel_rfl) (fun _ _ _ h => h) (Or.inl ⟨by rfl, ?_⟩) ?_ ?_
                  rotate_left
                  · intro w'
                    go_simp
                    with_reducible rfl
                  rotate_left
                  · simp only [Act.put, List.setIfInBounds_toArray, List.set_cons_zero, List.set_cons_succ, i64_w, i32_w]
                    rfl
                  refine pure_ (i := 9) (N := some 93) (v := ?_) (a' := ?_) #[true, true, true, true, true, false, false, true, true, true, false, false, false, false, false, false] rfl rfl (by kernel_rfl) (fun _ _ _ h => h) (Or.inl ⟨by rfl, ?_⟩) ?_ ?_
                  rotate_left
                  · intro w'
                    go_simp
                    with_reducible rfl
                  rotate_left
                  · simp only [Act.put, List.setIfInBounds_toArray, List.set_cons_zero, List.set_cons_succ, i64_w, i32_w]
                    rfl
                  refine pure_ (i := 10) (N := some 94) (v := ?_) (a' := ?_) #[true, true, true, true, true, false, false, true, true, true, true, false, false, false, false, false] rfl rfl (by kernel_rfl) (fun _ _ _ h => h) (Or.inl ⟨by rfl, ?_⟩) ?_ ?_
                  rotate_left
                  · intro w'
                    go_simp
                    with_reducible rfl
                  rotate_left
                  · simp only [Act.put, List.setIfInBounds_toArray, List.set_cons_zero, List.set_cons_succ, i64_w, i32_w]
                    rfl
                  refine join_ (σ := (Nat × Nat) × (Option Addr × Nat)) 4 #[true, true, true, true, true, true, true, true, true, true, true, true, false, false, false, false] (fun s => [(89, .slice (some ⟨s.1.1, 0, none⟩) 1 1), (90, .slice s.2.1 f1.length s.2.2), (95, .slice (some ⟨s.1.2, 0, none⟩) 1 1)]) (fun s w' => Below w7.heap.size w7 w' ∧ f1.length ≤ s.2.2 ∧ Kd.C k27 w' s.2.1 f1.length f1 ∧ w'.heap[s.1.2]? = some (.cells #[.slice A lp.length c] 22 (0, 0))) ?_ ?_
                  rotate_left
                  · intro hCont
                    refine two_ (i := 5) (j := 11) (Ni := some 89) (Nj := some 95) #[true, true, true, true, true, true, false, true, true, true, true, false, false, false, false, false] #[true, true, true, true, true, false, false, true, true, true, true, true, false, false, false, false] rfl rfl rfl rfl (by kernel_rfl) (by decide) (by decide) (fun K hK => ?_) (fun K hK => ?_)
                    · skip
                      refine value_ (w1 := ?_) (v := ?_) (by rfl) rfl ?_ ?_
                      rotate_left 2
                      · go_simp
                        constructor
                        · rfl
                        · rfl
                      refine hK.out _ _ trivial (fun hHeld => ?_)
                      clear hK K
                      refine norm_ (a' := ?_) ?_ ?_
                      rotate_left
                      · show Act.put _ (some 89) _ = _
                        simp only [Act.put, List.setIfInBounds_toArray, List.set_cons_zero, List.set_cons_succ, i64_w, i32_w]
                        rfl
                      refine two_ (i := 6) (j := 11) (Ni := some 90) (Nj := some 95) #[true, true, true, true, true, true, true, true, true, true, true, false, false, false, false, false] #[true, true, true, true, true, true, false, true, true, true, true, true, false, false, false, false] rfl rfl rfl rfl (by kernel_rfl) (by decide) (by decide) (fun K hK => ?_) (fun K hK => ?_)
                      · skip
                        have hBW := (below_drew (below_alloc (Below.refl _ _) _) : Below w7.heap.size w7 ((w7.alloc (.cells #[.slice AB lq.length cB] 22)).drew))
                        refine goes_ Try.func21 (by kernel_rfl) rfl #[.int .i64 n, .slice (some ⟨w7.heap.size, 0, none⟩) 1 1] (by rfl) rfl rfl (by simp only [List.map_toArray, List.map_cons, List.map_nil]; rfl) ?_
                        refine (First_one n AB cB lq ((w7.alloc (.cells #[.slice AB lq.length cB] 22)).drew) (w7.heap.size) (blk_drew (blk_new w7 _)) HQ.out.1 (Kd.C_below (Kd.C_below CQ.out HB.out) hBW) HQ.out.2.1 HQ.out.2.2 f1 EF1.out).mono ?_
                        rintro e w8 ⟨Ar_, cr_, rfl, hcr_, hCr_, hb_⟩
                        refine ⟨_, rfl, ?_⟩
                        have BX := Aside0.mk (below_step hBW hb_ : Below w7.heap.size w7 w8)
                        clear hBW hb_
                        refine hK.out _ _ trivial (fun hHeld => ?_)
                        clear hK K
                        refine norm_ (a' := ?_) ?_ ?_
                        rotate_left
                        · show Act.put _ (some 90) _ = _
                          simp only [Act.put, List.setIfInBounds_toArray, List.set_cons_zero, List.set_cons_succ, i64_w, i32_w]
                          rfl
                        refine one_ (i := 11) (N := some 95) #[true, true, true, true, true, true, true, true, true, true, true, true, false, false, false, false] rfl rfl (by kernel_rfl) (by decide) (fun K hK => ?_)
                        refine value_ (w1 := ?_) (v := ?_) (by rfl) rfl ?_ ?_
                        rotate_left 2
                        · go_simp
                          constructor
                          · rfl
                          · rfl
                        refine hK.out _ _ trivial (fun hHeld => ?_)
                        clear hK K
                        refine norm_ (a' := ?_) ?_ ?_
                        rotate_left
                        · show Act.put _ (some 95) _ = _
                          simp only [Act.put, List.setIfInBounds_toArray, List.set_cons_zero, List.set_cons_succ, i64_w, i32_w]
                          rfl
                        exact norm_ (by simp only [putAll, Act.put, List.setIfInBounds_toArray, List.set_cons_zero, List.set_cons_succ]) (hCont ((w7.heap.size, w8.heap.size), (Ar_, cr_)) _ ⟨BX.out.alloc BX.out.size _, hcr_.out, Kd.C_below hCr_.out (below_alloc (Below.refl _ _) _), blk_new w8 _⟩)
                      · skip
                        refine value_ (w1 := ?_) (v := ?_) (by rfl) rfl ?_ ?_
                        rotate_left 2
                        · go_simp
                          constructor
                          · rfl
                          · rfl
                        refine hK.out _ _ trivial (fun hHeld => ?_)
                        clear hK K
                        refine norm_ (a' := ?_) ?_ ?_
                        rotate_left
                        · show Act.put _ (some 95) _ = _
                          simp only [Act.put, List.setIfInBounds_toArray, List.set_cons_zero, List.set_cons_succ, i64_w, i32_w]
                          rfl
                        refine one_ (i := 6) (N := some 90) #[true, true, true, true, true, true, true, true, true, true, true, true, false, false, false, false] rfl rfl (by kernel_rfl) (by decide) (fun K hK => ?_)
                        have hBW := (below_drew ((below_alloc (Below.refl _ w7) _).alloc (by rw [size_alloc_]; omega) _) : Below w7.heap.size w7 ((w7.alloc (.cells #[.slice AB lq.length cB] 22)).alloc (.cells #[.slice A lp.length c] 22)).drew)
                        refine goes_ Try.func21 (by kernel_rfl) rfl #[.int .i64 n, .slice (some ⟨w7.heap.size, 0, none⟩) 1 1] (by rfl) rfl rfl (by simp only [List.map_toArray, List.map_cons, List.map_nil]; rfl) ?_
                        refine (First_one n AB cB lq (((w7.alloc (.cells #[.slice AB lq.length cB] 22)).alloc (.cells #[.slice A lp.length c] 22)).drew) (w7.heap.size) (blk_drew (blk_alloc (blk_new w7 _) _)) HQ.out.1 (Kd.C_below (Kd.C_below CQ.out HB.out) hBW) HQ.out.2.1 HQ.out.2.2 f1 EF1.out).mono ?_
                        rintro e w8 ⟨Ar_, cr_, rfl, hcr_, hCr_, hb_⟩
                        refine ⟨_, rfl, ?_⟩
                        have BX := Aside0.mk (below_step hBW hb_ : Below w7.heap.size w7 w8)
                        have HY := Aside0.mk (blk_below (g := w7.heap.size + 1) (o := .cells #[.slice A lp.length c] 22 (0, 0)) (blk_drew (blk_new2 w7 _ _)) hb_)
                        clear hBW hb_
                        refine hK.out _ _ trivial (fun hHeld => ?_)
                        clear hK K
                        refine norm_ (a' := ?_) ?_ ?_
                        rotate_left
                        · show Act.put _ (some 90) _ = _
                          simp only [Act.put, List.setIfInBounds_toArray, List.set_cons_zero, List.set_cons_succ, i64_w, i32_w]
                          rfl
                        exact norm_ (by simp only [putAll, Act.put, List.setIfInBounds_toArray, List.set_cons_zero, List.set_cons_succ]) (hCont ((w7.heap.size, w7.heap.size + 1), (Ar_, cr_)) _ ⟨BX.out, hcr_.out, hCr_.out, HY.out⟩)
                    · skip
                      refine value_ (w1 := ?_) (v := ?_) (by rfl) rfl ?_ ?_
                      rotate_left 2
                      · go_simp
                        constructor
                        · rfl
                        · rfl
                      refine hK.out _ _ trivial (fun hHeld => ?_)
                      clear hK K
                      refine norm_ (a' := ?_) ?_ ?_
                      rotate_left
                      · show Act.put _ (some 95) _ = _
                        simp only [Act.put, List.setIfInBounds_toArray, List.set_cons_zero, List.set_cons_succ, i64_w, i32_w]
                        rfl
                      refine one_ (i := 5) (N := some 89) #[true, true, true, true, true, true, false, true, true, true, true, true, false, false, false, false] rfl rfl (by kernel_rfl) (by decide) (fun K hK => ?_)
                      refine value_ (w1 := ?_) (v := ?_) (by rfl) rfl ?_ ?_
                      rotate_left 2
                      · go_simp
                        constructor
                        · rfl
                        · rfl
                      refine hK.out _ _ trivial (fun hHeld => ?_)
                      clear hK K
                      refine norm_ (a' := ?_) ?_ ?_
                      rotate_left
                      · show Act.put _ (some 89) _ = _
                        simp only [Act.put, List.setIfInBounds_toArray, List.set_cons_zero, List.set_cons_succ, i64_w, i32_w]
                        rfl
                      refine one_ (i := 6) (N := some 90) #[true, true, true, true, true, true, true, true, true, true, true, true, false, false, false, false] rfl rfl (by kernel_rfl) (by decide) (fun K hK => ?_)
                      have hBW := (below_drew ((below_alloc (Below.refl _ w7) _).alloc (by rw [size_alloc_]; omega) _) : Below w7.heap.size w7 ((w7.alloc (.cells #[.slice A lp.length c] 22)).alloc (.cells #[.slice AB lq.length cB] 22)).drew)
                      refine goes_ Try.func21 (by kernel_rfl) rfl #[.int .i64 n, .slice (some ⟨w7.heap.size + 1, 0, none⟩) 1 1] (by rfl) rfl rfl (by simp only [List.map_toArray, List.map_cons, List.map_nil]; rfl) ?_
                      refine (First_one n AB cB lq (((w7.alloc (.cells #[.slice A lp.length c] 22)).alloc (.cells #[.slice AB lq.length cB] 22)).drew) (w7.heap.size + 1) (blk_drew (blk_new2 w7 _ _)) HQ.out.1 (Kd.C_below (Kd.C_below CQ.out HB.out) hBW) HQ.out.2.1 HQ.out.2.2 f1 EF1.out).mono ?_
                      rintro e w8 ⟨Ar_, cr_, rfl, hcr_, hCr_, hb_⟩
                      refine ⟨_, rfl, ?_⟩
                      have BX := Aside0.mk (below_step hBW hb_ : Below w7.heap.size w7 w8)
                      have HY := Aside0.mk (blk_below (g := w7.heap.size) (o := .cells #[.slice A lp.length c] 22 (0, 0)) (blk_drew (blk_alloc (blk_new w7 _) _)) hb_)
                      clear hBW hb_
                      refine hK.out _ _ trivial (fun hHeld => ?_)
                      clear hK K
                      refine norm_ (a' := ?_) ?_ ?_
                      rotate_left
                      · show Act.put _ (some 90) _ = _
                        simp only [Act.put, List.setIfInBounds_toArray, List.set_cons_zero, List.set_cons_succ, i64_w, i32_w]
                        rfl
                      exact norm_ (by simp only [putAll, Act.put, List.setIfInBounds_toArray, List.set_cons_zero, List.set_cons_succ]) (hCont ((w7.heap.size + 1, w7.heap.size), (Ar_, cr_)) _ ⟨BX.out, hcr_.out, hCr_.out, HY.out⟩)
                  rintro ⟨⟨g5, g11⟩, ⟨A_w8, c_w8⟩⟩ w8 ⟨hBW, hc_w8, hC_w8, hb11⟩
                  have HB_w8 := Aside0.mk (below_step HB.out hBW)
                  have B1_w8 := Aside0.mk hBW
                  have hHeld : True := trivial
                  refine norm_ (a' := ?_) ?_ ?_
                  rotate_left
                  · simp only [putAll, Act.put, List.setIfInBounds_toArray, List.set_cons_zero, List.set_cons_succ]
                    rfl
                  refine one_ (i := 12) (N := some 96) #[true, true, true, true, true, true, true, true, true, true, true, true, true, false, false, false] rfl rfl (by kernel_rfl) (by decide) (fun K hK => ?_)
                  refine goes_ Try.func21 (by kernel_rfl) rfl #[.int .i64 n, .slice (some ⟨g11, 0, none⟩) 1 1] (by rfl) rfl rfl (by simp only [List.map_toArray, List.map_cons, List.map_nil]; rfl) ?_
                  refine (First_one n A c lp w8 g11 hb11 HP.out.1 (Kd.C_below CP.out HB_w8.out) HP.out.2.1 HP.out.2.2 f2 EF2.out).mono ?_
                  rintro e w9 ⟨A_w9, c_w9, rfl, hc_w9, hC_w9, hb_⟩
                  refine ⟨_, rfl, ?_⟩
                  have CX := Aside0.mk (Kd.C_below hC_w8 hb_)
                  have BY := Aside0.mk (below_step B1_w8.out hb_)
                  clear hb_ hb11 hC_w8
                  refine hK.out _ _ trivial (fun hHeld => ?_)
                  clear hK K
                  refine norm_ (a' := ?_) ?_ ?_
                  rotate_left
                  · show Act.put _ (some 96) _ = _
                    simp only [Act.put, List.setIfInBounds_toArray, List.set_cons_zero, List.set_cons_succ, i64_w, i32_w]
                    rfl
                  refine one_ (i := 13) (N := some 97) #[true, true, true, true, true, true, true, true, true, true, true, true, true, true, false, false] rfl rfl (by kernel_rfl) (by decide) (fun K hK => ?_)
                  refine value_ (w1 := ?_) (v := ?_) (by rfl) rfl ?_ ?_
                  rotate_left 2
                  · go_simp
                    constructor
                    · rfl
                    · rfl
                  refine hK.out _ _ trivial (fun hHeld => ?_)
                  clear hK K
                  refine norm_ (a' := ?_) ?_ ?_
                  rotate_left
                  · show Act.put _ (some 97) _ = _
                    simp only [Act.put, List.setIfInBounds_toArray, List.set_cons_zero, List.set_cons_succ, i64_w, i32_w]
                    rfl
                  refine one_ (i := 14) (N := some 98) #[true, true, true, true, true, true, true, true, true, true, true, true, true, true, true, false] rfl rfl (by kernel_rfl) (by decide) (fun K hK => ?_)
                  refine goes_ Try.func21 (by kernel_rfl) rfl #[.int .i64 n, .slice (some ⟨w9.heap.size, 0, none⟩) 2 2] (by rfl) rfl rfl (by simp only [List.map_toArray, List.map_cons, List.map_nil]; rfl) ?_
                  refine (First_two n A_w8 A_w9 c_w8 c_w9 f1 f2 (w9.alloc (.cells #[.slice A_w8 f1.length c_w8, .slice A_w9 f2.length c_w9] 22)) w9.heap.size (blk_new w9 _) hc_w8 (Kd.C_below CX.out (below_alloc (Below.refl _ _) _)) hc_w9.out (Kd.C_below hC_w9.out (below_alloc (Below.refl _ _) _)) GF.out.1 GF.out.2 lc L2.out).mono ?_
                  rintro e wa ⟨A_wa, c_wa, rfl, hc_wa, hC_wa, hb_⟩
                  refine ⟨_, rfl, ?_⟩
                  have BZ_wa := Aside0.mk (below_step (BY.out.alloc BY.out.size _) hb_ : Below w7.heap.size w7 wa)
                  have n0_ := Aside0.mk (below_step HB.out BZ_wa.out)
                  clear hb_
                  refine hK.out _ _ trivial (fun hHeld => ?_)
                  clear hK K
                  refine norm_ (a' := ?_) ?_ ?_
                  rotate_left
                  · show Act.put _ (some 98) _ = _
                    simp only [Act.put, List.setIfInBounds_toArray, List.set_cons_zero, List.set_cons_succ, i64_w, i32_w]
                    rfl
                  refine pure_ (i := 15) (N := some 14) (v := ?_) (a' := ?_) #[true, true, true, true, true, true, true, true, true, true, true, true, true, true, true, true] rfl rfl (by kernel_rfl) (fun _ _ _ h => h) (Or.inl ⟨by rfl, ?_⟩) ?_ ?_
                  rotate_left
                  · intro w'
                    go_simp
                    with_reducible rfl
                  rotate_left
                  · simp only [Act.put, List.setIfInBounds_toArray, List.set_cons_zero, List.set_cons_succ, i64_w, i32_w]
                    rfl
                  refine done_ (by kernel_rfl) ?_
                  clear HB
                  have HB := n0_
                  clear n0_
                  have CAa := Aside0.mk (Kd.C_below CA7.out BZ_wa.out)
                  have CBa := Aside0.mk (Kd.C_below CB7.out BZ_wa.out)
                  have CCa := Aside0.mk (Kd.C_below hC7.out BZ_wa.out)
                  by_cases hz : (la.length : Int) < less
                  · have dz : decide ((la.length : Int) < less) = true := decide_eq_true hz
                    obtain ⟨m, hm⟩ : ∃ m : Nat, m = ((la.length : Int)).toNat := ⟨_, rfl⟩
                    have hm0 : ((la.length : Int)) ≤ la.length := by omega
                    have hm1 : 0 ≤ ((la.length : Int)) := by have := H45.out; omega
                    obtain ⟨i0_, hi0_, _, hsz0_, _⟩ := info_parts info27
                    have cutC := cut_to (P := Try.prog) 22 27 .i64 hu22 hi0_ A3 la.length c3 ((la.length : Int)) hm1 hm0 hc3.out
                    rw [← hm] at cutC
                    have hle : le = la.take m := by rw [L3.out, hm]; rw [List.take_of_length_le (by omega), List.take_of_length_le (by omega)]
                    obtain ⟨lz, hlz⟩ : ∃ x, x = la.take m := ⟨_, rfl⟩
                    have nl : lz.length = m := by rw [hlz, List.length_take]; omega
                    have hcutC : ∀ W : World, (Instr.slice 22 (.slice A3 la.length c3) none (some (.int .i64 ((la.length : Int)))) none).run Try.prog W = .ok (.slice A3 lz.length c3) W := by rw [nl]; exact cutC
                    have CZ := Aside0.mk (show Kd.C k27 wa A3 lz.length lz from by rw [hlz]; exact Kd.C_take CAa.out (by omega))
                    have hkz : Aside0 (lz.length ≤ c3) := ⟨by have := hc3.out; omega⟩
                    rw [← hlz] at hle
                    have HLE := Aside0.mk hle
                    clear hi0_ hsz0_ hle nl cutC hm hm0 hm1 hlz hz
                    go_wp2_with (first | (go_at_call 18; (with_reducible refine (same_told A3 A_w6 c3 c_w6 la la _ CAa.out hc3.out CBa.out hc_w6.out ZA.out rfl).mono ?_); rintro e wb ⟨rfl, hb⟩; have CZb := Aside0.mk (Kd.C_below CZ.out hb); have CCb := Aside0.mk (Kd.C_below CCa.out hb); have CDb := Aside0.mk (Kd.C_below hC_wa.out hb); have n0_ := Aside0.mk (below_step HB.out hb); clear HB; have HB := n0_; clear n0_; clear hb) | (go_at_call 18; (with_reducible refine (same_told A7 A_wa c7 c_wa lc lc _ CCb.out hc7.out CDb.out hc_wa.out ZC.out rfl).mono ?_); rintro e wc ⟨rfl, hb⟩; have CZc := Aside0.mk (Kd.C_below CZb.out hb); have n0_ := Aside0.mk (below_step HB.out hb); clear HB; have HB := n0_; clear n0_; clear hb))
                    refine start_ (n := 9) (S := fun w' => True) (ds := []) #[false, false, false, false, false, false, false, false, false] (by kernel_rfl) rfl rfl trivial (fun hHeld => ?_)
                    refine pure_ (i := 0) (N := some 112) (v := ?_) (a' := ?_) #[true, false, false, false, false, false, false, false, false] rfl rfl (by kernel_rfl) (fun _ _ _ h => h) (Or.inl ⟨by rfl, ?_⟩) ?_ ?_
                    rotate_left
                    · intro w'
                      go_simp
                      with_reducible rfl
                    rotate_left
                    · simp only [Act.put, List.setIfInBounds_toArray, List.set_cons_zero, List.set_cons_succ, i64_w, i32_w]
                      rfl
                    refine pure_ (i := 1) (N := some 113) (v := ?_) (a' := ?_) #[true, true, false, false, false, false, false, false, false] rfl rfl (by kernel_rfl) (fun _ _ _ h => h) (Or.inl ⟨by rfl, ?_⟩) ?_ ?_
                    rotate_left
                    · intro w'
                      go_simp
                      with_reducible rfl
                    rotate_left
                    · simp only [Act.put, List.setIfInBounds_toArray, List.set_cons_zero, List.set_cons_succ, i64_w, i32_w]
                      rfl
                    refine pure_ (i := 4) (N := some 116) (v := ?_) (a' := ?_) #[true, true, false, false, true, false, false, false, false] rfl rfl (by kernel_rfl) (fun _ _ _ h => h) (Or.inl ⟨by rfl, ?_⟩) ?_ ?_
                    rotate_left
                    · intro w'
                      go_simp
                      with_reducible rfl
                    rotate_left
                    · simp only [Act.put, List.setIfInBounds_toArray, List.set_cons_zero, List.set_cons_succ, i64_w, i32_w]
                      rfl
                    refine pure_ (i := 5) (N := some 117) (v := ?_) (a' := ?_) #[true, true, false, false, true, true, false, false, false] rfl rfl (by kernel_rfl) (fun _ _ _ h => h) (Or.inl ⟨by rfl, ?_⟩) ?_ ?_
                    rotate_left
                    · intro w'
                      go_simp
                      with_reducible rfl
                    rotate_left
                    · simp only [Act.put, List.setIfInBounds_toArray, List.set_cons_zero, List.set_cons_succ, i64_w, i32_w]
                      rfl
                    refine pure_ (i := 6) (N := some 118) (v := ?_) (a' := ?_) #[true, true, false, false, true, true, true, false, false] rfl rfl (by kernel_rfl) (fun _ _ _ h => h) (Or.inl ⟨by rfl, ?_⟩) ?_ ?_
                    rotate_left
                    · intro w'
                      go_simp
                      with_reducible rfl
                    rotate_left
                    · simp only [Act.put, List.setIfInBounds_toArray, List.set_cons_zero, List.set_cons_succ, i64_w, i32_w]
                      rfl
                    refine one_ (i := 2) (N := some 114) #[true, true, true, false, true, true, true, false, false] rfl rfl (by kernel_rfl) (by decide) (fun K hK => ?_)
                    refine value_ (w1 := ?_) (v := ?_) (by rfl) rfl ?_ ?_
                    rotate_left 2
                    · go_simp
                      constructor
                      · rfl
                      · rfl
                    refine hK.out _ _ trivial (fun hHeld => ?_)
                    clear hK K
                    refine norm_ (a' := ?_) ?_ ?_
                    rotate_left
                    · show Act.put _ (some 114) _ = _
                      simp only [Act.put, List.setIfInBounds_toArray, List.set_cons_zero, List.set_cons_succ, i64_w, i32_w]
                      rfl
                    refine one_ (i := 3) (N := some 115) #[true, true, true, true, true, true, true, false, false] rfl rfl (by kernel_rfl) (by decide) (fun K hK => ?_)
                    refine goes_ Try.func19 (by kernel_rfl) rfl #[.int .i64 less, .slice (some ⟨wc.heap.size, 0, none⟩) 1 1] (by rfl) rfl rfl (by simp only [List.map_toArray, List.map_cons, List.map_nil]; rfl) ?_
                    refine (Best_one less A c l ((wc.alloc (.cells #[.slice A l.length c] 22)).drew) wc.heap.size (blk_drew (blk_new wc _)) hc (Kd.C_below (Kd.C_below HC.out HB.out) (below_drew (below_alloc (Below.refl _ _) _))) HU.out HL5.out le EE.out).mono ?_
                    rintro e wd ⟨Ad, cd, rfl, hcd, hCd, hb_⟩
                    refine ⟨_, rfl, ?_⟩
                    have BD := Aside0.mk (below_step (below_drew (below_alloc (Below.refl _ _) _)) hb_ : Below wc.heap.size wc wd)
                    have CZd := Aside0.mk (Kd.C_below CZc.out BD.out)
                    clear hb_
                    refine hK.out _ _ trivial (fun hHeld => ?_)
                    clear hK K
                    refine norm_ (a' := ?_) ?_ ?_
                    rotate_left
                    · show Act.put _ (some 115) _ = _
                      simp only [Act.put, List.setIfInBounds_toArray, List.set_cons_zero, List.set_cons_succ, i64_w, i32_w]
                      rfl
                    refine one_ (i := 7) (N := some 119) #[true, true, true, true, true, true, true, true, false] rfl rfl (by kernel_rfl) (by decide) (fun K hK => ?_)
                    refine goes_ Try.func18 (by kernel_rfl) rfl #[.slice Ad le.length cd, .slice A3 lz.length c3] (by rfl) rfl rfl (by simp only [List.map_toArray, List.map_cons, List.map_nil]; rfl) ?_
                    refine (same_told Ad A3 cd c3 le lz wd hCd.out hcd.out CZd.out hkz.out ZE.out HLE.out).mono ?_
                    rintro e we ⟨rfl, hb_⟩
                    refine ⟨_, rfl, ?_⟩
                    have n0_ := Aside0.mk (below_step (below_step HB.out BD.out) hb_)
                    clear hb_
                    refine hK.out _ _ trivial (fun hHeld => ?_)
                    clear hK K
                    refine norm_ (a' := ?_) ?_ ?_
                    rotate_left
                    · show Act.put _ (some 119) _ = _
                      simp only [Act.put, List.setIfInBounds_toArray, List.set_cons_zero, List.set_cons_succ, i64_w, i32_w]
                      rfl
                    refine pure_ (i := 8) (N := some 18) (v := ?_) (a' := ?_) #[true, true, true, true, true, true, true, true, true] rfl rfl (by kernel_rfl) (fun _ _ _ h => h) (Or.inl ⟨by rfl, ?_⟩) ?_ ?_
                    rotate_left
                    · intro w'
                      go_simp
                      with_reducible rfl
                    rotate_left
                    · simp only [Act.put, List.setIfInBounds_toArray, List.set_cons_zero, List.set_cons_succ, i64_w, i32_w]
                      rfl
                    refine done_ (by kernel_rfl) ?_
                    clear HB
                    have HB := n0_
                    clear n0_
                    go_wp2
                    go_ret
                    exact ⟨rfl, HB.out⟩
                  · have dz : decide ((la.length : Int) < less) = false := decide_eq_false hz
                    obtain ⟨m, hm⟩ : ∃ m : Nat, m = (less).toNat := ⟨_, rfl⟩
                    have hm0 : (less) ≤ la.length := by omega
                    have hm1 : 0 ≤ (less) := by have := H45.out; omega
                    obtain ⟨i0_, hi0_, _, hsz0_, _⟩ := info_parts info27
                    have cutC := cut_to (P := Try.prog) 22 27 .i64 hu22 hi0_ A3 la.length c3 (less) hm1 hm0 hc3.out
                    rw [← hm] at cutC
                    have hle : le = la.take m := by rw [L3.out, hm]; skip
                    obtain ⟨lz, hlz⟩ : ∃ x, x = la.take m := ⟨_, rfl⟩
                    have nl : lz.length = m := by rw [hlz, List.length_take]; omega
                    have hcutC : ∀ W : World, (Instr.slice 22 (.slice A3 la.length c3) none (some (.int .i64 (less))) none).run Try.prog W = .ok (.slice A3 lz.length c3) W := by rw [nl]; exact cutC
                    have CZ := Aside0.mk (show Kd.C k27 wa A3 lz.length lz from by rw [hlz]; exact Kd.C_take CAa.out (by omega))
                    have hkz : Aside0 (lz.length ≤ c3) := ⟨by have := hc3.out; omega⟩
                    rw [← hlz] at hle
                    have HLE := Aside0.mk hle
                    clear hi0_ hsz0_ hle nl cutC hm hm0 hm1 hlz hz
                    go_wp2_with (first | (go_at_call 18; (with_reducible refine (same_told A3 A_w6 c3 c_w6 la la _ CAa.out hc3.out CBa.out hc_w6.out ZA.out rfl).mono ?_); rintro e wb ⟨rfl, hb⟩; have CZb := Aside0.mk (Kd.C_below CZ.out hb); have CCb := Aside0.mk (Kd.C_below CCa.out hb); have CDb := Aside0.mk (Kd.C_below hC_wa.out hb); have n0_ := Aside0.mk (below_step HB.out hb); clear HB; have HB := n0_; clear n0_; clear hb) | (go_at_call 18; (with_reducible refine (same_told A7 A_wa c7 c_wa lc lc _ CCb.out hc7.out CDb.out hc_wa.out ZC.out rfl).mono ?_); rintro e wc ⟨rfl, hb⟩; have CZc := Aside0.mk (Kd.C_below CZb.out hb); have n0_ := Aside0.mk (below_step HB.out hb); clear HB; have HB := n0_; clear n0_; clear hb))
                    refine start_ (n := 9) (S := fun w' => True) (ds := []) #[false, false, false, false, false, false, false, false, false] (by kernel_rfl) rfl rfl trivial (fun hHeld => ?_)
                    refine pure_ (i := 0) (N := some 112) (v := ?_) (a' := ?_) #[true, false, false, false, false, false, false, false, false] rfl rfl (by kernel_rfl) (fun _ _ _ h => h) (Or.inl ⟨by rfl, ?_⟩) ?_ ?_
                    rotate_left
                    · intro w'
                      go_simp
                      with_reducible rfl
                    rotate_left
                    · simp only [Act.put, List.setIfInBounds_toArray, List.set_cons_zero, List.set_cons_succ, i64_w, i32_w]
                      rfl
                    refine pure_ (i := 1) (N := some 113) (v := ?_) (a' := ?_) #[true, true, false, false, false, false, false, false, false] rfl rfl (by kernel_rfl) (fun _ _ _ h => h) (Or.inl ⟨by rfl, ?_⟩) ?_ ?_
                    rotate_left
                    · intro w'
                      go_simp
                      with_reducible rfl
                    rotate_left
                    · simp only [Act.put, List.setIfInBounds_toArray, List.set_cons_zero, List.set_cons_succ, i64_w, i32_w]
                      rfl
                    refine pure_ (i := 4) (N := some 116) (v := ?_) (a' := ?_) #[true, true, false, false, true, false, false, false, false] rfl rfl (by kernel_rfl) (fun _ _ _ h => h) (Or.inl ⟨by rfl, ?_⟩) ?_ ?_
                    rotate_left
                    · intro w'
                      go_simp
                      with_reducible rfl
                    rotate_left
                    · simp only [Act.put, List.setIfInBounds_toArray, List.set_cons_zero, List.set_cons_succ, i64_w, i32_w]
                      rfl
                    refine pure_ (i := 5) (N := some 117) (v := ?_) (a' := ?_) #[true, true, false, false, true, true, false, false, false] rfl rfl (by kernel_rfl) (fun _ _ _ h => h) (Or.inl ⟨by rfl, ?_⟩) ?_ ?_
                    rotate_left
                    · intro w'
                      go_simp
                      with_reducible rfl
                    rotate_left
                    · simp only [Act.put, List.setIfInBounds_toArray, List.set_cons_zero, List.set_cons_succ, i64_w, i32_w]
                      rfl
                    refine pure_ (i := 6) (N := some 118) (v := ?_) (a' := ?_) #[true, true, false, false, true, true, true, false, false] rfl rfl (by kernel_rfl) (fun _ _ _ h => h) (Or.inl ⟨by rfl, ?_⟩) ?_ ?_
                    rotate_left
                    · intro w'
                      go_simp
                      with_reducible rfl
                    rotate_left
                    · simp only [Act.put, List.setIfInBounds_toArray, List.set_cons_zero, List.set_cons_succ, i64_w, i32_w]
                      rfl
                    refine one_ (i := 2) (N := some 114) #[true, true, true, false, true, true, true, false, false] rfl rfl (by kernel_rfl) (by decide) (fun K hK => ?_)
                    refine value_ (w1 := ?_) (v := ?_) (by rfl) rfl ?_ ?_
                    rotate_left 2
                    · go_simp
                      constructor
                      · rfl
                      · rfl
                    refine hK.out _ _ trivial (fun hHeld => ?_)
                    clear hK K
                    refine norm_ (a' := ?_) ?_ ?_
                    rotate_left
                    · show Act.put _ (some 114) _ = _
                      simp only [Act.put, List.setIfInBounds_toArray, List.set_cons_zero, List.set_cons_succ, i64_w, i32_w]
                      rfl
                    refine one_ (i := 3) (N := some 115) #[true, true, true, true, true, true, true, false, false] rfl rfl (by kernel_rfl) (by decide) (fun K hK => ?_)
                    refine goes_ Try.func19 (by kernel_rfl) rfl #[.int .i64 less, .slice (some ⟨wc.heap.size, 0, none⟩) 1 1] (by rfl) rfl rfl (by simp only [List.map_toArray, List.map_cons, List.map_nil]; rfl) ?_
                    refine (Best_one less A c l ((wc.alloc (.cells #[.slice A l.length c] 22)).drew) wc.heap.size (blk_drew (blk_new wc _)) hc (Kd.C_below (Kd.C_below HC.out HB.out) (below_drew (below_alloc (Below.refl _ _) _))) HU.out HL5.out le EE.out).mono ?_
                    rintro e wd ⟨Ad, cd, rfl, hcd, hCd, hb_⟩
                    refine ⟨_, rfl, ?_⟩
                    have BD := Aside0.mk (below_step (below_drew (below_alloc (Below.refl _ _) _)) hb_ : Below wc.heap.size wc wd)
                    have CZd := Aside0.mk (Kd.C_below CZc.out BD.out)
                    clear hb_
                    refine hK.out _ _ trivial (fun hHeld => ?_)
                    clear hK K
                    refine norm_ (a' := ?_) ?_ ?_
                    rotate_left
                    · show Act.put _ (some 115) _ = _
                      simp only [Act.put, List.setIfInBounds_toArray, List.set_cons_zero, List.set_cons_succ, i64_w, i32_w]
                      rfl
                    refine one_ (i := 7) (N := some 119) #[true, true, true, true, true, true, true, true, false] rfl rfl (by kernel_rfl) (by decide) (fun K hK => ?_)
                    refine goes_ Try.func18 (by kernel_rfl) rfl #[.slice Ad le.length cd, .slice A3 lz.length c3] (by rfl) rfl rfl (by simp only [List.map_toArray, List.map_cons, List.map_nil]; rfl) ?_
                    refine (same_told Ad A3 cd c3 le lz wd hCd.out hcd.out CZd.out hkz.out ZE.out HLE.out).mono ?_
                    rintro e we ⟨rfl, hb_⟩
                    refine ⟨_, rfl, ?_⟩
                    have n0_ := Aside0.mk (below_step (below_step HB.out BD.out) hb_)
                    clear hb_
                    refine hK.out _ _ trivial (fun hHeld => ?_)
                    clear hK K
                    refine norm_ (a' := ?_) ?_ ?_
                    rotate_left
                    · show Act.put _ (some 119) _ = _
                      simp only [Act.put, List.setIfInBounds_toArray, List.set_cons_zero, List.set_cons_succ, i64_w, i32_w]
                      rfl
                    refine pure_ (i := 8) (N := some 18) (v := ?_) (a' := ?_) #[true, true, true, true, true, true, true, true, true] rfl rfl (by kernel_rfl) (fun _ _ _ h => h) (Or.inl ⟨by rfl, ?_⟩) ?_ ?_
                    rotate_left
                    · intro w'
                      go_simp
                      with_reducible rfl
                    rotate_left
                    · simp only [Act.put, List.setIfInBounds_toArray, List.set_cons_zero, List.set_cons_succ, i64_w, i32_w]
                      rfl
                    refine done_ (by kernel_rfl) ?_
                    clear HB
                    have HB := n0_
                    clear n0_
                    go_wp2
                    go_ret
                    exact ⟨rfl, HB.out⟩

end Go.Proofs.Ytkdbfeapfcflmaa.T
