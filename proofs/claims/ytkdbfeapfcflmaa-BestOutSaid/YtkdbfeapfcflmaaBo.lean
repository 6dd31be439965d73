/- Written by hp.py, this session's own program, out of the translation of this seat: Lean functions for the Go functions, and the proof that each call comes to what its Lean function says. -/
import Derived.Test.YtkdbfeapfcflmaaProg
import Derived.Below
import Derived.Deep.Draws
import Derived.Deep.AppendLies
import Derived.Maps.AppendAt
import Derived.OwnWalk
import Derived.Laws.BytesArg
import Derived.Laws.MakeOwn
import Derived.Laws.OwnMore
import Derived.Deep.OwnRows
import Derived.Tactics
import Derived.Lib.ConvBytes
import Derived.Laws.Slices
import Derived.WalkKit
import Derived.KernelRfl
import Derived.RowKit3
import Derived.Deep.LoopGhost
import Derived.Deep.QuietTactic
import Derived.BigQuiet
import Derived.WideLaws
import Derived.Deep.DeepCutAuto
import Derived.Deep.CutBlock
import Derived.Deep.RegionHeld3
import Derived.Laws.Rows
import Derived.Lib.AppendStr
import Derived.ArgAppend
import Derived.Laws.IdiomCopy
import Derived.OrdersHeld
import Derived.Laws.BitsLemmas
import Derived.RowKit
import Derived.Test.YtkdbfeapfcflmaaWWords
import Derived.Test.YtkdbfeapfcflmaaWLast
import Derived.Test.YtkdbfeapfcflmaaWTab
import Derived.Test.YtkdbfeapfcflmaaWFour
import Derived.Test.YtkdbfeapfcflmaaWQPut
import Derived.Test.YtkdbfeapfcflmaaWApart
import Derived.Test.YtkdbfeapfcflmaaWArr
import Derived.Test.YtkdbfeapfcflmaaWZeros
import Derived.Test.YtkdbfeapfcflmaaWFoot
import Derived.Test.YtkdbfeapfcflmaaWKept
import Derived.Test.YtkdbfeapfcflmaaWShare
import Derived.Test.YtkdbfeapfcflmaaWN
import Derived.Test.YtkdbfeapfcflmaaWFootNe
import Derived.Test.YtkdbfeapfcflmaaWAt
import Derived.Test.YtkdbfeapfcflmaaWEqStruct
import Derived.Test.YtkdbfeapfcflmaaWRepsOne
import Derived.Test.YtkdbfeapfcflmaaWInv
import Derived.Test.YtkdbfeapfcflmaaWInvWords
import Derived.Test.YtkdbfeapfcflmaaWGuard
import Derived.Test.YtkdbfeapfcflmaaWNEv
import Derived.Test.YtkdbfeapfcflmaaWMore
import Derived.Test.YtkdbfeapfcflmaaOw
import Derived.Test.YtkdbfeapfcflmaaPU
namespace Go.Proofs.Ytkdbfeapfcflmaa.T
open Go.RowKit Go.Proofs.YtkdbfeapfcflmaaW.PrintWords Go.Proofs.YtkdbfeapfcflmaaW.PrintLast Go.Proofs.YtkdbfeapfcflmaaW.PrintMore
attribute [local go_sem] max2_int min2_int max_two min_two max_three min_three max_four min_four   -- for this text's walks alone
set_option linter.unusedVariables false
set_option linter.unusedSimpArgs false
open Go.Proofs.Ytkdbfeapfcflmaa.Plain (aheadB soonerB KB mayB fewB)
theorem ahead_told (a b : S27) (ha : HitG a) (hb : HitG b) (r : Bool) (w : World) (h : aheadB a b = r) : Calls Try.prog 13 #[.agg #[.string a.f0, .int .i64 a.f1, .int .u64 a.f2.f0, .int .u64 a.f2.f1], .agg #[.string b.f0, .int .i64 b.f1, .int .u64 b.f2.f0, .int .u64 b.f2.f1]] w fun e w' => e = .returned (.bool r) ∧ Below w.heap.size w w' :=
  best_Ahead.calls KB a.f0 a.f1 a.f2.f0 a.f2.f1 b.f0 b.f1 b.f2.f0 b.f2.f1 r w (by rw [Plain.ahead_eq KB a b (Plain.hit_u ha) (Plain.hit_u hb) (Nat.le_refl _), h])
theorem sooner_told (a b : S27) (r : Bool) (w : World) (h : soonerB a b = r) : Calls Try.prog 15 #[.agg #[.string a.f0, .int .i64 a.f1, .int .u64 a.f2.f0, .int .u64 a.f2.f1], .agg #[.string b.f0, .int .i64 b.f1, .int .u64 b.f2.f0, .int .u64 b.f2.f1]] w fun e w' => e = .returned (.bool r) ∧ Below w.heap.size w w' :=
  best_Sooner.calls a.f0 a.f1 a.f2.f0 a.f2.f1 b.f0 b.f1 b.f2.f0 b.f2.f1 r w (by rw [Plain.sooner_eq a b, h])
theorem find_told (A : Option Addr) (c : Nat) (l : List S27) (x : S27) (w : World) (hC : Kd.C k27 w A l.length l) (hc : l.length ≤ c) (hl : l.length ≤ 5000) : Calls Try.prog 22 #[.slice A l.length c, .agg #[.string x.f0, .int .i64 x.f1, .int .u64 x.f2.f0, .int .u64 x.f2.f1]] w fun e w' => ∃ (r : Int) (b : Bool), e = .returned (.int .i64 r) ∧ decide (0 ≤ r) = b ∧ Aside0 (b = true ↔ x ∈ l) ∧ Below w.heap.size w w' := by
  by_cases hx : x ∈ l
  · obtain ⟨r, hr⟩ := Plain.find_in l x hl hx
    refine (catchwordlaw20_find.calls 5001 A c l x.f0 x.f1 x.f2.f0 x.f2.f1 _ w hC hc hr).mono ?_
    rintro e w' ⟨rfl, hb⟩
    exact ⟨_, true, rfl, decide_eq_true (Int.natCast_nonneg r), Aside0.mk ⟨fun _ => hx, fun _ => rfl⟩, hb⟩
  · refine (catchwordlaw20_find.calls 5001 A c l x.f0 x.f1 x.f2.f0 x.f2.f1 _ w hC hc (Plain.find_out l x hl hx)).mono ?_
    rintro e w' ⟨rfl, hb⟩
    exact ⟨_, false, rfl, by decide, Aside0.mk ⟨fun h => (by cases h), fun h => absurd h hx⟩, hb⟩
theorem find_told_in (A : Option Addr) (c : Nat) (l : List S27) (x : S27) (w : World) (hC : Kd.C k27 w A l.length l) (hc : l.length ≤ c) (hl : l.length ≤ 5000) (hx : x ∈ l) : Calls Try.prog 22 #[.slice A l.length c, .agg #[.string x.f0, .int .i64 x.f1, .int .u64 x.f2.f0, .int .u64 x.f2.f1]] w fun e w' => ∃ (r : Int), e = .returned (.int .i64 r) ∧ decide (r < 0) = false ∧ Below w.heap.size w w' := by
  refine (find_told A c l x w hC hc hl).mono ?_
  rintro e w' ⟨r, b, rfl, h1, h2, hb⟩
  rw [h2.out.2 hx] at h1
  exact ⟨r, rfl, decide_eq_false (by have := of_decide_eq_true h1; omega), hb⟩
theorem rd_mem (l : List S27) (j : Nat) (h : j < l.length) : rd_T27 l (j : Int) ∈ l := by rw [Plain.rd27 l j h]; exact List.getElem_mem h
set_option maxHeartbeats 8000000 in
set_option maxRecDepth 100000 in
theorem bestOut_calls (n : Int) (A : Option Addr) (c : Nat) (l : List S27) (i_ : Int) (w : World) (hC : Kd.C k27 w A l.length l) (hc : l.length ≤ c) (hu : ∀ x ∈ l, HitG x) :
    Calls Try.prog 6 #[.int .i64 n, .slice A l.length c, .int .i64 i_] w fun e w' => e = .returned (.bool true) ∧ Below w.heap.size w w' := by
  have HC := Aside0.mk hC
  have HU := Aside0.mk hu
  have hal : l.length ≤ 9223372036854775807 := hC.2.1
  clear hC hu
  have hu27 := Try.underlying27
  have hu22 := Try.underlying22
  cases hf : fewB l with
  | false =>
    have HF := Aside0.mk hf
    go_enter Try.func6, Try.ntmps6
    go_wp2_with (first | (go_at_call 9; (refine (awake_calls _).mono ?_); rintro e w1 ⟨rfl, hb⟩; have HB := Aside0.mk hb; clear hb) | (go_at_call 10; (refine (few_told _ _ _ false _ (Kd.C_below HC.out (by repeat (first | (with_reducible first | exact HB.out | apply below_alloc | apply pw_below_drewN | apply below_drew1) | exact HB.out))) hc HF.out).mono ?_); rintro e w' ⟨rfl, ⟨nd, rfl⟩⟩; have n0_ := Aside0.mk (pw_below_drewN HB.out nd); clear HB; have HB := n0_; clear n0_))
    go_ret
    exact ⟨rfl, HB.out⟩
  | true =>
    have HF := Aside0.mk hf
    have HL := Aside0.mk (show l.length ≤ 1110 from (Plain.few_small hf).1)
    clear hf
    cases hm : mayB l with
    | false =>
      have HM := Aside0.mk hm
      go_enter Try.func6, Try.ntmps6
      go_wp2_with (first | (go_at_call 9; (refine (awake_calls _).mono ?_); rintro e w1 ⟨rfl, hb⟩; have HB := Aside0.mk hb; clear hb) | (go_at_call 10; (refine (few_told _ _ _ true _ (Kd.C_below HC.out (by repeat (first | (with_reducible first | exact HB.out | apply below_alloc | apply pw_below_drewN | apply below_drew1) | exact HB.out))) hc HF.out).mono ?_); rintro e w' ⟨rfl, ⟨nd, rfl⟩⟩; have n0_ := Aside0.mk (pw_below_drewN HB.out nd); clear HB; have HB := n0_; clear n0_) | (go_at_call 11; (refine (may_told _ _ _ false _ (Kd.C_below HC.out (by repeat (first | (with_reducible first | exact HB.out | apply below_alloc | apply pw_below_drewN | apply below_drew1) | exact HB.out))) hc HU.out HM.out).mono ?_); rintro e w2 ⟨rfl, hb⟩; have n0_ := Aside0.mk (below_step (by repeat (first | (with_reducible first | exact HB.out | apply below_alloc | apply pw_below_drewN | apply below_drew1) | exact HB.out)) hb); clear HB; have HB := n0_; clear n0_; clear hb))
      go_ret
      exact ⟨rfl, HB.out⟩
    | true =>
      have HM := Aside0.mk hm
      clear hm
      by_cases h0 : n < 0
      · have d0 : decide (n < 0) = true := decide_eq_true h0
        clear h0
        go_enter Try.func6, Try.ntmps6
        go_wp2_with (first | (go_at_call 9; (refine (awake_calls _).mono ?_); rintro e w1 ⟨rfl, hb⟩; have HB := Aside0.mk hb; clear hb) | (go_at_call 10; (refine (few_told _ _ _ true _ (Kd.C_below HC.out (by repeat (first | (with_reducible first | exact HB.out | apply below_alloc | apply pw_below_drewN | apply below_drew1) | exact HB.out))) hc HF.out).mono ?_); rintro e w' ⟨rfl, ⟨nd, rfl⟩⟩; have n0_ := Aside0.mk (pw_below_drewN HB.out nd); clear HB; have HB := n0_; clear n0_) | (go_at_call 11; (refine (may_told _ _ _ true _ (Kd.C_below HC.out (by repeat (first | (with_reducible first | exact HB.out | apply below_alloc | apply pw_below_drewN | apply below_drew1) | exact HB.out))) hc HU.out HM.out).mono ?_); rintro e w2 ⟨rfl, hb⟩; have n0_ := Aside0.mk (below_step (by repeat (first | (with_reducible first | exact HB.out | apply below_alloc | apply pw_below_drewN | apply below_drew1) | exact HB.out)) hb); clear HB; have HB := n0_; clear n0_; clear hb))
        go_ret
        exact ⟨rfl, HB.out⟩
      · have d0 : decide (n < 0) = false := decide_eq_false h0
        by_cases h1 : 100 < n
        · have d1 : decide (100 < n) = true := decide_eq_true h1
          clear h0 h1
          go_enter Try.func6, Try.ntmps6
          go_wp2_with (first | (go_at_call 9; (refine (awake_calls _).mono ?_); rintro e w1 ⟨rfl, hb⟩; have HB := Aside0.mk hb; clear hb) | (go_at_call 10; (refine (few_told _ _ _ true _ (Kd.C_below HC.out (by repeat (first | (with_reducible first | exact HB.out | apply below_alloc | apply pw_below_drewN | apply below_drew1) | exact HB.out))) hc HF.out).mono ?_); rintro e w' ⟨rfl, ⟨nd, rfl⟩⟩; have n0_ := Aside0.mk (pw_below_drewN HB.out nd); clear HB; have HB := n0_; clear n0_) | (go_at_call 11; (refine (may_told _ _ _ true _ (Kd.C_below HC.out (by repeat (first | (with_reducible first | exact HB.out | apply below_alloc | apply pw_below_drewN | apply below_drew1) | exact HB.out))) hc HU.out HM.out).mono ?_); rintro e w2 ⟨rfl, hb⟩; have n0_ := Aside0.mk (below_step (by repeat (first | (with_reducible first | exact HB.out | apply below_alloc | apply pw_below_drewN | apply below_drew1) | exact HB.out)) hb); clear HB; have HB := n0_; clear n0_; clear hb))
          go_ret
          exact ⟨rfl, HB.out⟩
        · have d1 : decide (100 < n) = false := decide_eq_false h1
          have HL5 := Aside0.mk (show l.length ≤ 5000 from Nat.le_trans HL.out (by decide))
          have law := Plain.out_law n l HU.out HM.out (by omega) (by omega)
          have zA : (ofV aheadB n l (mayB l)).length ≤ 5000 := Nat.le_trans (Plain.ofV_le _ _ _ _) HL5.out
          have zB : (ofV soonerB n l (mayB l)).length ≤ 5000 := Nat.le_trans (Plain.ofV_le _ _ _ _) HL5.out
          obtain ⟨la, ea⟩ : ∃ x, ofV aheadB n l (mayB l) = x := ⟨_, rfl⟩
          obtain ⟨lb, eb⟩ : ∃ x, ofV soonerB n l (mayB l) = x := ⟨_, rfl⟩
          rw [ea, eb] at law
          rw [ea] at zA
          rw [eb] at zB
          have EA := Aside0.mk ea
          have EB := Aside0.mk eb
          obtain ⟨⟨N, hN, hla, hlb⟩, ⟨a1, a2, a3⟩, ⟨b1, b2, b3⟩⟩ := law
          have HN := Aside0.mk (⟨hN, hla⟩ : (N : Int) = n ∧ la.length = min N l.length)
          have hab : lb.length = la.length := by omega
          have HAB := Aside0.mk hab
          have e0 : decide ((lb.length : Int) = (la.length : Int)) = true := decide_eq_true (by omega)
          have e1 : decide (lb.length = la.length) = true := decide_eq_true hab
          have e2 : ((lb.length : Int) == (la.length : Int)) = true := by rw [hab]; exact beq_self_eq_true _
          have e3 : (lb.length == la.length) = true := by rw [hab]; exact beq_self_eq_true _
          have P1 := Aside0.mk a1
          have P2 := Aside0.mk a2
          have P3 := Aside0.mk a3
          have Q1 := Aside0.mk b1
          have Q2 := Aside0.mk b2
          have Q3 := Aside0.mk b3
          have ZA := Aside0.mk zA
          have ZB := Aside0.mk zB
          clear ea eb hN hla hlb hab a1 a2 a3 b1 b2 b3 h0 h1 zA zB
          go_enter Try.func6, Try.ntmps6
          go_upto_if 52 with (first | (go_at_call 9; (refine (awake_calls _).mono ?_); rintro e w1 ⟨rfl, hb⟩; have HB := Aside0.mk hb; clear hb) | (go_at_call 10; (refine (few_told _ _ _ true _ (Kd.C_below HC.out (by repeat (first | (with_reducible first | exact HB.out | apply below_alloc | apply pw_below_drewN | apply below_drew1) | exact HB.out))) hc HF.out).mono ?_); rintro e w' ⟨rfl, ⟨nd, rfl⟩⟩; have n0_ := Aside0.mk (pw_below_drewN HB.out nd); clear HB; have HB := n0_; clear n0_) | (go_at_call 11; (refine (may_told _ _ _ true _ (Kd.C_below HC.out (by repeat (first | (with_reducible first | exact HB.out | apply below_alloc | apply pw_below_drewN | apply below_drew1) | exact HB.out))) hc HU.out HM.out).mono ?_); rintro e w2 ⟨rfl, hb⟩; have n0_ := Aside0.mk (below_step (by repeat (first | (with_reducible first | exact HB.out | apply below_alloc | apply pw_below_drewN | apply below_drew1) | exact HB.out)) hb); clear HB; have HB := n0_; clear n0_; clear hb) | (go_at_call 19; (refine (Best_one n A c l _ _ (blk_new _ _) hc (Kd.C_below HC.out (by repeat (first | (with_reducible first | exact HB.out | apply below_alloc | apply pw_below_drewN | apply below_drew1) | exact HB.out))) HU.out HL5.out la EA.out).mono ?_); rintro e w3 ⟨Aa, ca, rfl, hca, hCa, hb⟩; have n0_ := Aside0.mk (below_step (by repeat (first | (with_reducible first | exact HB.out | apply below_alloc | apply pw_below_drewN | apply below_drew1) | exact HB.out)) hb); clear HB; have HB := n0_; clear n0_; clear hb) | (go_at_call 21; (refine (First_one n A c l _ _ (blk_new _ _) hc (Kd.C_below HC.out (by repeat (first | (with_reducible first | exact HB.out | apply below_alloc | apply pw_below_drewN | apply below_drew1) | exact HB.out))) HU.out HL5.out lb EB.out).mono ?_); rintro e w4 ⟨Ab, cb, rfl, hcb, CB, hb⟩; have CA := Aside0.mk (Kd.C_below hCa.out (below_step (below_alloc (Below.refl _ _) _) hb)); have n0_ := Aside0.mk (below_step (by repeat (first | (with_reducible first | exact HB.out | apply below_alloc | apply pw_below_drewN | apply below_drew1) | exact HB.out)) hb); clear HB; have HB := n0_; clear n0_; clear hb))
          go_cut [11] (fun v11 wc => v11 = .int .i64 (la.length : Int) ∧ wc = w4)
          case first =>
            by_cases hz : n < (l.length : Int)
            · have dz : decide (n < (l.length : Int)) = true := decide_eq_true hz
              go_wp2
              go_meet
              case rel => exact ⟨congrArg (Value.int .i64) (by have := HN.out; omega), rfl⟩
            · have dz : decide (n < (l.length : Int)) = false := decide_eq_false hz
              go_wp2
              go_meet
              case rel => exact ⟨congrArg (Value.int .i64) (by have := HN.out; omega), rfl⟩
          case rest =>
            obtain ⟨rfl, rfl⟩ := hcut
            obtain ⟨w4, rfl⟩ : ∃ x : World, x = wc := ⟨_, rfl⟩
            go_upto_block 0 with fail
            go_cut [] (fun wc => Aside0 (Below w4.heap.size w4 wc))
            case first =>
              go_wp2
              go_loopg [12] la.length (fun kq v12 w' => ∃ (j : Nat), v12 = .int .i64 (j : Int) ∧ Aside0 (1 ≤ j) ∧ Aside0 (la.length + 1 ≤ kq + j) ∧ Aside0 (Below w4.heap.size w4 w'))
              case atStart => exact ⟨1, rfl, ⟨Nat.le_refl _⟩, ⟨Nat.le_refl _⟩, ⟨Below.refl _ _⟩⟩
              case round =>
                obtain ⟨j, rfl, HJ, HK, HW⟩ := hrel
                obtain ⟨wo, rfl⟩ : ∃ wo : World, wo = wr := ⟨_, rfl⟩
                by_cases hlt : j < la.length
                · obtain ⟨kj, rfl⟩ : ∃ m, gk = m + 1 := ⟨gk - 1, by have := HK.out; omega⟩
                  obtain ⟨jm, hj⟩ : ∃ jm : Nat, jm + 1 = j := ⟨j - 1, by have := HJ.out; omega⟩
                  have hltb : j < lb.length := by have := HAB.out; omega
                  have hm1 : jm < la.length := by omega
                  have hm2 : jm < lb.length := by omega
                  have da : decide ((j : Int) < (la.length : Int)) = true := decide_eq_true (by omega)
                  have dan : decide (j < la.length) = true := decide_eq_true hlt
                  have db : decide ((j : Int) < (lb.length : Int)) = true := decide_eq_true (by omega)
                  have dbn : decide (j < lb.length) = true := decide_eq_true hltb
                  have hw : wrap64 ((j : Int) - 1) = (jm : Int) := by have := ZA.out; unfold wrap64; omega
                  have hab1 := P2.out jm (by omega)
                  have hab2 := Q2.out jm (by omega)
                  rw [hj] at hab1 hab2
                  have m1 := HU.out _ (P1.out _ (rd_mem la jm hm1))
                  have m2 := HU.out _ (P1.out _ (rd_mem la j hlt))
                  obtain ⟨ada, q1, p0, p1, p2, p3⟩ := at_T27 (Kd.C_below CA.out HW.out) (jm : Int) (by omega) (by omega)
                  subst q1
                  obtain ⟨ada', q1, r0, r1, r2, r3⟩ := at_T27 (Kd.C_below CA.out HW.out) (j : Int) (by omega) (by omega)
                  obtain rfl := Option.some.inj q1
                  obtain ⟨adb, q2, s0, s1, s2, s3⟩ := at_T27 (Kd.C_below CB.out HW.out) (jm : Int) (by omega) (by omega)
                  subst q2
                  obtain ⟨adb', q2, t0, t1, t2, t3⟩ := at_T27 (Kd.C_below CB.out HW.out) (j : Int) (by omega) (by omega)
                  obtain rfl := Option.some.inj q2
                  rw [Int.toNat_natCast] at p0 p1 p2 p3 r0 r1 r2 r3 s0 s1 s2 s3 t0 t1 t2 t3
                  generalize rd_T27 la (jm : Int) = xa at p0 p1 p2 p3 hab1 m1
                  generalize rd_T27 la (j : Int) = xb at r0 r1 r2 r3 hab1 m2
                  generalize rd_T27 lb (jm : Int) = ya at s0 s1 s2 s3 hab2
                  generalize rd_T27 lb (j : Int) = yb at t0 t1 t2 t3 hab2
                  have AB1 := Aside0.mk hab1
                  have AB2 := Aside0.mk hab2
                  have M1 := Aside0.mk m1
                  have M2 := Aside0.mk m2
                  have HJM := Aside0.mk hj
                  clear hab1 hab2 m1 m2 hj
                  go_wp2
                  refine start_ (n := 24) (S := fun w' => w'.cell? (ada.add (jm * 4)) = some (.string xa.f0) ∧ w'.cell? ⟨(ada.add (jm * 4)).block, (ada.add (jm * 4)).off + 1, none⟩ = some (.int .i64 xa.f1) ∧ w'.cell? ⟨(ada.add (jm * 4)).block, (ada.add (jm * 4)).off + 2, none⟩ = some (.int .u64 xa.f2.f0) ∧ w'.cell? ⟨(ada.add (jm * 4)).block, (ada.add (jm * 4)).off + 3, none⟩ = some (.int .u64 xa.f2.f1) ∧ w'.cell? (ada.add (j * 4)) = some (.string xb.f0) ∧ w'.cell? ⟨(ada.add (j * 4)).block, (ada.add (j * 4)).off + 1, none⟩ = some (.int .i64 xb.f1) ∧ w'.cell? ⟨(ada.add (j * 4)).block, (ada.add (j * 4)).off + 2, none⟩ = some (.int .u64 xb.f2.f0) ∧ w'.cell? ⟨(ada.add (j * 4)).block, (ada.add (j * 4)).off + 3, none⟩ = some (.int .u64 xb.f2.f1) ∧ w'.cell? (adb.add (jm * 4)) = some (.string ya.f0) ∧ w'.cell? ⟨(adb.add (jm * 4)).block, (adb.add (jm * 4)).off + 1, none⟩ = some (.int .i64 ya.f1) ∧ w'.cell? ⟨(adb.add (jm * 4)).block, (adb.add (jm * 4)).off + 2, none⟩ = some (.int .u64 ya.f2.f0) ∧ w'.cell? ⟨(adb.add (jm * 4)).block, (adb.add (jm * 4)).off + 3, none⟩ = some (.int .u64 ya.f2.f1) ∧ w'.cell? (adb.add (j * 4)) = some (.string yb.f0) ∧ w'.cell? ⟨(adb.add (j * 4)).block, (adb.add (j * 4)).off + 1, none⟩ = some (.int .i64 yb.f1) ∧ w'.cell? ⟨(adb.add (j * 4)).block, (adb.add (j * 4)).off + 2, none⟩ = some (.int .u64 yb.f2.f0) ∧ w'.cell? ⟨(adb.add (j * 4)).block, (adb.add (j * 4)).off + 3, none⟩ = some (.int .u64 yb.f2.f1)) (ds := []) #[false, false, false, false, false, false, false, false, false, false, false, false, false, false, false, false, false, false, false, false, false, false, false, false] (by kernel_rfl) rfl rfl ⟨(pw_cell_below (below_drew (Below.refl _ _)) p0), (pw_cell_below (below_drew (Below.refl _ _)) p1), (pw_cell_below (below_drew (Below.refl _ _)) p2), (pw_cell_below (below_drew (Below.refl _ _)) p3), (pw_cell_below (below_drew (Below.refl _ _)) r0), (pw_cell_below (below_drew (Below.refl _ _)) r1), (pw_cell_below (below_drew (Below.refl _ _)) r2), (pw_cell_below (below_drew (Below.refl _ _)) r3), (pw_cell_below (below_drew (Below.refl _ _)) s0), (pw_cell_below (below_drew (Below.refl _ _)) s1), (pw_cell_below (below_drew (Below.refl _ _)) s2), (pw_cell_below (below_drew (Below.refl _ _)) s3), (pw_cell_below (below_drew (Below.refl _ _)) t0), (pw_cell_below (below_drew (Below.refl _ _)) t1), (pw_cell_below (below_drew (Below.refl _ _)) t2), (pw_cell_below (below_drew (Below.refl _ _)) t3)⟩ (fun hHeld => ?_)
                  refine pure_ (i := 0) (N := some 66) (v := ?_) (a' := ?_) #[true, false, false, false, false, false, false, false, false, false, false, false, false, false, false, false, false, false, false, false, false, false, false, false] rfl rfl (by kernel_rfl) (fun _ _ _ h => h) (Or.inl ⟨by rfl, ?_⟩) ?_ ?_
                  rotate_left
                  · intro w'
                    go_simp
                    with_reducible rfl
                  rotate_left
                  · simp only [Act.put, List.setIfInBounds_toArray, List.set_cons_zero, List.set_cons_succ, i64_w, i32_w]
                    rfl
                  refine pure_ (i := 1) (N := some 67) (v := ?_) (a' := ?_) #[true, true, false, false, false, false, false, false, false, false, false, false, false, false, false, false, false, false, false, false, false, false, false, false] rfl rfl (by kernel_rfl) (fun _ _ _ h => h) (Or.inl ⟨by rfl, ?_⟩) ?_ ?_
                  rotate_left
                  · intro w'
                    go_simp
                    with_reducible rfl
                  rotate_left
                  · simp only [Act.put, List.setIfInBounds_toArray, List.set_cons_zero, List.set_cons_succ, i64_w, i32_w]
                    rfl
                  refine pure_ (i := 2) (N := some 68) (v := ?_) (a' := ?_) #[true, true, true, false, false, false, false, false, false, false, false, false, false, false, false, false, false, false, false, false, false, false, false, false] rfl rfl (by kernel_rfl) (fun _ _ _ h => h) (Or.inl ⟨by rfl, ?_⟩) ?_ ?_
                  rotate_left
                  · intro w'
                    go_simp
                    with_reducible rfl
                  rotate_left
                  · simp only [Act.put, List.setIfInBounds_toArray, List.set_cons_zero, List.set_cons_succ, i64_w, i32_w]
                    rfl
                  refine pure_ (i := 3) (N := some 69) (v := ?_) (a' := ?_) #[true, true, true, true, false, false, false, false, false, false, false, false, false, false, false, false, false, false, false, false, false, false, false, false] rfl rfl (by kernel_rfl) (fun _ _ _ h => h) (Or.inl ⟨by rfl, ?_⟩) ?_ ?_
                  rotate_left
                  · intro w'
                    go_simp
                    with_reducible rfl
                  rotate_left
                  · simp only [Act.put, List.setIfInBounds_toArray, List.set_cons_zero, List.set_cons_succ, i64_w, i32_w]
                    rfl
                  refine pure_ (i := 5) (N := some 71) (v := ?_) (a' := ?_) #[true, true, true, true, false, true, false, false, false, false, false, false, false, false, false, false, false, false, false, false, false, false, false, false] rfl rfl (by kernel_rfl) (fun _ _ _ h => h) (Or.inl ⟨by rfl, ?_⟩) ?_ ?_
                  rotate_left
                  · intro w'
                    go_simp
                    with_reducible rfl
                  rotate_left
                  · simp only [Act.put, List.setIfInBounds_toArray, List.set_cons_zero, List.set_cons_succ, i64_w, i32_w]
                    rfl
                  refine pure_ (i := 6) (N := some 72) (v := ?_) (a' := ?_) #[true, true, true, true, false, true, true, false, false, false, false, false, false, false, false, false, false, false, false, false, false, false, false, false] rfl rfl (by kernel_rfl) (fun _ _ _ h => h) (Or.inl ⟨by rfl, ?_⟩) ?_ ?_
                  rotate_left
                  · intro w'
                    go_simp
                    with_reducible rfl
                  rotate_left
                  · simp only [Act.put, List.setIfInBounds_toArray, List.set_cons_zero, List.set_cons_succ, i64_w, i32_w]
                    rfl
                  refine pure_ (i := 7) (N := some 73) (v := ?_) (a' := ?_) #[true, true, true, true, false, true, true, true, false, false, false, false, false, false, false, false, false, false, false, false, false, false, false, false] rfl rfl (by kernel_rfl) (fun _ _ _ h => h) (Or.inl ⟨by rfl, ?_⟩) ?_ ?_
                  rotate_left
                  · intro w'
                    go_simp
                    with_reducible rfl
                  rotate_left
                  · simp only [Act.put, List.setIfInBounds_toArray, List.set_cons_zero, List.set_cons_succ, i64_w, i32_w]
                    rfl
                  refine take_ (i := 4) (N := some 70) (v := ?_) (a' := ?_) #[true, true, true, true, true, true, true, true, false, false, false, false, false, false, false, false, false, false, false, false, false, false, false, false] rfl rfl (by kernel_rfl) (fun _ _ _ h => h) (Or.inl ⟨by rfl, ?_⟩) hHeld ?_ ?_
                  rotate_left
                  · rintro w' ⟨s0, s1, s2, s3, s4, s5, s6, s7, s8, s9, s10, s11, s12, s13, s14, s15⟩
                    go_simp
                    with_reducible rfl
                  rotate_left
                  · simp only [Act.put, List.setIfInBounds_toArray, List.set_cons_zero, List.set_cons_succ, i64_w, i32_w]
                    rfl
                  refine take_ (i := 8) (N := some 74) (v := ?_) (a' := ?_) #[true, true, true, true, true, true, true, true, true, false, false, false, false, false, false, false, false, false, false, false, false, false, false, false] rfl rfl (by kernel_rfl) (fun _ _ _ h => h) (Or.inl ⟨by rfl, ?_⟩) hHeld ?_ ?_
                  rotate_left
                  · rintro w' ⟨s0, s1, s2, s3, s4, s5, s6, s7, s8, s9, s10, s11, s12, s13, s14, s15⟩
                    go_simp
                    with_reducible rfl
                  rotate_left
                  · simp only [Act.put, List.setIfInBounds_toArray, List.set_cons_zero, List.set_cons_succ, i64_w, i32_w]
                    rfl
                  refine one_ (i := 9) (N := some 75) #[true, true, true, true, true, true, true, true, true, true, false, false, false, false, false, false, false, false, false, false, false, false, false, false] rfl rfl (by kernel_rfl) (by decide) (fun K hK => ?_)
                  refine goes_ Try.func13 (by kernel_rfl) rfl #[.agg #[.string xa.f0, .int .i64 xa.f1, .int .u64 xa.f2.f0, .int .u64 xa.f2.f1], .agg #[.string xb.f0, .int .i64 xb.f1, .int .u64 xb.f2.f0, .int .u64 xb.f2.f1]] (by rfl) rfl rfl (by simp only [List.map_toArray, List.map_cons, List.map_nil]; rfl) ?_
                  with_reducible refine (ahead_told xa xb M1.out M2.out true wo.drew AB1.out).mono ?_
                  rintro e wp ⟨rfl, hbp⟩
                  refine ⟨_, rfl, ?_⟩
                  obtain ⟨p0h, p1h, p2h, p3h, r0h, r1h, r2h, r3h, s0h, s1h, s2h, s3h, t0h, t1h, t2h, t3h⟩ := hHeld
                  have BP := Aside0.mk hbp
                  refine hK.out _ _ ⟨pw_cell_below hbp p0h, pw_cell_below hbp p1h, pw_cell_below hbp p2h, pw_cell_below hbp p3h, pw_cell_below hbp r0h, pw_cell_below hbp r1h, pw_cell_below hbp r2h, pw_cell_below hbp r3h, pw_cell_below hbp s0h, pw_cell_below hbp s1h, pw_cell_below hbp s2h, pw_cell_below hbp s3h, pw_cell_below hbp t0h, pw_cell_below hbp t1h, pw_cell_below hbp t2h, pw_cell_below hbp t3h⟩ (fun hHeld => ?_)
                  clear hK K
                  refine norm_ (a' := ?_) ?_ ?_
                  rotate_left
                  · show Act.put _ (some 75) _ = _
                    simp only [Act.put, List.setIfInBounds_toArray, List.set_cons_zero, List.set_cons_succ, i64_w, i32_w]
                    rfl
                  refine pure_ (i := 10) (N := some 76) (v := ?_) (a' := ?_) #[true, true, true, true, true, true, true, true, true, true, true, false, false, false, false, false, false, false, false, false, false, false, false, false] rfl rfl (by kernel_rfl) (fun _ _ _ h => h) (Or.inl ⟨by rfl, ?_⟩) ?_ ?_
                  rotate_left
                  · intro w'
                    go_simp
                    with_reducible rfl
                  rotate_left
                  · simp only [Act.put, List.setIfInBounds_toArray, List.set_cons_zero, List.set_cons_succ, i64_w, i32_w]
                    rfl
                  refine pure_ (i := 11) (N := some 77) (v := ?_) (a' := ?_) #[true, true, true, true, true, true, true, true, true, true, true, true, false, false, false, false, false, false, false, false, false, false, false, false] rfl rfl (by kernel_rfl) (fun _ _ _ h => h) (Or.inl ⟨by rfl, ?_⟩) ?_ ?_
                  rotate_left
                  · intro w'
                    go_simp
                    with_reducible rfl
                  rotate_left
                  · simp only [Act.put, List.setIfInBounds_toArray, List.set_cons_zero, List.set_cons_succ, i64_w, i32_w]
                    rfl
                  refine pure_ (i := 12) (N := some 78) (v := ?_) (a' := ?_) #[true, true, true, true, true, true, true, true, true, true, true, true, true, false, false, false, false, false, false, false, false, false, false, false] rfl rfl (by kernel_rfl) (fun _ _ _ h => h) (Or.inl ⟨by rfl, ?_⟩) ?_ ?_
                  rotate_left
                  · intro w'
                    go_simp
                    with_reducible rfl
                  rotate_left
                  · simp only [Act.put, List.setIfInBounds_toArray, List.set_cons_zero, List.set_cons_succ, i64_w, i32_w]
                    rfl
                  refine pure_ (i := 13) (N := some 79) (v := ?_) (a' := ?_) #[true, true, true, true, true, true, true, true, true, true, true, true, true, true, false, false, false, false, false, false, false, false, false, false] rfl rfl (by kernel_rfl) (fun _ _ _ h => h) (Or.inl ⟨by rfl, ?_⟩) ?_ ?_
                  rotate_left
                  · intro w'
                    go_simp
                    with_reducible rfl
                  rotate_left
                  · simp only [Act.put, List.setIfInBounds_toArray, List.set_cons_zero, List.set_cons_succ, i64_w, i32_w]
                    rfl
                  refine pure_ (i := 14) (N := some 80) (v := ?_) (a' := ?_) #[true, true, true, true, true, true, true, true, true, true, true, true, true, true, true, false, false, false, false, false, false, false, false, false] rfl rfl (by kernel_rfl) (fun _ _ _ h => h) (Or.inl ⟨by rfl, ?_⟩) ?_ ?_
                  rotate_left
                  · intro w'
                    go_simp
                    with_reducible rfl
                  rotate_left
                  · simp only [Act.put, List.setIfInBounds_toArray, List.set_cons_zero, List.set_cons_succ, i64_w, i32_w]
                    rfl
                  refine pure_ (i := 15) (N := some 81) (v := ?_) (a' := ?_) #[true, true, true, true, true, true, true, true, true, true, true, true, true, true, true, true, false, false, false, false, false, false, false, false] rfl rfl (by kernel_rfl) (fun _ _ _ h => h) (Or.inl ⟨by rfl, ?_⟩) ?_ ?_
                  rotate_left
                  · intro w'
                    go_simp
                    with_reducible rfl
                  rotate_left
                  · simp only [Act.put, List.setIfInBounds_toArray, List.set_cons_zero, List.set_cons_succ, i64_w, i32_w]
                    rfl
                  refine pure_ (i := 17) (N := some 83) (v := ?_) (a' := ?_) #[true, true, true, true, true, true, true, true, true, true, true, true, true, true, true, true, false, true, false, false, false, false, false, false] rfl rfl (by kernel_rfl) (fun _ _ _ h => h) (Or.inl ⟨by rfl, ?_⟩) ?_ ?_
                  rotate_left
                  · intro w'
                    go_simp
                    with_reducible rfl
                  rotate_left
                  · simp only [Act.put, List.setIfInBounds_toArray, List.set_cons_zero, List.set_cons_succ, i64_w, i32_w]
                    rfl
                  refine pure_ (i := 18) (N := some 84) (v := ?_) (a' := ?_) #[true, true, true, true, true, true, true, true, true, true, true, true, true, true, true, true, false, true, true, false, false, false, false, false] rfl rfl (by kernel_rfl) (fun _ _ _ h => h) (Or.inl ⟨by rfl, ?_⟩) ?_ ?_
                  rotate_left
                  · intro w'
                    go_simp
                    with_reducible rfl
                  rotate_left
                  · simp only [Act.put, List.setIfInBounds_toArray, List.set_cons_zero, List.set_cons_succ, i64_w, i32_w]
                    rfl
                  refine pure_ (i := 19) (N := some 85) (v := ?_) (a' := ?_) #[true, true, true, true, true, true, true, true, true, true, true, true, true, true, true, true, false, true, true, true, false, false, false, false] rfl rfl (by kernel_rfl) (fun _ _ _ h => h) (Or.inl ⟨by rfl, ?_⟩) ?_ ?_
                  rotate_left
                  · intro w'
                    go_simp
                    with_reducible rfl
                  rotate_left
                  · simp only [Act.put, List.setIfInBounds_toArray, List.set_cons_zero, List.set_cons_succ, i64_w, i32_w]
                    rfl
                  refine take_ (i := 16) (N := some 82) (v := ?_) (a' := ?_) #[true, true, true, true, true, true, true, true, true, true, true, true, true, true, true, true, true, true, true, true, false, false, false, false] rfl rfl (by kernel_rfl) (fun _ _ _ h => h) (Or.inl ⟨by rfl, ?_⟩) hHeld ?_ ?_
                  rotate_left
                  · rintro w' ⟨s0, s1, s2, s3, s4, s5, s6, s7, s8, s9, s10, s11, s12, s13, s14, s15⟩
                    go_simp
                    with_reducible rfl
                  rotate_left
                  · simp only [Act.put, List.setIfInBounds_toArray, List.set_cons_zero, List.set_cons_succ, i64_w, i32_w]
                    rfl
                  refine take_ (i := 20) (N := some 86) (v := ?_) (a' := ?_) #[true, true, true, true, true, true, true, true, true, true, true, true, true, true, true, true, true, true, true, true, true, false, false, false] rfl rfl (by kernel_rfl) (fun _ _ _ h => h) (Or.inl ⟨by rfl, ?_⟩) hHeld ?_ ?_
                  rotate_left
                  · rintro w' ⟨s0, s1, s2, s3, s4, s5, s6, s7, s8, s9, s10, s11, s12, s13, s14, s15⟩
                    go_simp
                    with_reducible rfl
                  rotate_left
                  · simp only [Act.put, List.setIfInBounds_toArray, List.set_cons_zero, List.set_cons_succ, i64_w, i32_w]
                    rfl
                  refine one_ (i := 21) (N := some 87) #[true, true, true, true, true, true, true, true, true, true, true, true, true, true, true, true, true, true, true, true, true, true, false, false] rfl rfl (by kernel_rfl) (by decide) (fun K hK => ?_)
                  refine goes_ Try.func15 (by kernel_rfl) rfl #[.agg #[.string ya.f0, .int .i64 ya.f1, .int .u64 ya.f2.f0, .int .u64 ya.f2.f1], .agg #[.string yb.f0, .int .i64 yb.f1, .int .u64 yb.f2.f0, .int .u64 yb.f2.f1]] (by rfl) rfl rfl (by simp only [List.map_toArray, List.map_cons, List.map_nil]; rfl) ?_
                  with_reducible refine (sooner_told ya yb true wp AB2.out).mono ?_
                  rintro e wq ⟨rfl, hbq⟩
                  refine ⟨_, rfl, ?_⟩
                  obtain ⟨p0k, p1k, p2k, p3k, r0k, r1k, r2k, r3k, s0k, s1k, s2k, s3k, t0k, t1k, t2k, t3k⟩ := hHeld
                  have n0_ := Aside0.mk (below_step (below_step (below_drew HW.out) BP.out) hbq)
                  refine hK.out _ _ ⟨pw_cell_below hbq p0k, pw_cell_below hbq p1k, pw_cell_below hbq p2k, pw_cell_below hbq p3k, pw_cell_below hbq r0k, pw_cell_below hbq r1k, pw_cell_below hbq r2k, pw_cell_below hbq r3k, pw_cell_below hbq s0k, pw_cell_below hbq s1k, pw_cell_below hbq s2k, pw_cell_below hbq s3k, pw_cell_below hbq t0k, pw_cell_below hbq t1k, pw_cell_below hbq t2k, pw_cell_below hbq t3k⟩ (fun hHeld => ?_)
                  clear hK K
                  refine norm_ (a' := ?_) ?_ ?_
                  rotate_left
                  · show Act.put _ (some 87) _ = _
                    simp only [Act.put, List.setIfInBounds_toArray, List.set_cons_zero, List.set_cons_succ, i64_w, i32_w]
                    rfl
                  refine pure_ (i := 22) (N := some 88) (v := ?_) (a' := ?_) #[true, true, true, true, true, true, true, true, true, true, true, true, true, true, true, true, true, true, true, true, true, true, true, false] rfl rfl (by kernel_rfl) (fun _ _ _ h => h) (Or.inl ⟨by rfl, ?_⟩) ?_ ?_
                  rotate_left
                  · intro w'
                    go_simp
                    with_reducible rfl
                  rotate_left
                  · simp only [Act.put, List.setIfInBounds_toArray, List.set_cons_zero, List.set_cons_succ, i64_w, i32_w]
                    rfl
                  refine pure_ (i := 23) (N := some 89) (v := ?_) (a' := ?_) #[true, true, true, true, true, true, true, true, true, true, true, true, true, true, true, true, true, true, true, true, true, true, true, true] rfl rfl (by kernel_rfl) (fun _ _ _ h => h) (Or.inl ⟨by rfl, ?_⟩) ?_ ?_
                  rotate_left
                  · intro w'
                    go_simp
                    with_reducible rfl
                  rotate_left
                  · simp only [Act.put, List.setIfInBounds_toArray, List.set_cons_zero, List.set_cons_succ, i64_w, i32_w]
                    rfl
                  refine done_ (by kernel_rfl) ?_
                  clear HW
                  have HW := n0_
                  clear n0_
                  go_wp2
                  go_roundg kj
                  case measure => omega
                  case rel => exact ⟨j + 1, congrArg (Value.int .i64) (by have := ZA.out; unfold wrap64; omega), ⟨by omega⟩, ⟨by have := HK.out; omega⟩, HW⟩
                · have da : decide ((j : Int) < (la.length : Int)) = false := decide_eq_false (by omega)
                  have dan : decide (j < la.length) = false := decide_eq_false hlt
                  go_wp2
                  go_meet
                  case rel => exact HW
            case rest =>
              obtain ⟨hbz⟩ := hcut
              obtain ⟨w5, rfl⟩ : ∃ x : World, x = wc := ⟨_, rfl⟩
              have n0_ := Aside0.mk (Kd.C_below CA.out hbz)
              have n1_ := Aside0.mk (Kd.C_below CB.out hbz)
              have n2_ := Aside0.mk (below_step HB.out hbz)
              clear CA CB HB hbz
              have CA := n0_
              have CB := n1_
              have HB := n2_
              clear n0_ n1_ n2_
              by_cases hi0 : i_ < 0
              · have di : decide (i_ < 0) = true := decide_eq_true hi0
                go_wp2
                go_ret
                exact ⟨rfl, HB.out⟩
              by_cases hi1 : (l.length : Int) ≤ i_
              · have di : decide (i_ < 0) = false := decide_eq_false hi0
                have dj : decide ((l.length : Int) ≤ i_) = true := decide_eq_true hi1
                go_wp2
                go_ret
                exact ⟨rfl, HB.out⟩
              obtain ⟨iq, rfl⟩ := Int.eq_ofNat_of_zero_le (show 0 ≤ i_ by omega)
              have hiq : iq < l.length := by omega
              have di : decide ((iq : Int) < 0) = false := decide_eq_false hi0
              have dj : decide ((l.length : Int) ≤ (iq : Int)) = false := decide_eq_false hi1
              have djn : decide (l.length ≤ iq) = false := decide_eq_false (by omega)
              clear hi0 hi1
              have hxl := rd_mem l iq hiq
              obtain ⟨adl, q1, g0, g1, g2, g3⟩ := at_T27 (Kd.C_below HC.out HB.out) (iq : Int) (by omega) (by omega)
              subst q1
              rw [Int.toNat_natCast] at g0 g1 g2 g3
              have HX := Aside0.mk (show rd_T27 l (iq : Int) = rd_T27 l (iq : Int) from rfl)
              generalize hxe : rd_T27 l (iq : Int) = x at g0 g1 g2 g3 hxl HX
              have HXE := Aside0.mk hxe
              have HXL := Aside0.mk hxl
              clear hxl HX hxe
              go_upto_region 18 with (first | (go_at_call 22; (refine (find_told Aa ca la x _ CA.out hca.out ZA.out).mono ?_); rintro e w6 ⟨r1_, t1, rfl, hr1, HT1, hb⟩; have n0_ := Aside0.mk (Kd.C_below CA.out hb); have n1_ := Aside0.mk (Kd.C_below CB.out hb); have n2_ := Aside0.mk (below_step HB.out hb); have g0' := pw_cell_below hb g0; have g1' := pw_cell_below hb g1; have g2' := pw_cell_below hb g2; have g3' := pw_cell_below hb g3; clear CA CB HB hb g0 g1 g2 g3; have CA := n0_; have CB := n1_; have HB := n2_; clear n0_ n1_ n2_))
              go_upto_block 2 with (first | (go_at_call 22; (refine (find_told Ab cb lb x _ CB.out hcb.out ZB.out).mono ?_); rintro e w7 ⟨r2_, t2, rfl, hr2, HT2, hb⟩; have n0_ := Aside0.mk (Kd.C_below CA.out hb); have n1_ := Aside0.mk (Kd.C_below CB.out hb); have n2_ := Aside0.mk (below_step HB.out hb); clear CA CB HB hb g0' g1' g2' g3'; have CA := n0_; have CB := n1_; have HB := n2_; clear n0_ n1_ n2_))
              go_cut [] (fun wc => Aside0 (Below w7.heap.size w7 wc))
              case first =>
                go_wp2
                go_loopg [15] la.length (fun kq vj w' => ∃ (j : Nat), vj = .int .i64 (j : Int) ∧ Aside0 (la.length ≤ kq + j) ∧ Aside0 (Below w7.heap.size w7 w'))
                case atStart => exact ⟨0, rfl, ⟨Nat.le_refl _⟩, ⟨Below.refl _ _⟩⟩
                case round =>
                  obtain ⟨j, rfl, HK, HW⟩ := hrel
                  obtain ⟨wo, rfl⟩ : ∃ wo : World, wo = wr := ⟨_, rfl⟩
                  by_cases hlt : j < la.length
                  · have da : decide ((j : Int) < (la.length : Int)) = true := decide_eq_true (by omega)
                    have dan : decide (j < la.length) = true := decide_eq_true hlt
                    cases t1 with
                    | true =>
                      go_wp2
                      go_meet
                      case rel => exact HW
                    | false =>
                      obtain ⟨kj, rfl⟩ : ∃ m, gk = m + 1 := ⟨gk - 1, by have := HK.out; omega⟩
                      have hnx : x ∉ la := fun h => by have := HT1.out.2 h; cases this
                      have hma := rd_mem la j hlt
                      have hab1 := P3.out x HXL.out hnx _ hma
                      have hml := P1.out _ hma
                      clear hma hnx
                      have m1 := HU.out _ HXL.out
                      have m2 := HU.out _ hml
                      obtain ⟨adl', q1, g0, g1, g2, g3⟩ := at_T27 (Kd.C_below HC.out (below_step HB.out HW.out)) (iq : Int) (by omega) (by omega)
                      obtain rfl := Option.some.inj q1
                      obtain ⟨ada, q1, r0, r1, r2, r3⟩ := at_T27 (Kd.C_below CA.out HW.out) (j : Int) (by omega) (by omega)
                      subst q1
                      rw [Int.toNat_natCast] at g0 g1 g2 g3 r0 r1 r2 r3
                      rw [HXE.out] at g0 g1 g2 g3
                      generalize rd_T27 la (j : Int) = xb at r0 r1 r2 r3 hab1 m2 hml
                      have AB1 := Aside0.mk hab1
                      have ML := Aside0.mk hml
                      have M1 := Aside0.mk m1
                      have M2 := Aside0.mk m2
                      clear hab1 m1 m2 hml
                      go_wp2
                      refine start_ (n := 18) (S := fun w' => w'.cell? (adl.add (iq * 4)) = some (.string x.f0) ∧ w'.cell? ⟨(adl.add (iq * 4)).block, (adl.add (iq * 4)).off + 1, none⟩ = some (.int .i64 x.f1) ∧ w'.cell? ⟨(adl.add (iq * 4)).block, (adl.add (iq * 4)).off + 2, none⟩ = some (.int .u64 x.f2.f0) ∧ w'.cell? ⟨(adl.add (iq * 4)).block, (adl.add (iq * 4)).off + 3, none⟩ = some (.int .u64 x.f2.f1) ∧ w'.cell? (ada.add (j * 4)) = some (.string xb.f0) ∧ w'.cell? ⟨(ada.add (j * 4)).block, (ada.add (j * 4)).off + 1, none⟩ = some (.int .i64 xb.f1) ∧ w'.cell? ⟨(ada.add (j * 4)).block, (ada.add (j * 4)).off + 2, none⟩ = some (.int .u64 xb.f2.f0) ∧ w'.cell? ⟨(ada.add (j * 4)).block, (ada.add (j * 4)).off + 3, none⟩ = some (.int .u64 xb.f2.f1)) (ds := []) #[false, false, false, false, false, false, false, false, false, false, false, false, false, false, false, false, false, false] (by kernel_rfl) rfl rfl ⟨(pw_cell_below (below_drew (Below.refl _ _)) g0), (pw_cell_below (below_drew (Below.refl _ _)) g1), (pw_cell_below (below_drew (Below.refl _ _)) g2), (pw_cell_below (below_drew (Below.refl _ _)) g3), (pw_cell_below (below_drew (Below.refl _ _)) r0), (pw_cell_below (below_drew (Below.refl _ _)) r1), (pw_cell_below (below_drew (Below.refl _ _)) r2), (pw_cell_below (below_drew (Below.refl _ _)) r3)⟩ (fun hHeld => ?_)
                      refine pure_ (i := 0) (N := some 132) (v := ?_) (a' := ?_) #[true, false, false, false, false, false, false, false, false, false, false, false, false, false, false, false, false, false] rfl rfl (by kernel_rfl) (fun _ _ _ h => h) (Or.inl ⟨by rfl, ?_⟩) ?_ ?_
                      rotate_left
                      · intro w'
                        go_simp
                        with_reducible rfl
                      rotate_left
                      · simp only [Act.put, List.setIfInBounds_toArray, List.set_cons_zero, List.set_cons_succ, i64_w, i32_w]
                        rfl
                      refine pure_ (i := 1) (N := some 133) (v := ?_) (a' := ?_) #[true, true, false, false, false, false, false, false, false, false, false, false, false, false, false, false, false, false] rfl rfl (by kernel_rfl) (fun _ _ _ h => h) (Or.inl ⟨by rfl, ?_⟩) ?_ ?_
                      rotate_left
                      · intro w'
                        go_simp
                        with_reducible rfl
                      rotate_left
                      · simp only [Act.put, List.setIfInBounds_toArray, List.set_cons_zero, List.set_cons_succ, i64_w, i32_w]
                        rfl
                      refine pure_ (i := 2) (N := some 134) (v := ?_) (a' := ?_) #[true, true, true, false, false, false, false, false, false, false, false, false, false, false, false, false, false, false] rfl rfl (by kernel_rfl) (fun _ _ _ h => h) (Or.inl ⟨by rfl, ?_⟩) ?_ ?_
                      rotate_left
                      · intro w'
                        go_simp
                        with_reducible rfl
                      rotate_left
                      · simp only [Act.put, List.setIfInBounds_toArray, List.set_cons_zero, List.set_cons_succ, i64_w, i32_w]
                        rfl
                      refine pure_ (i := 4) (N := some 136) (v := ?_) (a' := ?_) #[true, true, true, false, true, false, false, false, false, false, false, false, false, false, false, false, false, false] rfl rfl (by kernel_rfl) (fun _ _ _ h => h) (Or.inl ⟨by rfl, ?_⟩) ?_ ?_
                      rotate_left
                      · intro w'
                        go_simp
                        with_reducible rfl
                      rotate_left
                      · simp only [Act.put, List.setIfInBounds_toArray, List.set_cons_zero, List.set_cons_succ, i64_w, i32_w]
                        rfl
                      refine pure_ (i := 5) (N := some 137) (v := ?_) (a' := ?_) #[true, true, true, false, true, true, false, false, false, false, false, false, false, false, false, false, false, false] rfl rfl (by kernel_rfl) (fun _ _ _ h => h) (Or.inl ⟨by rfl, ?_⟩) ?_ ?_
                      rotate_left
                      · intro w'
                        go_simp
                        with_reducible rfl
                      rotate_left
                      · simp only [Act.put, List.setIfInBounds_toArray, List.set_cons_zero, List.set_cons_succ, i64_w, i32_w]
                        rfl
                      refine pure_ (i := 6) (N := some 138) (v := ?_) (a' := ?_) #[true, true, true, false, true, true, true, false, false, false, false, false, false, false, false, false, false, false] rfl rfl (by kernel_rfl) (fun _ _ _ h => h) (Or.inl ⟨by rfl, ?_⟩) ?_ ?_
                      rotate_left
                      · intro w'
                        go_simp
                        with_reducible rfl
                      rotate_left
                      · simp only [Act.put, List.setIfInBounds_toArray, List.set_cons_zero, List.set_cons_succ, i64_w, i32_w]
                        rfl
                      refine take_ (i := 3) (N := some 135) (v := ?_) (a' := ?_) #[true, true, true, true, true, true, true, false, false, false, false, false, false, false, false, false, false, false] rfl rfl (by kernel_rfl) (fun _ _ _ h => h) (Or.inl ⟨by rfl, ?_⟩) hHeld ?_ ?_
                      rotate_left
                      · rintro w' ⟨s0, s1, s2, s3, s4, s5, s6, s7⟩
                        go_simp
                        with_reducible rfl
                      rotate_left
                      · simp only [Act.put, List.setIfInBounds_toArray, List.set_cons_zero, List.set_cons_succ, i64_w, i32_w]
                        rfl
                      refine take_ (i := 7) (N := some 139) (v := ?_) (a' := ?_) #[true, true, true, true, true, true, true, true, false, false, false, false, false, false, false, false, false, false] rfl rfl (by kernel_rfl) (fun _ _ _ h => h) (Or.inl ⟨by rfl, ?_⟩) hHeld ?_ ?_
                      rotate_left
                      · rintro w' ⟨s0, s1, s2, s3, s4, s5, s6, s7⟩
                        go_simp
                        with_reducible rfl
                      rotate_left
                      · simp only [Act.put, List.setIfInBounds_toArray, List.set_cons_zero, List.set_cons_succ, i64_w, i32_w]
                        rfl
                      refine one_ (i := 8) (N := some 140) #[true, true, true, true, true, true, true, true, true, false, false, false, false, false, false, false, false, false] rfl rfl (by kernel_rfl) (by decide) (fun K hK => ?_)
                      refine goes_ Try.func13 (by kernel_rfl) rfl #[.agg #[.string x.f0, .int .i64 x.f1, .int .u64 x.f2.f0, .int .u64 x.f2.f1], .agg #[.string xb.f0, .int .i64 xb.f1, .int .u64 xb.f2.f0, .int .u64 xb.f2.f1]] (by rfl) rfl rfl (by simp only [List.map_toArray, List.map_cons, List.map_nil]; rfl) ?_
                      with_reducible refine (ahead_told x xb M1.out M2.out false wo.drew AB1.out).mono ?_
                      rintro e wp ⟨rfl, hbp⟩
                      refine ⟨_, rfl, ?_⟩
                      obtain ⟨g0h, g1h, g2h, g3h, r0h, r1h, r2h, r3h⟩ := hHeld
                      have BP := Aside0.mk hbp
                      have BW := Aside0.mk (below_step (below_drew HW.out) hbp)
                      refine hK.out _ _ ⟨pw_cell_below hbp g0h, pw_cell_below hbp g1h, pw_cell_below hbp g2h, pw_cell_below hbp g3h, pw_cell_below hbp r0h, pw_cell_below hbp r1h, pw_cell_below hbp r2h, pw_cell_below hbp r3h⟩ (fun hHeld => ?_)
                      clear hK K
                      refine norm_ (a' := ?_) ?_ ?_
                      rotate_left
                      · show Act.put _ (some 140) _ = _
                        simp only [Act.put, List.setIfInBounds_toArray, List.set_cons_zero, List.set_cons_succ, i64_w, i32_w]
                        rfl
                      refine pure_ (i := 9) (N := some 141) (v := ?_) (a' := ?_) #[true, true, true, true, true, true, true, true, true, true, false, false, false, false, false, false, false, false] rfl rfl (by kernel_rfl) (fun _ _ _ h => h) (Or.inl ⟨by rfl, ?_⟩) ?_ ?_
                      rotate_left
                      · intro w'
                        go_simp
                        with_reducible rfl
                      rotate_left
                      · simp only [Act.put, List.setIfInBounds_toArray, List.set_cons_zero, List.set_cons_succ, i64_w, i32_w]
                        rfl
                      refine pure_ (i := 10) (N := some 142) (v := ?_) (a' := ?_) #[true, true, true, true, true, true, true, true, true, true, true, false, false, false, false, false, false, false] rfl rfl (by kernel_rfl) (fun _ _ _ h => h) (Or.inl ⟨by rfl, ?_⟩) ?_ ?_
                      rotate_left
                      · intro w'
                        go_simp
                        with_reducible rfl
                      rotate_left
                      · simp only [Act.put, List.setIfInBounds_toArray, List.set_cons_zero, List.set_cons_succ, i64_w, i32_w]
                        rfl
                      refine pure_ (i := 11) (N := some 143) (v := ?_) (a' := ?_) #[true, true, true, true, true, true, true, true, true, true, true, true, false, false, false, false, false, false] rfl rfl (by kernel_rfl) (fun _ _ _ h => h) (Or.inl ⟨by rfl, ?_⟩) ?_ ?_
                      rotate_left
                      · intro w'
                        go_simp
                        with_reducible rfl
                      rotate_left
                      · simp only [Act.put, List.setIfInBounds_toArray, List.set_cons_zero, List.set_cons_succ, i64_w, i32_w]
                        rfl
                      refine pure_ (i := 12) (N := some 144) (v := ?_) (a' := ?_) #[true, true, true, true, true, true, true, true, true, true, true, true, true, false, false, false, false, false] rfl rfl (by kernel_rfl) (fun _ _ _ h => h) (Or.inl ⟨by rfl, ?_⟩) ?_ ?_
                      rotate_left
                      · intro w'
                        go_simp
                        with_reducible rfl
                      rotate_left
                      · simp only [Act.put, List.setIfInBounds_toArray, List.set_cons_zero, List.set_cons_succ, i64_w, i32_w]
                        rfl
                      refine pure_ (i := 13) (N := some 145) (v := ?_) (a' := ?_) #[true, true, true, true, true, true, true, true, true, true, true, true, true, true, false, false, false, false] rfl rfl (by kernel_rfl) (fun _ _ _ h => h) (Or.inl ⟨by rfl, ?_⟩) ?_ ?_
                      rotate_left
                      · intro w'
                        go_simp
                        with_reducible rfl
                      rotate_left
                      · simp only [Act.put, List.setIfInBounds_toArray, List.set_cons_zero, List.set_cons_succ, i64_w, i32_w]
                        rfl
                      refine take_ (i := 14) (N := some 146) (v := ?_) (a' := ?_) #[true, true, true, true, true, true, true, true, true, true, true, true, true, true, true, false, false, false] rfl rfl (by kernel_rfl) (fun _ _ _ h => h) (Or.inl ⟨by rfl, ?_⟩) hHeld ?_ ?_
                      rotate_left
                      · rintro w' ⟨s0, s1, s2, s3, s4, s5, s6, s7⟩
                        go_simp
                        with_reducible rfl
                      rotate_left
                      · simp only [Act.put, List.setIfInBounds_toArray, List.set_cons_zero, List.set_cons_succ, i64_w, i32_w]
                        rfl
                      refine one_ (i := 15) (N := some 147) #[true, true, true, true, true, true, true, true, true, true, true, true, true, true, true, true, false, false] rfl rfl (by kernel_rfl) (by decide) (fun K hK => ?_)
                      refine goes_ Try.func22 (by kernel_rfl) rfl #[.slice (some adl) l.length c, .agg #[.string xb.f0, .int .i64 xb.f1, .int .u64 xb.f2.f0, .int .u64 xb.f2.f1]] (by rfl) rfl rfl (by simp only [List.map_toArray, List.map_cons, List.map_nil]; rfl) ?_
                      with_reducible refine (find_told_in (some adl) c l xb wp (Kd.C_below HC.out (below_step HB.out BW.out)) hc HL5.out ML.out).mono ?_
                      rintro e wq ⟨rz, rfl, hrz, hbq⟩
                      refine ⟨_, rfl, ?_⟩
                      obtain ⟨g0k, g1k, g2k, g3k, r0k, r1k, r2k, r3k⟩ := hHeld
                      have n0_ := Aside0.mk (below_step BW.out hbq)
                      refine hK.out _ _ ⟨pw_cell_below hbq g0k, pw_cell_below hbq g1k, pw_cell_below hbq g2k, pw_cell_below hbq g3k, pw_cell_below hbq r0k, pw_cell_below hbq r1k, pw_cell_below hbq r2k, pw_cell_below hbq r3k⟩ (fun hHeld => ?_)
                      clear hK K
                      refine norm_ (a' := ?_) ?_ ?_
                      rotate_left
                      · show Act.put _ (some 147) _ = _
                        simp only [Act.put, List.setIfInBounds_toArray, List.set_cons_zero, List.set_cons_succ, i64_w, i32_w]
                        rfl
                      refine pure_ (i := 16) (N := some 148) (v := ?_) (a' := ?_) #[true, true, true, true, true, true, true, true, true, true, true, true, true, true, true, true, true, false] rfl rfl (by kernel_rfl) (fun _ _ _ h => h) (Or.inl ⟨by rfl, ?_⟩) ?_ ?_
                      rotate_left
                      · intro w'
                        go_simp
                        with_reducible rfl
                      rotate_left
                      · simp only [Act.put, List.setIfInBounds_toArray, List.set_cons_zero, List.set_cons_succ, i64_w, i32_w]
                        rfl
                      refine pure_ (i := 17) (N := some 149) (v := ?_) (a' := ?_) #[true, true, true, true, true, true, true, true, true, true, true, true, true, true, true, true, true, true] rfl rfl (by kernel_rfl) (fun _ _ _ h => h) (Or.inl ⟨by rfl, ?_⟩) ?_ ?_
                      rotate_left
                      · intro w'
                        go_simp
                        with_reducible rfl
                      rotate_left
                      · simp only [Act.put, List.setIfInBounds_toArray, List.set_cons_zero, List.set_cons_succ, i64_w, i32_w]
                        rfl
                      refine done_ (by kernel_rfl) ?_
                      clear HW
                      have HW := n0_
                      clear n0_
                      go_wp2
                      go_roundg kj
                      case measure => omega
                      case rel => exact ⟨j + 1, congrArg (Value.int .i64) (by have := ZA.out; unfold wrap64; omega), ⟨by have := HK.out; omega⟩, HW⟩
                  · have da : decide ((j : Int) < (la.length : Int)) = false := decide_eq_false (by omega)
                    have dan : decide (j < la.length) = false := decide_eq_false hlt
                    go_wp2
                    go_meet
                    case rel => exact HW
              case rest =>
                obtain ⟨hbz⟩ := hcut
                obtain ⟨w8, rfl⟩ : ∃ x : World, x = wc := ⟨_, rfl⟩
                have n0_ := Aside0.mk (Kd.C_below CA.out hbz)
                have n1_ := Aside0.mk (Kd.C_below CB.out hbz)
                have n2_ := Aside0.mk (below_step HB.out hbz)
                clear CA CB HB hbz
                have CA := n0_
                have CB := n1_
                have HB := n2_
                clear n0_ n1_ n2_
                go_upto_block 4 with fail
                go_cut [] (fun wc => Aside0 (Below w8.heap.size w8 wc))
                case first =>
                  go_wp2
                  go_loopg [16] lb.length (fun kq vj w' => ∃ (j : Nat), vj = .int .i64 (j : Int) ∧ Aside0 (lb.length ≤ kq + j) ∧ Aside0 (Below w8.heap.size w8 w'))
                  case atStart => exact ⟨0, rfl, ⟨Nat.le_refl _⟩, ⟨Below.refl _ _⟩⟩
                  case round =>
                    obtain ⟨j, rfl, HK, HW⟩ := hrel
                    obtain ⟨wo, rfl⟩ : ∃ wo : World, wo = wr := ⟨_, rfl⟩
                    by_cases hlt : j < lb.length
                    · have da : decide ((j : Int) < (lb.length : Int)) = true := decide_eq_true (by omega)
                      have dan : decide (j < lb.length) = true := decide_eq_true hlt
                      cases t2 with
                      | true =>
                        go_wp2
                        go_meet
                        case rel => exact HW
                      | false =>
                        obtain ⟨kj, rfl⟩ : ∃ m, gk = m + 1 := ⟨gk - 1, by have := HK.out; omega⟩
                        have hnx : x ∉ lb := fun h => by have := HT2.out.2 h; cases this
                        have hma := rd_mem lb j hlt
                        have hab1 := Q3.out x HXL.out hnx _ hma
                        have hml := Q1.out _ hma
                        clear hma hnx
                        have m1 := HU.out _ HXL.out
                        have m2 := HU.out _ hml
                        obtain ⟨adl', q1, g0, g1, g2, g3⟩ := at_T27 (Kd.C_below HC.out (below_step HB.out HW.out)) (iq : Int) (by omega) (by omega)
                        obtain rfl := Option.some.inj q1
                        obtain ⟨ada, q1, r0, r1, r2, r3⟩ := at_T27 (Kd.C_below CB.out HW.out) (j : Int) (by omega) (by omega)
                        subst q1
                        rw [Int.toNat_natCast] at g0 g1 g2 g3 r0 r1 r2 r3
                        rw [HXE.out] at g0 g1 g2 g3
                        generalize rd_T27 lb (j : Int) = xb at r0 r1 r2 r3 hab1 m2 hml
                        have AB1 := Aside0.mk hab1
                        have ML := Aside0.mk hml
                        have M1 := Aside0.mk m1
                        have M2 := Aside0.mk m2
                        clear hab1 m1 m2 hml
                        go_wp2
                        refine start_ (n := 18) (S := fun w' => w'.cell? (adl.add (iq * 4)) = some (.string x.f0) ∧ w'.cell? ⟨(adl.add (iq * 4)).block, (adl.add (iq * 4)).off + 1, none⟩ = some (.int .i64 x.f1) ∧ w'.cell? ⟨(adl.add (iq * 4)).block, (adl.add (iq * 4)).off + 2, none⟩ = some (.int .u64 x.f2.f0) ∧ w'.cell? ⟨(adl.add (iq * 4)).block, (adl.add (iq * 4)).off + 3, none⟩ = some (.int .u64 x.f2.f1) ∧ w'.cell? (ada.add (j * 4)) = some (.string xb.f0) ∧ w'.cell? ⟨(ada.add (j * 4)).block, (ada.add (j * 4)).off + 1, none⟩ = some (.int .i64 xb.f1) ∧ w'.cell? ⟨(ada.add (j * 4)).block, (ada.add (j * 4)).off + 2, none⟩ = some (.int .u64 xb.f2.f0) ∧ w'.cell? ⟨(ada.add (j * 4)).block, (ada.add (j * 4)).off + 3, none⟩ = some (.int .u64 xb.f2.f1)) (ds := []) #[false, false, false, false, false, false, false, false, false, false, false, false, false, false, false, false, false, false] (by kernel_rfl) rfl rfl ⟨(pw_cell_below (below_drew (Below.refl _ _)) g0), (pw_cell_below (below_drew (Below.refl _ _)) g1), (pw_cell_below (below_drew (Below.refl _ _)) g2), (pw_cell_below (below_drew (Below.refl _ _)) g3), (pw_cell_below (below_drew (Below.refl _ _)) r0), (pw_cell_below (below_drew (Below.refl _ _)) r1), (pw_cell_below (below_drew (Below.refl _ _)) r2), (pw_cell_below (below_drew (Below.refl _ _)) r3)⟩ (fun hHeld => ?_)
                        refine pure_ (i := 0) (N := some 160) (v := ?_) (a' := ?_) #[true, false, false, false, false, false, false, false, false, false, false, false, false, false, false, false, false, false] rfl rfl (by kernel_rfl) (fun _ _ _ h => h) (Or.inl ⟨by rfl, ?_⟩) ?_ ?_
                        rotate_left
                        · intro w'
                          go_simp
                          with_reducible rfl
                        rotate_left
                        · simp only [Act.put, List.setIfInBounds_toArray, List.set_cons_zero, List.set_cons_succ, i64_w, i32_w]
                          rfl
                        refine pure_ (i := 1) (N := some 161) (v := ?_) (a' := ?_) #[true, true, false, false, false, false, false, false, false, false, false, false, false, false, false, false, false, false] rfl rfl (by kernel_rfl) (fun _ _ _ h => h) (Or.inl ⟨by rfl, ?_⟩) ?_ ?_
                        rotate_left
                        · intro w'
                          go_simp
                          with_reducible rfl
                        rotate_left
                        · simp only [Act.put, List.setIfInBounds_toArray, List.set_cons_zero, List.set_cons_succ, i64_w, i32_w]
                          rfl
                        refine pure_ (i := 2) (N := some 162) (v := ?_) (a' := ?_) #[true, true, true, false, false, false, false, false, false, false, false, false, false, false, false, false, false, false] rfl rfl (by kernel_rfl) (fun _ _ _ h => h) (Or.inl ⟨by rfl, ?_⟩) ?_ ?_
                        rotate_left
                        · intro w'
                          go_simp
                          with_reducible rfl
                        rotate_left
                        · simp only [Act.put, List.setIfInBounds_toArray, List.set_cons_zero, List.set_cons_succ, i64_w, i32_w]
                          rfl
                        refine pure_ (i := 4) (N := some 164) (v := ?_) (a' := ?_) #[true, true, true, false, true, false, false, false, false, false, false, false, false, false, false, false, false, false] rfl rfl (by kernel_rfl) (fun _ _ _ h => h) (Or.inl ⟨by rfl, ?_⟩) ?_ ?_
                        rotate_left
                        · intro w'
                          go_simp
                          with_reducible rfl
                        rotate_left
                        · simp only [Act.put, List.setIfInBounds_toArray, List.set_cons_zero, List.set_cons_succ, i64_w, i32_w]
                          rfl
                        refine pure_ (i := 5) (N := some 165) (v := ?_) (a' := ?_) #[true, true, true, false, true, true, false, false, false, false, false, false, false, false, false, false, false, false] rfl rfl (by kernel_rfl) (fun _ _ _ h => h) (Or.inl ⟨by rfl, ?_⟩) ?_ ?_
                        rotate_left
                        · intro w'
                          go_simp
                          with_reducible rfl
                        rotate_left
                        · simp only [Act.put, List.setIfInBounds_toArray, List.set_cons_zero, List.set_cons_succ, i64_w, i32_w]
                          rfl
                        refine pure_ (i := 6) (N := some 166) (v := ?_) (a' := ?_) #[true, true, true, false, true, true, true, false, false, false, false, false, false, false, false, false, false, false] rfl rfl (by kernel_rfl) (fun _ _ _ h => h) (Or.inl ⟨by rfl, ?_⟩) ?_ ?_
                        rotate_left
                        · intro w'
                          go_simp
                          with_reducible rfl
                        rotate_left
                        · simp only [Act.put, List.setIfInBounds_toArray, List.set_cons_zero, List.set_cons_succ, i64_w, i32_w]
                          rfl
                        refine take_ (i := 3) (N := some 163) (v := ?_) (a' := ?_) #[true, true, true, true, true, true, true, false, false, false, false, false, false, false, false, false, false, false] rfl rfl (by kernel_rfl) (fun _ _ _ h => h) (Or.inl ⟨by rfl, ?_⟩) hHeld ?_ ?_
                        rotate_left
                        · rintro w' ⟨s0, s1, s2, s3, s4, s5, s6, s7⟩
                          go_simp
                          with_reducible rfl
                        rotate_left
                        · simp only [Act.put, List.setIfInBounds_toArray, List.set_cons_zero, List.set_cons_succ, i64_w, i32_w]
                          rfl
                        refine take_ (i := 7) (N := some 167) (v := ?_) (a' := ?_) #[true, true, true, true, true, true, true, true, false, false, false, false, false, false, false, false, false, false] rfl rfl (by kernel_rfl) (fun _ _ _ h => h) (Or.inl ⟨by rfl, ?_⟩) hHeld ?_ ?_
                        rotate_left
                        · rintro w' ⟨s0, s1, s2, s3, s4, s5, s6, s7⟩
                          go_simp
                          with_reducible rfl
                        rotate_left
                        · simp only [Act.put, List.setIfInBounds_toArray, List.set_cons_zero, List.set_cons_succ, i64_w, i32_w]
                          rfl
                        refine one_ (i := 8) (N := some 168) #[true, true, true, true, true, true, true, true, true, false, false, false, false, false, false, false, false, false] rfl rfl (by kernel_rfl) (by decide) (fun K hK => ?_)
                        refine goes_ Try.func15 (by kernel_rfl) rfl #[.agg #[.string x.f0, .int .i64 x.f1, .int .u64 x.f2.f0, .int .u64 x.f2.f1], .agg #[.string xb.f0, .int .i64 xb.f1, .int .u64 xb.f2.f0, .int .u64 xb.f2.f1]] (by rfl) rfl rfl (by simp only [List.map_toArray, List.map_cons, List.map_nil]; rfl) ?_
                        with_reducible refine (sooner_told x xb false wo.drew AB1.out).mono ?_
                        rintro e wp ⟨rfl, hbp⟩
                        refine ⟨_, rfl, ?_⟩
                        obtain ⟨g0h, g1h, g2h, g3h, r0h, r1h, r2h, r3h⟩ := hHeld
                        have BP := Aside0.mk hbp
                        have BW := Aside0.mk (below_step (below_drew HW.out) hbp)
                        refine hK.out _ _ ⟨pw_cell_below hbp g0h, pw_cell_below hbp g1h, pw_cell_below hbp g2h, pw_cell_below hbp g3h, pw_cell_below hbp r0h, pw_cell_below hbp r1h, pw_cell_below hbp r2h, pw_cell_below hbp r3h⟩ (fun hHeld => ?_)
                        clear hK K
                        refine norm_ (a' := ?_) ?_ ?_
                        rotate_left
                        · show Act.put _ (some 168) _ = _
                          simp only [Act.put, List.setIfInBounds_toArray, List.set_cons_zero, List.set_cons_succ, i64_w, i32_w]
                          rfl
                        refine pure_ (i := 9) (N := some 169) (v := ?_) (a' := ?_) #[true, true, true, true, true, true, true, true, true, true, false, false, false, false, false, false, false, false] rfl rfl (by kernel_rfl) (fun _ _ _ h => h) (Or.inl ⟨by rfl, ?_⟩) ?_ ?_
                        rotate_left
                        · intro w'
                          go_simp
                          with_reducible rfl
                        rotate_left
                        · simp only [Act.put, List.setIfInBounds_toArray, List.set_cons_zero, List.set_cons_succ, i64_w, i32_w]
                          rfl
                        refine pure_ (i := 10) (N := some 170) (v := ?_) (a' := ?_) #[true, true, true, true, true, true, true, true, true, true, true, false, false, false, false, false, false, false] rfl rfl (by kernel_rfl) (fun _ _ _ h => h) (Or.inl ⟨by rfl, ?_⟩) ?_ ?_
                        rotate_left
                        · intro w'
                          go_simp
                          with_reducible rfl
                        rotate_left
                        · simp only [Act.put, List.setIfInBounds_toArray, List.set_cons_zero, List.set_cons_succ, i64_w, i32_w]
                          rfl
                        refine pure_ (i := 11) (N := some 171) (v := ?_) (a' := ?_) #[true, true, true, true, true, true, true, true, true, true, true, true, false, false, false, false, false, false] rfl rfl (by kernel_rfl) (fun _ _ _ h => h) (Or.inl ⟨by rfl, ?_⟩) ?_ ?_
                        rotate_left
                        · intro w'
                          go_simp
                          with_reducible rfl
                        rotate_left
                        · simp only [Act.put, List.setIfInBounds_toArray, List.set_cons_zero, List.set_cons_succ, i64_w, i32_w]
                          rfl
                        refine pure_ (i := 12) (N := some 172) (v := ?_) (a' := ?_) #[true, true, true, true, true, true, true, true, true, true, true, true, true, false, false, false, false, false] rfl rfl (by kernel_rfl) (fun _ _ _ h => h) (Or.inl ⟨by rfl, ?_⟩) ?_ ?_
                        rotate_left
                        · intro w'
                          go_simp
                          with_reducible rfl
                        rotate_left
                        · simp only [Act.put, List.setIfInBounds_toArray, List.set_cons_zero, List.set_cons_succ, i64_w, i32_w]
                          rfl
                        refine pure_ (i := 13) (N := some 173) (v := ?_) (a' := ?_) #[true, true, true, true, true, true, true, true, true, true, true, true, true, true, false, false, false, false] rfl rfl (by kernel_rfl) (fun _ _ _ h => h) (Or.inl ⟨by rfl, ?_⟩) ?_ ?_
                        rotate_left
                        · intro w'
                          go_simp
                          with_reducible rfl
                        rotate_left
                        · simp only [Act.put, List.setIfInBounds_toArray, List.set_cons_zero, List.set_cons_succ, i64_w, i32_w]
                          rfl
                        refine take_ (i := 14) (N := some 174) (v := ?_) (a' := ?_) #[true, true, true, true, true, true, true, true, true, true, true, true, true, true, true, false, false, false] rfl rfl (by kernel_rfl) (fun _ _ _ h => h) (Or.inl ⟨by rfl, ?_⟩) hHeld ?_ ?_
                        rotate_left
                        · rintro w' ⟨s0, s1, s2, s3, s4, s5, s6, s7⟩
                          go_simp
                          with_reducible rfl
                        rotate_left
                        · simp only [Act.put, List.setIfInBounds_toArray, List.set_cons_zero, List.set_cons_succ, i64_w, i32_w]
                          rfl
                        refine one_ (i := 15) (N := some 175) #[true, true, true, true, true, true, true, true, true, true, true, true, true, true, true, true, false, false] rfl rfl (by kernel_rfl) (by decide) (fun K hK => ?_)
                        refine goes_ Try.func22 (by kernel_rfl) rfl #[.slice (some adl) l.length c, .agg #[.string xb.f0, .int .i64 xb.f1, .int .u64 xb.f2.f0, .int .u64 xb.f2.f1]] (by rfl) rfl rfl (by simp only [List.map_toArray, List.map_cons, List.map_nil]; rfl) ?_
                        with_reducible refine (find_told_in (some adl) c l xb wp (Kd.C_below HC.out (below_step HB.out BW.out)) hc HL5.out ML.out).mono ?_
                        rintro e wq ⟨rz, rfl, hrz, hbq⟩
                        refine ⟨_, rfl, ?_⟩
                        obtain ⟨g0k, g1k, g2k, g3k, r0k, r1k, r2k, r3k⟩ := hHeld
                        have n0_ := Aside0.mk (below_step BW.out hbq)
                        refine hK.out _ _ ⟨pw_cell_below hbq g0k, pw_cell_below hbq g1k, pw_cell_below hbq g2k, pw_cell_below hbq g3k, pw_cell_below hbq r0k, pw_cell_below hbq r1k, pw_cell_below hbq r2k, pw_cell_below hbq r3k⟩ (fun hHeld => ?_)
                        clear hK K
                        refine norm_ (a' := ?_) ?_ ?_
                        rotate_left
                        · show Act.put _ (some 175) _ = _
                          simp only [Act.put, List.setIfInBounds_toArray, List.set_cons_zero, List.set_cons_succ, i64_w, i32_w]
                          rfl
                        refine pure_ (i := 16) (N := some 176) (v := ?_) (a' := ?_) #[true, true, true, true, true, true, true, true, true, true, true, true, true, true, true, true, true, false] rfl rfl (by kernel_rfl) (fun _ _ _ h => h) (Or.inl ⟨by rfl, ?_⟩) ?_ ?_
                        rotate_left
                        · intro w'
                          go_simp
                          with_reducible rfl
                        rotate_left
                        · simp only [Act.put, List.setIfInBounds_toArray, List.set_cons_zero, List.set_cons_succ, i64_w, i32_w]
                          rfl
                        refine pure_ (i := 17) (N := some 177) (v := ?_) (a' := ?_) #[true, true, true, true, true, true, true, true, true, true, true, true, true, true, true, true, true, true] rfl rfl (by kernel_rfl) (fun _ _ _ h => h) (Or.inl ⟨by rfl, ?_⟩) ?_ ?_
                        rotate_left
                        · intro w'
                          go_simp
                          with_reducible rfl
                        rotate_left
                        · simp only [Act.put, List.setIfInBounds_toArray, List.set_cons_zero, List.set_cons_succ, i64_w, i32_w]
                          rfl
                        refine done_ (by kernel_rfl) ?_
                        clear HW
                        have HW := n0_
                        clear n0_
                        go_wp2
                        go_roundg kj
                        case measure => omega
                        case rel => exact ⟨j + 1, congrArg (Value.int .i64) (by have := ZB.out; unfold wrap64; omega), ⟨by have := HK.out; omega⟩, HW⟩
                    · have da : decide ((j : Int) < (lb.length : Int)) = false := decide_eq_false (by omega)
                      have dan : decide (j < lb.length) = false := decide_eq_false hlt
                      go_wp2
                      go_meet
                      case rel => exact HW
                case rest =>
                  obtain ⟨hbz⟩ := hcut
                  obtain ⟨w9, rfl⟩ : ∃ x : World, x = wc := ⟨_, rfl⟩
                  have n0_ := Aside0.mk (Kd.C_below CA.out hbz)
                  have n1_ := Aside0.mk (Kd.C_below CB.out hbz)
                  have n2_ := Aside0.mk (below_step HB.out hbz)
                  clear CA CB HB hbz
                  have CA := n0_
                  have CB := n1_
                  have HB := n2_
                  clear n0_ n1_ n2_
                  go_wp2
                  go_ret
                  exact ⟨rfl, HB.out⟩

end Go.Proofs.Ytkdbfeapfcflmaa.T
