import Derived.Test.YtfhcolhiolgikaaQBV
import Derived.Test.YtfhcolhiolgikaaProg
import Derived.Below
import Derived.Deep.Draws
import Derived.Deep.AppendLies
import Derived.Maps.AppendAt
import Derived.OwnWalk
import Derived.Laws.BytesArg
import Derived.Laws.MakeOwn
import Derived.Laws.OwnMore
import Derived.Deep.OwnRows
import Derived.Tactics
import Derived.Lib.ConvBytes
import Derived.Laws.Slices
import Derived.WalkKit
import Derived.KernelRfl
import Derived.RowKit3
import Derived.Deep.LoopGhost
import Derived.Deep.QuietTactic
import Derived.BigQuiet
import Derived.WideLaws
import Derived.Deep.DeepCutAuto
import Derived.Deep.CutBlock
import Derived.Deep.RegionHeld3
import Derived.Laws.Rows
import Derived.Lib.AppendStr
import Derived.ArgAppend
import Derived.Laws.IdiomCopy
import Derived.OrdersHeld
import Derived.Laws.BitsLemmas
import Derived.RowKit
import Derived.Test.YtfhcolhiolgikaaQBA
import Derived.Test.YtfhcolhiolgikaaQBD
import Derived.Test.YtfhcolhiolgikaaQBN
import Derived.Test.YtfhcolhiolgikaaQBO
/- Texts of this claim, laid together by a program (merge.py): Pb. -/
/- Written by hp.py, this session's own program, out of the translation of this seat: Lean functions for the Go functions, and the proof that each call comes to what its Lean function says. -/
namespace Go.Proofs.Ytfhcolhiolgikaa.T
open Go.RowKit Go.Proofs.YtfhcolhiolgikaaW.PrintWords Go.Proofs.YtfhcolhiolgikaaW.PrintLast Go.Proofs.YtfhcolhiolgikaaW.PrintMore
attribute [local go_sem] max2_int min2_int max_two min_two max_three min_three max_four min_four   -- for this text's walks alone
set_option linter.unusedVariables false
set_option linter.unusedSimpArgs false
/-! ### the law PackBack (3), by hand -/
open Go.Proofs.Ytfhcolhiolgikaa.Plain
set_option maxHeartbeats 8000000 in
set_option maxRecDepth 100000 in
theorem packBack_calls (A0 : Option Addr) (c0 : Nat) (ids : List ByteArray) (A1 : Option Addr) (c1 : Nat) (keys : List Int) (A2 : Option Addr) (c2 : Nat) (lens : List Int) (A3 : Option Addr) (c3 : Nat) (terms : List S44) (so : Bool) (w : World)
    (hC0 : Kd.C Kd.string w A0 ids.length ids) (hc0 : ids.length ≤ c0) (hC1 : Kd.C (Kd.int .i64) w A1 keys.length keys) (hc1 : keys.length ≤ c1) (hC2 : Kd.C (Kd.int .i64) w A2 lens.length lens) (hc2 : lens.length ≤ c2) (hC3 : Kd.C k44 w A3 terms.length terms) (hc3 : terms.length ≤ c3) :
    Calls Try.prog 3 #[.agg #[.slice A0 ids.length c0, .slice A1 keys.length c1, .slice A2 lens.length c2, .slice A3 terms.length c3, .bool so]] w fun e w' => e = .returned (.bool true) ∧ Below w.heap.size w w' := by
  have hu26 := Try.underlying26
  have HC0 := Aside0.mk hC0
  have HC1 := Aside0.mk hC1
  have HC2 := Aside0.mk hC2
  have HC3 := Aside0.mk hC3
  have HCC0 := Aside0.mk hc0
  have HCC1 := Aside0.mk hc1
  have HCC2 := Aside0.mk hc2
  have HCC3 := Aside0.mk hc3
  clear hC0 hC1 hC2 hC3 hc0 hc1 hc2 hc3
  obtain ⟨fw, hf, hfw⟩ := few8 ids keys lens terms so
  have HF := Aside0.mk hf
  have HFW := Aside0.mk hfw
  clear hf hfw
  go_enter Try.func3, Try.ntmps3
  go_upto_region 1 with fail
  have b0 := blk_new w (.cells #[.slice A0 ids.length c0, .slice A1 keys.length c1, .slice A2 lens.length c2, .slice A3 terms.length c3, .bool so] 26)
  have HB := Aside0.mk (below_alloc (Below.refl w.heap.size w) (.cells #[.slice A0 ids.length c0, .slice A1 keys.length c1, .slice A2 lens.length c2, .slice A3 terms.length c3, .bool so] 26))
  change Code.wp _ _ _ _ (w.alloc (.cells #[.slice A0 ids.length c0, .slice A1 keys.length c1, .slice A2 lens.length c2, .slice A3 terms.length c3, .bool so] 26))
  generalize (w.alloc (.cells #[.slice A0 ids.length c0, .slice A1 keys.length c1, .slice A2 lens.length c2, .slice A3 terms.length c3, .bool so] 26)) = wb at *
  generalize w.heap.size = G at b0 ⊢
  have BG := Aside0.mk b0
  clear b0
  have s0 : wb.cell? ⟨G, 0, none⟩ = some (.slice A0 ids.length c0) := (blk_cell BG.out 0).trans rfl
  have s1 : wb.cell? ⟨G, 1, none⟩ = some (.slice A1 keys.length c1) := (blk_cell BG.out 1).trans rfl
  have s2 : wb.cell? ⟨G, 2, none⟩ = some (.slice A2 lens.length c2) := (blk_cell BG.out 2).trans rfl
  have s3 : wb.cell? ⟨G, 3, none⟩ = some (.slice A3 terms.length c3) := (blk_cell BG.out 3).trans rfl
  have s4 : wb.cell? ⟨G, 4, none⟩ = some (.bool so) := (blk_cell BG.out 4).trans rfl
  cases fw with
  | false =>
    go_wp2_with (first | (go_at_call 6; (refine (awake_calls _).mono ?_); rintro e_ w1 ⟨rfl, hb⟩; have m0_ := Aside0.mk (below_step HB.out hb); have m1_ := Aside0.mk (blk_below BG.out hb); clear hb s0 s1 s2 s3 s4 HB BG; have HB := m0_; have BG := m1_; clear m0_ m1_; have s0 : w1.cell? ⟨G, 0, none⟩ = some (.slice A0 ids.length c0) := (blk_cell BG.out 0).trans rfl; have s1 : w1.cell? ⟨G, 1, none⟩ = some (.slice A1 keys.length c1) := (blk_cell BG.out 1).trans rfl; have s2 : w1.cell? ⟨G, 2, none⟩ = some (.slice A2 lens.length c2) := (blk_cell BG.out 2).trans rfl; have s3 : w1.cell? ⟨G, 3, none⟩ = some (.slice A3 terms.length c3) := (blk_cell BG.out 3).trans rfl; have s4 : w1.cell? ⟨G, 4, none⟩ = some (.bool so) := (blk_cell BG.out 4).trans rfl) | (go_at_call 7; (refine (catchwordlaw08_FewSeg.calls 500 A0 c0 ids A1 c1 keys A2 c2 lens A3 c3 terms so _ _ (Kd.C_below HC0.out HB.out) HCC0.out (Kd.C_below HC1.out HB.out) HCC1.out (Kd.C_below HC2.out HB.out) HCC2.out (Kd.C_below HC3.out HB.out) HCC3.out HF.out).mono ?_); rintro e_ w2 ⟨rfl, hb⟩; have m0_ := Aside0.mk (below_step HB.out hb); have m1_ := Aside0.mk (blk_below BG.out hb); clear hb s0 s1 s2 s3 s4 HB BG; have HB := m0_; have BG := m1_; clear m0_ m1_; have s0 : w2.cell? ⟨G, 0, none⟩ = some (.slice A0 ids.length c0) := (blk_cell BG.out 0).trans rfl; have s1 : w2.cell? ⟨G, 1, none⟩ = some (.slice A1 keys.length c1) := (blk_cell BG.out 1).trans rfl; have s2 : w2.cell? ⟨G, 2, none⟩ = some (.slice A2 lens.length c2) := (blk_cell BG.out 2).trans rfl; have s3 : w2.cell? ⟨G, 3, none⟩ = some (.slice A3 terms.length c3) := (blk_cell BG.out 3).trans rfl; have s4 : w2.cell? ⟨G, 4, none⟩ = some (.bool so) := (blk_cell BG.out 4).trans rfl))
    go_ret
    exact ⟨rfl, HB.out⟩
  | true =>
  have HSM := Aside0.mk (HFW.out rfl)
  obtain ⟨m, hm⟩ : ∃ m, segMayP ids keys lens terms so = m := ⟨_, rfl⟩
  have HM := Aside0.mk hm
  cases m with
  | false =>
    have HPE := Aside0.mk (show packE ids keys lens terms so = 1 from if_neg (by rw [hm]; decide))
    have HPR := Aside0.mk (show packR ids keys lens terms so = [] from if_neg (by rw [hm]; decide))
    clear hm
    go_wp2_with (first | (go_at_call 6; (refine (awake_calls _).mono ?_); rintro e_ w1 ⟨rfl, hb⟩; have m0_ := Aside0.mk (below_step HB.out hb); have m1_ := Aside0.mk (blk_below BG.out hb); clear hb s0 s1 s2 s3 s4 HB BG; have HB := m0_; have BG := m1_; clear m0_ m1_; have s0 : w1.cell? ⟨G, 0, none⟩ = some (.slice A0 ids.length c0) := (blk_cell BG.out 0).trans rfl; have s1 : w1.cell? ⟨G, 1, none⟩ = some (.slice A1 keys.length c1) := (blk_cell BG.out 1).trans rfl; have s2 : w1.cell? ⟨G, 2, none⟩ = some (.slice A2 lens.length c2) := (blk_cell BG.out 2).trans rfl; have s3 : w1.cell? ⟨G, 3, none⟩ = some (.slice A3 terms.length c3) := (blk_cell BG.out 3).trans rfl; have s4 : w1.cell? ⟨G, 4, none⟩ = some (.bool so) := (blk_cell BG.out 4).trans rfl) | (go_at_call 7; (refine (catchwordlaw08_FewSeg.calls 500 A0 c0 ids A1 c1 keys A2 c2 lens A3 c3 terms so _ _ (Kd.C_below HC0.out HB.out) HCC0.out (Kd.C_below HC1.out HB.out) HCC1.out (Kd.C_below HC2.out HB.out) HCC2.out (Kd.C_below HC3.out HB.out) HCC3.out HF.out).mono ?_); rintro e_ w2 ⟨rfl, hb⟩; have m0_ := Aside0.mk (below_step HB.out hb); have m1_ := Aside0.mk (blk_below BG.out hb); clear hb s0 s1 s2 s3 s4 HB BG; have HB := m0_; have BG := m1_; clear m0_ m1_; have s0 : w2.cell? ⟨G, 0, none⟩ = some (.slice A0 ids.length c0) := (blk_cell BG.out 0).trans rfl; have s1 : w2.cell? ⟨G, 1, none⟩ = some (.slice A1 keys.length c1) := (blk_cell BG.out 1).trans rfl; have s2 : w2.cell? ⟨G, 2, none⟩ = some (.slice A2 lens.length c2) := (blk_cell BG.out 2).trans rfl; have s3 : w2.cell? ⟨G, 3, none⟩ = some (.slice A3 terms.length c3) := (blk_cell BG.out 3).trans rfl; have s4 : w2.cell? ⟨G, 4, none⟩ = some (.bool so) := (blk_cell BG.out 4).trans rfl) | (go_at_call 8; have hc := pack_calls A0 c0 ids A1 c1 keys A2 c2 lens A3 c3 terms so _ (Kd.C_below HC0.out HB.out) (Kd.C_below HC1.out HB.out) (Kd.C_below HC2.out HB.out) (Kd.C_below HC3.out HB.out) HCC1.out HCC2.out (fun x hx => HSM.out.is x hx) (Nat.le_trans HSM.out.nt (by decide)) (fun t ht => Nat.le_trans (HSM.out.ps t ht).1 (by decide)); rw [HPE.out, HPR.out] at hc; (refine hc.mono ?_); clear hc; rintro e_ w3 ⟨vb, rfl, hr, hb⟩; obtain ⟨A, c, rfl⟩ := Kd.R_slice hr; have BN := Aside0.mk (Kd.R_reads' hr).2.2; have LB := Aside0.mk (Kd.R_reads' hr).2.1; clear hr; have m0_ := Aside0.mk (below_step HB.out hb); have m1_ := Aside0.mk (blk_below BG.out hb); clear hb s0 s1 s2 s3 s4 HB BG; have HB := m0_; have BG := m1_; clear m0_ m1_; have s0 : w3.cell? ⟨G, 0, none⟩ = some (.slice A0 ids.length c0) := (blk_cell BG.out 0).trans rfl; have s1 : w3.cell? ⟨G, 1, none⟩ = some (.slice A1 keys.length c1) := (blk_cell BG.out 1).trans rfl; have s2 : w3.cell? ⟨G, 2, none⟩ = some (.slice A2 lens.length c2) := (blk_cell BG.out 2).trans rfl; have s3 : w3.cell? ⟨G, 3, none⟩ = some (.slice A3 terms.length c3) := (blk_cell BG.out 3).trans rfl; have s4 : w3.cell? ⟨G, 4, none⟩ = some (.bool so) := (blk_cell BG.out 4).trans rfl; have BB := BN; clear BN) | (go_at_call 9; have hc := segmay_calls A0 c0 ids A1 c1 keys A2 c2 lens A3 c3 terms so _ (Kd.C_below HC0.out HB.out) (Kd.C_below HC1.out HB.out) (Kd.C_below HC2.out HB.out) (Kd.C_below HC3.out HB.out) (fun x hx => HSM.out.is x hx) (Nat.le_trans HSM.out.nt (by decide)) (fun t ht => Nat.le_trans (HSM.out.ps t ht).1 (by decide)); rw [HM.out] at hc; (refine hc.mono ?_); clear hc; rintro e_ w9 ⟨rfl, hb⟩; have m0_ := Aside0.mk (below_step HB.out hb); have m1_ := Aside0.mk (blk_below BG.out hb); have m2_ := Aside0.mk (Kd.C_below BB.out hb); clear hb s0 s1 s2 s3 s4 HB BG BB; have HB := m0_; have BG := m1_; have BB := m2_; clear m0_ m1_ m2_; have s0 : w9.cell? ⟨G, 0, none⟩ = some (.slice A0 ids.length c0) := (blk_cell BG.out 0).trans rfl; have s1 : w9.cell? ⟨G, 1, none⟩ = some (.slice A1 keys.length c1) := (blk_cell BG.out 1).trans rfl; have s2 : w9.cell? ⟨G, 2, none⟩ = some (.slice A2 lens.length c2) := (blk_cell BG.out 2).trans rfl; have s3 : w9.cell? ⟨G, 3, none⟩ = some (.slice A3 terms.length c3) := (blk_cell BG.out 3).trans rfl; have s4 : w9.cell? ⟨G, 4, none⟩ = some (.bool so) := (blk_cell BG.out 4).trans rfl))
    go_ret
    exact ⟨rfl, HB.out⟩
  | true =>
    have HPE := Aside0.mk (show packE ids keys lens terms so = 0 from if_pos hm)
    clear hm
    go_upto_region 9 with (first | (go_at_call 6; (refine (awake_calls _).mono ?_); rintro e_ w1 ⟨rfl, hb⟩; have m0_ := Aside0.mk (below_step HB.out hb); have m1_ := Aside0.mk (blk_below BG.out hb); clear hb s0 s1 s2 s3 s4 HB BG; have HB := m0_; have BG := m1_; clear m0_ m1_; have s0 : w1.cell? ⟨G, 0, none⟩ = some (.slice A0 ids.length c0) := (blk_cell BG.out 0).trans rfl; have s1 : w1.cell? ⟨G, 1, none⟩ = some (.slice A1 keys.length c1) := (blk_cell BG.out 1).trans rfl; have s2 : w1.cell? ⟨G, 2, none⟩ = some (.slice A2 lens.length c2) := (blk_cell BG.out 2).trans rfl; have s3 : w1.cell? ⟨G, 3, none⟩ = some (.slice A3 terms.length c3) := (blk_cell BG.out 3).trans rfl; have s4 : w1.cell? ⟨G, 4, none⟩ = some (.bool so) := (blk_cell BG.out 4).trans rfl) | (go_at_call 7; (refine (catchwordlaw08_FewSeg.calls 500 A0 c0 ids A1 c1 keys A2 c2 lens A3 c3 terms so _ _ (Kd.C_below HC0.out HB.out) HCC0.out (Kd.C_below HC1.out HB.out) HCC1.out (Kd.C_below HC2.out HB.out) HCC2.out (Kd.C_below HC3.out HB.out) HCC3.out HF.out).mono ?_); rintro e_ w2 ⟨rfl, hb⟩; have m0_ := Aside0.mk (below_step HB.out hb); have m1_ := Aside0.mk (blk_below BG.out hb); clear hb s0 s1 s2 s3 s4 HB BG; have HB := m0_; have BG := m1_; clear m0_ m1_; have s0 : w2.cell? ⟨G, 0, none⟩ = some (.slice A0 ids.length c0) := (blk_cell BG.out 0).trans rfl; have s1 : w2.cell? ⟨G, 1, none⟩ = some (.slice A1 keys.length c1) := (blk_cell BG.out 1).trans rfl; have s2 : w2.cell? ⟨G, 2, none⟩ = some (.slice A2 lens.length c2) := (blk_cell BG.out 2).trans rfl; have s3 : w2.cell? ⟨G, 3, none⟩ = some (.slice A3 terms.length c3) := (blk_cell BG.out 3).trans rfl; have s4 : w2.cell? ⟨G, 4, none⟩ = some (.bool so) := (blk_cell BG.out 4).trans rfl) | (go_at_call 8; have hc := pack_calls A0 c0 ids A1 c1 keys A2 c2 lens A3 c3 terms so _ (Kd.C_below HC0.out HB.out) (Kd.C_below HC1.out HB.out) (Kd.C_below HC2.out HB.out) (Kd.C_below HC3.out HB.out) HCC1.out HCC2.out (fun x hx => HSM.out.is x hx) (Nat.le_trans HSM.out.nt (by decide)) (fun t ht => Nat.le_trans (HSM.out.ps t ht).1 (by decide)); rw [HPE.out] at hc; (refine hc.mono ?_); clear hc; rintro e_ w3 ⟨vb, rfl, hr, hb⟩; obtain ⟨A, c, rfl⟩ := Kd.R_slice hr; have BN := Aside0.mk (Kd.R_reads' hr).2.2; have LB := Aside0.mk (Kd.R_reads' hr).2.1; clear hr; have m0_ := Aside0.mk (below_step HB.out hb); have m1_ := Aside0.mk (blk_below BG.out hb); clear hb s0 s1 s2 s3 s4 HB BG; have HB := m0_; have BG := m1_; clear m0_ m1_; have s0 : w3.cell? ⟨G, 0, none⟩ = some (.slice A0 ids.length c0) := (blk_cell BG.out 0).trans rfl; have s1 : w3.cell? ⟨G, 1, none⟩ = some (.slice A1 keys.length c1) := (blk_cell BG.out 1).trans rfl; have s2 : w3.cell? ⟨G, 2, none⟩ = some (.slice A2 lens.length c2) := (blk_cell BG.out 2).trans rfl; have s3 : w3.cell? ⟨G, 3, none⟩ = some (.slice A3 terms.length c3) := (blk_cell BG.out 3).trans rfl; have s4 : w3.cell? ⟨G, 4, none⟩ = some (.bool so) := (blk_cell BG.out 4).trans rfl; have BB := BN; clear BN) | (go_at_call 10; have hc := unpack_calls A c (packR ids keys lens terms so) _ (packR_byt ids keys lens terms so) BB.out LB.out; rw [pack_back HM.out] at hc; (refine hc.mono ?_); clear hc; rintro e_ w4 ⟨v0, v1, v2, v3, rfl, h0, h1, h2, h3, hb⟩; replace h0 : Kd.R Kd.string 9 w4 w3.heap.size (fun _ => True) v0 ids := h0; replace h1 : Kd.R (Kd.int .i64) 3 w4 w3.heap.size (fun _ => True) v1 keys := h1; replace h2 : Kd.R (Kd.int .i64) 3 w4 w3.heap.size (fun _ => True) v2 lens := h2; replace h3 : Kd.R k44 44 w4 w3.heap.size (fun _ => True) v3 terms := h3; obtain ⟨B0, d0, rfl⟩ := Kd.R_slice h0; obtain ⟨B1, d1, rfl⟩ := Kd.R_slice h1; obtain ⟨B2, d2, rfl⟩ := Kd.R_slice h2; obtain ⟨B3, d3, rfl⟩ := Kd.R_slice h3; have H0 := Aside0.mk (Kd.R_reads' h0).2.2; have H1 := Aside0.mk (Kd.R_reads' h1).2.2; have H2 := Aside0.mk (Kd.R_reads' h2).2.2; have H3 := Aside0.mk (Kd.R_reads' h3).2.2; have L0 := Aside0.mk (Kd.R_reads' h0).2.1; have L1 := Aside0.mk (Kd.R_reads' h1).2.1; have L2 := Aside0.mk (Kd.R_reads' h2).2.1; have L3 := Aside0.mk (Kd.R_reads' h3).2.1; clear h0 h1 h2 h3; have m0_ := Aside0.mk (below_step HB.out hb); have m1_ := Aside0.mk (blk_below BG.out hb); have m2_ := Aside0.mk (Kd.C_below BB.out hb); clear hb s0 s1 s2 s3 s4 HB BG BB; have HB := m0_; have BG := m1_; have BB := m2_; clear m0_ m1_ m2_; have s0 : w4.cell? ⟨G, 0, none⟩ = some (.slice A0 ids.length c0) := (blk_cell BG.out 0).trans rfl; have s1 : w4.cell? ⟨G, 1, none⟩ = some (.slice A1 keys.length c1) := (blk_cell BG.out 1).trans rfl; have s2 : w4.cell? ⟨G, 2, none⟩ = some (.slice A2 lens.length c2) := (blk_cell BG.out 2).trans rfl; have s3 : w4.cell? ⟨G, 3, none⟩ = some (.slice A3 terms.length c3) := (blk_cell BG.out 3).trans rfl; have s4 : w4.cell? ⟨G, 4, none⟩ = some (.bool so) := (blk_cell BG.out 4).trans rfl))
    have hb := below_alloc (Below.refl w4.heap.size w4) (.cells #[.slice B0 ids.length d0, .slice B1 keys.length d1, .slice B2 lens.length d2, .slice B3 terms.length d3, .bool so] 26)
    have BT := Aside0.mk (blk_new w4 (.cells #[.slice B0 ids.length d0, .slice B1 keys.length d1, .slice B2 lens.length d2, .slice B3 terms.length d3, .bool so] 26))
    change Code.wp _ _ _ _ (w4.alloc (.cells #[.slice B0 ids.length d0, .slice B1 keys.length d1, .slice B2 lens.length d2, .slice B3 terms.length d3, .bool so] 26))
    generalize (w4.alloc (.cells #[.slice B0 ids.length d0, .slice B1 keys.length d1, .slice B2 lens.length d2, .slice B3 terms.length d3, .bool so] 26)) = w5 at *
    have m0_ := Aside0.mk (below_step HB.out hb)
    have m1_ := Aside0.mk (blk_below BG.out hb)
    have m2_ := Aside0.mk (Kd.C_below BB.out hb)
    have q0_ := Aside0.mk (Kd.C_below H0.out hb)
    have q1_ := Aside0.mk (Kd.C_below H1.out hb)
    have q2_ := Aside0.mk (Kd.C_below H2.out hb)
    have q3_ := Aside0.mk (Kd.C_below H3.out hb)
    clear hb s0 s1 s2 s3 s4 HB BG BB H0 H1 H2 H3
    have HB := m0_
    have BG := m1_
    have BB := m2_
    have H0 := q0_
    have H1 := q1_
    have H2 := q2_
    have H3 := q3_
    clear m0_ m1_ m2_ q0_ q1_ q2_ q3_
    have s0 : w5.cell? ⟨G, 0, none⟩ = some (.slice A0 ids.length c0) := (blk_cell BG.out 0).trans rfl
    have s1 : w5.cell? ⟨G, 1, none⟩ = some (.slice A1 keys.length c1) := (blk_cell BG.out 1).trans rfl
    have s2 : w5.cell? ⟨G, 2, none⟩ = some (.slice A2 lens.length c2) := (blk_cell BG.out 2).trans rfl
    have s3 : w5.cell? ⟨G, 3, none⟩ = some (.slice A3 terms.length c3) := (blk_cell BG.out 3).trans rfl
    have s4 : w5.cell? ⟨G, 4, none⟩ = some (.bool so) := (blk_cell BG.out 4).trans rfl
    generalize w4.heap.size = T at *
    have t0 : w5.cell? ⟨T, 0, none⟩ = some (.slice B0 ids.length d0) := (blk_cell BT.out 0).trans rfl
    have t1 : w5.cell? ⟨T, 1, none⟩ = some (.slice B1 keys.length d1) := (blk_cell BT.out 1).trans rfl
    have t2 : w5.cell? ⟨T, 2, none⟩ = some (.slice B2 lens.length d2) := (blk_cell BT.out 2).trans rfl
    have t3 : w5.cell? ⟨T, 3, none⟩ = some (.slice B3 terms.length d3) := (blk_cell BT.out 3).trans rfl
    have t4 : w5.cell? ⟨T, 4, none⟩ = some (.bool so) := (blk_cell BT.out 4).trans rfl
    go_wp2_with (first | (go_at_call 11; (refine (catchwordref08_Same.calls 1000 B0 d0 ids B1 d1 keys B2 d2 lens B3 d3 terms so A0 c0 ids A1 c1 keys A2 c2 lens A3 c3 terms so true _ H0.out L0.out H1.out L1.out H2.out L2.out H3.out L3.out (Kd.C_below HC0.out HB.out) HCC0.out (Kd.C_below HC1.out HB.out) HCC1.out (Kd.C_below HC2.out HB.out) HCC2.out (Kd.C_below HC3.out HB.out) HCC3.out (seg_same HSM.out)).mono ?_); rintro e_ w6 ⟨rfl, hb⟩; have m0_ := Aside0.mk (below_step HB.out hb); have m1_ := Aside0.mk (blk_below BG.out hb); have m2_ := Aside0.mk (Kd.C_below BB.out hb); have q0_ := Aside0.mk (Kd.C_below H0.out hb); have q1_ := Aside0.mk (Kd.C_below H1.out hb); have q2_ := Aside0.mk (Kd.C_below H2.out hb); have q3_ := Aside0.mk (Kd.C_below H3.out hb); have q4_ := Aside0.mk (blk_below BT.out hb); clear hb s0 s1 s2 s3 s4 t0 t1 t2 t3 t4 HB BG BB H0 H1 H2 H3 BT; have HB := m0_; have BG := m1_; have BB := m2_; have H0 := q0_; have H1 := q1_; have H2 := q2_; have H3 := q3_; have BT := q4_; clear m0_ m1_ m2_ q0_ q1_ q2_ q3_ q4_; have s0 : w6.cell? ⟨G, 0, none⟩ = some (.slice A0 ids.length c0) := (blk_cell BG.out 0).trans rfl; have s1 : w6.cell? ⟨G, 1, none⟩ = some (.slice A1 keys.length c1) := (blk_cell BG.out 1).trans rfl; have s2 : w6.cell? ⟨G, 2, none⟩ = some (.slice A2 lens.length c2) := (blk_cell BG.out 2).trans rfl; have s3 : w6.cell? ⟨G, 3, none⟩ = some (.slice A3 terms.length c3) := (blk_cell BG.out 3).trans rfl; have s4 : w6.cell? ⟨G, 4, none⟩ = some (.bool so) := (blk_cell BG.out 4).trans rfl; have t0 : w6.cell? ⟨T, 0, none⟩ = some (.slice B0 ids.length d0) := (blk_cell BT.out 0).trans rfl; have t1 : w6.cell? ⟨T, 1, none⟩ = some (.slice B1 keys.length d1) := (blk_cell BT.out 1).trans rfl; have t2 : w6.cell? ⟨T, 2, none⟩ = some (.slice B2 lens.length d2) := (blk_cell BT.out 2).trans rfl; have t3 : w6.cell? ⟨T, 3, none⟩ = some (.slice B3 terms.length d3) := (blk_cell BT.out 3).trans rfl; have t4 : w6.cell? ⟨T, 4, none⟩ = some (.bool so) := (blk_cell BT.out 4).trans rfl) | (go_at_call 9; have hc := segmay_calls A0 c0 ids A1 c1 keys A2 c2 lens A3 c3 terms so _ (Kd.C_below HC0.out HB.out) (Kd.C_below HC1.out HB.out) (Kd.C_below HC2.out HB.out) (Kd.C_below HC3.out HB.out) (fun x hx => HSM.out.is x hx) (Nat.le_trans HSM.out.nt (by decide)) (fun t ht => Nat.le_trans (HSM.out.ps t ht).1 (by decide)); rw [HM.out] at hc; (refine hc.mono ?_); clear hc; rintro e_ w9 ⟨rfl, hb⟩; have m0_ := Aside0.mk (below_step HB.out hb); have m1_ := Aside0.mk (blk_below BG.out hb); have m2_ := Aside0.mk (Kd.C_below BB.out hb); have q0_ := Aside0.mk (Kd.C_below H0.out hb); have q1_ := Aside0.mk (Kd.C_below H1.out hb); have q2_ := Aside0.mk (Kd.C_below H2.out hb); have q3_ := Aside0.mk (Kd.C_below H3.out hb); have q4_ := Aside0.mk (blk_below BT.out hb); clear hb s0 s1 s2 s3 s4 t0 t1 t2 t3 t4 HB BG BB H0 H1 H2 H3 BT; have HB := m0_; have BG := m1_; have BB := m2_; have H0 := q0_; have H1 := q1_; have H2 := q2_; have H3 := q3_; have BT := q4_; clear m0_ m1_ m2_ q0_ q1_ q2_ q3_ q4_; have s0 : w9.cell? ⟨G, 0, none⟩ = some (.slice A0 ids.length c0) := (blk_cell BG.out 0).trans rfl; have s1 : w9.cell? ⟨G, 1, none⟩ = some (.slice A1 keys.length c1) := (blk_cell BG.out 1).trans rfl; have s2 : w9.cell? ⟨G, 2, none⟩ = some (.slice A2 lens.length c2) := (blk_cell BG.out 2).trans rfl; have s3 : w9.cell? ⟨G, 3, none⟩ = some (.slice A3 terms.length c3) := (blk_cell BG.out 3).trans rfl; have s4 : w9.cell? ⟨G, 4, none⟩ = some (.bool so) := (blk_cell BG.out 4).trans rfl; have t0 : w9.cell? ⟨T, 0, none⟩ = some (.slice B0 ids.length d0) := (blk_cell BT.out 0).trans rfl; have t1 : w9.cell? ⟨T, 1, none⟩ = some (.slice B1 keys.length d1) := (blk_cell BT.out 1).trans rfl; have t2 : w9.cell? ⟨T, 2, none⟩ = some (.slice B2 lens.length d2) := (blk_cell BT.out 2).trans rfl; have t3 : w9.cell? ⟨T, 3, none⟩ = some (.slice B3 terms.length d3) := (blk_cell BT.out 3).trans rfl; have t4 : w9.cell? ⟨T, 4, none⟩ = some (.bool so) := (blk_cell BT.out 4).trans rfl))
    go_ret
    exact ⟨rfl, HB.out⟩

end Go.Proofs.Ytfhcolhiolgikaa.T
