import Derived.Test.YtfhcolhiolgikaaQTV
import Derived.Test.YtfhcolhiolgikaaProg
import Derived.Below
import Derived.Deep.Draws
import Derived.Deep.AppendLies
import Derived.Maps.AppendAt
import Derived.OwnWalk
import Derived.Laws.BytesArg
import Derived.Laws.MakeOwn
import Derived.Laws.OwnMore
import Derived.Deep.OwnRows
import Derived.Tactics
import Derived.Lib.ConvBytes
import Derived.Laws.Slices
import Derived.WalkKit
import Derived.KernelRfl
import Derived.RowKit3
import Derived.Deep.LoopGhost
import Derived.Deep.QuietTactic
import Derived.BigQuiet
import Derived.WideLaws
import Derived.Deep.DeepCutAuto
import Derived.Deep.CutBlock
import Derived.Deep.RegionHeld3
import Derived.Laws.Rows
import Derived.Lib.AppendStr
import Derived.ArgAppend
import Derived.Laws.IdiomCopy
import Derived.OrdersHeld
import Derived.Laws.BitsLemmas
import Derived.RowKit
import Derived.Test.YtfhcolhiolgikaaQTA
import Derived.Test.YtfhcolhiolgikaaQTC
import Derived.Test.YtfhcolhiolgikaaQTM
import Derived.Test.YtfhcolhiolgikaaQTN
import Derived.Test.YtfhcolhiolgikaaQTI
/- Texts of this claim, laid together by a program (merge.py): Tu. -/
/- Written by hp.py, this session's own program, out of the translation of this seat: Lean functions for the Go functions, and the proof that each call comes to what its Lean function says. -/
namespace Go.Proofs.Ytfhcolhiolgikaa.T
open Go.RowKit Go.Proofs.YtfhcolhiolgikaaW.PrintWords Go.Proofs.YtfhcolhiolgikaaW.PrintLast Go.Proofs.YtfhcolhiolgikaaW.PrintMore
attribute [local go_sem] max2_int min2_int max_two min_two max_three min_three max_four min_four   -- for this text's walks alone
set_option linter.unusedVariables false
set_option linter.unusedSimpArgs false
/-! ### the law PackTurned (5), by hand -/
open Go.Proofs.Ytfhcolhiolgikaa.Plain
theorem unpack_cut {A : Option Addr} {c p : Nat} {l : List Int} {w : World} (hC : Kd.C (Kd.int .u8) w A l.length l) (hc : l.length ≤ c) (hp : p < l.length) (hb : byt l) (hU : unSegP (l.take p) = (segZ, 5)) : Calls Try.prog 10 #[.slice A p c] w fun e w' => ∃ v0 v1 v2 v3, e = .returned (.tuple #[.agg #[v0, v1, v2, v3, .bool false], .int .i64 5]) ∧
   Kd.R Kd.string 9 w' w.heap.size (fun _ => True) v0 [] ∧ Kd.R (Kd.int .i64) 3 w' w.heap.size (fun _ => True) v1 [] ∧ Kd.R (Kd.int .i64) 3 w' w.heap.size (fun _ => True) v2 [] ∧ Kd.R k44 44 w' w.heap.size (fun _ => True) v3 [] ∧ Below w.heap.size w w' := by
 have hl : (l.take p).length = p := by rw [List.length_take]; omega
 have h2 := unpack_calls A c (l.take p) w (byt_take hb p) (Kd.C_take hC (Nat.le_of_lt hp)) (by omega)
 rw [hU, hl] at h2
 exact h2
theorem size_alloc_ (w : World) (o : Obj) : (w.alloc o).heap.size = w.heap.size + 1 := by unfold World.alloc; exact Array.size_push _
theorem two_blocks (w : World) (o1 o2 : Obj) : ((w.alloc o1).alloc o2).heap[w.heap.size]? = some o1 ∧ ((w.alloc o1).alloc o2).heap[w.heap.size + 1]? = some o2 ∧ Below w.heap.size w ((w.alloc o1).alloc o2) := by
 have s1 := size_alloc_ w o1
 have h2 := blk_new (w.alloc o1) o2
 rw [s1] at h2
 exact ⟨blk_alloc (blk_new w o1) _, h2, below_alloc (below_alloc (Below.refl _ _) _) _⟩
theorem arr_cell {w : World} {Y : Nat} {y0 y1 y2 y3 : Int} (h : w.heap[Y]? = some (.cells #[.int .u8 y0, .int .u8 y1, .int .u8 y2, .int .u8 y3] 38 (0, 0))) {i : Nat} (hi : i < 4) : w.cell? ⟨Y, i, none⟩ = some (.int .u8 (rd [y0, y1, y2, y3] (i : Int))) := by
 have h1 := blk_cell h i
 match i, hi with
 | 0, _ => exact h1.trans rfl
 | 1, _ => exact h1.trans rfl
 | 2, _ => exact h1.trans rfl
 | 3, _ => exact h1.trans rfl
set_option maxHeartbeats 8000000 in
set_option maxRecDepth 100000 in
theorem packTurned_calls (A0 : Option Addr) (c0 : Nat) (ids : List ByteArray) (A1 : Option Addr) (c1 : Nat) (keys : List Int) (A2 : Option Addr) (c2 : Nat) (lens : List Int) (A3 : Option Addr) (c3 : Nat) (terms : List S44) (so : Bool) (at_ : Int) (y0 y1 y2 y3 : Int) (w : World)
  (hC0 : Kd.C Kd.string w A0 ids.length ids) (hc0 : ids.length ≤ c0) (hC1 : Kd.C (Kd.int .i64) w A1 keys.length keys) (hc1 : keys.length ≤ c1) (hC2 : Kd.C (Kd.int .i64) w A2 lens.length lens) (hc2 : lens.length ≤ c2) (hC3 : Kd.C k44 w A3 terms.length terms) (hc3 : terms.length ≤ c3)
  (hid : ∀ x ∈ ids, x.size ≤ 9223372036854775807) (ht : terms.length ≤ 4398046511104) (hpl : ∀ t ∈ terms, t.f1.length ≤ 4398046511104) (hby : byt [y0, y1, y2, y3]) :
  Calls Try.prog 5 #[.agg #[.slice A0 ids.length c0, .slice A1 keys.length c1, .slice A2 lens.length c2, .slice A3 terms.length c3, .bool so], .int .i64 at_, .agg #[.int .u8 y0, .int .u8 y1, .int .u8 y2, .int .u8 y3]] w fun e w' => e = .returned (.bool true) ∧ Below w.heap.size w w' := by
 have hu26 := Try.underlying26
 have hu38 := Try.underlying38
 have HC0 := Aside0.mk hC0
 have HC1 := Aside0.mk hC1
 have HC2 := Aside0.mk hC2
 have HC3 := Aside0.mk hC3
 have HCC0 := Aside0.mk hc0
 have HCC1 := Aside0.mk hc1
 have HCC2 := Aside0.mk hc2
 have HCC3 := Aside0.mk hc3
 have HID := Aside0.mk hid
 have HT := Aside0.mk ht
 have HPL := Aside0.mk hpl
 have HYY := Aside0.mk hby
 clear hC0 hC1 hC2 hC3 hc0 hc1 hc2 hc3 hid ht hpl hby
 obtain ⟨fw, hf, hfw⟩ := few8 ids keys lens terms so
 have HF := Aside0.mk hf
 clear hf hfw
 go_enter Try.func5, Try.ntmps5
 go_upto_region 1 with fail
 obtain ⟨b0, b1, bb⟩ := two_blocks w (.cells #[.slice A0 ids.length c0, .slice A1 keys.length c1, .slice A2 lens.length c2, .slice A3 terms.length c3, .bool so] 26) (.cells #[.int .u8 y0, .int .u8 y1, .int .u8 y2, .int .u8 y3] 38)
 generalize ((w.alloc (.cells #[.slice A0 ids.length c0, .slice A1 keys.length c1, .slice A2 lens.length c2, .slice A3 terms.length c3, .bool so] 26)).alloc (.cells #[.int .u8 y0, .int .u8 y1, .int .u8 y2, .int .u8 y3] 38)) = wb at *
 have HB := Aside0.mk bb
 have BY := Aside0.mk b1
 clear bb b1
 have HYW := Aside0.mk (show w.heap.size ≤ w.heap.size + 1 from Nat.le_succ _)
 generalize w.heap.size + 1 = Y at *
 generalize w.heap.size = G at b0 ⊢
 have BG := Aside0.mk b0
 clear b0
 have s0 : wb.cell? ⟨G, 0, none⟩ = some (.slice A0 ids.length c0) := (blk_cell BG.out 0).trans rfl
 have s1 : wb.cell? ⟨G, 1, none⟩ = some (.slice A1 keys.length c1) := (blk_cell BG.out 1).trans rfl
 have s2 : wb.cell? ⟨G, 2, none⟩ = some (.slice A2 lens.length c2) := (blk_cell BG.out 2).trans rfl
 have s3 : wb.cell? ⟨G, 3, none⟩ = some (.slice A3 terms.length c3) := (blk_cell BG.out 3).trans rfl
 have s4 : wb.cell? ⟨G, 4, none⟩ = some (.bool so) := (blk_cell BG.out 4).trans rfl
 cases fw with
 | false =>
  go_wp2_with (first | (go_at_call 6; (refine (awake_calls _).mono ?_); rintro e_ w1 ⟨rfl, hb⟩; have m0_ := Aside0.mk (below_step HB.out hb); have m1_ := Aside0.mk (blk_below BG.out hb); have m2_ := Aside0.mk (blk_below BY.out hb); clear hb s0 s1 s2 s3 s4 HB BG BY; have HB := m0_; have BG := m1_; have BY := m2_; clear m0_ m1_ m2_; have s0 : w1.cell? ⟨G, 0, none⟩ = some (.slice A0 ids.length c0) := (blk_cell BG.out 0).trans rfl; have s1 : w1.cell? ⟨G, 1, none⟩ = some (.slice A1 keys.length c1) := (blk_cell BG.out 1).trans rfl; have s2 : w1.cell? ⟨G, 2, none⟩ = some (.slice A2 lens.length c2) := (blk_cell BG.out 2).trans rfl; have s3 : w1.cell? ⟨G, 3, none⟩ = some (.slice A3 terms.length c3) := (blk_cell BG.out 3).trans rfl; have s4 : w1.cell? ⟨G, 4, none⟩ = some (.bool so) := (blk_cell BG.out 4).trans rfl) | (go_at_call 7; (refine (catchwordlaw08_FewSeg.calls 500 A0 c0 ids A1 c1 keys A2 c2 lens A3 c3 terms so _ _ (Kd.C_below HC0.out HB.out) HCC0.out (Kd.C_below HC1.out HB.out) HCC1.out (Kd.C_below HC2.out HB.out) HCC2.out (Kd.C_below HC3.out HB.out) HCC3.out HF.out).mono ?_); rintro e_ w2 ⟨rfl, hb⟩; have m0_ := Aside0.mk (below_step HB.out hb); have m1_ := Aside0.mk (blk_below BG.out hb); have m2_ := Aside0.mk (blk_below BY.out hb); clear hb s0 s1 s2 s3 s4 HB BG BY; have HB := m0_; have BG := m1_; have BY := m2_; clear m0_ m1_ m2_; have s0 : w2.cell? ⟨G, 0, none⟩ = some (.slice A0 ids.length c0) := (blk_cell BG.out 0).trans rfl; have s1 : w2.cell? ⟨G, 1, none⟩ = some (.slice A1 keys.length c1) := (blk_cell BG.out 1).trans rfl; have s2 : w2.cell? ⟨G, 2, none⟩ = some (.slice A2 lens.length c2) := (blk_cell BG.out 2).trans rfl; have s3 : w2.cell? ⟨G, 3, none⟩ = some (.slice A3 terms.length c3) := (blk_cell BG.out 3).trans rfl; have s4 : w2.cell? ⟨G, 4, none⟩ = some (.bool so) := (blk_cell BG.out 4).trans rfl) | (go_at_call 8; have hc := pack_calls A0 c0 ids A1 c1 keys A2 c2 lens A3 c3 terms so _ (Kd.C_below HC0.out HB.out) (Kd.C_below HC1.out HB.out) (Kd.C_below HC2.out HB.out) (Kd.C_below HC3.out HB.out) HCC1.out HCC2.out HID.out HT.out HPL.out; (try rw [HPE.out] at hc); (refine hc.mono ?_); clear hc; rintro e_ w3 ⟨vb, rfl, hr, hb⟩; obtain ⟨A, c, rfl⟩ := Kd.R_slice hr; have HYB := Aside0.mk (blk_lt BY.out); have HWB := Aside0.mk (below_size HB.out); have HO := Aside0.mk hr; clear hr; have m0_ := Aside0.mk (below_step HB.out hb); have m1_ := Aside0.mk (blk_below BG.out hb); have m2_ := Aside0.mk (blk_below BY.out hb); clear hb s0 s1 s2 s3 s4 HB BG BY; have HB := m0_; have BG := m1_; have BY := m2_; clear m0_ m1_ m2_; have s0 : w3.cell? ⟨G, 0, none⟩ = some (.slice A0 ids.length c0) := (blk_cell BG.out 0).trans rfl; have s1 : w3.cell? ⟨G, 1, none⟩ = some (.slice A1 keys.length c1) := (blk_cell BG.out 1).trans rfl; have s2 : w3.cell? ⟨G, 2, none⟩ = some (.slice A2 lens.length c2) := (blk_cell BG.out 2).trans rfl; have s3 : w3.cell? ⟨G, 3, none⟩ = some (.slice A3 terms.length c3) := (blk_cell BG.out 3).trans rfl; have s4 : w3.cell? ⟨G, 4, none⟩ = some (.bool so) := (blk_cell BG.out 4).trans rfl))
  go_ret
  exact ⟨rfl, HB.out⟩
 | true =>
 obtain ⟨m, hm⟩ : ∃ m, segMayP ids keys lens terms so = m := ⟨_, rfl⟩
 have HM := Aside0.mk hm
 cases m with
 | false =>
  have HPE := Aside0.mk (show packE ids keys lens terms so = 1 from if_neg (by rw [hm]; decide))
  clear hm
  go_wp2_with (first | (go_at_call 6; (refine (awake_calls _).mono ?_); rintro e_ w1 ⟨rfl, hb⟩; have m0_ := Aside0.mk (below_step HB.out hb); have m1_ := Aside0.mk (blk_below BG.out hb); have m2_ := Aside0.mk (blk_below BY.out hb); clear hb s0 s1 s2 s3 s4 HB BG BY; have HB := m0_; have BG := m1_; have BY := m2_; clear m0_ m1_ m2_; have s0 : w1.cell? ⟨G, 0, none⟩ = some (.slice A0 ids.length c0) := (blk_cell BG.out 0).trans rfl; have s1 : w1.cell? ⟨G, 1, none⟩ = some (.slice A1 keys.length c1) := (blk_cell BG.out 1).trans rfl; have s2 : w1.cell? ⟨G, 2, none⟩ = some (.slice A2 lens.length c2) := (blk_cell BG.out 2).trans rfl; have s3 : w1.cell? ⟨G, 3, none⟩ = some (.slice A3 terms.length c3) := (blk_cell BG.out 3).trans rfl; have s4 : w1.cell? ⟨G, 4, none⟩ = some (.bool so) := (blk_cell BG.out 4).trans rfl) | (go_at_call 7; (refine (catchwordlaw08_FewSeg.calls 500 A0 c0 ids A1 c1 keys A2 c2 lens A3 c3 terms so _ _ (Kd.C_below HC0.out HB.out) HCC0.out (Kd.C_below HC1.out HB.out) HCC1.out (Kd.C_below HC2.out HB.out) HCC2.out (Kd.C_below HC3.out HB.out) HCC3.out HF.out).mono ?_); rintro e_ w2 ⟨rfl, hb⟩; have m0_ := Aside0.mk (below_step HB.out hb); have m1_ := Aside0.mk (blk_below BG.out hb); have m2_ := Aside0.mk (blk_below BY.out hb); clear hb s0 s1 s2 s3 s4 HB BG BY; have HB := m0_; have BG := m1_; have BY := m2_; clear m0_ m1_ m2_; have s0 : w2.cell? ⟨G, 0, none⟩ = some (.slice A0 ids.length c0) := (blk_cell BG.out 0).trans rfl; have s1 : w2.cell? ⟨G, 1, none⟩ = some (.slice A1 keys.length c1) := (blk_cell BG.out 1).trans rfl; have s2 : w2.cell? ⟨G, 2, none⟩ = some (.slice A2 lens.length c2) := (blk_cell BG.out 2).trans rfl; have s3 : w2.cell? ⟨G, 3, none⟩ = some (.slice A3 terms.length c3) := (blk_cell BG.out 3).trans rfl; have s4 : w2.cell? ⟨G, 4, none⟩ = some (.bool so) := (blk_cell BG.out 4).trans rfl) | (go_at_call 8; have hc := pack_calls A0 c0 ids A1 c1 keys A2 c2 lens A3 c3 terms so _ (Kd.C_below HC0.out HB.out) (Kd.C_below HC1.out HB.out) (Kd.C_below HC2.out HB.out) (Kd.C_below HC3.out HB.out) HCC1.out HCC2.out HID.out HT.out HPL.out; (try rw [HPE.out] at hc); (refine hc.mono ?_); clear hc; rintro e_ w3 ⟨vb, rfl, hr, hb⟩; obtain ⟨A, c, rfl⟩ := Kd.R_slice hr; have HYB := Aside0.mk (blk_lt BY.out); have HWB := Aside0.mk (below_size HB.out); have HO := Aside0.mk hr; clear hr; have m0_ := Aside0.mk (below_step HB.out hb); have m1_ := Aside0.mk (blk_below BG.out hb); have m2_ := Aside0.mk (blk_below BY.out hb); clear hb s0 s1 s2 s3 s4 HB BG BY; have HB := m0_; have BG := m1_; have BY := m2_; clear m0_ m1_ m2_; have s0 : w3.cell? ⟨G, 0, none⟩ = some (.slice A0 ids.length c0) := (blk_cell BG.out 0).trans rfl; have s1 : w3.cell? ⟨G, 1, none⟩ = some (.slice A1 keys.length c1) := (blk_cell BG.out 1).trans rfl; have s2 : w3.cell? ⟨G, 2, none⟩ = some (.slice A2 lens.length c2) := (blk_cell BG.out 2).trans rfl; have s3 : w3.cell? ⟨G, 3, none⟩ = some (.slice A3 terms.length c3) := (blk_cell BG.out 3).trans rfl; have s4 : w3.cell? ⟨G, 4, none⟩ = some (.bool so) := (blk_cell BG.out 4).trans rfl))
  go_ret
  exact ⟨rfl, HB.out⟩
 | true =>
 have HPE := Aside0.mk (show packE ids keys lens terms so = 0 from if_pos hm)
 clear hm
 by_cases ha : at_ < 0
 ·
  have k1 : decide (at_ < 0) = true := decide_eq_true ha
  clear ha
  go_wp2_with (first | (go_at_call 6; (refine (awake_calls _).mono ?_); rintro e_ w1 ⟨rfl, hb⟩; have m0_ := Aside0.mk (below_step HB.out hb); have m1_ := Aside0.mk (blk_below BG.out hb); have m2_ := Aside0.mk (blk_below BY.out hb); clear hb s0 s1 s2 s3 s4 HB BG BY; have HB := m0_; have BG := m1_; have BY := m2_; clear m0_ m1_ m2_; have s0 : w1.cell? ⟨G, 0, none⟩ = some (.slice A0 ids.length c0) := (blk_cell BG.out 0).trans rfl; have s1 : w1.cell? ⟨G, 1, none⟩ = some (.slice A1 keys.length c1) := (blk_cell BG.out 1).trans rfl; have s2 : w1.cell? ⟨G, 2, none⟩ = some (.slice A2 lens.length c2) := (blk_cell BG.out 2).trans rfl; have s3 : w1.cell? ⟨G, 3, none⟩ = some (.slice A3 terms.length c3) := (blk_cell BG.out 3).trans rfl; have s4 : w1.cell? ⟨G, 4, none⟩ = some (.bool so) := (blk_cell BG.out 4).trans rfl) | (go_at_call 7; (refine (catchwordlaw08_FewSeg.calls 500 A0 c0 ids A1 c1 keys A2 c2 lens A3 c3 terms so _ _ (Kd.C_below HC0.out HB.out) HCC0.out (Kd.C_below HC1.out HB.out) HCC1.out (Kd.C_below HC2.out HB.out) HCC2.out (Kd.C_below HC3.out HB.out) HCC3.out HF.out).mono ?_); rintro e_ w2 ⟨rfl, hb⟩; have m0_ := Aside0.mk (below_step HB.out hb); have m1_ := Aside0.mk (blk_below BG.out hb); have m2_ := Aside0.mk (blk_below BY.out hb); clear hb s0 s1 s2 s3 s4 HB BG BY; have HB := m0_; have BG := m1_; have BY := m2_; clear m0_ m1_ m2_; have s0 : w2.cell? ⟨G, 0, none⟩ = some (.slice A0 ids.length c0) := (blk_cell BG.out 0).trans rfl; have s1 : w2.cell? ⟨G, 1, none⟩ = some (.slice A1 keys.length c1) := (blk_cell BG.out 1).trans rfl; have s2 : w2.cell? ⟨G, 2, none⟩ = some (.slice A2 lens.length c2) := (blk_cell BG.out 2).trans rfl; have s3 : w2.cell? ⟨G, 3, none⟩ = some (.slice A3 terms.length c3) := (blk_cell BG.out 3).trans rfl; have s4 : w2.cell? ⟨G, 4, none⟩ = some (.bool so) := (blk_cell BG.out 4).trans rfl) | (go_at_call 8; have hc := pack_calls A0 c0 ids A1 c1 keys A2 c2 lens A3 c3 terms so _ (Kd.C_below HC0.out HB.out) (Kd.C_below HC1.out HB.out) (Kd.C_below HC2.out HB.out) (Kd.C_below HC3.out HB.out) HCC1.out HCC2.out HID.out HT.out HPL.out; (try rw [HPE.out] at hc); (refine hc.mono ?_); clear hc; rintro e_ w3 ⟨vb, rfl, hr, hb⟩; obtain ⟨A, c, rfl⟩ := Kd.R_slice hr; have HYB := Aside0.mk (blk_lt BY.out); have HWB := Aside0.mk (below_size HB.out); have HO := Aside0.mk hr; clear hr; have m0_ := Aside0.mk (below_step HB.out hb); have m1_ := Aside0.mk (blk_below BG.out hb); have m2_ := Aside0.mk (blk_below BY.out hb); clear hb s0 s1 s2 s3 s4 HB BG BY; have HB := m0_; have BG := m1_; have BY := m2_; clear m0_ m1_ m2_; have s0 : w3.cell? ⟨G, 0, none⟩ = some (.slice A0 ids.length c0) := (blk_cell BG.out 0).trans rfl; have s1 : w3.cell? ⟨G, 1, none⟩ = some (.slice A1 keys.length c1) := (blk_cell BG.out 1).trans rfl; have s2 : w3.cell? ⟨G, 2, none⟩ = some (.slice A2 lens.length c2) := (blk_cell BG.out 2).trans rfl; have s3 : w3.cell? ⟨G, 3, none⟩ = some (.slice A3 terms.length c3) := (blk_cell BG.out 3).trans rfl; have s4 : w3.cell? ⟨G, 4, none⟩ = some (.bool so) := (blk_cell BG.out 4).trans rfl))
  go_ret
  exact ⟨rfl, HB.out⟩
 obtain ⟨p, rfl⟩ := Int.eq_ofNat_of_zero_le (Int.not_lt.1 ha)
 have k1 : decide ((p : Int) < 0) = false := decide_eq_false ha
 clear ha
 obtain ⟨l, hl⟩ : ∃ l, packR ids keys lens terms so = l := ⟨_, rfl⟩
 have hcut := fun h => cut_law (n := p) HM.out h
 have hlaw := fun (ys : List Int) (hy : byt ys) (i : Nat) (hi : i ≤ 4) h => turn_law HM.out hy (p := p) hi h
 have hlb := packR_byt ids keys lens terms so
 rw [hl] at hcut hlaw hlb
 have HL := Aside0.mk hl
 have HLAW := Aside0.mk hlaw
 have HLB := Aside0.mk hlb
 clear hl hlaw hlb
 by_cases hp : l.length ≤ p
 ·
  have k2 : decide ((l.length : Int) ≤ (p : Int)) = true := decide_eq_true (by omega)
  have k3 : decide (l.length ≤ p) = true := decide_eq_true hp
  clear hp hcut
  go_wp2_with (first | (go_at_call 6; (refine (awake_calls _).mono ?_); rintro e_ w1 ⟨rfl, hb⟩; have m0_ := Aside0.mk (below_step HB.out hb); have m1_ := Aside0.mk (blk_below BG.out hb); have m2_ := Aside0.mk (blk_below BY.out hb); clear hb s0 s1 s2 s3 s4 HB BG BY; have HB := m0_; have BG := m1_; have BY := m2_; clear m0_ m1_ m2_; have s0 : w1.cell? ⟨G, 0, none⟩ = some (.slice A0 ids.length c0) := (blk_cell BG.out 0).trans rfl; have s1 : w1.cell? ⟨G, 1, none⟩ = some (.slice A1 keys.length c1) := (blk_cell BG.out 1).trans rfl; have s2 : w1.cell? ⟨G, 2, none⟩ = some (.slice A2 lens.length c2) := (blk_cell BG.out 2).trans rfl; have s3 : w1.cell? ⟨G, 3, none⟩ = some (.slice A3 terms.length c3) := (blk_cell BG.out 3).trans rfl; have s4 : w1.cell? ⟨G, 4, none⟩ = some (.bool so) := (blk_cell BG.out 4).trans rfl) | (go_at_call 7; (refine (catchwordlaw08_FewSeg.calls 500 A0 c0 ids A1 c1 keys A2 c2 lens A3 c3 terms so _ _ (Kd.C_below HC0.out HB.out) HCC0.out (Kd.C_below HC1.out HB.out) HCC1.out (Kd.C_below HC2.out HB.out) HCC2.out (Kd.C_below HC3.out HB.out) HCC3.out HF.out).mono ?_); rintro e_ w2 ⟨rfl, hb⟩; have m0_ := Aside0.mk (below_step HB.out hb); have m1_ := Aside0.mk (blk_below BG.out hb); have m2_ := Aside0.mk (blk_below BY.out hb); clear hb s0 s1 s2 s3 s4 HB BG BY; have HB := m0_; have BG := m1_; have BY := m2_; clear m0_ m1_ m2_; have s0 : w2.cell? ⟨G, 0, none⟩ = some (.slice A0 ids.length c0) := (blk_cell BG.out 0).trans rfl; have s1 : w2.cell? ⟨G, 1, none⟩ = some (.slice A1 keys.length c1) := (blk_cell BG.out 1).trans rfl; have s2 : w2.cell? ⟨G, 2, none⟩ = some (.slice A2 lens.length c2) := (blk_cell BG.out 2).trans rfl; have s3 : w2.cell? ⟨G, 3, none⟩ = some (.slice A3 terms.length c3) := (blk_cell BG.out 3).trans rfl; have s4 : w2.cell? ⟨G, 4, none⟩ = some (.bool so) := (blk_cell BG.out 4).trans rfl) | (go_at_call 8; have hc := pack_calls A0 c0 ids A1 c1 keys A2 c2 lens A3 c3 terms so _ (Kd.C_below HC0.out HB.out) (Kd.C_below HC1.out HB.out) (Kd.C_below HC2.out HB.out) (Kd.C_below HC3.out HB.out) HCC1.out HCC2.out HID.out HT.out HPL.out; rw [HPE.out, HL.out] at hc; (refine hc.mono ?_); clear hc; rintro e_ w3 ⟨vb, rfl, hr, hb⟩; obtain ⟨A, c, rfl⟩ := Kd.R_slice hr; have HYB := Aside0.mk (blk_lt BY.out); have HWB := Aside0.mk (below_size HB.out); have HO := Aside0.mk hr; clear hr; have m0_ := Aside0.mk (below_step HB.out hb); have m1_ := Aside0.mk (blk_below BG.out hb); have m2_ := Aside0.mk (blk_below BY.out hb); clear hb s0 s1 s2 s3 s4 HB BG BY; have HB := m0_; have BG := m1_; have BY := m2_; clear m0_ m1_ m2_; have s0 : w3.cell? ⟨G, 0, none⟩ = some (.slice A0 ids.length c0) := (blk_cell BG.out 0).trans rfl; have s1 : w3.cell? ⟨G, 1, none⟩ = some (.slice A1 keys.length c1) := (blk_cell BG.out 1).trans rfl; have s2 : w3.cell? ⟨G, 2, none⟩ = some (.slice A2 lens.length c2) := (blk_cell BG.out 2).trans rfl; have s3 : w3.cell? ⟨G, 3, none⟩ = some (.slice A3 terms.length c3) := (blk_cell BG.out 3).trans rfl; have s4 : w3.cell? ⟨G, 4, none⟩ = some (.bool so) := (blk_cell BG.out 4).trans rfl))
  go_ret
  exact ⟨rfl, HB.out⟩
 have k2 : decide ((l.length : Int) ≤ (p : Int)) = false := decide_eq_false (by omega)
 have k3 : decide (l.length ≤ p) = false := decide_eq_false hp
 have HPL9 := Aside0.mk (show p < l.length by omega)
 have HCUT := Aside0.mk (hcut (by omega))
 clear hp hcut
 go_upto_region 6 with (first | (go_at_call 6; (refine (awake_calls _).mono ?_); rintro e_ w1 ⟨rfl, hb⟩; have m0_ := Aside0.mk (below_step HB.out hb); have m1_ := Aside0.mk (blk_below BG.out hb); have m2_ := Aside0.mk (blk_below BY.out hb); clear hb s0 s1 s2 s3 s4 HB BG BY; have HB := m0_; have BG := m1_; have BY := m2_; clear m0_ m1_ m2_; have s0 : w1.cell? ⟨G, 0, none⟩ = some (.slice A0 ids.length c0) := (blk_cell BG.out 0).trans rfl; have s1 : w1.cell? ⟨G, 1, none⟩ = some (.slice A1 keys.length c1) := (blk_cell BG.out 1).trans rfl; have s2 : w1.cell? ⟨G, 2, none⟩ = some (.slice A2 lens.length c2) := (blk_cell BG.out 2).trans rfl; have s3 : w1.cell? ⟨G, 3, none⟩ = some (.slice A3 terms.length c3) := (blk_cell BG.out 3).trans rfl; have s4 : w1.cell? ⟨G, 4, none⟩ = some (.bool so) := (blk_cell BG.out 4).trans rfl) | (go_at_call 7; (refine (catchwordlaw08_FewSeg.calls 500 A0 c0 ids A1 c1 keys A2 c2 lens A3 c3 terms so _ _ (Kd.C_below HC0.out HB.out) HCC0.out (Kd.C_below HC1.out HB.out) HCC1.out (Kd.C_below HC2.out HB.out) HCC2.out (Kd.C_below HC3.out HB.out) HCC3.out HF.out).mono ?_); rintro e_ w2 ⟨rfl, hb⟩; have m0_ := Aside0.mk (below_step HB.out hb); have m1_ := Aside0.mk (blk_below BG.out hb); have m2_ := Aside0.mk (blk_below BY.out hb); clear hb s0 s1 s2 s3 s4 HB BG BY; have HB := m0_; have BG := m1_; have BY := m2_; clear m0_ m1_ m2_; have s0 : w2.cell? ⟨G, 0, none⟩ = some (.slice A0 ids.length c0) := (blk_cell BG.out 0).trans rfl; have s1 : w2.cell? ⟨G, 1, none⟩ = some (.slice A1 keys.length c1) := (blk_cell BG.out 1).trans rfl; have s2 : w2.cell? ⟨G, 2, none⟩ = some (.slice A2 lens.length c2) := (blk_cell BG.out 2).trans rfl; have s3 : w2.cell? ⟨G, 3, none⟩ = some (.slice A3 terms.length c3) := (blk_cell BG.out 3).trans rfl; have s4 : w2.cell? ⟨G, 4, none⟩ = some (.bool so) := (blk_cell BG.out 4).trans rfl) | (go_at_call 8; have hc := pack_calls A0 c0 ids A1 c1 keys A2 c2 lens A3 c3 terms so _ (Kd.C_below HC0.out HB.out) (Kd.C_below HC1.out HB.out) (Kd.C_below HC2.out HB.out) (Kd.C_below HC3.out HB.out) HCC1.out HCC2.out HID.out HT.out HPL.out; rw [HPE.out, HL.out] at hc; (refine hc.mono ?_); clear hc; rintro e_ w3 ⟨vb, rfl, hr, hb⟩; obtain ⟨A, c, rfl⟩ := Kd.R_slice hr; have HYB := Aside0.mk (blk_lt BY.out); have HWB := Aside0.mk (below_size HB.out); have HO := Aside0.mk hr; clear hr; have m0_ := Aside0.mk (below_step HB.out hb); have m1_ := Aside0.mk (blk_below BG.out hb); have m2_ := Aside0.mk (blk_below BY.out hb); clear hb s0 s1 s2 s3 s4 HB BG BY; have HB := m0_; have BG := m1_; have BY := m2_; clear m0_ m1_ m2_; have s0 : w3.cell? ⟨G, 0, none⟩ = some (.slice A0 ids.length c0) := (blk_cell BG.out 0).trans rfl; have s1 : w3.cell? ⟨G, 1, none⟩ = some (.slice A1 keys.length c1) := (blk_cell BG.out 1).trans rfl; have s2 : w3.cell? ⟨G, 2, none⟩ = some (.slice A2 lens.length c2) := (blk_cell BG.out 2).trans rfl; have s3 : w3.cell? ⟨G, 3, none⟩ = some (.slice A3 terms.length c3) := (blk_cell BG.out 3).trans rfl; have s4 : w3.cell? ⟨G, 4, none⟩ = some (.bool so) := (blk_cell BG.out 4).trans rfl))
 obtain ⟨ad, eA, _⟩ := Kd.at_int (Kd.R_reads' HO.out).2.2 (p : Int) (by omega) (by have := HPL9.out; omega)
 subst eA
 have hcc := (Kd.R_reads' HO.out).2.1
 obtain ⟨g, rfl⟩ := Kd.R_head HO.out
 have hgb : w2.heap.size ≤ g := Kd.R_base HO.out g (by simp [Value.ownBlock])
 have HYG := Aside0.mk (show Y ≠ g from by have := HYB.out; omega)
 have HGW := Aside0.mk (show w.heap.size ≤ g from by have := HWB.out; omega)
 have t1 : (0 : Int) ≤ (p : Int) := by omega
 have t2 : (p : Int) ≤ (c : Int) := by have := HPL9.out; omega
 have t3 : (p : Int) ≤ (l.length : Int) := by have := HPL9.out; omega
 have HCL := Aside0.mk hcc
 clear hcc hgb HYB
 go_upto_region 7 with (first | (go_at_call 10; (refine (unpack_cut (Kd.R_reads' HO.out).2.2 (Kd.R_reads' HO.out).2.1 HPL9.out HLB.out HCUT.out).mono ?_); rintro e_ w4 ⟨v0, v1, v2, v3, rfl, h0, h1, h2, h3, hb⟩; replace h0 : Kd.R Kd.string 9 w4 w3.heap.size (fun _ => True) v0 [] := h0; obtain ⟨B0, d0, rfl⟩ := Kd.R_slice h0; replace h1 : Kd.R (Kd.int .i64) 3 w4 w3.heap.size (fun _ => True) v1 [] := h1; obtain ⟨B1, d1, rfl⟩ := Kd.R_slice h1; replace h2 : Kd.R (Kd.int .i64) 3 w4 w3.heap.size (fun _ => True) v2 [] := h2; obtain ⟨B2, d2, rfl⟩ := Kd.R_slice h2; replace h3 : Kd.R k44 44 w4 w3.heap.size (fun _ => True) v3 [] := h3; obtain ⟨B3, d3, rfl⟩ := Kd.R_slice h3; clear h0 h1 h2 h3; have m0_ := Aside0.mk (below_step HB.out hb); have m1_ := Aside0.mk (blk_below BG.out hb); have m2_ := Aside0.mk (blk_below BY.out hb); have m3_ := Aside0.mk (Kd.R_below HO.out hb); clear hb s0 s1 s2 s3 s4 HB BG BY HO; have HB := m0_; have BG := m1_; have BY := m2_; have HO := m3_; clear m0_ m1_ m2_ m3_; have s0 : w4.cell? ⟨G, 0, none⟩ = some (.slice A0 ids.length c0) := (blk_cell BG.out 0).trans rfl; have s1 : w4.cell? ⟨G, 1, none⟩ = some (.slice A1 keys.length c1) := (blk_cell BG.out 1).trans rfl; have s2 : w4.cell? ⟨G, 2, none⟩ = some (.slice A2 lens.length c2) := (blk_cell BG.out 2).trans rfl; have s3 : w4.cell? ⟨G, 3, none⟩ = some (.slice A3 terms.length c3) := (blk_cell BG.out 3).trans rfl; have s4 : w4.cell? ⟨G, 4, none⟩ = some (.bool so) := (blk_cell BG.out 4).trans rfl))
 have hb := below_alloc (Below.refl w4.heap.size w4) (.cells #[.slice B0 0 d0, .slice B1 0 d1, .slice B2 0 d2, .slice B3 0 d3, .bool false] 26)
 change Code.wp _ _ _ _ (w4.alloc (.cells #[.slice B0 0 d0, .slice B1 0 d1, .slice B2 0 d2, .slice B3 0 d3, .bool false] 26))
 generalize (w4.alloc (.cells #[.slice B0 0 d0, .slice B1 0 d1, .slice B2 0 d2, .slice B3 0 d3, .bool false] 26)) = w5 at *
 have m0_ := Aside0.mk (below_step HB.out hb)
 have m2_ := Aside0.mk (blk_below BY.out hb)
 have m3_ := Aside0.mk (Kd.R_below HO.out hb)
 generalize w4.heap.size = T4
 clear hb s0 s1 s2 s3 s4 HB BG BY HO
 have HB := m0_
 have BY := m2_
 have HO := m3_
 clear m0_ m2_ m3_
 have HLM := Aside0.mk (show l.length ≤ 9223372036854775807 from (Kd.R_reads' HO.out).2.2.2.1)
 go_wp2
 go_loopg [13, 14] 5 (fun kq v13 v14 w' => ∃ i : Nat, v14 = .int .i64 (i : Int) ∧ v13 = .bool (tflag [y0, y1, y2, y3] i) ∧ Aside0 (Kd.R (Kd.int .u8) 5 w' w2.heap.size (fun _ => True) (.slice (some ⟨g, 0, none⟩) l.length c) (turnN l p [y0, y1, y2, y3] i)) ∧ Aside0 (w'.heap[Y]? = some (.cells #[.int .u8 y0, .int .u8 y1, .int .u8 y2, .int .u8 y3] 38 (0, 0))) ∧ Aside0 (Below w.heap.size w w') ∧ Aside0 (i ≤ 4 ∧ p + i ≤ l.length ∧ 4 - i < kq ∧ kq ≤ 5))
 case atStart => exact ⟨0, rfl, rfl, HO, BY, HB, ⟨by omega, by have := HPL9.out; omega, by omega, by omega⟩⟩
 case round =>
  clear HO BY HB
  obtain ⟨i, rfl, rfl, HO, BY, HB, HI⟩ := hrel
  cases gk with
  | zero => exact absurd HI.out.2.2.1 (by omega)
  | succ k1 =>
   have HQ := Aside0.mk (show wrap64 ((p : Int) + (i : Int)) = ((p + i : Nat) : Int) from by have := HI.out; have := HLM.out; unfold wrap64; omega)
   by_cases hlt : i < 4 ∧ p + i < l.length
   ·
    have d0 : decide ((i : Int) < 4) = true := decide_eq_true (by omega)
    have d1 : decide (i < 4) = true := decide_eq_true hlt.1
    have HLT := Aside0.mk hlt
    have HST := Aside0.mk (show turnN l p [y0, y1, y2, y3] (i + 1) = (turnN l p [y0, y1, y2, y3] i).set (p + i) (Go.bits .xor .u8 (rd (turnN l p [y0, y1, y2, y3] i) ((p + i : Nat) : Int)) (rd [y0, y1, y2, y3] (i : Int))) from rfl)
    have HFL := Aside0.mk (show tflag [y0, y1, y2, y3] (i + 1) = (tflag [y0, y1, y2, y3] i || (rd [y0, y1, y2, y3] (i : Int) != 0)) from rfl)
    obtain ⟨q0, q2⟩ := Kd.R_celln 0 HO.out ((p + i : Nat) : Int) (by omega) (by omega)
    have q1 := arr_cell BY.out hlt.1
    replace q0 : wr.cell? ⟨g, ((p + i : Nat) : Int).toNat, none⟩ = some (.int .u8 (rd (turnN l p [y0, y1, y2, y3] i) ((p + i : Nat) : Int))) := q0
    obtain ⟨a, ha⟩ : ∃ a, rd (turnN l p [y0, y1, y2, y3] i) ((p + i : Nat) : Int) = a := ⟨_, rfl⟩
    obtain ⟨y, hy⟩ : ∃ y, rd [y0, y1, y2, y3] (i : Int) = y := ⟨_, rfl⟩
    rw [ha] at q0 HST
    rw [hy] at q1 HST HFL
    obtain ⟨M', hM'⟩ : ∃ x, turnN l p [y0, y1, y2, y3] (i + 1) = x := ⟨_, rfl⟩
    obtain ⟨F', hF'⟩ : ∃ x, tflag [y0, y1, y2, y3] (i + 1) = x := ⟨_, rfl⟩
    rw [hM'] at HST
    rw [hF'] at HFL
    have HM2 := Aside0.mk hM'
    have HF2 := Aside0.mk hF'
    obtain ⟨q, hq⟩ : ∃ q, p + i = q := ⟨_, rfl⟩
    have w3 := HQ.out
    rw [hq] at w3 q0 q2 HST
    rw [Int.toNat_natCast] at q0 q2
    have HQ2 := Aside0.mk (show q < l.length by omega)
    have d2 : decide ((q : Int) < (l.length : Int)) = true := decide_eq_true (by omega)
    have d3 : decide (q < l.length) = true := decide_eq_true (by omega)
    have p1 : (0 : Int) ≤ (q : Int) := by omega
    have p2 : (q : Int) < (l.length : Int) := by omega
    have p3 : (0 : Int) ≤ (i : Int) := by omega
    have p4 : (i : Int) < 4 := by omega
    replace p1 := eq_true p1
    replace p2 := eq_true p2
    replace p3 := eq_true p3
    replace p4 := eq_true p4
    have HQE := Aside0.mk hq
    have HYE := Aside0.mk hy
    clear hlt ha hy hM' hF' hq
    go_upto_region 11 with fail
    refine start_ (n := 16) (S := fun w' => w'.cell? ⟨g, q, none⟩ = some (.int .u8 a) ∧ w'.cell? ⟨Y, i, none⟩ = some (.int .u8 y) ∧ w'.frozen? ⟨g, q, none⟩ = false) (ds := [15]) #[false, false, false, false, false, false, false, false, false, false, false, false, false, false, false, false] (by kernel_rfl) rfl rfl ⟨q0, q1, q2⟩ (fun hHeld => ?_)
    refine rgP 0 65 ?_
    refine rgP 1 66 ?_
    refine rgP 2 67 ?_
    refine rgP 3 68 ?_
    refine rgP 4 69 ?_
    refine rgP 5 70 ?_
    refine rgP 6 71 ?_
    refine rgP 7 72 ?_
    refine rgP 8 73 ?_
    refine rgP 10 75 ?_
    refine rgP 11 76 ?_
    refine rgT3 9 74 hHeld ?_
    refine rgT3 12 77 hHeld ?_
    refine rgP 13 78 ?_
    refine rgP 14 79 ?_
    refine last_ (i := 15) (N := none) #[true, true, true, true, true, true, true, true, true, true, true, true, true, true, true, true] rfl rfl (by kernel_rfl) (by decide) (fun K hK => ?_)
    refine skip_ (w1 := ?_) (by rfl) rfl ?_ ?_
    rotate_left
    ·
     go_simp
     rfl
    refine hK.out _ _ ?_
    clear hK K
    refine done_ (by kernel_rfl) ?_
    have hp_ := Kd.R_putg HO.out (q : Int) (Go.bits .xor .u8 a y)
    rw [Int.toNat_natCast] at hp_
    have m0_ := Aside0.mk (show Kd.R (Kd.int .u8) 5 (wr.setCell ⟨g, q, none⟩ (.int .u8 (Go.bits .xor .u8 a y))).drew w2.heap.size (fun _ => True) (.slice (some ⟨g, 0, none⟩) l.length c) M' from Kd.R_drew (by rw [HST.out]; exact hp_.1))
    have m1_ := Aside0.mk (show (wr.setCell ⟨g, q, none⟩ (.int .u8 (Go.bits .xor .u8 a y))).drew.heap[Y]? = some (.cells #[.int .u8 y0, .int .u8 y1, .int .u8 y2, .int .u8 y3] 38 (0, 0)) from blk_far BY.out (p := ⟨g, q, none⟩) HYG.out _)
    have m2_ := Aside0.mk (show Below w.heap.size w (wr.setCell ⟨g, q, none⟩ (.int .u8 (Go.bits .xor .u8 a y))).drew from below_drew (below_set HB.out HGW.out))
    generalize (wr.setCell ⟨g, q, none⟩ (.int .u8 (Go.bits .xor .u8 a y))).drew = wn at *
    have HYV := Aside0.mk (show rd [y0, y1, y2, y3] (i : Int) = y from HYE.out)
    clear hHeld q0 q1 q2 HO BY HB hp_ HST
    have HO := m0_
    have BY := m1_
    have HB := m2_
    clear m0_ m1_ m2_
    have q1 := arr_cell BY.out HLT.out.1
    rw [HYV.out] at q1
    generalize tflag [y0, y1, y2, y3] i = f at *
    cases f with
    | false =>
     go_wp2
     go_roundg k1
     case measure => have := HI.out; have := HLT.out; omega
     case rel => exact ⟨i + 1, congrArg (Value.int .i64) (wstepB (by have := HLT.out; omega)), congrArg Value.bool (by rw [HF2.out, HFL.out]; rfl), (by rw [HM2.out]; exact HO), BY, HB, ⟨by have := HLT.out; omega, by have := HLT.out; have := HQE.out; omega, by have := HLT.out; have := HI.out; omega, by have := HI.out; omega⟩⟩
    | true =>
     go_wp2
     go_roundg k1
     case measure => have := HI.out; have := HLT.out; omega
     case rel => exact ⟨i + 1, congrArg (Value.int .i64) (wstepB (by have := HLT.out; omega)), congrArg Value.bool (by rw [HF2.out, HFL.out]; rfl), (by rw [HM2.out]; exact HO), BY, HB, ⟨by have := HLT.out; omega, by have := HLT.out; have := HQE.out; omega, by have := HLT.out; have := HI.out; omega, by have := HI.out; omega⟩⟩
   ·
    obtain ⟨M, hM⟩ : ∃ x, turnN l p [y0, y1, y2, y3] i = x := ⟨_, rfl⟩
    have hmb := turn_byt HLB.out HYY.out p i
    have hml := turn_len l p [y0, y1, y2, y3] i
    have law := HLAW.out [y0, y1, y2, y3] HYY.out i HI.out.1 HI.out.2.1
    rw [hM] at law hmb hml HO
    have HMB := Aside0.mk hmb
    have HML := Aside0.mk hml
    have HO2 := Aside0.mk (show Kd.R (Kd.int .u8) 5 wr w2.heap.size (fun _ => True) (.slice (some ⟨g, 0, none⟩) M.length c) M from by rw [HML.out]; exact HO.out)
    clear HO hM hmb hml
    by_cases h4 : i = 4
    ·
     have d0 : decide ((i : Int) < 4) = false := decide_eq_false (by omega)
     have d1 : decide (i < 4) = false := decide_eq_false (by omega)
     clear hlt h4
     generalize tflag [y0, y1, y2, y3] i = f at *
     cases f with
     | false =>
      have HUN := Aside0.mk (law.1 rfl)
      clear law
      go_wp2_with (first | (go_at_call 10; have hc := unpack_calls (some ⟨g, 0, none⟩) c M _ HMB.out (Kd.R_reads' HO2.out).2.2 (Kd.R_reads' HO2.out).2.1; rw [HUN.out] at hc; rw [HML.out] at hc; (refine hc.mono ?_); clear hc; rintro e_ w8 ⟨v0, v1, v2, v3, rfl, h0, h1, h2, h3, hb⟩; replace h0 : Kd.R Kd.string 9 w8 wr.heap.size (fun _ => True) v0 ids := h0; obtain ⟨B0, d0, rfl⟩ := Kd.R_slice h0; replace h1 : Kd.R (Kd.int .i64) 3 w8 wr.heap.size (fun _ => True) v1 keys := h1; obtain ⟨B1, d1, rfl⟩ := Kd.R_slice h1; replace h2 : Kd.R (Kd.int .i64) 3 w8 wr.heap.size (fun _ => True) v2 lens := h2; obtain ⟨B2, d2, rfl⟩ := Kd.R_slice h2; replace h3 : Kd.R k44 44 w8 wr.heap.size (fun _ => True) v3 terms := h3; obtain ⟨B3, d3, rfl⟩ := Kd.R_slice h3; clear h0 h1 h2 h3; have m0_ := Aside0.mk (below_step HB.out hb); clear HB hb; have HB := m0_; clear m0_))
      go_ret
      exact ⟨rfl, by first | exact below_alloc HB.out _ | exact HB.out⟩
     | true =>
      have h56 := law.2 rfl
      clear law
      obtain ⟨⟨sv, e⟩, hu⟩ : ∃ x, unSegP M = x := ⟨_, rfl⟩
      rw [hu] at h56
      rcases h56 with h5 | h5
      ·
       replace h5 : e = 5 := h5
       subst h5
       have HUN := Aside0.mk hu
       clear hu
       go_wp2_with (first | (go_at_call 10; have hc := unpack_calls (some ⟨g, 0, none⟩) c M _ HMB.out (Kd.R_reads' HO2.out).2.2 (Kd.R_reads' HO2.out).2.1; rw [HUN.out] at hc; rw [HML.out] at hc; (refine hc.mono ?_); clear hc; rintro e_ w8 ⟨v0, v1, v2, v3, rfl, h0, h1, h2, h3, hb⟩; replace h0 : Kd.R Kd.string 9 w8 wr.heap.size (fun _ => True) v0 sv.ids := h0; obtain ⟨B0, d0, rfl⟩ := Kd.R_slice h0; replace h1 : Kd.R (Kd.int .i64) 3 w8 wr.heap.size (fun _ => True) v1 sv.keys := h1; obtain ⟨B1, d1, rfl⟩ := Kd.R_slice h1; replace h2 : Kd.R (Kd.int .i64) 3 w8 wr.heap.size (fun _ => True) v2 sv.lens := h2; obtain ⟨B2, d2, rfl⟩ := Kd.R_slice h2; replace h3 : Kd.R k44 44 w8 wr.heap.size (fun _ => True) v3 sv.terms := h3; obtain ⟨B3, d3, rfl⟩ := Kd.R_slice h3; clear h0 h1 h2 h3; have m0_ := Aside0.mk (below_step HB.out hb); clear HB hb; have HB := m0_; clear m0_))
       go_ret
       exact ⟨rfl, by first | exact below_alloc HB.out _ | exact HB.out⟩
      ·
       replace h5 : e = 6 := h5
       subst h5
       have HUN := Aside0.mk hu
       clear hu
       go_wp2_with (first | (go_at_call 10; have hc := unpack_calls (some ⟨g, 0, none⟩) c M _ HMB.out (Kd.R_reads' HO2.out).2.2 (Kd.R_reads' HO2.out).2.1; rw [HUN.out] at hc; rw [HML.out] at hc; (refine hc.mono ?_); clear hc; rintro e_ w8 ⟨v0, v1, v2, v3, rfl, h0, h1, h2, h3, hb⟩; replace h0 : Kd.R Kd.string 9 w8 wr.heap.size (fun _ => True) v0 sv.ids := h0; obtain ⟨B0, d0, rfl⟩ := Kd.R_slice h0; replace h1 : Kd.R (Kd.int .i64) 3 w8 wr.heap.size (fun _ => True) v1 sv.keys := h1; obtain ⟨B1, d1, rfl⟩ := Kd.R_slice h1; replace h2 : Kd.R (Kd.int .i64) 3 w8 wr.heap.size (fun _ => True) v2 sv.lens := h2; obtain ⟨B2, d2, rfl⟩ := Kd.R_slice h2; replace h3 : Kd.R k44 44 w8 wr.heap.size (fun _ => True) v3 sv.terms := h3; obtain ⟨B3, d3, rfl⟩ := Kd.R_slice h3; clear h0 h1 h2 h3; have m0_ := Aside0.mk (below_step HB.out hb); clear HB hb; have HB := m0_; clear m0_))
       go_ret
       exact ⟨rfl, by first | exact below_alloc HB.out _ | exact HB.out⟩
    ·
     have d0 : decide ((i : Int) < 4) = true := decide_eq_true (by have := HI.out; omega)
     have d1 : decide (i < 4) = true := decide_eq_true (by have := HI.out; omega)
     have w3 := HQ.out
     have d2 : decide (((p + i : Nat) : Int) < (l.length : Int)) = false := decide_eq_false (by have := HI.out; omega)
     have d3 : decide (p + i < l.length) = false := decide_eq_false (by have := HI.out; omega)
     obtain ⟨q, hq⟩ : ∃ q, p + i = q := ⟨_, rfl⟩
     rw [hq] at w3 d2 d3
     clear hlt h4 hq
     generalize tflag [y0, y1, y2, y3] i = f at *
     cases f with
     | false =>
      have HUN := Aside0.mk (law.1 rfl)
      clear law
      go_wp2_with (first | (go_at_call 10; have hc := unpack_calls (some ⟨g, 0, none⟩) c M _ HMB.out (Kd.R_reads' HO2.out).2.2 (Kd.R_reads' HO2.out).2.1; rw [HUN.out] at hc; rw [HML.out] at hc; (refine hc.mono ?_); clear hc; rintro e_ w8 ⟨v0, v1, v2, v3, rfl, h0, h1, h2, h3, hb⟩; replace h0 : Kd.R Kd.string 9 w8 wr.heap.size (fun _ => True) v0 ids := h0; obtain ⟨B0, d0, rfl⟩ := Kd.R_slice h0; replace h1 : Kd.R (Kd.int .i64) 3 w8 wr.heap.size (fun _ => True) v1 keys := h1; obtain ⟨B1, d1, rfl⟩ := Kd.R_slice h1; replace h2 : Kd.R (Kd.int .i64) 3 w8 wr.heap.size (fun _ => True) v2 lens := h2; obtain ⟨B2, d2, rfl⟩ := Kd.R_slice h2; replace h3 : Kd.R k44 44 w8 wr.heap.size (fun _ => True) v3 terms := h3; obtain ⟨B3, d3, rfl⟩ := Kd.R_slice h3; clear h0 h1 h2 h3; have m0_ := Aside0.mk (below_step HB.out hb); clear HB hb; have HB := m0_; clear m0_))
      go_ret
      exact ⟨rfl, by first | exact below_alloc HB.out _ | exact HB.out⟩
     | true =>
      have h56 := law.2 rfl
      clear law
      obtain ⟨⟨sv, e⟩, hu⟩ : ∃ x, unSegP M = x := ⟨_, rfl⟩
      rw [hu] at h56
      rcases h56 with h5 | h5
      ·
       replace h5 : e = 5 := h5
       subst h5
       have HUN := Aside0.mk hu
       clear hu
       go_wp2_with (first | (go_at_call 10; have hc := unpack_calls (some ⟨g, 0, none⟩) c M _ HMB.out (Kd.R_reads' HO2.out).2.2 (Kd.R_reads' HO2.out).2.1; rw [HUN.out] at hc; rw [HML.out] at hc; (refine hc.mono ?_); clear hc; rintro e_ w8 ⟨v0, v1, v2, v3, rfl, h0, h1, h2, h3, hb⟩; replace h0 : Kd.R Kd.string 9 w8 wr.heap.size (fun _ => True) v0 sv.ids := h0; obtain ⟨B0, d0, rfl⟩ := Kd.R_slice h0; replace h1 : Kd.R (Kd.int .i64) 3 w8 wr.heap.size (fun _ => True) v1 sv.keys := h1; obtain ⟨B1, d1, rfl⟩ := Kd.R_slice h1; replace h2 : Kd.R (Kd.int .i64) 3 w8 wr.heap.size (fun _ => True) v2 sv.lens := h2; obtain ⟨B2, d2, rfl⟩ := Kd.R_slice h2; replace h3 : Kd.R k44 44 w8 wr.heap.size (fun _ => True) v3 sv.terms := h3; obtain ⟨B3, d3, rfl⟩ := Kd.R_slice h3; clear h0 h1 h2 h3; have m0_ := Aside0.mk (below_step HB.out hb); clear HB hb; have HB := m0_; clear m0_))
       go_ret
       exact ⟨rfl, by first | exact below_alloc HB.out _ | exact HB.out⟩
      ·
       replace h5 : e = 6 := h5
       subst h5
       have HUN := Aside0.mk hu
       clear hu
       go_wp2_with (first | (go_at_call 10; have hc := unpack_calls (some ⟨g, 0, none⟩) c M _ HMB.out (Kd.R_reads' HO2.out).2.2 (Kd.R_reads' HO2.out).2.1; rw [HUN.out] at hc; rw [HML.out] at hc; (refine hc.mono ?_); clear hc; rintro e_ w8 ⟨v0, v1, v2, v3, rfl, h0, h1, h2, h3, hb⟩; replace h0 : Kd.R Kd.string 9 w8 wr.heap.size (fun _ => True) v0 sv.ids := h0; obtain ⟨B0, d0, rfl⟩ := Kd.R_slice h0; replace h1 : Kd.R (Kd.int .i64) 3 w8 wr.heap.size (fun _ => True) v1 sv.keys := h1; obtain ⟨B1, d1, rfl⟩ := Kd.R_slice h1; replace h2 : Kd.R (Kd.int .i64) 3 w8 wr.heap.size (fun _ => True) v2 sv.lens := h2; obtain ⟨B2, d2, rfl⟩ := Kd.R_slice h2; replace h3 : Kd.R k44 44 w8 wr.heap.size (fun _ => True) v3 sv.terms := h3; obtain ⟨B3, d3, rfl⟩ := Kd.R_slice h3; clear h0 h1 h2 h3; have m0_ := Aside0.mk (below_step HB.out hb); clear HB hb; have HB := m0_; clear m0_))
       go_ret
       exact ⟨rfl, by first | exact below_alloc HB.out _ | exact HB.out⟩

end Go.Proofs.Ytfhcolhiolgikaa.T
