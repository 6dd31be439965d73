import Derived.Test.YtfhcolhiolgikaaQOV
import Derived.Test.YtfhcolhiolgikaaProg
import Derived.Below
import Derived.Deep.Draws
import Derived.Deep.AppendLies
import Derived.Maps.AppendAt
import Derived.OwnWalk
import Derived.Laws.BytesArg
import Derived.Laws.MakeOwn
import Derived.Laws.OwnMore
import Derived.Deep.OwnRows
import Derived.Tactics
import Derived.Lib.ConvBytes
import Derived.Laws.Slices
import Derived.WalkKit
import Derived.KernelRfl
import Derived.RowKit3
import Derived.Deep.LoopGhost
import Derived.Deep.QuietTactic
import Derived.BigQuiet
import Derived.WideLaws
import Derived.Deep.DeepCutAuto
import Derived.Deep.CutBlock
import Derived.Deep.RegionHeld3
import Derived.Laws.Rows
import Derived.Lib.AppendStr
import Derived.ArgAppend
import Derived.Laws.IdiomCopy
import Derived.OrdersHeld
import Derived.Laws.BitsLemmas
import Derived.RowKit
import Derived.Test.YtfhcolhiolgikaaQOA
/- Texts of this claim, laid together by a program (merge.py): Wf. -/
/- Written by hp.py, this session's own program, out of the translation of this seat: Lean functions for the Go functions, and the proof that each call comes to what its Lean function says. -/
namespace Go.Proofs.Ytfhcolhiolgikaa.T
open Go.RowKit Go.Proofs.YtfhcolhiolgikaaW.PrintWords Go.Proofs.YtfhcolhiolgikaaW.PrintLast Go.Proofs.YtfhcolhiolgikaaW.PrintMore
attribute [local go_sem] max2_int min2_int max_two min_two max_three min_three max_four min_four   -- for this text's walks alone
set_option linter.unusedVariables false
set_option linter.unusedSimpArgs false
/-! ### frame.Wrap (function 20), by hand -/
theorem wr_lit {W : World} {k : IntKind} {g : Nat} {t : TypeId} {cs : Array Value} (xs : List Int) (h : W.heap[g]? = some (.cells cs t (0, 0))) (he : cs.toList = xs.map (Value.int k)) (hl : xs.length ≤ 1000) : Kd.C (Kd.int k) W (some ⟨g, 0, none⟩) xs.length xs := by
 refine ⟨rfl, by omega, fun _ => ⟨⟨g, 0, none⟩, rfl, fun j p hp => ⟨[.int k p], rfl, rfl, fun i u hu => ?_⟩⟩⟩
 have hi : i = 0 := by have := (List.getElem?_eq_some_iff.1 hu).1; simpa using this
 subst hi
 have e : (⟨g, 0, none⟩ : Addr).add (j * (Kd.int k).sz + 0) = ⟨g, j, none⟩ := by rw [add_plain]; congr 1; show j * 1 + 0 = j; omega
 rw [e, blk_cell h, ← Array.getElem?_toList, he, List.getElem?_map, hp]
 exact hu
def frame_Wrap.f (k : Nat) (kind : Int) (l : List Int) : Option (List Int) := if (l.length : Int) > 65536 then some [] else (vint_Put.f k (l.length : Int)).bind fun p => if p.length ≤ 1000 then some (([70, kind] ++ p ++ l) ++ ofL (sumL ([70, kind] ++ p ++ l))) else none
set_option maxHeartbeats 8000000 in
set_option maxRecDepth 100000 in
theorem frame_Wrap.calls (k : Nat) (a0 : Int) (A1 : Option Addr) (c1 : Nat) (l1 : List Int) (r : List Int) (w : World) (hr1 : Kd.C (Kd.int .u8) w A1 l1.length l1) (hc1 : l1.length ≤ c1) (h : frame_Wrap.f k a0 l1 = some r) :
  Calls Try.prog 20 #[.int .u8 a0, .slice A1 l1.length c1] w fun e w' => ∃ v0_ : Value, e = .returned (v0_) ∧ Kd.R (Kd.int .u8) 5 w' w.heap.size (fun _ => True) v0_ r ∧ Below w.heap.size w w' := by
 have hu38 := Try.underlying38
 have hu29 := Try.underlying29
 have HR1 := Aside0.mk hr1
 have HC1 := Aside0.mk hc1
 clear hr1 hc1
 have HB := Aside0.mk (Below.refl w.heap.size w)
 unfold frame_Wrap.f at h
 by_cases c3 : (l1.length : Int) > 65536
 ·
  rw [if_pos c3] at h
  obtain rfl := Option.some.inj h
  have d1 : decide (65536 < (l1.length : Int)) = true := decide_eq_true c3
  have d2 : decide (65536 < l1.length) = true := decide_eq_true (by omega)
  clear c3 h
  go_enter Try.func20, Try.ntmps20
  go_wp2
  go_ret
  exact ⟨_, rfl, Kd.R_nil _ _ _ _ _, HB.out⟩
 rw [if_neg c3] at h
 have d1 : decide (65536 < (l1.length : Int)) = false := decide_eq_false c3
 have d2 : decide (65536 < l1.length) = false := decide_eq_false (by omega)
 have HLL := Aside0.mk (show l1.length ≤ 65536 by omega)
 clear c3
 obtain ⟨t269, A4, h⟩ := Option.bind_eq_some_iff.mp h
 by_cases c4 : t269.length ≤ 1000
 ·
  rw [if_pos c4] at h
  have h := Option.some.inj h
  have A4 := Aside0.mk A4
  obtain ⟨y266, hy⟩ : ∃ y_ : List Int, y_ = ([70, a0] : List Int) := ⟨_, rfl⟩
  have Ny266 := Aside0.mk hy
  have LMc5 := Aside0.mk (show y266.length + t269.length < 140737488355328 by rw [hy]; simp; omega)
  obtain ⟨y272, hy1⟩ : ∃ y_ : List Int, y_ = (y266 ++ t269) := ⟨_, rfl⟩
  have Ny272 := Aside0.mk hy1
  have LMc6 := Aside0.mk (show y272.length + l1.length < 140737488355328 by have := HLL.out; rw [hy1, hy]; simp; omega)
  obtain ⟨y275, hy2⟩ : ∃ y_ : List Int, y_ = (y272 ++ l1) := ⟨_, rfl⟩
  have Ny275 := Aside0.mk hy2
  have LMc7 := Aside0.mk (show y275.length + 4 < 140737488355328 by have := HLL.out; rw [hy2, hy1, hy]; simp; omega)
  have HRS := Aside0.mk (show y275 ++ ofL (sumL y275) = r by rw [← h, hy2, hy1, hy])
  clear hy hy1 hy2 h c4
  go_enter Try.func20, Try.ntmps20
  go_upto_region 5 with (first | ((with_reducible refine gate_dst (N := 11) rfl ?_); refine Kd.R_lit (Kd.int .u8) _ 5 ?hg (N := 11) ?hd (xs := ([70, a0] : List Int)) (inner := [.int .u8 70, .int .u8 a0]) (ok := fun _ => True) (okp := fun _ => True) ?hr ?hp (fun _ hk => hk) trivial (Below.refl _ _) (Nat.le_refl _) (by simp) ?_; (case hd => rfl); (case hg => rfl); (case hr => first | (go_simp; done) | (go_simp; rfl)); (case hp => exact (Reps.one (show Kd.M (Kd.int .u8) _ _ _ 70 [.int .u8 70] from rfl) (Reps.one (show Kd.M (Kd.int .u8) _ _ _ a0 [.int .u8 a0] from rfl) (Reps.none _ _)))); intro v267 w8 ho9 hb hg_ hnew_; clear hg_ hnew_; (first | rw [← Ny266.out] at ho9 | (simp only [Int.reduceToNat] at ho9; rw [← Ny266.out] at ho9)); have n0_ := Aside0.mk (Kd.R_lower ho9 (below_size (by repeat (first | (with_reducible first | exact HB.out | apply below_alloc | apply pw_below_drewN | apply below_drew1) | exact HB.out)))); have n1_ := Aside0.mk (below_step (by repeat (first | (with_reducible first | exact HB.out | apply below_alloc | apply pw_below_drewN | apply below_drew1) | exact HB.out)) hb); clear HB; have HO268 := n0_; have HB := n1_; clear n0_ n1_; clear hb ho9) | ((with_reducible refine gate_callee (f := 15) rfl ?_); refine goesL_ (some 14) rfl rfl Try.func15 (by kernel_rfl) rfl #[.int .i64 (l1.length : Int)] rfl (by (try simp only [List.map_toArray, List.map_cons, List.map_nil]); first | done | rfl | (simp only [List.length_drop, List.length_take]; rfl)) ?_; (with_reducible refine (vint_Put.calls k (l1.length : Int) t269 _ A4.out).mono ?_); rintro e w10 ⟨v270, rfl, ho0, hb⟩; refine ⟨_, rfl, ?_⟩; have n0_ := Aside0.mk (Kd.R_elder' (by (with_reducible repeat (first | apply Kd.R_alloc | apply Kd.R_drewN | apply Kd.R_drew)); exact HO268.out) (Kd.R_base ho0) hb); have n1_ := Aside0.mk (Kd.R_lower (Kd.R_new' ho0 (Kd.R_lt (by (with_reducible repeat (first | apply Kd.R_alloc | apply Kd.R_drewN | apply Kd.R_drew)); exact HO268.out))) (below_size (by repeat (first | (with_reducible first | exact HB.out | apply below_alloc | apply pw_below_drewN | apply below_drew1) | exact HB.out)))); have n2_ := Aside0.mk (below_step (by repeat (first | (with_reducible first | exact HB.out | apply below_alloc | apply pw_below_drewN | apply below_drew1) | exact HB.out)) hb); clear HO268; clear HB; have HO268 := n0_; have HO271 := n1_; have HB := n2_; clear n0_ n1_ n2_; (try clear hb); (try clear hb2); (try clear hk); (try clear hi); (try clear ho0); obtain ⟨Ao12, co12, eo12⟩ := Kd.R_slice HO271.out; subst eo12) | ((with_reducible refine gate_builtin (b := .append) (xs := #[.tmp 11, .tmp 14]) rfl ?_); at_builtin; refine Kd.R_append_rows (Kd.int .u8) (w0 := w) w.heap.size rfl (.tmp 11) (.tmp 14) 29 5 (.int .u8 0) 1 rfl Try.underlying29 info5 rfl (by decide) (by omega) v267 y266 t269 _ _ _ (fun k_ => some k_ ≠ (.slice Ao12 t269.length co12 : Value).ownBlock) (fun _ => False) rfl rfl ?aO ?aR (fun _ _ h => h) (fun _ h => h.elim) ?aF ?aB ?aS ?aL ?_; (case aR => repeat (first | exact (Kd.R_reads' HO271.out).2.2 | (with_reducible refine Kd.C_alloc ?_ _) | (with_reducible refine Kd.C_drewN ?_ _) | (with_reducible refine Kd.C_drew ?_))); (case aB => exact (by repeat (first | (with_reducible first | exact HB.out | apply below_alloc | apply pw_below_drewN | apply below_drew1) | exact HB.out))); (case aF => exact (fun k_ hk => Kd.fresh' (Kd.R_lt (by (with_reducible repeat (first | apply Kd.R_alloc | apply Kd.R_drewN | apply Kd.R_drew)); exact HO271.out)) k_ hk)); (case aO => exact (by (with_reducible repeat (first | apply Kd.R_alloc | apply Kd.R_drewN | apply Kd.R_drew)); exact Kd.R_mono HO268.out (fun _ hk => hk.2))); (case aS => exact (below_size (by repeat (first | (with_reducible first | exact HB.out | apply below_alloc | apply pw_below_drewN | apply below_drew1) | exact HB.out)))); (case aL => have := LMc5.out; omega); intro v273 w11 ho hb hg hat; rw [← Ny272.out] at ho; have n0_ := Aside0.mk (Kd.R_after (ok := (fun _ => True)) (by (with_reducible repeat (first | apply Kd.R_alloc | apply Kd.R_drewN | apply Kd.R_drew)); exact HO271.out) hg hat); have n1_ := Aside0.mk (hb); have n2_ := Aside0.mk (ho); clear HO271; clear HB; clear HO268; have HO271 := n0_; have HB := n1_; have HO274 := n2_; clear n0_ n1_ n2_; clear ho hb hg hat) | ((with_reducible refine gate_builtin (b := .append) (xs := #[.tmp 16, .tmp 17]) rfl ?_); at_builtin; refine Kd.R_append_rows (Kd.int .u8) (w0 := w) w.heap.size rfl (.tmp 16) (.tmp 17) 29 5 (.int .u8 0) 1 rfl Try.underlying29 info5 rfl (by decide) (by omega) v273 y272 l1 _ _ _ (fun k_ => some k_ ≠ (.slice Ao12 t269.length co12 : Value).ownBlock) (fun _ => False) rfl rfl ?aO ?aR (fun _ _ h => h) (fun _ h => h.elim) ?aF ?aB ?aS ?aL ?_; (case aR => repeat (first | exact (Kd.C_below HR1.out HB.out) | (with_reducible refine Kd.C_alloc ?_ _) | (with_reducible refine Kd.C_drewN ?_ _) | (with_reducible refine Kd.C_drew ?_))); (case aB => exact (by repeat (first | (with_reducible first | exact HB.out | apply below_alloc | apply pw_below_drewN | apply below_drew1) | exact HB.out))); (case aF => exact (fun k_ hk => Kd.fresh' (Kd.R_lt (by (with_reducible repeat (first | apply Kd.R_alloc | apply Kd.R_drewN | apply Kd.R_drew)); exact HO271.out)) k_ hk)); (case aO => exact (by (with_reducible repeat (first | apply Kd.R_alloc | apply Kd.R_drewN | apply Kd.R_drew)); exact HO274.out)); (case aS => exact (below_size (by repeat (first | (with_reducible first | exact HB.out | apply below_alloc | apply pw_below_drewN | apply below_drew1) | exact HB.out)))); (case aL => have := LMc6.out; omega); intro v276 w13 ho hb hg hat; rw [← Ny275.out] at ho; have n0_ := Aside0.mk (Kd.R_after (ok := (fun _ => True)) (by (with_reducible repeat (first | apply Kd.R_alloc | apply Kd.R_drewN | apply Kd.R_drew)); exact HO271.out) hg hat); have n1_ := Aside0.mk (hb); have n2_ := Aside0.mk (ho); clear HO271; clear HB; clear HO274; have HO271 := n0_; have HB := n1_; have HO277 := n2_; clear n0_ n1_ n2_; clear ho hb hg hat; obtain ⟨Ao14, co14, eo14⟩ := Kd.R_slice HO277.out; subst eo14))
  have m0_ := Aside0.mk (show Kd.R (Kd.int .u8) 5 _ w.heap.size (fun _ => True) (.slice Ao14 y275.length co14) y275 from Kd.R_mono HO277.out (fun _ _ => trivial))
  clear HO277
  have HO277 := m0_
  clear m0_
  go_upto_region 6 with (first | (go_at_call 40; (refine (frame_Sum.calls _ _ y275 (sumL y275) _ (Kd.R_reads' HO277.out).2.2 (Kd.R_reads' HO277.out).2.1 rfl).mono ?_); rintro e_ w20 ⟨rfl, hb⟩; have n0_ := Aside0.mk (Kd.R_below HO277.out hb); have n1_ := Aside0.mk (below_step HB.out hb); clear HO277 HB hb; have HO277 := n0_; have HB := n1_; clear n0_ n1_) | (go_at_call 39; (refine (of_calls (sumL y275) _).mono ?_); rintro e_ w21 ⟨rfl, hb⟩; have n0_ := Aside0.mk (Kd.R_below HO277.out hb); have n1_ := Aside0.mk (below_step HB.out hb); clear HO277 HB hb; have HO277 := n0_; have HB := n1_; clear n0_ n1_))
  have b0 := blk_new w21 (.cells #[.int .u8 (sumL y275 % 256), .int .u8 (sumL y275 / 256 % 256), .int .u8 (sumL y275 / 65536 % 256), .int .u8 (sumL y275 / 16777216 % 256)] 38)
  have hb := below_alloc (Below.refl w21.heap.size w21) (.cells #[.int .u8 (sumL y275 % 256), .int .u8 (sumL y275 / 256 % 256), .int .u8 (sumL y275 / 65536 % 256), .int .u8 (sumL y275 / 16777216 % 256)] 38)
  generalize (w21.alloc (.cells #[.int .u8 (sumL y275 % 256), .int .u8 (sumL y275 / 256 % 256), .int .u8 (sumL y275 / 65536 % 256), .int .u8 (sumL y275 / 16777216 % 256)] 38)) = w22 at *
  have n0_ := Aside0.mk (Kd.R_below HO277.out hb)
  have n1_ := Aside0.mk (below_step HB.out hb)
  have HCA := Aside0.mk (wr_lit (k := .u8) (ofL (sumL y275)) b0 rfl (by simp [ofL]))
  clear HO277 HB hb b0
  have HO277 := n0_
  have HB := n1_
  clear n0_ n1_
  generalize w21.heap.size = g at *
  go_wp2_with (first | ((with_reducible refine gate_builtin (b := .append) (xs := #[.tmp 22, .tmp 23]) rfl ?_); at_builtin; refine Kd.R_append_rows (Kd.int .u8) (w0 := w) w.heap.size rfl (.tmp 22) (.tmp 23) 29 5 (.int .u8 0) 1 rfl Try.underlying29 info5 rfl (by decide) (by omega) (.slice Ao14 y275.length co14) y275 (ofL (sumL y275)) _ _ _ (fun _ => True) (fun _ => False) rfl rfl HO277.out HCA.out (fun _ _ h => h) (fun _ h => h.elim) (fun _ _ => trivial) HB.out (below_size HB.out) (by have := LMc7.out; show (y275.length + 4) * 1 ≤ _; omega) ?_; intro v30 w30 ho hb hg hat; rw [HRS.out] at ho; have HO30 := Aside0.mk ho; have HB30 := Aside0.mk hb; clear ho hb hg hat))
  go_ret
  exact ⟨_, rfl, HO30.out, HB30.out⟩
 ·
  rw [if_neg c4] at h
  exact absurd h (by simp)

end Go.Proofs.Ytfhcolhiolgikaa.T
