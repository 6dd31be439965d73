import Derived.Test.YtfhcolhiolgikaaQTV
import Derived.WalkSpells
import Derived.Test.YtfhcolhiolgikaaProg
import Derived.Below
import Derived.Deep.Draws
import Derived.Deep.AppendLies
import Derived.Maps.AppendAt
import Derived.OwnWalk
import Derived.Laws.BytesArg
import Derived.Laws.MakeOwn
import Derived.Laws.OwnMore
import Derived.Deep.OwnRows
import Derived.Tactics
import Derived.Lib.ConvBytes
import Derived.Laws.Slices
import Derived.WalkKit
import Derived.KernelRfl
import Derived.RowKit3
import Derived.Deep.LoopGhost
import Derived.Deep.QuietTactic
import Derived.BigQuiet
import Derived.WideLaws
import Derived.Deep.DeepCutAuto
import Derived.Deep.CutBlock
import Derived.Deep.RegionHeld3
import Derived.Laws.Rows
import Derived.Lib.AppendStr
import Derived.ArgAppend
import Derived.Laws.IdiomCopy
import Derived.OrdersHeld
import Derived.Laws.BitsLemmas
import Derived.RowKit
import Derived.Test.YtfhcolhiolgikaaQTA
/- Texts of this claim, laid together by a program (merge.py): Ha. -/
/- Written by hp.py, this session's own program, out of the translation of this seat: Lean functions for the Go functions, and the proof that each call comes to what its Lean function says. -/
namespace Go.Proofs.Ytfhcolhiolgikaa.T
open Go.RowKit Go.Proofs.YtfhcolhiolgikaaW.PrintWords Go.Proofs.YtfhcolhiolgikaaW.PrintLast Go.Proofs.YtfhcolhiolgikaaW.PrintMore
attribute [local go_sem] max2_int min2_int max_two min_two max_three min_three max_four min_four   -- for this text's walks alone
set_option linter.unusedVariables false
set_option linter.unusedSimpArgs false
/-! ### slices_Clone_u8: function 46 (slices.Clone), by hand -/
def slices_Clone_u8.f (l0 : List Int) : Option (List Int) := if l0.length * 1 ≤ 140737488355328 then some l0 else none
set_option maxHeartbeats 1000000 in
set_option maxRecDepth 100000 in
theorem slices_Clone_u8.calls (A0 : Option Addr) (c0 : Nat) (l0 : List Int) (r : List Int) (w : World) (hr0 : Kd.C (Kd.int .u8) w A0 l0.length l0) (hc0 : l0.length ≤ c0) (h : slices_Clone_u8.f l0 = some r) :
  Calls Try.prog 46 #[.slice A0 l0.length c0] w fun e w' => ∃ v0_ : Value, e = .returned (v0_) ∧ Kd.R (Kd.int .u8) 5 w' w.heap.size (fun _ => True) v0_ r ∧ Below w.heap.size w w' := by
 unfold slices_Clone_u8.f at h
 by_cases hl : l0.length * 1 ≤ 140737488355328
 ·
  rw [if_pos hl] at h
  obtain rfl := Option.some.inj h
  have HR := Aside0.mk hr0
  have HL := Aside0.mk hl
  clear h
  have hnil : ∀ (w : World) (a : Option Addr) (n c n' c' : Nat), (binOp .eql 29 (.slice a n c) (.slice none n' c')).run Try.prog w = .ok (.bool a.isNone) w := fun w a n c n' c' => Lib.run_eql_slice_nil w _ _ a n c n' c' Try.underlying29
  cases A0 with
  | none =>
   have hn : l0 = [] := by
    apply List.eq_nil_of_length_eq_zero
    by_cases h0 : l0.length = 0
    ·
     exact h0
    ·
     obtain ⟨ad, he, _⟩ := hr0.2.2 (by omega)
     cases he
   subst hn
   clear HR HL hl hr0
   go_enter Try.func46, Try.ntmps46
   go_wp2
   go_ret
   exact ⟨_, rfl, Kd.R_nil _ _ _ _ _, Below.refl _ _⟩
  | some ad =>
   clear hr0 hl
   have hB0 := Aside0.mk (Below.refl w.heap.size w)
   go_enter Try.func46, Try.ntmps46
   go_wp2_with (first | ((with_reducible refine gate_dst (N := 5) rfl ?_); refine Kd.R_lit (Kd.int .u8) w.heap.size 5 ?hg (N := 5) ?hd (xs := ([] : List Int)) (inner := []) (ok := fun _ => True) (okp := fun _ => True) ?hr ?hp (fun _ hk => hk) trivial (Below.refl _ _) (Nat.le_refl _) (by simp) ?_; (case hd => rfl); (case hg => rfl); (case hr => first | (go_simp; done) | (go_simp; rfl)); (case hp => exact Reps.none _ _); intro v103 w5 ho6 hb hg_ hnew_; clear hg_ hnew_; have n0_ := Aside0.mk (Kd.C_below HR.out hb); have n1_ := Aside0.mk ho6; have n2_ := Aside0.mk hb; clear HR hB0; have HR := n0_; have HO := n1_; have HB := n2_; clear n0_ n1_ n2_; clear hb ho6; obtain ⟨Ao8, co8, eo8⟩ := Kd.R_slice HO.out; subst eo8) | ((with_reducible refine gate_builtin (b := .append) (xs := #[.tmp 5, .tmp 6]) rfl ?_); at_builtin; refine Kd.R_append_rows (Kd.int .u8) (w0 := w) w.heap.size rfl (.tmp 5) (.tmp 6) 29 5 (.int .u8 0) 1 rfl Try.underlying29 info5 rfl (by decide) (by omega) (.slice Ao8 ([] : List Int).length co8) ([] : List Int) l0 _ _ _ (fun _ => True) (fun _ => False) rfl rfl HO.out HR.out (fun _ _ h => h) (fun _ h => h.elim) (fun _ _ => trivial) HB.out (below_size HB.out) (by have := HL.out; simp only [List.length_nil]; omega) ?_; intro v112 w7 ho hb hg hat; clear hg hat; rw [List.nil_append] at ho; have n0_ := Aside0.mk ho; have n1_ := Aside0.mk hb; clear HO HB HR; have HO := n0_; have HB := n1_; clear n0_ n1_ ho hb))
   go_ret
   exact ⟨_, rfl, HO.out, HB.out⟩
 ·
  rw [if_neg hl] at h
  exact absurd h (by simp)

end Go.Proofs.Ytfhcolhiolgikaa.T
