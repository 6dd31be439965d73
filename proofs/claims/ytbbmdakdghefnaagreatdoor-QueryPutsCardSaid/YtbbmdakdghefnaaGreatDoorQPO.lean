import Derived.WalkSpells
import Derived.Test.YtbbmdakdghefnaaGreatDoorQPA
/- Texts of this claim, laid together by a program (merge.py): Ci. -/
namespace Go.Proofs.YtbbmdakdghefnaaGreatDoor.T
open Go.RowKit Go.Proofs.YtbbmdakdghefnaaGreatDoorW.PrintWords Go.Proofs.YtbbmdakdghefnaaGreatDoorW.PrintLast Go.Proofs.YtbbmdakdghefnaaGreatDoorW.PrintMore
attribute [local go_sem] max2_int min2_int max_two min_two max_three min_three max_four min_four
set_option linter.unusedVariables false
set_option linter.unusedSimpArgs false
def f67.f (l0 : List Int) : Option (List Int) := if l0.length * 8 ≤ 140737488355328 then some l0 else none
set_option maxHeartbeats 1000000 in
set_option maxRecDepth 100000 in
theorem f67.calls (A0 : Option Addr) (c0 : Nat) (l0 : List Int) (r : List Int) (w : World) (hr0 : Kd.C (Kd.int .i64) w A0 l0.length l0) (hc0 : l0.length ≤ c0) (h : f67.f l0 = some r) :
  Calls Tryz.prog 50 #[.slice A0 l0.length c0] w fun e w' => ∃ v0_ : Value, e = .returned (v0_) ∧ Kd.R (Kd.int .i64) 3 w' w.heap.size (fun _ => True) v0_ r ∧ Below w.heap.size w w' := by
 unfold f67.f at h
 by_cases hl : l0.length * 8 ≤ 140737488355328
 ·
  rw [if_pos hl] at h; obtain rfl := Option.some.inj h; have HR := A_ hr0; have HL := A_ hl; clear h; have hnil : ∀ (w : World) (a : Option Addr) (n c n' c' : Nat), (binOp .eql 42 (.slice a n c) (.slice none n' c')).run Tryz.prog w = .ok (.bool a.isNone) w := fun w a n c n' c' => Lib.run_eql_slice_nil w _ _ a n c n' c' Tryz.underlying42
  cases A0 with
  | none =>
   have hn : l0 = [] := by
    apply List.eq_nil_of_length_eq_zero
    by_cases h0 : l0.length = 0
    · exact h0
    ·
     obtain ⟨ad, he, _⟩ := hr0.2.2 z161_; cases he
   subst hn; clear HR HL hl hr0; go_enter Tryz.func50, Tryz.ntmps50; go_wp2; go_ret; exact ⟨_, rfl, Kd.R_nil _ _ _ _ _, Below.refl _ _⟩
  | some ad =>
   clear hr0 hl; have hB0 := A_ (Below.refl w.heap.size w); go_enter Tryz.func50, Tryz.ntmps50
   go_wp2_with (first | ((with_reducible refine gate_dst (N := 5) rfl ?_); refine Kd.R_lit (Kd.int .i64) w.heap.size 3 ?hg (N := 5) ?hd (xs := ([] : List Int)) (inner := []) (ok := fun _ => True) (okp := fun _ => True) ?hr ?hp (fun _ hk => hk) trivial (Below.refl _ _) (Nat.le_refl _) z219_ ?_; (case hd => rfl); (case hg => rfl); (case hr => exact z107_); (case hp => exact Reps.none _ _); intro v10 w5 ho6 hb hg_ hnew_; clear hg_ hnew_; have n0_ := A_ (Kd.C_below HR.out hb); have n1_ := A_ ho6; have n2_ := A_ hb; clear HR hB0; have HR := n0_; have HO := n1_; have HB := n2_; clear n0_ n1_ n2_ hb ho6; obtain ⟨Ao8, co8, eo8⟩ := Kd.R_slice HO.out; subst eo8) | ((with_reducible refine gate_builtin (b := .append) (xs := #[.tmp 5, .tmp 6]) rfl ?_); at_builtin; refine Kd.R_append_rows (Kd.int .i64) (w0 := w) w.heap.size rfl (.tmp 5) (.tmp 6) 42 3 (.int .i64 0) 8 rfl Tryz.underlying42 info3 rfl z106_ z161_ (.slice Ao8 ([] : List Int).length co8) ([] : List Int) l0 _ _ _ (fun _ => True) (fun _ => False) rfl rfl HO.out HR.out (fun _ _ h => h) (fun _ h => h.elim) (fun _ _ => trivial) HB.out (below_size HB.out) z149_ ?_; intro v11 w7 ho hb hg hat; clear hg hat; rw [List.nil_append] at ho; have n0_ := A_ ho; have n1_ := A_ hb; clear HO HB HR; have HO := n0_; have HB := n1_; clear n0_ n1_ ho hb))
   go_ret; exact ⟨_, rfl, HO.out, HB.out⟩
 ·
  rw [if_neg hl] at h; exact absurd h z219_
end Go.Proofs.YtbbmdakdghefnaaGreatDoor.T
