import Derived.Test.YtfhcolhiolgikaaRows
import Derived.Test.YtfhcolhiolgikaaQTO
import Derived.Test.YtfhcolhiolgikaaQTR
import Derived.WalkKit
import Derived.ProofKit
import Derived.OpenShut
import Derived.ShutString
import Derived.ChangeOld
import Derived.Below
import Derived.SizedLaws
namespace Go.Proofs.Ytfhcolhiolgikaa.packTurned
open Go.ChangeShapes Go.WideShapes Go.ChangeAt Go.RowKit
open Go.ChangeMaps (open_string shut_string)
set_option linter.unusedVariables false
theorem own : ownKnob Try.prog.godebug = none := by kernel_rfl
theorem laidOut : laidOutB Try.prog = true := by kernel_rfl
set_option maxRecDepth 100000 in
set_option maxHeartbeats 2000000 in
theorem lifted (os : Os) (started : os.Started) (H : Type) (enc : TypeId × Value → H) :
    ReturnsInHanded {} Try.checked os 5 .any (Rows.packTurnedSpec.pre6 enc Try.prog Try.f5 Rows.packTurnedRow.domain false) (Rows.packTurnedSpec.post enc Try.prog Try.f5 false true false false) := by
  refine returnsInHanded_of_change_sized (C := Try.checked) own started (by kernel_rfl) Try.func5
    (ChangeSpec.witness6 (enc := enc) (C := Try.checked) false ⟨#[], #[.agg #[.slice none 0 0, .slice none 0 0, .slice none 0 0, .slice none 0 0, .bool false], .int .i64 0, .agg #[.int .u8 0, .int .u8 0, .int .u8 0, .int .u8 0]], []⟩ 8 (by kernel_rfl) (by kernel_rfl) (by kernel_rfl) (by kernel_rfl)) ?_
  intro W base args ds gs before hval0 hW hcnd hsz0 _
  have hval : ∀ (j : Nat) t v, Try.f5.params[j]? = some t → args[j]? = some v → Value.okWide Try.prog W .any base t v := hval0
  have hW' := hW
  obtain ⟨p, q, hA0, hV, rfl, hfz, hnd⟩ := hW
  have hA : DataW.TrodAll enc Try.prog W 0 (fun _ => true) true Try.f5.params.toList args.toList ds p := hA0
  rw [Try.params5] at hA hval
  obtain ⟨v0, vs0, d0, ds0, p0, q0, hargs, rfl, rfl, h0, r0⟩ := trodAll_cons hA
  obtain ⟨v1, vs1, d1, ds1, p1, q1, rfl, rfl, rfl, h1, r1⟩ := trodAll_cons r0
  obtain ⟨v2, vs2, d2, ds2, p2, q2, rfl, rfl, rfl, h2, r2⟩ := trodAll_cons r1
  obtain ⟨rfl, rfl, rfl⟩ := trodAll_nil r2
  obtain rfl : args = #[v0, v1, v2] := by cases args; simp_all
  obtain ⟨rfl, rfl⟩ := trodVars_none hV
  have k0 := h0
  have lt0 : ∀ x ∈ p0, x.block < W.heap.size := by obtain ⟨m, hm⟩ := k0; exact DataW.trod_lt m _ _ _ hm
  have wt0 : ∀ n ∈ d0.weights Try.prog 26, n < 2 ^ 47 := fun n hn => Nat.lt_of_le_of_lt (of_decide_eq_true (List.all_eq_true.1 hsz0 _ (DataW.weights_mem_each (j := 0) rfl rfl n hn))) reachBytes_lt
  obtain ⟨Aa0, ca0, ids0, Ab0, cb0, keys0, Ac0, cc0, lens0, Ad0, cd0, terms0, so0, rfl, xa0, xb0, xc0, xd0, xe0, xf0, xg0, xh0, xi0, xj0, xk0⟩ := Go.Proofs.Ytfhcolhiolgikaa.T.opSegW (hval 0 26 v0 rfl rfl) wt0 h0
  obtain ⟨a1, rfl, rfl, rfl, w1⟩ := open_int Try.underlying3 (hval 1 3 v1 rfl rfl) h1
  have k2 := h2
  have lt2 : ∀ x ∈ p2, x.block < W.heap.size := by obtain ⟨m, hm⟩ := k2; exact DataW.trod_lt m _ _ _ hm
  obtain ⟨ya2, yb2, yc2, yd2, rfl, yy2⟩ := Go.Proofs.Ytfhcolhiolgikaa.T.opArr4 (hval 2 38 v2 rfl rfl) h2
  clear hA0 hval0 hsz0
  refine (Go.Proofs.Ytfhcolhiolgikaa.T.packTurned_calls Aa0 ca0 ids0 Ab0 cb0 keys0 Ac0 cc0 lens0 Ad0 cd0 terms0 so0 a1 ya2 yb2 yc2 yd2 W xa0 xb0 xc0 xd0 xe0 xf0 xg0 xh0 xi0 xj0 xk0 yy2 ).mono fun e W' ⟨he, bel⟩ => ?_
  subst he
  exact ⟨_, rfl, _, _, _, [], _, [], hW', trodAll_mk1 (shut_bool Try.underlying4 _), (trodAll_cons_mk (Below.trod laidOut (by kernel_rfl) (of_decide_eq_true (by kernel_rfl)) k0 bel lt0) (trodAll_cons_mk (shut_int Try.underlying3 w1) (trodAll_cons_mk (Below.trod laidOut (by kernel_rfl) (of_decide_eq_true (by kernel_rfl)) k2 bel lt2) trodAll_mk0))), rfl, bel.frame _, fun h => by cases h⟩
theorem over : Rows.packTurnedRow.holds Try.pinned (OpenSpec.ofChange Rows.packTurnedSpec) :=
  OpenClaim.holds_of_wide 5 Try.f5 rfl rfl rfl rfl rfl rfl rfl ⟨rfl, rfl, rfl, rfl, rfl⟩ rfl rfl rfl rfl rfl (by kernel_rfl) Try.func5 (by kernel_rfl)
    (of_decide_eq_true (by kernel_rfl)) (by unfold Func.isWrapper; first | (rw [if_pos (by decide +kernel)]; kernel_rfl) | (rw [if_neg (by decide +kernel)]; exact ⟨rfl, rfl⟩))
    (fun os started H enc _ => lifted os started H enc)
theorem proved : Rows.PackTurnedSaid := over
#print axioms proved
end Go.Proofs.Ytfhcolhiolgikaa.packTurned
namespace Go.Proofs.Ytfhcolhiolgikaa
/-- The row, under a short name, for the claim. -/
theorem packTurned_holds : Rows.PackTurnedSaid := packTurned.proved
end Go.Proofs.Ytfhcolhiolgikaa
