import Derived.Test.YtkdbfeapfcflmaaPD
import Derived.Test.YtkdbfeapfcflmaaTx10
/- The plain law BestOrder. -/
namespace Go.Proofs.Ytkdbfeapfcflmaa.Plain
set_option linter.unusedVariables false
set_option linter.unusedSimpArgs false
open Go.RowKit Go.Proofs.Ytkdbfeapfcflmaa.T Go.Proofs.YtkdbfeapfcflmaaW.PrintWords Go.Proofs.YtkdbfeapfcflmaaW.PrintLast
theorem BestOrder (a : S27) (ha : HitG a) (b : S27) (hb : HitG b) (c : S27) (hc : HitG c) :
    ∃ k, catchwordlaw20_BestOrder.f k a.f0 a.f1 a.f2.f0 a.f2.f1 b.f0 b.f1 b.f2.f0 b.f2.f1 c.f0 c.f1 c.f2.f0 c.f2.f1 = some true := by
  obtain ⟨k0, hk0⟩ := kd_four
  have q0 := kd_kb (kd_0 hk0)
  have q1 := kd_kb (kd_s (kd_0 hk0))
  have q2 := kd_kb (kd_s (kd_s (kd_0 hk0)))
  have q3 := kd_kb (kd_s (kd_s (kd_s (kd_0 hk0))))
  refine ⟨k0 + 1 + 1 + 1, ?_⟩
  have hall : ∀ x ∈ [a, b, c], HitG x := by
    intro x hx
    simp only [List.mem_cons, List.not_mem_nil, or_false] at hx
    rcases hx with rfl | rfl | rfl <;> assumption
  unfold catchwordlaw20_BestOrder.f catchwordlaw20_awake.f
  rw [Option.bind_some, if_pos rfl]
  show ((best_May.f (k0 + 1 + 1 + 1) [a, b, c]).bind _) = _
  rw [bmay_eq _ _ q3 hall, Option.bind_some]
  cases hm : mayB [a, b, c] with
  | false => rw [catchwordlaw20_BestOrder.j0]; simp
  | true =>
    have hg := may_good hall hm
    have oa := ahead_order hg
    have os := sooner_order hg.2 (fun x y hx hy hne => good_id hg hx hy hne)
    have ma : a ∈ [a, b, c] := by simp
    have mb : b ∈ [a, b, c] := by simp
    have mc : c ∈ [a, b, c] := by simp
    have hnd := good_nodup hg
    have hab : a ≠ b := by simp at hnd; exact fun e => hnd.1.1 e
    have e1 : (aheadB a b != aheadB b a) = true := by
      rcases oa.tot a b ma mb hab with h | h
      · rw [h, oa.asymm ma mb h]; rfl
      · rw [h, oa.asymm mb ma h]; rfl
    have e2 : (soonerB a b != soonerB b a) = true := by
      rcases os.tot a b ma mb hab with h | h
      · rw [h, os.asymm ma mb h]; rfl
      · rw [h, os.asymm mb ma h]; rfl
    rw [catchwordlaw20_BestOrder.j0, if_neg (by simp)]
    simp only [ahead_eq _ a b (hit_u ha) (hit_u hb) q2, ahead_eq _ b a (hit_u hb) (hit_u ha) q2, sooner_eq, Option.bind_some]
    rw [if_pos e1, e2, catchwordlaw20_BestOrder.j1]
    simp only [ahead_eq _ a b (hit_u ha) (hit_u hb) q1, ahead_eq _ b c (hit_u hb) (hit_u hc) q1, ahead_eq _ a c (hit_u ha) (hit_u hc) q1, Option.bind_some]
    have j2 : catchwordlaw20_BestOrder.j2 (k0 + 1) true true a.f0 a.f1 a.f2.f0 a.f2.f1 b.f0 b.f1 b.f2.f0 b.f2.f1 c.f0 c.f1 c.f2.f0 c.f2.f1 = some true := by
      rw [catchwordlaw20_BestOrder.j2]
      simp only [sooner_eq, ahead_eq _ a a (hit_u ha) (hit_u ha) q0, Option.bind_some, oa.irr a ma, os.irr a ma]
      cases s1 : soonerB a b with
      | false => simp
      | true =>
        cases s2 : soonerB b c with
        | false => simp
        | true => rw [os.tr a b c ma mb mc s1 s2]; simp
    cases s1 : aheadB a b with
    | false => rw [if_neg (by simp)]; exact j2
    | true =>
      rw [if_pos rfl]
      cases s2 : aheadB b c with
      | false => rw [if_neg (by simp)]; exact j2
      | true => rw [if_pos rfl, oa.tr a b c ma mb mc s1 s2]; exact j2

end Go.Proofs.Ytkdbfeapfcflmaa.Plain
