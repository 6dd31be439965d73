import Derived.Test.YtkdbfeapfcflmaaPG
import Derived.Test.YtkdbfeapfcflmaaTx6
/- The plain law BestMay. -/
namespace Go.Proofs.Ytkdbfeapfcflmaa.Plain
set_option linter.unusedVariables false
set_option linter.unusedSimpArgs false
open Go.RowKit Go.Proofs.Ytkdbfeapfcflmaa.T Go.Proofs.YtkdbfeapfcflmaaW.PrintWords Go.Proofs.YtkdbfeapfcflmaaW.PrintLast
theorem BestMay (l : List S27) (hl : ∀ x ∈ l, HitG x) (a : S27) (ha : HitG a) (b : S27) (hb : HitG b) :
    ∃ k, catchwordlaw20_BestMay.f k l a.f0 a.f1 a.f2.f0 a.f2.f1 b.f0 b.f1 b.f2.f0 b.f2.f1 = some true := by
  obtain ⟨k, hk⟩ := kd_four
  have hkd : KD ≤ k := kd_0 hk
  have hkd' : KD ≤ k + 1 := kd_s hkd
  refine ⟨k + 1, ?_⟩
  unfold catchwordlaw20_BestMay.f catchwordlaw20_awake.f
  rw [Option.bind_some, few_eq (k + 1) l (Nat.le_trans (by decide) (kd_num hkd')), Option.bind_some, if_pos rfl]
  cases hf : fewB l with
  | false => rw [if_neg (by simp), catchwordlaw20_BestMay.j0, if_pos rfl]
  | true =>
    rw [if_pos rfl]
    by_cases h1 : (a.f0.size : Int) > 40
    · rw [if_pos h1, catchwordlaw20_BestMay.j0, if_pos rfl]
    · rw [if_neg h1]
      by_cases h2 : (b.f0.size : Int) > 40
      · rw [decide_eq_true h2, catchwordlaw20_BestMay.j0, if_pos rfl]
      · have hs := few_small hf
        have s1 : a.f0.size ≤ 40 := by clear hk hkd hkd'; omega
        have s2 : b.f0.size ≤ 40 := by clear hk hkd hkd'; omega
        have hl5 : l.length ≤ 5000 := Nat.le_trans hs.1 (by decide)
        have k9 : 90 ≤ k := Nat.le_trans (by decide) (kd_num hkd)
        rw [decide_eq_false h2, catchwordlaw20_BestMay.j0, if_neg (by simp), bmay_eq k l (kd_kb hkd) hl, refmay_eq k l hl5 hl (kd_may hkd), Option.bind_some, Option.bind_some, if_pos (by simp), ahead_eq k a b (hit_u ha) (hit_u hb) (kd_kb hkd), rahead_eq k a b (hit_u ha) (hit_u hb) s1 s2 (kd_kb hkd), Option.bind_some, Option.bind_some, if_pos (by simp), sooner_eq, rsooner_eq k a b s1 s2 k9, Option.bind_some, Option.bind_some]
        simp

end Go.Proofs.Ytkdbfeapfcflmaa.Plain
