import Derived.Test.YtldojbonaecngaaPB
import Derived.Test.YtldojbonaecngaaTc
namespace Go.Proofs.Ytldojbonaecngaa.Pure
set_option linter.unusedVariables false
set_option linter.unusedSimpArgs false
open Go.RowKit Go.Proofs.Ytldojbonaecngaa.T Go.Proofs.YtldojbonaecngaaW.PrintWords Go.Proofs.YtldojbonaecngaaW.PrintLast
theorem table_val (l : List Bool) (n : Int) : ∃ r, remap_Table.f l n = some r ∧ r.length ≤ 64 := by
  unfold remap_Table.f
  by_cases h : l.length ≤ 64 ∧ 0 ≤ n ∧ n ≤ 1100
  · rw [if_pos h]
    exact ⟨_, rfl, by rw [places_length]; omega⟩
  · rw [if_neg h]
    exact ⟨_, rfl, by simp⟩
theorem RemapTells (l0 : List Bool) (m0 : l0.length ≤ 9223372036854775807) (a1 : Int) (l2 : List Int) (m2 : l2.length ≤ 9223372036854775807) (l3 : List Int) (m3 : l3.length ≤ 9223372036854775807) : ∃ k, catchwordlaw10_RemapTells.f k l0 a1 l2 l3 = some true := by
  refine ⟨1501, ?_⟩
  unfold catchwordlaw10_RemapTells.f
  rw [awake_eq _ (by omega), Option.bind_some, if_pos rfl]
  by_cases h1 : (l0.length : Int) > 100
  · rw [if_pos h1, catchwordlaw10_RemapTells.j0, if_pos rfl]
  · rw [if_neg h1]
    by_cases h2 : (l2.length : Int) > 1200
    · rw [if_pos h2, catchwordlaw10_RemapTells.j0, if_pos rfl]
    · rw [if_neg h2]
      by_cases h3 : (l3.length : Int) > 1200
      · rw [decide_eq_true h3, catchwordlaw10_RemapTells.j0, if_pos rfl]
      · obtain ⟨r, hr, hl⟩ := table_val l0 a1
        rw [decide_eq_false h3, catchwordlaw10_RemapTells.j0, if_neg (by decide), ref_table_eq _ _ _ (by omega), hr, Option.bind_some, Option.bind_some, ints_eq _ _ _ (by omega) (by omega), Option.bind_some,
          then_eq _ _ _ (by omega) (by omega), Option.bind_some, ref_then_eq _ _ _ (by omega) (by omega), Option.bind_some, ints_eq _ _ _ (by simp [thenOf]; omega) (by simp [thenOf]; omega), Option.bind_some]
        simp
end Go.Proofs.Ytldojbonaecngaa.Pure
