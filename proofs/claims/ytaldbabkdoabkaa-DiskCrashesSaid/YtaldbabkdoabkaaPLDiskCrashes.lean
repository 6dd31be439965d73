import Derived.Test.YtaldbabkdoabkaaQA
import Derived.Test.YtaldbabkdoabkaaQXCrashes
import Derived.Test.YtaldbabkdoabkaaP0
import Derived.Test.YtaldbabkdoabkaaP1
/- Plain facts for Disk. -/
namespace Go.Proofs.Ytaldbabkdoabkaa.Plain
set_option linter.unusedVariables false
set_option linter.unusedSimpArgs false
open Go.RowKit Go.Proofs.Ytaldbabkdoabkaa.T Go.Proofs.YtaldbabkdoabkaaW.PrintWords Go.Proofs.YtaldbabkdoabkaaW.PrintLast
theorem DiskCrashes (cap : Int) (l : List S48) (p : List Int) : ∃ k, catchwordlaw03_DiskCrashes.f k cap l p = some true := by
  refine ⟨KS + 1, ?_⟩
  unfold catchwordlaw03_DiskCrashes.f
  rw [awake_eq, few_eq cap l (KS + 1) (Nat.le_succ _)]
  simp only [Option.bind_some, if_true]
  cases hf : fewB l with
  | false => rw [if_neg (by simp), catchwordlaw03_DiskCrashes.j0, if_pos rfl]
  | true =>
    rw [if_pos rfl, catchwordlaw03_DiskCrashes.j0]
    by_cases hp : p.length ≤ 100
    · rw [decide_eq_false (by omega), if_neg (by simp)]
      have hs := sm_of_few hf
      obtain ⟨h70, hx⟩ := few_sm hf
      have hsq : Sm (crashQ cap l p) := by
        unfold crashQ
        split
        · obtain ⟨h1, h2⟩ := crashL_small l p (fun x hxx => hx x hxx)
          exact sm_okf (by omega) h2
        · exact hs
      rw [crash_eq cap l p hs KS (Nat.le_refl _), Option.bind_some, rcrash_eq cap l p hs hp KS (Nat.le_refl _), Option.bind_some, rsame_eq _ _ _ _ hsq KS (Nat.le_refl _)]
      simp
    · rw [decide_eq_true (by omega), if_pos rfl]
end Go.Proofs.Ytaldbabkdoabkaa.Plain
