import Derived.Test.YtaldbabkdoabkaaQA
import Derived.Test.YtaldbabkdoabkaaQXDoes
import Derived.Test.YtaldbabkdoabkaaP0
import Derived.Test.YtaldbabkdoabkaaP1
/- Plain facts for Disk. -/
namespace Go.Proofs.Ytaldbabkdoabkaa.Plain
set_option linter.unusedVariables false
set_option linter.unusedSimpArgs false
open Go.RowKit Go.Proofs.Ytaldbabkdoabkaa.T Go.Proofs.YtaldbabkdoabkaaW.PrintWords Go.Proofs.YtaldbabkdoabkaaW.PrintLast
theorem DiskDoes (cap : Int) (l : List S48) (kind : Int) (a b : ByteArray) (dat : List Int) : ∃ k, catchwordlaw03_DiskDoes.f k cap l kind a b dat = some true := by
  refine ⟨KS + 1, ?_⟩
  unfold catchwordlaw03_DiskDoes.f
  rw [awake_eq, few_eq cap l (KS + 1) (Nat.le_succ _), fewO_eq]
  simp only [Option.bind_some, if_true]
  cases hf : fewB l with
  | false => rw [if_neg (by simp), catchwordlaw03_DiskDoes.j0, if_pos rfl]
  | true =>
    rw [if_pos rfl, catchwordlaw03_DiskDoes.j0]
    cases ho : fewO a b dat with
    | false => rfl
    | true =>
      rw [if_neg (by simp)]
      obtain ⟨ha, hb, hd⟩ := fewO_sizes ho
      obtain ⟨h70, hx⟩ := few_sm hf
      have hs := sm_of_few hf
      have hq := doQ_small cap l kind a b dat (fun x hxx => hx x hxx) ho
      have hsq : Sm (doQ cap l kind a b dat).1 := sm_okf (by omega) hq.2
      rw [do_eq cap l kind a b dat hs (by omega) (by omega) KS (Nat.le_refl _), Option.bind_some, rdo_eq cap l kind a b dat hs (by omega) (by omega) (by omega) KS (Nat.le_refl _), Option.bind_some, ← doQ_refQ]
      simp only
      rw [rsame_eq _ _ _ _ hsq KS (Nat.le_refl _)]
      simp
end Go.Proofs.Ytaldbabkdoabkaa.Plain
