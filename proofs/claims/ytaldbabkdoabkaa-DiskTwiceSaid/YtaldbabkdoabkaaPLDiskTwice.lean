import Derived.Test.YtaldbabkdoabkaaQA
import Derived.Test.YtaldbabkdoabkaaQH
import Derived.Test.YtaldbabkdoabkaaQJ
import Derived.Test.YtaldbabkdoabkaaQXTwice
import Derived.Test.YtaldbabkdoabkaaP0
/- Plain facts for Disk. -/
namespace Go.Proofs.Ytaldbabkdoabkaa.Plain
set_option linter.unusedVariables false
set_option linter.unusedSimpArgs false
open Go.RowKit Go.Proofs.Ytaldbabkdoabkaa.T Go.Proofs.YtaldbabkdoabkaaW.PrintWords Go.Proofs.YtaldbabkdoabkaaW.PrintLast
theorem twice_l0 (cap : Int) (l m : List S48) (q : List Int) (hs : Sm l) (hsm : Sm m) (hm : mayB cap l = true) (hmm : mayB cap m = true) (hsure : ∀ x ∈ m, x.f2 = true) (hin : ∀ x ∈ m, isX x.f0 l = true) (hu : usedN m ≤ usedN l) :
    ∀ (d i k : Nat), m.length - i = d → i ≤ m.length → KS + d < k → catchwordlaw03_DiskTwice.l0 k q (i : Int) cap l cap m = some true := by
  intro d
  induction d with
  | zero =>
    intro i k hd hi hk
    obtain ⟨k, rfl⟩ : ∃ j, k = j + 1 := ⟨k - 1, by omega⟩
    have hk' : KS ≤ k := by omega
    rw [catchwordlaw03_DiskTwice.l0, if_neg (by omega), dmay_eq cap m hsm k hk', hmm, Option.bind_some, if_pos rfl, crash_eq cap m q hsm k hk', Option.bind_some]
    have hc : crashQ cap m q = m := by unfold crashQ; rw [if_pos hmm]; exact crashL_sure m q hsure
    simp only
    rw [hc, dsame_eq _ _ _ _ hsm k hk', dUsed_eq cap m hsm k hk', dUsed_eq cap l hs k hk', if_pos hm, if_pos hmm]
    have : (usedN m : Int) ≤ (usedN l : Int) := by omega
    simp [this]
  | succ d ih =>
    intro i k hd hi hk
    have h200 := hsm.1
    obtain ⟨k, rfl⟩ : ∃ j, k = j + 1 := ⟨k - 1, by omega⟩
    have hk' : KS ≤ k := by omega
    have hlt : i < m.length := by omega
    have hmem : rd_T48 m (i : Int) ∈ m := by rw [rd48 m i hlt]; exact List.getElem_mem hlt
    rw [catchwordlaw03_DiskTwice.l0, if_pos (by omega), if_pos (by omega), if_pos (hsure _ hmem), dfind_eq cap l _ hs (hsm.2 _ hmem).2 k hk', if_pos hm, Option.bind_some]
    have hf : findI l (rd_T48 m (i : Int)).f0 = (posX (rd_T48 m (i : Int)).f0 l : Int) := by unfold findI; rw [if_pos (hin _ hmem)]
    rw [hf, if_neg (by omega), w64 i (by omega), ih (i + 1) k (by omega) (by omega) (by omega)]
theorem DiskTwice (cap : Int) (l : List S48) (p q : List Int) : ∃ k, catchwordlaw03_DiskTwice.f k cap l p q = some true := by
  refine ⟨KS + 300, ?_⟩
  have hk1 : KS ≤ KS + 300 := Nat.le_add_right _ _
  have hk2 : KS ≤ KS + 299 := Nat.le_add_right _ _
  unfold catchwordlaw03_DiskTwice.f
  rw [awake_eq, few_eq cap l _ hk1]
  simp only [Option.bind_some, if_true]
  have hj : ∀ (b : Bool), b = true → catchwordlaw03_DiskTwice.j0 (KS + 300) p q true b cap l = some true := fun b hb => by
    subst hb
    rw [catchwordlaw03_DiskTwice.j0, if_pos rfl]
  cases hf : fewB l with
  | false => rw [if_neg (by simp)]; exact hj true rfl
  | true =>
    have hs := sm_of_few hf
    rw [if_pos rfl, dmay_eq cap l hs _ hk1, Option.bind_some]
    cases hm : mayB cap l with
    | false => rw [if_neg (by simp)]; exact hj true rfl
    | true =>
      rw [if_pos rfl]
      split
      · exact hj true rfl
      · cases hb : decide ((q.length : Int) > 100) with
        | true => exact hj true rfl
        | false =>
          obtain ⟨h70, hx⟩ := few_sm hf
          rw [catchwordlaw03_DiskTwice.j0, if_neg (by simp), crash_eq cap l p hs _ hk2, Option.bind_some]
          have hc : crashQ cap l p = crashL l p := by unfold crashQ; rw [if_pos hm]
          simp only
          rw [hc]
          obtain ⟨g1, g2⟩ := crashL_small l p (fun x hxx => hx x hxx)
          have hsm : Sm (crashL l p) := sm_okf (by omega) g2
          have := twice_l0 cap l (crashL l p) q hs hsm hm (crashL_may p hm) (crashL_facts l p).2.1 (fun x hx => crashL_isX p hx) (crashL_facts l p).2.2 (crashL l p).length 0 (KS + 299) (by omega) (by omega) (by have := hsm.1; omega)
          simpa using this
end Go.Proofs.Ytaldbabkdoabkaa.Plain
