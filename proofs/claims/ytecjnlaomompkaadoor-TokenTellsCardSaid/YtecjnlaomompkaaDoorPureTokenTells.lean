/- The pure statement of TokenTells: the program's words, validity and terms are the reference's. No conditions but the statement's own. -/
import Derived.Test.YtecjnlaomompkaaDoorTx5
import Derived.Test.YtecjnlaomompkaaDoorPE
namespace Go.Proofs.YtecjnlaomompkaaDoor.Pure
open Go.RowKit Go.Proofs.YtecjnlaomompkaaDoor.T Go.Proofs.YtecjnlaomompkaaDoorW.PrintWords Go.Proofs.YtecjnlaomompkaaDoorW.PrintLast Go.Lib Go.Proofs.YtecjnlaomompkaaDoor.PA Go.Proofs.YtecjnlaomompkaaDoor.PC

theorem TokenTells : catchwordlaw05_TokenTells.Pure := by
  intro a ha
  refine ⟨3000, ?_⟩
  have hj : ∀ t, (t = false → a.size ≤ 500) → catchwordlaw05_TokenTells.j0 3000 a true t = some true := by
    intro t ht
    rw [show (3000 : Nat) = 2999 + 1 from rfl, catchwordlaw05_TokenTells.j0]
    cases t with
    | true => rfl
    | false =>
      have h5 := ht rfl
      have hl := size_eq a
      have hc : (pWords a.data.toList).1.length < 2000 := by
        have := words_count a.data.toList
        unfold pWords
        split
        · simp
        · split
          · split
            · simp
            · dsimp only
              omega
          · simp
      rw [if_neg (by simp), Words_eq 2999 a (by omega), Words_ref_eq 2999 a (by omega), Option.bind_some, Option.bind_some, Texts_eq _ _ _ (by omega) (by omega), Option.bind_some, if_pos (by simp), if_pos rfl, valid_eq a (by omega), Option.bind_some, Valid_ref_eq 2999 a ha (by omega), Option.bind_some, if_pos (by simp), Term_eq 2999 a (by omega), Option.bind_some, Term_ref_eq 2999 a (by omega), Option.bind_some]
      simp
  unfold catchwordlaw05_TokenTells.f
  rw [awake_eq 3000 (by omega), Option.bind_some, if_pos rfl]
  exact hj _ (fun h => by rw [decide_eq_false_iff_not] at h; omega)

end Go.Proofs.YtecjnlaomompkaaDoor.Pure
