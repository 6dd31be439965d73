/- The pure statement of TokenCards: the program's card is the reference's. No conditions but the statement's own. -/
import Derived.Test.YtecjnlaomompkaaDoorTx6
import Derived.Test.YtecjnlaomompkaaDoorPE
namespace Go.Proofs.YtecjnlaomompkaaDoor.Pure
open Go.RowKit Go.Proofs.YtecjnlaomompkaaDoor.T Go.Proofs.YtecjnlaomompkaaDoorW.PrintWords Go.Proofs.YtecjnlaomompkaaDoorW.PrintLast Go.Lib Go.Proofs.YtecjnlaomompkaaDoor.PA Go.Proofs.YtecjnlaomompkaaDoor.PC

theorem pWords_len (l : List UInt8) : (pWords l).1.length ≤ 120 := by
  have := words_count l
  unfold pWords
  split
  · simp
  · split
    · split
      · simp
      · dsimp only
        omega
    · simp
theorem TokenCards : catchwordlaw05_TokenCards.Pure := by
  intro a key t ha hw ht
  refine ⟨3000, ?_⟩
  have hj : ∀ c, catchwordlaw05_TokenCards.j0 3000 a key t true c = some true := by
    intro c
    rw [show (3000 : Nat) = 2999 + 1 from rfl, catchwordlaw05_TokenCards.j0]
    cases c with
    | true => rfl
    | false =>
      have hc : (pCard a key t.data.toList).2.2.1.length < 2000 := by
        have := pWords_len t.data.toList
        unfold pCard
        split
        · simp
        · split
          · split
            · dsimp only
              omega
            · simp
          · simp
      rw [if_neg (by simp), Card_eq 2999 a key t (by omega), Card_ref_eq 2999 a key t (by omega), Option.bind_some, Option.bind_some, Same_eq _ _ _ _ _ _ _ (by omega) (by omega), Option.bind_some, if_pos (by simp)]
      simp
  unfold catchwordlaw05_TokenCards.f
  rw [awake_eq 3000 (by omega), Option.bind_some, if_pos rfl]
  split <;> exact hj _

end Go.Proofs.YtecjnlaomompkaaDoor.Pure
