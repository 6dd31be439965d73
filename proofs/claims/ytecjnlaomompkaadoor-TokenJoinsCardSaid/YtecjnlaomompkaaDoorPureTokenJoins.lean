/- The pure statement of TokenJoins: with a blank between two texts the words are those of both. No conditions but the statement's own. -/
import Derived.Test.YtecjnlaomompkaaDoorTx6
import Derived.Test.YtecjnlaomompkaaDoorPE
namespace Go.Proofs.YtecjnlaomompkaaDoor.Pure
open Go.RowKit Go.Proofs.YtecjnlaomompkaaDoor.T Go.Proofs.YtecjnlaomompkaaDoorW.PrintWords Go.Proofs.YtecjnlaomompkaaDoorW.PrintLast Go.Lib Go.Proofs.YtecjnlaomompkaaDoor.PA Go.Proofs.YtecjnlaomompkaaDoor.PC

theorem TokenJoins : catchwordlaw05_TokenJoins.Pure := by
  intro a b ha hb
  refine ⟨3000, ?_⟩
  have hsa := size_eq a
  have hsb := size_eq b
  have hj : ∀ t, (t = false → a.size + b.size ≤ 239) → catchwordlaw05_TokenJoins.j0 3000 a b true t = some true := by
    intro t ht
    rw [show (3000 : Nat) = 2999 + 1 from rfl, catchwordlaw05_TokenJoins.j0]
    cases t with
    | true => rfl
    | false =>
      have h5 := ht rfl
      have e : ((a ++ (⟨#[32]⟩ : ByteArray)) ++ b).data.toList = a.data.toList ++ 32 :: b.data.toList := by simp
      have e0 : (a ++ (⟨#[32]⟩ : ByteArray)).size = a.size + 1 := by rw [size_eq, size_eq]; simp
      rw [if_neg (by simp), Words_eq 2999 a (by omega), Option.bind_some, Words_eq 2999 b (by omega), Option.bind_some, if_pos (by omega), if_pos (by omega), Words_eq 2999 _ (by omega), Option.bind_some, e]
      have ca := words_count a.data.toList
      have cb := words_count b.data.toList
      have hp : pWords (a.data.toList ++ 32 :: b.data.toList) = if (validD a.data.toList && validD b.data.toList) = true then (if (words a.data.toList ++ words b.data.toList).any (fun w => decide (32 < w.size)) = true then ([], 8) else (words a.data.toList ++ words b.data.toList, 0)) else ([], 7) := by
        unfold pWords
        rw [if_neg (by simp; omega), v_blank, words_join]
      have pa : pWords a.data.toList = if validD a.data.toList = true then (if (words a.data.toList).any (fun w => decide (32 < w.size)) = true then ([], 8) else (words a.data.toList, 0)) else ([], 7) := by
        unfold pWords
        rw [if_neg (by omega)]
      have pb : pWords b.data.toList = if validD b.data.toList = true then (if (words b.data.toList).any (fun w => decide (32 < w.size)) = true then ([], 8) else (words b.data.toList, 0)) else ([], 7) := by
        unfold pWords
        rw [if_neg (by omega)]
      rw [hp, pa, pb, List.any_append]
      generalize words a.data.toList = wa at *
      generalize words b.data.toList = wb at *
      generalize validD a.data.toList = va at *
      generalize validD b.data.toList = vb at *
      generalize wa.any (fun w => decide (32 < w.size)) = la at *
      generalize wb.any (fun w => decide (32 < w.size)) = lb at *
      clear hp pa pb
      cases va <;> cases vb <;> cases la <;> cases lb <;> simp only [Bool.and_true, Bool.and_false, Bool.or_true, Bool.or_false, Bool.false_eq_true, if_true, if_false, Option.bind_some]
      all_goals first
        | rfl
        | (rw [if_pos (by simp; omega), if_pos (by simp; omega), Texts_eq _ _ _ (by simp; omega) (by simp; omega), Option.bind_some, if_pos (by simp)]
           rfl)
  unfold catchwordlaw05_TokenJoins.f
  rw [awake_eq 3000 (by omega), Option.bind_some, if_pos rfl]
  split
  · exact hj _ (by simp)
  · rename_i c
    refine hj _ (fun h => ?_)
    rw [decide_eq_false_iff_not, show wrap64 (239 - (a.size : Int)) = 239 - (a.size : Int) from by unfold wrap64; omega] at h
    omega

end Go.Proofs.YtecjnlaomompkaaDoor.Pure
