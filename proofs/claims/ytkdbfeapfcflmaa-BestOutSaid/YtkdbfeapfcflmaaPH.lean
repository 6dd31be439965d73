import Derived.Test.YtkdbfeapfcflmaaPD
import Derived.Test.YtkdbfeapfcflmaaTx7
import Derived.Test.YtkdbfeapfcflmaaTx12
/- Plain facts for Best: what Best and First tell; Same at like rows. -/
namespace Go.Proofs.Ytkdbfeapfcflmaa.Plain
set_option linter.unusedVariables false
set_option linter.unusedSimpArgs false
open Go.RowKit Go.Proofs.Ytkdbfeapfcflmaa.T Go.Proofs.YtkdbfeapfcflmaaW.PrintWords Go.Proofs.YtkdbfeapfcflmaaW.PrintLast
set_option maxRecDepth 100000 in
theorem best_eq (n : Int) (ls : List (List S27)) (hu : ∀ l ∈ ls, ∀ x ∈ l, HitG x) (htot : ls.flatten.length ≤ 5000) (k : Nat) (hk : KB ≤ k) :
    best_Best.f k n ls = some (ofV aheadB n ls.flatten (mayB ls.flatten)) := by
  have hall : ∀ y ∈ ls.flatten, HitG y := fun y hy => by
    obtain ⟨l, hl, hyl⟩ := List.mem_flatten.1 hy
    exact hu l hl y hyl
  unfold best_Best.f best_of_13.f slices_Concat_Hit.f
  rw [if_pos (by omega), Option.bind_some, bmay_eq k _ hk hall, Option.bind_some]
  cases hm : mayB ls.flatten with
  | false =>
    rw [if_neg (by simp), Option.bind_some]
    unfold ofV
    rw [if_neg (by simp)]
  | true => rw [if_pos rfl, if_pos (goodB_of_may hall hm), Option.bind_some]
set_option maxRecDepth 100000 in
theorem first_eq (n : Int) (ls : List (List S27)) (hu : ∀ l ∈ ls, ∀ x ∈ l, HitG x) (htot : ls.flatten.length ≤ 5000) (k : Nat) (hk : KB ≤ k) :
    best_First.f k n ls = some (ofV soonerB n ls.flatten (mayB ls.flatten)) := by
  have hall : ∀ y ∈ ls.flatten, HitG y := fun y hy => by
    obtain ⟨l, hl, hyl⟩ := List.mem_flatten.1 hy
    exact hu l hl y hyl
  unfold best_First.f best_of_15.f slices_Concat_Hit.f
  rw [if_pos (by omega), Option.bind_some, bmay_eq k _ hk hall, Option.bind_some]
  cases hm : mayB ls.flatten with
  | false =>
    rw [if_neg (by simp), Option.bind_some]
    unfold ofV
    rw [if_neg (by simp)]
  | true => rw [if_pos rfl, if_pos (goodB_of_may hall hm), Option.bind_some]
theorem same_loop (l : List S27) (hl : l.length ≤ 5000) : ∀ d i k, i + d = l.length → d < k → catchwordref20_Same.l0 k l l (i : Int) = some true := by
  intro d
  induction d with
  | zero =>
    intro i k h hk
    obtain ⟨k, rfl⟩ : ∃ m, k = m + 1 := ⟨k - 1, by omega⟩
    rw [catchwordref20_Same.l0, if_neg (by omega)]
  | succ d ih =>
    intro i k h hk
    obtain ⟨k, rfl⟩ : ∃ m, k = m + 1 := ⟨k - 1, by omega⟩
    rw [catchwordref20_Same.l0, if_pos (by omega), if_pos (by omega), if_pos (by omega), if_neg (by simp), w1 i (by omega)]
    exact ih (i + 1) k (by omega) (by omega)
theorem same_refl (l : List S27) (hl : l.length ≤ 5000) (k : Nat) (hk : 5001 ≤ k) : catchwordref20_Same.f k l l = some true := by
  unfold catchwordref20_Same.f
  rw [if_pos rfl]
  exact same_loop l hl l.length 0 k (by omega) (by omega)
theorem ofV_le (lt : S27 → S27 → Bool) (n : Int) (all : List S27) (m : Bool) : (ofV lt n all m).length ≤ all.length := by
  unfold ofV
  split
  · have := (sorted_perm (lt := lt) all).length_eq
    rw [List.length_take]; omega
  · simp
end Go.Proofs.Ytkdbfeapfcflmaa.Plain
