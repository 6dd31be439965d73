/- The pure statement of TokenFew: there are no more words than half of the bytes, and one. No conditions but the statement's own. -/
import Derived.Test.YtecjnlaomompkaaDoorTx9
import Derived.Test.YtecjnlaomompkaaDoorPE
namespace Go.Proofs.YtecjnlaomompkaaDoor.Pure
open Go.RowKit Go.Proofs.YtecjnlaomompkaaDoor.T Go.Proofs.YtecjnlaomompkaaDoorW.PrintWords Go.Proofs.YtecjnlaomompkaaDoorW.PrintLast Go.Lib Go.Proofs.YtecjnlaomompkaaDoor.PA Go.Proofs.YtecjnlaomompkaaDoor.PC

theorem words_mem_small {l : List UInt8} (h : (words l).any (fun w => decide (32 < w.size)) = false) : ∀ w ∈ words l, 1 ≤ w.size ∧ w.size ≤ 32 := by
  intro w hw
  refine ⟨bw_pos _ _ w hw, ?_⟩
  have := (List.any_eq_false.1 h) w hw
  simpa using this
theorem pWords_small (l : List UInt8) : (∀ w ∈ (pWords l).1, 1 ≤ w.size ∧ w.size ≤ 32) ∧ 2 * (pWords l).1.length ≤ l.length + 1 ∧ (pWords l).1.length ≤ 120 := by
  have hc := words_count l
  unfold pWords
  split
  · exact ⟨by simp, by simp, by simp⟩
  · split
    · split
      · exact ⟨by simp, by simp, by simp⟩
      · rename_i h
        exact ⟨words_mem_small (by simpa using h), by omega, by dsimp only; omega⟩
    · exact ⟨by simp, by simp, by simp⟩
theorem TokenFew : catchwordlaw05_TokenFew.Pure := by
  intro a key t ha hw ht
  refine ⟨3000, ?_⟩
  have hst := size_eq t
  obtain ⟨p1, p2, p3⟩ := pWords_small t.data.toList
  have hloop : ∀ (d i k : Nat), i + d = (pWords t.data.toList).1.length → t.size ≤ 500 → d + 2000 ≤ k → catchwordlaw05_TokenFew.l0 k a key t (pWords t.data.toList).1 (pWords t.data.toList).2 (pCard a key t.data.toList).2.2.2 (i : Int) (pCard a key t.data.toList).1 (pCard a key t.data.toList).2.1 (pCard a key t.data.toList).2.2.1 = some true := by
    intro d
    induction d with
    | zero =>
      intro i k hi h5 hk
      obtain ⟨k, rfl⟩ : ∃ m, k = m + 1 := ⟨k - 1, by omega⟩
      have e1 : wrap64 (2 * ((pWords t.data.toList).1.length : Int)) = 2 * ((pWords t.data.toList).1.length : Int) := by unfold wrap64; omega
      have e2 : wrap64 ((t.size : Int) + 1) = (t.size : Int) + 1 := by unfold wrap64; omega
      rw [catchwordlaw05_TokenFew.l0, if_neg (by omega), e1, e2]
      unfold pCard
      by_cases c1 : a.size < 1 ∨ 16 < a.size ∨ key < 0 ∨ 1073741824 < key
      · rw [if_pos c1, if_neg (by simp), Same_eq k _ _ _ _ _ _ (by simp) (by simp; omega), Option.bind_some, if_pos (by simp), decide_eq_true (by omega)]
      · rw [if_neg c1]
        by_cases c2 : validD a.data.toList = true
        · rw [if_pos c2]
          by_cases c3 : (pWords t.data.toList).2 = 0
          · rw [if_pos c3]
            dsimp only
            rw [if_pos rfl, Texts_eq (pWords t.data.toList).1 (pWords t.data.toList).1 k (by omega) (by omega), Option.bind_some, if_pos (by simp), if_pos c3, if_pos (by omega), if_pos rfl, if_pos rfl, decide_eq_true (by omega)]
          · rw [if_neg c3]
            dsimp only
            rw [if_neg c3, Same_eq k _ _ _ _ _ _ (by simp) (by simp; omega), Option.bind_some, if_pos (by simp), decide_eq_true (by omega)]
        · rw [if_neg c2, if_neg (by simp), Same_eq k _ _ _ _ _ _ (by simp) (by simp; omega), Option.bind_some, if_pos (by simp), decide_eq_true (by omega)]
    | succ d ih =>
      intro i k hi h5 hk
      obtain ⟨k, rfl⟩ : ∃ m, k = m + 1 := ⟨k - 1, by omega⟩
      have hlt : i < (pWords t.data.toList).1.length := by omega
      have hm := p1 _ (List.getElem_mem hlt)
      rw [catchwordlaw05_TokenFew.l0, if_pos (by omega), if_pos (by omega), rd_of hlt, if_neg (by omega), if_neg (by omega), show wrap64 ((i : Int) + 1) = ((i + 1 : Nat) : Int) from by unfold wrap64; omega]
      exact ih (i + 1) k (by omega) h5 (by omega)
  have hj : ∀ c, (c = false → t.size ≤ 500) → catchwordlaw05_TokenFew.j0 3000 a key t true c = some true := by
    intro c hc
    rw [show (3000 : Nat) = 2999 + 1 from rfl, catchwordlaw05_TokenFew.j0]
    cases c with
    | true => rfl
    | false =>
      have h5 := hc rfl
      rw [if_neg (by simp), Words_eq 2999 t (by omega), Option.bind_some, Card_eq 2999 a key t (by omega), Option.bind_some]
      exact hloop (pWords t.data.toList).1.length 0 2999 (by omega) h5 (by omega)
  unfold catchwordlaw05_TokenFew.f
  rw [awake_eq 3000 (by omega), Option.bind_some, if_pos rfl]
  split
  · exact hj _ (by simp)
  · exact hj _ (fun h => by omega)

end Go.Proofs.YtecjnlaomompkaaDoor.Pure
