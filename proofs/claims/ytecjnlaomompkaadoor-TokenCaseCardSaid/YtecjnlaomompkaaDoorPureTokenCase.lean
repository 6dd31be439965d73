/- The pure statement of TokenCase: great letters, or small ones, make no other words. No conditions but the statement's own. -/
import Derived.Test.YtecjnlaomompkaaDoorTx7
import Derived.Test.YtecjnlaomompkaaDoorPE
namespace Go.Proofs.YtecjnlaomompkaaDoor.Pure
open Go.RowKit Go.Proofs.YtecjnlaomompkaaDoor.T Go.Proofs.YtecjnlaomompkaaDoorW.PrintWords Go.Proofs.YtecjnlaomompkaaDoorW.PrintLast Go.Lib Go.Proofs.YtecjnlaomompkaaDoor.PA Go.Proofs.YtecjnlaomompkaaDoor.PC

theorem TokenCase : catchwordlaw05_TokenCase.Pure := by
  intro a ha
  refine ⟨4000, ?_⟩
  have hs := size_eq a
  have hloop : ∀ (d i k : Nat), i + d = a.size → a.size ≤ 500 → d + 3000 ≤ k → catchwordlaw05_TokenCase.l0 k a (nm ((a.data.toList.take i).map upB)) (i : Int) = some true := by
    intro d
    induction d with
    | zero =>
      intro i k hi h5 hk
      obtain ⟨k, rfl⟩ : ∃ m, k = m + 1 := ⟨k - 1, by omega⟩
      have hc : (pWords a.data.toList).1.length < 2000 := by
        have := words_count a.data.toList
        unfold pWords
        split
        · simp
        · split
          · split
            · simp
            · dsimp only
              omega
          · simp
      have hw : pWords (a.data.toList.map upB) = pWords a.data.toList := by
        unfold pWords
        rw [List.length_map, v_up _ _ (Nat.le_refl _), words_up]
      rw [catchwordlaw05_TokenCase.l0, if_neg (by omega), List.take_of_length_le (by omega), str_nm, Words_eq k a (by omega), Option.bind_some, Words_eq k _ (by omega), Option.bind_some, mkS_list, hw, Texts_eq _ _ _ (by omega) (by omega), Option.bind_some, if_pos (by simp), if_pos rfl, valid_eq a (by omega), Option.bind_some, valid_eq _ (by rw [mkS_size, List.length_map]; omega), Option.bind_some, mkS_list, v_up _ _ (Nat.le_refl _)]
      simp
    | succ d ih =>
      intro i k hi h5 hk
      obtain ⟨k, rfl⟩ : ∃ m, k = m + 1 := ⟨k - 1, by omega⟩
      have hc : i < a.data.toList.length := by omega
      have hbt : bt a (i : Int) = (a.data.toList[i].toNat : Int) := by rw [bt_list, List.getD_eq_getElem?_getD, List.getElem?_eq_getElem hc]; rfl
      have hx := a.data.toList[i].toNat_lt
      have next : ∀ v : Int, v = ((upB a.data.toList[i]).toNat : Int) → catchwordlaw05_TokenCase.l0 k a (nm ((a.data.toList.take i).map upB) ++ [v]) (wrap64 ((i : Int) + 1)) = some true := by
        intro v hv
        subst hv
        rw [show wrap64 ((i : Int) + 1) = ((i + 1 : Nat) : Int) from by unfold wrap64; omega]
        have := ih (i + 1) k (by omega) h5 (by omega)
        rw [List.take_succ_eq_append_getElem hc, List.map_append, nm_app] at this
        exact this
      have hlen : (nm ((a.data.toList.take i).map upB)).length < 140737488355328 := by
        rw [nm_len, List.length_map, List.length_take]
        omega
      rw [catchwordlaw05_TokenCase.l0, if_pos (by omega), if_pos (by omega), hbt]
      have hu := upB_toNat a.data.toList[i]
      unfold upN at hu
      repeat' split
      all_goals first
        | (refine next _ ?_
           rw [hu]
           split <;> omega)
        | (exfalso; omega)
        | (exfalso; exact absurd hlen ‹_›)
  have hj : ∀ t, (t = false → a.size ≤ 500) → catchwordlaw05_TokenCase.j0 4000 a true t = some true := by
    intro t ht
    rw [show (4000 : Nat) = 3999 + 1 from rfl, catchwordlaw05_TokenCase.j0]
    cases t with
    | true => rfl
    | false =>
      have h5 := ht rfl
      rw [if_neg (by simp)]
      exact hloop a.size 0 3999 (by omega) h5 (by omega)
  unfold catchwordlaw05_TokenCase.f
  rw [awake_eq 4000 (by omega), Option.bind_some, if_pos rfl]
  exact hj _ (fun h => by rw [decide_eq_false_iff_not] at h; omega)

end Go.Proofs.YtecjnlaomompkaaDoor.Pure
