/- The pure statement of TokenValid: two valid texts are so one behind the other, and one cut within a sign is not. No conditions but the statement's own. -/
import Derived.Test.YtecjnlaomompkaaDoorTx8
import Derived.Test.YtecjnlaomompkaaDoorPE
namespace Go.Proofs.YtecjnlaomompkaaDoor.Pure
open Go.RowKit Go.Proofs.YtecjnlaomompkaaDoor.T Go.Proofs.YtecjnlaomompkaaDoorW.PrintWords Go.Proofs.YtecjnlaomompkaaDoorW.PrintLast Go.Lib Go.Proofs.YtecjnlaomompkaaDoor.PA Go.Proofs.YtecjnlaomompkaaDoor.PC

theorem TokenValid : catchwordlaw05_TokenValid.Pure := by
  intro a b cut ha hb hw
  refine ⟨3000, ?_⟩
  have h1 : ∀ (k : Nat) t, validD a.data.toList = true → (t = false → 0 ≤ cut ∧ cut < (a.size : Int)) → catchwordlaw05_TokenValid.j1 (k + 1) a cut t = some true := by
    intro k t hv ht
    rw [catchwordlaw05_TokenValid.j1]
    cases t with
    | true => rfl
    | false =>
      obtain ⟨h0, hlt⟩ := ht rfl
      obtain ⟨c, rfl⟩ := Int.eq_ofNat_of_zero_le h0
      have hs := size_eq a
      have hc : c < a.data.toList.length := by omega
      obtain ⟨v1, v2⟩ := v_cut _ hv c hc
      have hbt : bt a (c : Int) = (a.data.toList[c].toNat : Int) := by rw [bt_list, List.getD_eq_getElem?_getD, List.getElem?_eq_getElem hc]; rfl
      have e1 : (a.extract 0 (c : Int).toNat).data.toList = a.data.toList.take c := by simp
      have e2 : (a.extract (c : Int).toNat a.size).data.toList = a.data.toList.drop c := by
        rw [Int.toNat_natCast]; exact ext_list a c
      have s1 : (a.extract 0 (c : Int).toNat).size ≤ 9223372036854775807 := by rw [size_eq, e1, List.length_take]; omega
      have s2 : (a.extract (c : Int).toNat a.size).size ≤ 9223372036854775807 := by rw [size_eq, e2, List.length_drop]; omega
      rw [if_neg (by simp), if_pos h0, if_pos hlt, hbt]
      rw [valid_eq _ s1, valid_eq _ s2, e1, e2, v1, v2]
      generalize a.data.toList[c].toNat = x at *
      clear v1 v2 hbt e1 e2 s1 s2
      simp only [Option.bind_some]
      by_cases q : 128 ≤ x
      · rw [if_pos (by omega), if_pos (by omega)]
        by_cases q2 : x ≤ 191
        · rw [decide_eq_true (show ((x : Nat) : Int) ≤ 191 by omega), decide_eq_true ⟨q, q2⟩]
          rfl
        · rw [decide_eq_false (show ¬ ((x : Nat) : Int) ≤ 191 by omega), decide_eq_false (by omega)]
          rfl
      · rw [if_neg (by omega), if_pos (by omega), decide_eq_false (by omega)]
        rfl
  have hj : ∀ t, (t = false → a.size ≤ 300 ∧ b.size ≤ 300 ∧ validD a.data.toList = true) → catchwordlaw05_TokenValid.j0 3000 a b cut true t = some true := by
    intro t ht
    rw [show (3000 : Nat) = 2999 + 1 from rfl, catchwordlaw05_TokenValid.j0]
    cases t with
    | true => rfl
    | false =>
      obtain ⟨q1, q2, hv⟩ := ht rfl
      have e : (a ++ b).data.toList = a.data.toList ++ b.data.toList := by simp
      have hs : (a ++ b).size = a.size + b.size := by rw [size_eq, size_eq, size_eq, e, List.length_append]
      rw [if_neg (by simp), if_pos (by omega), valid_eq _ (by omega), Option.bind_some, valid_eq b (by omega), Option.bind_some, e, v_app hv, if_neg (by simp)]
      by_cases c : cut < 0
      · rw [if_pos c, h1 _ _ hv (by simp)]
      · rw [if_neg c, h1 _ _ hv (fun h => by rw [decide_eq_false_iff_not] at h; omega)]
  unfold catchwordlaw05_TokenValid.f
  rw [awake_eq 3000 (by omega), Option.bind_some, if_pos rfl]
  split
  · exact hj _ (by simp)
  · split
    · exact hj _ (by simp)
    · rw [valid_eq a (by omega), Option.bind_some]
      exact hj _ (fun h => ⟨by omega, by omega, by simpa using h⟩)

end Go.Proofs.YtecjnlaomompkaaDoor.Pure
