/- What the printed functions of the reference's package come to, in plain terms. -/
import Derived.Test.YtecjnlaomompkaaDoorPC
namespace Go.Proofs.YtecjnlaomompkaaDoor.PC
open Go.RowKit Go.Proofs.YtecjnlaomompkaaDoor.T Go.Proofs.YtecjnlaomompkaaDoorW.PrintWords Go.Proofs.YtecjnlaomompkaaDoorW.PrintLast Go.Lib Go.Proofs.YtecjnlaomompkaaDoor.PA

theorem bt_list (a : ByteArray) (i : Nat) : bt a (i : Int) = ((a.data.toList.getD i 0).toNat : Int) := by
  unfold bt
  have hs := size_eq a
  split
  · rename_i h
    rw [Int.toNat_natCast] at h
    simp only [Int.toNat_natCast]
    rw [List.getD_eq_getElem?_getD, List.getElem?_eq_getElem (by omega)]
    rfl
  · rename_i h
    rw [Int.toNat_natCast] at h
    rw [List.getD_eq_getElem?_getD, List.getElem?_eq_none (by omega)]
    rfl
theorem getD_drop' (l : List UInt8) (i j : Nat) : (l.drop i).getD j 0 = l.getD (i + j) 0 := by
  simp [List.getD_eq_getElem?_getD]
theorem in_eq (a : ByteArray) (i j : Nat) (hi : i < a.size) (ha : a.size ≤ 140737488351232) (hj : j ≤ 3) (low high : Nat) :
    catchwordref05_in.f a (wrap64 ((i : Int) + (j : Int))) (low : Int) (high : Int) = some (decide (j < (a.data.toList.drop i).length ∧ low ≤ ((a.data.toList.drop i).getD j 0).toNat ∧ ((a.data.toList.drop i).getD j 0).toNat ≤ high)) := by
  have hs := size_eq a
  rw [show wrap64 ((i : Int) + (j : Int)) = ((i + j : Nat) : Int) from by unfold wrap64; omega]
  unfold catchwordref05_in.f
  rw [bt_list, getD_drop', List.length_drop]
  generalize (a.data.toList.getD (i + j) 0).toNat = b
  by_cases h1 : i + j < a.size
  · rw [if_pos (by omega), if_pos (by omega)]
    by_cases h2 : low ≤ b
    · rw [if_pos (by omega)]
      refine congrArg some ?_
      by_cases h3 : b ≤ high
      · rw [decide_eq_true (by omega), decide_eq_true ⟨by omega, h2, h3⟩]
      · rw [decide_eq_false (by omega), decide_eq_false (by omega)]
    · rw [if_neg (by omega), decide_eq_false (by omega)]
  · rw [if_neg (by omega), decide_eq_false (by omega)]
set_option maxHeartbeats 2000000 in
theorem sign_tail (k : Nat) (n b0 b1 b2 b3 : Nat) (h0 : ¬ b0 < 128) (t1 t2 t3 : Bool) (e1 : t1 = decide (1 < n ∧ lo b0 ≤ b1 ∧ b1 ≤ hi b0)) (e2 : t2 = decide (2 < n ∧ 128 ≤ b2 ∧ b2 ≤ 191)) (e3 : t3 = decide (3 < n ∧ 128 ≤ b3 ∧ b3 ≤ 191)) :
    (if (b0 : Int) ≥ 194 then (if (b0 : Int) ≤ 223 then (catchwordref05_Sign.j4 (k + 2) (b0 : Int) t1 t2 t3 t1) else (catchwordref05_Sign.j4 (k + 2) (b0 : Int) t1 t2 t3 false)) else (catchwordref05_Sign.j4 (k + 2) (b0 : Int) t1 t2 t3 false)) = some ((sgN n b0 b1 b2 b3 : Nat) : Int) := by
  have hj5 : ∀ t, t = false → (if t = true then (some (3 : Int)) else (if (b0 : Int) ≥ 240 then (if (b0 : Int) ≤ 244 then (if t1 = true then (if t2 = true then (if t3 = true then (some 4) else (some 0)) else (some 0)) else (some 0)) else (some 0)) else (some 0))) = some (if 240 ≤ b0 ∧ b0 ≤ 244 ∧ t1 = true ∧ t2 = true ∧ t3 = true then 4 else 0) := by
    intro t ht
    subst ht
    rw [if_neg (by simp)]
    repeat' split
    all_goals first
      | rfl
      | (exfalso; omega)
      | (exfalso; simp_all; done)
      | (exfalso; simp_all; omega)
  unfold sgN
  rw [if_neg h0]
  have q2 : (194 ≤ b0 ∧ b0 ≤ 223 ∧ 1 < n ∧ 128 ≤ b1 ∧ b1 ≤ 191) ↔ (194 ≤ b0 ∧ b0 ≤ 223 ∧ t1 = true) := by
    rw [e1, decide_eq_true_eq]
    constructor
    · rintro ⟨p1, p2, p3⟩
      rw [show lo b0 = 128 from by unfold lo; rw [if_neg (by omega), if_neg (by omega)], show hi b0 = 191 from by unfold hi; rw [if_neg (by omega), if_neg (by omega)]]
      exact ⟨p1, p2, p3⟩
    · rintro ⟨p1, p2, p3⟩
      rw [show lo b0 = 128 from by unfold lo; rw [if_neg (by omega), if_neg (by omega)], show hi b0 = 191 from by unfold hi; rw [if_neg (by omega), if_neg (by omega)]] at p3
      exact ⟨p1, p2, p3⟩
  have q3 : (224 ≤ b0 ∧ b0 ≤ 239 ∧ 1 < n ∧ lo b0 ≤ b1 ∧ b1 ≤ hi b0 ∧ 2 < n ∧ 128 ≤ b2 ∧ b2 ≤ 191) ↔ (224 ≤ b0 ∧ b0 ≤ 239 ∧ t1 = true ∧ t2 = true) := by
    rw [e1, e2, decide_eq_true_eq, decide_eq_true_eq]
    omega
  have q4 : (240 ≤ b0 ∧ b0 ≤ 244 ∧ 1 < n ∧ lo b0 ≤ b1 ∧ b1 ≤ hi b0 ∧ 2 < n ∧ 128 ≤ b2 ∧ b2 ≤ 191 ∧ 3 < n ∧ 128 ≤ b3 ∧ b3 ≤ 191) ↔ (240 ≤ b0 ∧ b0 ≤ 244 ∧ t1 = true ∧ t2 = true ∧ t3 = true) := by
    rw [e1, e2, e3, decide_eq_true_eq, decide_eq_true_eq, decide_eq_true_eq]
    omega
  simp only [q2, q3, q4]
  clear q2 q3 q4 e1 e2 e3
  simp only [catchwordref05_Sign.j4, catchwordref05_Sign.j5]
  cases t1 <;> cases t2 <;> cases t3 <;> simp only [Bool.false_eq_true, if_false, if_true, and_false, and_true]
  all_goals
    repeat' split
  all_goals first
    | rfl
    | (exfalso; omega)
theorem Sign_eq (k : Nat) (a : ByteArray) (i : Nat) (hi' : i < a.size) (ha : a.size ≤ 140737488351232) (hk : 6 ≤ k) : catchwordref05_Sign.f k a (i : Int) = some ((sg (a.data.toList.drop i) : Nat) : Int) := by
  obtain ⟨k, rfl⟩ : ∃ m, k = m + 6 := ⟨k - 6, by omega⟩
  unfold catchwordref05_Sign.f
  rw [if_pos (by omega), if_pos (by omega), bt_list]
  have g0 : a.data.toList.getD i 0 = (a.data.toList.drop i).getD 0 0 := by rw [getD_drop']; rfl
  rw [g0]
  have i1 := in_eq a i 1 hi' ha (by omega)
  have i2 := in_eq a i 2 hi' ha (by omega)
  have i3 := in_eq a i 3 hi' ha (by omega)
  unfold sg
  generalize (a.data.toList.drop i).length = n at *
  generalize ((a.data.toList.drop i).getD 0 0).toNat = b0 at *
  generalize ((a.data.toList.drop i).getD 1 0).toNat = b1 at *
  generalize ((a.data.toList.drop i).getD 2 0).toNat = b2 at *
  generalize ((a.data.toList.drop i).getD 3 0).toNat = b3 at *
  by_cases h0 : b0 < 128
  · rw [if_pos (by omega)]
    unfold sgN
    rw [if_pos h0]
    rfl
  · rw [if_neg (by omega)]
    have h3 : ∀ low high : Int, low = ((lo b0 : Nat) : Int) → high = ((hi b0 : Nat) : Int) → catchwordref05_Sign.j3 (k + 3) a (i : Int) (b0 : Int) low high = some ((sgN n b0 b1 b2 b3 : Nat) : Int) := by
      intro low high e1 e2
      subst e1
      subst e2
      rw [catchwordref05_Sign.j3]
      have i1' := i1 (lo b0) (hi b0)
      have i2' := i2 128 191
      have i3' := i3 128 191
      rw [show ((1 : Nat) : Int) = 1 from rfl] at i1'
      rw [show ((2 : Nat) : Int) = 2 from rfl, show ((128 : Nat) : Int) = 128 from rfl, show ((191 : Nat) : Int) = 191 from rfl] at i2'
      rw [show ((3 : Nat) : Int) = 3 from rfl, show ((128 : Nat) : Int) = 128 from rfl, show ((191 : Nat) : Int) = 191 from rfl] at i3'
      rw [i1', i2', i3', Option.bind_some, Option.bind_some, Option.bind_some]
      exact sign_tail k n b0 b1 b2 b3 h0 _ _ _ rfl rfl rfl
    simp only [catchwordref05_Sign.j0, catchwordref05_Sign.j1, catchwordref05_Sign.j2]
    repeat' split
    all_goals first
      | (exfalso; omega)
      | (refine h3 _ _ ?_ ?_
         · unfold lo
           (repeat' split) <;> omega
         · unfold hi
           (repeat' split) <;> omega)
theorem Valid_ref (a : ByteArray) (ha : a.size ≤ 140737488351232) : ∀ (d i k : Nat), i + d = a.size → d + 8 ≤ k → catchwordref05_Valid.l0 k a (i : Int) = some (validD (a.data.toList.drop i)) := by
  intro d
  induction d using Nat.strongRecOn with
  | _ d ih =>
  intro i k h hk
  obtain ⟨k, rfl⟩ : ∃ m, k = m + 1 := ⟨k - 1, by omega⟩
  have hs := size_eq a
  rw [catchwordref05_Valid.l0]
  by_cases hi : i < a.size
  · rw [if_pos (by omega), Sign_eq k a i hi ha (by omega), Option.bind_some]
    have hne : a.data.toList.drop i ≠ [] := by
      intro e
      have := congrArg List.length e
      rw [List.length_drop, List.length_nil] at this
      omega
    by_cases h0 : sg (a.data.toList.drop i) = 0
    · rw [if_pos (by omega), v_bad hne h0]
    · rw [if_neg (by omega), v_step hne h0, List.drop_drop]
      have hl := (sg_take _ hne h0).1
      have h4 := sg_le (a.data.toList.drop i)
      rw [List.length_drop] at hl
      rw [show wrap64 ((i : Int) + ((sg (a.data.toList.drop i) : Nat) : Int)) = ((i + sg (a.data.toList.drop i) : Nat) : Int) from by unfold wrap64; omega]
      exact ih (d - sg (a.data.toList.drop i)) (by omega) _ k (by omega) (by omega)
  · rw [if_neg (by omega), List.drop_of_length_le (by omega)]
    rfl
theorem Valid_ref_eq (k : Nat) (a : ByteArray) (ha : a.size ≤ 140737488351232) (hk : a.size + 8 ≤ k) : catchwordref05_Valid.f k a = some (validD a.data.toList) := by
  unfold catchwordref05_Valid.f
  have := Valid_ref a ha a.size 0 k (by omega) hk
  rw [List.drop_zero] at this
  exact this
theorem letter_ref (n : Nat) : catchwordref05_letter.f (n : Int) = some (letN n) := by
  have e : (letN n = true) ↔ ((97 ≤ n ∧ n ≤ 122) ∨ (65 ≤ n ∧ n ≤ 90) ∨ (48 ≤ n ∧ n ≤ 57) ∨ 128 ≤ n) := by
    unfold letN
    simp only [Bool.or_eq_true, decide_eq_true_eq]
    omega
  unfold catchwordref05_letter.f
  repeat' split
  all_goals
    refine congrArg some ?_
    rw [Bool.eq_iff_iff, e]
    simp only [decide_eq_true_eq, true_iff]
    omega
end Go.Proofs.YtecjnlaomompkaaDoor.PC
