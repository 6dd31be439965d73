import Derived.Test.YtldojbonaecngaaTx1
namespace Go.Proofs.Ytldojbonaecngaa.Pure
open Go.RowKit Go.Proofs.Ytldojbonaecngaa.T Go.Proofs.YtldojbonaecngaaW.PrintWords Go.Proofs.YtldojbonaecngaaW.PrintLast
theorem w1 (i : Nat) (h : i < 9223372036854775807) : wrap64 ((i : Int) + 1) = ((i + 1 : Nat) : Int) := by
  unfold wrap64
  omega
theorem rd_nat (l : List Int) (i : Nat) (h : i < l.length) : rd l (i : Int) = l[i] := by
  simp [rd, List.getD_eq_getElem?_getD, h]
theorem rdOf_nat {α : Type} (d : α) (l : List α) (i : Nat) (h : i < l.length) : rdOf d l (i : Int) = l[i] := by
  simp [rdOf, List.getD_eq_getElem?_getD, h]
/-! ### Ints, Bools -/
theorem ints_loop (a b : List Int) (hl : a.length = b.length) (hb : a.length < 9223372036854775807) : ∀ d i k, i + d = a.length → d < k → catchwordref01_Ints.l0 k a b (i : Int) = some (decide (a.drop i = b.drop i))
  | d, i, 0, _, h => absurd h (by omega)
  | 0, i, k + 1, h, _ => by
    rw [catchwordref01_Ints.l0, if_neg (by omega), List.drop_eq_nil_of_le (by omega), List.drop_eq_nil_of_le (by omega)]
    rfl
  | d + 1, i, k + 1, h, hk => by
    rw [catchwordref01_Ints.l0, if_pos (by omega), if_pos (by omega), if_pos (by omega), rd_nat _ _ (by omega), rd_nat _ _ (by omega), List.drop_eq_getElem_cons (by omega : i < a.length), List.drop_eq_getElem_cons (by omega : i < b.length), w1 i (by omega)]
    by_cases he : a[i] = b[i]
    · rw [if_pos he, ints_loop a b hl hb d (i + 1) k (by omega) (by omega), he]
      simp only [List.cons.injEq, true_and]
    · rw [if_neg he]
      simp only [List.cons.injEq, he, false_and, decide_false]
theorem ints_eq (k : Nat) (a b : List Int) (hb : a.length < 9223372036854775807) (hk : a.length < k) : catchwordref01_Ints.f k a b = some (decide (a = b)) := by
  unfold catchwordref01_Ints.f
  by_cases h : a.length = b.length
  · rw [if_pos (by omega)]
    exact ints_loop a b h hb a.length 0 k (by omega) (by omega)
  · rw [if_neg (by omega)]
    have : a ≠ b := fun he => h (by rw [he])
    simp [this]
theorem bools_loop (a b : List Bool) (hl : a.length = b.length) (hb : a.length < 9223372036854775807) : ∀ d i k, i + d = a.length → d < k → catchwordref04_Bools.l0 k a b (i : Int) = some (decide (a.drop i = b.drop i))
  | d, i, 0, _, h => absurd h (by omega)
  | 0, i, k + 1, h, _ => by
    rw [catchwordref04_Bools.l0, if_neg (by omega), List.drop_eq_nil_of_le (by omega), List.drop_eq_nil_of_le (by omega)]
    rfl
  | d + 1, i, k + 1, h, hk => by
    rw [catchwordref04_Bools.l0, if_pos (by omega), if_pos (by omega), if_pos (by omega), rdOf_nat _ _ _ (by omega), rdOf_nat _ _ _ (by omega), List.drop_eq_getElem_cons (by omega : i < a.length), List.drop_eq_getElem_cons (by omega : i < b.length), w1 i (by omega)]
    by_cases he : a[i] = b[i]
    · rw [if_neg (by simp [he]), bools_loop a b hl hb d (i + 1) k (by omega) (by omega), he]
      simp only [List.cons.injEq, true_and]
    · rw [if_pos (by simpa using he)]
      simp only [List.cons.injEq, he, false_and, decide_false]
theorem bools_eq (k : Nat) (a b : List Bool) (hb : a.length < 9223372036854775807) (hk : a.length < k) : catchwordref04_Bools.f k a b = some (decide (a = b)) := by
  unfold catchwordref04_Bools.f
  by_cases h : a.length = b.length
  · rw [if_pos (by omega)]
    exact bools_loop a b h hb a.length 0 k (by omega) (by omega)
  · rw [if_neg (by omega)]
    have : a ≠ b := fun he => h (by rw [he])
    simp [this]
end Go.Proofs.Ytldojbonaecngaa.Pure
