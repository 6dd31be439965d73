import Derived.Test.YtldojbonaecngaaTx1
import Derived.Test.YtldojbonaecngaaTa
import Derived.Test.YtldojbonaecngaaTb
import Derived.Test.YtldojbonaecngaaHd
namespace Go.Proofs.Ytldojbonaecngaa.Pure
open Go.RowKit Go.Proofs.Ytldojbonaecngaa.T Go.Proofs.YtldojbonaecngaaW.PrintWords Go.Proofs.YtldojbonaecngaaW.PrintLast
theorem w1 (i : Nat) (h : i < 9223372036854775807) : wrap64 ((i : Int) + 1) = ((i + 1 : Nat) : Int) := by
  unfold wrap64
  omega
theorem rd_nat (l : List Int) (i : Nat) (h : i < l.length) : rd l (i : Int) = l[i] := by
  simp [rd, List.getD_eq_getElem?_getD, h]
theorem rdOf_nat {α : Type} (d : α) (l : List α) (i : Nat) (h : i < l.length) : rdOf d l (i : Int) = l[i] := by
  simp [rdOf, List.getD_eq_getElem?_getD, h]
/-! ### Ints, Bools -/
theorem ints_loop (a b : List Int) (hl : a.length = b.length) (hb : a.length < 9223372036854775807) : ∀ d i k, i + d = a.length → d < k → catchwordref01_Ints.l0 k a b (i : Int) = some (decide (a.drop i = b.drop i))
  | d, i, 0, _, h => absurd h (by omega)
  | 0, i, k + 1, h, _ => by
    rw [catchwordref01_Ints.l0, if_neg (by omega), List.drop_eq_nil_of_le (by omega), List.drop_eq_nil_of_le (by omega)]
    rfl
  | d + 1, i, k + 1, h, hk => by
    rw [catchwordref01_Ints.l0, if_pos (by omega), if_pos (by omega), if_pos (by omega), rd_nat _ _ (by omega), rd_nat _ _ (by omega), List.drop_eq_getElem_cons (by omega : i < a.length), List.drop_eq_getElem_cons (by omega : i < b.length), w1 i (by omega)]
    by_cases he : a[i] = b[i]
    · rw [if_pos he, ints_loop a b hl hb d (i + 1) k (by omega) (by omega), he]
      simp only [List.cons.injEq, true_and]
    · rw [if_neg he]
      simp only [List.cons.injEq, he, false_and, decide_false]
theorem ints_eq (k : Nat) (a b : List Int) (hb : a.length < 9223372036854775807) (hk : a.length < k) : catchwordref01_Ints.f k a b = some (decide (a = b)) := by
  unfold catchwordref01_Ints.f
  by_cases h : a.length = b.length
  · rw [if_pos (by omega)]
    exact ints_loop a b h hb a.length 0 k (by omega) (by omega)
  · rw [if_neg (by omega)]
    have : a ≠ b := fun he => h (by rw [he])
    simp [this]
theorem bools_loop (a b : List Bool) (hl : a.length = b.length) (hb : a.length < 9223372036854775807) : ∀ d i k, i + d = a.length → d < k → catchwordref04_Bools.l0 k a b (i : Int) = some (decide (a.drop i = b.drop i))
  | d, i, 0, _, h => absurd h (by omega)
  | 0, i, k + 1, h, _ => by
    rw [catchwordref04_Bools.l0, if_neg (by omega), List.drop_eq_nil_of_le (by omega), List.drop_eq_nil_of_le (by omega)]
    rfl
  | d + 1, i, k + 1, h, hk => by
    rw [catchwordref04_Bools.l0, if_pos (by omega), if_pos (by omega), if_pos (by omega), rdOf_nat _ _ _ (by omega), rdOf_nat _ _ _ (by omega), List.drop_eq_getElem_cons (by omega : i < a.length), List.drop_eq_getElem_cons (by omega : i < b.length), w1 i (by omega)]
    by_cases he : a[i] = b[i]
    · rw [if_neg (by simp [he]), bools_loop a b hl hb d (i + 1) k (by omega) (by omega), he]
      simp only [List.cons.injEq, true_and]
    · rw [if_pos (by simpa using he)]
      simp only [List.cons.injEq, he, false_and, decide_false]
theorem bools_eq (k : Nat) (a b : List Bool) (hb : a.length < 9223372036854775807) (hk : a.length < k) : catchwordref04_Bools.f k a b = some (decide (a = b)) := by
  unfold catchwordref04_Bools.f
  by_cases h : a.length = b.length
  · rw [if_pos (by omega)]
    exact bools_loop a b h hb a.length 0 k (by omega) (by omega)
  · rw [if_neg (by omega)]
    have : a ≠ b := fun he => h (by rw [he])
    simp [this]
/-! ### Table -/
theorem places_length : ∀ (l : List Bool) (n : Int), (places l n).length = l.length
  | [], _ => rfl
  | true :: l, n => by simp [places, places_length l]
  | false :: l, n => by simp [places, places_length l]
theorem ref_table_loop (l : List Bool) (hl : l.length ≤ 64) : ∀ d i k (out : List Int) (m : Nat), i + d = l.length → d < k → out.length ≤ 64 + i → m ≤ 2000 + i → catchwordref10_Table.l0 k l out (m : Int) (i : Int) = some (out ++ places (l.drop i) (m : Int))
  | d, i, 0, _, _, _, h, _, _ => absurd h (by omega)
  | 0, i, k + 1, out, m, h, _, _, _ => by
    rw [catchwordref10_Table.l0, if_neg (by omega), List.drop_eq_nil_of_le (by omega)]
    simp [places]
  | d + 1, i, k + 1, out, m, h, hk, ho, hm => by
    have hi : i < l.length := by omega
    rw [catchwordref10_Table.l0, if_pos (by omega), if_pos (by omega), rdOf_nat _ _ _ hi, List.drop_eq_getElem_cons hi, w1 i (by omega)]
    by_cases he : l[i] = true
    · rw [if_pos he, if_pos (by omega), w1 m (by omega), ref_table_loop l hl d (i + 1) k _ _ (by omega) (by omega) (by simp; omega) (by omega), he]
      simp [places]
    · rw [if_neg he, if_pos (by omega), ref_table_loop l hl d (i + 1) k _ _ (by omega) (by omega) (by simp; omega) (by omega), Bool.eq_false_iff.mpr he]
      simp [places]
theorem ref_table_eq (k : Nat) (l : List Bool) (n : Int) (hk : 80 ≤ k) : catchwordref10_Table.f k l n = remap_Table.f l n := by
  obtain ⟨j, rfl⟩ : ∃ j, k = j + 1 := ⟨k - 1, by omega⟩
  unfold catchwordref10_Table.f remap_Table.f
  by_cases h1 : n < 0
  · rw [if_pos h1, if_neg (by omega), catchwordref10_Table.j0, if_pos rfl]
  · by_cases h2 : n > 1100
    · rw [if_neg h1, if_pos h2, if_neg (by omega), catchwordref10_Table.j0, if_pos rfl]
    · rw [if_neg h1, if_neg h2]
      by_cases h3 : l.length ≤ 64
      · rw [if_pos (by omega), decide_eq_false (by omega), catchwordref10_Table.j0, if_neg (by decide)]
        obtain ⟨m, rfl⟩ := Int.eq_ofNat_of_zero_le (by omega : 0 ≤ n)
        have h := ref_table_loop l h3 l.length 0 j [] m (by omega) (by omega) (by simp) (by omega)
        exact h
      · rw [if_neg (by omega), decide_eq_true (by omega), catchwordref10_Table.j0, if_pos rfl]
/-! ### Then -/
def thenOf (t p : List Int) : List Int := t.map fun x => if 0 ≤ x ∧ x < (p.length : Int) then rd p x else -1
theorem thenOf_cons (x : Int) (r p : List Int) : thenOf (x :: r) p = (if 0 ≤ x ∧ x < (p.length : Int) then rd p x else -1) :: thenOf r p := rfl
theorem thenOf_append (a b p : List Int) : thenOf (a ++ b) p = thenOf a p ++ thenOf b p := List.map_append
theorem ref_then_loop (t p : List Int) (hl : t.length ≤ 2000) : ∀ d i k (out : List Int), i + d = t.length → d < k → out.length ≤ i → catchwordref10_Then.l0 k t p out (i : Int) = some (out ++ thenOf (t.drop i) p)
  | d, i, 0, _, _, h, _ => absurd h (by omega)
  | 0, i, k + 1, out, h, _, _ => by
    rw [catchwordref10_Then.l0, if_neg (by omega), List.drop_eq_nil_of_le (by omega)]
    simp [thenOf]
  | d + 1, i, k + 1, out, h, hk, ho => by
    have hi : i < t.length := by omega
    rw [catchwordref10_Then.l0, if_pos (by omega), if_pos (by omega), rd_nat _ _ hi, List.drop_eq_getElem_cons hi, w1 i (by omega)]
    by_cases h1 : t[i] ≥ 0
    · rw [if_pos h1]
      by_cases h2 : t[i] < (p.length : Int)
      · rw [if_pos h2, if_pos (by omega), if_pos (by omega), ref_then_loop t p hl d (i + 1) k _ (by omega) (by omega) (by simp; omega)]
        rw [thenOf_cons, if_pos ⟨h1, h2⟩, List.append_assoc]
        rfl
      · rw [if_neg h2, if_pos (by omega), ref_then_loop t p hl d (i + 1) k _ (by omega) (by omega) (by simp; omega)]
        rw [thenOf_cons, if_neg (fun h => h2 h.2), List.append_assoc]
        rfl
    · rw [if_neg h1, if_pos (by omega), ref_then_loop t p hl d (i + 1) k _ (by omega) (by omega) (by simp; omega)]
      rw [thenOf_cons, if_neg (fun h => h1 h.1), List.append_assoc]
      rfl
theorem ref_then_eq (k : Nat) (t p : List Int) (hl : t.length ≤ 2000) (hk : t.length < k) : catchwordref10_Then.f k t p = some (thenOf t p) := by
  have h := ref_then_loop t p hl t.length 0 k [] (by omega) (by omega) (by simp)
  unfold catchwordref10_Then.f
  simpa using h
theorem set_mid (a b : List Int) (x y : Int) : (a ++ x :: b).set a.length y = a ++ y :: b := by simp
theorem then_loop (t p : List Int) (hl : t.length ≤ 2000) : ∀ d i k, i + d = t.length → d < k → remap_Then.l0 k p (thenOf (t.take i) p ++ t.drop i) t (t.length : Int) (i : Int) = some (thenOf t p)
  | d, i, 0, _, h => absurd h (by omega)
  | 0, i, k + 1, h, _ => by
    rw [remap_Then.l0, if_neg (by omega), List.drop_eq_nil_of_le (by omega), List.take_of_length_le (by omega), List.append_nil]
  | d + 1, i, k + 1, h, hk => by
    have hi : i < t.length := by omega
    have hlen : (thenOf (t.take i) p).length = i := by simp [thenOf]; omega
    have hset : ∀ y z : Int, (thenOf (t.take i) p ++ z :: t.drop (i + 1)).set i y = thenOf (t.take i) p ++ y :: t.drop (i + 1) := fun y z => by
      have h2 := set_mid (thenOf (t.take i) p) (t.drop (i + 1)) z y
      rwa [hlen] at h2
    have hnext : ∀ y : Int, y = (if 0 ≤ t[i] ∧ t[i] < (p.length : Int) then rd p t[i] else -1) → thenOf (t.take i) p ++ y :: t.drop (i + 1) = thenOf (t.take (i + 1)) p ++ t.drop (i + 1) := fun y hy => by
      rw [List.take_succ_eq_append_getElem hi, thenOf_append, thenOf_cons, ← hy, List.append_assoc]
      rfl
    rw [remap_Then.l0, if_pos (by omega), if_pos (by omega), if_pos (by omega), if_pos (by simp [hlen]; omega), rd_nat _ _ hi, w1 i (by omega), Int.toNat_natCast, List.drop_eq_getElem_cons hi, hset, Option.bind_some]
    by_cases h1 : t[i] ≥ 0
    · rw [if_pos h1]
      by_cases h2 : t[i] < (p.length : Int)
      · rw [if_pos h2, if_pos (by omega), hset, hnext _ (by rw [if_pos ⟨h1, h2⟩])]
        exact then_loop t p hl d (i + 1) k (by omega) (by omega)
      · rw [if_neg h2, hnext _ (by rw [if_neg (fun h => h2 h.2)])]
        exact then_loop t p hl d (i + 1) k (by omega) (by omega)
    · rw [if_neg h1, hnext _ (by rw [if_neg (fun h => h1 h.1)])]
      exact then_loop t p hl d (i + 1) k (by omega) (by omega)
theorem then_eq (k : Nat) (t p : List Int) (hl : t.length ≤ 2000) (hk : t.length < k) : remap_Then.f k t p = some (thenOf t p) := by
  unfold remap_Then.f slices_Clone_int_int.f
  rw [if_pos (by omega), Option.bind_some]
  have h := then_loop t p hl t.length 0 k (by omega) (by omega)
  simpa [thenOf] using h
end Go.Proofs.Ytldojbonaecngaa.Pure
