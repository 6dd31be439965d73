import Derived.Test.YtldojbonaecngaaPF0
import Derived.Test.YtldojbonaecngaaTx6
namespace Go.Proofs.Ytldojbonaecngaa.Pure
set_option linter.unusedVariables false
set_option linter.unusedSimpArgs false
open Go.RowKit Go.Proofs.Ytldojbonaecngaa.T Go.Proofs.YtldojbonaecngaaW.PrintWords Go.Proofs.YtldojbonaecngaaW.PrintLast
/-! ### Below -/
theorem size_list (a : ByteArray) : a.data.toList.length = a.size := by rw [Array.length_toList]; rfl
theorem bt_nat (a : ByteArray) (i : Nat) (h : i < a.data.toList.length) : bt a (i : Int) = ((a.data.toList[i].toNat : Nat) : Int) := by
  have h' : i < a.size := by rw [← size_list]; exact h
  simp [bt, h', ByteArray.getElem_eq_getElem_data]
theorem below_loop (a b : ByteArray) (ha : a.size ≤ 1000) (hb : b.size ≤ 1000) : ∀ d i k, i + d = a.size → i ≤ b.size → 2 * d + 1 < k → catchwordref03_Below.l0 k a b (i : Int) = some (decide (Lib.compareBytes (a.data.toList.drop i) (b.data.toList.drop i) < 0))
  | d, i, 0, _, _, h => absurd h (by omega)
  | d, i, 1, _, _, h => absurd h (by omega)
  | 0, i, k + 2, h, hb2, _ => by
    rw [catchwordref03_Below.l0, if_neg (by omega), catchwordref03_Below.j1, if_neg (by decide), List.drop_eq_nil_of_le (by rw [size_list]; omega)]
    by_cases h2 : i < b.size
    · rw [List.drop_eq_getElem_cons (by rw [size_list]; omega : i < b.data.toList.length), decide_eq_true (by omega)]
      simp [Lib.compareBytes]
    · rw [List.drop_eq_nil_of_le (by rw [size_list]; omega), decide_eq_false (by omega)]
      simp [Lib.compareBytes]
  | d + 1, i, k + 2, h, hb2, hk => by
    have hia : i < a.data.toList.length := by rw [size_list]; omega
    rw [catchwordref03_Below.l0, if_pos (by omega), List.drop_eq_getElem_cons hia]
    by_cases h2 : i < b.size
    · have hib : i < b.data.toList.length := by rw [size_list]; omega
      rw [decide_eq_true (by omega), catchwordref03_Below.j1, if_pos rfl, if_pos (by omega), if_pos (by omega), if_pos (by omega), bt_nat _ _ hia, bt_nat _ _ hib, List.drop_eq_getElem_cons hib, w1 i (by omega), Lib.compareBytes]
      by_cases he : a.data.toList[i] = b.data.toList[i]
      · have hn : ¬ a.data.toList[i] < b.data.toList[i] := by rw [UInt8.lt_iff_toNat_lt, he]; omega
        have hn' : ¬ b.data.toList[i] < a.data.toList[i] := by rw [UInt8.lt_iff_toNat_lt, he]; omega
        rw [if_pos (by rw [he]), if_neg hn, if_neg hn']
        exact below_loop a b ha hb d (i + 1) k (by omega) (by omega) (by omega)
      · have hne : ¬ (a.data.toList[i].toNat : Int) = (b.data.toList[i].toNat : Int) := fun h => he (UInt8.toNat_inj.1 (by omega))
        rw [if_neg hne]
        by_cases hlt : a.data.toList[i] < b.data.toList[i]
        · rw [if_pos hlt]
          rw [UInt8.lt_iff_toNat_lt] at hlt
          rw [decide_eq_true (by omega)]
          rfl
        · have hgt : b.data.toList[i] < a.data.toList[i] := by
            rw [UInt8.lt_iff_toNat_lt] at *
            omega
          rw [if_neg hlt, if_pos hgt]
          rw [UInt8.lt_iff_toNat_lt] at hlt
          rw [decide_eq_false (by omega)]
          rfl
    · rw [decide_eq_false (by omega), catchwordref03_Below.j1, if_neg (by decide), (List.drop_eq_nil_of_le (by rw [size_list]; omega) : b.data.toList.drop i = []), decide_eq_false (by omega)]
      simp [Lib.compareBytes]
theorem below_eq (k : Nat) (a b : ByteArray) (ha : a.size ≤ 40) (hb : b.size ≤ 40) (hk : 90 ≤ k) : catchwordref03_Below.f k a b = some (decide (Lib.compareBytes a.data.toList b.data.toList < 0)) := by
  have h := below_loop a b (by omega) (by omega) a.size 0 k (by omega) (by omega) (by omega)
  exact h
/-! ### the document's Order -/
theorem order_l1 (keys : List Int) (ids : List ByteArray) (n : Nat) (hn : keys.length = n) (hn2 : ids.length = n) (hn3 : n ≤ 1100) (hs : ∀ s ∈ ids, s.size ≤ 40) (i : Nat) (hi : i < n) (S : List Nat) (hS : ∀ x ∈ S, x < i) (hSl : S.length = i) (K : Nat) (hK : 100 ≤ K) (R : List Int)
    (hR : ∀ k, K ≤ k → catchwordref10_Order.l0 k keys ids (castL (insB (ltB keys ids) i S)) ((i + 1 : Nat) : Int) = some R) :
    ∀ d kk k, kk + d = S.length → K + d < k → insB (ltB keys ids) i S = S.take kk ++ insB (ltB keys ids) i (S.drop kk) → catchwordref10_Order.l1 k keys ids (castL S) (i : Int) (castL (S.take kk)) (kk : Int) = some R
  | d, kk, 0, _, h, _ => absurd h (by omega)
  | 0, kk, k + 1, h, hk, hins => by
    have hd : S.drop kk = [] := List.drop_eq_nil_of_le (by omega)
    have ht : S.take kk = S := List.take_of_length_le (by omega)
    rw [catchwordref10_Order.l1, if_neg (by rw [castL_length]; omega), ht, if_pos (by rw [castL_length]; omega), Option.bind_some, if_pos (by omega), if_pos (by rw [castL_length]; omega), Option.bind_some, Int.toNat_natCast, castL_drop, hd,
      if_pos (by simp [castL]; omega), w1 i (by omega)]
    rw [hd, ht] at hins
    have := hR k (by omega)
    rw [hins] at this
    rw [castL_append] at this
    simpa [castL, insB] using this
  | d + 1, kk, k + 1, h, hk, hins => by
    have hkk : kk < S.length := by omega
    have hx : S[kk] < i := hS _ (List.getElem_mem _)
    have hdr : S.drop kk = S[kk] :: S.drop (kk + 1) := List.drop_eq_getElem_cons hkk
    have hidx : rdOf ByteArray.empty ids (i : Int) ∈ ids := by rw [rdOf_nat _ _ _ (by omega)]; exact List.getElem_mem _
    have hidx2 : rdOf ByteArray.empty ids (S[kk] : Int) ∈ ids := by rw [rdOf_nat _ _ _ (by omega)]; exact List.getElem_mem _
    have hlt : ltB keys ids i S[kk] = true ↔ rd keys (i : Int) < rd keys (S[kk] : Int) ∨ rd keys (i : Int) = rd keys (S[kk] : Int) ∧ Lib.compareBytes (rdOf ByteArray.empty ids (i : Int)).data.toList (rdOf ByteArray.empty ids (S[kk] : Int)).data.toList < 0 := by
      rw [ltB_iff]
      unfold ordLess
      constructor
      · rintro (h | ⟨h, h2 | ⟨_, h2⟩⟩)
        · exact .inl h
        · exact .inr ⟨h, h2⟩
        · omega
      · rintro (h | ⟨h, h2⟩)
        · exact .inl h
        · exact .inr ⟨h, .inl h2⟩
    have yes : ltB keys ids i S[kk] = true → (if (castL (S.take kk)).length < 17592186044416 then ((some (castL (S.take kk) ++ [(i : Int)] : List Int)).bind fun y245 => (if (kk : Int) ≤ ((castL S).length : Int) then ((some ((castL S).drop (kk : Int).toNat : List Int)).bind fun y248 => (if y245.length + y248.length < 17592186044416 then (catchwordref10_Order.l0 k keys ids (y245 ++ y248) (wrap64 ((i : Int) + 1))) else (none))) else (none))) else (none)) = some R := by
      intro hl
      rw [if_pos (by rw [castL_length, List.length_take]; omega), Option.bind_some, if_pos (by rw [castL_length]; omega), Option.bind_some, Int.toNat_natCast, castL_drop, if_pos (by simp only [List.length_append, castL_length, List.length_take, List.length_drop, List.length_singleton]; omega), w1 i (by omega)]
      have := hR k (by omega)
      rw [hins, hdr] at this
      unfold insB at this
      rw [if_pos hl, castL_append, ← hdr] at this
      rw [List.append_assoc]
      exact this
    have no : ltB keys ids i S[kk] ≠ true → (if (castL (S.take kk)).length < 17592186044416 then (catchwordref10_Order.l1 k keys ids (castL S) (i : Int) (castL (S.take kk) ++ [(S[kk] : Int)]) (wrap64 ((kk : Int) + 1))) else (none)) = some R := by
      intro hl
      rw [if_pos (by rw [castL_length, List.length_take]; omega), w1 kk (by omega)]
      have e1 : castL (S.take kk) ++ [(S[kk] : Int)] = castL (S.take (kk + 1)) := by
        rw [List.take_succ_eq_append_getElem hkk, castL_append]
        rfl
      rw [e1]
      refine order_l1 keys ids n hn hn2 hn3 hs i hi S hS hSl K hK R hR d (kk + 1) k (by omega) (by omega) ?_
      rw [hins, hdr, List.take_succ_eq_append_getElem hkk, insB, if_neg hl, List.append_assoc]
      rfl
    rw [catchwordref10_Order.l1, if_pos (by rw [castL_length]; omega), if_pos (by omega), if_pos (by omega), if_pos (by omega), rd_cast _ _ hkk, if_pos (by omega), if_pos (by omega)]
    by_cases c1 : rd keys (i : Int) < rd keys (S[kk] : Int)
    · rw [if_pos c1]
      exact yes (hlt.2 (.inl c1))
    · rw [if_neg c1]
      by_cases c2 : rd keys (i : Int) = rd keys (S[kk] : Int)
      · rw [if_pos c2, if_pos (by omega), if_pos (by omega), below_eq _ _ _ (hs _ hidx) (hs _ hidx2) (by omega), Option.bind_some]
        by_cases c3 : Lib.compareBytes (rdOf ByteArray.empty ids (i : Int)).data.toList (rdOf ByteArray.empty ids (S[kk] : Int)).data.toList < 0
        · rw [if_pos (decide_eq_true c3)]
          exact yes (hlt.2 (.inr ⟨c2, c3⟩))
        · rw [if_neg (by rw [decide_eq_false c3]; decide)]
          exact no (fun h => by rcases hlt.1 h with h | h; exact c1 h; exact c3 h.2)
      · rw [if_neg c2]
        exact no (fun h => by rcases hlt.1 h with h | h; exact c1 h; exact c2 h.1)
theorem order_l0 (keys : List Int) (ids : List ByteArray) (n : Nat) (hn : keys.length = n) (hn2 : ids.length = n) (hn3 : n ≤ 1100) (hs : ∀ s ∈ ids, s.size ≤ 40) :
    ∀ d i, i + d = n → ∀ k, (n + 3) * d + 100 < k → catchwordref10_Order.l0 k keys ids (castL (insN (ltB keys ids) i)) (i : Int) = some (castL (insN (ltB keys ids) n))
  | d, i, _, 0, h => absurd h (by omega)
  | 0, i, h, k + 1, _ => by
    rw [catchwordref10_Order.l0, if_neg (by omega)]
    have : i = n := by omega
    rw [this]
  | d + 1, i, h, k + 1, hk => by
    rw [Nat.mul_succ] at hk
    rw [catchwordref10_Order.l0, if_pos (by omega)]
    have h2 := order_l1 keys ids n hn hn2 hn3 hs i (by omega) (insN (ltB keys ids) i) (fun x hx => (insN_mem _ _ _).1 hx) (insN_length _ _) ((n + 3) * d + 101) (by omega) (castL (insN (ltB keys ids) n))
      (fun k' hk' => order_l0 keys ids n hn hn2 hn3 hs d (i + 1) (by omega) k' (by omega)) i 0 k (by rw [insN_length]; omega) (by omega) (by simp)
    exact h2
theorem order_eq (k : Nat) (keys : List Int) (ids : List ByteArray) (hs : ∀ s ∈ ids, s.size ≤ 40) (hk : 1300000 ≤ k) : catchwordref10_Order.f k keys ids = remap_Order.f keys ids := by
  obtain ⟨j, rfl⟩ : ∃ j, k = j + 1 := ⟨k - 1, by omega⟩
  unfold catchwordref10_Order.f remap_Order.f
  by_cases h1 : keys.length = ids.length
  · rw [if_pos (by omega)]
    by_cases h2 : keys.length ≤ 1100
    · rw [if_pos ⟨h1, h2⟩, decide_eq_false (by omega), catchwordref10_Order.j0, if_neg (by decide), orderOf_eq]
      have hb : (keys.length + 3) * keys.length ≤ 1103 * 1100 := Nat.mul_le_mul (by omega) h2
      have h := order_l0 keys ids keys.length rfl h1.symm h2 hs keys.length 0 (by omega) j (by omega)
      exact h
    · rw [if_neg (fun h => h2 h.2), decide_eq_true (by omega), catchwordref10_Order.j0, if_pos rfl]
  · rw [if_neg (by omega), if_neg (fun h => h1 h.1), catchwordref10_Order.j0, if_pos rfl]
end Go.Proofs.Ytldojbonaecngaa.Pure
