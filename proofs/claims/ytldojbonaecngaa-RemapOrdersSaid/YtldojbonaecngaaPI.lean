import Derived.Test.YtldojbonaecngaaPQ
import Derived.Test.YtldojbonaecngaaPF
import Derived.Test.YtldojbonaecngaaTf
import Derived.Test.YtldojbonaecngaaTg
namespace Go.Proofs.Ytldojbonaecngaa.Pure
set_option linter.unusedVariables false
set_option linter.unusedSimpArgs false
open Go.RowKit Go.Proofs.Ytldojbonaecngaa.T Go.Proofs.YtldojbonaecngaaW.PrintWords Go.Proofs.YtldojbonaecngaaW.PrintLast
/-! ### the document's Turn -/
theorem count_take (p : List Int) (i : Nat) (hi : i < p.length) (x : Int) : (p.take (i + 1)).count x = (p.take i).count x + if p[i] = x then 1 else 0 := by
  rw [List.take_succ_eq_append_getElem hi, List.count_append]
  congr 1
  by_cases h : p[i] = x
  · simp [h]
  · simp [h, List.count_singleton]
theorem count_le (p : List Int) (i : Nat) (x : Int) : (p.take i).count x ≤ p.count x := (List.take_sublist i p).count_le x
theorem where_loop (p : List Int) (hl : p.length ≤ 2000) (x : Int) : ∀ d i k (at_ : Int), i + d = p.length → d < k → (at_ = -1 ∧ (p.take i).count x = 0 ∨ ∃ j : Nat, at_ = (j : Int) ∧ ∃ hj : j < p.length, p[j] = x ∧ (p.take i).count x = 1 ∧ j < i) →
    catchwordref10_where.l0 k p x at_ (i : Int) = some (if p.count x = 1 then ((p.idxOf x : Nat) : Int) else -1)
  | d, i, 0, _, _, h, _ => absurd h (by omega)
  | 0, i, k + 1, at_, h, _, hA => by
    have ht : p.take i = p := List.take_of_length_le (by omega)
    rw [catchwordref10_where.l0, if_neg (by omega)]
    rw [ht] at hA
    rcases hA with ⟨h1, h2⟩ | ⟨j, h1, hj, h2, h3, _⟩
    · rw [if_neg (by omega), h1]
    · rw [if_pos h3, h1]
      have hm : p.idxOf x < p.length := List.idxOf_lt_length_iff.2 (by rw [← h2]; exact List.getElem_mem _)
      have hg : p[p.idxOf x] = x := List.getElem_idxOf hm
      -- one occurrence alone
      have he : p.idxOf x = j := by
        apply Classical.byContradiction
        intro hne
        have two : ∀ a b : Nat, a < b → ∀ (ha : a < p.length) (hb : b < p.length), p[a] = x → p[b] = x → 2 ≤ p.count x := fun a b hab ha hb ea eb => by
          have c1 := count_take p b hb x
          have c2 := count_take p a ha x
          rw [if_pos eb] at c1
          rw [if_pos ea] at c2
          have m1 : (p.take (a + 1)).count x ≤ (p.take b).count x := by
            have := (List.take_sublist (a + 1) (p.take b)).count_le x
            rw [List.take_take, Nat.min_eq_left (by omega)] at this
            exact this
          have m2 := count_le p (b + 1) x
          omega
        rcases Nat.lt_or_gt_of_ne hne with hlt | hlt
        · have := two _ _ hlt hm hj hg h2
          omega
        · have := two _ _ hlt hj hm h2 hg
          omega
      rw [he]
  | d + 1, i, k + 1, at_, h, hk, hA => by
    have hi : i < p.length := by omega
    have ct := count_take p i hi x
    rw [catchwordref10_where.l0, if_pos (by omega), if_pos (by omega), rd_nat _ _ hi]
    by_cases c1 : p[i] = x
    · rw [if_pos c1]
      rw [if_pos c1] at ct
      rcases hA with ⟨h1, h2⟩ | ⟨j, h1, hj, h2, h3, h4⟩
      · rw [if_neg (by omega), w1 i (by omega)]
        exact where_loop p hl x d (i + 1) k (i : Int) (by omega) (by omega) (.inr ⟨i, rfl, hi, c1, by omega, by omega⟩)
      · rw [if_pos (by omega), if_neg (by have := count_le p (i + 1) x; omega)]
    · rw [if_neg c1, w1 i (by omega)]
      rw [if_neg c1] at ct
      refine where_loop p hl x d (i + 1) k at_ (by omega) (by omega) ?_
      rcases hA with ⟨h1, h2⟩ | ⟨j, h1, hj, h2, h3, h4⟩
      · exact .inl ⟨h1, by omega⟩
      · exact .inr ⟨j, h1, hj, h2, by omega, by omega⟩
theorem where_eq (k : Nat) (p : List Int) (hl : p.length ≤ 2000) (x : Int) (hk : p.length < k) : catchwordref10_where.f k p x = some (if p.count x = 1 then ((p.idxOf x : Nat) : Int) else -1) :=
  where_loop p hl x p.length 0 k (-1) (by omega) (by omega) (.inl ⟨rfl, by simp⟩)
theorem perm_count (p : List Int) (h : Perm_ p) (j : Nat) (hj : j < p.length) : p.count (j : Int) = 1 := by
  have h1 : 0 < p.count (j : Int) := List.count_pos_iff.2 (perm_mem p h j hj)
  have h2 := List.nodup_iff_count.1 h.2 (j : Int)
  omega
theorem perm_of_counts (p : List Int) (h : ∀ j, j < p.length → p.count (j : Int) = 1) : Perm_ p := by
  have hsub : ∀ x ∈ ((List.range p.length).map fun i : Nat => (i : Int)), x ∈ p := fun x hx => by
    obtain ⟨j, hj, rfl⟩ := List.mem_map.1 hx
    exact List.count_pos_iff.1 (by rw [h j (List.mem_range.1 hj)]; omega)
  have hall : ∀ x ∈ p, 0 ≤ x ∧ x < (p.length : Int) := by
    intro x hx
    apply Classical.byContradiction
    intro hn
    -- x is none of 0 .. n-1: n + 1 different elements of p
    have hnd : (x :: (List.range p.length).map fun i : Nat => (i : Int)).Nodup := by
      refine List.nodup_cons.2 ⟨fun hm => ?_, ?_⟩
      · obtain ⟨j, hj, rfl⟩ := List.mem_map.1 hm
        have := List.mem_range.1 hj
        exact hn ⟨by omega, by omega⟩
      · unfold List.Nodup
        rw [List.pairwise_map]
        exact (List.nodup_range (n := p.length)).imp fun {a b} hab he => hab (by omega)
    have hle := nodup_le _ p hnd (fun y hy => by
      rcases List.mem_cons.1 hy with rfl | hy
      · exact hx
      · exact hsub y hy)
    simp at hle
    omega
  refine ⟨hall, List.nodup_iff_count.2 fun x => ?_⟩
  by_cases hx : x ∈ p
  · obtain ⟨h0, h1⟩ := hall x hx
    obtain ⟨j, rfl⟩ := Int.eq_ofNat_of_zero_le h0
    have := h j (by omega)
    exact Nat.le_of_eq this
  · rw [List.count_eq_zero.2 hx]
    omega
theorem ref_turn_loop (p : List Int) (hl : p.length ≤ 1100) : ∀ d i k, i + d = p.length → d + 1200 < k → (∀ j, j < i → p.count (j : Int) = 1) → catchwordref10_Turn.l0 k p ((turned p).take i) (i : Int) = some (turnOf p)
  | d, i, 0, _, h, _ => absurd h (by omega)
  | 0, i, k + 1, h, _, hc => by
    have hi : i = p.length := by omega
    subst hi
    rw [catchwordref10_Turn.l0, if_neg (by omega), turnOf_perm p (perm_of_counts p hc) hl, List.take_of_length_le (by rw [turned_length]; omega)]
  | d + 1, i, k + 1, h, hk, hc => by
    have hi : i < p.length := by omega
    rw [catchwordref10_Turn.l0, if_pos (by omega), where_eq k p (by omega) _ (by omega), Option.bind_some]
    by_cases c1 : p.count (i : Int) = 1
    · have e1 : (turned p).take i ++ [((p.idxOf (i : Int) : Nat) : Int)] = (turned p).take (i + 1) := by
        rw [List.take_succ_eq_append_getElem (by rw [turned_length]; omega), turned_get]
        rfl
      rw [if_pos c1, if_neg (by omega), if_pos (by rw [List.length_take]; omega), e1, w1 i (by omega)]
      exact ref_turn_loop p hl d (i + 1) k (by omega) (by omega) (fun j hj => by
        by_cases he : j = i
        · rw [he]; exact c1
        · exact hc j (by omega))
    · rw [if_neg c1, if_pos (by omega), turnOf, if_neg (fun h => c1 (perm_count p h.2 i hi))]
theorem ref_turn_eq (k : Nat) (p : List Int) (hk : 2500 < k) : catchwordref10_Turn.f k p = some (turnOf p) := by
  unfold catchwordref10_Turn.f
  by_cases h : (p.length : Int) > 1100
  · rw [if_pos h, turnOf, if_neg (by omega)]
  · rw [if_neg h]
    have h2 := ref_turn_loop p (by omega) p.length 0 k (by omega) (by omega) (fun j hj => by omega)
    simpa using h2
theorem turnOf_length (p : List Int) : (turnOf p).length ≤ 1100 := by
  unfold turnOf
  by_cases h : p.length ≤ 1100 ∧ Perm_ p
  · rw [if_pos h, turned_length]
    exact h.1
  · rw [if_neg h]
    simp
theorem order_val (keys : List Int) (ids : List ByteArray) : ∃ r, remap_Order.f keys ids = some r ∧ r.length ≤ 1100 := by
  unfold remap_Order.f
  by_cases h : keys.length = ids.length ∧ keys.length ≤ 1100
  · rw [if_pos h]
    refine ⟨_, rfl, ?_⟩
    rw [orderOf_eq, List.length_map, insN_length]
    exact h.2
  · rw [if_neg h]
    exact ⟨_, rfl, by simp⟩
theorem RemapOrders (l0 : List Int) (m0 : l0.length ≤ 9223372036854775807) (l1 : List ByteArray) (m1 : l1.length ≤ 9223372036854775807) (z1 : ∀ s ∈ l1, s.size ≤ 9223372036854775807) (l2 : List Int) (m2 : l2.length ≤ 9223372036854775807) : ∃ k, catchwordlaw10_RemapOrders.f k l0 l1 l2 = some true := by
  refine ⟨1300002, ?_⟩
  obtain ⟨b, hb, hb2⟩ := names_eq 1300002 l1 (by omega)
  unfold catchwordlaw10_RemapOrders.f
  generalize hK : (1300001 : Nat) = K
  have hK2 : 1300001 ≤ K := by omega
  rw [show (1300002 : Nat) = K + 1 by omega] at hb ⊢
  rw [awake_eq _ (by omega), Option.bind_some, hb, Option.bind_some, if_pos rfl]
  cases b with
  | false => rw [if_neg (by decide), catchwordlaw10_RemapOrders.j0, if_pos rfl]
  | true =>
    obtain ⟨g1, g2⟩ := hb2 rfl
    rw [if_pos rfl]
    by_cases h1 : (l0.length : Int) > 1200
    · rw [if_pos h1, catchwordlaw10_RemapOrders.j0, if_pos rfl]
    · rw [if_neg h1]
      by_cases h2 : (l2.length : Int) > 1200
      · rw [decide_eq_true h2, catchwordlaw10_RemapOrders.j0, if_pos rfl]
      · obtain ⟨r, hr, hrl⟩ := order_val l0 l1
        have hl := turnOf_length l2
        rw [decide_eq_false h2, catchwordlaw10_RemapOrders.j0, if_neg (by decide), order_eq _ _ _ g2 (by omega), hr, Option.bind_some, Option.bind_some, ints_eq _ _ _ (by omega) (by omega), Option.bind_some,
          turn_eq _ _ (by omega), Option.bind_some, ref_turn_eq _ _ (by omega), Option.bind_some, ints_eq _ _ _ (by omega) (by omega), Option.bind_some]
        simp
end Go.Proofs.Ytldojbonaecngaa.Pure
