import Derived.Test.YtldojbonaecngaaPG
import Derived.Test.YtldojbonaecngaaTx8
import Derived.Test.YtldojbonaecngaaTh
import Derived.Test.YtldojbonaecngaaTi
namespace Go.Proofs.Ytldojbonaecngaa.Pure
set_option linter.unusedVariables false
set_option linter.unusedSimpArgs false
open Go.RowKit Go.Proofs.Ytldojbonaecngaa.T Go.Proofs.YtldojbonaecngaaW.PrintWords Go.Proofs.YtldojbonaecngaaW.PrintLast
/-! ### the document's Carry -/
theorem range_drop (n i : Nat) (hi : i < n) : (List.range n).drop i = i :: (List.range n).drop (i + 1) := by
  rw [List.drop_eq_getElem_cons (by simpa using hi), List.getElem_range]
theorem ref_carry_l3 (n : Int) (t : List (List Int)) (was now : List (List Bool)) (i : Nat) (hi : i < t.length) (hw : was.length = t.length) (hn : now.length = t.length) (tab : List Int) (htab : rd_L3 t (i : Int) = tab) (hT : tab.length ≤ 1000) (hw2 : (rd_L2 was (i : Int)).length = tab.length) (hn2 : (rd_L2 now (i : Int)).length = tab.length) (out : List Bool) (x : Int) (b : Bool) (K : Nat) (R : List Bool)
    (hR : ∀ k, K ≤ k → catchwordref10_Carry.l2 k n t was now out x (b && !(died tab (rd_L2 was (i : Int)) (rd_L2 now (i : Int)) tab.length).contains x) (wrap64 ((i : Int) + 1)) = some R) :
    ∀ d j k, j + d = tab.length → K + d < k → catchwordref10_Carry.l3 k n t was now out x (b && !(died tab (rd_L2 was (i : Int)) (rd_L2 now (i : Int)) j).contains x) (i : Int) (j : Int) = some R
  | d, j, 0, _, h => absurd h (by omega)
  | 0, j, k + 1, h, hk => by
    have hj : j = tab.length := by omega
    subst hj
    rw [catchwordref10_Carry.l3, if_pos (by omega), if_pos (by omega), htab, if_neg (by omega)]
    exact hR k (by omega)
  | d + 1, j, k + 1, h, hk => by
    have ih : ∀ o, o = (b && !(died tab (rd_L2 was (i : Int)) (rd_L2 now (i : Int)) (j + 1)).contains x) → catchwordref10_Carry.l3 k n t was now out x o (i : Int) (wrap64 ((j : Int) + 1)) = some R := fun o ho => by
      rw [ho, w1 j (by omega)]
      exact ref_carry_l3 n t was now i hi hw hn tab htab hT hw2 hn2 out x b K R hR d (j + 1) k (by omega) (by omega)
    have nx := died_next tab (rd_L2 was (i : Int)) (rd_L2 now (i : Int)) j
    have hc : ∀ D : List Int, (D ++ [rd tab (j : Int)]).contains x = (D.contains x || (rd tab (j : Int) == x)) := fun D => by
      simp only [List.contains_append, List.contains_cons, List.contains_nil, Bool.or_false]
      congr 1
      exact Bool.beq_comm
    rw [catchwordref10_Carry.l3, if_pos (by omega), if_pos (by omega), htab, if_pos (by omega), if_pos (by omega)]
    by_cases c1 : rd tab (j : Int) = x
    · rw [if_pos c1, if_pos (by omega), if_pos (by omega)]
      by_cases c3 : rdOf false (rd_L2 was (i : Int)) (j : Int) = true
      · rw [if_pos c3, if_pos (by omega), if_pos (by omega)]
        by_cases c4 : rdOf false (rd_L2 now (i : Int)) (j : Int) = true
        · rw [if_pos c4]
          refine ih _ ?_
          rw [nx, c3, c4]
          simp
        · rw [if_neg c4]
          refine ih _ ?_
          rw [nx, c3, Bool.eq_false_iff.mpr c4]
          simp only [Bool.not_false, Bool.and_self, if_true]
          rw [hc, c1]
          simp
      · rw [if_neg c3]
        refine ih _ ?_
        rw [nx, Bool.eq_false_iff.mpr c3]
        simp
    · rw [if_neg c1]
      refine ih _ ?_
      rw [nx]
      by_cases h2 : (rdOf false (rd_L2 was (i : Int)) (j : Int) && !rdOf false (rd_L2 now (i : Int)) (j : Int)) = true
      · have c1' : (rd tab (j : Int) == x) = false := by rw [beq_eq_false_iff_ne]; exact c1
        rw [if_pos h2, hc, c1', Bool.or_false]
      · rw [if_neg h2, List.append_nil]
theorem row_len (t : List (List Int)) (hT : ∀ r ∈ t, r.length ≤ 1000) (i : Nat) (hi : i < t.length) : (rd_L3 t (i : Int)).length ≤ 1000 := by
  have : rd_L3 t (i : Int) = t[i] := by simp [rd_L3, List.getD_eq_getElem?_getD, hi]
  rw [this]
  exact hT _ (List.getElem_mem _)
theorem ref_carry_l2 (n : Int) (t : List (List Int)) (was now : List (List Bool)) (hw : was.length = t.length) (hn : now.length = t.length) (hl : t.length ≤ 1000) (hT : ∀ r ∈ t, r.length ≤ 1000) (hf : ∀ i, i < t.length → fitAt t was now i = true) (out : List Bool) (ho : out.length ≤ 1000) (x : Int) (K : Nat) (R : List Bool)
    (hR : ∀ k, K ≤ k → catchwordref10_Carry.l1 k n t was now (out ++ [!(diedAll t was now t.length).contains x]) (wrap64 (x + 1)) = some R) :
    ∀ d i k, i + d = t.length → K + 1003 * d < k → catchwordref10_Carry.l2 k n t was now out x (!(diedAll t was now i).contains x) (i : Int) = some R
  | d, i, 0, _, h => absurd h (by omega)
  | 0, i, k + 1, h, hk => by
    have hi : i = t.length := by omega
    subst hi
    rw [catchwordref10_Carry.l2, if_neg (by omega), if_pos (by omega)]
    exact hR k (by omega)
  | d + 1, i, k + 1, h, hk => by
    have hi : i < t.length := by omega
    obtain ⟨f1, f2⟩ := of_decide_eq_true (hf i hi)
    have htl := row_len t hT i hi
    rw [catchwordref10_Carry.l2, if_pos (by omega)]
    have h3 := ref_carry_l3 n t was now i hi hw hn (rd_L3 t (i : Int)) rfl htl f1 f2 out x (!(diedAll t was now i).contains x) (K + 1003 * d + 1) R (fun k' hk' => by
      rw [w1 i (by omega), ← Bool.not_or, ← List.contains_append, ← diedAll_next]
      exact ref_carry_l2 n t was now hw hn hl hT hf out ho x K R hR d (i + 1) k' (by omega) (by omega)) (rd_L3 t (i : Int)).length 0 k (by omega) (by omega)
    have e0 : died (rd_L3 t (i : Int)) (rd_L2 was (i : Int)) (rd_L2 now (i : Int)) 0 = [] := rfl
    rw [e0] at h3
    simpa using h3
theorem ref_carry_l1 (N : Nat) (hN : N ≤ 64) (t : List (List Int)) (was now : List (List Bool)) (hw : was.length = t.length) (hn : now.length = t.length) (hl : t.length ≤ 1000) (hT : ∀ r ∈ t, r.length ≤ 1000) (hf : ∀ i, i < t.length → fitAt t was now i = true) :
    ∀ d x k, x + d = N → 1100000 * d + 10 < k → catchwordref10_Carry.l1 k (N : Int) t was now (alive x (diedAll t was now t.length)) (x : Int) = some (alive N (diedAll t was now t.length))
  | d, x, 0, _, h => absurd h (by omega)
  | 0, x, k + 1, h, _ => by
    have hx : x = N := by omega
    subst hx
    rw [catchwordref10_Carry.l1, if_neg (by omega)]
  | d + 1, x, k + 1, h, hk => by
    rw [catchwordref10_Carry.l1, if_pos (by omega)]
    have hb : 1003 * t.length ≤ 1003 * 1000 := Nat.mul_le_mul_left _ hl
    have h2 := ref_carry_l2 (N : Int) t was now hw hn hl hT hf (alive x (diedAll t was now t.length)) (by rw [alive_length]; omega) (x : Int) (1100000 * d + 11) (alive N (diedAll t was now t.length)) (fun k' hk' => by
      rw [w1 x (by omega)]
      have e1 : alive x (diedAll t was now t.length) ++ [!(diedAll t was now t.length).contains (x : Int)] = alive (x + 1) (diedAll t was now t.length) := by
        unfold alive
        rw [List.range_succ, List.map_append]
        rfl
      rw [e1]
      exact ref_carry_l1 N hN t was now hw hn hl hT hf d (x + 1) k' (by omega) (by omega)) t.length 0 k (by omega) (by omega)
    have e0 : diedAll t was now 0 = [] := rfl
    rw [e0] at h2
    simpa using h2
theorem ref_carry_l0 (n : Int) (t : List (List Int)) (was now : List (List Bool)) (hw : was.length = t.length) (hn : now.length = t.length) (hl : t.length ≤ 1000) (K : Nat) (R : List Bool)
    (hR : fits t was now = true → ∀ k, K ≤ k → catchwordref10_Carry.l1 k n t was now [] 0 = some R) :
    ∀ d i k, i + d = t.length → K + d < k → ((List.range t.length).take i).all (fitAt t was now) = true → catchwordref10_Carry.l0 k n t was now (i : Int) = some (if ((List.range t.length).drop i).all (fitAt t was now) = true then R else [])
  | d, i, 0, _, h, _ => absurd h (by omega)
  | 0, i, k + 1, h, hk, ht => by
    have hi : i = t.length := by omega
    subst hi
    have hd : (List.range t.length).drop t.length = [] := List.drop_eq_nil_of_le (by simp)
    rw [catchwordref10_Carry.l0, if_neg (by omega), hd, if_pos (by rfl)]
    refine hR ?_ k (by omega)
    rw [List.take_of_length_le (by simp)] at ht
    exact ht
  | d + 1, i, k + 1, h, hk, ht => by
    have hi : i < t.length := by omega
    have hnext : fitAt t was now i = true → ((List.range t.length).take (i + 1)).all (fitAt t was now) = true := fun hf => by
      rw [List.take_succ_eq_append_getElem (by simpa using hi), List.all_append, ht, List.getElem_range]
      simp [hf]
    rw [catchwordref10_Carry.l0, if_pos (by omega), if_pos (by omega), if_pos (by omega), range_drop _ _ hi, List.all_cons]
    by_cases c1 : (rd_L2 was (i : Int)).length = (rd_L3 t (i : Int)).length
    · rw [if_pos (by omega), if_pos (by omega)]
      by_cases c2 : (rd_L2 now (i : Int)).length = (rd_L3 t (i : Int)).length
      · have hf : fitAt t was now i = true := decide_eq_true ⟨c1, c2⟩
        rw [if_pos (by omega), hf, Bool.true_and, w1 i (by omega)]
        exact ref_carry_l0 n t was now hw hn hl K R hR d (i + 1) k (by omega) (by omega) (hnext hf)
      · have hf : fitAt t was now i = false := decide_eq_false (fun h => c2 h.2)
        rw [if_neg (by omega), hf]
        rfl
    · have hf : fitAt t was now i = false := decide_eq_false (fun h => c1 h.1)
      rw [if_neg (by omega), hf]
      rfl
theorem ref_carry_eq (k : Nat) (n : Int) (t : List (List Int)) (was now : List (List Bool)) (hl : t.length ≤ 1000) (hT : ∀ r ∈ t, r.length ≤ 1000) (hk : 71000000 ≤ k) : catchwordref10_Carry.f k n t was now = some (carryOf n t was now) := by
  obtain ⟨j, rfl⟩ : ∃ j, k = j + 1 := ⟨k - 1, by omega⟩
  unfold catchwordref10_Carry.f carryOf
  by_cases h1 : n < 0
  · rw [if_pos h1, catchwordref10_Carry.j0, if_pos rfl, if_neg (by omega)]
  · rw [if_neg h1]
    by_cases h2 : n > 64
    · rw [if_pos h2, catchwordref10_Carry.j0, if_pos rfl, if_neg (by omega)]
    · rw [if_neg h2]
      by_cases h3 : was.length = t.length
      · rw [if_pos (by omega)]
        by_cases h4 : now.length = t.length
        · have hb : ((now.length : Int) != (t.length : Int)) = false := by rw [h4]; simp
          obtain ⟨N, rfl⟩ := Int.eq_ofNat_of_zero_le (by omega : 0 ≤ n)
          rw [hb, catchwordref10_Carry.j0, if_neg (by decide), Int.toNat_natCast]
          have h := ref_carry_l0 (N : Int) t was now h3 h4 hl 70500000 (alive N (diedAll t was now t.length)) (fun hf k' hk' => by
            have hb2 : 1100000 * N ≤ 1100000 * 64 := Nat.mul_le_mul_left _ (by omega)
            exact ref_carry_l1 N (by omega) t was now h3 h4 hl hT (fun i hi => List.all_eq_true.1 hf i (List.mem_range.2 hi)) N 0 k' (by omega) (by omega)) t.length 0 j (by omega) (by omega) (by simp)
          refine h.trans ?_
          rw [fits_eq]
          by_cases hf : fits t was now = true
          · rw [if_pos hf, if_pos ⟨by omega, by omega, h3, h4, hf⟩]
          · rw [if_neg hf, if_neg (fun h => hf h.2.2.2.2)]
        · have hb : ((now.length : Int) != (t.length : Int)) = true := by rw [bne_iff_ne]; omega
          rw [hb, catchwordref10_Carry.j0, if_pos rfl, if_neg (fun h => h4 h.2.2.2.1)]
      · rw [if_neg (by omega), catchwordref10_Carry.j0, if_pos rfl, if_neg (fun h => h3 h.2.2.1)]
/-! ### few -/
theorem few_loop (t : List (List Int)) (hl : t.length ≤ 70) : ∀ d i k, i + d = t.length → d < k → catchwordlaw10_few.l0 k t (i : Int) = some ((t.drop i).all fun r => decide (r.length ≤ 70))
  | d, i, 0, _, h => absurd h (by omega)
  | 0, i, k + 1, h, _ => by
    rw [catchwordlaw10_few.l0, if_neg (by omega), List.drop_eq_nil_of_le (by omega)]
    rfl
  | d + 1, i, k + 1, h, hk => by
    have hi : i < t.length := by omega
    have e1 : rd_L3 t (i : Int) = t[i] := by simp [rd_L3, List.getD_eq_getElem?_getD, hi]
    rw [catchwordlaw10_few.l0, if_pos (by omega), if_pos (by omega), e1, List.drop_eq_getElem_cons hi, w1 i (by omega), List.all_cons]
    by_cases h1 : ((t[i].length : Nat) : Int) > 70
    · rw [if_pos h1, decide_eq_false (by omega)]
      rfl
    · rw [if_neg h1, decide_eq_true (by omega), Bool.true_and]
      exact few_loop t hl d (i + 1) k (by omega) (by omega)
theorem few_eq (k : Nat) (t : List (List Int)) (was now : List (List Bool)) (hk : 100 ≤ k) : ∃ b, catchwordlaw10_few.f k t was now = some b ∧ (b = true → t.length ≤ 70 ∧ ∀ r ∈ t, r.length ≤ 70) := by
  obtain ⟨j, rfl⟩ : ∃ j, k = j + 1 := ⟨k - 1, by omega⟩
  unfold catchwordlaw10_few.f
  by_cases h : (t.length : Int) > 70
  · rw [if_pos h, catchwordlaw10_few.j0, if_pos rfl]
    exact ⟨false, rfl, fun h => by cases h⟩
  · rw [if_neg h]
    by_cases h2 : (was.length : Int) > 70
    · rw [if_pos h2, catchwordlaw10_few.j0, if_pos rfl]
      exact ⟨false, rfl, fun h => by cases h⟩
    · rw [if_neg h2]
      by_cases h3 : (now.length : Int) > 70
      · rw [decide_eq_true h3, catchwordlaw10_few.j0, if_pos rfl]
        exact ⟨false, rfl, fun h => by cases h⟩
      · rw [decide_eq_false h3, catchwordlaw10_few.j0, if_neg (by decide)]
        refine ⟨_, few_loop t (by omega) t.length 0 j (by omega) (by omega), fun hb => ⟨by omega, fun r hr => ?_⟩⟩
        rw [List.drop_zero, List.all_eq_true] at hb
        exact of_decide_eq_true (hb r hr)
theorem carryOf_length (n : Int) (t : List (List Int)) (was now : List (List Bool)) : (carryOf n t was now).length ≤ 64 := by
  unfold carryOf
  by_cases h : 0 ≤ n ∧ n ≤ 64 ∧ was.length = t.length ∧ now.length = t.length ∧ fits t was now = true
  · rw [if_pos h, alive_length]
    omega
  · rw [if_neg h]
    simp
theorem RemapCarries (a0 : Int) (l1 : List (List Int)) (m1 : l1.length ≤ 9223372036854775807) (z1 : ∀ r ∈ l1, r.length ≤ 9223372036854775807) (l2 : List (List Bool)) (m2 : l2.length ≤ 9223372036854775807) (z2 : ∀ r ∈ l2, r.length ≤ 9223372036854775807) (l3 : List (List Bool)) (m3 : l3.length ≤ 9223372036854775807) (z3 : ∀ r ∈ l3, r.length ≤ 9223372036854775807) : ∃ k, catchwordlaw10_RemapCarries.f k a0 l1 l2 l3 = some true := by
  refine ⟨71000002, ?_⟩
  obtain ⟨b, hb, hb2⟩ := few_eq 71000002 l1 l2 l3 (by omega)
  unfold catchwordlaw10_RemapCarries.f
  rw [awake_eq _ (by omega), Option.bind_some, hb, Option.bind_some, if_pos rfl]
  generalize hK : (71000001 : Nat) = K
  have hK2 : 71000001 ≤ K := by omega
  rw [show (71000002 : Nat) = K + 1 by omega, catchwordlaw10_RemapCarries.j0]
  cases b with
  | false => rw [if_pos (by rfl)]
  | true =>
    obtain ⟨g1, g2⟩ := hb2 rfl
    rw [if_neg (by decide), carry_eq _ _ _ _ _ (by omega) (fun r hr => by have := g2 r hr; omega) (by omega), Option.bind_some, ref_carry_eq _ _ _ _ _ (by omega) (fun r hr => by have := g2 r hr; omega) (by omega), Option.bind_some]
    have hl := carryOf_length a0 l1 l2 l3
    rw [bools_eq _ _ _ (by omega) (by omega), Option.bind_some]
    simp
end Go.Proofs.Ytldojbonaecngaa.Pure
