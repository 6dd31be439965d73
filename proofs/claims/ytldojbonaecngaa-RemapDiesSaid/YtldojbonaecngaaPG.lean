import Derived.Test.YtldojbonaecngaaPB
namespace Go.Proofs.Ytldojbonaecngaa.Pure
set_option linter.unusedVariables false
set_option linter.unusedSimpArgs false
open Go.RowKit Go.Proofs.Ytldojbonaecngaa.T Go.Proofs.YtldojbonaecngaaW.PrintWords Go.Proofs.YtldojbonaecngaaW.PrintLast
/-! ### Carry: who lives behind tables -/
def died (tab : List Int) (w nw : List Bool) (k : Nat) : List Int := ((List.range k).filter fun j : Nat => rdOf false w (j : Int) && !rdOf false nw (j : Int)).map fun j : Nat => rd tab (j : Int)
def alive (n : Nat) (D : List Int) : List Bool := (List.range n).map fun d : Nat => !D.contains (d : Int)
def diedAll (t : List (List Int)) (was now : List (List Bool)) (i : Nat) : List Int := (List.range i).flatMap fun j : Nat => died (rd_L3 t (j : Int)) (rd_L2 was (j : Int)) (rd_L2 now (j : Int)) (rd_L3 t (j : Int)).length
def fits (t : List (List Int)) (was now : List (List Bool)) : Bool := (List.range t.length).all fun j : Nat => decide ((rd_L2 was (j : Int)).length = (rd_L3 t (j : Int)).length ∧ (rd_L2 now (j : Int)).length = (rd_L3 t (j : Int)).length)
def carryOf (n : Int) (t : List (List Int)) (was now : List (List Bool)) : List Bool :=
  if 0 ≤ n ∧ n ≤ 64 ∧ was.length = t.length ∧ now.length = t.length ∧ fits t was now = true then alive n.toNat (diedAll t was now t.length) else []
theorem alive_length (n : Nat) (D : List Int) : (alive n D).length = n := by simp [alive]
theorem died_next (tab : List Int) (w nw : List Bool) (k : Nat) : died tab w nw (k + 1) = died tab w nw k ++ if rdOf false w (k : Int) && !rdOf false nw (k : Int) then [rd tab (k : Int)] else [] := by
  unfold died
  rw [List.range_succ, List.filter_append, List.map_append]
  congr 1
  by_cases h : (rdOf false w (k : Int) && !rdOf false nw (k : Int)) = true
  · rw [if_pos h]
    simp [h]
  · rw [if_neg h]
    simp [Bool.eq_false_iff.mpr h]
theorem diedAll_next (t : List (List Int)) (was now : List (List Bool)) (i : Nat) : diedAll t was now (i + 1) = diedAll t was now i ++ died (rd_L3 t (i : Int)) (rd_L2 was (i : Int)) (rd_L2 now (i : Int)) (rd_L3 t (i : Int)).length := by
  unfold diedAll
  rw [List.range_succ, List.flatMap_append]
  simp
theorem alive_out (n : Nat) (D : List Int) (x : Int) (h : ¬ (0 ≤ x ∧ x < (n : Int))) : alive n (D ++ [x]) = alive n D := by
  unfold alive
  refine List.map_congr_left fun d hd => ?_
  have hd' := List.mem_range.1 hd
  have hne : (d : Int) ≠ x := fun he => h (by omega)
  simp [hne]
theorem alive_set (n : Nat) (D : List Int) (x : Int) (h0 : 0 ≤ x) (h1 : x < (n : Int)) : (alive n D).set x.toNat false = alive n (D ++ [x]) := by
  apply List.ext_getElem
  · simp [alive_length]
  · intro d h2 h3
    rw [List.getElem_set]
    rw [alive_length] at h3
    by_cases he : x.toNat = d
    · rw [if_pos he]
      have : (d : Int) = x := by omega
      simp [alive, this]
    · rw [if_neg he]
      have : (d : Int) ≠ x := by omega
      simp [alive, this]
theorem alive_nil (n : Nat) : alive n [] = List.replicate n true := by
  apply List.ext_getElem
  · simp [alive]
  · intro i h1 h2
    simp [alive]
def fitAt (t : List (List Int)) (was now : List (List Bool)) (j : Nat) : Bool := decide ((rd_L2 was (j : Int)).length = (rd_L3 t (j : Int)).length ∧ (rd_L2 now (j : Int)).length = (rd_L3 t (j : Int)).length)
theorem carry_l1 (N : Nat) (t : List (List Int)) (was now : List (List Bool)) (i : Nat) (hi : i < t.length) (hw : was.length = t.length) (hn : now.length = t.length) (tab : List Int) (hT : tab.length ≤ 1000) (hw2 : (rd_L2 was (i : Int)).length = tab.length) (hn2 : (rd_L2 now (i : Int)).length = tab.length) (D : List Int) (K : Nat) (R : List Bool)
    (hR : ∀ k, K ≤ k → remap_Carry.l0 k (N : Int) was now (alive N (D ++ died tab (rd_L2 was (i : Int)) (rd_L2 now (i : Int)) tab.length)) t (t.length : Int) (wrap64 ((i : Int) + 1)) = some R) :
    ∀ d j k, j + d = tab.length → K + d < k → remap_Carry.l1 k (N : Int) was now (alive N (D ++ died tab (rd_L2 was (i : Int)) (rd_L2 now (i : Int)) j)) (i : Int) t (t.length : Int) (i : Int) tab (tab.length : Int) (j : Int) = some R
  | d, j, 0, _, h => absurd h (by omega)
  | 0, j, k + 1, h, hk => by
    have hj : j = tab.length := by omega
    subst hj
    rw [remap_Carry.l1, if_neg (by omega)]
    exact hR k (by omega)
  | d + 1, j, k + 1, h, hk => by
    have ih : ∀ o, o = alive N (D ++ died tab (rd_L2 was (i : Int)) (rd_L2 now (i : Int)) (j + 1)) → remap_Carry.l1 k (N : Int) was now o (i : Int) t (t.length : Int) (i : Int) tab (tab.length : Int) (wrap64 ((j : Int) + 1)) = some R := fun o ho => by
      rw [ho, w1 j (by omega)]
      exact carry_l1 N t was now i hi hw hn tab hT hw2 hn2 D K R hR d (j + 1) k (by omega) (by omega)
    have nx := died_next tab (rd_L2 was (i : Int)) (rd_L2 now (i : Int)) j
    rw [remap_Carry.l1, if_pos (by omega), if_pos (by omega), if_pos (by omega)]
    have out : ¬ (0 ≤ rd tab (j : Int) ∧ rd tab (j : Int) < (N : Int)) → alive N (D ++ died tab (rd_L2 was (i : Int)) (rd_L2 now (i : Int)) j) = alive N (D ++ died tab (rd_L2 was (i : Int)) (rd_L2 now (i : Int)) (j + 1)) := fun hx => by
      rw [nx]
      by_cases hc : (rdOf false (rd_L2 was (i : Int)) (j : Int) && !rdOf false (rd_L2 now (i : Int)) (j : Int)) = true
      · rw [if_pos hc, ← List.append_assoc, alive_out _ _ _ hx]
      · rw [if_neg hc, List.append_nil]
    by_cases c1 : rd tab (j : Int) ≥ 0
    · rw [if_pos c1]
      by_cases c2 : rd tab (j : Int) < (N : Int)
      · rw [if_pos c2, if_pos (by omega), if_pos (by omega), if_pos (by omega)]
        by_cases c3 : rdOf false (rd_L2 was (i : Int)) (j : Int) = true
        · rw [if_pos c3, if_pos (by omega), if_pos (by omega)]
          by_cases c4 : rdOf false (rd_L2 now (i : Int)) (j : Int) = true
          · rw [if_pos c4]
            refine ih _ ?_
            rw [nx, c3, c4]
            simp
          · rw [if_neg c4, if_pos (by omega), if_pos (by rw [alive_length]; omega)]
            refine ih _ ?_
            rw [nx, c3, Bool.eq_false_iff.mpr c4, alive_set _ _ _ (by omega) c2, List.append_assoc]
            rfl
        · rw [if_neg c3]
          refine ih _ ?_
          rw [nx, Bool.eq_false_iff.mpr c3]
          simp
      · rw [if_neg c2]
        exact ih _ (out (fun h => c2 h.2))
    · rw [if_neg c1]
      exact ih _ (out (fun h => c1 h.1))
theorem carry_l0 (N : Nat) (t : List (List Int)) (was now : List (List Bool)) (hw : was.length = t.length) (hn : now.length = t.length) (hl : t.length ≤ 1000) (hT : ∀ r ∈ t, r.length ≤ 1000) :
    ∀ d i k, i + d = t.length → 1004 * d + 10 < k → remap_Carry.l0 k (N : Int) was now (alive N (diedAll t was now i)) t (t.length : Int) (i : Int) = some (if ((List.range t.length).drop i).all (fitAt t was now) = true then alive N (diedAll t was now t.length) else [])
  | d, i, 0, _, h => absurd h (by omega)
  | d, i, 1, _, h => absurd h (by omega)
  | 0, i, k + 2, h, _ => by
    have hi : i = t.length := by omega
    subst hi
    rw [remap_Carry.l0, if_neg (by omega), List.drop_eq_nil_of_le (by simp)]
    rfl
  | d + 1, i, k + 2, h, hk => by
    have hi : i < t.length := by omega
    have htl : (rd_L3 t (i : Int)).length ≤ 1000 := by
      have : rd_L3 t (i : Int) = t[i] := by simp [rd_L3, List.getD_eq_getElem?_getD, hi]
      rw [this]
      exact hT _ (List.getElem_mem _)
    have hd : (List.range t.length).drop i = i :: (List.range t.length).drop (i + 1) := by
      rw [List.drop_eq_getElem_cons (by simpa using hi), List.getElem_range]
    rw [remap_Carry.l0, if_pos (by omega), if_pos (by omega), if_pos (by omega), if_pos (by omega), hd, List.all_cons]
    by_cases c1 : (rd_L2 was (i : Int)).length = (rd_L3 t (i : Int)).length
    · rw [if_pos (by omega), if_pos (by omega)]
      by_cases c2 : (rd_L2 now (i : Int)).length = (rd_L3 t (i : Int)).length
      · have hb : (((rd_L2 now (i : Int)).length : Int) != ((rd_L3 t (i : Int)).length : Int)) = false := by rw [c2]; simp
        have hf : fitAt t was now i = true := decide_eq_true ⟨c1, c2⟩
        rw [hb, remap_Carry.j2, if_neg (by decide), hf, Bool.true_and]
        have h1 := carry_l1 N t was now i hi hw hn (rd_L3 t (i : Int)) htl c1 c2 (diedAll t was now i) (1004 * d + 11) (if ((List.range t.length).drop (i + 1)).all (fitAt t was now) = true then alive N (diedAll t was now t.length) else []) (fun k' hk' => by
          rw [w1 i (by omega), ← diedAll_next]
          exact carry_l0 N t was now hw hn hl hT d (i + 1) k' (by omega) (by omega)) (rd_L3 t (i : Int)).length 0 k (by omega) (by omega)
        have e0 : died (rd_L3 t (i : Int)) (rd_L2 was (i : Int)) (rd_L2 now (i : Int)) 0 = [] := rfl
        rw [e0, List.append_nil] at h1
        exact h1
      · have hb : (((rd_L2 now (i : Int)).length : Int) != ((rd_L3 t (i : Int)).length : Int)) = true := by rw [bne_iff_ne]; omega
        have hf : fitAt t was now i = false := decide_eq_false (fun h => c2 h.2)
        rw [hb, remap_Carry.j2, if_pos rfl, hf]
        rfl
    · have hf : fitAt t was now i = false := decide_eq_false (fun h => c1 h.1)
      rw [if_neg (by omega), remap_Carry.j2, if_pos rfl, hf]
      rfl
theorem fits_eq (t : List (List Int)) (was now : List (List Bool)) : ((List.range t.length).drop 0).all (fitAt t was now) = fits t was now := rfl
theorem carry_eq (k : Nat) (n : Int) (t : List (List Int)) (was now : List (List Bool)) (hl : t.length ≤ 1000) (hT : ∀ r ∈ t, r.length ≤ 1000) (hk : 1100000 ≤ k) : remap_Carry.f k n t was now = some (carryOf n t was now) := by
  obtain ⟨j, rfl⟩ : ∃ j, k = j + 1 := ⟨k - 1, by omega⟩
  unfold remap_Carry.f carryOf
  by_cases h1 : n < 0
  · rw [if_pos h1, remap_Carry.j0, if_pos rfl, if_neg (by omega)]
  · rw [if_neg h1]
    by_cases h2 : n > 64
    · rw [if_pos h2, remap_Carry.j0, if_pos rfl, if_neg (by omega)]
    · rw [if_neg h2]
      by_cases h3 : was.length = t.length
      · rw [if_pos (by omega)]
        by_cases h4 : now.length = t.length
        · have hb : ((now.length : Int) != (t.length : Int)) = false := by rw [h4]; simp
          obtain ⟨N, rfl⟩ := Int.eq_ofNat_of_zero_le (by omega : 0 ≤ n)
          rw [hb, remap_Carry.j0, if_neg (by decide), live_New.f, if_neg h1, if_neg h2]
          simp only [slices_Repeat_bool_bool.f]
          rw [if_pos ⟨by omega, by omega⟩, Option.bind_some, Option.bind_some, Int.toNat_natCast, ← alive_nil]
          have h := carry_l0 N t was now h3 h4 hl hT t.length 0 j (by omega) (by omega)
          rw [fits_eq] at h
          have e0 : diedAll t was now 0 = [] := rfl
          rw [e0] at h
          refine h.trans ?_
          by_cases hf : fits t was now = true
          · rw [if_pos hf, if_pos ⟨by omega, by omega, h3, h4, hf⟩]
          · rw [if_neg hf, if_neg (fun h => hf h.2.2.2.2)]
        · have hb : ((now.length : Int) != (t.length : Int)) = true := by rw [bne_iff_ne]; omega
          rw [hb, remap_Carry.j0, if_pos rfl, if_neg (fun h => h4 h.2.2.2.1)]
      · rw [if_neg (by omega), remap_Carry.j0, if_pos rfl, if_neg (fun h => h3 h.2.2.1)]
end Go.Proofs.Ytldojbonaecngaa.Pure
