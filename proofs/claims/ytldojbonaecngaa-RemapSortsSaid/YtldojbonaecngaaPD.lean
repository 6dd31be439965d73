import Derived.Test.YtldojbonaecngaaPB
namespace Go.Proofs.Ytldojbonaecngaa.Pure
set_option linter.unusedVariables false
set_option linter.unusedSimpArgs false
open Go.RowKit Go.Proofs.Ytldojbonaecngaa.T Go.Proofs.YtldojbonaecngaaW.PrintWords Go.Proofs.YtldojbonaecngaaW.PrintLast
/-! ### Turn: a permutation's places, or nothing -/
theorem nodup_le : ∀ (xs ys : List Int), xs.Nodup → (∀ x ∈ xs, x ∈ ys) → xs.length ≤ ys.length
  | [], _, _, _ => Nat.zero_le _
  | x :: r, ys, h, hs => by
    obtain ⟨h1, h2⟩ := List.nodup_cons.1 h
    have hx := hs x (by simp)
    have hr := nodup_le r (ys.erase x) h2 (fun y hy => (List.mem_erase_of_ne (fun (he : y = x) => h1 (he ▸ hy))).2 (hs y (by simp [hy])))
    rw [List.length_erase_of_mem hx] at hr
    have hp := List.length_pos_of_mem hx
    rw [List.length_cons]
    omega
/-- p holds n different numbers of 0 .. n-1 -/
def Perm_ (p : List Int) : Prop := (∀ x ∈ p, 0 ≤ x ∧ x < (p.length : Int)) ∧ p.Nodup
/-- where x stands -/
def place (p : List Int) (x : Int) : Nat := p.idxOf x
def turned (p : List Int) : List Int := (List.range p.length).map fun i : Nat => ((place p (i : Int) : Nat) : Int)
theorem turned_length (p : List Int) : (turned p).length = p.length := by simp [turned]
/-- what stands in out behind the first i of p -/
def filled (p : List Int) (i : Nat) : List Int := (List.range p.length).map fun j : Nat => if place (p.take i) (j : Int) < i then ((place (p.take i) (j : Int) : Nat) : Int) else -1
theorem filled_length (p : List Int) (i : Nat) : (filled p i).length = p.length := by simp [filled]
theorem place_mem (p : List Int) (x : Int) : place p x < p.length ↔ x ∈ p := List.idxOf_lt_length_iff
theorem rd_filled (p : List Int) (i : Nat) (x : Int) (h0 : 0 ≤ x) (h1 : x < (p.length : Int)) : rd (filled p i) x = if place (p.take i) x < i then ((place (p.take i) x : Nat) : Int) else -1 := by
  obtain ⟨j, rfl⟩ := Int.eq_ofNat_of_zero_le h0
  rw [rd_nat _ _ (by rw [filled_length]; omega)]
  simp [filled]
theorem place_take_lt (p : List Int) (i : Nat) (hi : i ≤ p.length) (x : Int) : place (p.take i) x < i ↔ x ∈ p.take i := by
  have h := place_mem (p.take i) x
  rw [List.length_take, Nat.min_eq_left hi] at h
  exact h
theorem filled_free (p : List Int) (i : Nat) (hi : i ≤ p.length) (x : Int) (h0 : 0 ≤ x) (h1 : x < (p.length : Int)) : rd (filled p i) x = -1 ↔ x ∉ p.take i := by
  rw [rd_filled p i x h0 h1, ← place_take_lt p i hi x]
  by_cases h : place (p.take i) x < i
  · rw [if_pos h]
    constructor
    · intro h2
      omega
    · intro h2
      exact absurd h h2
  · rw [if_neg h]
    exact ⟨fun _ => h, fun _ => rfl⟩
theorem place_append (a b : List Int) (x : Int) : place (a ++ b) x = if x ∈ a then place a x else place b x + a.length := by
  unfold place
  exact List.idxOf_append
theorem filled_next (p : List Int) (i : Nat) (hi : i < p.length) (h0 : 0 ≤ p[i]) (hf : p[i] ∉ p.take i) : (filled p i).set p[i].toNat (i : Int) = filled p (i + 1) := by
  apply List.ext_getElem
  · simp [filled_length]
  · intro j h1 h2
    rw [List.length_set, filled_length] at h1
    rw [List.getElem_set]
    have hpl : ∀ y : Int, place (p.take (i + 1)) y = if y ∈ p.take i then place (p.take i) y else place [p[i]] y + i := fun y => by
      rw [List.take_succ_eq_append_getElem hi, place_append, List.length_take, Nat.min_eq_left (by omega)]
    by_cases he : p[i].toNat = j
    · rw [if_pos he]
      have hj : (j : Int) = p[i] := by omega
      simp only [filled, List.getElem_map, List.getElem_range, hpl, hj]
      have hz : place [p[i]] p[i] = 0 := by simp [place]
      rw [if_neg hf, hz]
      rw [if_pos (by omega)]
      simp
    · rw [if_neg he]
      have hj : (j : Int) ≠ p[i] := by omega
      have hz : place [p[i]] (j : Int) = 1 := by
        unfold place
        rw [List.idxOf_cons, List.idxOf_nil]
        have : (p[i] == (j : Int)) = false := by simpa using fun h => hj h.symm
        simp [this]
      simp only [filled, List.getElem_map, List.getElem_range, hpl, hz]
      by_cases hm : (j : Int) ∈ p.take i
      · have hlt := (place_take_lt p i (by omega) (j : Int)).2 hm
        rw [if_pos hm, if_pos hlt, if_pos (by omega)]
      · have hlt : ¬ place (p.take i) (j : Int) < i := fun h => hm ((place_take_lt p i (by omega) (j : Int)).1 h)
        rw [if_neg hm, if_neg hlt, if_neg (by omega)]
/-- what the code tells -/
noncomputable def turnOf (p : List Int) : List Int := open Classical in if p.length ≤ 1100 ∧ Perm_ p then turned p else []
theorem not_perm_of (p : List Int) (i : Nat) (hi : i < p.length) (h : p[i] < 0 ∨ (p.length : Int) ≤ p[i] ∨ p[i] ∈ p.take i) : ¬ Perm_ p := by
  rintro ⟨h1, h2⟩
  have hr := h1 p[i] (List.getElem_mem _)
  rcases h with h | h | h
  · omega
  · omega
  · obtain ⟨j, hj, he⟩ := List.mem_iff_getElem.1 h
    rw [List.length_take] at hj
    rw [List.getElem_take] at he
    have := (List.getElem_inj h2).1 he
    omega
theorem turn_loop (p : List Int) (hl : p.length ≤ 1100) : ∀ d i k, i + d = p.length → d < k → (∀ x ∈ p.take i, 0 ≤ x ∧ x < (p.length : Int)) → (p.take i).Nodup → remap_Turn.l0 k p (filled p i) p (p.length : Int) (i : Int) = some (turnOf p)
  | d, i, 0, _, h, _, _ => absurd h (by omega)
  | 0, i, k + 1, h, _, h1, h2 => by
    have hi : i = p.length := by omega
    subst hi
    rw [List.take_length] at h1 h2
    rw [remap_Turn.l0, if_neg (by omega)]
    unfold turnOf
    rw [if_pos ⟨hl, h1, h2⟩]
    congr 1
    unfold filled turned
    refine List.map_congr_left fun j hj => ?_
    rw [List.take_length]
    have hj' := List.mem_range.1 hj
    have hm : (j : Int) ∈ p := by
      apply Classical.byContradiction
      intro hn
      -- n different numbers below n, one lacking: too many
      have hs : p.length ≤ ((List.range p.length).map fun i : Nat => (i : Int)).length - 1 := by
        have hsub : p ⊆ ((List.range p.length).map fun i : Nat => (i : Int)).erase (j : Int) := fun x hx => by
          have hx' := h1 x hx
          have hne : x ≠ (j : Int) := fun he => hn (he ▸ hx)
          refine (List.mem_erase_of_ne hne).2 (List.mem_map.2 ⟨x.toNat, List.mem_range.2 (by omega), by omega⟩)
        have hle := nodup_le _ _ h2 (fun _ hx => hsub hx)
        rw [List.length_erase_of_mem (List.mem_map.2 ⟨j, hj, rfl⟩)] at hle
        exact hle
      simp at hs
      omega
    rw [if_pos ((place_mem p (j : Int)).2 hm)]
  | d + 1, i, k + 1, h, hk, h1, h2 => by
    have hi : i < p.length := by omega
    rw [remap_Turn.l0, if_pos (by omega), if_pos (by omega), if_pos (by omega), rd_nat _ _ hi]
    by_cases c1 : p[i] < 0
    · rw [if_pos c1, turnOf, if_neg (fun h => not_perm_of p i hi (.inl c1) h.2)]
    · rw [if_neg c1]
      by_cases c2 : p[i] ≥ (p.length : Int)
      · rw [if_pos c2, turnOf, if_neg (fun h => not_perm_of p i hi (.inr (.inl c2)) h.2)]
      · rw [if_neg c2, if_pos (by omega), if_pos (by rw [filled_length]; omega)]
        by_cases c3 : p[i] ∈ p.take i
        · rw [if_neg (fun h => (filled_free p i (by omega) _ (by omega) (by omega)).1 h c3), turnOf, if_neg (fun h => not_perm_of p i hi (.inr (.inr c3)) h.2)]
        · rw [if_pos ((filled_free p i (by omega) _ (by omega) (by omega)).2 c3), filled_next p i hi (by omega) c3, w1 i (by omega)]
          refine turn_loop p hl d (i + 1) k (by omega) (by omega) ?_ ?_
          · intro x hx
            rw [List.take_succ_eq_append_getElem hi] at hx
            rcases List.mem_append.1 hx with hx | hx
            · exact h1 x hx
            · rw [List.mem_singleton.1 hx]
              omega
          · rw [List.take_succ_eq_append_getElem hi]
            refine List.nodup_append.2 ⟨h2, by simp, fun a ha b hb => ?_⟩
            rw [List.mem_singleton.1 hb]
            exact fun he => c3 (he ▸ ha)
theorem filled_zero (p : List Int) : filled p 0 = List.replicate p.length (-1) := by
  apply List.ext_getElem
  · simp [filled]
  · intro i h1 h2
    simp [filled]
theorem turn_eq (k : Nat) (p : List Int) (hk : 1101 < k) : remap_Turn.f k p = some (turnOf p) := by
  unfold remap_Turn.f
  by_cases h : (p.length : Int) > 1100
  · rw [if_pos h, turnOf, if_neg (by omega)]
  · rw [if_neg h]
    simp only [slices_Repeat_int_int.f]
    rw [if_pos ⟨by omega, by omega⟩, Option.bind_some, Int.toNat_natCast, ← filled_zero]
    exact turn_loop p (by omega) p.length 0 k (by omega) (by omega) (by simp) (by simp)
end Go.Proofs.Ytldojbonaecngaa.Pure
