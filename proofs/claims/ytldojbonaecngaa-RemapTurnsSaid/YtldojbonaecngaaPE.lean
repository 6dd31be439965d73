import Derived.Test.YtldojbonaecngaaPD
import Derived.Test.YtldojbonaecngaaTx10
namespace Go.Proofs.Ytldojbonaecngaa.Pure
set_option linter.unusedVariables false
set_option linter.unusedSimpArgs false
open Go.RowKit Go.Proofs.Ytldojbonaecngaa.T Go.Proofs.YtldojbonaecngaaW.PrintWords Go.Proofs.YtldojbonaecngaaW.PrintLast
/-! ### permutations -/
theorem perm_mem (p : List Int) (h : Perm_ p) (j : Nat) (hj : j < p.length) : (j : Int) ∈ p := by
  apply Classical.byContradiction
  intro hn
  have hsub : p ⊆ ((List.range p.length).map fun i : Nat => (i : Int)).erase (j : Int) := fun x hx => by
    have hx' := h.1 x hx
    have hne : x ≠ (j : Int) := fun he => hn (he ▸ hx)
    exact (List.mem_erase_of_ne hne).2 (List.mem_map.2 ⟨x.toNat, List.mem_range.2 (by omega), by omega⟩)
  have hle := nodup_le _ _ h.2 (fun _ hx => hsub hx)
  rw [List.length_erase_of_mem (List.mem_map.2 ⟨j, List.mem_range.2 hj, rfl⟩)] at hle
  simp at hle
  omega
theorem place_lt (p : List Int) (h : Perm_ p) (j : Nat) (hj : j < p.length) : place p (j : Int) < p.length := (place_mem p _).2 (perm_mem p h j hj)
theorem get_place (p : List Int) (x : Int) (h : place p x < p.length) : p[place p x] = x := List.getElem_idxOf h
theorem place_get (p : List Int) (h : p.Nodup) (i : Nat) (hi : i < p.length) : place p p[i] = i := h.idxOf_getElem i hi
theorem turned_perm (p : List Int) (h : Perm_ p) : Perm_ (turned p) := by
  refine ⟨fun x hx => ?_, ?_⟩
  · obtain ⟨j, hj, rfl⟩ := List.mem_map.1 hx
    have := place_lt p h j (List.mem_range.1 hj)
    rw [turned_length]
    omega
  · unfold turned List.Nodup
    rw [List.pairwise_map]
    refine (List.nodup_range (n := p.length)).imp_of_mem fun {a b} ha hb hne he => hne ?_
    have h1 := get_place p a (place_lt p h a (List.mem_range.1 ha))
    have h2 := get_place p b (place_lt p h b (List.mem_range.1 hb))
    have he' : place p (a : Int) = place p (b : Int) := by omega
    have e3 : p[place p (a : Int)]'(place_lt p h a (List.mem_range.1 ha)) = p[place p (b : Int)]'(place_lt p h b (List.mem_range.1 hb)) := by simp only [he']
    omega
theorem turned_get (p : List Int) (i : Nat) (hi : i < (turned p).length) : (turned p)[i] = ((place p (i : Int) : Nat) : Int) := by simp [turned]
theorem turned_turned (p : List Int) (h : Perm_ p) : turned (turned p) = p := by
  apply List.ext_getElem
  · simp [turned_length]
  · intro i h1 h2
    rw [turned_get]
    have hr := h.1 p[i] (List.getElem_mem _)
    have ht : p[i].toNat < (turned p).length := by rw [turned_length]; omega
    have hg : (turned p)[p[i].toNat] = (i : Int) := by
      rw [turned_get]
      have : ((p[i].toNat : Nat) : Int) = p[i] := by omega
      rw [this, place_get p h.2 i h2]
    have hp := place_get (turned p) (turned_perm p h).2 p[i].toNat ht
    rw [hg] at hp
    rw [hp]
    omega
theorem then_turned (p : List Int) (h : Perm_ p) : thenOf p (turned p) = (List.range p.length).map fun i : Nat => (i : Int) := by
  apply List.ext_getElem
  · simp [thenOf]
  · intro i h1 h2
    have hi : i < p.length := by simpa [thenOf] using h1
    have hr := h.1 p[i] (List.getElem_mem _)
    obtain ⟨m, hm⟩ := Int.eq_ofNat_of_zero_le hr.1
    have hm' : p[i] = (m : Int) := hm
    have hml : m < (turned p).length := by rw [turned_length]; omega
    simp only [thenOf, List.getElem_map, List.getElem_range]
    have hlt : p[i] < ((turned p).length : Int) := by have := turned_length p; omega
    rw [if_pos ⟨hr.1, hlt⟩, hm', rd_nat _ _ hml, turned_get, ← hm', place_get p h.2 i hi]
theorem then_turned' (p : List Int) (h : Perm_ p) : thenOf (turned p) p = (List.range p.length).map fun i : Nat => (i : Int) := by
  have h2 := then_turned (turned p) (turned_perm p h)
  rw [turned_turned p h, turned_length] at h2
  exact h2
theorem law_turns_loop (p : List Int) (c : Bool) (a b : List Int) (ha : a = (List.range p.length).map fun i : Nat => (i : Int)) (hb : b = (List.range p.length).map fun i : Nat => (i : Int)) (hl : p.length ≤ 200) : ∀ d i k, i + d = p.length → d < k → catchwordlaw10_RemapTurns.l0 k p c a b (i : Int) = some c
  | d, i, 0, _, h => absurd h (by omega)
  | 0, i, k + 1, h, _ => by rw [catchwordlaw10_RemapTurns.l0, if_neg (by omega)]
  | d + 1, i, k + 1, h, hk => by
    have la : a.length = p.length := by rw [ha]; simp
    have lb : b.length = p.length := by rw [hb]; simp
    have ga : rd a (i : Int) = (i : Int) := by rw [rd_nat _ _ (by omega)]; simp [ha]
    have gb : rd b (i : Int) = (i : Int) := by rw [rd_nat _ _ (by omega)]; simp [hb]
    rw [catchwordlaw10_RemapTurns.l0, if_pos (by omega), if_neg (by omega), if_neg (by omega), if_pos (by omega), if_pos (by omega), if_pos ga, if_pos (by omega), if_pos gb, w1 i (by omega)]
    exact law_turns_loop p c a b ha hb hl d (i + 1) k (by omega) (by omega)
theorem perm_nil : Perm_ [] := ⟨by simp, by simp⟩
theorem turnOf_perm (p : List Int) (h : Perm_ p) (hl : p.length ≤ 1100) : turnOf p = turned p := by
  unfold turnOf
  rw [if_pos ⟨hl, h⟩]
theorem RemapTurns (l0 : List Int) (m0 : l0.length ≤ 9223372036854775807) : ∃ k, catchwordlaw10_RemapTurns.f k l0 = some true := by
  refine ⟨1501, ?_⟩
  unfold catchwordlaw10_RemapTurns.f
  rw [awake_eq _ (by omega), Option.bind_some, turn_eq _ _ (by omega), Option.bind_some, if_pos rfl]
  by_cases h1 : (l0.length : Int) > 200
  · rw [if_pos h1, catchwordlaw10_RemapTurns.j0, if_pos rfl]
  · rw [if_neg h1]
    by_cases h2 : (turnOf l0).length = l0.length
    · have hp : Perm_ l0 := by
        apply Classical.byContradiction
        intro hn
        have : turnOf l0 = [] := by unfold turnOf; rw [if_neg (fun h => hn h.2)]
        rw [this] at h2
        have : l0 = [] := List.eq_nil_of_length_eq_zero h2.symm
        rw [this] at hn
        exact hn perm_nil
      have hf : (((turnOf l0).length : Int) != (l0.length : Int)) = false := by rw [h2]; simp
      rw [hf, catchwordlaw10_RemapTurns.j0, if_neg (by decide), turn_eq _ _ (by omega), Option.bind_some, turnOf_perm l0 hp (by omega),
        turnOf_perm _ (turned_perm l0 hp) (by rw [turned_length]; omega), turned_turned l0 hp, ints_eq _ _ _ (by omega) (by omega), Option.bind_some,
        then_eq _ _ _ (by omega) (by omega), Option.bind_some, then_eq _ _ _ (by rw [turned_length]; omega) (by rw [turned_length]; omega), Option.bind_some]
      have hd : decide (l0 = l0) = true := by simp
      rw [hd]
      exact law_turns_loop l0 true _ _ (then_turned l0 hp) (then_turned' l0 hp) (by omega) l0.length 0 1500 (by omega) (by omega)
    · have hf : (((turnOf l0).length : Int) != (l0.length : Int)) = true := by
        rw [bne_iff_ne]
        omega
      rw [hf, catchwordlaw10_RemapTurns.j0, if_pos rfl]
end Go.Proofs.Ytldojbonaecngaa.Pure
