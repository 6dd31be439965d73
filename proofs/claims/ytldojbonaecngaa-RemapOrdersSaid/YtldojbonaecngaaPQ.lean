import Derived.Test.YtldojbonaecngaaPD
namespace Go.Proofs.Ytldojbonaecngaa.Pure
set_option linter.unusedVariables false
set_option linter.unusedSimpArgs false
open Go.RowKit Go.Proofs.Ytldojbonaecngaa.T Go.Proofs.YtldojbonaecngaaW.PrintWords Go.Proofs.YtldojbonaecngaaW.PrintLast
/-! ### permutations -/
theorem perm_mem (p : List Int) (h : Perm_ p) (j : Nat) (hj : j < p.length) : (j : Int) ∈ p := by
  apply Classical.byContradiction
  intro hn
  have hsub : p ⊆ ((List.range p.length).map fun i : Nat => (i : Int)).erase (j : Int) := fun x hx => by
    have hx' := h.1 x hx
    have hne : x ≠ (j : Int) := fun he => hn (he ▸ hx)
    exact (List.mem_erase_of_ne hne).2 (List.mem_map.2 ⟨x.toNat, List.mem_range.2 (by omega), by omega⟩)
  have hle := nodup_le _ _ h.2 (fun _ hx => hsub hx)
  rw [List.length_erase_of_mem (List.mem_map.2 ⟨j, List.mem_range.2 hj, rfl⟩)] at hle
  simp at hle
  omega
theorem place_lt (p : List Int) (h : Perm_ p) (j : Nat) (hj : j < p.length) : place p (j : Int) < p.length := (place_mem p _).2 (perm_mem p h j hj)
theorem get_place (p : List Int) (x : Int) (h : place p x < p.length) : p[place p x] = x := List.getElem_idxOf h
theorem place_get (p : List Int) (h : p.Nodup) (i : Nat) (hi : i < p.length) : place p p[i] = i := h.idxOf_getElem i hi
theorem turned_perm (p : List Int) (h : Perm_ p) : Perm_ (turned p) := by
  refine ⟨fun x hx => ?_, ?_⟩
  · obtain ⟨j, hj, rfl⟩ := List.mem_map.1 hx
    have := place_lt p h j (List.mem_range.1 hj)
    rw [turned_length]
    omega
  · unfold turned List.Nodup
    rw [List.pairwise_map]
    refine (List.nodup_range (n := p.length)).imp_of_mem fun {a b} ha hb hne he => hne ?_
    have h1 := get_place p a (place_lt p h a (List.mem_range.1 ha))
    have h2 := get_place p b (place_lt p h b (List.mem_range.1 hb))
    have he' : place p (a : Int) = place p (b : Int) := by omega
    have e3 : p[place p (a : Int)]'(place_lt p h a (List.mem_range.1 ha)) = p[place p (b : Int)]'(place_lt p h b (List.mem_range.1 hb)) := by simp only [he']
    omega
theorem turned_get (p : List Int) (i : Nat) (hi : i < (turned p).length) : (turned p)[i] = ((place p (i : Int) : Nat) : Int) := by simp [turned]
theorem turned_turned (p : List Int) (h : Perm_ p) : turned (turned p) = p := by
  apply List.ext_getElem
  · simp [turned_length]
  · intro i h1 h2
    rw [turned_get]
    have hr := h.1 p[i] (List.getElem_mem _)
    have ht : p[i].toNat < (turned p).length := by rw [turned_length]; omega
    have hg : (turned p)[p[i].toNat] = (i : Int) := by
      rw [turned_get]
      have : ((p[i].toNat : Nat) : Int) = p[i] := by omega
      rw [this, place_get p h.2 i h2]
    have hp := place_get (turned p) (turned_perm p h).2 p[i].toNat ht
    rw [hg] at hp
    rw [hp]
    omega
theorem perm_nil : Perm_ [] := ⟨by simp, by simp⟩
theorem turnOf_perm (p : List Int) (h : Perm_ p) (hl : p.length ≤ 1100) : turnOf p = turned p := by
  unfold turnOf
  rw [if_pos ⟨hl, h⟩]
end Go.Proofs.Ytldojbonaecngaa.Pure
