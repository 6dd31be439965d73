import Derived.Test.YtldojbonaecngaaPA
import Derived.Test.YtldojbonaecngaaTx3
import Derived.Test.YtldojbonaecngaaHe
namespace Go.Proofs.Ytldojbonaecngaa.Pure
open Go.RowKit Go.Proofs.Ytldojbonaecngaa.T Go.Proofs.YtldojbonaecngaaW.PrintWords Go.Proofs.YtldojbonaecngaaW.PrintLast
/-! ### Order: the sorted list by insertion -/
def insB (lt : Nat → Nat → Bool) (i : Nat) : List Nat → List Nat
  | [] => [i]
  | x :: r => if lt i x then i :: x :: r else x :: insB lt i r
def insN (lt : Nat → Nat → Bool) : Nat → List Nat
  | 0 => []
  | n + 1 => insB lt n (insN lt n)
def ltB (keys : List Int) (ids : List ByteArray) (x y : Nat) : Bool := decide (ordCmp keys ids x y < 0)
theorem ltB_iff (keys : List Int) (ids : List ByteArray) (x y : Nat) : ltB keys ids x y = true ↔ ordLess keys ids x y := by
  unfold ltB
  rw [decide_eq_true_iff, ordCmp_less]
theorem insB_perm (lt : Nat → Nat → Bool) (i : Nat) : ∀ l, (insB lt i l).Perm (i :: l)
  | [] => List.Perm.refl _
  | x :: r => by
    unfold insB
    by_cases h : lt i x = true
    · rw [if_pos h]
    · rw [if_neg h]
      exact ((insB_perm lt i r).cons x).trans (List.Perm.swap i x r)
theorem insN_perm (lt : Nat → Nat → Bool) : ∀ n, (insN lt n).Perm (List.range n)
  | 0 => List.Perm.refl _
  | n + 1 => by
    rw [insN, List.range_succ]
    exact (insB_perm lt n _).trans (((insN_perm lt n).cons n).trans (List.perm_append_singleton n _).symm)
def LeO_ (keys : List Int) (ids : List ByteArray) (x y : Nat) : Prop := ¬ ordLess keys ids y x
theorem leO_trans (keys : List Int) (ids : List ByteArray) (x y z : Nat) (h : LeO_ keys ids x y) (h' : LeO_ keys ids y z) : LeO_ keys ids x z := by
  intro hl
  by_cases h1 : x = y
  · subst h1
    exact h' hl
  · by_cases h2 : y = z
    · subst h2
      exact h hl
    · have g1 := (ordLess_total keys ids x y h1).resolve_right h
      have g2 := (ordLess_total keys ids y z h2).resolve_right h'
      exact ordLess_irrefl _ _ _ (ordLess_trans _ _ _ _ _ hl (ordLess_trans _ _ _ _ _ g1 g2))
theorem leO_of_less (keys : List Int) (ids : List ByteArray) (x y : Nat) (h : ordLess keys ids x y) : LeO_ keys ids x y := fun h' => ordLess_irrefl _ _ _ (ordLess_trans _ _ _ _ _ h h')
theorem insB_sorted (keys : List Int) (ids : List ByteArray) (i : Nat) : ∀ l, l.Pairwise (LeO_ keys ids) → (insB (ltB keys ids) i l).Pairwise (LeO_ keys ids)
  | [], _ => List.pairwise_singleton _ _
  | x :: r, h => by
    obtain ⟨h1, h2⟩ := List.pairwise_cons.1 h
    unfold insB
    by_cases hl : ltB keys ids i x = true
    · rw [if_pos hl]
      rw [ltB_iff] at hl
      refine List.pairwise_cons.2 ⟨fun y hy => ?_, h⟩
      rcases List.mem_cons.1 hy with rfl | hy
      · exact leO_of_less _ _ _ _ hl
      · exact leO_trans _ _ _ _ _ (leO_of_less _ _ _ _ hl) (h1 y hy)
    · rw [if_neg hl]
      rw [ltB_iff] at hl
      refine List.pairwise_cons.2 ⟨fun y hy => ?_, insB_sorted keys ids i r h2⟩
      rcases List.mem_cons.1 ((insB_perm _ _ _).mem_iff.1 hy) with rfl | hy
      · exact hl
      · exact h1 y hy
theorem insN_sorted (keys : List Int) (ids : List ByteArray) : ∀ n, (insN (ltB keys ids) n).Pairwise (LeO_ keys ids)
  | 0 => List.Pairwise.nil
  | n + 1 => insB_sorted keys ids n _ (insN_sorted keys ids n)
theorem orderOf_eq (keys : List Int) (ids : List ByteArray) : orderOf keys ids = (insN (ltB keys ids) keys.length).map fun i : Nat => (i : Int) := by
  have hm : ((List.finRange keys.length).mergeSort fun x y => !(ltOf (ordFin keys ids keys.length)) y x).map (fun i => i.val) = insN (ltB keys ids) keys.length := by
    refine List.Perm.eq_of_pairwise (le := LeO_ keys ids) (fun a b _ _ h1 h2 => ?_) ?_ (insN_sorted keys ids _) ?_
    · apply Classical.byContradiction
      intro hne
      rcases ordLess_total keys ids a b hne with hl | hl
      · exact h2 hl
      · exact h1 hl
    · rw [List.pairwise_map]
      have hp := List.pairwise_mergeSort (le := fun x y => !(ltOf (ordFin keys ids keys.length)) y x) (fun a b c h1 h2 => by
        simp only [Bool.not_eq_true'] at h1 h2 ⊢
        exact (ordFin_swo keys ids keys.length).ntrans _ _ _ h2 h1) (fun a b => by
        by_cases h : ltOf (ordFin keys ids keys.length) b a = true
        · by_cases h' : ltOf (ordFin keys ids keys.length) a b = true
          · rw [ordFin_lt] at h h'
            exact absurd (ordLess_trans _ _ _ _ _ h h') (ordLess_irrefl _ _ _)
          · simp [Bool.eq_false_iff.mpr h']
        · simp [Bool.eq_false_iff.mpr h]) (List.finRange keys.length)
      refine hp.imp fun {a b} h => ?_
      simp only [Bool.not_eq_true'] at h
      exact (ordFin_not _ _ _ _ _).1 h
    · refine ((List.mergeSort_perm _ _).map _).trans ?_
      have : (List.finRange keys.length).map (fun i => i.val) = List.range keys.length := by
        apply List.ext_getElem
        · simp
        · intro i h1 h2
          simp
      rw [this]
      exact (insN_perm _ _).symm
  unfold orderOf
  rw [← hm, List.map_map]
  rfl
/-! ### awake -/
theorem awake_order : remap_Order.f [7, 3, 7] [⟨#[98]⟩, ⟨#[97]⟩, ⟨#[97]⟩] = some [1, 2, 0] := by
  unfold remap_Order.f
  rw [if_pos (by decide), orderOf_eq]
  decide +kernel
theorem awake_rest : ((remap_Table.f (([true, false, true] : List Bool)) 5).bind fun t153 => ((remap_Carry.f 40 2 (([(([0, 1] : List Int))] : List (List Int))) (([(([true, true] : List Bool))] : List (List Bool))) (([(([true, false] : List Bool))] : List (List Bool)))).bind fun t174 => ((catchwordref01_Ints.f 40 t153 (([5, (-1), 6] : List Int))).bind fun t180 => (if t180 = true then ((catchwordref01_Ints.f 40 [1, 2, 0] (([1, 2, 0] : List Int))).bind fun t184 => (if t184 = true then ((remap_Turn.f 40 [1, 2, 0]).bind fun t185 => ((catchwordref01_Ints.f 40 t185 (([2, 0, 1] : List Int))).bind fun t191 => (if t191 = true then ((remap_Then.f 40 (([2, (-1), 9] : List Int)) [1, 2, 0]).bind fun t195 => ((catchwordref01_Ints.f 40 t195 (([0, (-1), (-1)] : List Int))).bind fun t201 => (if t201 = true then ((catchwordref04_Bools.f 40 t174 (([true, false] : List Bool))).bind fun t205 => (some t205)) else (some false)))) else (some false)))) else (some false))) else (some false))))) = some true := by decide +kernel
theorem awake40 : catchwordlaw10_awake.f 40 = some true := by
  unfold catchwordlaw10_awake.f
  rw [awake_order, Option.bind_some]
  exact awake_rest
theorem awake_eq (k : Nat) (hk : 40 ≤ k) : catchwordlaw10_awake.f k = some true := at_rounds (g := fun k => catchwordlaw10_awake.f k) (fun k => catchwordlaw10_awake.mono k) hk awake40
end Go.Proofs.Ytldojbonaecngaa.Pure
