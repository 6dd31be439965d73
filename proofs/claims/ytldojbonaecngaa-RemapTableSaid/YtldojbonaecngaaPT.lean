import Derived.Test.YtldojbonaecngaaPB
import Derived.Test.YtldojbonaecngaaTj
namespace Go.Proofs.Ytldojbonaecngaa.Pure
set_option linter.unusedVariables false
set_option linter.unusedSimpArgs false
open Go.RowKit Go.Proofs.Ytldojbonaecngaa.T Go.Proofs.YtldojbonaecngaaW.PrintWords Go.Proofs.YtldojbonaecngaaW.PrintLast
theorem law_table_loop (l : List Bool) (p : List Int) (hp : p.length = l.length) (hl : l.length ≤ 64) : ∀ d i k (m : Nat), i + d = l.length → 2 * d < k → m ≤ 2000 + i → p.drop i = places (l.drop i) (m : Int) → catchwordlaw10_RemapTable.l0 k l p (m : Int) (i : Int) = some true
  | d, i, 0, _, _, h, _, _ => absurd h (by omega)
  | 0, i, k + 1, m, h, _, _, _ => by rw [catchwordlaw10_RemapTable.l0, if_neg (by omega)]
  | d + 1, i, 1, _, _, h, _, _ => absurd h (by omega)
  | d + 1, i, k + 2, m, h, hk, hm, hd => by
    have hi : i < l.length := by omega
    rw [List.drop_eq_getElem_cons hi, List.drop_eq_getElem_cons (by omega : i < p.length)] at hd
    rw [catchwordlaw10_RemapTable.l0, if_pos (by omega), if_pos (by omega), rdOf_nat _ _ _ hi, rd_nat _ _ (by omega)]
    by_cases he : l[i] = true
    · rw [he] at hd
      obtain ⟨h1, h2⟩ := List.cons.inj hd
      rw [if_pos he, if_pos (by omega), if_pos h1, catchwordlaw10_RemapTable.j2, if_neg (by decide), if_pos (by omega), if_pos (by omega), rdOf_nat _ _ _ hi, if_pos he, w1 m (by omega), w1 i (by omega)]
      exact law_table_loop l p hp hl d (i + 1) k (m + 1) (by omega) (by omega) (by omega) h2
    · rw [Bool.eq_false_iff.mpr he] at hd
      obtain ⟨h1, h2⟩ := List.cons.inj hd
      rw [if_neg he, if_pos (by omega), h1]
      show catchwordlaw10_RemapTable.j2 (k + 1) l p (m : Int) (i : Int) false = some true
      rw [catchwordlaw10_RemapTable.j2, if_neg (by decide), if_pos (by omega), if_pos (by omega), rdOf_nat _ _ _ hi, if_neg he, w1 i (by omega)]
      exact law_table_loop l p hp hl d (i + 1) k m (by omega) (by omega) (by omega) h2
theorem RemapTable (l0 : List Bool) (m0 : l0.length ≤ 9223372036854775807) (a1 : Int) : ∃ k, catchwordlaw10_RemapTable.f k l0 a1 = some true := by
  refine ⟨1501, ?_⟩
  unfold catchwordlaw10_RemapTable.f
  rw [awake_eq _ (by omega), Option.bind_some, if_pos rfl]
  by_cases h1 : (l0.length : Int) > 64
  · rw [if_pos h1, catchwordlaw10_RemapTable.j0, if_pos rfl]
  · rw [if_neg h1]
    by_cases h2 : a1 < 0
    · rw [if_pos h2, catchwordlaw10_RemapTable.j0, if_pos rfl]
    · rw [if_neg h2]
      by_cases h3 : a1 > 1100
      · rw [decide_eq_true h3, catchwordlaw10_RemapTable.j0, if_pos rfl]
      · rw [decide_eq_false h3, catchwordlaw10_RemapTable.j0, if_neg (by decide), remap_Table.f, if_pos ⟨by omega, by omega, by omega⟩, Option.bind_some, if_pos (by rw [places_length])]
        obtain ⟨m, rfl⟩ := Int.eq_ofNat_of_zero_le (by omega : 0 ≤ a1)
        exact law_table_loop l0 (places l0 m) (places_length _ _) (by omega) l0.length 0 1500 m (by omega) (by omega) (by omega) rfl
end Go.Proofs.Ytldojbonaecngaa.Pure
