import Derived.Test.YtldojbonaecngaaPB
import Derived.Test.YtldojbonaecngaaTd
namespace Go.Proofs.Ytldojbonaecngaa.Pure
set_option linter.unusedVariables false
set_option linter.unusedSimpArgs false
open Go.RowKit Go.Proofs.Ytldojbonaecngaa.T Go.Proofs.YtldojbonaecngaaW.PrintWords Go.Proofs.YtldojbonaecngaaW.PrintLast
def castL (l : List Nat) : List Int := l.map fun i : Nat => (i : Int)
theorem castL_append (a b : List Nat) : castL (a ++ b) = castL a ++ castL b := List.map_append
theorem castL_length (l : List Nat) : (castL l).length = l.length := by simp [castL]
theorem castL_drop (l : List Nat) (n : Nat) : (castL l).drop n = castL (l.drop n) := by simp [castL]
theorem rd_cast (l : List Nat) (i : Nat) (h : i < l.length) : rd (castL l) (i : Int) = (l[i] : Int) := by
  rw [rd_nat _ _ (by rw [castL_length]; exact h)]
  simp [castL]
theorem insN_mem (lt : Nat → Nat → Bool) (n x : Nat) : x ∈ insN lt n ↔ x < n := by
  rw [(insN_perm lt n).mem_iff, List.mem_range]
theorem insN_length (lt : Nat → Nat → Bool) (n : Nat) : (insN lt n).length = n := by
  rw [(insN_perm lt n).length_eq, List.length_range]
/-! ### names -/
theorem names_loop (l : List ByteArray) (hl : l.length ≤ 1200) : ∀ d i k, i + d = l.length → d < k → catchwordlaw10_names.l0 k l (i : Int) = some ((l.drop i).all fun s => decide (s.size ≤ 40))
  | d, i, 0, _, h => absurd h (by omega)
  | 0, i, k + 1, h, _ => by
    rw [catchwordlaw10_names.l0, if_neg (by omega), List.drop_eq_nil_of_le (by omega)]
    rfl
  | d + 1, i, k + 1, h, hk => by
    have hi : i < l.length := by omega
    rw [catchwordlaw10_names.l0, if_pos (by omega), if_pos (by omega), rdOf_nat _ _ _ hi, List.drop_eq_getElem_cons hi, w1 i (by omega), List.all_cons]
    by_cases h1 : ((l[i].size : Nat) : Int) > 40
    · rw [if_pos h1, decide_eq_false (by omega)]
      rfl
    · rw [if_neg h1, decide_eq_true (by omega), Bool.true_and]
      exact names_loop l hl d (i + 1) k (by omega) (by omega)
theorem names_eq (k : Nat) (l : List ByteArray) (hk : 1300 ≤ k) : ∃ b, catchwordlaw10_names.f k l = some b ∧ (b = true → l.length ≤ 1200 ∧ ∀ s ∈ l, s.size ≤ 40) := by
  unfold catchwordlaw10_names.f
  by_cases h : (l.length : Int) > 1200
  · rw [if_pos h]
    exact ⟨false, rfl, fun h => by cases h⟩
  · rw [if_neg h]
    refine ⟨_, names_loop l (by omega) l.length 0 k (by omega) (by omega), fun hb => ⟨by omega, fun s hs => ?_⟩⟩
    rw [List.drop_zero, List.all_eq_true] at hb
    exact of_decide_eq_true (hb s hs)
end Go.Proofs.Ytldojbonaecngaa.Pure
