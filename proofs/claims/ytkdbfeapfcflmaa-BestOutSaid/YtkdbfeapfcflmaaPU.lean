import Derived.Test.YtkdbfeapfcflmaaPQ
import Derived.Test.YtkdbfeapfcflmaaTx11
/- The plain law BestOut; where a hit is. -/
namespace Go.Proofs.Ytkdbfeapfcflmaa.Plain
set_option linter.unusedVariables false
set_option linter.unusedSimpArgs false
open Go.RowKit Go.Proofs.Ytkdbfeapfcflmaa.T Go.Proofs.YtkdbfeapfcflmaaW.PrintWords Go.Proofs.YtkdbfeapfcflmaaW.PrintLast
theorem bytes_ext (a b : ByteArray) (h : a.toList = b.toList) : a = b := by
  rw [toList_data, toList_data] at h
  obtain ⟨⟨a⟩⟩ := a
  obtain ⟨⟨b⟩⟩ := b
  simp only at h
  rw [h]
theorem like_iff (a b : S27) : ((a.f0.toList == b.f0.toList && (a.f1 == b.f1 && ((a.f2.f0 == b.f2.f0 && a.f2.f1 == b.f2.f1)))) = true) ↔ a = b := by
  simp only [Bool.and_eq_true, beq_iff_eq]
  constructor
  · rintro ⟨h0, h1, h2, h3⟩
    obtain ⟨a0, a1, ⟨a2, a3⟩⟩ := a
    obtain ⟨b0, b1, ⟨b2, b3⟩⟩ := b
    simp only at h0 h1 h2 h3
    rw [bytes_ext _ _ h0, h1, h2, h3]
  · rintro rfl
    exact ⟨rfl, rfl, rfl, rfl⟩
theorem find_loop (l : List S27) (x : S27) (hl : l.length ≤ 5000) : ∀ d i k, i + d = l.length → d < k →
    (x ∈ l.drop i → ∃ r : Nat, catchwordlaw20_find.l0 k l (i : Int) x.f0 x.f1 x.f2.f0 x.f2.f1 = some (r : Int)) ∧ (x ∉ l.drop i → catchwordlaw20_find.l0 k l (i : Int) x.f0 x.f1 x.f2.f0 x.f2.f1 = some (-1)) := by
  intro d
  induction d with
  | zero =>
    intro i k h hk
    obtain ⟨k, rfl⟩ : ∃ m, k = m + 1 := ⟨k - 1, by omega⟩
    rw [List.drop_eq_nil_of_le (by omega)]
    refine ⟨fun h => by simp at h, fun _ => ?_⟩
    rw [catchwordlaw20_find.l0, if_neg (by omega)]
  | succ d ih =>
    intro i k h hk
    obtain ⟨k, rfl⟩ : ∃ m, k = m + 1 := ⟨k - 1, by omega⟩
    have hi : i < l.length := by omega
    have ih' := ih (i + 1) k (by omega) (by omega)
    rw [catchwordlaw20_find.l0, if_pos (by omega), if_pos (by omega), rd27 l i hi, w1 i (by omega), List.drop_eq_getElem_cons hi]
    by_cases he : l[i] = x
    · rw [if_pos ((like_iff _ _).2 he)]
      exact ⟨fun _ => ⟨i, rfl⟩, fun hn => absurd (by rw [he]; simp) hn⟩
    · rw [if_neg (fun hh => he ((like_iff _ _).1 hh))]
      refine ⟨fun hm => ih'.1 ?_, fun hn => ih'.2 ?_⟩
      · rcases List.mem_cons.1 hm with h | h
        · exact absurd h.symm he
        · exact h
      · exact fun hh => hn (List.mem_cons_of_mem _ hh)
theorem find_in (l : List S27) (x : S27) (hl : l.length ≤ 5000) (hx : x ∈ l) : ∃ r : Nat, catchwordlaw20_find.f 5001 l x.f0 x.f1 x.f2.f0 x.f2.f1 = some (r : Int) :=
  (find_loop l x hl l.length 0 5001 (by omega) (by omega)).1 hx
theorem find_out (l : List S27) (x : S27) (hl : l.length ≤ 5000) (hx : x ∉ l) : catchwordlaw20_find.f 5001 l x.f0 x.f1 x.f2.f0 x.f2.f1 = some (-1) :=
  (find_loop l x hl l.length 0 5001 (by omega) (by omega)).2 hx
theorem top_facts {lt : S27 → S27 → Bool} (N : Nat) (l : List S27) (o : Order lt (fun z => z ∈ l)) (hn : l.Nodup) :
    ((sorted lt l).take N).length = min N l.length ∧ (∀ a ∈ (sorted lt l).take N, a ∈ l) ∧ (∀ j : Nat, j + 1 < ((sorted lt l).take N).length → lt (rd_T27 ((sorted lt l).take N) (j : Int)) (rd_T27 ((sorted lt l).take N) ((j + 1 : Nat) : Int)) = true) ∧
    (∀ x, x ∈ l → x ∉ (sorted lt l).take N → ∀ a ∈ (sorted lt l).take N, lt x a = false) := by
  have hp := sorted_perm (lt := lt) l
  have hs := sorted_sorted o l (fun y hy => hy) hn
  refine ⟨by rw [List.length_take, hp.length_eq], fun a ha => hp.subset (List.mem_of_mem_take ha), fun j hj => ?_, fun x hx hnx a ha => ?_⟩
  · rw [rd27 _ j (by omega), rd27 _ (j + 1) hj]
    exact List.pairwise_iff_getElem.1 (hs.sublist (List.take_sublist N _)) j (j + 1) (by omega) hj (by omega)
  · have hx' : x ∈ (sorted lt l).drop N := by
      have h := hp.symm.subset hx
      rw [← List.take_append_drop N (sorted lt l)] at h
      rcases List.mem_append.1 h with h | h
      · exact absurd h hnx
      · exact h
    rw [← List.take_append_drop N (sorted lt l)] at hs
    exact o.asymm (hp.subset (List.mem_of_mem_take ha)) hx ((List.pairwise_append.1 hs).2.2 a ha x hx')
theorem out_law (n : Int) (l : List S27) (hu : ∀ x ∈ l, HitG x) (hm : mayB l = true) (h0 : 0 ≤ n) (h1 : n ≤ 100) :
    (∃ N : Nat, (N : Int) = n ∧ (ofV aheadB n l (mayB l)).length = min N l.length ∧ (ofV soonerB n l (mayB l)).length = min N l.length) ∧
    ((∀ a ∈ ofV aheadB n l (mayB l), a ∈ l) ∧ (∀ j : Nat, j + 1 < (ofV aheadB n l (mayB l)).length → aheadB (rd_T27 (ofV aheadB n l (mayB l)) (j : Int)) (rd_T27 (ofV aheadB n l (mayB l)) ((j + 1 : Nat) : Int)) = true) ∧ (∀ x, x ∈ l → x ∉ ofV aheadB n l (mayB l) → ∀ a ∈ ofV aheadB n l (mayB l), aheadB x a = false)) ∧
    ((∀ a ∈ ofV soonerB n l (mayB l), a ∈ l) ∧ (∀ j : Nat, j + 1 < (ofV soonerB n l (mayB l)).length → soonerB (rd_T27 (ofV soonerB n l (mayB l)) (j : Int)) (rd_T27 (ofV soonerB n l (mayB l)) ((j + 1 : Nat) : Int)) = true) ∧ (∀ x, x ∈ l → x ∉ ofV soonerB n l (mayB l) → ∀ a ∈ ofV soonerB n l (mayB l), soonerB x a = false)) := by
  have hg := may_good hu hm
  have hnd := good_nodup hg
  have a1 := top_facts n.toNat l (ahead_order hg) hnd
  have a2 := top_facts n.toNat l (sooner_order hg.2 (fun x y hx hy hne => good_id hg hx hy hne)) hnd
  rw [ofV_on h0 h1 hm, ofV_on h0 h1 hm]
  exact ⟨⟨n.toNat, by omega, a1.1, a2.1⟩, a1.2, a2.2⟩
end Go.Proofs.Ytkdbfeapfcflmaa.Plain
