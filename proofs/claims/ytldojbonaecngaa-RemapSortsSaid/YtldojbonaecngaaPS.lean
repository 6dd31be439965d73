import Derived.Test.YtldojbonaecngaaPQ
import Derived.Test.YtldojbonaecngaaPF0
import Derived.Test.YtldojbonaecngaaTx11
namespace Go.Proofs.Ytldojbonaecngaa.Pure
set_option linter.unusedVariables false
set_option linter.unusedSimpArgs false
open Go.RowKit Go.Proofs.Ytldojbonaecngaa.T Go.Proofs.YtldojbonaecngaaW.PrintWords Go.Proofs.YtldojbonaecngaaW.PrintLast
theorem w_pred (i : Nat) (h : i < 9223372036854775807) : wrap64 (((i + 1 : Nat) : Int) - 1) = (i : Int) := by
  unfold wrap64
  omega
theorem toList_data (a : ByteArray) : a.toList = a.data.toList := ByteArray.toList_eq a
theorem bytesLess_cb : ∀ a b : List UInt8, Op.bytesLess a b = true ↔ Lib.compareBytes a b < 0
  | [], [] => by simp [Op.bytesLess, Lib.compareBytes]
  | [], _ :: _ => by simp [Op.bytesLess, Lib.compareBytes]
  | _ :: _, [] => by simp [Op.bytesLess, Lib.compareBytes]
  | x :: r, y :: s => by
    rw [Op.bytesLess, Lib.compareBytes]
    by_cases h1 : x < y
    · simp [h1]
    · by_cases h2 : y < x
      · have h3 : (x == y) = false := by
          rw [beq_eq_false_iff_ne]
          intro he
          subst he
          exact h1 h2
        simp [h1, h2, h3]
      · obtain rfl := u8_eq_of _ _ h1 h2
        have ih := bytesLess_cb r s
        simp [h1]
        exact ih
/-- the place list of Order, as a list of numbers -/
theorem ins_pair (keys : List Int) (ids : List ByteArray) (n i : Nat) (hi : i + 1 < (insN (ltB keys ids) n).length) : ¬ ordLess keys ids (insN (ltB keys ids) n)[i + 1] (insN (ltB keys ids) n)[i] :=
  List.pairwise_iff_getElem.1 (insN_sorted keys ids n) i (i + 1) (by omega) hi (by omega)
theorem ins_perm_ (keys : List Int) (ids : List ByteArray) (n : Nat) : Perm_ (castL (insN (ltB keys ids) n)) := by
  refine ⟨fun x hx => ?_, ?_⟩
  · obtain ⟨j, hj, rfl⟩ := List.mem_map.1 hx
    have := (insN_mem _ _ _).1 hj
    rw [castL_length, insN_length]
    omega
  · unfold castL List.Nodup
    rw [List.pairwise_map]
    have hnd : (insN (ltB keys ids) n).Nodup := (insN_perm _ n).nodup_iff.2 List.nodup_range
    exact List.Pairwise.imp (fun {a b} hab he => hab (by omega)) hnd
theorem law_sorts_loop (keys : List Int) (ids : List ByteArray) (n : Nat) (hk : keys.length = n) (hd : ids.length = n) (hn : n ≤ 1100) : ∀ d i k, i + 1 + d = n → d < k → catchwordlaw10_RemapSorts.l0 k keys ids (castL (insN (ltB keys ids) n)) ((i + 1 : Nat) : Int) = some true
  | d, i, 0, _, h => absurd h (by omega)
  | 0, i, k + 1, h, _ => by
    rw [catchwordlaw10_RemapSorts.l0, if_neg (by rw [castL_length, insN_length]; omega)]
  | d + 1, i, k + 1, h, hk2 => by
    have hi1 : i + 1 < (insN (ltB keys ids) n).length := by rw [insN_length]; omega
    have hi0 : i < (insN (ltB keys ids) n).length := by omega
    have hp := ins_pair keys ids n i hi1
    have ha : (insN (ltB keys ids) n)[i] < n := (insN_mem _ _ _).1 (List.getElem_mem _)
    have hb : (insN (ltB keys ids) n)[i + 1] < n := (insN_mem _ _ _).1 (List.getElem_mem _)
    have ih : catchwordlaw10_RemapSorts.l0 k keys ids (castL (insN (ltB keys ids) n)) (wrap64 (((i + 1 : Nat) : Int) + 1)) = some true := by
      rw [w1 (i + 1) (by omega)]
      exact law_sorts_loop keys ids n hk hd hn d (i + 1) k (by omega) (by omega)
    have hl : (castL (insN (ltB keys ids) n)).length = n := by rw [castL_length, insN_length]
    rw [catchwordlaw10_RemapSorts.l0, w_pred i (by omega), if_pos (by omega), if_pos (by omega), if_pos (by omega), if_pos (by omega), rd_cast _ _ hi0, rd_cast _ _ hi1]
    generalize (insN (ltB keys ids) n)[i] = a at hp ha ⊢
    generalize (insN (ltB keys ids) n)[i + 1] = b at hp hb ⊢
    rw [if_pos (by omega), if_pos (by omega), if_pos (by omega), if_pos (by omega)]
    unfold ordLess at hp
    have n1 : ¬ rd keys (a : Int) > rd keys (b : Int) := fun h => hp (.inl h)
    rw [if_neg n1]
    by_cases c1 : rd keys (a : Int) = rd keys (b : Int)
    · rw [if_pos c1, if_pos (by omega), if_pos (by omega), toList_data, toList_data]
      have n2 : ¬ Op.bytesLess (rdOf ByteArray.empty ids (b : Int)).data.toList (rdOf ByteArray.empty ids (a : Int)).data.toList = true := fun h => hp (.inr ⟨c1.symm, .inl ((bytesLess_cb _ _).1 h)⟩)
      rw [if_neg n2]
      by_cases c2 : (rdOf ByteArray.empty ids (a : Int)).data.toList = (rdOf ByteArray.empty ids (b : Int)).data.toList
      · have n3 : ¬ (a : Int) > (b : Int) := fun h => hp (.inr ⟨c1.symm, .inr ⟨(bytes_ext _ _ c2).symm, by omega⟩⟩)
        rw [if_pos c2, if_neg n3]
        exact ih
      · rw [if_neg c2]
        exact ih
    · rw [if_neg c1]
      exact ih
theorem RemapSorts (l0 : List Int) (m0 : l0.length ≤ 9223372036854775807) (l1 : List ByteArray) (m1 : l1.length ≤ 9223372036854775807) (z1 : ∀ s ∈ l1, s.size ≤ 9223372036854775807) : ∃ k, catchwordlaw10_RemapSorts.f k l0 l1 = some true := by
  refine ⟨2002, ?_⟩
  obtain ⟨b, hb, hb2⟩ := names_eq 2002 l1 (by omega)
  unfold catchwordlaw10_RemapSorts.f
  rw [awake_eq _ (by omega), Option.bind_some, hb, Option.bind_some, if_pos rfl]
  cases b with
  | false => rw [if_neg (by decide), catchwordlaw10_RemapSorts.j0, if_pos rfl]
  | true =>
    rw [if_pos rfl]
    by_cases h1 : (l0.length : Int) > 200
    · rw [if_pos h1, catchwordlaw10_RemapSorts.j0, if_pos rfl]
    · rw [if_neg h1]
      by_cases h2 : l1.length = l0.length
      · have hf : ((l1.length : Int) != (l0.length : Int)) = false := by rw [h2]; simp
        have hc : orderOf l0 l1 = castL (insN (ltB l0 l1) l0.length) := orderOf_eq l0 l1
        have hlen : (castL (insN (ltB l0 l1) l0.length)).length = l0.length := by rw [castL_length, insN_length]
        have hp := ins_perm_ l0 l1 l0.length
        have hg : ((((turned (castL (insN (ltB l0 l1) l0.length))).length : Nat) : Int) != (((castL (insN (ltB l0 l1) l0.length)).length : Nat) : Int)) = false := by rw [turned_length]; simp
        rw [hf, catchwordlaw10_RemapSorts.j0, if_neg (by decide), remap_Order.f, if_pos ⟨h2.symm, by omega⟩, Option.bind_some, hc, if_pos (by omega), turn_eq _ _ (by omega), Option.bind_some, turnOf_perm _ hp (by omega), hg,
          catchwordlaw10_RemapSorts.j1, if_neg (by decide)]
        rcases Nat.eq_zero_or_pos l0.length with h0 | h0
        · rw [catchwordlaw10_RemapSorts.l0, if_neg (by omega)]
        · exact law_sorts_loop l0 l1 l0.length rfl h2 (by omega) (l0.length - 1) 0 2000 (by omega) (by omega)
      · have hf : ((l1.length : Int) != (l0.length : Int)) = true := by rw [bne_iff_ne]; omega
        rw [hf, catchwordlaw10_RemapSorts.j0, if_pos rfl]
end Go.Proofs.Ytldojbonaecngaa.Pure
