import Derived.Test.YtkdbfeapfcflmaaPD
import Derived.Test.YtkdbfeapfcflmaaTx4
import Derived.Test.YtkdbfeapfcflmaaTx5
import Derived.Lib.Bytealg
/- Plain facts for Best: the document's orders. -/
namespace Go.Proofs.Ytkdbfeapfcflmaa.Plain
set_option linter.unusedVariables false
set_option linter.unusedSimpArgs false
open Go.RowKit Go.Proofs.Ytkdbfeapfcflmaa.T Go.Proofs.YtkdbfeapfcflmaaW.PrintWords Go.Proofs.YtkdbfeapfcflmaaW.PrintLast
def ideq (x y : S27) : Bool := decide (x.f0.toList = y.f0.toList)
def mayRec (l : List S27) : Nat → Nat → Bool
  | _, 0 => true
  | i, d + 1 => match l[i]? with
    | some x => okH x && (!(l.take i).any (fun y => ideq y x) && mayRec l (i + 1) d)
    | none => true
theorem rmay_l1 (l : List S27) (hl : l.length ≤ 1110) (i : Nat) (hi : i < l.length) (K : Nat) (R : Bool) (hR : ∀ k, K ≤ k → catchwordref20_May.l0 k l ((i + 1 : Nat) : Int) = some R) :
    ∀ d j k, j + d = i → K + d < k → catchwordref20_May.l1 k l (i : Int) (j : Int) = some (!((l.take i).drop j).any (fun y => ideq y l[i]) && R)
  | d, j, 0, _, h => absurd h (by omega)
  | 0, j, k + 1, h, hk => by
    rw [catchwordref20_May.l1, if_neg (by omega), w1 i (by omega), hR k (by omega), List.drop_eq_nil_of_le (by rw [List.length_take]; omega)]
    rfl
  | d + 1, j, k + 1, h, hk => by
    have hj : j < l.length := by omega
    have hj2 : j < (l.take i).length := by rw [List.length_take]; omega
    rw [catchwordref20_May.l1, if_pos (by omega), if_pos (by omega), if_pos (by omega), if_pos (by omega), if_pos (by omega), rd27 _ _ hj, rd27 _ _ hi, w1 j (by omega), List.drop_eq_getElem_cons hj2, List.any_cons, List.getElem_take]
    by_cases he : l[j].f0.toList = l[i].f0.toList
    · rw [if_pos he]
      have : ideq l[j] l[i] = true := by unfold ideq; exact decide_eq_true he
      rw [this]; rfl
    · rw [if_neg he]
      have : ideq l[j] l[i] = false := by unfold ideq; exact decide_eq_false he
      rw [this, Bool.false_or]
      exact rmay_l1 l hl i hi K R hR d (j + 1) k (by omega) (by omega)
set_option maxRecDepth 100000 in
theorem rmay_l0 (l : List S27) (hl : l.length ≤ 1110) (hu : ∀ x ∈ l, HitG x) (K0 : Nat) (hK0 : KB ≤ K0) : ∀ d i k, i + d = l.length → K0 + 1200 * d + 1200 < k → catchwordref20_May.l0 k l (i : Int) = some (mayRec l i d) := by
  intro d
  induction d with
  | zero =>
    intro i k h hk
    obtain ⟨k, rfl⟩ : ∃ m, k = m + 2 := ⟨k - 2, by omega⟩
    rw [catchwordref20_May.l0, if_neg (by omega)]
    rfl
  | succ d ihd =>
    intro i k h hk
    obtain ⟨k, rfl⟩ : ∃ m, k = m + 2 := ⟨k - 2, by omega⟩
    have hi : i < l.length := by omega
    have hkb : 40000000000000000000 + 1200 * (d + 1) + 1200 < k + 2 := by
      have e : 40000000000000000000 ≤ K0 := hK0
      omega
    have hux := hit_u (hu l[i] (List.getElem_mem hi))
    have hu2 := hux.2
    unfold U at hu2
    have ih : ∀ kk, K0 + 1200 * d + 1200 + 1 ≤ kk → catchwordref20_May.l0 kk l ((i + 1 : Nat) : Int) = some (mayRec l (i + 1) d) := by
      intro kk hkk
      refine ihd (i + 1) kk ?_ ?_
      · omega
      · clear hkb ihd hux hu2; omega
    rw [catchwordref20_May.l0, if_pos (by omega), if_pos (by omega), rd27 _ _ hi, rmay_eq (k + 1) l[i].f2 hux.1 hux.2 (by omega), Option.bind_some, mayRec, List.getElem?_eq_getElem hi]
    simp only
    have hj : ∀ b, catchwordref20_May.j1 (k + 1) l (i : Int) b = some (!b && (!(l.take i).any (fun y => ideq y l[i]) && mayRec l (i + 1) d)) := fun b => by
      rw [catchwordref20_May.j1]
      cases b with
      | true => simp
      | false =>
        rw [if_neg (by simp)]
        have := rmay_l1 l hl i hi (K0 + 1200 * d + 1200 + 1) _ ih i 0 k (by omega) (by omega)
        rw [List.drop_zero] at this
        simpa using this
    rw [hj, hj]
    unfold okH
    cases ho : okF l[i].f2 with
    | false => simp
    | true =>
      rw [if_pos rfl]
      by_cases h1 : (l[i].f0.size : Int) < 1
      · rw [if_pos h1, decide_eq_false (by omega : ¬ 1 ≤ l[i].f0.size)]; simp
      · rw [if_neg h1, decide_eq_true (by omega : 1 ≤ l[i].f0.size)]
        by_cases h2 : (l[i].f0.size : Int) > 16
        · rw [if_pos h2, decide_eq_false (by omega : ¬ l[i].f0.size ≤ 16)]; simp
        · rw [if_neg h2, decide_eq_true (by omega : l[i].f0.size ≤ 16)]
          by_cases h3 : l[i].f1 < 0
          · rw [if_pos h3, decide_eq_false (by omega : ¬ 0 ≤ l[i].f1)]; simp
          · rw [if_neg h3, decide_eq_true (by omega : 0 ≤ l[i].f1)]
            congr 1
            by_cases h4 : l[i].f1 > 1073741824
            · rw [decide_eq_true h4, decide_eq_false (by omega : ¬ l[i].f1 ≤ 1073741824)]; simp
            · rw [decide_eq_false h4, decide_eq_true (by omega : l[i].f1 ≤ 1073741824)]; simp
theorem mayRec_iff (l : List S27) : ∀ d i, i + d = l.length → (mayRec l i d = true ↔ ∀ m (hm : m < l.length), i ≤ m → okH l[m] = true ∧ ∀ j (hj : j < m), (l[j]'(by omega)).f0.toList ≠ l[m].f0.toList)
  | 0, i, h => by simp [mayRec]; intro m hm hi; omega
  | d + 1, i, h => by
    have hi : i < l.length := by omega
    rw [mayRec, List.getElem?_eq_getElem hi]
    simp only [Bool.and_eq_true, Bool.not_eq_true', mayRec_iff l d (i + 1) (by omega)]
    constructor
    · rintro ⟨h1, h2, h3⟩ m hm him
      by_cases e : m = i
      · subst e
        refine ⟨h1, fun j hj he => ?_⟩
        rw [← Bool.not_eq_true] at h2
        apply h2
        rw [List.any_eq_true]
        refine ⟨l[j], ?_, by unfold ideq; exact decide_eq_true he⟩
        rw [List.mem_take_iff_getElem]
        exact ⟨j, by omega, rfl⟩
      · exact h3 m hm (by omega)
    · intro hall
      refine ⟨(hall i hi (Nat.le_refl _)).1, ?_, fun m hm him => hall m hm (by omega)⟩
      rw [← Bool.not_eq_true, List.any_eq_true]
      rintro ⟨y, hy, he⟩
      rw [List.mem_take_iff_getElem] at hy
      obtain ⟨j, hj, rfl⟩ := hy
      exact (hall i hi (Nat.le_refl _)).2 j (by omega) (of_decide_eq_true he)
theorem mayRec_eq (l : List S27) (hl : l.length ≤ 1100) : mayRec l 0 l.length = mayB l := by
  rw [Bool.eq_iff_iff, mayRec_iff l l.length 0 (by omega)]
  unfold mayB
  rw [decide_eq_true hl]
  simp only [Bool.and_eq_true, List.all_eq_true, and_true, decide_eq_true_eq]
  constructor
  · intro h
    refine ⟨fun x hx => ?_, ?_⟩
    · obtain ⟨j, hj, rfl⟩ := List.getElem_of_mem hx
      exact (h j hj (Nat.zero_le _)).1
    · unfold idsOf
      rw [List.Nodup, List.pairwise_map, List.pairwise_iff_getElem]
      intro i j hi hj hij
      have := (h j hj (Nat.zero_le _)).2 i hij
      rw [toList_data, toList_data] at this
      exact this
  · rintro ⟨h1, h2⟩ m hm _
    refine ⟨h1 _ (List.getElem_mem hm), fun j hj => ?_⟩
    unfold idsOf at h2
    rw [List.Nodup, List.pairwise_map, List.pairwise_iff_getElem] at h2
    rw [toList_data, toList_data]
    exact h2 j m (by omega) hm hj
theorem refmay_eq (k : Nat) (l : List S27) (hl : l.length ≤ 5000) (hu : ∀ x ∈ l, HitG x) (hk : KB + 3000000 ≤ k) : catchwordref20_May.f k l = some (mayB l) := by
  unfold catchwordref20_May.f
  by_cases h : (l.length : Int) > 1100
  · rw [if_pos h]
    unfold mayB
    rw [decide_eq_false (by omega : ¬ l.length ≤ 1100)]
    simp
  · rw [if_neg h, ← mayRec_eq l (by omega)]
    exact rmay_l0 l (by omega) hu KB (Nat.le_refl _) l.length 0 k (by omega) (by omega)
/-! ### the document's orders -/
theorem bytesLess_cb : ∀ a b : List UInt8, Op.bytesLess a b = true ↔ Lib.compareBytes a b < 0
  | [], [] => by simp [Op.bytesLess, Lib.compareBytes]
  | [], _ :: _ => by simp [Op.bytesLess, Lib.compareBytes]
  | _ :: _, [] => by simp [Op.bytesLess, Lib.compareBytes]
  | x :: r, y :: s => by
    rw [Op.bytesLess, Lib.compareBytes]
    by_cases h1 : x < y
    · simp [h1]
    · by_cases h2 : y < x
      · have h3 : (x == y) = false := by
          rw [beq_eq_false_iff_ne]
          intro he
          subst he
          exact h1 h2
        simp [h1, h2, h3]
      · obtain rfl := u8_eq_of _ _ h1 h2
        have ih := bytesLess_cb r s
        simp [h1]
        exact ih
theorem size_list (a : ByteArray) : a.data.toList.length = a.size := by rw [Array.length_toList]; rfl
theorem bt_nat (a : ByteArray) (i : Nat) (h : i < a.data.toList.length) : bt a (i : Int) = ((a.data.toList[i].toNat : Nat) : Int) := by
  have h' : i < a.size := by rw [← size_list]; exact h
  simp [bt, h', ByteArray.getElem_eq_getElem_data]
theorem below_loop (a b : ByteArray) (ha : a.size ≤ 1000) (hb : b.size ≤ 1000) : ∀ d i k, i + d = a.size → i ≤ b.size → 2 * d + 1 < k → catchwordref03_Below.l0 k a b (i : Int) = some (decide (Lib.compareBytes (a.data.toList.drop i) (b.data.toList.drop i) < 0))
  | d, i, 0, _, _, h => absurd h (by omega)
  | d, i, 1, _, _, h => absurd h (by omega)
  | 0, i, k + 2, h, hb2, _ => by
    rw [catchwordref03_Below.l0, if_neg (by omega), catchwordref03_Below.j1, if_neg (by decide), List.drop_eq_nil_of_le (by rw [size_list]; omega)]
    by_cases h2 : i < b.size
    · rw [List.drop_eq_getElem_cons (by rw [size_list]; omega : i < b.data.toList.length), decide_eq_true (by omega)]
      simp [Lib.compareBytes]
    · rw [List.drop_eq_nil_of_le (by rw [size_list]; omega), decide_eq_false (by omega)]
      simp [Lib.compareBytes]
  | d + 1, i, k + 2, h, hb2, hk => by
    have hia : i < a.data.toList.length := by rw [size_list]; omega
    rw [catchwordref03_Below.l0, if_pos (by omega), List.drop_eq_getElem_cons hia]
    by_cases h2 : i < b.size
    · have hib : i < b.data.toList.length := by rw [size_list]; omega
      rw [decide_eq_true (by omega), catchwordref03_Below.j1, if_pos rfl, if_pos (by omega), if_pos (by omega), if_pos (by omega), bt_nat _ _ hia, bt_nat _ _ hib, List.drop_eq_getElem_cons hib, w1 i (by omega), Lib.compareBytes]
      by_cases he : a.data.toList[i] = b.data.toList[i]
      · have hn : ¬ a.data.toList[i] < b.data.toList[i] := by rw [UInt8.lt_iff_toNat_lt, he]; omega
        have hn' : ¬ b.data.toList[i] < a.data.toList[i] := by rw [UInt8.lt_iff_toNat_lt, he]; omega
        rw [if_pos (by rw [he]), if_neg hn, if_neg hn']
        exact below_loop a b ha hb d (i + 1) k (by omega) (by omega) (by omega)
      · have hne : ¬ (a.data.toList[i].toNat : Int) = (b.data.toList[i].toNat : Int) := fun h => he (UInt8.toNat_inj.1 (by omega))
        rw [if_neg hne]
        by_cases hlt : a.data.toList[i] < b.data.toList[i]
        · rw [if_pos hlt]
          rw [UInt8.lt_iff_toNat_lt] at hlt
          rw [decide_eq_true (by omega)]
          rfl
        · have hgt : b.data.toList[i] < a.data.toList[i] := by
            rw [UInt8.lt_iff_toNat_lt] at *
            omega
          rw [if_neg hlt, if_pos hgt]
          rw [UInt8.lt_iff_toNat_lt] at hlt
          rw [decide_eq_false (by omega)]
          rfl
    · rw [decide_eq_false (by omega), catchwordref03_Below.j1, if_neg (by decide), (List.drop_eq_nil_of_le (by rw [size_list]; omega) : b.data.toList.drop i = []), decide_eq_false (by omega)]
      simp [Lib.compareBytes]
theorem below_eq (k : Nat) (a b : ByteArray) (ha : a.size ≤ 40) (hb : b.size ≤ 40) (hk : 90 ≤ k) : catchwordref03_Below.f k a b = some (Op.bytesLess a.toList b.toList) := by
  have h := below_loop a b (by omega) (by omega) a.size 0 k (by omega) (by omega) (by omega)
  rw [List.drop_zero, List.drop_zero] at h
  unfold catchwordref03_Below.f
  rw [show (0 : Int) = ((0 : Nat) : Int) from rfl, h]
  congr 1
  rw [Bool.eq_iff_iff, decide_eq_true_eq, toList_data, toList_data, bytesLess_cb]
theorem rahead_eq (k : Nat) (a b : S27) (ha : U a.f2.f0 ∧ U a.f2.f1) (hb : U b.f2.f0 ∧ U b.f2.f1) (sa : a.f0.size ≤ 40) (sb : b.f0.size ≤ 40) (hk : KB ≤ k) : catchwordref20_Ahead.f k a.f0 a.f1 a.f2.f0 a.f2.f1 b.f0 b.f1 b.f2.f0 b.f2.f1 = some (aheadB a b) := by
  have hk' : 40000000000000000000 ≤ k := hk
  have h1 := ha.2; have h2 := hb.2
  unfold U at h1 h2
  unfold catchwordref20_Ahead.f aheadB
  rw [rless_eq k b.f2 a.f2 hb ha (by omega), rless_eq k a.f2 b.f2 ha hb (by omega), below_eq k _ _ sa sb (by omega)]
  cases lessB b.f2 a.f2 <;> cases lessB a.f2 b.f2 <;> simp
theorem rsooner_eq (k : Nat) (a b : S27) (sa : a.f0.size ≤ 40) (sb : b.f0.size ≤ 40) (hk : 90 ≤ k) : catchwordref20_Sooner.f k a.f0 a.f1 a.f2.f0 a.f2.f1 b.f0 b.f1 b.f2.f0 b.f2.f1 = some (soonerB a b) := by
  unfold catchwordref20_Sooner.f soonerB
  rw [below_eq k _ _ sa sb hk]
  by_cases h1 : a.f1 < b.f1
  · simp [h1]
  · by_cases h2 : a.f1 = b.f1
    · simp [h1, h2]
    · simp [h1, h2]

end Go.Proofs.Ytkdbfeapfcflmaa.Plain
