/- The reference's words; the statements' own examples. -/
import Derived.Test.YtecjnlaomompkaaDoorPD
namespace Go.Proofs.YtecjnlaomompkaaDoor.PC
open Go.RowKit Go.Proofs.YtecjnlaomompkaaDoor.T Go.Proofs.YtecjnlaomompkaaDoorW.PrintWords Go.Proofs.YtecjnlaomompkaaDoorW.PrintLast Go.Lib Go.Proofs.YtecjnlaomompkaaDoor.PA

def rOut (out : List ByteArray) (long : Bool) (ws : List ByteArray) : List ByteArray × Int :=
  if (long || ws.any (fun w => decide (32 < w.size))) = true then ([], 8) else (out ++ ws, 0)
theorem mkS_app (a b : List UInt8) : mkS a ++ mkS b = mkS (a ++ b) := by
  apply toList_inj.1
  rw [toList_data, toList_data]
  simp [mkS]
theorem mkS_nil : (⟨#[]⟩ : ByteArray) = mkS [] := rfl
theorem mkS_empty (l : List UInt8) : ((mkS l).toList = ([] : List UInt8)) ↔ l = [] := by rw [toList_data, mkS_list]
theorem low_text (b : UInt8) (h : (b.toNat : Int) ≥ 65) (h2 : (b.toNat : Int) ≤ 90) : strOfNums ([((b.toNat : Int) - 65 + 97) % 256]) = mkS [lowB b] := by
  rw [← str_nm]
  congr 1
  simp only [nm, List.map_cons, List.map_nil, lowB_toNat]
  congr 1
  unfold lowN
  rw [if_pos (by omega)]
  omega
theorem own_text (b : UInt8) (h : ¬ ((b.toNat : Int) ≥ 65 ∧ (b.toNat : Int) ≤ 90)) : strOfNums ([(b.toNat : Int)]) = mkS [lowB b] := by
  rw [← str_nm]
  congr 1
  simp only [nm, List.map_cons, List.map_nil, lowB_toNat]
  congr 1
  unfold lowN
  rw [if_neg (by omega)]
set_option maxHeartbeats 4000000 in
theorem ref_loop (S : ByteArray) (hS : S.size ≤ 240) : ∀ (d i : Nat), i + d = S.size → ∀ (out : List ByteArray) (long : Bool), out.length + d < 1000 →
    (∀ (now : List UInt8) (k : Nat), now.length + d ≤ 240 → 6 * d + 8 ≤ k → catchwordref05_Words.l1 k S out long (i : Int) (mkS now) = some (rOut out long (bw (S.data.toList.drop i ++ [32]) now))) ∧
    (∀ (k : Nat), 6 * d + 6 ≤ k → catchwordref05_Words.l0 k S out long (i : Int) = some (rOut out long (bw (S.data.toList.drop i ++ [32]) []))) := by
  intro d
  have hs := size_eq S
  induction d with
  | zero =>
    intro i hi out long ho
    have hd : S.data.toList.drop i = [] := List.drop_of_length_le (by omega)
    have h0 : ∀ (out : List ByteArray) (long : Bool) (k j : Nat), S.size ≤ j → catchwordref05_Words.l0 (k + 1) S out long (j : Int) = some (rOut out long []) := by
      intro out long k j hj
      rw [catchwordref05_Words.l0, if_neg (by omega)]
      unfold rOut
      simp only [List.any_nil, Bool.or_false, List.append_nil]
      split <;> rfl
    rw [hd, List.nil_append]
    refine ⟨?_, ?_⟩
    · intro now k hn hk
      obtain ⟨k, rfl⟩ : ∃ m, k = m + 3 := ⟨k - 3, by omega⟩
      rw [catchwordref05_Words.l1, if_neg (by omega), catchwordref05_Words.j2, if_neg (by simp), bw_no let_blank]
      by_cases e : now = []
      · rw [if_pos ((mkS_empty now).2 e), if_pos e, show wrap64 ((i : Int) + 1) = ((i + 1 : Nat) : Int) from by unfold wrap64; omega, h0 _ _ _ _ (by omega)]
        rfl
      · rw [if_neg (fun h => e ((mkS_empty now).1 h)), if_neg e, if_pos (by omega), Option.bind_some, mkS_size]
        unfold rOut
        cases long with
        | true =>
          rw [if_pos rfl, h0 _ _ _ _ (by omega)]
          rfl
        | false =>
          rw [if_neg (by simp), h0 _ _ _ _ (by omega)]
          unfold rOut
          simp only [bw, List.any_nil, List.any_cons, Bool.or_false, Bool.false_or, List.append_nil, mkS_size, decide_eq_true_eq]
          by_cases c : 32 < now.length
          · rw [if_pos (by omega), if_pos c]
          · rw [if_neg (by omega), if_neg c]
    · intro k hk
      obtain ⟨k, rfl⟩ : ∃ m, k = m + 1 := ⟨k - 1, by omega⟩
      rw [h0 _ _ _ _ (by omega), bw_no let_blank, if_pos rfl]
      rfl
  | succ d ih =>
    intro i hi out long ho
    have hlt : i < S.data.toList.length := by omega
    have hd : S.data.toList.drop i = S.data.toList[i] :: S.data.toList.drop (i + 1) := List.drop_eq_getElem_cons hlt
    have hbt : bt S (i : Int) = (S.data.toList[i].toNat : Int) := by rw [bt_list, List.getD_eq_getElem?_getD, List.getElem?_eq_getElem hlt]; rfl
    rw [hd]
    generalize S.data.toList[i] = b at *
    have hw : wrap64 ((i : Int) + 1) = ((i + 1 : Nat) : Int) := by unfold wrap64; omega
    have hlet : letB b = letN b.toNat := rfl
    -- one round inside a word, or at its end with nothing gathered
    have inner : ∀ (out : List ByteArray) (long : Bool) (now : List UInt8) (k : Nat), out.length + d < 1000 → now.length + (d + 1) ≤ 240 → 6 * (d + 1) + 4 ≤ k → (letB b = true ∨ now = []) → catchwordref05_Words.l1 k S out long (i : Int) (mkS now) = some (rOut out long (bw (b :: S.data.toList.drop (i + 1) ++ [32]) now)) := by
      intro out long now k ho' hn hk hor
      obtain ⟨k, rfl⟩ : ∃ m, k = m + 2 := ⟨k - 2, by omega⟩
      obtain ⟨ih1, ih0⟩ := ih (i + 1) (by omega) out long ho'
      rw [catchwordref05_Words.l1, if_pos (by omega), if_pos (by omega), hbt, letter_ref, Option.bind_some, catchwordref05_Words.j2, List.cons_append]
      cases hb : letB b with
      | true =>
        rw [if_pos (by rw [← hlet]; exact hb), if_pos (by omega), if_pos (by omega), bw_let hb, hbt]
        have fin : ∀ x : ByteArray, x = mkS [lowB b] → (if (mkS now).size + x.size ≤ 9223372036854775807 then (catchwordref05_Words.l1 k S out long (wrap64 ((i : Int) + 1)) (mkS now ++ x)) else none) = some (rOut out long (bw (S.data.toList.drop (i + 1) ++ [32]) (now ++ [lowB b]))) := by
          intro x hx
          subst hx
          rw [if_pos (by rw [mkS_size, mkS_size]; simp; omega), mkS_app, hw, ih1 _ _ (by simp; omega) (by omega)]
        by_cases c1 : (b.toNat : Int) ≥ 65
        · rw [if_pos c1]
          by_cases c2 : (b.toNat : Int) ≤ 90
          · rw [if_pos c2, Option.bind_some, fin _ (low_text b c1 c2)]
          · rw [if_neg c2, Option.bind_some, fin _ (own_text b (by omega))]
        · rw [if_neg c1, Option.bind_some, fin _ (own_text b (by omega))]
      | false =>
        have e : now = [] := hor.resolve_left (by rw [hb]; simp)
        subst e
        rw [if_neg (by rw [← hlet, hb]; simp), if_pos ((mkS_empty []).2 rfl), bw_no hb, if_pos rfl, hw, ih0 _ (by omega)]
    have outer : ∀ (out : List ByteArray) (long : Bool) (k : Nat), out.length + d < 1000 → d + 1 ≤ 240 → 6 * (d + 1) + 6 ≤ k → catchwordref05_Words.l0 k S out long (i : Int) = some (rOut out long (bw (b :: S.data.toList.drop (i + 1) ++ [32]) [])) := by
      intro out long k ho' hn hk
      obtain ⟨k, rfl⟩ : ∃ m, k = m + 1 := ⟨k - 1, by omega⟩
      rw [catchwordref05_Words.l0, if_pos (by omega), mkS_nil, inner out long [] k ho' (by simpa using hn) (by omega) (.inr rfl)]
    refine ⟨?_, fun k hk => outer out long k (by omega) (by omega) hk⟩
    intro now k hn hk
    by_cases hor : letB b = true ∨ now = []
    · exact inner out long now k (by omega) hn (by omega) hor
    · have hb : letB b = false := by
        cases h : letB b with
        | true => exact absurd (.inl h) hor
        | false => rfl
      have hne : now ≠ [] := fun e => hor (.inr e)
      obtain ⟨k, rfl⟩ : ∃ m, k = m + 2 := ⟨k - 2, by omega⟩
      rw [catchwordref05_Words.l1, if_pos (by omega), if_pos (by omega), hbt, letter_ref, Option.bind_some, catchwordref05_Words.j2, if_neg (by rw [← hlet, hb]; simp), if_neg (fun h => hne ((mkS_empty now).1 h)), if_pos (by omega), Option.bind_some, mkS_size, List.cons_append, bw_no hb, if_neg hne]
      have e2 : bw (b :: S.data.toList.drop (i + 1) ++ [32]) [] = bw (S.data.toList.drop (i + 1) ++ [32]) [] := by rw [List.cons_append, bw_no hb, if_pos rfl]
      cases long with
      | true =>
        rw [if_pos rfl, outer _ _ _ (by simp; omega) (by omega) (by omega)]
        rfl
      | false =>
        rw [if_neg (by simp), outer _ _ _ (by simp; omega) (by omega) (by omega), e2]
        unfold rOut
        simp only [List.any_cons, Bool.false_or, mkS_size, List.append_assoc, List.cons_append, List.nil_append]
        by_cases c : 32 < now.length
        · rw [decide_eq_true (show ((now.length : Nat) : Int) > 32 by omega), decide_eq_true c]
        · rw [decide_eq_false (show ¬ ((now.length : Nat) : Int) > 32 by omega), decide_eq_false c]
theorem Words_ref_eq (k : Nat) (a : ByteArray) (hk : 2000 ≤ k) : catchwordref05_Words.f k a = some (pWords a.data.toList) := by
  have hl := size_eq a
  unfold catchwordref05_Words.f pWords
  by_cases c : 240 < a.data.toList.length
  · rw [if_pos (by omega), if_pos c]
  · rw [if_neg (by omega), if_neg c, Valid_ref_eq k a (by omega) (by omega), Option.bind_some]
    by_cases hv : validD a.data.toList = true
    · rw [if_pos hv, if_pos hv]
      have h := ((ref_loop a (by omega) a.size 0 (by omega) [] false (by simp; omega)).2 k (by omega))
      rw [List.drop_zero] at h
      rw [show (0 : Int) = ((0 : Nat) : Int) from rfl, h]
      unfold rOut words
      rw [Bool.false_or, List.nil_append]
      rfl
    · rw [if_neg hv, if_neg hv]
theorem Term_ref_eq (k : Nat) (a : ByteArray) (hk : 2000 ≤ k) : catchwordref05_Term.f k a = some (pTerm a.data.toList) := by
  unfold catchwordref05_Term.f pTerm
  rw [Words_ref_eq k a hk, Option.bind_some, term_tail, mkS_data]
theorem Card_ref_eq (k : Nat) (a : ByteArray) (key : Int) (t : ByteArray) (hk : 2001 ≤ k) : catchwordref05_Card.f k a key t = some (pCard a key t.data.toList) := by
  obtain ⟨k, rfl⟩ : ∃ m, k = m + 1 := ⟨k - 1, by omega⟩
  have hj : ∀ c, c = decide (a.size < 1 ∨ 16 < a.size ∨ key < 0 ∨ 1073741824 < key) → catchwordref05_Card.j0 (k + 1) a key t c = some (pCard a key t.data.toList) := by
    intro c hc
    subst hc
    rw [catchwordref05_Card.j0]
    unfold pCard
    by_cases h : a.size < 1 ∨ 16 < a.size ∨ key < 0 ∨ 1073741824 < key
    · rw [if_pos (decide_eq_true h), if_pos h]
    · rw [if_neg (by simpa using h), if_neg h, Valid_ref_eq k a (by omega) (by omega), Option.bind_some, Words_ref_eq k t (by omega)]
      split
      · rw [Option.bind_some]
        split <;> rfl
      · rfl
  unfold catchwordref05_Card.f
  repeat' split
  all_goals
    apply hj
    rw [Bool.eq_iff_iff]
    simp only [decide_eq_true_eq, true_iff]
    omega
theorem Same_eq (k : Nat) (a b : ByteArray) (x y : Int) (l m : List ByteArray) (hb : l.length < 9223372036854775807) (hk : l.length < k) : catchwordref05_Same.f k a x l b y m = some (decide (l = m) && decide (a = b) && decide (x = y)) := by
  unfold catchwordref05_Same.f
  rw [Texts_eq l m k hb hk, Option.bind_some]
  by_cases h1 : l = m
  · rw [if_pos (decide_eq_true h1), decide_eq_true h1]
    by_cases h2 : a = b
    · rw [if_pos (toList_inj.2 h2), decide_eq_true h2]
      rfl
    · rw [if_neg (fun h => h2 (toList_inj.1 h)), decide_eq_false h2]
      rfl
  · rw [if_neg (by simpa using h1), decide_eq_false h1]
    rfl
theorem awake_some : catchwordlaw05_awake.f 60 = some true := by decide +kernel
theorem awake_eq (k : Nat) (hk : 60 ≤ k) : catchwordlaw05_awake.f k = some true := at_rounds (fun k => catchwordlaw05_awake.mono k) hk awake_some
end Go.Proofs.YtecjnlaomompkaaDoor.PC
