import Derived.Test.YtfhcolhiolgikaaQTV
import Derived.Test.YtfhcolhiolgikaaQTF
import Derived.Test.YtfhcolhiolgikaaQTB
import Derived.Test.YtfhcolhiolgikaaQTA
import Derived.Test.YtfhcolhiolgikaaQTC
import Derived.Test.YtfhcolhiolgikaaProg
import Derived.Below
import Derived.Deep.Draws
import Derived.Deep.AppendLies
import Derived.Maps.AppendAt
import Derived.OwnWalk
import Derived.Laws.BytesArg
import Derived.Laws.MakeOwn
import Derived.Laws.OwnMore
import Derived.Deep.OwnRows
import Derived.Tactics
import Derived.Lib.ConvBytes
import Derived.Laws.Slices
import Derived.WalkKit
import Derived.KernelRfl
import Derived.RowKit3
import Derived.Deep.LoopGhost
import Derived.Deep.QuietTactic
import Derived.BigQuiet
import Derived.WideLaws
import Derived.Deep.DeepCutAuto
import Derived.Deep.CutBlock
import Derived.Deep.RegionHeld3
import Derived.Laws.Rows
import Derived.Lib.AppendStr
import Derived.ArgAppend
import Derived.Laws.IdiomCopy
import Derived.OrdersHeld
import Derived.Laws.BitsLemmas
import Derived.RowKit
/- Texts of this claim, laid together by a program (merge.py): PB, PC, PD, PE, PF, PG, PH, PI, Rd, PJ, PL, Rb, Bk, Re, Up, Cl, So, PN, PO, PQ, PR, PS, PT, PU, PV, PW. -/
/- Plain facts for Pack: numbers that are put, lists that rise, postings and words that may be. -/
namespace Go.Proofs.Ytfhcolhiolgikaa.Plain
set_option linter.unusedVariables false
set_option linter.unusedSimpArgs false
open Go.RowKit Go.Proofs.Ytfhcolhiolgikaa.T Go.Proofs.YtfhcolhiolgikaaW.PrintWords Go.Proofs.YtfhcolhiolgikaaW.PrintLast Go.Proofs.YtfhcolhiolgikaaW.PrintMore
theorem or128 (x : Int) (h0 : 0 ≤ x) : Go.bits .or .u8 (x % 256) 128 = x % 128 + 128 := by
  have key : ∀ y : Fin 256, Go.bits .or .u8 ((y.val : Nat) : Int) 128 = ((y.val % 128 + 128 : Nat) : Int) := by decide +kernel
  have h := key ⟨(x % 256).toNat, by omega⟩
  simp only at h
  rw [Int.toNat_of_nonneg (by omega)] at h
  rw [h]
  omega
theorem rd_nat (l : List Int) (i : Nat) (h : i < l.length) : rd l (i : Int) = l[i] := by
  unfold rd
  rw [Int.toNat_natCast, List.getD_eq_getElem?_getD, List.getElem?_eq_getElem h]
  rfl
theorem vput_len5 {n : Nat} (h : n < 34359738368) : (vput n).length ≤ 5 := vput_len 4 n (by simpa using h)
/-- All of some numbers. -/
def vall (l : List Int) : List Int := l.flatMap (fun n => vput n.toNat)
theorem all_one (xs : List Int) (i : Int) (L : Int) : ∀ (f : Nat) (k : Nat) (x : List Int) (n : Nat), n < 128 ^ (f + 1) → f < k → x.length + f < 140737488355328 → vint_all.l1 k x (n : Int) xs L i = vint_all.l0 (k - (vput n).length) (x ++ vput n) xs L (wrap64 (i + 1)) := by
  intro f
  induction f with
  | zero =>
    intro k x n hn hk hx
    obtain ⟨k, rfl⟩ : ∃ m, k = m + 1 := ⟨k - 1, by omega⟩
    have hn : n < 128 := by simpa using hn
    simp only [vint_all.l1]
    rw [if_neg (by omega), if_pos (by omega), vput_small hn]
    have : (n : Int) % 256 = n := by omega
    rw [this]
    rfl
  | succ f ih =>
    intro k x n hn hk hx
    obtain ⟨k, rfl⟩ : ∃ m, k = m + 1 := ⟨k - 1, by omega⟩
    simp only [vint_all.l1]
    by_cases h1 : n < 128
    · rw [if_neg (by omega), if_pos (by omega), vput_small h1]
      have : (n : Int) % 256 = n := by omega
      rw [this]
      rfl
    · rw [if_pos (by omega), if_pos (by omega), or128 _ (by omega)]
      have hd : n / 128 < 128 ^ (f + 1) := by rw [Nat.pow_succ] at hn; omega
      have e1 : (n : Int) / 128 = ((n / 128 : Nat) : Int) := by omega
      rw [e1, ih k _ (n / 128) hd (by omega) (by simp; omega), vput_great h1]
      have e2 : (n : Int) % 128 + 128 = ((n % 128 + 128 : Nat) : Int) := by omega
      rw [e2]
      have e3 : k + 1 - (((n % 128 + 128 : Nat) : Int) :: vput (n / 128)).length = k - (vput (n / 128)).length := by simp
      rw [e3, List.append_assoc]
      rfl
theorem all_mono (k m : Nat) (h : k ≤ m) (x xs : List Int) (L i : Int) (r : List Int) (hr : vint_all.l0 k x xs L i = some r) : vint_all.l0 m x xs L i = some r := by
  induction h with
  | refl => exact hr
  | step _ ih => exact (vint_all.mono_l _).1 _ _ _ _ r ih
theorem all_loop (xs : List Int) (hl : xs.length ≤ 1000000) (hb : ∀ n ∈ xs, 0 ≤ n ∧ n < 34359738368) : ∀ (f i : Nat) (x : List Int), f + i = xs.length → x.length + 5 * f < 1000000000000 →
    vint_all.l0 (7 * f + 1) x xs (xs.length : Int) (i : Int) = some (x ++ vall (xs.drop i)) := by
  intro f
  induction f with
  | zero =>
    intro i x hfi hx
    simp only [vint_all.l0]
    rw [if_neg (by omega), List.drop_eq_nil_of_le (by omega)]
    simp [vall]
  | succ f ih =>
    intro i x hfi hx
    have hlt : i < xs.length := by omega
    rw [show 7 * (f + 1) + 1 = (7 * f + 7) + 1 by omega]
    simp only [vint_all.l0]
    rw [if_pos (by omega), if_pos (by omega), if_pos (by omega), rd_nat xs i hlt]
    obtain ⟨h0, h1⟩ := hb xs[i] (List.getElem_mem hlt)
    have hdrop : xs.drop i = xs[i] :: xs.drop (i + 1) := List.drop_eq_getElem_cons hlt
    rw [hdrop]
    obtain ⟨n, hn⟩ := Int.eq_ofNat_of_zero_le h0
    rw [hn] at h1 ⊢
    rw [all_one xs i _ 4 _ x n (by omega) (by omega) (by omega)]
    have h5 := vput_len5 (show n < 34359738368 by omega)
    have hp := vput_pos n
    have hw : wrap64 ((i : Int) + 1) = ((i + 1 : Nat) : Int) := by rw [wid (by omega) (by omega)]; omega
    rw [hw]
    refine all_mono (7 * f + 1) _ (by omega) _ _ _ _ _ ?_
    rw [ih (i + 1) (x ++ vput n) (by omega) (by rw [List.length_append]; omega), List.append_assoc]
    rfl
theorem all_eq (x xs : List Int) (hl : xs.length ≤ 1000000) (hx : x.length ≤ 100000000) (hb : ∀ n ∈ xs, 0 ≤ n ∧ n < 34359738368) (k : Nat) (hk : 7 * xs.length + 1 ≤ k) : vint_all.f k x xs = some (x ++ vall xs) := by
  have := all_loop xs hl hb xs.length 0 x rfl (by omega)
  exact all_mono _ _ hk _ _ _ _ _ this
/-- A number, put: none, if it may not be. -/
def putP : Int → List Int
  | Int.ofNat m => cond (Nat.ble m 34359738367) (vput m) []
  | Int.negSucc _ => []
theorem putP_def (n : Int) : putP n = if 0 ≤ n ∧ n < 34359738368 then vput n.toNat else [] := by
  cases n with
  | ofNat m =>
    have e : putP (Int.ofNat m) = cond (Nat.ble m 34359738367) (vput m) [] := rfl
    rw [e]
    cases hb : Nat.ble m 34359738367 with
    | true =>
      have h := Nat.le_of_ble_eq_true hb
      rw [if_pos ⟨Int.natCast_nonneg m, by rw [Int.ofNat_eq_natCast]; omega⟩]
      rfl
    | false =>
      have h : ¬ m ≤ 34359738367 := fun h => by rw [Nat.ble_eq_true_of_le h] at hb; cases hb
      rw [if_neg (fun hh => h (by have := hh.2; rw [Int.ofNat_eq_natCast] at this; omega))]
      rfl
  | negSucc m =>
    rw [if_neg (fun hh => by have := hh.1; omega)]
    rfl
theorem put_eq (n : Int) (k : Nat) (hk : 8 ≤ k) : vint_Put.f k n = some (putP n) := by
  rw [putP_def]
  unfold vint_Put.f vint_may.f
  by_cases h0 : n ≥ 0
  · rw [if_pos h0]
    by_cases h1 : n ≤ 34359738367
    · rw [if_pos ⟨h0, by omega⟩]
      simp only [Option.bind_some, decide_eq_true h1, if_pos]
      rw [all_eq [] [n] (by simp) (by simp) (by simp; omega) k (by simpa using hk)]
      simp [vall]
    · rw [if_neg (by omega)]
      simp [decide_eq_false h1]
  · rw [if_neg h0, if_neg (by omega)]
    simp
theorem putP_nat {n : Nat} (h : n < 34359738368) : putP (n : Int) = vput n := by
  rw [putP_def]
  rw [if_pos (by omega), Int.toNat_natCast]
/-- Numbers that rise, from behind one, below an end. -/
def risingP (last : Int) (en : Int) : List Int → Bool
  | [] => true
  | a :: r => decide (last < a) && decide (a < en) && risingP a en r
theorem rising_loop (l : List Int) (en : Int) (hl : l.length ≤ 9223372036854775806) : ∀ (f i : Nat) (last : Int) (k : Nat), f + i = l.length → f < k → post_rising.l0 k en last l (l.length : Int) (i : Int) = some (risingP last en (l.drop i)) := by
  intro f
  induction f with
  | zero =>
    intro i last k hfi hk
    obtain ⟨k, rfl⟩ : ∃ m, k = m + 1 := ⟨k - 1, by omega⟩
    simp only [post_rising.l0]
    rw [if_neg (by omega), List.drop_eq_nil_of_le (by omega)]
    rfl
  | succ f ih =>
    intro i last k hfi hk
    obtain ⟨k, rfl⟩ : ∃ m, k = m + 1 := ⟨k - 1, by omega⟩
    have hlt : i < l.length := by omega
    simp only [post_rising.l0]
    have hw : wrap64 ((i : Int) + 1) = ((i + 1 : Nat) : Int) := by rw [wid (by omega) (by omega)]; omega
    rw [if_pos (by omega), if_pos (by omega), if_pos (by omega), rd_nat l i hlt, List.drop_eq_getElem_cons hlt, hw]
    clear hw
    generalize l[i] = a
    unfold risingP
    by_cases h1 : a ≤ last
    · rw [if_pos h1, decide_eq_false (by omega)]; rfl
    · rw [if_neg h1, decide_eq_true (by omega)]
      by_cases h2 : a ≥ en
      · rw [if_pos h2, decide_eq_false (by omega)]; rfl
      · rw [if_neg h2, decide_eq_true (by omega), ih (i + 1) a k (by omega) (by omega)]
        simp
theorem rising_eq (l : List Int) (en : Int) (hl : l.length ≤ 9223372036854775806) (k : Nat) (hk : l.length < k) : post_rising.f k l en = some (risingP (-1) en l) := rising_loop l en hl l.length 0 (-1) k rfl hk
/-- A posting that may be. -/
def postOk (p : S64) : Bool := !decide (p.f1.length = 0) && decide (p.f1.length ≤ 120) && risingP (-1) 120 p.f1
def postMayP (l : List S64) : Bool := l.all postOk && decide (l.length ≤ 64) && risingP (-1) 64 (l.map (·.f0))
theorem rd64_nat (l : List S64) (i : Nat) (h : i < l.length) : rd_T64 l (i : Int) = l[i] := by
  unfold rd_T64
  rw [Int.toNat_natCast, List.getD_eq_getElem?_getD, List.getElem?_eq_getElem h]
  rfl
theorem postMay_loop (l : List S64) (hl : l.length ≤ 17592186044416) : ∀ (f i : Nat) (k : Nat), f + i = l.length → f + 124 ≤ k →
    post_May.l0 k l ((l.take i).map (·.f0)) l (l.length : Int) (i : Int) = some ((l.drop i).all postOk && decide (l.length ≤ 64) && risingP (-1) 64 (l.map (·.f0))) := by
  intro f
  induction f with
  | zero =>
    intro i k hfi hk
    obtain ⟨k, rfl⟩ : ∃ m, k = m + 1 := ⟨k - 1, by omega⟩
    simp only [post_May.l0]
    rw [if_neg (by omega), List.drop_eq_nil_of_le (by omega), List.take_of_length_le (by omega)]
    by_cases h : l.length ≤ 64
    · rw [if_pos (by omega), rising_eq _ _ (by rw [List.length_map]; omega) k (by rw [List.length_map]; omega)]
      simp [h]
    · rw [if_neg (by omega)]
      simp [h]
  | succ f ih =>
    intro i k hfi hk
    obtain ⟨k, rfl⟩ : ∃ m, k = m + 1 := ⟨k - 1, by omega⟩
    have hlt : i < l.length := by omega
    simp only [post_May.l0]
    have hw : wrap64 ((i : Int) + 1) = ((i + 1 : Nat) : Int) := by rw [wid (by omega) (by omega)]; omega
    rw [if_pos (by omega), if_pos (by omega), if_pos (by omega), rd64_nat l i hlt, List.drop_eq_getElem_cons hlt, hw]
    clear hw
    have ht : (l.take i).map (·.f0) ++ [(l[i]).f0] = (l.take (i + 1)).map (·.f0) := by
      rw [List.take_succ_eq_append_getElem hlt, List.map_append]; rfl
    rw [ht, List.all_cons]
    have hi := ih (i + 1) k (by omega) (by omega)
    generalize l[i] = p
    by_cases h1 : p.f1.length = 0
    · rw [if_pos (by omega)]
      simp [postOk, h1]
    · rw [if_neg (by omega)]
      by_cases h2 : p.f1.length ≤ 120
      · rw [if_neg (by omega), rising_eq _ _ (by omega) k (by omega)]
        simp only [Option.bind_some]
        cases h3 : risingP (-1) 120 p.f1
        · simp [postOk, h3]
        · rw [if_pos rfl, if_pos (by rw [List.length_map, List.length_take]; omega), hi]
          have : postOk p = true := by simp [postOk, h1, h2, h3]
          rw [this, Bool.true_and]
      · rw [if_pos (by omega)]
        simp [postOk, h2]
theorem postMay_eq (l : List S64) (hl : l.length ≤ 17592186044416) (k : Nat) (hk : l.length + 124 ≤ k) : post_May.f k l = some (postMayP l) := postMay_loop l hl l.length 0 k rfl hk
/-- Words that may be. -/
def wordOk (t : ByteArray) : Bool := decide (1 ≤ t.size) && decide (t.size ≤ 32)
def lessB (a b : ByteArray) : Bool := Op.bytesLess a.toList b.toList
def ascP : List ByteArray → Bool
  | [] => true
  | [a] => wordOk a
  | a :: b :: r => wordOk a && lessB a b && ascP (b :: r)
def dictMayP (l : List ByteArray) : Bool := ascP l && decide (l.length ≤ 200)
def asc1 (a : ByteArray) : List ByteArray → Bool
  | [] => true
  | b :: r => wordOk b && lessB a b && asc1 b r
theorem asc_cons (a : ByteArray) (r : List ByteArray) : ascP (a :: r) = (wordOk a && asc1 a r) := by
  induction r generalizing a with
  | nil => simp [ascP, asc1]
  | cons b r ih =>
    simp only [ascP, asc1, ih b]
    cases wordOk a <;> cases lessB a b <;> cases wordOk b <;> rfl
theorem rdOf_nat (l : List ByteArray) (i : Nat) (h : i < l.length) : rdOf ByteArray.empty l (i : Int) = l[i] := by
  unfold rdOf
  rw [Int.toNat_natCast, List.getD_eq_getElem?_getD, List.getElem?_eq_getElem h]
  rfl
theorem dictMay_loop (l : List ByteArray) (hl : l.length ≤ 9223372036854775806) : ∀ (f i : Nat) (k : Nat), f + i + 1 = l.length → f + 1 < k → (hi : i < l.length) →
    dict_May.l0 k l l (l.length : Int) ((i + 1 : Nat) : Int) = some (asc1 l[i] (l.drop (i + 1)) && decide (l.length ≤ 200)) := by
  intro f
  induction f with
  | zero =>
    intro i k hfi hk hi
    obtain ⟨k, rfl⟩ : ∃ m, k = m + 1 := ⟨k - 1, by omega⟩
    simp only [dict_May.l0]
    rw [if_neg (by omega), List.drop_eq_nil_of_le (by omega)]
    congr 1
    simp only [asc1, Bool.true_and]
    exact decide_eq_decide.2 (by omega)
  | succ f ih =>
    intro i k hfi hk hi
    obtain ⟨k, rfl⟩ : ∃ m, k = m + 1 := ⟨k - 1, by omega⟩
    have hlt : i + 1 < l.length := by omega
    simp only [dict_May.l0]
    have hw : wrap64 (((i + 1 : Nat) : Int) + 1) = ((i + 1 + 1 : Nat) : Int) := by rw [wid (by omega) (by omega)]; omega
    have hw2 : wrap64 (((i + 1 : Nat) : Int) - 1) = ((i : Nat) : Int) := by rw [wid (by omega) (by omega)]; omega
    rw [if_pos (by omega), if_pos (by omega), if_pos (by omega), rdOf_nat l (i + 1) hlt, hw2, if_pos (show ((i + 1 : Nat) : Int) > 0 by omega), if_pos (show (0 : Int) ≤ (i : Int) by omega), if_pos (show (i : Int) < (l.length : Int) by omega), rdOf_nat l i (by omega), List.drop_eq_getElem_cons hlt, hw]
    clear hw hw2
    have hii := ih (i + 1) k (by omega) (by omega) hlt
    rw [hii]
    have hst : ∀ (a b : ByteArray) (r : List ByteArray), asc1 a (b :: r) = (wordOk b && lessB a b && asc1 b r) := fun _ _ _ => rfl
    rw [hst]
    generalize l[i + 1] = b
    generalize l[i] = a
    by_cases h1 : 1 ≤ b.size
    · rw [if_neg (by omega)]
      by_cases h2 : b.size ≤ 32
      · rw [if_neg (by omega)]
        cases h3 : lessB a b
        · rw [if_neg (by unfold lessB at h3; rw [h3]; simp)]
          simp
        · rw [if_pos (show Op.bytesLess a.toList b.toList = true from h3)]
          simp [wordOk, h1, h2]
      · rw [if_pos (by omega)]
        simp [wordOk, h2]
    · rw [if_pos (by omega)]
      simp [wordOk, h1]
theorem dictMay_eq (l : List ByteArray) (hl : l.length ≤ 9223372036854775806) (k : Nat) (hk : l.length + 1 < k) : dict_May.f k l = some (dictMayP l) := by
  obtain ⟨k, rfl⟩ : ∃ m, k = m + 1 := ⟨k - 1, by omega⟩
  unfold dict_May.f dictMayP
  match l, hl, hk with
  | [], _, _ => simp [dict_May.l0, ascP]
  | a :: r, hl, hk =>
    have hlt : 0 < (a :: r).length := by simp
    simp only [dict_May.l0]
    have hw : wrap64 ((0 : Int) + 1) = ((0 + 1 : Nat) : Int) := by rw [wid (by omega) (by omega)]; rfl
    have ha : rdOf ByteArray.empty (a :: r) 0 = a := rdOf_nat (a :: r) 0 hlt
    rw [if_pos (by omega), if_pos (by omega), if_pos (by omega), ha, if_neg (show ¬ (0 : Int) > 0 by omega), hw, asc_cons]
    rw [dictMay_loop (a :: r) hl r.length 0 k (by simp) (by simp at hk; omega) hlt]
    by_cases h1 : 1 ≤ a.size
    · rw [if_neg (by omega)]
      by_cases h2 : a.size ≤ 32
      · rw [if_neg (by omega)]
        simp [wordOk, h1, h2]
      · rw [if_pos (by omega)]
        simp [wordOk, h2]
    · rw [if_pos (by omega)]
      simp [wordOk, h1]
end Go.Proofs.Ytfhcolhiolgikaa.Plain
/- Plain facts for Pack: lists that are read and put, words behind one another. -/
namespace Go.Proofs.Ytfhcolhiolgikaa.Plain
set_option linter.unusedVariables false
set_option linter.unusedSimpArgs false
open Go.RowKit Go.Proofs.Ytfhcolhiolgikaa.T Go.Proofs.YtfhcolhiolgikaaW.PrintWords Go.Proofs.YtfhcolhiolgikaaW.PrintLast Go.Proofs.YtfhcolhiolgikaaW.PrintMore
theorem get_range (b : List Int) (at_ : Int) (hb : byt b) : 0 ≤ (getP b at_).1 ∧ (getP b at_).1 < 34359738368 ∧ 0 ≤ (getP b at_).2.1 ∧ (getP b at_).2.1 ≤ b.length := by
  rcases get_bad b at_ with ⟨n, nx, h⟩ | ⟨e, _, h⟩
  · obtain ⟨_, p, m, rfl, rfl, h1, rfl, h2, _⟩ := get_ok hb h
    rw [h]
    refine ⟨?_, ?_, ?_, ?_⟩ <;> simp only <;> omega
  · rw [h]
    refine ⟨?_, ?_, ?_, ?_⟩ <;> simp only <;> omega
/-! ### lists -/
def readL (b : List Int) : Nat → Int → List Int → Int → List Int × Int × Int
  | 0, at_, acc, _ => (acc, at_, 0)
  | m + 1, at_, acc, last => if (getP b at_).2.2 = 0 then (if last + ((getP b at_).1 + 1) ≤ 34359738367 then readL b m (getP b at_).2.1 (acc ++ [last + ((getP b at_).1 + 1)]) (last + ((getP b at_).1 + 1)) else ([], 0, 5)) else ([], 0, 5)
def readP (b : List Int) (at_ : Int) : List Int × Int × Int :=
  if (getP b at_).2.2 = 0 then (if (getP b at_).1 > 2000 then ([], 0, 5) else readL b (getP b at_).1.toNat (getP b at_).2.1 [] (-1)) else ([], 0, (getP b at_).2.2)
theorem read_loop (b : List Int) (hb : byt b) (hl : b.length ≤ 9223372036854775807) (N : Nat) (hN : N ≤ 2000) : ∀ (f i : Nat) (at_ : Int) (acc : List Int) (last : Int) (k : Nat), f + i = N → f + 7 < k → acc.length = i → -1 ≤ last → last ≤ 34359738367 →
    vint_Read.l0 k b at_ acc last (N : Int) (i : Int) = some (readL b f at_ acc last) := by
  intro f
  induction f with
  | zero =>
    intro i at_ acc last k hfi hk ha h1 h2
    obtain ⟨k, rfl⟩ : ∃ m, k = m + 1 := ⟨k - 1, by omega⟩
    simp only [vint_Read.l0]
    rw [if_neg (by omega)]
    rfl
  | succ f ih =>
    intro i at_ acc last k hfi hk ha h1 h2
    obtain ⟨k, rfl⟩ : ∃ m, k = m + 1 := ⟨k - 1, by omega⟩
    simp only [vint_Read.l0]
    rw [if_pos (by omega), get_eq b at_ hb hl k (by omega)]
    obtain ⟨g1, g2, _, _⟩ := get_range b at_ hb
    unfold readL
    simp only [Option.bind_some]
    by_cases he : (getP b at_).2.2 = 0
    · rw [if_pos he, if_pos he]
      generalize (getP b at_).1 = g at g1 g2
      have hw1 : wrap64 (g + 1) = g + 1 := wid (by omega) (by omega)
      rw [hw1]
      clear hw1
      have hw2 : wrap64 (last + (g + 1)) = last + (g + 1) := wid (by omega) (by omega)
      rw [hw2]
      clear hw2
      unfold vint_may.f
      rw [if_pos (by omega)]
      simp only [Option.bind_some]
      by_cases h3 : last + (g + 1) ≤ 34359738367
      · rw [if_pos (by simpa using h3), if_pos (by omega), if_pos h3]
        have hw3 : wrap64 ((i : Int) + 1) = ((i + 1 : Nat) : Int) := by rw [wid (by omega) (by omega)]; omega
        rw [hw3]
        clear hw3
        exact ih (i + 1) _ _ _ k (by omega) (by omega) (by simp [ha]) (by omega) h3
      · rw [if_neg (by simpa using h3), if_neg h3]
    · rw [if_neg he, if_neg he]
theorem read_eq (b : List Int) (at_ : Int) (hb : byt b) (hl : b.length ≤ 9223372036854775807) (k : Nat) (hk : 2010 ≤ k) : vint_Read.f k b at_ = some (readP b at_) := by
  unfold vint_Read.f readP
  rw [get_eq b at_ hb hl k (by omega)]
  simp only [Option.bind_some]
  obtain ⟨g1, g2, _, _⟩ := get_range b at_ hb
  by_cases he : (getP b at_).2.2 = 0
  · rw [if_pos he, if_pos he]
    by_cases h3 : (getP b at_).1 > 2000
    · rw [if_pos h3, if_pos h3]
    · rw [if_neg h3, if_neg h3]
      obtain ⟨N, hN⟩ := Int.eq_ofNat_of_zero_le g1
      rw [hN, Int.toNat_natCast]
      exact read_loop b hb hl N (by omega) N 0 _ [] (-1) k rfl (by omega) rfl (by omega) (by omega)
  · rw [if_neg he, if_neg he]
/-- A list that rises, put: the gaps. -/
def gaps (last : Int) : List Int → List Int
  | [] => []
  | a :: r => vput (a - last - 1).toNat ++ gaps a r
def riseP (l : List Int) : List Int := vput l.length ++ gaps (-1) l
theorem vrising_loop (l : List Int) (hl : l.length ≤ 2000) : ∀ (f i : Nat) (last : Int) (k : Nat), f + i = l.length → f < k → -1 ≤ last → (i = 0 ∨ ∃ h : i - 1 < l.length, l[i - 1] = last) → risingP last 120 (l.drop i) = true → vint_rising.l0 k l l (l.length : Int) (i : Int) = some true := by
  intro f
  induction f with
  | zero =>
    intro i last k hfi hk _ _ _
    obtain ⟨k, rfl⟩ : ∃ m, k = m + 1 := ⟨k - 1, by omega⟩
    simp only [vint_rising.l0]
    rw [if_neg (by omega), decide_eq_true (by omega)]
  | succ f ih =>
    intro i last k hfi hk hlast hi hr
    obtain ⟨k, rfl⟩ : ∃ m, k = m + 1 := ⟨k - 1, by omega⟩
    have hlt : i < l.length := by omega
    simp only [vint_rising.l0]
    have hw : wrap64 ((i : Int) + 1) = ((i + 1 : Nat) : Int) := by rw [wid (by omega) (by omega)]; omega
    rw [if_pos (by omega), if_pos (by omega), if_pos (by omega), rd_nat l i hlt, hw]
    clear hw
    rw [List.drop_eq_getElem_cons hlt] at hr
    unfold risingP at hr
    simp only [Bool.and_eq_true, decide_eq_true_eq] at hr
    have hnext := ih (i + 1) l[i] k (by omega) (by omega) (by omega) (Or.inr ⟨by simpa using hlt, by simp⟩) hr.2
    unfold vint_may.f
    rw [if_pos (by omega)]
    simp only [Option.bind_some]
    rw [if_pos (by simpa using (by omega : l[i] ≤ 34359738367))]
    by_cases h0 : i = 0
    · subst h0
      rw [if_neg (by simp)]
      exact hnext
    · have hw2 : wrap64 ((i : Int) - 1) = ((i - 1 : Nat) : Int) := by rw [wid (by omega) (by omega)]; omega
      rw [if_pos (by omega), hw2]
      clear hw2
      rw [if_pos (by omega), if_pos (by omega), rd_nat l (i - 1) (by omega)]
      rcases hi with hi | ⟨h, e⟩
      · exact absurd hi h0
      · rw [e, if_neg (by omega)]
        exact hnext
def gapL (last : Int) : List Int → List Int
  | [] => []
  | a :: r => (a - last - 1) :: gapL a r
theorem gapL_length (last : Int) (l : List Int) : (gapL last l).length = l.length := by
  induction l generalizing last with
  | nil => rfl
  | cons a r ih => simp [gapL, ih]
theorem vall_gaps (last : Int) (l : List Int) : vall (gapL last l) = gaps last l := by
  induction l generalizing last with
  | nil => rfl
  | cons a r ih => rw [gapL, gaps, ← ih]; rfl
theorem gapL_range (last : Int) (l : List Int) (h0 : -1 ≤ last) (h : risingP last 120 l = true) : ∀ n ∈ gapL last l, 0 ≤ n ∧ n < 34359738368 := by
  induction l generalizing last with
  | nil => intro n hn; cases hn
  | cons a r ih =>
    unfold risingP at h
    simp only [Bool.and_eq_true, decide_eq_true_eq] at h
    intro n hn
    rcases List.mem_cons.1 hn with rfl | hn
    · omega
    · exact ih a (by omega) h.2 n hn
theorem rise_loop (l : List Int) (hl : l.length ≤ 120) (hr0 : risingP (-1) 120 l = true) : ∀ (f i : Nat) (last : Int) (k : Nat) (done : List Int), f + i = l.length → f + 7 * 120 + 20 < k → -1 ≤ last → done.length = i → risingP last 120 (l.drop i) = true → done ++ gapL last (l.drop i) = gapL (-1) l →
    vint_Rise.l0 k l (done ++ List.replicate f 0) last l (l.length : Int) (i : Int) = some (riseP l, 0) := by
  intro f
  induction f with
  | zero =>
    intro i last k done hfi hk h0 hd hr hg
    obtain ⟨k, rfl⟩ : ∃ m, k = m + 1 := ⟨k - 1, by omega⟩
    simp only [vint_Rise.l0]
    rw [if_neg (by omega), all_eq [] [(l.length : Int)] (by simp) (by simp) (by simp; omega) k (by simp; omega)]
    simp only [Option.bind_some]
    rw [List.drop_eq_nil_of_le (by omega)] at hg
    simp only [gapL, List.append_nil] at hg
    simp only [List.replicate_zero, List.append_nil, List.nil_append, hg]
    have hlen : (gapL (-1) l).length = l.length := gapL_length _ _
    have hv : (vall [(l.length : Int)]).length ≤ 5 := by
      simp [vall]
      exact vput_len5 (by omega)
    rw [all_eq _ (gapL (-1) l) (by omega) (by omega) (gapL_range _ _ (by omega) hr0) k (by omega)]
    simp only [Option.bind_some, vall_gaps]
    simp [riseP, vall]
  | succ f ih =>
    intro i last k done hfi hk h0 hd hr hg
    obtain ⟨k, rfl⟩ : ∃ m, k = m + 1 := ⟨k - 1, by omega⟩
    have hlt : i < l.length := by omega
    simp only [vint_Rise.l0]
    have hw : wrap64 ((i : Int) + 1) = ((i + 1 : Nat) : Int) := by rw [wid (by omega) (by omega)]; omega
    rw [if_pos (by omega), if_pos (by omega), if_pos (by omega), if_pos (by simp; omega), rd_nat l i hlt, hw]
    clear hw
    rw [List.drop_eq_getElem_cons hlt] at hr hg
    unfold risingP at hr
    simp only [Bool.and_eq_true, decide_eq_true_eq] at hr
    generalize l[i] = a at hr hg
    have hw1 : wrap64 (a - last) = a - last := wid (by omega) (by omega)
    rw [hw1]
    clear hw1
    have hw2 : wrap64 (a - last - 1) = a - last - 1 := wid (by omega) (by omega)
    rw [hw2]
    clear hw2
    have hset : (done ++ List.replicate (f + 1) 0).set ((i : Nat) : Int).toNat (a - last - 1) = (done ++ [a - last - 1]) ++ List.replicate f 0 := by
      rw [Int.toNat_natCast, List.set_append_right _ _ (by omega), hd, Nat.sub_self, List.replicate_succ]
      simp
    rw [hset]
    exact ih (i + 1) a k _ (by omega) (by omega) (by omega) (by simp [hd]) hr.2 (by rw [← hg]; simp [gapL])
theorem rise_eq (l : List Int) (hl : l.length ≤ 120) (hr : risingP (-1) 120 l = true) (k : Nat) (hk : 1100 ≤ k) : vint_Rise.f k l = some (riseP l, 0) := by
  unfold vint_Rise.f vint_rising.f
  have h1 := vrising_loop l (by omega) l.length 0 (-1) k rfl (by omega) (by omega) (Or.inl rfl) (by simpa using hr)
  rw [show ((0 : Nat) : Int) = 0 from rfl] at h1
  rw [h1]
  simp only [Option.bind_some]
  rw [if_pos trivial, if_pos (by omega), if_pos (by omega)]
  have h2 := rise_loop l hl hr l.length 0 (-1) k [] rfl (by omega) (by omega) rfl (by simpa using hr) (by simp)
  rw [List.nil_append] at h2
  exact h2
/-! ### words -/
/-- How many signs two lists begin with. -/
def lcp : List Int → List Int → Nat
  | a :: x, b :: y => if a = b then lcp x y + 1 else 0
  | _, _ => 0
theorem lcp_le (a b : List Int) : lcp a b ≤ a.length ∧ lcp a b ≤ b.length := by
  induction a generalizing b with
  | nil => simp [lcp]
  | cons x a ih =>
    cases b with
    | nil => simp [lcp]
    | cons y b =>
      unfold lcp
      have := ih b
      split <;> simp <;> omega
theorem lcp_drop (a b : List Int) (i : Nat) (ha : i < a.length) (hb : i < b.length) (h : a[i] = b[i]) : lcp (a.drop i) (b.drop i) = lcp (a.drop (i + 1)) (b.drop (i + 1)) + 1 := by
  rw [List.drop_eq_getElem_cons ha, List.drop_eq_getElem_cons hb]
  exact if_pos h
theorem bt_nat (s : ByteArray) (i : Nat) (h : i < s.size) : bt s (i : Int) = (bytesOf s)[i]'(by rw [bytesOf_length]; exact h) := by
  rw [← rd_bytesOf, rd_nat]
theorem shared_loop (a b : ByteArray) (ha : a.size ≤ 9223372036854775806) : ∀ (f i : Nat) (k : Nat), f + i = min a.size b.size → f < k → dict_shared.l0 k a b (i : Int) = some (((i + lcp ((bytesOf a).drop i) ((bytesOf b).drop i) : Nat) : Int)) := by
  have la := bytesOf_length a
  have lb := bytesOf_length b
  intro f
  induction f with
  | zero =>
    intro i k hfi hk
    obtain ⟨k, rfl⟩ : ∃ m, k = m + 1 := ⟨k - 1, by omega⟩
    simp only [dict_shared.l0]
    rw [if_neg (by unfold mn; split <;> omega)]
    have h1 := lcp_le ((bytesOf a).drop i) ((bytesOf b).drop i)
    simp only [List.length_drop] at h1
    congr 2
    omega
  | succ f ih =>
    intro i k hfi hk
    obtain ⟨k, rfl⟩ : ∃ m, k = m + 1 := ⟨k - 1, by omega⟩
    simp only [dict_shared.l0]
    rw [if_pos (by unfold mn; split <;> omega), if_pos (by omega), if_pos (by omega), if_pos (by omega), bt_nat a i (by omega), bt_nat b i (by omega)]
    have hw : wrap64 ((i : Int) + 1) = ((i + 1 : Nat) : Int) := by rw [wid (by omega) (by omega)]; omega
    rw [hw]
    clear hw
    by_cases h : (bytesOf a)[i]'(by omega) = (bytesOf b)[i]'(by omega)
    · rw [if_pos h, lcp_drop _ _ i (by omega) (by omega) h, ih (i + 1) k (by omega) (by omega)]
      congr 2
      omega
    · have hla : i < (bytesOf a).length := by omega
      have hlb : i < (bytesOf b).length := by omega
      rw [if_neg h, List.drop_eq_getElem_cons hla, List.drop_eq_getElem_cons hlb, show lcp ((bytesOf a)[i] :: (bytesOf a).drop (i + 1)) ((bytesOf b)[i] :: (bytesOf b).drop (i + 1)) = 0 from if_neg h]
      rfl
def sharedP (a b : ByteArray) : Nat := lcp (bytesOf a) (bytesOf b)
theorem shared_eq (a b : ByteArray) (ha : a.size ≤ 9223372036854775806) (k : Nat) (hk : min a.size b.size < k) : dict_shared.f k a b = some ((sharedP a b : Nat) : Int) := by
  have := shared_loop a b ha (min a.size b.size) 0 k rfl hk
  unfold dict_shared.f
  refine this.trans ?_
  simp [sharedP]
end Go.Proofs.Ytfhcolhiolgikaa.Plain
/- Plain facts for Pack: words that are read, cards that may be. -/
namespace Go.Proofs.Ytfhcolhiolgikaa.Plain
set_option linter.unusedVariables false
set_option linter.unusedSimpArgs false
open Go.RowKit Go.Proofs.Ytfhcolhiolgikaa.T Go.Proofs.YtfhcolhiolgikaaW.PrintWords Go.Proofs.YtfhcolhiolgikaaW.PrintLast Go.Proofs.YtfhcolhiolgikaaW.PrintMore
def wordP (b : List Int) (at_ : Int) (ahead : ByteArray) : ByteArray × Int :=
  if (getP b at_).2.2 = 0 ∧ (getP b at_).1 ≤ (ahead.size : Int) then
    (if (getP b (getP b at_).2.1).2.2 = 0 ∧ (getP b (getP b at_).2.1).1 ≤ (b.length : Int) - (getP b (getP b at_).2.1).2.1 then
      (if ((sharedP ahead (ahead.extract 0 (getP b at_).1.toNat ++ strOfNums ((b.take ((getP b (getP b at_).2.1).2.1 + (getP b (getP b at_).2.1).1).toNat).drop (getP b (getP b at_).2.1).2.1.toNat)) : Nat) : Int) = (getP b at_).1 then
        (ahead.extract 0 (getP b at_).1.toNat ++ strOfNums ((b.take ((getP b (getP b at_).2.1).2.1 + (getP b (getP b at_).2.1).1).toNat).drop (getP b (getP b at_).2.1).2.1.toNat), (getP b (getP b at_).2.1).2.1 + (getP b (getP b at_).2.1).1)
      else (⟨#[]⟩, 0))
    else (⟨#[]⟩, 0))
  else (⟨#[]⟩, 0)
theorem word_eq (b : List Int) (at_ : Int) (ahead : ByteArray) (hb : byt b) (hl : b.length ≤ 2305843009213693952) (ha : ahead.size ≤ 2305843009213693952) (k : Nat) (hk : b.length + ahead.size + 10 ≤ k) : dict_word.f k b at_ ahead = some (wordP b at_ ahead) := by
  obtain ⟨k, rfl⟩ : ∃ m, k = m + 2 := ⟨k - 2, by omega⟩
  unfold dict_word.f wordP
  rw [get_eq b at_ hb (by omega) _ (by omega)]
  simp only [Option.bind_some]
  obtain ⟨g1, g2, g3, g4⟩ := get_range b at_ hb
  have j0 : ∀ x, dict_word.j0 (k + 2) b (getP b at_).2.1 ahead x true = some (⟨#[]⟩, 0) := fun x => by simp [dict_word.j0]
  by_cases he : (getP b at_).2.2 = 0
  · rw [if_pos he]
    generalize (getP b at_).1 = same at g1 g2 ⊢
    generalize (getP b at_).2.1 = at1 at g3 g4 j0 ⊢
    by_cases h1 : same ≤ (ahead.size : Int)
    · rw [if_pos ⟨he, h1⟩, decide_eq_false (by omega)]
      simp only [dict_word.j0]
      rw [if_neg (by decide), get_eq b at1 hb (by omega) _ (by omega)]
      simp only [Option.bind_some]
      obtain ⟨q1, q2, q3, q4⟩ := get_range b at1 hb
      have j1 : ∀ x y, dict_word.j1 (k + 1) b x ahead same y true = some (⟨#[]⟩, 0) := fun x y => by simp [dict_word.j1]
      by_cases he2 : (getP b at1).2.2 = 0
      · rw [if_pos he2]
        generalize (getP b at1).1 = n at q1 q2 ⊢
        generalize (getP b at1).2.1 = at2 at q3 q4 ⊢
        have hw : wrap64 ((b.length : Int) - at2) = (b.length : Int) - at2 := wid (by omega) (by omega)
        rw [hw]
        clear hw
        by_cases h2 : n ≤ (b.length : Int) - at2
        · rw [if_pos ⟨he2, h2⟩, decide_eq_false (by omega)]
          simp only [dict_word.j1]
          have hw : wrap64 (at2 + n) = at2 + n := wid (by omega) (by omega)
          rw [hw]
          clear hw
          rw [if_neg (by decide), if_pos (by omega), if_pos h1, if_pos (by omega), if_pos (by omega), if_pos (by omega)]
          have hs : (strOfNums ((b.take (at2 + n).toNat).drop at2.toNat)).size ≤ b.length := by
            rw [strOfNums_size, List.length_drop, List.length_take]; omega
          have hx : (ahead.extract 0 same.toNat).size ≤ ahead.size := by rw [ByteArray.size_extract]; omega
          rw [if_pos (by omega), shared_eq _ _ (by omega) k (by omega)]
          simp only [Option.bind_some]
          split <;> rfl
        · rw [if_neg (fun h => h2 h.2), decide_eq_true (by omega), j1]
      · rw [if_neg he2, if_neg (fun h => he2 h.1), j1]
    · rw [if_neg (fun h => h1 h.2), decide_eq_true (by omega), j0]
  · rw [if_neg he, if_neg (fun h => he h.1), j0]
theorem word_range (b : List Int) (at_ : Int) (ahead : ByteArray) (hb : byt b) : (wordP b at_ ahead).1.size ≤ ahead.size + b.length ∧ 0 ≤ (wordP b at_ ahead).2 ∧ (wordP b at_ ahead).2 ≤ b.length := by
  unfold wordP
  obtain ⟨q1, q2, q3, q4⟩ := get_range b (getP b at_).2.1 hb
  have h0 : (⟨#[]⟩ : ByteArray).size ≤ ahead.size + b.length ∧ (0 : Int) ≤ 0 ∧ (0 : Int) ≤ b.length := ⟨Nat.zero_le _, by omega, by omega⟩
  split
  · split
    · rename_i h1 h2
      split
      · refine ⟨?_, by simp only; omega, by simp only; omega⟩
        rw [ByteArray.size_append, strOfNums_size, ByteArray.size_extract, List.length_drop, List.length_take]
        omega
      · exact h0
    · exact h0
  · exact h0
def unL (b : List Int) : Nat → Int → List ByteArray → ByteArray → List ByteArray × Int
  | 0, at_, acc, _ => if at_ = (b.length : Int) ∧ dictMayP acc = true then (acc, 0) else ([], 5)
  | m + 1, at_, acc, ahead => if (wordP b at_ ahead).2 = 0 then ([], 5) else unL b m (wordP b at_ ahead).2 (acc ++ [(wordP b at_ ahead).1]) (wordP b at_ ahead).1
def dictUnP (b : List Int) : List ByteArray × Int := if (getP b 0).2.2 = 0 ∧ (getP b 0).1 ≤ 200 then unL b (getP b 0).1.toNat (getP b 0).2.1 [] ⟨#[]⟩ else ([], 5)
theorem un_loop (b : List Int) (hb : byt b) (hl : b.length ≤ 10000000000) (N : Nat) (hN : N ≤ 200) : ∀ (f i : Nat) (at_ : Int) (acc : List ByteArray) (ahead : ByteArray) (k : Nat), f + i = N → f + 202 * b.length + 300 < k → acc.length = i → ahead.size ≤ i * b.length →
    dict_Unpack.l0 k b at_ acc ahead (N : Int) (i : Int) = some (unL b f at_ acc ahead) := by
  intro f
  induction f with
  | zero =>
    intro i at_ acc ahead k hfi hk ha hs
    obtain ⟨k, rfl⟩ : ∃ m, k = m + 1 := ⟨k - 1, by omega⟩
    simp only [dict_Unpack.l0]
    rw [if_neg (by omega)]
    unfold unL
    by_cases h1 : at_ = (b.length : Int)
    · rw [if_pos h1, dictMay_eq acc (by omega) k (by omega)]
      simp only [Option.bind_some]
      cases h2 : dictMayP acc
      · rw [if_neg (by decide), if_neg (by simp)]
      · rw [if_pos rfl, if_pos ⟨h1, rfl⟩]
    · rw [if_neg h1, if_neg (fun h => h1 h.1)]
  | succ f ih =>
    intro i at_ acc ahead k hfi hk ha hs
    obtain ⟨k, rfl⟩ : ∃ m, k = m + 1 := ⟨k - 1, by omega⟩
    simp only [dict_Unpack.l0]
    have hib : i * b.length ≤ 200 * b.length := Nat.mul_le_mul_right _ (by omega)
    rw [if_pos (by omega), word_eq b at_ ahead hb (by omega) (by omega) k (by omega)]
    simp only [Option.bind_some]
    unfold unL
    obtain ⟨r1, r2, r3⟩ := word_range b at_ ahead hb
    by_cases h1 : (wordP b at_ ahead).2 = 0
    · rw [if_pos h1, if_pos h1]
    · rw [if_neg h1, if_neg h1, if_pos (by omega)]
      have hw : wrap64 ((i : Int) + 1) = ((i + 1 : Nat) : Int) := by rw [wid (by omega) (by omega)]; omega
      rw [hw]
      clear hw
      exact ih (i + 1) _ _ _ k (by omega) (by omega) (by simp [ha]) (by rw [Nat.add_mul]; omega)
theorem dictUn_eq (b : List Int) (hb : byt b) (hl : b.length ≤ 10000000000) (k : Nat) (hk : 202 * b.length + 600 ≤ k) : dict_Unpack.f k b = some (dictUnP b) := by
  obtain ⟨k, rfl⟩ : ∃ m, k = m + 1 := ⟨k - 1, by omega⟩
  unfold dict_Unpack.f dictUnP
  rw [get_eq b 0 hb (by omega) _ (by omega)]
  simp only [Option.bind_some]
  obtain ⟨q1, q2, q3, q4⟩ := get_range b 0 hb
  by_cases he : (getP b 0).2.2 = 0
  · rw [if_pos he]
    obtain ⟨N, hN⟩ := Int.eq_ofNat_of_zero_le q1
    rw [hN] at q2 ⊢
    by_cases h1 : (N : Int) ≤ 200
    · rw [if_pos ⟨he, h1⟩, decide_eq_false (by omega), Int.toNat_natCast]
      simp only [dict_Unpack.j0]
      rw [if_neg (by decide)]
      exact un_loop b hb hl N (by omega) N 0 _ [] ⟨#[]⟩ k rfl (by omega) rfl (Nat.zero_le _)
    · rw [if_neg (fun h => h1 h.2), decide_eq_true (by omega)]
      simp [dict_Unpack.j0]
  · rw [if_neg he, if_neg (fun h => he h.1)]
    simp [dict_Unpack.j0]
theorem sized_eq (b : List Int) (hl : b.length < 34359738368) (k : Nat) (hk : 8 ≤ k) : pack_sized.f k b = some (vput b.length ++ b) := by
  unfold pack_sized.f
  rw [put_eq _ k hk, putP_nat hl]
  simp only [Option.bind_some]
  have := vput_len5 hl
  rw [if_pos (by omega)]
/-! ### cards -/
theorem segmay_eq (id : ByteArray) (key : Int) (k : Nat) (hk : 1 ≤ k) : seg_may.f k id key [] = some (decide (1 ≤ id.size) && decide (id.size ≤ 16) && decide (0 ≤ key) && decide (key ≤ 1073741824)) := by
  obtain ⟨k, rfl⟩ : ∃ m, k = m + 1 := ⟨k - 1, by omega⟩
  unfold seg_may.f seg_fits.f
  by_cases h1 : (id.size : Int) > 0
  · rw [if_pos h1]
    simp only [Option.bind_some]
    by_cases h2 : id.size ≤ 16
    · rw [if_pos (by simp; omega)]
      by_cases h3 : key ≥ 0
      · rw [if_pos h3]
        by_cases h4 : key ≤ 1073741824
        · rw [if_pos h4, if_pos (by simp)]
          simp [slices_ContainsFunc_string_string_41.f, slices_IndexFunc_string_string_41.f, slices_IndexFunc_string_string_41.l0, h2, h3, h4]
          omega
        · rw [if_neg h4]; simp [h4]
      · rw [if_neg h3]; simp [h3]
    · rw [if_neg (by simp; omega)]; simp [h2]
  · rw [if_neg h1]
    simp
    omega
/-- Which card comes first: by key, then by id. -/
def cmpL (a b : ByteArray) : Int := Lib.compareBytes a.data.toList b.data.toList
def beforeP (a : ByteArray) (ka : Int) (b : ByteArray) (kb : Int) : Bool := decide (ka < kb) || (decide (ka = kb) && decide (cmpL a b < 0))
theorem before_eq (a : ByteArray) (ka : Int) (la : List ByteArray) (b : ByteArray) (kb : Int) (lb : List ByteArray) (k : Nat) (hk : 4 ≤ k) : seg_Before.f k a ka la b kb lb = some (beforeP a ka b kb) := by
  obtain ⟨k, rfl⟩ : ∃ m, k = m + 3 := ⟨k - 3, by omega⟩
  have hcmp : cmp_Compare_int.f ka kb = some (if ka < kb then -1 else if ka > kb then 1 else 0) := by
    unfold cmp_Compare_int.f cmp_isNaN_int.f
    simp
    split
    · rfl
    · split <;> rfl
  have hor : ∀ x y : Int, cmp_Or_int.f (k + 3) [x, y] = some (if x = 0 then y else x) := by
    intro x y
    unfold cmp_Or_int.f
    simp only [cmp_Or_int.l0, List.length_cons, List.length_nil]
    have w1 : wrap64 ((0 : Int) + 1) = 1 := by rw [wid (by omega) (by omega)]; rfl
    have w2 : wrap64 ((1 : Int) + 1) = 2 := by rw [wid (by omega) (by omega)]; rfl
    rw [w1, w2]
    have r0 : rd [x, y] 0 = x := rfl
    have r1 : rd [x, y] 1 = y := rfl
    rw [r0, r1]
    by_cases hx : x = 0
    · simp [hx]
      intro h; exact h.symm
    · simp [hx]
  unfold seg_Before.f seg_order.f
  rw [hcmp]
  simp only [Option.bind_some, strings_Compare.f, hor]
  unfold beforeP
  by_cases h1 : ka < kb
  · simp [h1]
  · by_cases h2 : ka > kb
    · have h3 : ka ≠ kb := by omega
      simp [h1, h2, h3]
    · have h3 : ka = kb := by omega
      subst h3
      simp [cmpL]
      exact decide_eq_decide.2 Iff.rfl
end Go.Proofs.Ytfhcolhiolgikaa.Plain
/- Plain facts for Pack: places that have just one word; segments that may be. -/
namespace Go.Proofs.Ytfhcolhiolgikaa.Plain
set_option linter.unusedVariables false
set_option linter.unusedSimpArgs false
open Go.RowKit Go.Proofs.Ytfhcolhiolgikaa.T Go.Proofs.YtfhcolhiolgikaaW.PrintWords Go.Proofs.YtfhcolhiolgikaaW.PrintLast Go.Proofs.YtfhcolhiolgikaaW.PrintMore
def plAts (lens : List Int) (d : Int) : List Int → List (Int × Int) → Option (List (Int × Int))
  | [], s => some s
  | a :: r, s => if d < (lens.length : Int) ∧ a < rd lens d ∧ (d, a) ∉ s then plAts lens d r ((d, a) :: s) else none
def plPosts (lens : List Int) : List S64 → List (Int × Int) → Option (List (Int × Int))
  | [], s => some s
  | p :: r, s => (plAts lens p.f0 p.f1 s).bind (plPosts lens r)
def plTerms (lens : List Int) : List S44 → List (Int × Int) → Option (List (Int × Int))
  | [], s => some s
  | t :: r, s => if t.f1.length = 0 ∨ postMayP t.f1 = false then none else (plPosts lens t.f1 s).bind (plTerms lens r)
def sumP : List Int → Int
  | [] => 0
  | a :: r => a + sumP r
def plEnd (terms : List S44) (lens : List Int) : Option (List (Int × Int)) → Bool
  | none => false
  | some s => dictMayP (terms.map (·.f0)) && decide (sumP lens = (s.length : Int))
def placedP (terms : List S44) (lens : List Int) : Bool := plEnd terms lens (plTerms lens terms [])
theorem wstep {i : Nat} (h : i ≤ 1000000000000) : wrap64 ((i : Int) + 1) = ((i + 1 : Nat) : Int) := by rw [wid (by omega) (by omega)]; omega
theorem plAts_good {lens : List Int} {d a : Int} {r : List Int} {s : List (Int × Int)} (h : d < (lens.length : Int) ∧ a < rd lens d ∧ (d, a) ∉ s) : plAts lens d (a :: r) s = plAts lens d r ((d, a) :: s) := if_pos h
theorem plAts_bad {lens : List Int} {d a : Int} {r : List Int} {s : List (Int × Int)} (h : ¬ (d < (lens.length : Int) ∧ a < rd lens d ∧ (d, a) ∉ s)) : plAts lens d (a :: r) s = none := if_neg h
theorem pl_none {terms : List S44} {lens : List Int} (h : plTerms lens terms [] = none) : placedP terms lens = false := by
  unfold placedP
  rw [h]
  rfl
theorem rising_ge {last en : Int} {l : List Int} (h : risingP last en l = true) : ∀ a ∈ l, last < a ∧ a < en := by
  induction l generalizing last with
  | nil => intro a ha; cases ha
  | cons x r ih =>
    unfold risingP at h
    simp only [Bool.and_eq_true, decide_eq_true_eq] at h
    intro a ha
    rcases List.mem_cons.1 ha with rfl | ha
    · exact h.1
    · have := ih h.2 a ha; omega
theorem postMay_post {l : List S64} (h : postMayP l = true) : l.length ≤ 64 ∧ ∀ p ∈ l, (0 ≤ p.f0 ∧ p.f0 < 64) ∧ p.f1.length ≤ 120 ∧ ∀ a ∈ p.f1, 0 ≤ a ∧ a < 120 := by
  unfold postMayP at h
  simp only [Bool.and_eq_true, decide_eq_true_eq, List.all_eq_true] at h
  obtain ⟨⟨h1, h2⟩, h3⟩ := h
  refine ⟨h2, fun p hp => ?_⟩
  have hd := rising_ge h3 p.f0 (List.mem_map_of_mem hp)
  have hok := h1 p hp
  unfold postOk at hok
  simp only [Bool.and_eq_true, decide_eq_true_eq] at hok
  refine ⟨by omega, hok.1.2, fun a ha => ?_⟩
  have := rising_ge hok.2 a ha
  omega
theorem sum_range (l : List Int) (N : Nat) (hl : l.length ≤ N) (h : ∀ n ∈ l, 0 ≤ n ∧ n ≤ 120) : 0 ≤ sumP l ∧ sumP l ≤ 120 * N := by
  induction l generalizing N with
  | nil => simp [sumP]; omega
  | cons a r ih =>
    obtain ⟨M, rfl⟩ : ∃ M, N = M + 1 := ⟨N - 1, by simp at hl; omega⟩
    have h1 := h a (by simp)
    have h2 := ih M (by simpa using hl) (fun n hn => h n (by simp [hn]))
    simp only [sumP]
    omega
theorem rd44_nat (l : List S44) (i : Nat) (h : i < l.length) : rd_T44 l (i : Int) = l[i] := by
  unfold rd_T44
  rw [Int.toNat_natCast, List.getD_eq_getElem?_getD, List.getElem?_eq_getElem h]
  rfl
theorem rd44_mem (l : List S44) (i : Nat) (h : i < l.length) : rd_T44 l (i : Int) ∈ l := by rw [rd44_nat l i h]; exact List.getElem_mem h
theorem drop44 (l : List S44) (i : Nat) (h : i < l.length) : l.drop i = rd_T44 l (i : Int) :: l.drop (i + 1) := by rw [rd44_nat l i h]; exact List.drop_eq_getElem_cons h
theorem take44 (l : List S44) (i : Nat) (h : i < l.length) : (l.take i).map (·.f0) ++ [(rd_T44 l (i : Int)).f0] = (l.take (i + 1)).map (·.f0) := by
  rw [rd44_nat l i h, List.take_succ_eq_append_getElem h, List.map_append]; rfl
theorem rd64_mem (l : List S64) (i : Nat) (h : i < l.length) : rd_T64 l (i : Int) ∈ l := by rw [rd64_nat l i h]; exact List.getElem_mem h
theorem drop64 (l : List S64) (i : Nat) (h : i < l.length) : l.drop i = rd_T64 l (i : Int) :: l.drop (i + 1) := by rw [rd64_nat l i h]; exact List.drop_eq_getElem_cons h
theorem dropI (l : List Int) (i : Nat) (h : i < l.length) : l.drop i = rd l (i : Int) :: l.drop (i + 1) := by rw [rd_nat l i h]; exact List.drop_eq_getElem_cons h
theorem rd_mem (l : List Int) (i : Nat) (h : i < l.length) : rd l (i : Int) ∈ l := by rw [rd_nat l i h]; exact List.getElem_mem h
theorem sum_app (a b : List Int) : sumP (a ++ b) = sumP a + sumP b := by
  induction a with
  | nil => simp [sumP]
  | cons x a ih => simp only [List.cons_append, sumP, ih]; omega
theorem sum_step (lens : List Int) (m : Nat) (hl : lens.length ≤ 64) (hb : ∀ n ∈ lens, 0 ≤ n ∧ n ≤ 120) (h : m < lens.length) : wrap64 (sumP (lens.take m) + rd lens (m : Int)) = sumP (lens.take (m + 1)) := by
  have e : lens.take (m + 1) = lens.take m ++ [rd lens (m : Int)] := by rw [rd_nat lens m h, List.take_succ_eq_append_getElem h]
  have h1 := sum_range (lens.take (m + 1)) 64 (by rw [List.length_take]; omega) (fun n hn => hb n (List.mem_of_mem_take hn))
  rw [e, sum_app] at h1 ⊢
  simp only [sumP, Int.add_zero] at h1 ⊢
  exact wid (by omega) (by omega)
theorem pl_end {terms : List S44} {lens : List Int} {s : List (Int × Int)} (h : plTerms lens terms [] = some s) : placedP terms lens = (dictMayP (terms.map (·.f0)) && decide (sumP lens = (s.length : Int))) := by
  unfold placedP
  rw [h]
  rfl
/-! ### segments that may be -/
instance decBA : DecidableEq ByteArray := fun a b => if h : a.data = b.data then isTrue (by cases a; cases b; cases h; rfl) else isFalse (fun e => h (by rw [e]))
instance decMem (x : ByteArray) (l : List ByteArray) : Decidable (x ∈ l) := @List.instDecidableMemOfLawfulBEq _ (@instBEqOfDecidableEq _ decBA) _ x l
def cardOk (id : ByteArray) (key : Int) : Bool := decide (1 ≤ id.size) && decide (id.size ≤ 16) && decide (0 ≤ key) && decide (key ≤ 1073741824)
def mayStep (keys lens : List Int) (so : Bool) (id : ByteArray) (i : Nat) (seen : List ByteArray) (pid : ByteArray) (pk : Int) : Prop :=
  cardOk id (rd keys i) = true ∧ id ∉ seen ∧ 0 ≤ rd lens i ∧ rd lens i ≤ 120 ∧ (so && (decide (0 < i) && !beforeP pid pk id (rd keys i))) = false
instance (keys lens : List Int) (so : Bool) (id : ByteArray) (i : Nat) (seen : List ByteArray) (pid : ByteArray) (pk : Int) : Decidable (mayStep keys lens so id i seen pid pk) := by unfold mayStep; infer_instance
def mayGo (keys lens : List Int) (so : Bool) : List ByteArray → Nat → List ByteArray → ByteArray → Int → Bool
  | [], _, _, _, _ => true
  | id :: r, i, seen, pid, pk => if mayStep keys lens so id i seen pid pk then mayGo keys lens so r (i + 1) (id :: seen) id (rd keys i) else false
def segMayP (ids : List ByteArray) (keys lens : List Int) (terms : List S44) (so : Bool) : Bool :=
  decide (ids.length ≤ 64) && (decide (keys.length = ids.length) && (decide (lens.length = ids.length) && (mayGo keys lens so ids 0 [] ⟨#[]⟩ 0 && placedP terms lens)))
theorem dropS (l : List ByteArray) (i : Nat) (h : i < l.length) : l.drop i = rdOf ByteArray.empty l (i : Int) :: l.drop (i + 1) := by rw [rdOf_nat l i h]; exact List.drop_eq_getElem_cons h
theorem rdOf_mem (l : List ByteArray) (i : Nat) (h : i < l.length) : rdOf ByteArray.empty l (i : Int) ∈ l := by rw [rdOf_nat l i h]; exact List.getElem_mem h
theorem mayGo_lens {keys lens : List Int} {so : Bool} (r : List ByteArray) : ∀ (i : Nat) (seen : List ByteArray) (pid : ByteArray) (pk : Int), mayGo keys lens so r i seen pid pk = true → ∀ j, i ≤ j → j < i + r.length → 0 ≤ rd lens (j : Int) ∧ rd lens (j : Int) ≤ 120 := by
  induction r with
  | nil => intro i _ _ _ _ j h1 h2; simp at h2; omega
  | cons id r ih =>
    intro i seen pid pk h j h1 h2
    unfold mayGo at h
    split at h
    · rename_i hs
      by_cases hj : j = i
      · subst hj; exact ⟨hs.2.2.1, hs.2.2.2.1⟩
      · exact ih (i + 1) _ _ _ h j (by omega) (by simp at h2; omega)
    · cases h
theorem mayGo_all {ids : List ByteArray} {keys lens : List Int} {so : Bool} (h : mayGo keys lens so ids 0 [] ⟨#[]⟩ 0 = true) (hl : lens.length = ids.length) : ∀ n ∈ lens, 0 ≤ n ∧ n ≤ 120 := by
  intro n hn
  obtain ⟨j, hj, e⟩ := List.getElem_of_mem hn
  have := mayGo_lens ids 0 [] ⟨#[]⟩ 0 h j (by omega) (by omega)
  rw [rd_nat lens j hj, e] at this
  exact this
theorem may_bad1 {ids : List ByteArray} {keys lens : List Int} {terms : List S44} {so : Bool} (h : ¬ ids.length ≤ 64) : segMayP ids keys lens terms so = false := by unfold segMayP; rw [decide_eq_false h]; rfl
theorem may_bad2 {ids : List ByteArray} {keys lens : List Int} {terms : List S44} {so : Bool} (h : ¬ keys.length = ids.length) : segMayP ids keys lens terms so = false := by unfold segMayP; rw [decide_eq_false h]; cases decide (ids.length ≤ 64) <;> rfl
theorem may_bad3 {ids : List ByteArray} {keys lens : List Int} {terms : List S44} {so : Bool} (h : ¬ lens.length = ids.length) : segMayP ids keys lens terms so = false := by unfold segMayP; rw [decide_eq_false h]; cases decide (ids.length ≤ 64) <;> cases decide (keys.length = ids.length) <;> rfl
theorem may_bad4 {ids : List ByteArray} {keys lens : List Int} {terms : List S44} {so : Bool} (h : mayGo keys lens so ids 0 [] ⟨#[]⟩ 0 = false) : segMayP ids keys lens terms so = false := by unfold segMayP; rw [h]; cases decide (ids.length ≤ 64) <;> cases decide (keys.length = ids.length) <;> cases decide (lens.length = ids.length) <;> rfl
theorem may_good {ids : List ByteArray} {keys lens : List Int} {terms : List S44} {so : Bool} (h1 : ids.length ≤ 64) (h2 : keys.length = ids.length) (h3 : lens.length = ids.length) (h : mayGo keys lens so ids 0 [] ⟨#[]⟩ 0 = true) : segMayP ids keys lens terms so = placedP terms lens := by
  unfold segMayP
  rw [decide_eq_true h1, decide_eq_true h2, decide_eq_true h3, h]
  rfl
theorem mayGo_good {keys lens : List Int} {so : Bool} {id : ByteArray} {r : List ByteArray} {i : Nat} {seen : List ByteArray} {pid : ByteArray} {pk : Int} (h : mayStep keys lens so id i seen pid pk) : mayGo keys lens so (id :: r) i seen pid pk = mayGo keys lens so r (i + 1) (id :: seen) id (rd keys i) := if_pos h
theorem mayGo_bad {keys lens : List Int} {so : Bool} {id : ByteArray} {r : List ByteArray} {i : Nat} {seen : List ByteArray} {pid : ByteArray} {pk : Int} (h : ¬ mayStep keys lens so id i seen pid pk) : mayGo keys lens so (id :: r) i seen pid pk = false := if_neg h
end Go.Proofs.Ytfhcolhiolgikaa.Plain
/- Plain facts for Pack: words that are put. -/
namespace Go.Proofs.Ytfhcolhiolgikaa.Plain
set_option linter.unusedVariables false
set_option linter.unusedSimpArgs false
open Go.RowKit Go.Proofs.Ytfhcolhiolgikaa.T Go.Proofs.YtfhcolhiolgikaaW.PrintWords Go.Proofs.YtfhcolhiolgikaaW.PrintLast Go.Proofs.YtfhcolhiolgikaaW.PrintMore
theorem putP_len (n : Int) : (putP n).length ≤ 5 := by
  rw [putP_def]
  split
  · exact vput_len5 (by omega)
  · simp
def dpk : ByteArray → List ByteArray → List Int
  | _, [] => []
  | ah, t :: r => putP (sharedP ah t : Nat) ++ putP ((t.size : Int) - (sharedP ah t : Nat)) ++ (bytesOf t).drop (sharedP ah t) ++ dpk t r
def dictPackP (l : List ByteArray) : List Int := putP (l.length : Int) ++ dpk ⟨#[]⟩ l
def dictPackR (l : List ByteArray) : List Int := if dictMayP l = true then dictPackP l else []
theorem asc_ok {l : List ByteArray} (h : ascP l = true) : ∀ t ∈ l, wordOk t = true := by
  match l, h with
  | [], _ => intro t ht; cases ht
  | a :: r, h =>
    rw [asc_cons] at h
    simp only [Bool.and_eq_true] at h
    obtain ⟨h1, h2⟩ := h
    intro t ht
    rcases List.mem_cons.1 ht with rfl | ht
    · exact h1
    · clear h1
      induction r generalizing a with
      | nil => cases ht
      | cons b r ih =>
        unfold asc1 at h2
        simp only [Bool.and_eq_true] at h2
        rcases List.mem_cons.1 ht with rfl | ht
        · exact h2.1.1
        · exact ih (a := b) h2.2 (by simp [ht]) ht
theorem dictMay_ok {l : List ByteArray} (h : dictMayP l = true) : l.length ≤ 200 ∧ ∀ t ∈ l, 1 ≤ t.size ∧ t.size ≤ 32 := by
  unfold dictMayP at h
  simp only [Bool.and_eq_true, decide_eq_true_eq] at h
  refine ⟨h.2, fun t ht => ?_⟩
  have := asc_ok h.1 t ht
  unfold wordOk at this
  simpa using this
theorem shared_le (a b : ByteArray) : sharedP a b ≤ a.size ∧ sharedP a b ≤ b.size := by
  unfold sharedP
  have h := lcp_le (bytesOf a) (bytesOf b)
  rw [bytesOf_length, bytesOf_length] at h
  exact h
theorem bytesOf_extract (t : ByteArray) (n : Nat) : bytesOf (t.extract n t.size) = (bytesOf t).drop n := by
  unfold bytesOf
  rw [ByteArray.data_extract, Array.toList_extract, List.extract_eq_take_drop]
  have : t.size = t.data.toList.length := (data_length t).symm
  rw [List.map_take, List.map_drop, List.take_of_length_le]
  rw [List.length_drop, List.length_map]
  omega
end Go.Proofs.Ytfhcolhiolgikaa.Plain
/- Plain facts for Pack: postings that are put. -/
namespace Go.Proofs.Ytfhcolhiolgikaa.Plain
set_option linter.unusedVariables false
set_option linter.unusedSimpArgs false
open Go.RowKit Go.Proofs.Ytfhcolhiolgikaa.T Go.Proofs.YtfhcolhiolgikaaW.PrintWords Go.Proofs.YtfhcolhiolgikaaW.PrintLast Go.Proofs.YtfhcolhiolgikaaW.PrintMore
def bodyP (ah : Int) : List S64 → List Int
  | [] => []
  | p :: r => putP (p.f0 - ah - 1) ++ riseP p.f1 ++ bodyP p.f0 r
def lastP (ah : Int) : List S64 → Int
  | [] => ah
  | p :: r => lastP p.f0 r
def blockP (ah : Int) (ps : List S64) : List Int := putP (lastP ah ps) ++ putP ((bodyP ah ps).length : Int) ++ bodyP ah ps
def chunkL (l : List S64) (j : Nat) : List S64 := (l.drop (4 * j)).take 4
def chunksP (l : List S64) (ah : Int) : List Nat → List Int
  | [] => []
  | j :: r => blockP ah (chunkL l j) ++ chunksP l (lastP ah (chunkL l j)) r
def lastC (l : List S64) (ah : Int) : List Nat → Int
  | [] => ah
  | j :: r => lastC l (lastP ah (chunkL l j)) r
theorem chunksP_app (l : List S64) (ah : Int) (a b : List Nat) : chunksP l ah (a ++ b) = chunksP l ah a ++ chunksP l (lastC l ah a) b := by
  induction a generalizing ah with
  | nil => rfl
  | cons j r ih => simp only [List.cons_append, chunksP, lastC, ih, List.append_assoc]
theorem lastC_app (l : List S64) (ah : Int) (a b : List Nat) : lastC l ah (a ++ b) = lastC l (lastC l ah a) b := by
  induction a generalizing ah with
  | nil => rfl
  | cons j r ih => simp only [List.cons_append, lastC, ih]
def nBlocks (l : List S64) : Nat := (l.length + 3) / 4
def postPackP (l : List S64) : List Int := putP (l.length : Int) ++ chunksP l (-1) (List.range (nBlocks l))
def postPackR (l : List S64) : List Int := if postMayP l = true then postPackP l else []
theorem gaps_len (last : Int) (l : List Int) (h0 : -1 ≤ last) (h : risingP last 120 l = true) : (gaps last l).length ≤ 5 * l.length := by
  induction l generalizing last with
  | nil => simp [gaps]
  | cons a r ih =>
    unfold risingP at h
    simp only [Bool.and_eq_true, decide_eq_true_eq] at h
    have := ih a (by omega) h.2
    have := vput_len5 (show (a - last - 1).toNat < 34359738368 by omega)
    simp only [gaps, List.length_append, List.length_cons]
    omega
theorem rise_len (l : List Int) (hl : l.length ≤ 120) (h : risingP (-1) 120 l = true) : (riseP l).length ≤ 605 := by
  have := gaps_len (-1) l (by omega) h
  have := vput_len5 (show l.length < 34359738368 by omega)
  simp only [riseP, List.length_append]
  omega
theorem postOk_of {l : List S64} (h : postMayP l = true) : ∀ p ∈ l, (0 ≤ p.f0 ∧ p.f0 < 64) ∧ p.f1.length ≤ 120 ∧ risingP (-1) 120 p.f1 = true := by
  intro p hp
  have h1 := (postMay_post h).2 p hp
  unfold postMayP at h
  simp only [Bool.and_eq_true, decide_eq_true_eq, List.all_eq_true] at h
  have hok := h.1.1 p hp
  unfold postOk at hok
  simp only [Bool.and_eq_true, decide_eq_true_eq] at hok
  exact ⟨h1.1, h1.2.1, hok.2⟩
theorem body_len (ps : List S64) : ∀ ah : Int, (∀ p ∈ ps, p.f1.length ≤ 120 ∧ risingP (-1) 120 p.f1 = true) → (bodyP ah ps).length ≤ 610 * ps.length := by
  induction ps with
  | nil => intro ah _; simp [bodyP]
  | cons p r ih =>
    intro ah h
    have h1 := h p (by simp)
    have h2 := ih p.f0 (fun q hq => h q (by simp [hq]))
    have h3 := rise_len p.f1 h1.1 h1.2
    have h4 := putP_len (p.f0 - ah - 1)
    simp only [bodyP, List.length_append, List.length_cons]
    omega
theorem chunk_mem {l : List S64} {j : Nat} : ∀ p ∈ chunkL l j, p ∈ l := fun p hp => List.mem_of_mem_drop (List.mem_of_mem_take hp)
theorem chunk_len (l : List S64) (j : Nat) : (chunkL l j).length = min 4 (l.length - 4 * j) := by
  unfold chunkL
  rw [List.length_take, List.length_drop]
theorem block_len (l : List S64) (hm : postMayP l = true) (ah : Int) (j : Nat) : (blockP ah (chunkL l j)).length ≤ 2450 := by
  have h1 := body_len (chunkL l j) ah (fun p hp => (postOk_of hm p (chunk_mem p hp)).2)
  have h2 := chunk_len l j
  have h3 := putP_len (lastP ah (chunkL l j))
  have h4 := putP_len ((bodyP ah (chunkL l j)).length : Int)
  simp only [blockP, List.length_append]
  omega
theorem chunks_len (l : List S64) (hm : postMayP l = true) (pre : List Nat) : ∀ ah, (chunksP l ah pre).length ≤ 2450 * pre.length := by
  induction pre with
  | nil => intro ah; simp [chunksP]
  | cons j r ih =>
    intro ah
    have h1 := block_len l hm ah j
    have h2 := ih (lastP ah (chunkL l j))
    simp only [chunksP, List.length_append, List.length_cons]
    omega
theorem lastP_range (ps : List S64) (ah : Int) (h0 : -1 ≤ ah ∧ ah < 64) (h : ∀ p ∈ ps, 0 ≤ p.f0 ∧ p.f0 < 64) : -1 ≤ lastP ah ps ∧ lastP ah ps < 64 := by
  induction ps generalizing ah with
  | nil => exact h0
  | cons p r ih =>
    have := h p (by simp)
    exact ih p.f0 (by omega) (fun q hq => h q (by simp [hq]))
theorem lastC_range (l : List S64) (hm : postMayP l = true) (pre : List Nat) : ∀ ah, -1 ≤ ah ∧ ah < 64 → -1 ≤ lastC l ah pre ∧ lastC l ah pre < 64 := by
  induction pre with
  | nil => intro ah h; exact h
  | cons j r ih =>
    intro ah h
    exact ih _ (lastP_range _ _ h (fun p hp => (postOk_of hm p (chunk_mem p hp)).1))
end Go.Proofs.Ytfhcolhiolgikaa.Plain
/- Plain facts for Pack: a segment's bytes. -/
namespace Go.Proofs.Ytfhcolhiolgikaa.Plain
set_option linter.unusedVariables false
set_option linter.unusedSimpArgs false
open Go.RowKit Go.Proofs.Ytfhcolhiolgikaa.T Go.Proofs.YtfhcolhiolgikaaW.PrintWords Go.Proofs.YtfhcolhiolgikaaW.PrintLast Go.Proofs.YtfhcolhiolgikaaW.PrintMore
def sizedP (b : List Int) : List Int := vput b.length ++ b
def idsE : List ByteArray → List Int
  | [] => []
  | t :: r => sizedP (bytesOf t) ++ idsE r
def numsE : List Int → List Int
  | [] => []
  | n :: r => putP n ++ numsE r
def postsE : List S44 → List Int
  | [] => []
  | t :: r => sizedP (postPackR t.f1) ++ postsE r
def packHead (ids : List ByteArray) (so : Bool) : List Int := (if so = true then 1 else 0) :: putP (ids.length : Int)
def packIn (ids : List ByteArray) (keys lens : List Int) (terms : List S44) (so : Bool) : List Int :=
  packHead ids so ++ idsE ids ++ numsE (keys ++ lens) ++ sizedP (dictPackR (terms.map (·.f0))) ++ postsE terms
def wrapP (b : List Int) : List Int := if b.length > 65536 then [] else [70, 83] ++ putP (b.length : Int) ++ b ++ ofL (sumL ([70, 83] ++ putP (b.length : Int) ++ b))
def packR (ids : List ByteArray) (keys lens : List Int) (terms : List S44) (so : Bool) : List Int :=
  if segMayP ids keys lens terms so = true then wrapP (packIn ids keys lens terms so) else []
def packE (ids : List ByteArray) (keys lens : List Int) (terms : List S44) (so : Bool) : Int :=
  if segMayP ids keys lens terms so = true then 0 else 1
theorem packHead_len (ids : List ByteArray) (so : Bool) : (packHead ids so).length ≤ 6 := Nat.succ_le_succ (putP_len (ids.length : Int))
theorem wrap_eq (b : List Int) (hl : b.length ≤ 1000000000) (k : Nat) (hk : 8 ≤ k) : frame_Wrap.f k 83 b = some (wrapP b) := by
  unfold frame_Wrap.f wrapP
  by_cases h : b.length > 65536
  · have hI : (b.length : Int) > 65536 := Int.ofNat_lt.2 h
    rw [if_pos hI, if_pos h]
  · have hI : ¬ (b.length : Int) > 65536 := fun hh => h (Int.ofNat_lt.1 hh)
    have h5 : (putP (b.length : Int)).length ≤ 1000 := Nat.le_trans (putP_len _) (by decide)
    rw [if_neg hI, if_neg h, put_eq _ k hk, Option.bind_some, if_pos h5]
/-! ### what a segment that may be is like -/
theorem mayGo_ids {keys lens : List Int} {so : Bool} (r : List ByteArray) : ∀ (i : Nat) (seen : List ByteArray) (pid : ByteArray) (pk : Int), mayGo keys lens so r i seen pid pk = true → ∀ id ∈ r, 1 ≤ id.size ∧ id.size ≤ 16 := by
  induction r with
  | nil => intro i _ _ _ _ id h; cases h
  | cons x r ih =>
    intro i seen pid pk h id hid
    unfold mayGo at h
    split at h
    · rename_i hs
      rcases List.mem_cons.1 hid with rfl | hid
      · have := hs.1
        unfold cardOk at this
        simp only [Bool.and_eq_true, decide_eq_true_eq] at this
        exact ⟨this.1.1.1, this.1.1.2⟩
      · exact ih (i + 1) _ _ _ h id hid
    · cases h
theorem mayGo_keys {keys lens : List Int} {so : Bool} (r : List ByteArray) : ∀ (i : Nat) (seen : List ByteArray) (pid : ByteArray) (pk : Int), mayGo keys lens so r i seen pid pk = true → ∀ j, i ≤ j → j < i + r.length → 0 ≤ rd keys (j : Int) ∧ rd keys (j : Int) ≤ 1073741824 := by
  induction r with
  | nil => intro i _ _ _ _ j h1 h2; simp at h2; omega
  | cons id r ih =>
    intro i seen pid pk h j h1 h2
    unfold mayGo at h
    split at h
    · rename_i hs
      by_cases hj : j = i
      · subst hj
        have := hs.1
        unfold cardOk at this
        simp only [Bool.and_eq_true, decide_eq_true_eq] at this
        exact ⟨this.1.2, this.2⟩
      · exact ih (i + 1) _ _ _ h j (by omega) (by simp at h2; omega)
    · cases h
theorem plTerms_ok {lens : List Int} (terms : List S44) : ∀ (s s' : List (Int × Int)), plTerms lens terms s = some s' → ∀ t ∈ terms, t.f1.length ≠ 0 ∧ postMayP t.f1 = true := by
  induction terms with
  | nil => intro s s' _ t h; cases h
  | cons x r ih =>
    intro s s' h t ht
    unfold plTerms at h
    split at h
    · cases h
    · rename_i hc
      obtain ⟨s1, _, h2⟩ := Option.bind_eq_some_iff.1 h
      rcases List.mem_cons.1 ht with rfl | ht
      · have hb : ¬ postMayP t.f1 = false := fun e => hc (Or.inr e)
        exact ⟨fun e => hc (Or.inl e), by simpa using hb⟩
      · exact ih s1 s' h2 t ht
structure SegOk (ids : List ByteArray) (keys lens : List Int) (terms : List S44) (so : Bool) : Prop where
  n64 : ids.length ≤ 64
  nk : keys.length = ids.length
  nl : lens.length = ids.length
  go : mayGo keys lens so ids 0 [] ⟨#[]⟩ 0 = true
  ids16 : ∀ id ∈ ids, 1 ≤ id.size ∧ id.size ≤ 16
  keys30 : ∀ n ∈ keys, 0 ≤ n ∧ n ≤ 1073741824
  lens120 : ∀ n ∈ lens, 0 ≤ n ∧ n ≤ 120
  pl : ∃ s, plTerms lens terms [] = some s ∧ sumP lens = (s.length : Int)
  dict : dictMayP (terms.map (·.f0)) = true
  post : ∀ t ∈ terms, t.f1.length ≠ 0 ∧ postMayP t.f1 = true
  t200 : terms.length ≤ 200
theorem segOk {ids : List ByteArray} {keys lens : List Int} {terms : List S44} {so : Bool} (h : segMayP ids keys lens terms so = true) : SegOk ids keys lens terms so := by
  unfold segMayP at h
  simp only [Bool.and_eq_true, decide_eq_true_eq] at h
  obtain ⟨h1, h2, h3, h4, h5⟩ := h
  unfold placedP at h5
  cases hp : plTerms lens terms [] with
  | none => rw [hp] at h5; cases h5
  | some s =>
    rw [hp] at h5
    simp only [plEnd, Bool.and_eq_true, decide_eq_true_eq] at h5
    have hd := (dictMay_ok h5.1).1
    rw [List.length_map] at hd
    refine ⟨h1, h2, h3, h4, mayGo_ids ids 0 _ _ _ h4, ?_, mayGo_all h4 h3, ⟨s, hp, h5.2⟩, h5.1, plTerms_ok terms _ _ hp, hd⟩
    intro n hn
    obtain ⟨j, hj, e⟩ := List.getElem_of_mem hn
    have := mayGo_keys ids 0 [] ⟨#[]⟩ 0 h4 j (by omega) (by omega)
    rw [rd_nat keys j hj, e] at this
    exact this
theorem idsE_app (a b : List ByteArray) : idsE (a ++ b) = idsE a ++ idsE b := by
  induction a with
  | nil => rfl
  | cons x a ih => simp only [List.cons_append, idsE, ih, List.append_assoc]
theorem numsE_app (a b : List Int) : numsE (a ++ b) = numsE a ++ numsE b := by
  induction a with
  | nil => rfl
  | cons x a ih => simp only [List.cons_append, numsE, ih, List.append_assoc]
theorem postsE_app (a b : List S44) : postsE (a ++ b) = postsE a ++ postsE b := by
  induction a with
  | nil => rfl
  | cons x a ih => simp only [List.cons_append, postsE, ih, List.append_assoc]
theorem sizedP_len (b : List Int) (h : b.length < 34359738368) : (sizedP b).length ≤ b.length + 5 := by
  have := vput_len5 h
  unfold sizedP
  rw [List.length_append]; omega
theorem idsE_len (ids : List ByteArray) (h : ∀ id ∈ ids, id.size ≤ 16) : (idsE ids).length ≤ 21 * ids.length := by
  induction ids with
  | nil => simp [idsE]
  | cons x r ih =>
    have h1 := h x (by simp)
    have h2 := ih (fun y hy => h y (by simp [hy]))
    have h3 := sizedP_len (bytesOf x) (by rw [bytesOf_length]; omega)
    rw [bytesOf_length] at h3
    simp only [idsE, List.length_append, List.length_cons]
    omega
theorem numsE_len (l : List Int) : (numsE l).length ≤ 5 * l.length := by
  induction l with
  | nil => simp [numsE]
  | cons x r ih =>
    have := putP_len x
    simp only [numsE, List.length_append, List.length_cons]
    omega
theorem postPackR_len (l : List S64) : (postPackR l).length ≤ 50000 := by
  unfold postPackR
  split
  · rename_i h
    have h1 := chunks_len l h (List.range (nBlocks l)) (-1)
    have h2 := putP_len (l.length : Int)
    have h3 := (postMay_post h).1
    rw [List.length_range] at h1
    have h4 : nBlocks l ≤ 16 := by unfold nBlocks; omega
    simp only [postPackP, List.length_append]
    omega
  · simp
theorem postsE_len (l : List S44) : (postsE l).length ≤ 50005 * l.length := by
  induction l with
  | nil => simp [postsE]
  | cons x r ih =>
    have h1 := postPackR_len x.f1
    have h2 := sizedP_len (postPackR x.f1) (by omega)
    simp only [postsE, List.length_append, List.length_cons]
    omega
theorem dpk_len (l : List ByteArray) (h : ∀ t ∈ l, t.size ≤ 32) : ∀ ah, (dpk ah l).length ≤ 42 * l.length := by
  induction l with
  | nil => intro ah; simp [dpk]
  | cons t r ih =>
    intro ah
    have h1 := h t (by simp)
    have h2 := ih (fun y hy => h y (by simp [hy])) t
    have h3 := putP_len (sharedP ah t : Nat)
    have h4 := putP_len ((t.size : Int) - (sharedP ah t : Nat))
    simp only [dpk, List.length_append, List.length_cons, List.length_drop, bytesOf_length]
    omega
theorem dictPackR_len (l : List ByteArray) : (dictPackR l).length ≤ 10000 := by
  unfold dictPackR
  split
  · rename_i h
    obtain ⟨h1, h2⟩ := dictMay_ok h
    have h3 := dpk_len l (fun t ht => (h2 t ht).2) ⟨#[]⟩
    have h4 := putP_len (l.length : Int)
    simp only [dictPackP, List.length_append]
    omega
  · simp
end Go.Proofs.Ytfhcolhiolgikaa.Plain
/- Plain facts for Pack: readers. -/
namespace Go.Proofs.Ytfhcolhiolgikaa.Plain
set_option linter.unusedVariables false
set_option linter.unusedSimpArgs false
open Go.RowKit Go.Proofs.Ytfhcolhiolgikaa.T Go.Proofs.YtfhcolhiolgikaaW.PrintWords Go.Proofs.YtfhcolhiolgikaaW.PrintLast Go.Proofs.YtfhcolhiolgikaaW.PrintMore
def numV (b : List Int) (at_ : Int) : Int := (getP b at_).1
def numA (b : List Int) (at_ : Int) : Int := if (getP b at_).2.2 = 0 then (getP b at_).2.1 else at_
def numB (b : List Int) (at_ : Int) (bad : Bool) : Bool := if (getP b at_).2.2 = 0 then bad else true
def listV (b : List Int) (at_ : Int) : List Int := (readP b at_).1
def listA (b : List Int) (at_ : Int) : Int := if (readP b at_).2.2 = 0 then (readP b at_).2.1 else at_
def listB (b : List Int) (at_ : Int) (bad : Bool) : Bool := if (readP b at_).2.2 = 0 then bad else true
theorem set_same {cs : Array Value} {i : Nat} {v : Value} (h : cs[i]? = some v) : cs.setIfInBounds i v = cs := by
  apply Array.ext_getElem?
  intro j
  rw [Array.getElem?_setIfInBounds]
  by_cases hj : i = j
  · subst hj
    obtain ⟨hl, _⟩ := Array.getElem?_eq_some_iff.1 h
    rw [if_pos rfl, if_pos hl, h]
  · rw [if_neg hj]
theorem get_set {cs : Array Value} {v u : Value} (h : cs[2]? = some v) : (cs.setIfInBounds 1 u)[2]? = some v := by
  rw [Array.getElem?_setIfInBounds, if_neg (by decide), h]
theorem num_cs (cs : Array Value) (b : List Int) (at_ : Int) (bad : Bool) (h1 : cs[1]? = some (.int .i64 at_)) (h2 : cs[2]? = some (.bool bad)) :
    (if (getP b at_).2.2 = 0 then ((getP b at_).1, cs.setIfInBounds 1 (.int .i64 (getP b at_).2.1)) else (0, cs.setIfInBounds 2 (.bool true))) = (numV b at_, (cs.setIfInBounds 1 (.int .i64 (numA b at_))).setIfInBounds 2 (.bool (numB b at_ bad))) := by
  unfold numV numA numB
  rcases get_bad b at_ with ⟨n, nx, h⟩ | ⟨e, he, h⟩
  · rw [h]
    simp only [if_pos]
    rw [set_same (get_set h2)]
  · rw [h]
    simp only [if_neg he]
    rw [set_same h1]
theorem read_nil {b : List Int} {at_ : Int} (h : (readP b at_).2.2 ≠ 0) : (readP b at_).1 = [] := by
  have key : ∀ (m : Nat) (a : Int) (acc : List Int) (last : Int), (readL b m a acc last).2.2 ≠ 0 → (readL b m a acc last).1 = [] := by
    intro m
    induction m with
    | zero => intro a acc last h; exact absurd rfl h
    | succ m ih =>
      intro a acc last h
      unfold readL at h ⊢
      split at h
      · rename_i h1
        rw [if_pos h1]
        split at h
        · rename_i h2
          rw [if_pos h2]
          exact ih _ _ _ h
        · rename_i h2
          rw [if_neg h2]
      · rename_i h1
        rw [if_neg h1]
  unfold readP at h ⊢
  split at h
  · rename_i h1
    rw [if_pos h1]
    split at h
    · rename_i h2
      rw [if_pos h2]
    · rename_i h2
      rw [if_neg h2]
      exact key _ _ _ _ h
  · rename_i h1
    rw [if_neg h1]
theorem list_cs (cs : Array Value) (b : List Int) (at_ : Int) (bad : Bool) (h1 : cs[1]? = some (.int .i64 at_)) (h2 : cs[2]? = some (.bool bad)) :
    (if (readP b at_).2.2 = 0 then ((readP b at_).1, cs.setIfInBounds 1 (.int .i64 (readP b at_).2.1)) else ([], cs.setIfInBounds 2 (.bool true))) = (listV b at_, (cs.setIfInBounds 1 (.int .i64 (listA b at_))).setIfInBounds 2 (.bool (listB b at_ bad))) := by
  unfold listV listA listB
  by_cases h : (readP b at_).2.2 = 0
  · simp only [if_pos h]
    rw [set_same (get_set h2)]
  · rw [read_nil h]
    simp only [if_neg h]
    rw [set_same h1]
theorem numV_range (b : List Int) (at_ : Int) (hb : byt b) : 0 ≤ numV b at_ ∧ numV b at_ < 34359738368 := ⟨(get_range b at_ hb).1, (get_range b at_ hb).2.1⟩
theorem numA_range (b : List Int) (at_ : Int) (hb : byt b) (h0 : 0 ≤ at_) (h1 : at_ ≤ b.length) : 0 ≤ numA b at_ ∧ numA b at_ ≤ b.length := by
  unfold numA
  split
  · exact ⟨(get_range b at_ hb).2.2.1, (get_range b at_ hb).2.2.2⟩
  · exact ⟨h0, h1⟩
/-! ### a block -/
def bkN (b : List Int) (at_ : Int) : Int := numV b (numA b at_)
def bkA (b : List Int) (at_ : Int) : Int := numA b (numA b at_)
def bkBad (b : List Int) (at_ : Int) (bad : Bool) : Bool := numB b (numA b at_) (numB b at_ bad)
def bkOk (b : List Int) (at_ : Int) (bad : Bool) : Bool := !bkBad b at_ bad && decide (bkN b at_ ≤ (b.length : Int) - bkA b at_)
def bkL (b : List Int) (at_ : Int) (bad : Bool) : Int := if bkOk b at_ bad = true then numV b at_ else 0
def bkB (b : List Int) (at_ : Int) (bad : Bool) : List Int := if bkOk b at_ bad = true then (b.take (bkA b at_ + bkN b at_).toNat).drop (bkA b at_).toNat else []
def bkA2 (b : List Int) (at_ : Int) (bad : Bool) : Int := if bkOk b at_ bad = true then bkA b at_ + bkN b at_ else bkA b at_
end Go.Proofs.Ytfhcolhiolgikaa.Plain
/- Written by hp.py, this session's own program, out of the translation of this seat: Lean functions for the Go functions, and the proof that each call comes to what its Lean function says. -/
namespace Go.Proofs.Ytfhcolhiolgikaa.T
open Go.RowKit Go.Proofs.YtfhcolhiolgikaaW.PrintWords Go.Proofs.YtfhcolhiolgikaaW.PrintLast Go.Proofs.YtfhcolhiolgikaaW.PrintMore
attribute [local go_sem] max2_int min2_int max_two min_two max_three min_three max_four min_four   -- for this text's walks alone
set_option linter.unusedVariables false
set_option linter.unusedSimpArgs false
/-! ### readers, in plain words -/
open Go.Proofs.Ytfhcolhiolgikaa.Plain
/-- A reader: bytes, place, bad. -/
def rd3 (A : Option Addr) (c : Nat) (b : List Int) (at_ : Int) (bad : Bool) : Array Value := #[.slice A b.length c, .int .i64 at_, .bool bad]
/-- A block of postings: a reader, and the last document. -/
def rd4 (A : Option Addr) (c : Nat) (b : List Int) (at_ : Int) (bad : Bool) (last : Int) : Array Value := #[.slice A b.length c, .int .i64 at_, .bool bad, .int .i64 last]
theorem num66_3 (g : Nat) (A : Option Addr) (c : Nat) (b : List Int) (at_ : Int) (bad : Bool) (t : TypeId) (w0 w : World) (hb : byt b) (hC : Kd.C (Kd.int .u8) w0 A b.length b) (hc : b.length ≤ c) (hblk : w.heap[g]? = some (.cells (rd3 A c b at_ bad) t (0, 0))) (hB : Below w0.heap.size w0 w) (hg : w0.heap.size ≤ g) :
    Calls Try.prog 66 #[.pointer (some ⟨g, 0, none⟩)] w fun en w' => en = .returned (.int .i64 (numV b at_)) ∧ w'.heap[g]? = some (.cells (rd3 A c b (numA b at_) (numB b at_ bad)) t (0, 0)) ∧ Below w0.heap.size w0 w' ∧ KeepBut w w' g none :=
  num66_calls 7 g A c b at_ bad _ t _ _ _ w0 w hC hc hblk rfl rfl rfl hB hg (get_eq b at_ hb hC.2.1 7 (Nat.le_refl _)) _ _ (num_cs _ b at_ bad rfl rfl)
theorem num66_4 (g : Nat) (A : Option Addr) (c : Nat) (b : List Int) (at_ : Int) (bad : Bool) (last : Int) (t : TypeId) (w0 w : World) (hb : byt b) (hC : Kd.C (Kd.int .u8) w0 A b.length b) (hc : b.length ≤ c) (hblk : w.heap[g]? = some (.cells (rd4 A c b at_ bad last) t (0, 0))) (hB : Below w0.heap.size w0 w) (hg : w0.heap.size ≤ g) :
    Calls Try.prog 66 #[.pointer (some ⟨g, 0, none⟩)] w fun en w' => en = .returned (.int .i64 (numV b at_)) ∧ w'.heap[g]? = some (.cells (rd4 A c b (numA b at_) (numB b at_ bad) last) t (0, 0)) ∧ Below w0.heap.size w0 w' ∧ KeepBut w w' g none :=
  num66_calls 7 g A c b at_ bad _ t _ _ _ w0 w hC hc hblk rfl rfl rfl hB hg (get_eq b at_ hb hC.2.1 7 (Nat.le_refl _)) _ _ (num_cs _ b at_ bad rfl rfl)
theorem num47_3 (g : Nat) (A : Option Addr) (c : Nat) (b : List Int) (at_ : Int) (bad : Bool) (t : TypeId) (w0 w : World) (hb : byt b) (hC : Kd.C (Kd.int .u8) w0 A b.length b) (hc : b.length ≤ c) (hblk : w.heap[g]? = some (.cells (rd3 A c b at_ bad) t (0, 0))) (hB : Below w0.heap.size w0 w) (hg : w0.heap.size ≤ g) :
    Calls Try.prog 47 #[.pointer (some ⟨g, 0, none⟩)] w fun en w' => en = .returned (.int .i64 (numV b at_)) ∧ w'.heap[g]? = some (.cells (rd3 A c b (numA b at_) (numB b at_ bad)) t (0, 0)) ∧ Below w0.heap.size w0 w' ∧ KeepBut w w' g none :=
  num47_calls 7 g A c b at_ bad _ t _ _ _ w0 w hC hc hblk rfl rfl rfl hB hg (get_eq b at_ hb hC.2.1 7 (Nat.le_refl _)) _ _ (num_cs _ b at_ bad rfl rfl)
theorem list72_4 (g : Nat) (A : Option Addr) (c : Nat) (b : List Int) (at_ : Int) (bad : Bool) (last : Int) (t : TypeId) (w0 w : World) (hb : byt b) (hC : Kd.C (Kd.int .u8) w0 A b.length b) (hc : b.length ≤ c) (hblk : w.heap[g]? = some (.cells (rd4 A c b at_ bad last) t (0, 0))) (hB : Below w0.heap.size w0 w) (hg : w0.heap.size ≤ g) :
    Calls Try.prog 72 #[.pointer (some ⟨g, 0, none⟩)] w fun en w' => ∃ v : Value, en = .returned v ∧ Kd.R (Kd.int .i64) 3 w' w.heap.size (fun k_ => w.heap.size ≤ k_) v (listV b at_) ∧ w'.heap[g]? = some (.cells (rd4 A c b (listA b at_) (listB b at_ bad) last) t (0, 0)) ∧ Below w0.heap.size w0 w' ∧ KeepBut w w' g none :=
  list72_calls 2010 g A c b at_ bad _ t _ _ _ w0 w hC hc hblk rfl rfl rfl hB hg (read_eq b at_ hb hC.2.1 2010 (Nat.le_refl _)) _ _ (list_cs _ b at_ bad rfl rfl)
theorem ends69_3 (g : Nat) (A : Option Addr) (c : Nat) (b : List Int) (at_ : Int) (bad : Bool) (t : TypeId) (w : World) (hblk : w.heap[g]? = some (.cells (rd3 A c b at_ bad) t (0, 0))) :
    Calls Try.prog 69 #[.pointer (some ⟨g, 0, none⟩)] w fun en w' => en = .returned (.bool (!bad && at_ == (b.length : Int))) ∧ Below w.heap.size w w' :=
  ends69_calls g A c b at_ bad _ t w hblk rfl rfl rfl _ rfl
theorem ends69_4 (g : Nat) (A : Option Addr) (c : Nat) (b : List Int) (at_ : Int) (bad : Bool) (last : Int) (t : TypeId) (w : World) (hblk : w.heap[g]? = some (.cells (rd4 A c b at_ bad last) t (0, 0))) :
    Calls Try.prog 69 #[.pointer (some ⟨g, 0, none⟩)] w fun en w' => en = .returned (.bool (!bad && at_ == (b.length : Int))) ∧ Below w.heap.size w w' :=
  ends69_calls g A c b at_ bad _ t w hblk rfl rfl rfl _ rfl

end Go.Proofs.Ytfhcolhiolgikaa.T
/- Plain facts for Pack: postings that are read. -/
namespace Go.Proofs.Ytfhcolhiolgikaa.Plain
set_option linter.unusedVariables false
set_option linter.unusedSimpArgs false
open Go.RowKit Go.Proofs.Ytfhcolhiolgikaa.T Go.Proofs.YtfhcolhiolgikaaW.PrintWords Go.Proofs.YtfhcolhiolgikaaW.PrintLast Go.Proofs.YtfhcolhiolgikaaW.PrintMore
/-- What a walk of a block knows: the postings; the place; bad; the last document. -/
structure RdS where
  out : List S64
  pl : Int
  bd : Bool
  ah : Int
def rdAh (b : List Int) (s : RdS) : Int := wrap64 (s.ah + wrap64 (1 + numV b s.pl))
def rdStep (b : List Int) (s : RdS) : RdS :=
  ⟨s.out ++ [⟨rdAh b s, listV b (numA b s.pl)⟩], listA b (numA b s.pl), listB b (numA b s.pl) (numB b s.pl s.bd), rdAh b s⟩
def rdN (b : List Int) (s : RdS) : Nat → RdS
  | 0 => s
  | n + 1 => rdStep b (rdN b s n)
def rdEnd (b : List Int) (s : RdS) : Bool := !s.bd && s.pl == (b.length : Int)
def rdBad (b : List Int) (s : RdS) (last : Int) : Bool := !rdEnd b s || s.ah != last
theorem rdN_len (b : List Int) (s : RdS) (n : Nat) : (rdN b s n).out.length = s.out.length + n := by
  induction n with
  | zero => rfl
  | succ n ih => simp only [rdN, rdStep, List.length_append, List.length_singleton, ih]; omega
/-! ### postings that are unpacked -/
structure UpS where
  out : List S64
  pl : Int
  bd : Bool
  ah : Int
def upMany (n : Int) (l : Nat) : Nat := min 4 (n.toNat - l)
def upRd (b : List Int) (n : Int) (s : UpS) : RdS := rdN (bkB b s.pl s.bd) ⟨[], 0, false, s.ah⟩ (upMany n s.out.length)
def upStep (b : List Int) (n : Int) (s : UpS) : UpS :=
  ⟨s.out ++ (upRd b n s).out, bkA2 b s.pl s.bd, !bkOk b s.pl s.bd || rdBad (bkB b s.pl s.bd) (upRd b n s) (bkL b s.pl s.bd), bkL b s.pl s.bd⟩
def upMore (n : Int) (s : UpS) : Bool := !s.bd && decide (n ≤ 64) && decide ((s.out.length : Int) < n)
def upGo (b : List Int) (n : Int) : Nat → UpS → UpS
  | 0, s => s
  | k + 1, s => if upMore n s = true then upGo b n k (upStep b n s) else s
def upEnd (b : List Int) : UpS := upGo b (numV b 0) 65 ⟨[], numA b 0, numB b 0 false, -1⟩
def unpackOk (b : List Int) : Bool := (!(upEnd b).bd && (upEnd b).pl == (b.length : Int)) && decide (((upEnd b).out.length : Int) = numV b 0) && postMayP (upEnd b).out
def unpackP (b : List Int) : List S64 := if unpackOk b = true then (upEnd b).out else []
def unpackE (b : List Int) : Int := if unpackOk b = true then 0 else 5
theorem upGo_stop {b : List Int} {n : Int} {s : UpS} (k : Nat) (h : upMore n s = false) : upGo b n k s = s := by
  cases k with
  | zero => rfl
  | succ k => simp [upGo, h]
theorem upGo_more {b : List Int} {n : Int} {s : UpS} (k : Nat) (h : upMore n s = true) : upGo b n (k + 1) s = upGo b n k (upStep b n s) := by simp [upGo, h]
theorem upStep_len (b : List Int) (n : Int) (s : UpS) : (upStep b n s).out.length = s.out.length + upMany n s.out.length := by
  simp [upStep, upRd, rdN_len]
theorem byt_sub {b : List Int} (h : byt b) (p q : Nat) : byt ((b.take q).drop p) := fun x hx => h x (List.mem_of_mem_take (List.mem_of_mem_drop hx))
theorem bkB_byt {b : List Int} (h : byt b) (at_ : Int) (bad : Bool) : byt (bkB b at_ bad) := by
  unfold bkB
  split
  · exact byt_sub h _ _
  · intro x hx; cases hx
theorem bkA2_range {b : List Int} (hb : byt b) {at_ : Int} (bad : Bool) (h0 : 0 ≤ at_) (h1 : at_ ≤ b.length) : 0 ≤ bkA2 b at_ bad ∧ bkA2 b at_ bad ≤ b.length := by
  have h2 := numA_range b at_ hb h0 h1
  have h3 : 0 ≤ bkA b at_ ∧ bkA b at_ ≤ b.length := numA_range b _ hb h2.1 h2.2
  have h4 : 0 ≤ bkN b at_ := (numV_range b _ hb).1
  unfold bkA2
  split
  · rename_i h
    unfold bkOk at h
    simp only [Bool.and_eq_true, decide_eq_true_eq] at h
    omega
  · exact h3
end Go.Proofs.Ytfhcolhiolgikaa.Plain
/- Plain facts for Pack: a reader's bytes; so many of a kind. -/
namespace Go.Proofs.Ytfhcolhiolgikaa.Plain
set_option linter.unusedVariables false
set_option linter.unusedSimpArgs false
open Go.RowKit Go.Proofs.Ytfhcolhiolgikaa.T Go.Proofs.YtfhcolhiolgikaaW.PrintWords Go.Proofs.YtfhcolhiolgikaaW.PrintLast Go.Proofs.YtfhcolhiolgikaaW.PrintMore
def rbOk (b : List Int) (at_ : Int) (bad : Bool) : Bool := !numB b at_ bad && decide (numV b at_ ≤ (b.length : Int) - numA b at_)
def rbV (b : List Int) (at_ : Int) (bad : Bool) : List Int := if rbOk b at_ bad = true then (b.take (numA b at_ + numV b at_).toNat).drop (numA b at_).toNat else []
def rbA (b : List Int) (at_ : Int) (bad : Bool) : Int := if rbOk b at_ bad = true then numA b at_ + numV b at_ else numA b at_
theorem rbV_byt {b : List Int} (h : byt b) (at_ : Int) (bad : Bool) : byt (rbV b at_ bad) := by
  unfold rbV
  split
  · exact byt_sub h _ _
  · intro x hx; cases hx
theorem rbV_len (b : List Int) (at_ : Int) (bad : Bool) : (rbV b at_ bad).length ≤ b.length := by
  unfold rbV
  split
  · rw [List.length_drop, List.length_take]; omega
  · exact Nat.zero_le _
theorem rbA_range {b : List Int} (hb : byt b) {at_ : Int} (bad : Bool) (h0 : 0 ≤ at_) (h1 : at_ ≤ b.length) : 0 ≤ rbA b at_ bad ∧ rbA b at_ bad ≤ b.length := by
  have h2 := numA_range b at_ hb h0 h1
  have h4 : 0 ≤ numV b at_ := (numV_range b at_ hb).1
  unfold rbA
  split
  · rename_i h
    unfold rbOk at h
    simp only [Bool.and_eq_true, decide_eq_true_eq] at h
    omega
  · exact h2
structure SmS (α : Type) where
  out : List α
  pl : Int
  bd : Bool
def smStep {α : Type} (one : Int → Bool → α × Int × Bool) (s : SmS α) : SmS α := ⟨s.out ++ [(one s.pl s.bd).1], (one s.pl s.bd).2.1, (one s.pl s.bd).2.2⟩
def smGo {α : Type} (one : Int → Bool → α × Int × Bool) : Nat → SmS α → SmS α
  | 0, s => s
  | k + 1, s => if s.bd = true then s else smGo one k (smStep one s)
theorem smGo_bad {α : Type} (one : Int → Bool → α × Int × Bool) (k : Nat) {s : SmS α} (h : s.bd = true) : smGo one k s = s := by
  cases k with
  | zero => rfl
  | succ k => simp [smGo, h]
theorem smGo_more {α : Type} (one : Int → Bool → α × Int × Bool) (k : Nat) {s : SmS α} (h : s.bd = false) : smGo one (k + 1) s = smGo one k (smStep one s) := by simp [smGo, h]
def strOne (b : List Int) (at_ : Int) (bad : Bool) : ByteArray × Int × Bool := (strOfNums (rbV b at_ bad), rbA b at_ bad, !rbOk b at_ bad)
def numOne (b : List Int) (at_ : Int) (bad : Bool) : Int × Int × Bool := (numV b at_, numA b at_, numB b at_ bad)
def termOne (b : List Int) (at_ : Int) (bad : Bool) : S44 × Int × Bool := (⟨⟨#[]⟩, unpackP (rbV b at_ bad)⟩, rbA b at_ bad, !rbOk b at_ bad || (unpackE (rbV b at_ bad) != 0))
end Go.Proofs.Ytfhcolhiolgikaa.Plain
/- Written by hp.py, this session's own program, out of the translation of this seat: Lean functions for the Go functions, and the proof that each call comes to what its Lean function says. -/
namespace Go.Proofs.Ytfhcolhiolgikaa.T
open Go.RowKit Go.Proofs.YtfhcolhiolgikaaW.PrintWords Go.Proofs.YtfhcolhiolgikaaW.PrintLast Go.Proofs.YtfhcolhiolgikaaW.PrintMore
attribute [local go_sem] max2_int min2_int max_two min_two max_three min_three max_four min_four   -- for this text's walks alone
set_option linter.unusedVariables false
set_option linter.unusedSimpArgs false
/-! ### bytes, of a reader, in plain words -/
open Go.Proofs.Ytfhcolhiolgikaa.Plain
theorem bytes50_3 (g : Nat) (A : Option Addr) (c : Nat) (b : List Int) (at_ : Int) (bad : Bool) (t : TypeId) (w0 w : World) (hb : byt b) (hC : Kd.C (Kd.int .u8) w0 A b.length b) (hc : b.length ≤ c) (hblk : w.heap[g]? = some (.cells (rd3 A c b at_ bad) t (0, 0))) (hB : Below w0.heap.size w0 w) (hg : w0.heap.size ≤ g) (h0 : 0 ≤ at_) (h1 : at_ ≤ b.length) (hl : b.length ≤ 1000000000) :
    Calls Try.prog 50 #[.pointer (some ⟨g, 0, none⟩)] w fun en w' => ∃ (A' : Option Addr) (c' : Nat), en = .returned (.slice A' (rbV b at_ bad).length c') ∧ Kd.C (Kd.int .u8) w0 A' (rbV b at_ bad).length (rbV b at_ bad) ∧ (rbV b at_ bad).length ≤ c' ∧
      w'.heap[g]? = some (.cells (rd3 A c b (rbA b at_ bad) (!rbOk b at_ bad)) t (0, 0)) ∧ Below w0.heap.size w0 w' ∧ KeepBut w w' g none := by
  have hr := numA_range b at_ hb h0 h1
  have hv := numV_range b at_ hb
  have hget := get_eq b at_ hb hC.2.1 7 (Nat.le_refl _)
  have hcs := num_cs (rd3 A c b at_ bad) b at_ bad rfl rfl
  cases hbd : numB b at_ bad with
  | true =>
    have hok : rbOk b at_ bad = false := by unfold rbOk; rw [hbd]; rfl
    refine (bytes50_bad 7 g A c b at_ bad _ t _ _ _ w0 w hC hc hblk rfl rfl rfl hB hg hget _ _ hcs (by rw [hbd]; rfl)).mono ?_
    rintro en w' ⟨rfl, hx, hB1, hk⟩
    refine ⟨none, 0, ?_, ?_, ?_, ?_, hB1, hk⟩
    · rw [show rbV b at_ bad = [] from by unfold rbV; rw [hok]; rfl]; rfl
    · rw [show rbV b at_ bad = [] from by unfold rbV; rw [hok]; rfl]; exact Kd.C_nil _ _
    · rw [show rbV b at_ bad = [] from by unfold rbV; rw [hok]; rfl]; exact Nat.le_refl _
    · rw [show rbA b at_ bad = numA b at_ from by unfold rbA; rw [hok]; rfl, hok]; exact hx
  | false =>
    have he : (getP b at_).2.2 = 0 := by
      unfold numB at hbd
      by_cases h : (getP b at_).2.2 = 0
      · exact h
      · rw [if_neg h] at hbd; cases hbd
    have hnx : numA b at_ = (getP b at_).2.1 := by unfold numA; rw [if_pos he]
    have h11 : (((rd3 A c b at_ bad).setIfInBounds 1 (.int .i64 (numA b at_))).setIfInBounds 2 (.bool (numB b at_ bad)))[1]? = some (.int .i64 (getP b at_).2.1) := by rw [← hnx]; rfl
    have h12 : (((rd3 A c b at_ bad).setIfInBounds 1 (.int .i64 (numA b at_))).setIfInBounds 2 (.bool (numB b at_ bad)))[2]? = some (.bool false) := by rw [hbd]; rfl
    by_cases hn : numV b at_ ≤ (b.length : Int) - numA b at_
    · have hok : rbOk b at_ bad = true := by unfold rbOk; rw [hbd, decide_eq_true hn]; rfl
      obtain ⟨p, hp⟩ := Int.eq_ofNat_of_zero_le hr.1
      obtain ⟨q, hq⟩ := Int.eq_ofNat_of_zero_le hv.1
      have hlt : p + q ≤ b.length := by omega
      have eV : rbV b at_ bad = (b.take (p + q)).drop p := by unfold rbV; rw [if_pos hok, hp, hq, Int.toNat_natCast, show ((p : Int) + (q : Int)).toNat = p + q from by omega]
      have eL : (rbV b at_ bad).length = q := by rw [eV, List.length_drop, List.length_take]; omega
      refine (bytes50_whole 7 g A c b at_ bad _ t _ _ _ p q w0 w hC hc hblk rfl rfl rfl hB hg hget _ _ hcs rfl h11 h12 (hnx.symm.trans hp) hq hlt).mono ?_
      rintro en w' ⟨rfl, hx, hB1, hk⟩
      refine ⟨_, c - p, by rw [eL], ?_, by rw [eL]; omega, ?_, hB1, hk⟩
      · have h := Kd.C_mid hC (Nat.le_add_right p q) hlt hc
        simp only [show (Kd.int .u8).sz = 1 from rfl, Nat.mul_one] at h
        rw [eV]
        exact h
      · rw [show rbA b at_ bad = (p : Int) + (q : Int) from by unfold rbA; rw [if_pos hok, hp, hq], hok]
        rw [hbd] at hx
        exact hx
    · have hok : rbOk b at_ bad = false := by unfold rbOk; rw [hbd, decide_eq_false hn]; rfl
      have hw : wrap64 ((b.length : Int) - (getP b at_).2.1) = (b.length : Int) - (getP b at_).2.1 := wid (by omega) (by omega)
      refine (bytes50_short 7 g A c b at_ bad _ t _ _ _ w0 w hC hc hblk rfl rfl rfl hB hg hget _ _ hcs rfl h11 h12 (show wrap64 ((b.length : Int) - (getP b at_).2.1) < numV b at_ from by rw [hw, ← hnx]; omega)).mono ?_
      rintro en w' ⟨rfl, hx, hB1, hk⟩
      refine ⟨none, 0, ?_, ?_, ?_, ?_, hB1, hk⟩
      · rw [show rbV b at_ bad = [] from by unfold rbV; rw [hok]; rfl]; rfl
      · rw [show rbV b at_ bad = [] from by unfold rbV; rw [hok]; rfl]; exact Kd.C_nil _ _
      · rw [show rbV b at_ bad = [] from by unfold rbV; rw [hok]; rfl]; exact Nat.le_refl _
      · rw [show rbA b at_ bad = numA b at_ from by unfold rbA; rw [hok]; rfl, hok]; exact hx

end Go.Proofs.Ytfhcolhiolgikaa.T
/- Written by hp.py, this session's own program, out of the translation of this seat: Lean functions for the Go functions, and the proof that each call comes to what its Lean function says. -/
namespace Go.Proofs.Ytfhcolhiolgikaa.T
open Go.RowKit Go.Proofs.YtfhcolhiolgikaaW.PrintWords Go.Proofs.YtfhcolhiolgikaaW.PrintLast Go.Proofs.YtfhcolhiolgikaaW.PrintMore
attribute [local go_sem] max2_int min2_int max_two min_two max_three min_three max_four min_four   -- for this text's walks alone
set_option linter.unusedVariables false
set_option linter.unusedSimpArgs false
/-! ### block, of a cursor (67), by hand -/
open Go.Proofs.Ytfhcolhiolgikaa.Plain
theorem blk_new_set (w : World) (a : Addr) (v : Value) (o : Obj) : ((w.setCell a v).alloc o).heap[w.heap.size]? = some o := by
  have h := blk_new (w.setCell a v) o
  have e : (w.setCell a v).heap.size = w.heap.size := Array.size_modify ..
  rwa [e] at h
theorem keep_drew {w w1 : World} {g : Nat} {row : Option Nat} (h : KeepBut w w1 g row) : KeepBut w w1.drew g row := ⟨h.1, h.2⟩
set_option maxHeartbeats 4000000 in
set_option maxRecDepth 100000 in
theorem block67_calls (g : Nat) (A : Option Addr) (c : Nat) (b : List Int) (at_ : Int) (bad : Bool) (w0 w : World) (hby : byt b) (hC : Kd.C (Kd.int .u8) w0 A b.length b) (hc : b.length ≤ c) (hblk : w.heap[g]? = some (.cells (rd3 A c b at_ bad) 114 (0, 0))) (hB : Below w0.heap.size w0 w) (hg : w0.heap.size ≤ g) (h0 : 0 ≤ at_) (h1 : at_ ≤ b.length) (hl : b.length ≤ 1000000000) :
    Calls Try.prog 67 #[.pointer (some ⟨g, 0, none⟩)] w fun en w' => ∃ (x : Nat) (Ax : Option Addr) (cx : Nat), en = .returned (.pointer (some ⟨x, 0, none⟩)) ∧ w'.heap[x]? = some (.cells (rd4 Ax cx (bkB b at_ bad) 0 false (bkL b at_ bad)) 119 (0, 0)) ∧ Kd.C (Kd.int .u8) w0 Ax (bkB b at_ bad).length (bkB b at_ bad) ∧ (bkB b at_ bad).length ≤ cx ∧
      w'.heap[g]? = some (.cells (rd3 A c b (bkA2 b at_ bad) (!bkOk b at_ bad)) 114 (0, 0)) ∧ Below w0.heap.size w0 w' ∧ KeepBut w w' g none ∧ w.heap.size ≤ x := by
  have HBY := Aside0.mk hby
  have HC := Aside0.mk hC
  have HCC := Aside0.mk hc
  have BG := Aside0.mk hblk
  have HB := Aside0.mk hB
  have HGE := Aside0.mk hg
  have HK := Aside0.mk (KeepBut.refl w g none)
  have hA1 := numA_range b at_ hby h0 h1
  have HA2 := Aside0.mk (show 0 ≤ bkA b at_ ∧ bkA b at_ ≤ b.length from numA_range b _ hby hA1.1 hA1.2)
  have HN := Aside0.mk (show 0 ≤ bkN b at_ ∧ bkN b at_ < 34359738368 from numV_range b _ hby)
  have HL := Aside0.mk hl
  clear hby hC hc hblk hB hg h0 h1 hA1 hl
  go_enter Try.func67, Try.ntmps67
  go_upto_region 2 with (first | (go_at_call 66; (refine (num66_3 g A c b _ _ 114 w0 _ HBY.out HC.out HCC.out BG.out HB.out HGE.out).mono ?_); rintro e_ w1 ⟨rfl, hb1, hB1, hk1⟩; have m0_ := Aside0.mk hb1; have m1_ := Aside0.mk hB1; have m2_ := Aside0.mk (HK.out.trans hk1 (Or.inl rfl)); clear BG HB HK hb1 hB1 hk1; have BG := m0_; have HB := m1_; have HK := m2_; clear m0_ m1_ m2_))
  have m0_ := Aside0.mk (show w1.heap[g]? = some (.cells (rd3 A c b (bkA b at_) (bkBad b at_ bad)) 114 (0, 0)) from BG.out)
  clear BG
  have BG := m0_
  clear m0_
  cases hbd : bkBad b at_ bad with
  | true =>
    have HOK := Aside0.mk (show bkOk b at_ bad = false from by unfold bkOk; rw [hbd]; rfl)
    rw [hbd] at BG
    clear hbd
    have d2 : w1.drew.cell? ⟨g, 2, none⟩ = some (.bool true) := (blk_cell BG.out 2).trans rfl
    refine start_ (n := 18) (S := fun w' => w'.cell? ⟨g, 2, none⟩ = some (.bool true)) (ds := []) #[false, false, false, false, false, false, false, false, false, false, false, false, false, false, false, false, false, false] (by kernel_rfl) rfl rfl (d2) (fun hHeld => ?_)
    refine rgP 0 10 ?_
    refine rgP 1 11 ?_
    refine rgP 2 12 ?_
    refine rgT1 3 13 hHeld ?_
    refine rgP 4 14 ?_
    refine rgU 5 15 ?_
    refine rgU 6 16 ?_
    refine rgU 7 17 ?_
    refine rgU 8 18 ?_
    refine rgU 9 19 ?_
    refine rgU 10 20 ?_
    refine rgU 11 21 ?_
    refine rgU 12 22 ?_
    refine rgU 13 23 ?_
    refine rgU 14 24 ?_
    refine rgU 15 25 ?_
    refine rgU 16 26 ?_
    refine rgP 17 27 ?_
    refine done_ (by kernel_rfl) ?_
    have c2 := (blk_cell BG.out 2)
    have f2 := blk_frozen BG.out 2
    go_wp2
    go_ret
    have hz := blk_set BG.out 2 (.bool true)
    refine ⟨_, none, 0, rfl, ?_, ?_, ?_, ?_, ?_, ?_, ?_⟩
    · rw [show bkB b at_ bad = [] from by unfold bkB; rw [HOK.out]; rfl, show bkL b at_ bad = 0 from by unfold bkL; rw [HOK.out]; rfl]; exact blk_drew (blk_new_set w1 _ _ _)
    · rw [show bkB b at_ bad = [] from by unfold bkB; rw [HOK.out]; rfl]; exact Kd.C_nil _ _
    · rw [show bkB b at_ bad = [] from by unfold bkB; rw [HOK.out]; rfl]; exact Nat.le_refl _
    · rw [show bkA2 b at_ bad = bkA b at_ from by unfold bkA2; rw [HOK.out]; rfl, HOK.out]; exact blk_drew (blk_below hz (below_alloc (Below.refl _ _) _))
    · exact below_drew ((below_set HB.out HGE.out).alloc (below_size (below_set HB.out HGE.out)) _)
    · exact keep_drew ((HK.out.set_ 2 (.bool true)).trans (KeepBut.of_below (below_alloc (Below.refl _ _) _) g none) (Or.inl rfl))
    · exact HK.out.1
  | false =>
    have HBD := Aside0.mk hbd
    rw [hbd] at BG
    clear hbd
    have hw : wrap64 ((b.length : Int) - bkA b at_) = (b.length : Int) - bkA b at_ := by
      have h1 := HA2.out
      have h2 := HL.out
      exact wid (by omega) (by omega)
    have HW := Aside0.mk hw
    clear hw
    have d2 : w1.drew.cell? ⟨g, 2, none⟩ = some (.bool false) := (blk_cell BG.out 2).trans rfl
    have d0 : w1.drew.cell? ⟨g, 0, none⟩ = some (.slice A b.length c) := (blk_cell BG.out 0).trans rfl
    have d1 : w1.drew.cell? ⟨g, 1, none⟩ = some (.int .i64 (bkA b at_)) := (blk_cell BG.out 1).trans rfl
    by_cases hn : wrap64 ((b.length : Int) - bkA b at_) < numV b (numA b at_)
    · have z1 : decide (wrap64 ((b.length : Int) - bkA b at_) < numV b (numA b at_)) = true := decide_eq_true hn
      have HOK := Aside0.mk (show bkOk b at_ bad = false from by unfold bkOk; rw [HBD.out, decide_eq_false (by have := HW.out; have h2 : bkN b at_ = numV b (numA b at_) := rfl; omega)]; rfl)
      clear hn
      refine start_ (n := 18) (S := fun w' => w'.cell? ⟨g, 2, none⟩ = some (.bool false) ∧ w'.cell? ⟨g, 0, none⟩ = some (.slice A b.length c) ∧ w'.cell? ⟨g, 1, none⟩ = some (.int .i64 (bkA b at_))) (ds := []) #[false, false, false, false, false, false, false, false, false, false, false, false, false, false, false, false, false, false] (by kernel_rfl) rfl rfl ⟨d2, d0, d1⟩ (fun hHeld => ?_)
      refine rgP 0 10 ?_
      refine rgP 1 11 ?_
      refine rgP 2 12 ?_
      refine rgT3 3 13 hHeld ?_
      refine rgP 4 14 ?_
      refine rgP 5 15 ?_
      refine rgP 6 16 ?_
      refine rgP 7 17 ?_
      refine rgP 8 18 ?_
      refine rgP 11 21 ?_
      refine rgP 12 22 ?_
      refine rgP 13 23 ?_
      refine rgT3 9 19 hHeld ?_
      refine rgP 10 20 ?_
      refine rgT3 14 24 hHeld ?_
      refine rgP 15 25 ?_
      refine rgP 16 26 ?_
      refine rgP 17 27 ?_
      refine done_ (by kernel_rfl) ?_
      have c2 := (blk_cell BG.out 2)
      have f2 := blk_frozen BG.out 2
      go_wp2
      go_ret
      have hz := blk_set BG.out 2 (.bool true)
      refine ⟨_, none, 0, rfl, ?_, ?_, ?_, ?_, ?_, ?_, ?_⟩
      · rw [show bkB b at_ bad = [] from by unfold bkB; rw [HOK.out]; rfl, show bkL b at_ bad = 0 from by unfold bkL; rw [HOK.out]; rfl]; exact blk_drew (blk_new_set w1 _ _ _)
      · rw [show bkB b at_ bad = [] from by unfold bkB; rw [HOK.out]; rfl]; exact Kd.C_nil _ _
      · rw [show bkB b at_ bad = [] from by unfold bkB; rw [HOK.out]; rfl]; exact Nat.le_refl _
      · rw [show bkA2 b at_ bad = bkA b at_ from by unfold bkA2; rw [HOK.out]; rfl, HOK.out]; exact blk_drew (blk_below hz (below_alloc (Below.refl _ _) _))
      · exact below_drew ((below_set HB.out HGE.out).alloc (below_size (below_set HB.out HGE.out)) _)
      · exact keep_drew ((HK.out.set_ 2 (.bool true)).trans (KeepBut.of_below (below_alloc (Below.refl _ _) _) g none) (Or.inl rfl))
      · exact HK.out.1
    · have z1 : decide (wrap64 ((b.length : Int) - bkA b at_) < numV b (numA b at_)) = false := decide_eq_false hn
      have HOK := Aside0.mk (show bkOk b at_ bad = true ∧ bkN b at_ ≤ (b.length : Int) - bkA b at_ from by
        have h : bkN b at_ ≤ (b.length : Int) - bkA b at_ := by have := HW.out; have h2 : bkN b at_ = numV b (numA b at_) := rfl; omega
        exact ⟨by unfold bkOk; rw [HBD.out, decide_eq_true h]; rfl, h⟩)
      clear hn
      refine start_ (n := 18) (S := fun w' => w'.cell? ⟨g, 2, none⟩ = some (.bool false) ∧ w'.cell? ⟨g, 0, none⟩ = some (.slice A b.length c) ∧ w'.cell? ⟨g, 1, none⟩ = some (.int .i64 (bkA b at_))) (ds := []) #[false, false, false, false, false, false, false, false, false, false, false, false, false, false, false, false, false, false] (by kernel_rfl) rfl rfl ⟨d2, d0, d1⟩ (fun hHeld => ?_)
      refine rgP 0 10 ?_
      refine rgP 1 11 ?_
      refine rgP 2 12 ?_
      refine rgT3 3 13 hHeld ?_
      refine rgP 4 14 ?_
      refine rgP 5 15 ?_
      refine rgP 6 16 ?_
      refine rgP 7 17 ?_
      refine rgP 8 18 ?_
      refine rgP 11 21 ?_
      refine rgP 12 22 ?_
      refine rgP 13 23 ?_
      refine rgT3 9 19 hHeld ?_
      refine rgP 10 20 ?_
      refine rgT3 14 24 hHeld ?_
      refine rgP 15 25 ?_
      refine rgP 16 26 ?_
      refine rgP 17 27 ?_
      refine done_ (by kernel_rfl) ?_
      obtain ⟨p, hp⟩ := Int.eq_ofNat_of_zero_le HA2.out.1
      obtain ⟨q, hq⟩ := Int.eq_ofNat_of_zero_le HN.out.1
      have hq2 : numV b (numA b at_) = (q : Int) := hq
      have hlt : p + q ≤ b.length := by have := HOK.out.2; omega
      have hlm := HL.out
      have hcc := HCC.out
      rw [hp] at BG d1
      go_upto_region 5 with fail
      rw [hq2]
      have hw2 : wrap64 ((p : Int) + (q : Int)) = (p : Int) + (q : Int) := wid (by omega) (by omega)
      have t1 : (0 : Int) ≤ (p : Int) := by omega
      have t2 : (p : Int) ≤ (p : Int) + (q : Int) := by omega
      have t3 : (p : Int) + (q : Int) ≤ (c : Int) := by omega
      have t4 : ((p : Int) + (q : Int)).toNat = p + q := by omega
      have HP := Aside0.mk hp
      have HQ := Aside0.mk hq
      have HLT := Aside0.mk hlt
      clear hp hq hq2 hlt hlm hcc z1 d0 d1 d2
      have d0 : w1.drew.drew.cell? ⟨g, 0, none⟩ = some (.slice A b.length c) := (blk_cell BG.out 0).trans rfl
      have d1 : w1.drew.drew.cell? ⟨g, 1, none⟩ = some (.int .i64 (p : Int)) := (blk_cell BG.out 1).trans rfl
      refine start_ (n := 20) (S := fun w' => w'.cell? ⟨g, 0, none⟩ = some (.slice A b.length c) ∧ w'.cell? ⟨g, 1, none⟩ = some (.int .i64 (p : Int))) (ds := []) #[false, false, false, false, false, false, false, false, false, false, false, false, false, false, false, false, false, false, false, false] (by kernel_rfl) rfl rfl ⟨d0, d1⟩ (fun hHeld => ?_)
      refine rgP 0 33 ?_
      refine rgP 1 34 ?_
      refine rgP 2 35 ?_
      refine rgP 4 37 ?_
      refine rgP 5 38 ?_
      refine rgP 6 39 ?_
      refine rgP 8 41 ?_
      refine rgP 9 42 ?_
      refine rgP 10 43 ?_
      refine rgP 12 45 ?_
      refine rgP 16 49 ?_
      refine rgT2 3 36 hHeld ?_
      refine rgT2 7 40 hHeld ?_
      refine rgT2 11 44 hHeld ?_
      refine rgP 13 46 ?_
      refine rgP 14 47 ?_
      refine rgP 15 48 ?_
      refine rgP 17 50 ?_
      refine one_ (i := 18) (N := some 51) #[true, true, true, true, true, true, true, true, true, true, true, true, true, true, true, true, true, true, true, false] rfl rfl (by kernel_rfl) (by decide) (fun K hK => ?_)
      refine value_ (w1 := ?_) (v := ?_) (by rfl) rfl ?_ ?_
      rotate_left 2
      · go_simp
        constructor
        · rfl
        · rfl
      refine hK.out _ _ ⟨(pw_cell_below (below_alloc (Below.refl _ _) _) hHeld.1), (pw_cell_below (below_alloc (Below.refl _ _) _) hHeld.2)⟩ (fun hHeld => ?_)
      clear hK K
      refine norm_ (a' := ?_) ?_ ?_
      rotate_left
      · show Act.put _ (some 51) _ = _
        simp only [Act.put, List.setIfInBounds_toArray, List.set_cons_zero, List.set_cons_succ, i64_w, i32_w]
        rfl
      refine rgP 19 5 ?_
      refine done_ (by kernel_rfl) ?_
      go_upto_region 6 with fail
      have N := blk_new w1 (.cells #[.slice (if c = p then A else A.map (fun x => x.add p)) q (c - p), .int .i64 0, .bool false, .int .i64 (numV b at_)] 119)
      have HAL := below_alloc (Below.refl w1.heap.size w1) (.cells #[.slice (if c = p then A else A.map (fun x => x.add p)) q (c - p), .int .i64 0, .bool false, .int .i64 (numV b at_)] 119)
      have m0_ := Aside0.mk (blk_drew (blk_drew N))
      have m1_ := Aside0.mk (below_drew (below_drew (below_step HB.out HAL)))
      have m2_ := Aside0.mk (keep_drew (keep_drew (HK.out.trans (KeepBut.of_below HAL g none) (Or.inl rfl))))
      have m3_ := Aside0.mk (blk_drew (blk_drew (blk_below BG.out HAL)))
      have NE := Aside0.mk (show w1.heap.size ≠ g from fun e => absurd (blk_lt BG.out) (by rw [e]; exact Nat.lt_irrefl _))
      have GE := Aside0.mk HK.out.1
      clear BG HB HK N HAL hHeld
      have BG := m3_
      have HB := m1_
      have HK := m2_
      have BX := m0_
      clear m0_ m1_ m2_ m3_ d0 d1
      generalize (w1.alloc (.cells #[.slice (if c = p then A else A.map (fun x => x.add p)) q (c - p), .int .i64 0, .bool false, .int .i64 (numV b at_)] 119)).drew.drew = w6 at *
      generalize w1.heap.size = X at *
      have eN : bkB b at_ bad = (b.take (p + q)).drop p := by unfold bkB; rw [if_pos HOK.out.1, HP.out, HQ.out, t4, Int.toNat_natCast]
      have eL : (bkB b at_ bad).length = q := by have := HLT.out; rw [eN, List.length_drop, List.length_take]; omega
      have CZ := Aside0.mk (show Kd.C (Kd.int .u8) w0 (if c = p then A else A.map (fun x => x.add p)) (bkB b at_ bad).length (bkB b at_ bad) from by
        rw [eN]
        have h := Kd.C_mid HC.out (Nat.le_add_right p q) HLT.out HCC.out
        simp only [show (Kd.int .u8).sz = 1 from rfl, Nat.mul_one] at h
        exact h)
      generalize (if c = p then A else A.map (fun x => x.add p)) = Z at *
      have EL := Aside0.mk eL
      clear eN eL
      have e1 : w6.cell? ⟨g, 1, none⟩ = some (.int .i64 (p : Int)) := (blk_cell BG.out 1).trans rfl
      have f1 := blk_frozen BG.out 1
      go_wp2
      go_ret
      refine ⟨X, Z, c - p, rfl, ?_, CZ.out, ?_, ?_, ?_, ?_, ?_⟩
      · rw [show bkL b at_ bad = numV b at_ from by unfold bkL; rw [if_pos HOK.out.1]]
        unfold rd4
        rw [EL.out]
        exact blk_far BX.out (p := ⟨g, 1, none⟩) NE.out _
      · have h1 := HLT.out
        have h2 := HCC.out
        rw [EL.out]; omega
      · rw [show bkA2 b at_ bad = (p : Int) + (q : Int) from by unfold bkA2; rw [if_pos HOK.out.1, HP.out, HQ.out], HOK.out.1]
        exact blk_set BG.out 1 _
      · exact below_set HB.out HGE.out
      · exact HK.out.set_ 1 _
      · exact GE.out

end Go.Proofs.Ytfhcolhiolgikaa.T
/- Written by hp.py, this session's own program, out of the translation of this seat: Lean functions for the Go functions, and the proof that each call comes to what its Lean function says. -/
namespace Go.Proofs.Ytfhcolhiolgikaa.T
open Go.RowKit Go.Proofs.YtfhcolhiolgikaaW.PrintWords Go.Proofs.YtfhcolhiolgikaaW.PrintLast Go.Proofs.YtfhcolhiolgikaaW.PrintMore
attribute [local go_sem] max2_int min2_int max_two min_two max_three min_three max_four min_four   -- for this text's walks alone
set_option linter.unusedVariables false
set_option linter.unusedSimpArgs false
/-! ### read, of a block (68), by hand -/
open Go.Proofs.Ytfhcolhiolgikaa.Plain
theorem info64 : (Try.prog.info? 64).map (fun i => (i.zero, i.size, i.bytes)) = some (some (.agg #[.int .i64 0, .slice none 0 0]), 2, 32) := by kernel_rfl
theorem below_less {B B' : Nat} {w w1 : World} (h : Below B w w1) (hb : B' ≤ B) : Below B' w w1 := ⟨h.os, h.tape, h.output, h.size, fun i hi => h.block i (Nat.lt_of_lt_of_le hi hb)⟩
set_option maxHeartbeats 4000000 in
set_option maxRecDepth 100000 in
theorem read68_calls (x : Nat) (A : Option Addr) (c : Nat) (b : List Int) (last ahead : Int) (many : Nat) (w0 w : World) (hby : byt b) (hC : Kd.C (Kd.int .u8) w0 A b.length b) (hc : b.length ≤ c) (hblk : w.heap[x]? = some (.cells (rd4 A c b 0 false last) 119 (0, 0))) (hB : Below w0.heap.size w0 w) (hg : w0.heap.size ≤ x) (hm : many ≤ 1000) :
    Calls Try.prog 68 #[.pointer (some ⟨x, 0, none⟩), .int .i64 ahead, .int .i64 (many : Int)] w fun en w' => ∃ v : Value, en = .returned v ∧ Kd.R k64 64 w' w.heap.size (fun k => w.heap.size ≤ k) v (rdN b ⟨[], 0, false, ahead⟩ many).out ∧
      w'.heap[x]? = some (.cells (rd4 A c b (rdN b ⟨[], 0, false, ahead⟩ many).pl (rdBad b (rdN b ⟨[], 0, false, ahead⟩ many) last) last) 119 (0, 0)) ∧ Below w0.heap.size w0 w' ∧ KeepBut w w' x none := by
  have hu42 := Try.underlying42
  have hu64 := Try.underlying64
  have HBY := Aside0.mk hby
  have HC := Aside0.mk hC
  have HCC := Aside0.mk hc
  have BX := Aside0.mk hblk
  have HB := Aside0.mk hB
  have HGE := Aside0.mk hg
  have HM := Aside0.mk hm
  have HXW := Aside0.mk (blk_lt hblk)
  have HSW := Aside0.mk (show w0.heap.size ≤ w.heap.size from hB.size)
  have HOX := Aside0.mk (show ∀ k, w.heap.size ≤ k → k ≠ x from fun k hk => by have := blk_lt hblk; omega)
  have HK := Aside0.mk (KeepBut.refl w x none)
  have HO := Aside0.mk (Kd.R_nil k64 64 w w.heap.size (fun k => w.heap.size ≤ k))
  clear hby hC hc hblk hB hg hm
  obtain ⟨s0, hs0⟩ : ∃ s, s = (⟨[], 0, false, ahead⟩ : RdS) := ⟨_, rfl⟩
  rw [← hs0]
  have HS0 := Aside0.mk hs0
  have BX0 := Aside0.mk (show w.heap[x]? = some (.cells (rd4 A c b (rdN b s0 0).pl (rdN b s0 0).bd last) 119 (0, 0)) from by rw [hs0]; exact BX.out)
  have HO0 := Aside0.mk (show Kd.R k64 64 w w.heap.size (fun k => w.heap.size ≤ k) (.slice none 0 0) (rdN b s0 0).out from by rw [hs0]; exact HO.out)
  have HAH := Aside0.mk (show (rdN b s0 0).ah = ahead from by rw [hs0]; rfl)
  clear hs0 BX HO
  go_enter Try.func68, Try.ntmps68
  go_wp2
  go_loopg [1, 7, 9] (many + 1) (fun kq v1 v7 v9 w' => ∃ (i : Nat), v9 = .int .i64 (i : Int) ∧ v1 = .int .i64 (rdN b s0 i).ah ∧ Aside0 (w'.heap[x]? = some (.cells (rd4 A c b (rdN b s0 i).pl (rdN b s0 i).bd last) 119 (0, 0))) ∧ Aside0 (Kd.R k64 64 w' w.heap.size (fun k => w.heap.size ≤ k) v7 (rdN b s0 i).out) ∧ Aside0 (Below w0.heap.size w0 w') ∧ Aside0 (KeepBut w w' x none) ∧ Aside0 (i ≤ many ∧ many - i < kq ∧ kq ≤ many + 1))
  case atStart => exact ⟨0, rfl, by rw [HAH.out], BX0, HO0, HB, HK, ⟨by omega, by omega, by omega⟩⟩
  case round =>
    clear BX0 HO0 HB HK HAH
    obtain ⟨i, rfl, rfl, BX, HO, HB, HK, HI⟩ := hrel
    cases gk with
    | zero => exact absurd HI.out.2.1 (by omega)
    | succ k1 =>
      by_cases hlt : i < many
      · have c2b0 : decide ((i : Int) < (many : Int)) = true := decide_eq_true (by omega)
        have c2b1 : decide (i < many) = true := decide_eq_true hlt
        have HLT := Aside0.mk hlt
        have HLE := Aside0.mk (show (rdN b s0 i).out.length = i from by rw [rdN_len, HS0.out]; exact Nat.zero_add i)
        have HNX := Aside0.mk (show rdN b s0 (i + 1) = rdStep b (rdN b s0 i) from rfl)
        obtain ⟨s, hs⟩ : ∃ s, rdN b s0 i = s := ⟨_, rfl⟩
        rw [hs] at BX HO HLE HNX
        rw [hs]
        clear hlt hs
        obtain ⟨Av, cv, rfl⟩ := Kd.R_slice HO.out
        go_wp2_with (first | (go_at_call 66; (refine (num66_4 x A c b _ _ last 119 w0 _ HBY.out HC.out HCC.out BX.out HB.out HGE.out).mono ?_); rintro e_ w1 ⟨rfl, hb1, hB1, hk1⟩; have m0_ := Aside0.mk hb1; have m1_ := Aside0.mk hB1; have m2_ := Aside0.mk (HK.out.trans hk1 (Or.inl rfl)); have m3_ := Aside0.mk (Kd.R_keep HO.out hk1 (fun k hk => HOX.out k hk)); clear BX HB HK HO hb1 hB1; have BX := m0_; have HB := m1_; have HK := m2_; have HO := m3_; clear m0_ m1_ m2_ m3_; clear hk1) | (go_at_call 72; (refine (list72_4 x A c b _ _ last 119 w0 _ HBY.out HC.out HCC.out BX.out HB.out HGE.out).mono ?_); rintro e_ w2 ⟨vl, rfl, hl1, hb1, hB1, hk1⟩; have HSZ := Aside0.mk HK.out.1; have HVO := Aside0.mk (Kd.R_bound HO.out); have m0_ := Aside0.mk hb1; have m1_ := Aside0.mk hB1; have m2_ := Aside0.mk (HK.out.trans hk1 (Or.inl rfl)); have m3_ := Aside0.mk (Kd.R_keep HO.out hk1 (fun k hk => HOX.out k hk)); clear BX HB HK HO hb1 hB1; have BX := m0_; have HB := m1_; have HK := m2_; have HO := m3_; clear m0_ m1_ m2_ m3_; obtain ⟨Al, cl, rfl⟩ := Kd.R_slice hl1; have HLI := Aside0.mk hl1; clear hk1 hl1) | ((with_reducible refine gate_builtin (b := .append) (xs := #[.tmp 18, .tmp 25]) rfl ?_); at_builtin; refine Kd.R_append k64 (w0 := w2) w.heap.size rfl (.tmp 18) (.tmp 25) 42 64 (.agg #[.int .i64 0, .slice none 0 0]) 32 rfl Try.underlying42 info64 rfl (by decide) (by omega) (.slice Av s.out.length cv) s.out (⟨rdAh b s, listV b (numA b s.pl)⟩ : S64) [.int .i64 (rdAh b s), .slice Al (listV b (numA b s.pl)).length cl] (fun k => w.heap.size ≤ k) (fun k => w1.heap.size ≤ k) rfl rfl ?aP ?aK ?aF ?aO ?aB ?aS ?aL ?_; (case aP => exact k64_mkM _ _ _ _ (Kd.R_lower HLI.out HSZ.out)); (case aK => exact fun k hk => ⟨Nat.le_trans HSZ.out hk, fun e => absurd (HVO.out.1 k e.symm).2.2.1 (Nat.not_lt.2 hk)⟩); (case aF => exact fun k hk => Nat.le_trans HK.out.1 hk); (case aO => exact HO.out); (case aB => exact Below.refl _ _); (case aS => exact HK.out.1); (case aL => have h1 := HLE.out; have h2 := HLT.out; have h3 := HM.out; omega); intro vo wn ho hb hg hat; have m0_ := Aside0.mk ((hb.block x HXW.out).trans BX.out); have m1_ := Aside0.mk (HB.out.trans (below_less hb HSW.out)); have m2_ := Aside0.mk (show KeepBut w wn x none from ⟨Nat.le_trans HK.out.1 hb.size, fun i hi hx hr => (hb.block i hi).trans (HK.out.2 i hi hx hr)⟩); have m3_ := Aside0.mk ho; clear BX HB HK HO HVO HLI HSZ ho hb hg hat; have BX := m0_; have HB := m1_; have HK := m2_; have HO := m3_; clear m0_ m1_ m2_ m3_))
        go_roundg k1
        case measure => have := HI.out; omega
        case rel => exact ⟨i + 1, (by rw [wstep (by have := HLT.out; have := HM.out; omega)]), (by rw [HNX.out]; rfl), ⟨by rw [HNX.out]; exact BX.out⟩, ⟨by rw [HNX.out]; exact HO.out⟩, HB, HK, ⟨by have := HLT.out; omega, by have := HI.out; have := HLT.out; omega, by have := HI.out; omega⟩⟩
      · have c2b0 : decide ((i : Int) < (many : Int)) = false := decide_eq_false (by omega)
        have c2b1 : decide (i < many) = false := decide_eq_false hlt
        have hie : i = many := by have := HI.out; omega
        subst hie
        clear hlt HI
        go_upto_region 7 with fail
        obtain ⟨s, hs⟩ : ∃ s, rdN b s0 i = s := ⟨_, rfl⟩
        rw [hs] at BX HO
        rw [hs]
        have HSS := Aside0.mk hs
        clear hs
        cases hE : rdEnd b s with
        | false =>
          have hen : (!s.bd && s.pl == (b.length : Int)) = false := hE
          have HBD := Aside0.mk (show rdBad b s last = true from by unfold rdBad; rw [hE]; rfl)
          clear hE
          go_wp2_with (first | (go_at_call 69; (refine (ends69_4 x A c b s.pl s.bd last 119 wr BX.out).mono ?_); rintro e_ w3 ⟨rfl, hb⟩; rw [hen]; have m0_ := Aside0.mk (blk_below BX.out hb); have m1_ := Aside0.mk (below_step HB.out hb); have m2_ := Aside0.mk (HK.out.trans (KeepBut.of_below hb x none) (Or.inl rfl)); have m3_ := Aside0.mk (Kd.R_below HO.out hb); clear BX HB HK HO hb; have BX := m0_; have HB := m1_; have HK := m2_; have HO := m3_; clear m0_ m1_ m2_ m3_; have d2 : w3.cell? ⟨x, 2, none⟩ = some (.bool s.bd) := (blk_cell BX.out 2).trans rfl; have d3 : w3.cell? ⟨x, 3, none⟩ = some (.int .i64 last) := (blk_cell BX.out 3).trans rfl; have f2 := blk_frozen BX.out 2))
          go_ret
          rw [HSS.out]
          exact ⟨_, rfl, Kd.R_keep HO.out (KeepBut.set_ (KeepBut.refl _ _ _) 2 _) (fun k hk => HOX.out k hk), by rw [HBD.out]; exact blk_set BX.out 2 _, below_set HB.out HGE.out, HK.out.set_ 2 _⟩
        | true =>
          have hen : (!s.bd && s.pl == (b.length : Int)) = true := hE
          have HBD := Aside0.mk (show rdBad b s last = (s.ah != last) from by unfold rdBad; rw [hE]; rfl)
          clear hE
          go_wp2_with (first | (go_at_call 69; (refine (ends69_4 x A c b s.pl s.bd last 119 wr BX.out).mono ?_); rintro e_ w3 ⟨rfl, hb⟩; rw [hen]; have m0_ := Aside0.mk (blk_below BX.out hb); have m1_ := Aside0.mk (below_step HB.out hb); have m2_ := Aside0.mk (HK.out.trans (KeepBut.of_below hb x none) (Or.inl rfl)); have m3_ := Aside0.mk (Kd.R_below HO.out hb); clear BX HB HK HO hb; have BX := m0_; have HB := m1_; have HK := m2_; have HO := m3_; clear m0_ m1_ m2_ m3_; have d2 : w3.cell? ⟨x, 2, none⟩ = some (.bool s.bd) := (blk_cell BX.out 2).trans rfl; have d3 : w3.cell? ⟨x, 3, none⟩ = some (.int .i64 last) := (blk_cell BX.out 3).trans rfl; have f2 := blk_frozen BX.out 2))
          go_ret
          rw [HSS.out]
          exact ⟨_, rfl, Kd.R_keep HO.out (KeepBut.set_ (KeepBut.refl _ _ _) 2 _) (fun k hk => HOX.out k hk), by rw [HBD.out]; exact blk_set BX.out 2 _, below_set HB.out HGE.out, HK.out.set_ 2 _⟩

end Go.Proofs.Ytfhcolhiolgikaa.T
/- Written by hp.py, this session's own program, out of the translation of this seat: Lean functions for the Go functions, and the proof that each call comes to what its Lean function says. -/
namespace Go.Proofs.Ytfhcolhiolgikaa.T
open Go.RowKit Go.Proofs.YtfhcolhiolgikaaW.PrintWords Go.Proofs.YtfhcolhiolgikaaW.PrintLast Go.Proofs.YtfhcolhiolgikaaW.PrintMore
attribute [local go_sem] max2_int min2_int max_two min_two max_three min_three max_four min_four   -- for this text's walks alone
set_option linter.unusedVariables false
set_option linter.unusedSimpArgs false
/-! ### post.Unpack (55), by hand -/
open Go.Proofs.Ytfhcolhiolgikaa.Plain
set_option maxHeartbeats 4000000 in
set_option maxRecDepth 100000 in
theorem unpack55_calls (A : Option Addr) (c : Nat) (b : List Int) (w : World) (hby : byt b) (hC : Kd.C (Kd.int .u8) w A b.length b) (hc : b.length ≤ c) (hl : b.length ≤ 1000000000) :
    Calls Try.prog 55 #[.slice A b.length c] w fun e w' => ∃ v : Value, e = .returned (.tuple #[v, .int .i64 (unpackE b)]) ∧ Kd.R k64 64 w' w.heap.size (fun _ => True) v (unpackP b) ∧ Below w.heap.size w w' := by
  have hu42 := Try.underlying42
  have hu64 := Try.underlying64
  have hu114 := Try.underlying114
  have HBY := Aside0.mk hby
  have HC := Aside0.mk hC
  have HCC := Aside0.mk hc
  have HL := Aside0.mk hl
  clear hby hC hc hl
  go_enter Try.func55, Try.ntmps55
  go_upto_region 2 with fail
  have b0 := Aside0.mk (blk_new w (.cells #[.slice A b.length c, .int .i64 0, .bool false] 114))
  have bb := Aside0.mk (below_alloc (Below.refl w.heap.size w) (.cells #[.slice A b.length c, .int .i64 0, .bool false] 114))
  obtain ⟨g, hg⟩ : ∃ g, g = w.heap.size := ⟨_, rfl⟩
  rw [← hg] at b0
  generalize (w.alloc (.cells #[.slice A b.length c, .int .i64 0, .bool false] 114)) = wb at *
  rw [← hg]
  have HGE := Aside0.mk (show w.heap.size ≤ g from by omega)
  clear hg
  have BG := Aside0.mk (show wb.heap[g]? = some (.cells (rd3 A c b 0 false) 114 (0, 0)) from b0.out)
  have HB := bb
  clear b0 bb
  obtain ⟨n, hn⟩ : ∃ n, numV b 0 = n := ⟨_, rfl⟩
  have HN := Aside0.mk hn
  have UP := Aside0.mk (show upEnd b = upGo b n 65 ⟨[], numA b 0, numB b 0 false, -1⟩ from by rw [← hn]; rfl)
  have HA := Aside0.mk (show 0 ≤ numA b 0 ∧ numA b 0 ≤ b.length from numA_range b 0 HBY.out (Int.le_refl 0) (by omega))
  have HNR := Aside0.mk (show 0 ≤ n ∧ n < 34359738368 from by rw [← hn]; exact numV_range b 0 HBY.out)
  clear hn
  go_upto_region 3 with (first | (go_at_call 66; (refine (num66_3 g A c b 0 false 114 w _ HBY.out HC.out HCC.out BG.out HB.out HGE.out).mono ?_); rintro e_ w1 ⟨rfl, hb1, hB1, hk1⟩; have m0_ := Aside0.mk hb1; have m1_ := Aside0.mk hB1; clear BG HB hb1 hB1 hk1; have BG := m0_; have HB := m1_; clear m0_ m1_))
  rw [HN.out]
  obtain ⟨s0, hs0⟩ : ∃ s, s = (⟨[], numA b 0, numB b 0 false, -1⟩ : UpS) := ⟨_, rfl⟩
  have BG0 := Aside0.mk (show w1.heap[g]? = some (.cells (rd3 A c b s0.pl s0.bd) 114 (0, 0)) from by rw [hs0]; exact BG.out)
  have HO0 := Aside0.mk (show Kd.R k64 64 w1 w.heap.size (fun k => k ≠ g) (.slice none 0 0) s0.out from by rw [hs0]; exact Kd.R_nil _ _ _ _ _)
  have HAH := Aside0.mk (show s0.ah = -1 from by rw [hs0])
  have HPL0 := Aside0.mk (show 0 ≤ s0.pl ∧ s0.pl ≤ b.length from by rw [hs0]; exact HA.out)
  have UP0 := Aside0.mk (show upGo b n 65 s0 = upEnd b from by rw [hs0]; exact UP.out.symm)
  have HL0 := Aside0.mk (show s0.out.length = 0 from by rw [hs0]; rfl)
  have HBZ := HB
  clear hs0 BG HA UP HB
  go_wp2
  go_loopg [6, 7] 65 (fun kq v6 v7 w' => ∃ (s : UpS), v7 = .int .i64 s.ah ∧ Aside0 (Kd.R k64 64 w' w.heap.size (fun k => k ≠ g) v6 s.out) ∧ Aside0 (w'.heap[g]? = some (.cells (rd3 A c b s.pl s.bd) 114 (0, 0))) ∧ Aside0 (Below w.heap.size w w') ∧ Aside0 (0 ≤ s.pl ∧ s.pl ≤ b.length) ∧ Aside0 (upGo b n kq s = upEnd b) ∧ Aside0 (s.out.length ≤ 64 ∧ 64 - s.out.length < kq))
  case atStart => exact ⟨s0, by rw [HAH.out], HO0, BG0, HBZ, HPL0, UP0, ⟨by rw [HL0.out]; omega, by rw [HL0.out]; omega⟩⟩
  case round =>
    clear BG0 HO0 HAH HPL0 UP0 HL0 HBZ
    obtain ⟨s, rfl, HO, BG, HB, HPL, UP, HF⟩ := hrel
    cases gk with
    | zero => exact absurd HF.out.2 (by omega)
    | succ k1 =>
      obtain ⟨Av, cv, rfl⟩ := Kd.R_slice HO.out
      go_upto_region 5 with fail
      go_cut [28] (fun v28 wc => v28 = .bool (upMore n s) ∧ wc = wr)
      case first =>
        have d2 : wr.cell? ⟨g, 2, none⟩ = some (.bool s.bd) := (blk_cell BG.out 2).trans rfl
        cases hb : s.bd with
        | true =>
          rw [hb] at d2
          have HM := Aside0.mk (show upMore n s = false from by unfold upMore; rw [hb]; rfl)
          clear hb
          go_wp2
          go_meet
          case rel => exact ⟨by rw [HM.out], rfl⟩
        | false =>
          rw [hb] at d2
          by_cases h64 : n ≤ 64
          · have c1 : decide (n ≤ 64) = true := decide_eq_true h64
            have HM := Aside0.mk (show upMore n s = decide ((s.out.length : Int) < n) from by unfold upMore; rw [hb, c1]; rfl)
            clear hb h64
            go_wp2
            go_meet
            case rel => exact ⟨by rw [HM.out], rfl⟩
          · have c1 : decide (n ≤ 64) = false := decide_eq_false h64
            have HM := Aside0.mk (show upMore n s = false from by unfold upMore; rw [hb, c1]; rfl)
            clear hb h64
            go_wp2
            go_meet
            case rel => exact ⟨by rw [HM.out], rfl⟩
      case rest =>
        obtain ⟨rfl, rfl⟩ := hcut
        rename_i hk
        refine hk _ _ ?_
        clear hk
        cases hm : upMore n s with
        | true =>
          have hm' := hm
          unfold upMore at hm'
          simp only [Bool.and_eq_true, Bool.not_eq_true', decide_eq_true_eq] at hm'
          obtain ⟨⟨hbd, h64⟩, hlt⟩ := hm'
          obtain ⟨q, rfl⟩ := Int.eq_ofNat_of_zero_le HNR.out.1
          have h64' : q ≤ 64 := by omega
          have hlt' : s.out.length < q := by omega
          have UP2 := Aside0.mk (show upGo b (q : Int) k1 (upStep b (q : Int) s) = upEnd b from by rw [← UP.out]; exact (upGo_more k1 hm).symm)
          have HMN := Aside0.mk (show upMany (q : Int) s.out.length = min 4 (q - s.out.length) from by unfold upMany; rw [Int.toNat_natCast])
          have HQ := Aside0.mk (show q ≤ 64 ∧ s.out.length < q from ⟨h64', hlt'⟩)
          have hw : wrap64 ((q : Int) - (s.out.length : Int)) = (q : Int) - (s.out.length : Int) := wid (by omega) (by omega)
          clear hm hbd h64 hlt h64' hlt' UP HNR
          have HMM := Aside0.mk HMN.out
          have HMN := Aside0.mk (show upMany (q : Int) s.out.length ≤ 1000 from by rw [HMM.out]; omega)
          go_upto_region 7 with (first | (go_at_call 67; (refine (block67_calls g A c b s.pl s.bd w _ HBY.out HC.out HCC.out BG.out HB.out HGE.out HPL.out.1 HPL.out.2 HL.out).mono ?_); rintro e_ w2 ⟨x, Ax, cx, rfl, hx, hcx, hlx, hb1, hB1, hk1, hge⟩; have m0_ := Aside0.mk hb1; have m1_ := Aside0.mk hB1; have HO2 := Aside0.mk (Kd.R_keep (Kd.R_bound HO.out) hk1 (fun k hk => hk.1)); have BX := Aside0.mk hx; have HCX := Aside0.mk hcx; have HLX := Aside0.mk hlx; have HXG := Aside0.mk hge; have HS2 := Aside0.mk hk1.1; have HSZ := Aside0.mk (show w.heap.size ≤ x from Nat.le_trans (below_size HB.out) hge); have HXN := Aside0.mk (show x ≠ g from fun e => absurd (blk_lt BG.out) (by rw [← e]; exact Nat.not_lt.2 hge)); clear BG HB HO hb1 hB1 hk1 hx hcx hlx hge; have BG := m0_; have HB := m1_; clear m0_ m1_))
          by_cases h4 : q - s.out.length < 4
          · have HME := Aside0.mk (show ((upMany (q : Int) s.out.length : Nat) : Int) = (q : Int) - (s.out.length : Int) from by rw [HMM.out]; have := HQ.out; omega)
            have k4 : ((q : Int) - (s.out.length : Int)) < 4 := by have := HQ.out; omega
            clear h4
            go_upto_region 8 with (first | (go_at_call 68; have hc := read68_calls x Ax cx (bkB b s.pl s.bd) (bkL b s.pl s.bd) s.ah (upMany (q : Int) s.out.length) w w2 (bkB_byt HBY.out _ _) HCX.out HLX.out BX.out HB.out HSZ.out HMN.out; rw [HME.out] at hc; (refine hc.mono ?_); clear hc; rintro e_ w3 ⟨vr, rfl, hr, hx, hB1, hk1⟩; obtain ⟨Ar, cr, er, hcr, hrr⟩ := (Kd.R_lower hr (below_size HB.out)).2.reads; subst er; have HRR := Aside0.mk hrr; have HVO := Aside0.mk HO2.out.1; have HO3 := Aside0.mk (Kd.R_mono (Kd.R_keep HO2.out hk1 (fun k hk => Nat.ne_of_lt (Nat.lt_of_lt_of_le hk.2.2.1 HXG.out))) (fun k hk => hk.1)); have HG2 := Aside0.mk (blk_lt BG.out); have HS3 := Aside0.mk hk1.1; have m0_ := Aside0.mk (hk1.blk BG.out HXN.out.symm (by simp)); have m1_ := Aside0.mk hB1; have m2_ := Aside0.mk hx; clear BG HB BX HO2 hr hcr hrr hx hB1 hk1; have BG := m0_; have HB := m1_; have BX := m2_; clear m0_ m1_ m2_) | ((with_reducible refine gate_builtin (b := .append) (xs := #[.tmp 31, .tmp 39]) rfl ?_); at_builtin; refine Kd.R_append_rows k64 (w0 := w) w.heap.size rfl (.tmp 31) (.tmp 39) 42 64 (.agg #[.int .i64 0, .slice none 0 0]) 32 rfl Try.underlying42 info64 rfl (by decide) (by omega) (.slice Av s.out.length cv) s.out (rdN (bkB b s.pl s.bd) ⟨[], 0, false, s.ah⟩ (upMany (q : Int) s.out.length)).out _ _ _ (fun k => k ≠ g) (fun k => w2.heap.size ≤ k ∧ some k ≠ (Value.slice Ar (rdN (bkB b s.pl s.bd) ⟨[], 0, false, s.ah⟩ (upMany (q : Int) s.out.length)).out.length cr).ownBlock) rfl rfl ?aO ?aR (fun _ _ h => h) ?aK ?aF ?aB ?aS ?aL ?_; (case aO => exact HO3.out); (case aR => exact HRR.out); (case aK => exact fun k hk => ⟨fun e => absurd HG2.out (by rw [← e]; exact Nat.not_lt.2 hk.1), fun e => absurd (HVO.out k e.symm).2.2.1 (Nat.not_lt.2 (Nat.le_trans HS2.out hk.1))⟩); (case aF => exact fun k hk e => absurd (blk_lt BG.out) (by rw [← e]; exact Nat.not_lt.2 hk)); (case aB => exact HB.out); (case aS => exact below_size HB.out); (case aL => rw [rdN_len]; have h1 := HMN.out; have h2 := HQ.out; show (s.out.length + (0 + _)) * 32 ≤ _; omega); intro vo wn ho hb hg hat; have m0_ := Aside0.mk ((hg.block g (blk_lt BG.out) (fun e => (HVO.out g e.symm).1 rfl)).trans BG.out); have m1_ := Aside0.mk hb; have m2_ := Aside0.mk ((hg.block x (blk_lt BX.out) (fun e => absurd (HVO.out x e.symm).2.2.1 (Nat.not_lt.2 HXG.out))).trans BX.out); have HO := Aside0.mk ho; clear BG HB BX HO3 HRR HVO ho hb hg hat; have BG := m0_; have HB := m1_; have BX := m2_; clear m0_ m1_ m2_))
            obtain ⟨RB, hrb⟩ : ∃ r, r = rdBad (bkB b s.pl s.bd) (upRd b (q : Int) s) (bkL b s.pl s.bd) := ⟨_, rfl⟩
            have HRB := Aside0.mk hrb
            clear hrb
            cases hk : bkOk b s.pl s.bd with
            | false =>
              have f2 := blk_frozen BG.out 2
              have d2 : wn.cell? ⟨g, 2, none⟩ = some (.bool true) := (blk_cell BG.out 2).trans (by rw [hk]; rfl)
              have d2x : wn.cell? ⟨x, 2, none⟩ = some (.bool RB) := (blk_cell BX.out 2).trans (by rw [HRB.out]; rfl)
              have HKK := Aside0.mk hk
              clear hk
              go_upto_region 9 with fail
              have m0_ := Aside0.mk (blk_set BG.out 2 (.bool true))
              have m1_ := Aside0.mk (below_set (j := 2) (v := .bool true) HB.out HGE.out)
              have m2_ := Aside0.mk (blk_far BX.out (p := ⟨g, 2, none⟩) HXN.out (.bool true))
              have m3_ := Aside0.mk (Kd.R_keep HO.out (KeepBut.set_ (KeepBut.refl wn g none) 2 (.bool true)) (fun k hk => hk))
              clear BG HB BX HO d2 d2x f2
              have BG := m0_
              have HB := m1_
              have BX := m2_
              have HO := m3_
              clear m0_ m1_ m2_ m3_
              generalize (wn.setCell ⟨g, 2, none⟩ (.bool true)) = w9 at *
              have d3x : w9.cell? ⟨x, 3, none⟩ = some (.int .i64 (bkL b s.pl s.bd)) := (blk_cell BX.out 3).trans rfl
              go_wp2
              go_roundg k1
              case measure => have := HF.out; omega
              case rel => exact ⟨upStep b (q : Int) s, rfl, HO, ⟨by rw [show rd3 A c b (upStep b (q : Int) s).pl (upStep b (q : Int) s).bd = (rd3 A c b (bkA2 b s.pl s.bd) (!bkOk b s.pl s.bd)).setIfInBounds 2 (.bool true) from by (show rd3 A c b (bkA2 b s.pl s.bd) (!bkOk b s.pl s.bd || rdBad (bkB b s.pl s.bd) (upRd b (q : Int) s) (bkL b s.pl s.bd)) = _); rw [HKK.out]; rfl]; exact BG.out⟩, HB, ⟨bkA2_range HBY.out _ HPL.out.1 HPL.out.2⟩, UP2, ⟨by rw [upStep_len, HMM.out]; have := HQ.out; omega, by rw [upStep_len, HMM.out]; have := HQ.out; have := HF.out; omega⟩⟩
            | true =>
              have f2 := blk_frozen BG.out 2
              have d2 : wn.cell? ⟨g, 2, none⟩ = some (.bool false) := (blk_cell BG.out 2).trans (by rw [hk]; rfl)
              have d2x : wn.cell? ⟨x, 2, none⟩ = some (.bool RB) := (blk_cell BX.out 2).trans (by rw [HRB.out]; rfl)
              have HKK := Aside0.mk hk
              clear hk
              go_upto_region 9 with fail
              have m0_ := Aside0.mk (blk_set BG.out 2 (.bool RB))
              have m1_ := Aside0.mk (below_set (j := 2) (v := .bool RB) HB.out HGE.out)
              have m2_ := Aside0.mk (blk_far BX.out (p := ⟨g, 2, none⟩) HXN.out (.bool RB))
              have m3_ := Aside0.mk (Kd.R_keep HO.out (KeepBut.set_ (KeepBut.refl wn g none) 2 (.bool RB)) (fun k hk => hk))
              clear BG HB BX HO d2 d2x f2
              have BG := m0_
              have HB := m1_
              have BX := m2_
              have HO := m3_
              clear m0_ m1_ m2_ m3_
              generalize (wn.setCell ⟨g, 2, none⟩ (.bool RB)) = w9 at *
              have d3x : w9.cell? ⟨x, 3, none⟩ = some (.int .i64 (bkL b s.pl s.bd)) := (blk_cell BX.out 3).trans rfl
              go_wp2
              go_roundg k1
              case measure => have := HF.out; omega
              case rel => exact ⟨upStep b (q : Int) s, rfl, HO, ⟨by rw [show rd3 A c b (upStep b (q : Int) s).pl (upStep b (q : Int) s).bd = (rd3 A c b (bkA2 b s.pl s.bd) (!bkOk b s.pl s.bd)).setIfInBounds 2 (.bool RB) from by (show rd3 A c b (bkA2 b s.pl s.bd) (!bkOk b s.pl s.bd || rdBad (bkB b s.pl s.bd) (upRd b (q : Int) s) (bkL b s.pl s.bd)) = _); rw [HKK.out, HRB.out]; rfl]; exact BG.out⟩, HB, ⟨bkA2_range HBY.out _ HPL.out.1 HPL.out.2⟩, UP2, ⟨by rw [upStep_len, HMM.out]; have := HQ.out; omega, by rw [upStep_len, HMM.out]; have := HQ.out; have := HF.out; omega⟩⟩
          · have HME := Aside0.mk (show ((upMany (q : Int) s.out.length : Nat) : Int) = 4 from by rw [HMM.out]; have := HQ.out; omega)
            have k4 : ¬ ((q : Int) - (s.out.length : Int)) < 4 := by have := HQ.out; omega
            clear h4
            go_upto_region 8 with (first | (go_at_call 68; have hc := read68_calls x Ax cx (bkB b s.pl s.bd) (bkL b s.pl s.bd) s.ah (upMany (q : Int) s.out.length) w w2 (bkB_byt HBY.out _ _) HCX.out HLX.out BX.out HB.out HSZ.out HMN.out; rw [HME.out] at hc; (refine hc.mono ?_); clear hc; rintro e_ w3 ⟨vr, rfl, hr, hx, hB1, hk1⟩; obtain ⟨Ar, cr, er, hcr, hrr⟩ := (Kd.R_lower hr (below_size HB.out)).2.reads; subst er; have HRR := Aside0.mk hrr; have HVO := Aside0.mk HO2.out.1; have HO3 := Aside0.mk (Kd.R_mono (Kd.R_keep HO2.out hk1 (fun k hk => Nat.ne_of_lt (Nat.lt_of_lt_of_le hk.2.2.1 HXG.out))) (fun k hk => hk.1)); have HG2 := Aside0.mk (blk_lt BG.out); have HS3 := Aside0.mk hk1.1; have m0_ := Aside0.mk (hk1.blk BG.out HXN.out.symm (by simp)); have m1_ := Aside0.mk hB1; have m2_ := Aside0.mk hx; clear BG HB BX HO2 hr hcr hrr hx hB1 hk1; have BG := m0_; have HB := m1_; have BX := m2_; clear m0_ m1_ m2_) | ((with_reducible refine gate_builtin (b := .append) (xs := #[.tmp 31, .tmp 39]) rfl ?_); at_builtin; refine Kd.R_append_rows k64 (w0 := w) w.heap.size rfl (.tmp 31) (.tmp 39) 42 64 (.agg #[.int .i64 0, .slice none 0 0]) 32 rfl Try.underlying42 info64 rfl (by decide) (by omega) (.slice Av s.out.length cv) s.out (rdN (bkB b s.pl s.bd) ⟨[], 0, false, s.ah⟩ (upMany (q : Int) s.out.length)).out _ _ _ (fun k => k ≠ g) (fun k => w2.heap.size ≤ k ∧ some k ≠ (Value.slice Ar (rdN (bkB b s.pl s.bd) ⟨[], 0, false, s.ah⟩ (upMany (q : Int) s.out.length)).out.length cr).ownBlock) rfl rfl ?aO ?aR (fun _ _ h => h) ?aK ?aF ?aB ?aS ?aL ?_; (case aO => exact HO3.out); (case aR => exact HRR.out); (case aK => exact fun k hk => ⟨fun e => absurd HG2.out (by rw [← e]; exact Nat.not_lt.2 hk.1), fun e => absurd (HVO.out k e.symm).2.2.1 (Nat.not_lt.2 (Nat.le_trans HS2.out hk.1))⟩); (case aF => exact fun k hk e => absurd (blk_lt BG.out) (by rw [← e]; exact Nat.not_lt.2 hk)); (case aB => exact HB.out); (case aS => exact below_size HB.out); (case aL => rw [rdN_len]; have h1 := HMN.out; have h2 := HQ.out; show (s.out.length + (0 + _)) * 32 ≤ _; omega); intro vo wn ho hb hg hat; have m0_ := Aside0.mk ((hg.block g (blk_lt BG.out) (fun e => (HVO.out g e.symm).1 rfl)).trans BG.out); have m1_ := Aside0.mk hb; have m2_ := Aside0.mk ((hg.block x (blk_lt BX.out) (fun e => absurd (HVO.out x e.symm).2.2.1 (Nat.not_lt.2 HXG.out))).trans BX.out); have HO := Aside0.mk ho; clear BG HB BX HO3 HRR HVO ho hb hg hat; have BG := m0_; have HB := m1_; have BX := m2_; clear m0_ m1_ m2_))
            obtain ⟨RB, hrb⟩ : ∃ r, r = rdBad (bkB b s.pl s.bd) (upRd b (q : Int) s) (bkL b s.pl s.bd) := ⟨_, rfl⟩
            have HRB := Aside0.mk hrb
            clear hrb
            cases hk : bkOk b s.pl s.bd with
            | false =>
              have f2 := blk_frozen BG.out 2
              have d2 : wn.cell? ⟨g, 2, none⟩ = some (.bool true) := (blk_cell BG.out 2).trans (by rw [hk]; rfl)
              have d2x : wn.cell? ⟨x, 2, none⟩ = some (.bool RB) := (blk_cell BX.out 2).trans (by rw [HRB.out]; rfl)
              have HKK := Aside0.mk hk
              clear hk
              go_upto_region 9 with fail
              have m0_ := Aside0.mk (blk_set BG.out 2 (.bool true))
              have m1_ := Aside0.mk (below_set (j := 2) (v := .bool true) HB.out HGE.out)
              have m2_ := Aside0.mk (blk_far BX.out (p := ⟨g, 2, none⟩) HXN.out (.bool true))
              have m3_ := Aside0.mk (Kd.R_keep HO.out (KeepBut.set_ (KeepBut.refl wn g none) 2 (.bool true)) (fun k hk => hk))
              clear BG HB BX HO d2 d2x f2
              have BG := m0_
              have HB := m1_
              have BX := m2_
              have HO := m3_
              clear m0_ m1_ m2_ m3_
              generalize (wn.setCell ⟨g, 2, none⟩ (.bool true)) = w9 at *
              have d3x : w9.cell? ⟨x, 3, none⟩ = some (.int .i64 (bkL b s.pl s.bd)) := (blk_cell BX.out 3).trans rfl
              go_wp2
              go_roundg k1
              case measure => have := HF.out; omega
              case rel => exact ⟨upStep b (q : Int) s, rfl, HO, ⟨by rw [show rd3 A c b (upStep b (q : Int) s).pl (upStep b (q : Int) s).bd = (rd3 A c b (bkA2 b s.pl s.bd) (!bkOk b s.pl s.bd)).setIfInBounds 2 (.bool true) from by (show rd3 A c b (bkA2 b s.pl s.bd) (!bkOk b s.pl s.bd || rdBad (bkB b s.pl s.bd) (upRd b (q : Int) s) (bkL b s.pl s.bd)) = _); rw [HKK.out]; rfl]; exact BG.out⟩, HB, ⟨bkA2_range HBY.out _ HPL.out.1 HPL.out.2⟩, UP2, ⟨by rw [upStep_len, HMM.out]; have := HQ.out; omega, by rw [upStep_len, HMM.out]; have := HQ.out; have := HF.out; omega⟩⟩
            | true =>
              have f2 := blk_frozen BG.out 2
              have d2 : wn.cell? ⟨g, 2, none⟩ = some (.bool false) := (blk_cell BG.out 2).trans (by rw [hk]; rfl)
              have d2x : wn.cell? ⟨x, 2, none⟩ = some (.bool RB) := (blk_cell BX.out 2).trans (by rw [HRB.out]; rfl)
              have HKK := Aside0.mk hk
              clear hk
              go_upto_region 9 with fail
              have m0_ := Aside0.mk (blk_set BG.out 2 (.bool RB))
              have m1_ := Aside0.mk (below_set (j := 2) (v := .bool RB) HB.out HGE.out)
              have m2_ := Aside0.mk (blk_far BX.out (p := ⟨g, 2, none⟩) HXN.out (.bool RB))
              have m3_ := Aside0.mk (Kd.R_keep HO.out (KeepBut.set_ (KeepBut.refl wn g none) 2 (.bool RB)) (fun k hk => hk))
              clear BG HB BX HO d2 d2x f2
              have BG := m0_
              have HB := m1_
              have BX := m2_
              have HO := m3_
              clear m0_ m1_ m2_ m3_
              generalize (wn.setCell ⟨g, 2, none⟩ (.bool RB)) = w9 at *
              have d3x : w9.cell? ⟨x, 3, none⟩ = some (.int .i64 (bkL b s.pl s.bd)) := (blk_cell BX.out 3).trans rfl
              go_wp2
              go_roundg k1
              case measure => have := HF.out; omega
              case rel => exact ⟨upStep b (q : Int) s, rfl, HO, ⟨by rw [show rd3 A c b (upStep b (q : Int) s).pl (upStep b (q : Int) s).bd = (rd3 A c b (bkA2 b s.pl s.bd) (!bkOk b s.pl s.bd)).setIfInBounds 2 (.bool RB) from by (show rd3 A c b (bkA2 b s.pl s.bd) (!bkOk b s.pl s.bd || rdBad (bkB b s.pl s.bd) (upRd b (q : Int) s) (bkL b s.pl s.bd)) = _); rw [HKK.out, HRB.out]; rfl]; exact BG.out⟩, HB, ⟨bkA2_range HBY.out _ HPL.out.1 HPL.out.2⟩, UP2, ⟨by rw [upStep_len, HMM.out]; have := HQ.out; omega, by rw [upStep_len, HMM.out]; have := HQ.out; have := HF.out; omega⟩⟩
        | false =>
          have UP2 := Aside0.mk (show upEnd b = s from by rw [← UP.out]; exact upGo_stop _ hm)
          clear hm UP
          have d2 : True := trivial
          cases hE : (!s.bd && s.pl == (b.length : Int)) with
          | false =>
            have HU := Aside0.mk (show unpackOk b = false from by unfold unpackOk; rw [UP2.out, hE]; rfl)
            go_wp2_with (first | (go_at_call 69; (refine (ends69_3 g A c b s.pl s.bd 114 _ BG.out).mono ?_); rintro e_ w4 ⟨rfl, hb⟩; rw [hE]; have m0_ := Aside0.mk (below_step HB.out hb); have m1_ := Aside0.mk (Kd.R_below HO.out hb); clear BG HB HO hb; have HB := m0_; have HO := m1_; clear m0_ m1_))
            refine bodyPost_ret (results_tmp2 rfl _ _ _) rfl ?_
            exact ⟨.slice none 0 0, by rw [show unpackE b = 5 from if_neg (by rw [HU.out]; decide)]; rfl, by rw [show unpackP b = [] from if_neg (by rw [HU.out]; decide)]; exact Kd.R_nil _ _ _ _ _, HB.out⟩
          | true =>
            by_cases hn : (s.out.length : Int) = n
            · have k1 : ((s.out.length : Int) != n) = false := by simp [hn]
              cases hm : postMayP s.out with
              | false =>
                have HU := Aside0.mk (show unpackOk b = false from by unfold unpackOk; rw [UP2.out, hE, hm]; simp)
                have HMF := Aside0.mk (show post_May.f (s.out.length + 124) s.out = some false from (postMay_eq s.out (by have := HF.out; omega) _ (Nat.le_refl _)).trans (congrArg some hm))
                clear hn hm
                go_wp2_with (first | (go_at_call 69; (refine (ends69_3 g A c b s.pl s.bd 114 _ BG.out).mono ?_); rintro e_ w4 ⟨rfl, hb⟩; rw [hE]; have m0_ := Aside0.mk (below_step HB.out hb); have m1_ := Aside0.mk (Kd.R_below HO.out hb); clear BG HB HO hb; have HB := m0_; have HO := m1_; clear m0_ m1_) | (go_at_call 34; (refine (post_May.calls (s.out.length + 124) _ _ s.out false _ (Kd.R_reads' HO.out).2.2 (Kd.R_reads' HO.out).2.1 HMF.out).mono ?_); rintro e_ w5 ⟨rfl, hb⟩; have m0_ := Aside0.mk (below_step HB.out hb); have m1_ := Aside0.mk (Kd.R_below HO.out hb); clear HB HO hb; have HB := m0_; have HO := m1_; clear m0_ m1_))
                refine bodyPost_ret (results_tmp2 rfl _ _ _) rfl ?_
                exact ⟨.slice none 0 0, by rw [show unpackE b = 5 from if_neg (by rw [HU.out]; decide)]; rfl, by rw [show unpackP b = [] from if_neg (by rw [HU.out]; decide)]; exact Kd.R_nil _ _ _ _ _, HB.out⟩
              | true =>
                have HU := Aside0.mk (show unpackOk b = true from by unfold unpackOk; rw [UP2.out, hE, hm, HN.out, decide_eq_true hn]; rfl)
                have HMF := Aside0.mk (show post_May.f (s.out.length + 124) s.out = some true from (postMay_eq s.out (by have := HF.out; omega) _ (Nat.le_refl _)).trans (congrArg some hm))
                clear hn hm
                go_wp2_with (first | (go_at_call 69; (refine (ends69_3 g A c b s.pl s.bd 114 _ BG.out).mono ?_); rintro e_ w4 ⟨rfl, hb⟩; rw [hE]; have m0_ := Aside0.mk (below_step HB.out hb); have m1_ := Aside0.mk (Kd.R_below HO.out hb); clear BG HB HO hb; have HB := m0_; have HO := m1_; clear m0_ m1_) | (go_at_call 34; (refine (post_May.calls (s.out.length + 124) _ _ s.out true _ (Kd.R_reads' HO.out).2.2 (Kd.R_reads' HO.out).2.1 HMF.out).mono ?_); rintro e_ w5 ⟨rfl, hb⟩; have m0_ := Aside0.mk (below_step HB.out hb); have m1_ := Aside0.mk (Kd.R_below HO.out hb); clear HB HO hb; have HB := m0_; have HO := m1_; clear m0_ m1_))
                refine bodyPost_ret (results_tmp2 rfl _ _ _) rfl ?_
                exact ⟨_, by rw [show unpackE b = 0 from if_pos HU.out]; rfl, by rw [show unpackP b = s.out from (if_pos HU.out).trans (by rw [UP2.out])]; exact Kd.R_mono HO.out (fun _ _ => trivial), HB.out⟩
            · have k1 : ((s.out.length : Int) != n) = true := by simpa using hn
              have HU := Aside0.mk (show unpackOk b = false from by unfold unpackOk; rw [UP2.out, hE, HN.out, decide_eq_false hn]; rfl)
              clear hn
              go_wp2_with (first | (go_at_call 69; (refine (ends69_3 g A c b s.pl s.bd 114 _ BG.out).mono ?_); rintro e_ w4 ⟨rfl, hb⟩; rw [hE]; have m0_ := Aside0.mk (below_step HB.out hb); have m1_ := Aside0.mk (Kd.R_below HO.out hb); clear BG HB HO hb; have HB := m0_; have HO := m1_; clear m0_ m1_))
              refine bodyPost_ret (results_tmp2 rfl _ _ _) rfl ?_
              exact ⟨.slice none 0 0, by rw [show unpackE b = 5 from if_neg (by rw [HU.out]; decide)]; rfl, by rw [show unpackP b = [] from if_neg (by rw [HU.out]; decide)]; exact Kd.R_nil _ _ _ _ _, HB.out⟩

end Go.Proofs.Ytfhcolhiolgikaa.T
/- Written by hp.py, this session's own program, out of the translation of this seat: Lean functions for the Go functions, and the proof that each call comes to what its Lean function says. -/
namespace Go.Proofs.Ytfhcolhiolgikaa.T
open Go.RowKit Go.Proofs.YtfhcolhiolgikaaW.PrintWords Go.Proofs.YtfhcolhiolgikaaW.PrintLast Go.Proofs.YtfhcolhiolgikaaW.PrintMore
attribute [local go_sem] max2_int min2_int max_two min_two max_three min_three max_four min_four   -- for this text's walks alone
set_option linter.unusedVariables false
set_option linter.unusedSimpArgs false
/-! ### within's closures (49, 54), by hand -/
open Go.Proofs.Ytfhcolhiolgikaa.Plain
theorem keep_set_new {w w1 : World} {g S : Nat} (h : KeepBut w w1 g none) (hS : w.heap.size ≤ S) (j : Nat) (u : Value) : KeepBut w (w1.setCell ⟨S, j, none⟩ u) g none :=
  ⟨by simpa [World.setCell] using h.1, fun i hi hg hr => (Below.heap_setCell w1 ⟨S, j, none⟩ u i (Nat.ne_of_lt (Nat.lt_of_lt_of_le hi hS))).trans (h.2 i hi hg hr)⟩
set_option maxHeartbeats 4000000 in
set_option maxRecDepth 100000 in
theorem str49_calls (g h : Nat) (A : Option Addr) (c : Nat) (b : List Int) (at_ : Int) (bad : Bool) (w0 w : World) (hby : byt b) (hC : Kd.C (Kd.int .u8) w0 A b.length b) (hc : b.length ≤ c) (hblk : w.heap[g]? = some (.cells (rd3 A c b at_ bad) 87 (0, 0))) (hbox : w.heap[h]? = some (.cells #[.pointer (some ⟨g, 0, none⟩)] 85 (0, 0))) (hB : Below w0.heap.size w0 w) (hg : w0.heap.size ≤ g) (h0 : 0 ≤ at_) (h1 : at_ ≤ b.length) (hl : b.length ≤ 1000000000) :
    Calls Try.prog 49 #[.pointer (some ⟨h, 0, none⟩)] w fun en w' => en = .returned (.string (strOne b at_ bad).1) ∧ w'.heap[g]? = some (.cells (rd3 A c b (strOne b at_ bad).2.1 (strOne b at_ bad).2.2) 87 (0, 0)) ∧ Below w0.heap.size w0 w' ∧ KeepBut w w' g none := by
  have HBY := Aside0.mk hby
  have HC := Aside0.mk hC
  have HCC := Aside0.mk hc
  have BG := Aside0.mk hblk
  have BH := Aside0.mk hbox
  have HB := Aside0.mk hB
  have HGE := Aside0.mk hg
  have H01 := Aside0.mk (show 0 ≤ at_ ∧ at_ ≤ b.length from ⟨h0, h1⟩)
  have HL := Aside0.mk hl
  have HK := Aside0.mk (KeepBut.refl w g none)
  have k0 : w.cell? ⟨h, 0, none⟩ = some (.pointer (some ⟨g, 0, none⟩)) := (blk_cell hbox 0).trans rfl
  clear hby hC hc hblk hbox hB hg h0 h1 hl
  go_enter Try.func49, Try.ntmps49
  go_wp2_with (first | (go_at_call 50; (refine (bytes50_3 g A c b at_ bad 87 w0 _ HBY.out HC.out HCC.out BG.out HB.out HGE.out H01.out.1 H01.out.2 HL.out).mono ?_); rintro e_ w1 ⟨A1, c1, rfl, hc1, hl1, hb1, hB1, hk1⟩; have HC1 := Aside0.mk (Kd.C_below hc1 hB1); have HL1 := Aside0.mk hl1; have hcv := Kd.C_string (c := c1) Try.underlying29 Try.underlying5 Try.underlying9 (Kd.C_below hc1 hB1); clear hc1 hl1; have m0_ := Aside0.mk hb1; have m1_ := Aside0.mk hB1; have m2_ := Aside0.mk (HK.out.trans hk1 (Or.inl rfl)); clear BG HB HK hb1 hB1 hk1; have BG := m0_; have HB := m1_; have HK := m2_; clear m0_ m1_ m2_))
  go_ret
  exact ⟨rfl, BG.out, HB.out, HK.out⟩
set_option maxHeartbeats 4000000 in
set_option maxRecDepth 100000 in
theorem term54_calls (g h : Nat) (A : Option Addr) (c : Nat) (b : List Int) (at_ : Int) (bad : Bool) (w0 w : World) (hby : byt b) (hC : Kd.C (Kd.int .u8) w0 A b.length b) (hc : b.length ≤ c) (hblk : w.heap[g]? = some (.cells (rd3 A c b at_ bad) 87 (0, 0))) (hbox : w.heap[h]? = some (.cells #[.pointer (some ⟨g, 0, none⟩)] 85 (0, 0))) (hB : Below w0.heap.size w0 w) (hg : w0.heap.size ≤ g) (h0 : 0 ≤ at_) (h1 : at_ ≤ b.length) (hl : b.length ≤ 1000000000) :
    Calls Try.prog 54 #[.pointer (some ⟨h, 0, none⟩)] w fun en w' => ∃ vl : Value, en = .returned (.agg #[.string ⟨#[]⟩, vl]) ∧ Kd.R k64 64 w' w.heap.size (fun k => w.heap.size ≤ k) vl (termOne b at_ bad).1.f1 ∧ w'.heap[g]? = some (.cells (rd3 A c b (termOne b at_ bad).2.1 (termOne b at_ bad).2.2) 87 (0, 0)) ∧ Below w0.heap.size w0 w' ∧ KeepBut w w' g none := by
  have hu44 := Try.underlying44
  have HBY := Aside0.mk hby
  have HC := Aside0.mk hC
  have HCC := Aside0.mk hc
  have HHG := Aside0.mk (show h ≠ g from blk_ne hbox hblk (by decide))
  have HGW := Aside0.mk (blk_lt hblk)
  have HBW := Aside0.mk hB
  have BG := Aside0.mk hblk
  have BH := Aside0.mk hbox
  have HB := Aside0.mk hB
  have HGE := Aside0.mk hg
  have H01 := Aside0.mk (show 0 ≤ at_ ∧ at_ ≤ b.length from ⟨h0, h1⟩)
  have HL := Aside0.mk hl
  have HLV := Aside0.mk (show (rbV b at_ bad).length ≤ 1000000000 from Nat.le_trans (rbV_len b at_ bad) hl)
  have HK := Aside0.mk (KeepBut.refl w g none)
  clear hby hC hc hblk hbox hB hg h0 h1 hl
  go_enter Try.func54, Try.ntmps54
  go_upto_region 1 with fail
  have bs := blk_new w (.cells #[.string ⟨#[]⟩, .slice none 0 0] 44)
  have hal := below_alloc (Below.refl w.heap.size w) (.cells #[.string ⟨#[]⟩, .slice none 0 0] 44)
  have m0_ := Aside0.mk (blk_below BG.out hal)
  have m1_ := Aside0.mk (below_step HB.out hal)
  have m2_ := Aside0.mk (KeepBut.of_below hal g none)
  have m3_ := Aside0.mk (blk_below BH.out hal)
  have HSG := Aside0.mk (show w.heap.size ≠ g from fun e => absurd HGW.out (by rw [← e]; exact Nat.lt_irrefl _))
  have BS := Aside0.mk bs
  clear BG HB HK BH bs hal
  have BG := m0_
  have HB := m1_
  have HK := m2_
  have BH := m3_
  clear m0_ m1_ m2_ m3_
  generalize (w.alloc (.cells #[.string ⟨#[]⟩, .slice none 0 0] 44)) = wb at *
  obtain ⟨S, hS⟩ : ∃ S, S = w.heap.size := ⟨_, rfl⟩
  rw [← hS] at HSG BS
  rw [← hS]
  have HSW := Aside0.mk hS
  clear hS
  have k0 : wb.cell? ⟨h, 0, none⟩ = some (.pointer (some ⟨g, 0, none⟩)) := (blk_cell BH.out 0).trans rfl
  go_upto_region 2 with (first | (go_at_call 50; (refine (bytes50_3 g A c b at_ bad 87 w0 _ HBY.out HC.out HCC.out BG.out HB.out HGE.out H01.out.1 H01.out.2 HL.out).mono ?_); rintro e_ w1 ⟨A1, c1, rfl, hc1, hl1, hb1, hB1, hk1⟩; have HC1 := Aside0.mk (Kd.C_below hc1 hB1); have HL1 := Aside0.mk hl1; have hcv := Kd.C_string (c := c1) Try.underlying29 Try.underlying5 Try.underlying9 (Kd.C_below hc1 hB1); clear hc1 hl1; have m0_ := Aside0.mk hb1; have m1_ := Aside0.mk hB1; have m2_ := Aside0.mk (HK.out.trans hk1 (Or.inl rfl)); clear BG HB HK hb1 hB1; have BG := m0_; have m3_ := Aside0.mk (hk1.blk BH.out HHG.out (by simp)); have m4_ := Aside0.mk (hk1.blk BS.out HSG.out (by simp)); clear BH BS; have BH := m3_; have BS := m4_; clear m3_ m4_; have HB := m1_; have HK := m2_; clear m0_ m1_ m2_ hk1 hcv) | (go_at_call 55; (refine (unpack55_calls A1 c1 (rbV b at_ bad) _ (rbV_byt HBY.out _ _) HC1.out HL1.out HLV.out).mono ?_); rintro e_ w2 ⟨vl, rfl, hr, hb⟩; obtain ⟨Al, cl, rfl⟩ := Kd.R_slice hr; have HR := Aside0.mk (Kd.R_lower hr (show w.heap.size ≤ w1.heap.size from HK.out.1)); have m0_ := Aside0.mk (blk_below BG.out hb); have m1_ := Aside0.mk (below_step HB.out hb); have m2_ := Aside0.mk (HK.out.trans (KeepBut.of_below hb g none) (Or.inl rfl)); have m3_ := Aside0.mk (blk_below BH.out hb); have m4_ := Aside0.mk (blk_below BS.out hb); clear BG HB HK BH BS hr hb; have BG := m0_; have HB := m1_; have HK := m2_; have BH := m3_; have BS := m4_; clear m0_ m1_ m2_ m3_ m4_))
  clear k0
  cases hrk : (!rbOk b at_ bad) with
  | true =>
      rw [hrk] at BG
      have k0 : w2.drew.cell? ⟨h, 0, none⟩ = some (.pointer (some ⟨g, 0, none⟩)) := (blk_cell (blk_drew BH.out) 0).trans rfl
      have k2 : w2.drew.cell? ⟨g, 2, none⟩ = some (.bool true) := (blk_cell (blk_drew BG.out) 2).trans rfl
      have HRK := Aside0.mk hrk
      clear hrk
      refine start_ (n := 12) (S := fun w' => w'.cell? ⟨h, 0, none⟩ = some (.pointer (some ⟨g, 0, none⟩)) ∧ w'.cell? ⟨g, 2, none⟩ = some (.bool true)) (ds := [11]) #[false, false, false, false, false, false, false, false, false, false, false, false] (by kernel_rfl) rfl rfl ⟨k0, k2⟩ (fun hHeld => ?_)
      refine rgT2 0 10 hHeld ?_
      refine rgT2 1 11 hHeld ?_
      refine rgP 2 12 ?_
      refine rgP 3 13 ?_
      refine rgT2 4 14 hHeld ?_
      refine rgP 5 15 ?_
      refine rgU 6 16 ?_
      refine rgU 7 17 ?_
      refine rgP 8 18 ?_
      refine rgP 9 19 ?_
      refine rgP 10 20 ?_
      refine last_ (i := 11) (N := none) #[true, true, true, true, true, true, true, true, true, true, true, true] rfl rfl (by kernel_rfl) (by decide) (fun K hK => ?_)
      have hc2 : w2.drew.cell? ⟨g, 2, none⟩ = some (.bool true) := (blk_cell (blk_drew BG.out) 2).trans rfl
      have hf2 := blk_frozen (blk_drew BG.out) 2
      refine skip_ (w1 := ?_) (by rfl) rfl ?_ ?_
      rotate_left
      · go_simp
        rfl
      refine hK.out _ _ ?_
      clear hK K
      refine done_ (by kernel_rfl) ?_
      clear k0 k2
      have m0_ := Aside0.mk (blk_drew (blk_set BG.out 2 (.bool true)))
      have m1_ := Aside0.mk (below_drew (below_set (j := 2) (v := .bool true) HB.out HGE.out))
      have m2_ := Aside0.mk (keep_drew (HK.out.set_ 2 (.bool true)))
      have m3_ := Aside0.mk (Kd.R_drew (Kd.R_mono (Kd.R_keep (Kd.R_bound HR.out) (KeepBut.set_ (KeepBut.refl w2 g none) 2 (.bool true)) (fun k hk => fun e => absurd hk.2.1 (by rw [e]; exact Nat.not_le.2 HGW.out))) (fun k hk => hk.2.1)))
      have m4_ := Aside0.mk (blk_drew (blk_far BS.out (p := ⟨g, 2, none⟩) HSG.out (.bool true)))
      clear BG HB HK HR BS BH
      have BG := m0_
      have HB := m1_
      have HK := m2_
      have HR := m3_
      have BS := m4_
      clear m0_ m1_ m2_ m3_ m4_
      generalize (w2.setCell ⟨g, 2, none⟩ (.bool true)).drew = w3 at *
      have s0 : w3.cell? ⟨S, 0, none⟩ = some (.string ⟨#[]⟩) := (blk_cell BS.out 0).trans rfl
      have s1 : w3.cell? ⟨S, 1, none⟩ = some (.slice none 0 0) := (blk_cell BS.out 1).trans rfl
      have f0 := blk_frozen BS.out 0
      have f1 := blk_frozen BS.out 1
      go_wp2
      have hG : ((w3.setCell ⟨S, 0, none⟩ (.string ⟨#[]⟩)).setCell ⟨S, 1, none⟩ (.slice Al (unpackP (rbV b at_ bad)).length cl)).heap[S]? = some (.cells #[.string ⟨#[]⟩, .slice Al (unpackP (rbV b at_ bad)).length cl] 44 (0, 0)) := blk_set (blk_set BS.out 0 _) 1 _
      refine bodyPost_ret (results_c1 rfl _ _ S 44 #[.string ⟨#[]⟩, .slice Al (unpackP (rbV b at_ bad)).length cl] (0, 0) _ rfl hG Try.underlying44 rfl (by kernel_rfl)) rfl ?_
      have hSW : w.heap.size ≤ S := Nat.le_of_eq HSW.out.symm
      refine ⟨_, rfl, ?_, ?_, below_set (below_set HB.out (Nat.le_trans (below_size HBW.out) hSW)) (Nat.le_trans (below_size HBW.out) hSW), keep_set_new (keep_set_new HK.out hSW 0 _) hSW 1 _⟩
      · have hne : ∀ k, (w.heap.size ≤ k ∧ w.heap.size ≤ k ∧ k < w3.heap.size ∧ ∃ q, q ∈ 64 :: k64.E ∧ ∃ cells, w3.heap[k]? = some (.cells cells q (0, 0))) → k ≠ S := by
          rintro k ⟨_, _, _, q, hq, cells, hc⟩ e
          rw [e, BS.out] at hc
          simp only [Option.some.injEq, Obj.cells.injEq] at hc
          rw [← hc.2.1] at hq
          exact absurd hq (by decide)
        exact Kd.R_mono (Kd.R_keep (Kd.R_bound HR.out) ((KeepBut.set_ (KeepBut.refl w3 S none) 0 _).set_ 1 _) hne) (fun k hk => hk.1)
      · rw [show rd3 A c b (termOne b at_ bad).2.1 (termOne b at_ bad).2.2 = (rd3 A c b (rbA b at_ bad) true).setIfInBounds 2 (.bool true) from by (show rd3 A c b (rbA b at_ bad) (!rbOk b at_ bad || (unpackE (rbV b at_ bad) != 0)) = _); rw [HRK.out]; rfl]
        exact blk_far (blk_far BG.out (p := ⟨S, 0, none⟩) HSG.out.symm _) (p := ⟨S, 1, none⟩) HSG.out.symm _
  | false =>
      rw [hrk] at BG
      have k0 : w2.drew.cell? ⟨h, 0, none⟩ = some (.pointer (some ⟨g, 0, none⟩)) := (blk_cell (blk_drew BH.out) 0).trans rfl
      have k2 : w2.drew.cell? ⟨g, 2, none⟩ = some (.bool false) := (blk_cell (blk_drew BG.out) 2).trans rfl
      have HRK := Aside0.mk hrk
      clear hrk
      refine start_ (n := 12) (S := fun w' => w'.cell? ⟨h, 0, none⟩ = some (.pointer (some ⟨g, 0, none⟩)) ∧ w'.cell? ⟨g, 2, none⟩ = some (.bool false)) (ds := [11]) #[false, false, false, false, false, false, false, false, false, false, false, false] (by kernel_rfl) rfl rfl ⟨k0, k2⟩ (fun hHeld => ?_)
      refine rgT2 0 10 hHeld ?_
      refine rgT2 1 11 hHeld ?_
      refine rgP 2 12 ?_
      refine rgP 3 13 ?_
      refine rgT2 4 14 hHeld ?_
      refine rgP 5 15 ?_
      refine rgP 6 16 ?_
      refine rgP 7 17 ?_
      refine rgP 8 18 ?_
      refine rgP 9 19 ?_
      refine rgP 10 20 ?_
      refine last_ (i := 11) (N := none) #[true, true, true, true, true, true, true, true, true, true, true, true] rfl rfl (by kernel_rfl) (by decide) (fun K hK => ?_)
      have hc2 : w2.drew.cell? ⟨g, 2, none⟩ = some (.bool false) := (blk_cell (blk_drew BG.out) 2).trans rfl
      have hf2 := blk_frozen (blk_drew BG.out) 2
      refine skip_ (w1 := ?_) (by rfl) rfl ?_ ?_
      rotate_left
      · go_simp
        rfl
      refine hK.out _ _ ?_
      clear hK K
      refine done_ (by kernel_rfl) ?_
      clear k0 k2
      have m0_ := Aside0.mk (blk_drew (blk_set BG.out 2 (.bool (unpackE (rbV b at_ bad) != 0))))
      have m1_ := Aside0.mk (below_drew (below_set (j := 2) (v := .bool (unpackE (rbV b at_ bad) != 0)) HB.out HGE.out))
      have m2_ := Aside0.mk (keep_drew (HK.out.set_ 2 (.bool (unpackE (rbV b at_ bad) != 0))))
      have m3_ := Aside0.mk (Kd.R_drew (Kd.R_mono (Kd.R_keep (Kd.R_bound HR.out) (KeepBut.set_ (KeepBut.refl w2 g none) 2 (.bool (unpackE (rbV b at_ bad) != 0))) (fun k hk => fun e => absurd hk.2.1 (by rw [e]; exact Nat.not_le.2 HGW.out))) (fun k hk => hk.2.1)))
      have m4_ := Aside0.mk (blk_drew (blk_far BS.out (p := ⟨g, 2, none⟩) HSG.out (.bool (unpackE (rbV b at_ bad) != 0))))
      clear BG HB HK HR BS BH
      have BG := m0_
      have HB := m1_
      have HK := m2_
      have HR := m3_
      have BS := m4_
      clear m0_ m1_ m2_ m3_ m4_
      generalize (w2.setCell ⟨g, 2, none⟩ (.bool (unpackE (rbV b at_ bad) != 0))).drew = w3 at *
      have s0 : w3.cell? ⟨S, 0, none⟩ = some (.string ⟨#[]⟩) := (blk_cell BS.out 0).trans rfl
      have s1 : w3.cell? ⟨S, 1, none⟩ = some (.slice none 0 0) := (blk_cell BS.out 1).trans rfl
      have f0 := blk_frozen BS.out 0
      have f1 := blk_frozen BS.out 1
      go_wp2
      have hG : ((w3.setCell ⟨S, 0, none⟩ (.string ⟨#[]⟩)).setCell ⟨S, 1, none⟩ (.slice Al (unpackP (rbV b at_ bad)).length cl)).heap[S]? = some (.cells #[.string ⟨#[]⟩, .slice Al (unpackP (rbV b at_ bad)).length cl] 44 (0, 0)) := blk_set (blk_set BS.out 0 _) 1 _
      refine bodyPost_ret (results_c1 rfl _ _ S 44 #[.string ⟨#[]⟩, .slice Al (unpackP (rbV b at_ bad)).length cl] (0, 0) _ rfl hG Try.underlying44 rfl (by kernel_rfl)) rfl ?_
      have hSW : w.heap.size ≤ S := Nat.le_of_eq HSW.out.symm
      refine ⟨_, rfl, ?_, ?_, below_set (below_set HB.out (Nat.le_trans (below_size HBW.out) hSW)) (Nat.le_trans (below_size HBW.out) hSW), keep_set_new (keep_set_new HK.out hSW 0 _) hSW 1 _⟩
      · have hne : ∀ k, (w.heap.size ≤ k ∧ w.heap.size ≤ k ∧ k < w3.heap.size ∧ ∃ q, q ∈ 64 :: k64.E ∧ ∃ cells, w3.heap[k]? = some (.cells cells q (0, 0))) → k ≠ S := by
          rintro k ⟨_, _, _, q, hq, cells, hc⟩ e
          rw [e, BS.out] at hc
          simp only [Option.some.injEq, Obj.cells.injEq] at hc
          rw [← hc.2.1] at hq
          exact absurd hq (by decide)
        exact Kd.R_mono (Kd.R_keep (Kd.R_bound HR.out) ((KeepBut.set_ (KeepBut.refl w3 S none) 0 _).set_ 1 _) hne) (fun k hk => hk.1)
      · rw [show rd3 A c b (termOne b at_ bad).2.1 (termOne b at_ bad).2.2 = (rd3 A c b (rbA b at_ bad) false).setIfInBounds 2 (.bool (unpackE (rbV b at_ bad) != 0)) from by (show rd3 A c b (rbA b at_ bad) (!rbOk b at_ bad || (unpackE (rbV b at_ bad) != 0)) = _); rw [HRK.out]; rfl]
        exact blk_far (blk_far BG.out (p := ⟨S, 0, none⟩) HSG.out.symm _) (p := ⟨S, 1, none⟩) HSG.out.symm _

end Go.Proofs.Ytfhcolhiolgikaa.T
/- Written by hp.py, this session's own program, out of the translation of this seat: Lean functions for the Go functions, and the proof that each call comes to what its Lean function says. -/
namespace Go.Proofs.Ytfhcolhiolgikaa.T
open Go.RowKit Go.Proofs.YtfhcolhiolgikaaW.PrintWords Go.Proofs.YtfhcolhiolgikaaW.PrintLast Go.Proofs.YtfhcolhiolgikaaW.PrintMore
attribute [local go_sem] max2_int min2_int max_two min_two max_three min_three max_four min_four   -- for this text's walks alone
set_option linter.unusedVariables false
set_option linter.unusedSimpArgs false
/-! ### pack.some (48, 51, 53), by hand -/
open Go.Proofs.Ytfhcolhiolgikaa.Plain
theorem info44 : (Try.prog.info? 44).map (fun i => (i.zero, i.size, i.bytes)) = some (some (.agg #[.string ⟨#[]⟩, .slice none 0 0]), 2, 40) := by kernel_rfl
set_option maxHeartbeats 4000000 in
set_option maxRecDepth 100000 in
theorem some48_calls (g h : Nat) (A : Option Addr) (c : Nat) (b : List Int) (at_ : Int) (bad : Bool) (n : Nat) (w0 w : World) (hby : byt b) (hC : Kd.C (Kd.int .u8) w0 A b.length b) (hc : b.length ≤ c) (hblk : w.heap[g]? = some (.cells (rd3 A c b at_ bad) 87 (0, 0))) (hbox : w.heap[h]? = some (.cells #[.pointer (some ⟨g, 0, none⟩)] 85 (0, 0))) (hB : Below w0.heap.size w0 w) (hg : w0.heap.size ≤ g) (h0 : 0 ≤ at_) (h1 : at_ ≤ b.length) (hl : b.length ≤ 1000000000) (hn : n ≤ 1000) :
    Calls Try.prog 48 #[.pointer (some ⟨g, 0, none⟩), .int .i64 (n : Int), .func (.func 49) #[] #[.pointer (some ⟨h, 0, none⟩)]] w fun en w' => ∃ v : Value, en = .returned v ∧ Kd.R Kd.string 9 w' w.heap.size (fun k => w.heap.size ≤ k) v (smGo (strOne b) n ⟨[], at_, bad⟩).out ∧
      w'.heap[g]? = some (.cells (rd3 A c b (smGo (strOne b) n ⟨[], at_, bad⟩).pl (smGo (strOne b) n ⟨[], at_, bad⟩).bd) 87 (0, 0)) ∧ Below w0.heap.size w0 w' ∧ KeepBut w w' g none := by
  have hu22 := Try.underlying22
  have HBY := Aside0.mk hby
  have HC := Aside0.mk hC
  have HCC := Aside0.mk hc
  have HBX := Aside0.mk hbox
  have HHG := Aside0.mk (show h ≠ g from blk_ne hbox hblk (by decide))
  have HGW := Aside0.mk (blk_lt hblk)
  have HOX := Aside0.mk (show ∀ k, w.heap.size ≤ k → k ≠ g from fun k hk => by have := blk_lt hblk; omega)
  have HSW := Aside0.mk (show w0.heap.size ≤ w.heap.size from hB.size)
  have HB0 := Aside0.mk hB
  have HGE := Aside0.mk hg
  have HL := Aside0.mk hl
  have HN := Aside0.mk hn
  obtain ⟨s0, hs0⟩ : ∃ s, s = (⟨[], at_, bad⟩ : SmS ByteArray) := ⟨_, rfl⟩
  rw [← hs0]
  have BG0 := Aside0.mk (show w.heap[g]? = some (.cells (rd3 A c b s0.pl s0.bd) 87 (0, 0)) from by rw [hs0]; exact hblk)
  have HO0 := Aside0.mk (show Kd.R Kd.string 9 w w.heap.size (fun k => w.heap.size ≤ k) (.slice none 0 0) s0.out from by rw [hs0]; exact Kd.R_nil _ _ _ _ _)
  have HP0 := Aside0.mk (show 0 ≤ s0.pl ∧ s0.pl ≤ b.length from by rw [hs0]; exact ⟨h0, h1⟩)
  have HS0 := Aside0.mk (show s0.out.length = 0 from by rw [hs0]; rfl)
  have HK0 := Aside0.mk (KeepBut.refl w g none)
  clear hby hC hc hblk hbox hB hg h0 h1 hl hn hs0
  go_enter Try.func48, Try.ntmps48
  go_wp2
  go_loopg [7, 8] (n + 1) (fun kq v7 v8 w' => ∃ (i : Nat) (s : SmS ByteArray), v8 = .int .i64 (i : Int) ∧ Aside0 (Kd.R Kd.string 9 w' w.heap.size (fun k => w.heap.size ≤ k) v7 s.out) ∧ Aside0 (w'.heap[g]? = some (.cells (rd3 A c b s.pl s.bd) 87 (0, 0))) ∧ Aside0 (Below w0.heap.size w0 w') ∧ Aside0 (KeepBut w w' g none) ∧ Aside0 (0 ≤ s.pl ∧ s.pl ≤ b.length) ∧ Aside0 (smGo (strOne b) (n - i) s = smGo (strOne b) n s0) ∧ Aside0 (i ≤ n ∧ s.out.length = i ∧ n - i < kq ∧ kq ≤ n + 1))
  case atStart => exact ⟨0, s0, rfl, HO0, BG0, HB0, HK0, HP0, ⟨rfl⟩, ⟨by omega, HS0.out, by omega, by omega⟩⟩
  case round =>
    clear BG0 HO0 HB0 HK0 HP0 HS0
    obtain ⟨i, s, rfl, HO, BG, HB, HK, HR01, SG, HI⟩ := hrel
    cases gk with
    | zero => exact absurd HI.out.2.2.1 (by omega)
    | succ k1 =>
      obtain ⟨Av, cv, rfl⟩ := Kd.R_slice HO.out
      have d2 : wr.cell? ⟨g, 2, none⟩ = some (.bool s.bd) := (blk_cell BG.out 2).trans rfl
      by_cases hlt : i < n
      · have c2b0 : decide ((i : Int) < (n : Int)) = true := decide_eq_true (by omega)
        have c2b1 : decide (i < n) = true := decide_eq_true hlt
        cases hbd : s.bd with
        | false =>
          rw [hbd] at d2
          have HLT := Aside0.mk hlt
          have SG2 := Aside0.mk (show smGo (strOne b) (n - (i + 1)) (smStep (strOne b) s) = smGo (strOne b) n s0 from by
            rw [← SG.out, show n - i = n - (i + 1) + 1 from by omega]
            exact (smGo_more (strOne b) _ hbd).symm)
          clear hlt hbd SG
          go_wp2_with (first | (go_at_call 49; (refine (str49_calls g h A c b s.pl s.bd w0 _ HBY.out HC.out HCC.out BG.out (HK.out.blk HBX.out HHG.out (by simp)) HB.out HGE.out HR01.out.1 HR01.out.2 HL.out).mono ?_); rintro e_ w1 ⟨rfl, hb1, hB1, hk1⟩; have HVO := Aside0.mk (Kd.R_bound HO.out); have HSZ := Aside0.mk HK.out.1; have m0_ := Aside0.mk hb1; have m1_ := Aside0.mk hB1; have m2_ := Aside0.mk (HK.out.trans hk1 (Or.inl rfl)); have m3_ := Aside0.mk (Kd.R_keep HO.out hk1 (fun k hk => HOX.out k hk)); clear BG HB HK HO hb1 hB1 hk1; have BG := m0_; have HB := m1_; have HK := m2_; have HO := m3_; clear m0_ m1_ m2_ m3_; clear d2) | ((with_reducible refine gate_builtin (b := .append) (xs := #[.tmp 21, .tmp 24]) rfl ?_); at_builtin; refine Kd.R_append Kd.string (w0 := w1) w.heap.size rfl (.tmp 21) (.tmp 24) 22 9 (.string ⟨#[]⟩) 16 rfl Try.underlying22 info9 rfl (by decide) (by omega) (.slice Av s.out.length cv) s.out (strOne b s.pl s.bd).1 [.string (strOne b s.pl s.bd).1] (fun k => w.heap.size ≤ k) (fun _ => False) rfl rfl ?aP ?aK ?aF ?aO ?aB ?aS ?aL ?_; (case aP => exact rfl); (case aK => exact fun k hk => hk.elim); (case aF => exact fun k hk => Nat.le_trans HK.out.1 hk); (case aO => exact HO.out); (case aB => exact Below.refl _ _); (case aS => exact HK.out.1); (case aL => have h1 := HI.out; have h2 := HLT.out; have h3 := HN.out; omega); intro vo wn ho hb hg hat; have m0_ := Aside0.mk ((hb.block g HGW.out).trans BG.out); have m1_ := Aside0.mk (HB.out.trans (below_less hb HSW.out)); have m2_ := Aside0.mk (show KeepBut w wn g none from ⟨Nat.le_trans HK.out.1 hb.size, fun i hi hx hr => (hb.block i hi).trans (HK.out.2 i hi hx hr)⟩); have m3_ := Aside0.mk ho; clear BG HB HK HO HVO HSZ ho hb hg hat; have BG := m0_; have HB := m1_; have HK := m2_; have HO := m3_; clear m0_ m1_ m2_ m3_))
          go_roundg k1
          case measure => have := HI.out; omega
          case rel => exact ⟨i + 1, smStep (strOne b) s, (by rw [wstep (by have := HLT.out; have := HN.out; omega)]), HO, BG, HB, HK, ⟨rbA_range HBY.out _ HR01.out.1 HR01.out.2⟩, SG2, ⟨by have := HLT.out; omega, by show (s.out ++ [_]).length = i + 1; rw [List.length_append]; have := HI.out; simp; omega, by have := HI.out; have := HLT.out; omega, by have := HI.out; omega⟩⟩
        | true =>
          rw [hbd] at d2
          have HF := Aside0.mk (show smGo (strOne b) n s0 = s from by rw [← SG.out]; exact smGo_bad _ _ hbd)
          clear hlt hbd SG
          go_wp2
          go_ret
          rw [HF.out]
          exact ⟨_, rfl, HO.out, BG.out, HB.out, HK.out⟩
      · have c2b0 : decide ((i : Int) < (n : Int)) = false := decide_eq_false (by omega)
        have c2b1 : decide (i < n) = false := decide_eq_false hlt
        have HF := Aside0.mk (show smGo (strOne b) n s0 = s from by rw [← SG.out, show n - i = 0 from by omega]; rfl)
        clear hlt SG
        go_wp2
        go_ret
        rw [HF.out]
        exact ⟨_, rfl, HO.out, BG.out, HB.out, HK.out⟩
set_option maxHeartbeats 4000000 in
set_option maxRecDepth 100000 in
theorem some51_calls (g h : Nat) (A : Option Addr) (c : Nat) (b : List Int) (at_ : Int) (bad : Bool) (n : Nat) (w0 w : World) (hby : byt b) (hC : Kd.C (Kd.int .u8) w0 A b.length b) (hc : b.length ≤ c) (hblk : w.heap[g]? = some (.cells (rd3 A c b at_ bad) 87 (0, 0))) (hbox : w.heap[h]? = some (.cells #[.pointer (some ⟨g, 0, none⟩)] 85 (0, 0))) (hB : Below w0.heap.size w0 w) (hg : w0.heap.size ≤ g) (h0 : 0 ≤ at_) (h1 : at_ ≤ b.length) (hl : b.length ≤ 1000000000) (hn : n ≤ 1000) :
    Calls Try.prog 51 #[.pointer (some ⟨g, 0, none⟩), .int .i64 (n : Int), .func (.func 47) #[.pointer (some ⟨g, 0, none⟩)] #[]] w fun en w' => ∃ v : Value, en = .returned v ∧ Kd.R (Kd.int .i64) 3 w' w.heap.size (fun k => w.heap.size ≤ k) v (smGo (numOne b) n ⟨[], at_, bad⟩).out ∧
      w'.heap[g]? = some (.cells (rd3 A c b (smGo (numOne b) n ⟨[], at_, bad⟩).pl (smGo (numOne b) n ⟨[], at_, bad⟩).bd) 87 (0, 0)) ∧ Below w0.heap.size w0 w' ∧ KeepBut w w' g none := by
  have hu23 := Try.underlying23
  have HBY := Aside0.mk hby
  have HC := Aside0.mk hC
  have HCC := Aside0.mk hc
  have HBX := Aside0.mk hbox
  have HHG := Aside0.mk (show h ≠ g from blk_ne hbox hblk (by decide))
  have HGW := Aside0.mk (blk_lt hblk)
  have HOX := Aside0.mk (show ∀ k, w.heap.size ≤ k → k ≠ g from fun k hk => by have := blk_lt hblk; omega)
  have HSW := Aside0.mk (show w0.heap.size ≤ w.heap.size from hB.size)
  have HB0 := Aside0.mk hB
  have HGE := Aside0.mk hg
  have HL := Aside0.mk hl
  have HN := Aside0.mk hn
  obtain ⟨s0, hs0⟩ : ∃ s, s = (⟨[], at_, bad⟩ : SmS Int) := ⟨_, rfl⟩
  rw [← hs0]
  have BG0 := Aside0.mk (show w.heap[g]? = some (.cells (rd3 A c b s0.pl s0.bd) 87 (0, 0)) from by rw [hs0]; exact hblk)
  have HO0 := Aside0.mk (show Kd.R (Kd.int .i64) 3 w w.heap.size (fun k => w.heap.size ≤ k) (.slice none 0 0) s0.out from by rw [hs0]; exact Kd.R_nil _ _ _ _ _)
  have HP0 := Aside0.mk (show 0 ≤ s0.pl ∧ s0.pl ≤ b.length from by rw [hs0]; exact ⟨h0, h1⟩)
  have HS0 := Aside0.mk (show s0.out.length = 0 from by rw [hs0]; rfl)
  have HK0 := Aside0.mk (KeepBut.refl w g none)
  clear hby hC hc hblk hbox hB hg h0 h1 hl hn hs0
  go_enter Try.func51, Try.ntmps51
  go_wp2
  go_loopg [7, 8] (n + 1) (fun kq v7 v8 w' => ∃ (i : Nat) (s : SmS Int), v8 = .int .i64 (i : Int) ∧ Aside0 (Kd.R (Kd.int .i64) 3 w' w.heap.size (fun k => w.heap.size ≤ k) v7 s.out) ∧ Aside0 (w'.heap[g]? = some (.cells (rd3 A c b s.pl s.bd) 87 (0, 0))) ∧ Aside0 (Below w0.heap.size w0 w') ∧ Aside0 (KeepBut w w' g none) ∧ Aside0 (0 ≤ s.pl ∧ s.pl ≤ b.length) ∧ Aside0 (smGo (numOne b) (n - i) s = smGo (numOne b) n s0) ∧ Aside0 (i ≤ n ∧ s.out.length = i ∧ n - i < kq ∧ kq ≤ n + 1))
  case atStart => exact ⟨0, s0, rfl, HO0, BG0, HB0, HK0, HP0, ⟨rfl⟩, ⟨by omega, HS0.out, by omega, by omega⟩⟩
  case round =>
    clear BG0 HO0 HB0 HK0 HP0 HS0
    obtain ⟨i, s, rfl, HO, BG, HB, HK, HR01, SG, HI⟩ := hrel
    cases gk with
    | zero => exact absurd HI.out.2.2.1 (by omega)
    | succ k1 =>
      obtain ⟨Av, cv, rfl⟩ := Kd.R_slice HO.out
      have d2 : wr.cell? ⟨g, 2, none⟩ = some (.bool s.bd) := (blk_cell BG.out 2).trans rfl
      by_cases hlt : i < n
      · have c2b0 : decide ((i : Int) < (n : Int)) = true := decide_eq_true (by omega)
        have c2b1 : decide (i < n) = true := decide_eq_true hlt
        cases hbd : s.bd with
        | false =>
          rw [hbd] at d2
          have HLT := Aside0.mk hlt
          have SG2 := Aside0.mk (show smGo (numOne b) (n - (i + 1)) (smStep (numOne b) s) = smGo (numOne b) n s0 from by
            rw [← SG.out, show n - i = n - (i + 1) + 1 from by omega]
            exact (smGo_more (numOne b) _ hbd).symm)
          clear hlt hbd SG
          go_wp2_with (first | (go_at_call 47; (refine (num47_3 g A c b s.pl s.bd 87 w0 _ HBY.out HC.out HCC.out BG.out HB.out HGE.out).mono ?_); rintro e_ w1 ⟨rfl, hb1, hB1, hk1⟩; have HVO := Aside0.mk (Kd.R_bound HO.out); have HSZ := Aside0.mk HK.out.1; have m0_ := Aside0.mk hb1; have m1_ := Aside0.mk hB1; have m2_ := Aside0.mk (HK.out.trans hk1 (Or.inl rfl)); have m3_ := Aside0.mk (Kd.R_keep HO.out hk1 (fun k hk => HOX.out k hk)); clear BG HB HK HO hb1 hB1 hk1; have BG := m0_; have HB := m1_; have HK := m2_; have HO := m3_; clear m0_ m1_ m2_ m3_; clear d2) | ((with_reducible refine gate_builtin (b := .append) (xs := #[.tmp 21, .tmp 24]) rfl ?_); at_builtin; refine Kd.R_append (Kd.int .i64) (w0 := w1) w.heap.size rfl (.tmp 21) (.tmp 24) 23 3 (.int .i64 0) 8 rfl Try.underlying23 info3 rfl (by decide) (by omega) (.slice Av s.out.length cv) s.out (numOne b s.pl s.bd).1 [.int .i64 (numOne b s.pl s.bd).1] (fun k => w.heap.size ≤ k) (fun _ => False) rfl rfl ?aP ?aK ?aF ?aO ?aB ?aS ?aL ?_; (case aP => exact rfl); (case aK => exact fun k hk => hk.elim); (case aF => exact fun k hk => Nat.le_trans HK.out.1 hk); (case aO => exact HO.out); (case aB => exact Below.refl _ _); (case aS => exact HK.out.1); (case aL => have h1 := HI.out; have h2 := HLT.out; have h3 := HN.out; omega); intro vo wn ho hb hg hat; have m0_ := Aside0.mk ((hb.block g HGW.out).trans BG.out); have m1_ := Aside0.mk (HB.out.trans (below_less hb HSW.out)); have m2_ := Aside0.mk (show KeepBut w wn g none from ⟨Nat.le_trans HK.out.1 hb.size, fun i hi hx hr => (hb.block i hi).trans (HK.out.2 i hi hx hr)⟩); have m3_ := Aside0.mk ho; clear BG HB HK HO HVO HSZ ho hb hg hat; have BG := m0_; have HB := m1_; have HK := m2_; have HO := m3_; clear m0_ m1_ m2_ m3_))
          go_roundg k1
          case measure => have := HI.out; omega
          case rel => exact ⟨i + 1, smStep (numOne b) s, (by rw [wstep (by have := HLT.out; have := HN.out; omega)]), HO, BG, HB, HK, ⟨numA_range b _ HBY.out HR01.out.1 HR01.out.2⟩, SG2, ⟨by have := HLT.out; omega, by show (s.out ++ [_]).length = i + 1; rw [List.length_append]; have := HI.out; simp; omega, by have := HI.out; have := HLT.out; omega, by have := HI.out; omega⟩⟩
        | true =>
          rw [hbd] at d2
          have HF := Aside0.mk (show smGo (numOne b) n s0 = s from by rw [← SG.out]; exact smGo_bad _ _ hbd)
          clear hlt hbd SG
          go_wp2
          go_ret
          rw [HF.out]
          exact ⟨_, rfl, HO.out, BG.out, HB.out, HK.out⟩
      · have c2b0 : decide ((i : Int) < (n : Int)) = false := decide_eq_false (by omega)
        have c2b1 : decide (i < n) = false := decide_eq_false hlt
        have HF := Aside0.mk (show smGo (numOne b) n s0 = s from by rw [← SG.out, show n - i = 0 from by omega]; rfl)
        clear hlt SG
        go_wp2
        go_ret
        rw [HF.out]
        exact ⟨_, rfl, HO.out, BG.out, HB.out, HK.out⟩
set_option maxHeartbeats 4000000 in
set_option maxRecDepth 100000 in
theorem some53_calls (g h : Nat) (A : Option Addr) (c : Nat) (b : List Int) (at_ : Int) (bad : Bool) (n : Nat) (w0 w : World) (hby : byt b) (hC : Kd.C (Kd.int .u8) w0 A b.length b) (hc : b.length ≤ c) (hblk : w.heap[g]? = some (.cells (rd3 A c b at_ bad) 87 (0, 0))) (hbox : w.heap[h]? = some (.cells #[.pointer (some ⟨g, 0, none⟩)] 85 (0, 0))) (hB : Below w0.heap.size w0 w) (hg : w0.heap.size ≤ g) (h0 : 0 ≤ at_) (h1 : at_ ≤ b.length) (hl : b.length ≤ 1000000000) (hn : n ≤ 1000) :
    Calls Try.prog 53 #[.pointer (some ⟨g, 0, none⟩), .int .i64 (n : Int), .func (.func 54) #[] #[.pointer (some ⟨h, 0, none⟩)]] w fun en w' => ∃ v : Value, en = .returned v ∧ Kd.R k44 44 w' w.heap.size (fun k => w.heap.size ≤ k) v (smGo (termOne b) n ⟨[], at_, bad⟩).out ∧
      w'.heap[g]? = some (.cells (rd3 A c b (smGo (termOne b) n ⟨[], at_, bad⟩).pl (smGo (termOne b) n ⟨[], at_, bad⟩).bd) 87 (0, 0)) ∧ Below w0.heap.size w0 w' ∧ KeepBut w w' g none := by
  have hu24 := Try.underlying24
  have HBY := Aside0.mk hby
  have HC := Aside0.mk hC
  have HCC := Aside0.mk hc
  have HBX := Aside0.mk hbox
  have HHG := Aside0.mk (show h ≠ g from blk_ne hbox hblk (by decide))
  have HGW := Aside0.mk (blk_lt hblk)
  have HOX := Aside0.mk (show ∀ k, w.heap.size ≤ k → k ≠ g from fun k hk => by have := blk_lt hblk; omega)
  have HSW := Aside0.mk (show w0.heap.size ≤ w.heap.size from hB.size)
  have HB0 := Aside0.mk hB
  have HGE := Aside0.mk hg
  have HL := Aside0.mk hl
  have HN := Aside0.mk hn
  obtain ⟨s0, hs0⟩ : ∃ s, s = (⟨[], at_, bad⟩ : SmS S44) := ⟨_, rfl⟩
  rw [← hs0]
  have BG0 := Aside0.mk (show w.heap[g]? = some (.cells (rd3 A c b s0.pl s0.bd) 87 (0, 0)) from by rw [hs0]; exact hblk)
  have HO0 := Aside0.mk (show Kd.R k44 44 w w.heap.size (fun k => w.heap.size ≤ k) (.slice none 0 0) s0.out from by rw [hs0]; exact Kd.R_nil _ _ _ _ _)
  have HP0 := Aside0.mk (show 0 ≤ s0.pl ∧ s0.pl ≤ b.length from by rw [hs0]; exact ⟨h0, h1⟩)
  have HS0 := Aside0.mk (show s0.out.length = 0 from by rw [hs0]; rfl)
  have HK0 := Aside0.mk (KeepBut.refl w g none)
  clear hby hC hc hblk hbox hB hg h0 h1 hl hn hs0
  go_enter Try.func53, Try.ntmps53
  go_wp2
  go_loopg [7, 8] (n + 1) (fun kq v7 v8 w' => ∃ (i : Nat) (s : SmS S44), v8 = .int .i64 (i : Int) ∧ Aside0 (Kd.R k44 44 w' w.heap.size (fun k => w.heap.size ≤ k) v7 s.out) ∧ Aside0 (w'.heap[g]? = some (.cells (rd3 A c b s.pl s.bd) 87 (0, 0))) ∧ Aside0 (Below w0.heap.size w0 w') ∧ Aside0 (KeepBut w w' g none) ∧ Aside0 (0 ≤ s.pl ∧ s.pl ≤ b.length) ∧ Aside0 (smGo (termOne b) (n - i) s = smGo (termOne b) n s0) ∧ Aside0 (i ≤ n ∧ s.out.length = i ∧ n - i < kq ∧ kq ≤ n + 1))
  case atStart => exact ⟨0, s0, rfl, HO0, BG0, HB0, HK0, HP0, ⟨rfl⟩, ⟨by omega, HS0.out, by omega, by omega⟩⟩
  case round =>
    clear BG0 HO0 HB0 HK0 HP0 HS0
    obtain ⟨i, s, rfl, HO, BG, HB, HK, HR01, SG, HI⟩ := hrel
    cases gk with
    | zero => exact absurd HI.out.2.2.1 (by omega)
    | succ k1 =>
      obtain ⟨Av, cv, rfl⟩ := Kd.R_slice HO.out
      have d2 : wr.cell? ⟨g, 2, none⟩ = some (.bool s.bd) := (blk_cell BG.out 2).trans rfl
      by_cases hlt : i < n
      · have c2b0 : decide ((i : Int) < (n : Int)) = true := decide_eq_true (by omega)
        have c2b1 : decide (i < n) = true := decide_eq_true hlt
        cases hbd : s.bd with
        | false =>
          rw [hbd] at d2
          have HLT := Aside0.mk hlt
          have SG2 := Aside0.mk (show smGo (termOne b) (n - (i + 1)) (smStep (termOne b) s) = smGo (termOne b) n s0 from by
            rw [← SG.out, show n - i = n - (i + 1) + 1 from by omega]
            exact (smGo_more (termOne b) _ hbd).symm)
          clear hlt hbd SG
          go_wp2_with (first | (go_at_call 54; (refine (term54_calls g h A c b s.pl s.bd w0 _ HBY.out HC.out HCC.out BG.out (HK.out.blk HBX.out HHG.out (by simp)) HB.out HGE.out HR01.out.1 HR01.out.2 HL.out).mono ?_); rintro e_ w1 ⟨vl, rfl, hr1, hb1, hB1, hk1⟩; have HVO := Aside0.mk (Kd.R_bound HO.out); have HSZ := Aside0.mk HK.out.1; have HR1 := Aside0.mk hr1; clear hr1; have m0_ := Aside0.mk hb1; have m1_ := Aside0.mk hB1; have m2_ := Aside0.mk (HK.out.trans hk1 (Or.inl rfl)); have m3_ := Aside0.mk (Kd.R_keep HO.out hk1 (fun k hk => HOX.out k hk)); clear BG HB HK HO hb1 hB1 hk1; have BG := m0_; have HB := m1_; have HK := m2_; have HO := m3_; clear m0_ m1_ m2_ m3_; clear d2) | ((with_reducible refine gate_builtin (b := .append) (xs := #[.tmp 21, .tmp 24]) rfl ?_); at_builtin; refine Kd.R_append k44 (w0 := w1) w.heap.size rfl (.tmp 21) (.tmp 24) 24 44 (.agg #[.string ⟨#[]⟩, .slice none 0 0]) 40 rfl Try.underlying24 info44 rfl (by decide) (by omega) (.slice Av s.out.length cv) s.out (termOne b s.pl s.bd).1 [.string ⟨#[]⟩, vl] (fun k => w.heap.size ≤ k) (fun k => wr.heap.size ≤ k) rfl rfl ?aP ?aK ?aF ?aO ?aB ?aS ?aL ?_; (case aP => exact k44_mkM _ _ _ (termOne b s.pl s.bd).1 (Kd.R_lower HR1.out HSZ.out)); (case aK => exact fun k hk => ⟨Nat.le_trans HSZ.out hk, fun e => absurd (HVO.out.1 k e.symm).2.2.1 (Nat.not_lt.2 hk)⟩); (case aF => exact fun k hk => Nat.le_trans HK.out.1 hk); (case aO => exact HO.out); (case aB => exact Below.refl _ _); (case aS => exact HK.out.1); (case aL => have h1 := HI.out; have h2 := HLT.out; have h3 := HN.out; omega); intro vo wn ho hb hg hat; have m0_ := Aside0.mk ((hb.block g HGW.out).trans BG.out); have m1_ := Aside0.mk (HB.out.trans (below_less hb HSW.out)); have m2_ := Aside0.mk (show KeepBut w wn g none from ⟨Nat.le_trans HK.out.1 hb.size, fun i hi hx hr => (hb.block i hi).trans (HK.out.2 i hi hx hr)⟩); have m3_ := Aside0.mk ho; clear BG HB HK HO HVO HSZ ho hb hg hat; have BG := m0_; have HB := m1_; have HK := m2_; have HO := m3_; clear m0_ m1_ m2_ m3_))
          go_roundg k1
          case measure => have := HI.out; omega
          case rel => exact ⟨i + 1, smStep (termOne b) s, (by rw [wstep (by have := HLT.out; have := HN.out; omega)]), HO, BG, HB, HK, ⟨rbA_range HBY.out _ HR01.out.1 HR01.out.2⟩, SG2, ⟨by have := HLT.out; omega, by show (s.out ++ [_]).length = i + 1; rw [List.length_append]; have := HI.out; simp; omega, by have := HI.out; have := HLT.out; omega, by have := HI.out; omega⟩⟩
        | true =>
          rw [hbd] at d2
          have HF := Aside0.mk (show smGo (termOne b) n s0 = s from by rw [← SG.out]; exact smGo_bad _ _ hbd)
          clear hlt hbd SG
          go_wp2
          go_ret
          rw [HF.out]
          exact ⟨_, rfl, HO.out, BG.out, HB.out, HK.out⟩
      · have c2b0 : decide ((i : Int) < (n : Int)) = false := decide_eq_false (by omega)
        have c2b1 : decide (i < n) = false := decide_eq_false hlt
        have HF := Aside0.mk (show smGo (termOne b) n s0 = s from by rw [← SG.out, show n - i = 0 from by omega]; rfl)
        clear hlt SG
        go_wp2
        go_ret
        rw [HF.out]
        exact ⟨_, rfl, HO.out, BG.out, HB.out, HK.out⟩

end Go.Proofs.Ytfhcolhiolgikaa.T
/- Plain facts for Pack: a segment that is read. -/
namespace Go.Proofs.Ytfhcolhiolgikaa.Plain
set_option linter.unusedVariables false
set_option linter.unusedSimpArgs false
open Go.RowKit Go.Proofs.Ytfhcolhiolgikaa.T Go.Proofs.YtfhcolhiolgikaaW.PrintWords Go.Proofs.YtfhcolhiolgikaaW.PrintLast Go.Proofs.YtfhcolhiolgikaaW.PrintMore
structure SegV where
  ids : List ByteArray
  keys : List Int
  lens : List Int
  terms : List S44
  so : Bool
def segZ : SegV := ⟨[], [], [], [], false⟩
def wiN (b : List Int) : Int := numV b 1
def wiI (b : List Int) : SmS ByteArray := smGo (strOne b) (wiN b).toNat ⟨[], numA b 1, numB b 1 false⟩
def wiK (b : List Int) : SmS Int := smGo (numOne b) (wiN b).toNat ⟨[], (wiI b).pl, (wiI b).bd⟩
def wiL (b : List Int) : SmS Int := smGo (numOne b) (wiN b).toNat ⟨[], (wiK b).pl, (wiK b).bd⟩
def wiD (b : List Int) : List ByteArray × Int := dictUnP (rbV b (wiL b).pl (wiL b).bd)
def wiT (b : List Int) : SmS S44 := smGo (termOne b) (wiD b).1.length ⟨[], rbA b (wiL b).pl (wiL b).bd, !rbOk b (wiL b).pl (wiL b).bd⟩
def wiOk (b : List Int) : Bool := !(wiT b).bd && decide ((wiD b).2 = 0) && decide ((wiT b).pl = (b.length : Int))
def setT : List ByteArray → List S44 → List S44
  | w :: ws, t :: ts => ⟨w, t.f1⟩ :: setT ws ts
  | _, ts => ts
def wiS (b : List Int) : SegV := ⟨(wiI b).out, (wiK b).out, (wiL b).out, setT (wiD b).1 (wiT b).out, rd b 0 == 1⟩
def segMayV (s : SegV) : Bool := segMayP s.ids s.keys s.lens s.terms s.so
def withinP (b : List Int) : SegV × Bool :=
  if b.length = 0 ∨ rd b 0 > 1 then (segZ, false)
  else if wiN b > 64 then (segZ, false)
  else if wiOk b = true then (wiS b, segMayV (wiS b))
  else (segZ, false)
theorem setT_len (ws : List ByteArray) : ∀ ts : List S44, (setT ws ts).length = ts.length := by
  induction ws with
  | nil => intro ts; rfl
  | cons w ws ih =>
    intro ts
    cases ts with
    | nil => rfl
    | cons t ts => simp [setT, ih]
theorem setT_take (ws : List ByteArray) (ts : List S44) (i : Nat) (hi : i < ws.length) (ht : i < ts.length) : (setT (ws.take i) ts).set i ⟨rdOf ByteArray.empty ws (i : Int), (ts[i]).f1⟩ = setT (ws.take (i + 1)) ts := by
  induction ws generalizing ts i with
  | nil => simp at hi
  | cons w ws ih =>
    cases ts with
    | nil => simp at ht
    | cons t ts =>
      cases i with
      | zero => simp [setT, rdOf]
      | succ i =>
        have h := ih ts i (by simpa using hi) (by simpa using ht)
        rw [rdOf_nat _ _ (by simpa using hi)] at h
        rw [rdOf_nat _ _ hi]
        simp only [List.take_succ_cons, setT, List.set_cons_succ, List.getElem_cons_succ]
        exact congrArg _ h
theorem setT_get (ws : List ByteArray) : ∀ (ts : List S44) (i : Nat) (hi : i < ts.length), ((setT ws ts)[i]'(by rw [setT_len]; exact hi)).f1 = (ts[i]).f1 := by
  induction ws with
  | nil => intro ts i hi; rfl
  | cons w ws ih =>
    intro ts i hi
    cases ts with
    | nil => simp at hi
    | cons t ts =>
      cases i with
      | zero => rfl
      | succ i => exact ih ts i (by simpa using hi)
theorem setT_mem {ws : List ByteArray} {ts : List S44} {t : S44} (h : t ∈ setT ws ts) : ∃ u ∈ ts, u.f1 = t.f1 := by
  obtain ⟨i, hi, e⟩ := List.getElem_of_mem h
  rw [setT_len] at hi
  refine ⟨ts[i], List.getElem_mem hi, ?_⟩
  rw [← setT_get ws ts i hi, e]
theorem smGo_bd {α : Type} (one : Int → Bool → α × Int × Bool) (k : Nat) : ∀ s : SmS α, (smGo one k s).bd = false → (smGo one k s).out.length = s.out.length + k := by
  induction k with
  | zero => intro s _; rfl
  | succ k ih =>
    intro s h
    unfold smGo at h ⊢
    split at h
    · rename_i hb
      rw [hb] at h; cases h
    · rename_i hb
      rw [if_neg hb, ih _ h]
      simp only [smStep, List.length_append, List.length_singleton]
      omega
theorem smGo_all {α : Type} (one : Int → Bool → α × Int × Bool) (P : α → Prop) (hP : ∀ p q, P (one p q).1) (k : Nat) : ∀ s : SmS α, (∀ x ∈ s.out, P x) → ∀ x ∈ (smGo one k s).out, P x := by
  induction k with
  | zero => intro s h; exact h
  | succ k ih =>
    intro s h
    unfold smGo
    split
    · exact h
    · refine ih _ ?_
      intro x hx
      rcases List.mem_append.1 hx with hx | hx
      · exact h x hx
      · rw [List.mem_singleton.1 hx]; exact hP _ _
theorem smGo_pl {α : Type} (one : Int → Bool → α × Int × Bool) (P : Int → Prop) (hP : ∀ p q, P p → P (one p q).2.1) (k : Nat) : ∀ s : SmS α, P s.pl → P (smGo one k s).pl := by
  induction k with
  | zero => intro s h; exact h
  | succ k ih =>
    intro s h
    unfold smGo
    split
    · exact h
    · exact ih _ (hP _ _ h)
theorem unL_len (b : List Int) (m : Nat) : ∀ (at_ : Int) (acc : List ByteArray) (ah : ByteArray), (unL b m at_ acc ah).1.length ≤ acc.length + m := by
  induction m with
  | zero =>
    intro at_ acc ah
    unfold unL
    split
    · exact Nat.le_refl _
    · simp
  | succ m ih =>
    intro at_ acc ah
    unfold unL
    split
    · simp
    · have := ih (wordP b at_ ah).2 (acc ++ [(wordP b at_ ah).1]) (wordP b at_ ah).1
      rw [List.length_append, List.length_singleton] at this
      omega
theorem dictUn_len (b : List Int) : (dictUnP b).1.length ≤ 200 := by
  unfold dictUnP
  split
  · rename_i h
    have := unL_len b (getP b 0).1.toNat (getP b 0).2.1 [] ⟨#[]⟩
    simp only [List.length_nil] at this
    omega
  · simp
theorem unpackP_may (b : List Int) : unpackP b = [] ∨ postMayP (unpackP b) = true := by
  unfold unpackP
  split
  · rename_i h
    unfold unpackOk at h
    simp only [Bool.and_eq_true] at h
    exact Or.inr h.2
  · exact Or.inl rfl
theorem unpackP_len (b : List Int) : (unpackP b).length ≤ 64 := by
  rcases unpackP_may b with h | h
  · rw [h]; simp
  · exact (postMay_post h).1
theorem wiI_size (b : List Int) : ∀ x ∈ (wiI b).out, x.size ≤ b.length := by
  unfold wiI
  refine smGo_all (strOne b) (fun x : ByteArray => x.size ≤ b.length) (fun p q => ?_) _ _ (fun x hx => by cases hx)
  show (strOfNums (rbV b p q)).size ≤ b.length
  rw [strOfNums_size]
  exact rbV_len b p q
theorem wiT_len (b : List Int) : ∀ t ∈ setT (wiD b).1 (wiT b).out, t.f1.length ≤ 64 := by
  intro t ht
  obtain ⟨u, hu, e⟩ := setT_mem ht
  rw [← e]
  unfold wiT at hu
  exact smGo_all (termOne b) (fun x : S44 => x.f1.length ≤ 64) (fun p q => unpackP_len (rbV b p q)) _ _ (fun x hx => by cases hx) u hu
end Go.Proofs.Ytfhcolhiolgikaa.Plain
/- Plain facts for Pack: a frame that is opened, a segment that is unpacked. -/
namespace Go.Proofs.Ytfhcolhiolgikaa.Plain
set_option linter.unusedVariables false
set_option linter.unusedSimpArgs false
open Go.RowKit Go.Proofs.Ytfhcolhiolgikaa.T Go.Proofs.YtfhcolhiolgikaaW.PrintWords Go.Proofs.YtfhcolhiolgikaaW.PrintLast Go.Proofs.YtfhcolhiolgikaaW.PrintMore
def openForm (l : List Int) : Bool := !decide (l.length < 2) && decide (rd l 0 = 70) && decide (rd l 1 = 83) && decide ((getP l 2).2.2 = 0) && decide ((getP l 2).1 ≤ 65536) && decide ((l.length : Int) = (getP l 2).2.1 + (getP l 2).1 + 4)
def openEnd (l : List Int) : Nat := ((getP l 2).2.1 + (getP l 2).1).toNat
def openP (l : List Int) : List Int × Int :=
  if openForm l = true then (if ofL (sumL (l.take (openEnd l))) = l.drop (openEnd l) then ((l.take (openEnd l)).drop (getP l 2).2.1.toNat, 0) else ([], 6)) else ([], 5)
theorem open_eq (l : List Int) (hb : byt l) (hl : l.length ≤ 9223372036854775807) (k : Nat) (hk : 7 ≤ k) : frame_Open.f k l 83 = some (openP l) := by
  unfold frame_Open.f openP openForm openEnd
  by_cases h1 : l.length < 2 ∨ ¬ rd l 0 = 70 ∨ ¬ rd l 1 = 83
  · rw [if_pos h1, if_neg]
    intro h
    simp only [Bool.and_eq_true, Bool.not_eq_true', decide_eq_false_iff_not, decide_eq_true_eq] at h
    obtain ⟨⟨⟨⟨⟨a, b⟩, c⟩, _⟩, _⟩, _⟩ := h
    rcases h1 with h1 | h1 | h1
    · exact a h1
    · exact h1 b
    · exact h1 c
  · rw [if_neg h1, get_eq l 2 hb hl k hk]
    simp only [Option.bind_some]
    obtain ⟨g1, g2, g3, g4⟩ := get_range l 2 hb
    have h1' : ¬ l.length < 2 ∧ rd l 0 = 70 ∧ rd l 1 = 83 := ⟨fun h => h1 (Or.inl h), Classical.byContradiction fun h => h1 (Or.inr (Or.inl h)), Classical.byContradiction fun h => h1 (Or.inr (Or.inr h))⟩
    rw [if_pos (show 0 ≤ (getP l 2).1 ∧ (getP l 2).1 ≤ 1000000000000 ∧ 0 ≤ (getP l 2).2.1 ∧ (getP l 2).2.1 ≤ (l.length : Int) from ⟨g1, by omega, g3, g4⟩)]
    by_cases h2 : ¬ (getP l 2).2.2 = 0 ∨ (getP l 2).1 > 65536 ∨ ¬ (l.length : Int) = (getP l 2).2.1 + (getP l 2).1 + 4
    · rw [if_pos h2, if_neg]
      intro h
      simp only [Bool.and_eq_true, Bool.not_eq_true', decide_eq_false_iff_not, decide_eq_true_eq] at h
      obtain ⟨⟨⟨⟨⟨a, b⟩, c⟩, d⟩, e⟩, f⟩ := h
      rcases h2 with h2 | h2 | h2
      · exact h2 d
      · omega
      · exact h2 f
    · have F : (!decide (l.length < 2) && decide (rd l 0 = 70) && decide (rd l 1 = 83) && decide ((getP l 2).2.2 = 0) && decide ((getP l 2).1 ≤ 65536) && decide ((l.length : Int) = (getP l 2).2.1 + (getP l 2).1 + 4)) = true := by
        simp only [Bool.and_eq_true, Bool.not_eq_true', decide_eq_false_iff_not, decide_eq_true_eq]
        exact ⟨⟨⟨⟨⟨h1'.1, h1'.2.1⟩, h1'.2.2⟩, Classical.byContradiction fun h => h2 (Or.inl h)⟩, by have : ¬ (getP l 2).1 > 65536 := fun h => h2 (Or.inr (Or.inl h)); omega⟩, Classical.byContradiction fun h => h2 (Or.inr (Or.inr h))⟩
      rw [if_neg h2, if_pos F]
      split <;> rfl
theorem open_byt {l : List Int} (hb : byt l) : byt (openP l).1 := by
  unfold openP
  split
  · split
    · exact byt_sub hb _ _
    · intro x hx; cases hx
  · intro x hx; cases hx
theorem open_len {l : List Int} (hb : byt l) : (openP l).1.length ≤ 65536 := by
  unfold openP
  split
  · rename_i h
    unfold openForm at h
    simp only [Bool.and_eq_true, Bool.not_eq_true', decide_eq_false_iff_not, decide_eq_true_eq] at h
    obtain ⟨g1, g2, g3, g4⟩ := get_range l 2 hb
    split
    · unfold openEnd
      rw [List.length_drop, List.length_take]
      omega
    · simp
  · simp
def unSegP (l : List Int) : SegV × Int :=
  if (openP l).2 = 0 then (if (withinP (openP l).1).2 = true then ((withinP (openP l).1).1, 0) else (segZ, 5)) else (segZ, (openP l).2)
end Go.Proofs.Ytfhcolhiolgikaa.Plain
/- Plain facts for Pack: the chapter's example. -/
namespace Go.Proofs.Ytfhcolhiolgikaa.Plain
open Go.RowKit Go.Proofs.Ytfhcolhiolgikaa.T Go.Proofs.YtfhcolhiolgikaaW.PrintWords Go.Proofs.YtfhcolhiolgikaaW.PrintLast Go.Proofs.YtfhcolhiolgikaaW.PrintMore
def awB : List Int := [70, 83, 4, 0, 0, 1, 0, 158, 119, 60, 189]
theorem aw_ref : catchwordref02_Wrap.f 100 83 [0,0,1,0] = some awB := by kernel_rfl
theorem aw_pack : packR [] [] [] [] false = awB := by kernel_rfl
theorem aw_packE : packE [] [] [] [] false = 0 := by kernel_rfl
theorem aw_un : unSegP awB = (segZ, 0) := by kernel_rfl
theorem aw_may : segMayP [] [] [] [] false = true := by kernel_rfl
theorem aw_same : catchwordref08_Same.f 100 [] [] [] [] false [] [] [] [] false = some true := by kernel_rfl
theorem aw_bytes : catchwordref01_Bytes.f 100 awB awB = some true := by kernel_rfl
theorem aw_byt : byt awB := by
  intro x hx
  unfold awB at hx
  simp only [List.mem_cons, List.not_mem_nil, or_false] at hx
  omega
end Go.Proofs.Ytfhcolhiolgikaa.Plain
/- Plain facts for Pack: what is read is what was put, and the other way about: numbers, lists, blocks. -/
namespace Go.Proofs.Ytfhcolhiolgikaa.Plain
set_option linter.unusedVariables false
set_option linter.unusedSimpArgs false
open Go.RowKit Go.Proofs.Ytfhcolhiolgikaa.T Go.Proofs.YtfhcolhiolgikaaW.PrintWords Go.Proofs.YtfhcolhiolgikaaW.PrintLast Go.Proofs.YtfhcolhiolgikaaW.PrintMore
/-- A row lies in the bytes at a place. -/
def lies (b : List Int) (p : Nat) (l : List Int) : Prop := ∃ u v, b = u ++ (l ++ v) ∧ u.length = p
theorem lies_app {b l m : List Int} {p : Nat} : lies b p (l ++ m) ↔ lies b p l ∧ lies b (p + l.length) m := by
  constructor
  · rintro ⟨u, v, rfl, rfl⟩
    exact ⟨⟨u, m ++ v, by simp, rfl⟩, ⟨u ++ l, v, by simp, by simp⟩⟩
  · rintro ⟨⟨u, v, rfl, rfl⟩, u', v', h, hl⟩
    have h2 : (u ++ l) ++ v = u' ++ (m ++ v') := by rw [← h]; simp
    obtain ⟨e1, e2⟩ := List.append_inj h2 (by rw [hl, List.length_append])
    exact ⟨u, v', by rw [e2]; simp, rfl⟩
theorem lies_drop {b l : List Int} {p : Nat} (h : lies b p l) : ∃ v, b.drop p = l ++ v := by
  obtain ⟨u, v, rfl, rfl⟩ := h
  exact ⟨v, by simp⟩
theorem lies_le {b l : List Int} {p : Nat} (h : lies b p l) : p + l.length ≤ b.length := by
  obtain ⟨u, v, rfl, rfl⟩ := h
  simp only [List.length_append]; omega
theorem lies_mid {b : List Int} {p q : Nat} (h : p + q ≤ b.length) : lies b p ((b.take (p + q)).drop p) ∧ ((b.take (p + q)).drop p).length = q := by
  refine ⟨⟨b.take p, b.drop (p + q), ?_, by rw [List.length_take]; omega⟩, by rw [List.length_drop, List.length_take]; omega⟩
  have h1 : b.take p = (b.take (p + q)).take p := by rw [List.take_take, Nat.min_eq_left (by omega)]
  rw [h1, ← List.append_assoc, List.take_append_drop, List.take_append_drop]
theorem lies_eq {b l : List Int} {p : Nat} (h : lies b p l) : (b.take (p + l.length)).drop p = l := by
  obtain ⟨u, v, rfl, rfl⟩ := h
  rw [show u ++ (l ++ v) = (u ++ l) ++ v from by simp, List.take_append_of_le_length (by simp), List.take_of_length_le (by simp), List.drop_append]
  simp
theorem lies_full {b l : List Int} (h : lies b 0 l) (hl : l.length = b.length) : l = b := by
  have := lies_eq h
  rw [Nat.zero_add, hl, List.take_length, List.drop_zero] at this
  exact this.symm
theorem lies_nil {b : List Int} {p : Nat} (h : p ≤ b.length) : lies b p [] := ⟨b.take p, b.drop p, by simp, by rw [List.length_take]; omega⟩
theorem num_ok {b : List Int} (hb : byt b) {at_ : Int} {bad : Bool} (h : numB b at_ bad = false) : bad = false ∧ ∃ p m : Nat, at_ = p ∧ numV b at_ = m ∧ m < 34359738368 ∧ numA b at_ = ((p + (vput m).length : Nat) : Int) ∧ lies b p (vput m) := by
  unfold numB at h
  by_cases he : (getP b at_).2.2 = 0
  · rw [if_pos he] at h
    refine ⟨h, ?_⟩
    obtain ⟨_, p, m, e1, e2, e3, e4, e5, e6⟩ := get_ok hb (show getP b at_ = ((getP b at_).1, (getP b at_).2.1, 0) from by rw [← he])
    refine ⟨p, m, e1, e2, e3, ?_, ⟨b.take p, b.drop (p + (vput m).length), ?_, by rw [List.length_take]; omega⟩⟩
    · unfold numA; rw [if_pos he, e4]
    · rw [← e6, List.take_append_drop]
  · rw [if_neg he] at h; cases h
theorem num_put {b : List Int} {p m : Nat} (hm : m < 34359738368) (h : lies b p (vput m)) (bad : Bool) : numV b (p : Int) = m ∧ numA b (p : Int) = ((p + (vput m).length : Nat) : Int) ∧ numB b (p : Int) bad = bad := by
  obtain ⟨v, hv⟩ := lies_drop h
  have hg := get_put hm (by have := lies_le h; omega) hv
  unfold numV numA numB
  rw [hg]
  exact ⟨rfl, rfl, rfl⟩
/-! ### lists -/
theorem rising_mono {last en en' : Int} (he : en ≤ en') : ∀ {l : List Int}, risingP last en l = true → risingP last en' l = true := by
  intro l
  induction l generalizing last with
  | nil => intro _; rfl
  | cons a r ih =>
    intro h
    unfold risingP at h ⊢
    simp only [Bool.and_eq_true, decide_eq_true_eq] at h ⊢
    exact ⟨⟨h.1.1, by omega⟩, ih h.2⟩
theorem readL_ok {b : List Int} (hb : byt b) : ∀ (m p : Nat) (acc : List Int) (last : Int) (l : List Int) (nx : Int), -1 ≤ last → readL b m (p : Int) acc last = (l, nx, 0) → p ≤ b.length →
    ∃ r, l = acc ++ r ∧ r.length = m ∧ nx = ((p + (gaps last r).length : Nat) : Int) ∧ lies b p (gaps last r) ∧ risingP last 34359738368 r = true := by
  intro m
  induction m with
  | zero =>
    intro p acc last l nx h0 h hp
    unfold readL at h
    simp only [Prod.mk.injEq] at h
    exact ⟨[], by simp [h.1], rfl, by simp [gaps, h.2.1], lies_nil hp, rfl⟩
  | succ m ih =>
    intro p acc last l nx h0 h hp
    unfold readL at h
    by_cases he : (getP b (p : Int)).2.2 = 0
    · rw [if_pos he] at h
      obtain ⟨_, p', n, e1, e2, e3, e4, e5, e6⟩ := get_ok hb (show getP b (p : Int) = ((getP b (p : Int)).1, (getP b (p : Int)).2.1, 0) from by rw [← he])
      have hpp : p' = p := by omega
      subst hpp
      rw [e2, e4] at h
      by_cases hl : last + ((n : Int) + 1) ≤ 34359738367
      · rw [if_pos hl] at h
        obtain ⟨r, h1, h2, h3, h4, h5⟩ := ih (p' + (vput n).length) _ (last + ((n : Int) + 1)) l nx (by omega) h e5
        have hg : gaps last ((last + ((n : Int) + 1)) :: r) = vput n ++ gaps (last + ((n : Int) + 1)) r := by
          show vput (last + ((n : Int) + 1) - last - 1).toNat ++ _ = _
          rw [show (last + ((n : Int) + 1) - last - 1).toNat = n from by omega]
        refine ⟨(last + ((n : Int) + 1)) :: r, by rw [h1]; simp, by simp [h2], ?_, ?_, ?_⟩
        · rw [h3, hg, List.length_append, Nat.add_assoc]
        · rw [hg]
          refine lies_app.2 ⟨⟨b.take p', b.drop (p' + (vput n).length), by rw [← e6, List.take_append_drop], by rw [List.length_take]; omega⟩, h4⟩
        · unfold risingP
          rw [h5, decide_eq_true (by omega), decide_eq_true (by omega)]
          rfl
      · rw [if_neg hl] at h
        simp only [Prod.mk.injEq] at h
        exact absurd h.2.2 (by decide)
    · rw [if_neg he] at h
      simp only [Prod.mk.injEq] at h
      exact absurd h.2.2 (by decide)
theorem readL_put {b : List Int} : ∀ (r : List Int) (p : Nat) (acc : List Int) (last : Int), -1 ≤ last → risingP last 34359738368 r = true → lies b p (gaps last r) →
    readL b r.length (p : Int) acc last = (acc ++ r, ((p + (gaps last r).length : Nat) : Int), 0) := by
  intro r
  induction r with
  | nil => intro p acc last h0 hr h; simp [readL, gaps]
  | cons a r ih =>
    intro p acc last h0 hr h
    unfold risingP at hr
    simp only [Bool.and_eq_true, decide_eq_true_eq] at hr
    obtain ⟨⟨h1, h2⟩, h3⟩ := hr
    simp only [gaps] at h
    obtain ⟨h4, h5⟩ := lies_app.1 h
    have hn : (a - last - 1).toNat < 34359738368 := by omega
    obtain ⟨v, hv⟩ := lies_drop h4
    have hg := get_put hn (by have := lies_le h4; omega) hv
    have ha : last + (((a - last - 1).toNat : Int) + 1) = a := by omega
    simp only [List.length_cons, readL, hg, ha]
    rw [if_pos trivial, if_pos (by omega), ih _ _ a (by omega) h3 h5]
    simp only [gaps, List.length_append, List.append_assoc, List.singleton_append]
    rw [Nat.add_assoc]
theorem list_ok {b : List Int} (hb : byt b) {at_ : Int} {bad : Bool} (h : listB b at_ bad = false) : bad = false ∧ ∃ p : Nat, at_ = p ∧ listA b at_ = ((p + (riseP (listV b at_)).length : Nat) : Int) ∧ lies b p (riseP (listV b at_)) ∧ (listV b at_).length ≤ 2000 ∧ risingP (-1) 34359738368 (listV b at_) = true := by
  unfold listB at h
  by_cases he : (readP b at_).2.2 = 0
  · rw [if_pos he] at h
    refine ⟨h, ?_⟩
    have hA : listA b at_ = (readP b at_).2.1 := by unfold listA; rw [if_pos he]
    rw [hA]
    unfold listV
    unfold readP at he ⊢
    by_cases hg : (getP b at_).2.2 = 0
    · rw [if_pos hg] at he ⊢
      obtain ⟨_, p, n, e1, e2, e3, e4, e5, e6⟩ := get_ok hb (show getP b at_ = ((getP b at_).1, (getP b at_).2.1, 0) from by rw [← hg])
      rw [e2, e4] at he ⊢
      by_cases hn : (n : Int) > 2000
      · rw [if_pos hn] at he; exact absurd he (by decide)
      · rw [if_neg hn, Int.toNat_natCast] at he ⊢
        obtain ⟨r, h1, h2, h3, h4, h5⟩ := readL_ok hb n (p + (vput n).length) [] (-1) _ _ (by omega) (show readL b n (((p + (vput n).length : Nat)) : Int) [] (-1) = ((readL b n (((p + (vput n).length : Nat)) : Int) [] (-1)).1, (readL b n (((p + (vput n).length : Nat)) : Int) [] (-1)).2.1, 0) from by rw [← he]) e5
        rw [List.nil_append] at h1
        rw [h3, h1]
        have hr : riseP r = vput n ++ gaps (-1) r := by unfold riseP; rw [h2]
        refine ⟨p, e1, ?_, ?_, by omega, h5⟩
        · rw [hr, List.length_append, Nat.add_assoc]
        · rw [hr]
          exact lies_app.2 ⟨⟨b.take p, b.drop (p + (vput n).length), by rw [← e6, List.take_append_drop], by rw [List.length_take]; omega⟩, h4⟩
    · rw [if_neg hg] at he
      exact absurd he hg
  · rw [if_neg he] at h; cases h
theorem list_put {b l : List Int} {p : Nat} (hl : l.length ≤ 2000) (hr : risingP (-1) 34359738368 l = true) (h : lies b p (riseP l)) (bad : Bool) : listV b (p : Int) = l ∧ listA b (p : Int) = ((p + (riseP l).length : Nat) : Int) ∧ listB b (p : Int) bad = bad := by
  unfold riseP at h
  obtain ⟨h4, h5⟩ := lies_app.1 h
  obtain ⟨v, hv⟩ := lies_drop h4
  have hg := get_put (show l.length < 34359738368 by omega) (by have := lies_le h4; omega) hv
  have hrd : readP b (p : Int) = (l, ((p + (riseP l).length : Nat) : Int), 0) := by
    unfold readP
    rw [hg]
    simp only [if_pos]
    rw [if_neg (by omega), Int.toNat_natCast, readL_put l _ [] (-1) (by omega) hr h5, List.nil_append]
    unfold riseP
    rw [List.length_append, Nat.add_assoc]
  unfold listV listA listB
  rw [hrd]
  exact ⟨rfl, rfl, rfl⟩
end Go.Proofs.Ytfhcolhiolgikaa.Plain
/- Plain facts for Pack: postings that are read are those that were put, and the other way about. -/
namespace Go.Proofs.Ytfhcolhiolgikaa.Plain
set_option linter.unusedVariables false
set_option linter.unusedSimpArgs false
open Go.RowKit Go.Proofs.Ytfhcolhiolgikaa.T Go.Proofs.YtfhcolhiolgikaaW.PrintWords Go.Proofs.YtfhcolhiolgikaaW.PrintLast Go.Proofs.YtfhcolhiolgikaaW.PrintMore
def chain (ah : Int) : List S64 → Prop
  | [] => True
  | p :: r => (ah < p.f0 ∧ p.f0 - ah - 1 < 34359738368 ∧ p.f1.length ≤ 2000 ∧ risingP (-1) 34359738368 p.f1 = true) ∧ chain p.f0 r
theorem rdN_front (b : List Int) (s : RdS) (n : Nat) : rdN b s (n + 1) = rdN b (rdStep b s) n := by
  induction n with
  | zero => rfl
  | succ n ih =>
    show rdStep b (rdN b s (n + 1)) = rdStep b (rdN b (rdStep b s) n)
    rw [ih]
theorem numB_true (b : List Int) (at_ : Int) : numB b at_ true = true := by unfold numB; split <;> rfl
theorem listB_true (b : List Int) (at_ : Int) : listB b at_ true = true := by unfold listB; split <;> rfl
theorem rdN_bad (b : List Int) (n : Nat) : ∀ s : RdS, s.bd = true → (rdN b s n).bd = true := by
  induction n with
  | zero => intro s h; exact h
  | succ n ih =>
    intro s h
    rw [rdN_front]
    refine ih _ ?_
    show listB b (numA b s.pl) (numB b s.pl s.bd) = true
    rw [h, numB_true, listB_true]
theorem rd_ok {b : List Int} (hb : byt b) : ∀ (n p : Nat) (s : RdS), s.pl = (p : Int) → p ≤ b.length → -1 ≤ s.ah → s.ah + (n : Int) * 34359738368 ≤ 4611686018427387904 → (rdN b s n).bd = false →
    s.bd = false ∧ ∃ ps : List S64, ps.length = n ∧ (rdN b s n).out = s.out ++ ps ∧ (rdN b s n).ah = lastP s.ah ps ∧ (rdN b s n).pl = ((p + (bodyP s.ah ps).length : Nat) : Int) ∧ lies b p (bodyP s.ah ps) ∧ chain s.ah ps := by
  intro n
  induction n with
  | zero =>
    intro p s hp hle h0 h1 h
    exact ⟨h, [], rfl, by simp [rdN], rfl, by simp [rdN, bodyP, hp], lies_nil hle, trivial⟩
  | succ n ih =>
    intro p s hp hle h0 h1 h
    rw [rdN_front] at h ⊢
    have hsb : (rdStep b s).bd = false := by
      cases hc : (rdStep b s).bd with
      | false => rfl
      | true => rw [rdN_bad b n _ hc] at h; exact h
    have hsb' : listB b (numA b s.pl) (numB b s.pl s.bd) = false := hsb
    obtain ⟨hnb, q, e1, e2, e3, e4, e5⟩ := list_ok hb hsb'
    obtain ⟨hbd, p', m, f1, f2, f3, f4, f5⟩ := num_ok hb hnb
    have hpp : p' = p := by omega
    subst hpp
    have hq : q = p' + (vput m).length := by omega
    subst hq
    have hah : rdAh b s = s.ah + (1 + (m : Int)) := by
      unfold rdAh
      rw [f2, wid (n := 1 + (m : Int)) (by omega) (by omega), wid (by omega) (by omega)]
    have hst : rdStep b s = ⟨s.out ++ [⟨s.ah + (1 + (m : Int)), listV b (numA b s.pl)⟩], ((p' + (vput m).length + (riseP (listV b (numA b s.pl))).length : Nat) : Int), false, s.ah + (1 + (m : Int))⟩ := by
      unfold rdStep
      rw [hah, e2, hsb']
    rw [hst] at h ⊢
    generalize hL : listV b (numA b s.pl) = L at *
    have hle2 := lies_le e3
    obtain ⟨_, ps, g1, g2, g3, g4, g5, g6⟩ := ih (p' + (vput m).length + (riseP L).length) ⟨s.out ++ [⟨s.ah + (1 + (m : Int)), L⟩], _, false, s.ah + (1 + (m : Int))⟩ rfl (by omega) (by show -1 ≤ s.ah + (1 + (m : Int)); omega) (by show s.ah + (1 + (m : Int)) + (n : Int) * 34359738368 ≤ _; omega) h
    have hput : putP (s.ah + (1 + (m : Int)) - s.ah - 1) = vput m := by
      rw [show s.ah + (1 + (m : Int)) - s.ah - 1 = (m : Int) from by omega, putP_nat f3]
    have hbody : bodyP s.ah (⟨s.ah + (1 + (m : Int)), L⟩ :: ps) = vput m ++ riseP L ++ bodyP (s.ah + (1 + (m : Int))) ps := by
      simp only [bodyP, hput]
    refine ⟨hbd, ⟨s.ah + (1 + (m : Int)), L⟩ :: ps, by simp [g1], by rw [g2]; simp, g3, ?_, ?_, ?_⟩
    · rw [g4, hbody, List.length_append, List.length_append]
      simp only [Nat.add_assoc]
    · rw [hbody, List.append_assoc]
      refine lies_app.2 ⟨f5, lies_app.2 ⟨e3, g5⟩⟩
    · exact ⟨⟨by show s.ah < s.ah + (1 + (m : Int)); omega, by show s.ah + (1 + (m : Int)) - s.ah - 1 < 34359738368; omega, e4, e5⟩, g6⟩
theorem rd_put {b : List Int} : ∀ (ps : List S64) (p : Nat) (s : RdS), s.pl = (p : Int) → s.bd = false → -1 ≤ s.ah → s.ah + (ps.length : Int) * 34359738368 ≤ 4611686018427387904 → chain s.ah ps → lies b p (bodyP s.ah ps) →
    rdN b s ps.length = ⟨s.out ++ ps, ((p + (bodyP s.ah ps).length : Nat) : Int), false, lastP s.ah ps⟩ := by
  intro ps
  induction ps with
  | nil =>
    intro p s hp hb h0 h1 hc h
    show s = _
    cases s
    simp only at hp hb
    simp [bodyP, lastP, hp, hb]
  | cons q ps ih =>
    intro p s hp hbd h0 h1 hc h
    obtain ⟨⟨c1, c2, c3, c4⟩, c5⟩ := hc
    simp only [bodyP, List.append_assoc] at h
    have hput : putP (q.f0 - s.ah - 1) = vput (q.f0 - s.ah - 1).toNat := by rw [putP_def, if_pos (by omega)]
    rw [hput] at h
    obtain ⟨h2, h3⟩ := lies_app.1 h
    obtain ⟨h4, h5⟩ := lies_app.1 h3
    have hm : (q.f0 - s.ah - 1).toNat < 34359738368 := by omega
    obtain ⟨n1, n2, n3⟩ := num_put hm h2 s.bd
    obtain ⟨l1, l2, l3⟩ := list_put c3 c4 h4 (numB b s.pl s.bd)
    have hst : rdStep b s = ⟨s.out ++ [q], ((p + (vput (q.f0 - s.ah - 1).toNat).length + (riseP q.f1).length : Nat) : Int), false, q.f0⟩ := by
      unfold rdStep rdAh
      rw [hp, n1, n2, l1, l2]
      rw [← hp, l3, hp, n3, hbd, wid (n := 1 + (((q.f0 - s.ah - 1).toNat : Nat) : Int)) (by omega) (by omega), wid (by simp only [List.length_cons] at h1; omega) (by simp only [List.length_cons] at h1; omega)]
      have : s.ah + (1 + (((q.f0 - s.ah - 1).toNat : Nat) : Int)) = q.f0 := by omega
      rw [this]
    rw [List.length_cons, rdN_front, hst]
    have hq : (q.f0 : Int) + (ps.length : Int) * 34359738368 ≤ 4611686018427387904 := by simp only [List.length_cons] at h1; omega
    rw [ih (p + (vput (q.f0 - s.ah - 1).toNat).length + (riseP q.f1).length) ⟨s.out ++ [q], _, false, q.f0⟩ rfl rfl (by show -1 ≤ q.f0; omega) hq c5 h5]
    simp only [bodyP, lastP, hput, List.length_append, List.append_assoc, List.singleton_append, Nat.add_assoc]
/-! ### blocks -/
theorem bk_ok {b : List Int} (hb : byt b) {at_ : Int} {bad : Bool} (h : bkOk b at_ bad = true) : bad = false ∧ ∃ p last : Nat, at_ = p ∧ bkL b at_ bad = last ∧ last < 34359738368 ∧ (bkB b at_ bad).length < 34359738368 ∧
    lies b p (vput last ++ (vput (bkB b at_ bad).length ++ bkB b at_ bad)) ∧ bkA2 b at_ bad = ((p + (vput last ++ (vput (bkB b at_ bad).length ++ bkB b at_ bad)).length : Nat) : Int) := by
  have h' := h
  unfold bkOk bkBad at h
  simp only [Bool.and_eq_true, Bool.not_eq_true', decide_eq_true_eq] at h
  obtain ⟨h1, h2⟩ := h
  obtain ⟨hb1, q, n, e1, e2, e3, e4, e5⟩ := num_ok hb h1
  obtain ⟨hb2, p, m, f1, f2, f3, f4, f5⟩ := num_ok hb hb1
  have hq : q = p + (vput m).length := by omega
  subst hq
  have hN : bkN b at_ = (n : Int) := e2
  have hA : bkA b at_ = ((p + (vput m).length + (vput n).length : Nat) : Int) := e4
  rw [hN, hA] at h2
  have hle : p + (vput m).length + (vput n).length + n ≤ b.length := by have := lies_le e5; omega
  have hB : bkB b at_ bad = (b.take (p + (vput m).length + (vput n).length + n)).drop (p + (vput m).length + (vput n).length) := by
    unfold bkB
    rw [if_pos h', hN, hA, Int.toNat_natCast, show (((p + (vput m).length + (vput n).length : Nat) : Int) + (n : Int)).toNat = p + (vput m).length + (vput n).length + n from by omega]
  obtain ⟨m1, m2⟩ := lies_mid hle
  rw [← hB] at m1 m2
  refine ⟨hb2, p, m, f1, by unfold bkL; rw [if_pos h', f2], f3, by omega, ?_, ?_⟩
  · rw [m2]
    exact lies_app.2 ⟨f5, lies_app.2 ⟨e5, m1⟩⟩
  · unfold bkA2
    rw [if_pos h', hA, hN]
    simp only [List.length_append, m2]
    omega
theorem bk_put {b x : List Int} {p last : Nat} (hl : last < 34359738368) (hx : x.length < 34359738368) (h : lies b p (vput last ++ (vput x.length ++ x))) :
    bkOk b (p : Int) false = true ∧ bkB b (p : Int) false = x ∧ bkL b (p : Int) false = last ∧ bkA2 b (p : Int) false = ((p + (vput last ++ (vput x.length ++ x)).length : Nat) : Int) := by
  obtain ⟨h1, h2⟩ := lies_app.1 h
  obtain ⟨h3, h4⟩ := lies_app.1 h2
  obtain ⟨n1, n2, n3⟩ := num_put hl h1 false
  obtain ⟨m1, m2, m3⟩ := num_put hx h3 false
  have hN : bkN b (p : Int) = (x.length : Int) := by unfold bkN; rw [n2, m1]
  have hA : bkA b (p : Int) = ((p + (vput last).length + (vput x.length).length : Nat) : Int) := by unfold bkA; rw [n2, m2]
  have hle := lies_le h4
  have hok : bkOk b (p : Int) false = true := by
    unfold bkOk bkBad
    rw [n3, n2, m3, hN, hA, decide_eq_true (by omega)]
    rfl
  refine ⟨hok, ?_, by unfold bkL; rw [if_pos hok, n1], ?_⟩
  · unfold bkB
    rw [if_pos hok, hN, hA, Int.toNat_natCast, show (((p + (vput last).length + (vput x.length).length : Nat) : Int) + (x.length : Int)).toNat = p + (vput last).length + (vput x.length).length + x.length from by omega]
    exact lies_eq h4
  · unfold bkA2
    rw [if_pos hok, hA, hN]
    simp only [List.length_append]
    omega
end Go.Proofs.Ytfhcolhiolgikaa.Plain
/- Plain facts for Pack: rows of postings, unpacked and packed. -/
namespace Go.Proofs.Ytfhcolhiolgikaa.Plain
set_option linter.unusedVariables false
set_option linter.unusedSimpArgs false
open Go.RowKit Go.Proofs.Ytfhcolhiolgikaa.T Go.Proofs.YtfhcolhiolgikaaW.PrintWords Go.Proofs.YtfhcolhiolgikaaW.PrintLast Go.Proofs.YtfhcolhiolgikaaW.PrintMore
/-- Blocks of four, one behind the other. -/
def chW : Nat → Int → List S64 → List Int
  | 0, _, _ => []
  | k + 1, ah, l => if l.length = 0 then [] else blockP ah (l.take 4) ++ chW k (lastP ah (l.take 4)) (l.drop 4)
theorem chW_more (k : Nat) : ∀ (k' : Nat) (ah : Int) (l : List S64), l.length ≤ k → l.length ≤ k' → chW k ah l = chW k' ah l := by
  induction k with
  | zero =>
    intro k' ah l h h'
    have hl : l.length = 0 := by omega
    cases k' with
    | zero => rfl
    | succ k' => simp [chW, hl]
  | succ k ih =>
    intro k' ah l h h'
    by_cases hl : l.length = 0
    · cases k' with
      | zero => simp [chW, hl]
      | succ k' => simp [chW, hl]
    · cases k' with
      | zero => omega
      | succ k' =>
        simp only [chW, if_neg hl]
        rw [ih k' _ (l.drop 4) (by rw [List.length_drop]; omega) (by rw [List.length_drop]; omega)]
theorem chW_chunks (l : List S64) : ∀ (m j : Nat) (ah : Int), (m = 0 → l.length ≤ 4 * j) → (m ≠ 0 → (l.length + 3) / 4 = j + m) → chunksP l ah (List.range' j m) = chW l.length ah (l.drop (4 * j)) := by
  intro m
  induction m with
  | zero =>
    intro j ah h _
    rw [List.drop_eq_nil_of_le (h rfl)]
    cases l.length <;> simp [chunksP, chW, List.range']
  | succ m ih =>
    intro j ah _ h
    have h1 := h (by omega)
    have hlt : 4 * j < l.length := by omega
    show chunksP l ah (j :: List.range' (j + 1) m) = _
    simp only [chunksP]
    rw [ih (j + 1) _ (by intro hm; omega) (by intro hm; omega)]
    obtain ⟨k, hk⟩ : ∃ k, l.length = k + 1 := ⟨l.length - 1, by omega⟩
    rw [hk]
    have e : chW (k + 1) ah (l.drop (4 * j)) = blockP ah ((l.drop (4 * j)).take 4) ++ chW k (lastP ah ((l.drop (4 * j)).take 4)) ((l.drop (4 * j)).drop 4) := by
      simp only [chW]
      rw [if_neg (by rw [List.length_drop]; omega)]
    rw [e, List.drop_drop]
    show blockP ah (chunkL l j) ++ _ = blockP ah (chunkL l j) ++ _
    congr 1
    rw [show 4 * j + 4 = 4 * (j + 1) from by omega]
    exact chW_more _ _ _ _ (by rw [List.length_drop]; omega) (by rw [List.length_drop]; omega)
theorem postPack_chW (l : List S64) : postPackP l = putP (l.length : Int) ++ chW l.length (-1) l := by
  unfold postPackP
  rw [List.range_eq_range']
  have h := chW_chunks l (nBlocks l) 0 (-1) (by unfold nBlocks; intro h; omega) (by unfold nBlocks; intro h; omega)
  rw [h]
  rfl
theorem upGo_bad {b : List Int} {n : Int} {s : UpS} (k : Nat) (h : s.bd = true) : upGo b n k s = s := upGo_stop k (by unfold upMore; rw [h]; rfl)
theorem chain_app {ah : Int} {a b : List S64} : chain ah (a ++ b) ↔ chain ah a ∧ chain (lastP ah a) b := by
  induction a generalizing ah with
  | nil => simp [chain, lastP]
  | cons p r ih =>
    simp only [List.cons_append, chain, lastP, ih]
    exact ⟨fun h => ⟨⟨h.1, h.2.1⟩, h.2.2⟩, fun h => ⟨h.1.1, h.1.2, h.2⟩⟩
theorem up_ok {b : List Int} (hb : byt b) (N : Nat) (hN : N ≤ 64) : ∀ (k p : Nat) (s : UpS), s.pl = (p : Int) → p ≤ b.length → -1 ≤ s.ah → s.ah < 34359738368 → s.out.length ≤ N → (upGo b (N : Int) k s).bd = false → (upGo b (N : Int) k s).out.length = N →
    ∃ l2 : List S64, (upGo b (N : Int) k s).out = s.out ++ l2 ∧ lies b p (chW l2.length s.ah l2) ∧ (upGo b (N : Int) k s).pl = ((p + (chW l2.length s.ah l2).length : Nat) : Int) ∧ chain s.ah l2 := by
  intro k
  induction k with
  | zero =>
    intro p s hp hle h0 h1 hlen hbd hout
    exact ⟨[], by simp [upGo], lies_nil hle, by simp [upGo, chW, hp], trivial⟩
  | succ k ih =>
    intro p s hp hle h0 h1 hlen hbd hout
    by_cases hm : upMore (N : Int) s = true
    · rw [upGo_more k hm] at hbd hout ⊢
      have hm' := hm
      unfold upMore at hm'
      simp only [Bool.and_eq_true, Bool.not_eq_true', decide_eq_true_eq] at hm'
      obtain ⟨⟨hsb, _⟩, hlt⟩ := hm'
      have hlt' : s.out.length < N := by omega
      have hst : (upStep b (N : Int) s).bd = false := by
        cases hc : (upStep b (N : Int) s).bd with
        | false => rfl
        | true => rw [upGo_bad k hc, hc] at hbd; exact absurd hbd (by decide)
      have hst' : (!bkOk b s.pl s.bd || rdBad (bkB b s.pl s.bd) (upRd b (N : Int) s) (bkL b s.pl s.bd)) = false := hst
      simp only [Bool.or_eq_false_iff, Bool.not_eq_false'] at hst'
      obtain ⟨hok, hrd⟩ := hst'
      obtain ⟨_, p', last, e1, e2, e3, e4, e5, e6⟩ := bk_ok hb hok
      have hpp : p' = p := by omega
      subst hpp
      unfold rdBad rdEnd at hrd
      simp only [Bool.or_eq_false_iff, Bool.not_eq_false', Bool.and_eq_true, Bool.not_eq_true', beq_iff_eq, bne_eq_false_iff_eq] at hrd
      obtain ⟨⟨r1, r2⟩, r3⟩ := hrd
      have hmany : upMany (N : Int) s.out.length = min 4 (N - s.out.length) := by unfold upMany; rw [Int.toNat_natCast]
      have hm4 : upMany (N : Int) s.out.length ≤ 4 := by rw [hmany]; exact Nat.min_le_left _ _
      obtain ⟨_, ps, g1, g2, g3, g4, g5, g6⟩ := rd_ok (bkB_byt hb s.pl s.bd) (upMany (N : Int) s.out.length) 0 ⟨[], 0, false, s.ah⟩ rfl (Nat.zero_le _) h0 (by show s.ah + _ ≤ _; omega) r1
      have hbody : bodyP s.ah ps = bkB b s.pl s.bd := by
        refine lies_full g5 ?_
        have h := g4.symm.trans r2
        simp only [Nat.zero_add] at h
        exact Int.ofNat.inj h
      have hout2 : (upStep b (N : Int) s).out = s.out ++ ps := by
        show s.out ++ (upRd b (N : Int) s).out = _
        unfold upRd
        rw [g2]
        rfl
      have hlast : (last : Int) = lastP s.ah ps := by rw [← e2, ← r3]; exact g3
      have hlen2 : (upStep b (N : Int) s).out.length ≤ N := by rw [hout2, List.length_append, g1, hmany]; omega
      have hah : (upStep b (N : Int) s).ah = (last : Int) := e2
      have hle3 := lies_le e5
      obtain ⟨l2, f1, f2, f3, f4⟩ := ih (p' + (vput last ++ (vput (bkB b s.pl s.bd).length ++ bkB b s.pl s.bd)).length) (upStep b (N : Int) s) e6 hle3 (by rw [hah]; omega) (by rw [hah]; omega) hlen2 hbd hout
      have hl2 : ps.length = 4 ∨ l2.length = 0 := by
        have h := congrArg List.length f1
        rw [hout, hout2, List.length_append, List.length_append] at h
        rw [g1, hmany] at h ⊢
        omega
      have hps0 : 0 < ps.length := by rw [g1, hmany]; omega
      have hps4 : ps.length ≤ 4 := by rw [g1]; exact hm4
      have htake : (ps ++ l2).take 4 = ps := by
        rcases hl2 with h | h
        · rw [List.take_append_of_le_length (by omega), List.take_of_length_le (by omega)]
        · rw [List.eq_nil_of_length_eq_zero h, List.append_nil, List.take_of_length_le hps4]
      have hdrop : (ps ++ l2).drop 4 = l2 := by
        rcases hl2 with h | h
        · rw [← h, List.drop_left]
        · rw [List.eq_nil_of_length_eq_zero h, List.append_nil, List.drop_eq_nil_of_le hps4]
      have hblk : blockP s.ah ps = vput last ++ (vput (bkB b s.pl s.bd).length ++ bkB b s.pl s.bd) := by
        unfold blockP
        rw [hbody, ← hlast, putP_nat e3, putP_nat e4, List.append_assoc]
      have hch : chW (ps ++ l2).length s.ah (ps ++ l2) = blockP s.ah ps ++ chW l2.length (lastP s.ah ps) l2 := by
        obtain ⟨q, hq⟩ : ∃ q, (ps ++ l2).length = q + 1 := ⟨(ps ++ l2).length - 1, by rw [List.length_append]; omega⟩
        rw [hq]
        simp only [chW]
        rw [if_neg (by omega), htake, hdrop]
        congr 1
        refine chW_more _ _ _ _ ?_ (Nat.le_refl _)
        rw [List.length_append] at hq
        omega
      rw [hah, hlast] at f2 f3 f4
      refine ⟨ps ++ l2, by rw [f1, hout2, List.append_assoc], ?_, ?_, ?_⟩
      · rw [hch, hblk]
        exact lies_app.2 ⟨e5, f2⟩
      · rw [f3, hch, hblk]
        simp only [List.length_append, Nat.add_assoc]
      · exact chain_app.2 ⟨g6, f4⟩
    · have hm' : upMore (N : Int) s = false := by simpa using hm
      rw [upGo_stop _ hm'] at hbd hout ⊢
      exact ⟨[], by simp, lies_nil hle, by simp [chW, hp], trivial⟩
theorem up_put {b : List Int} (N : Nat) (hN : N ≤ 64) : ∀ (k p : Nat) (s : UpS) (l2 : List S64), s.pl = (p : Int) → s.bd = false → -1 ≤ s.ah → s.ah < 64 → s.out.length + l2.length = N → l2.length ≤ k → (∀ q ∈ l2, 0 ≤ q.f0 ∧ q.f0 < 64) → (∀ q ∈ l2, q.f1.length ≤ 120 ∧ risingP (-1) 120 q.f1 = true) → chain s.ah l2 → lies b p (chW l2.length s.ah l2) →
    (upGo b (N : Int) k s).out = s.out ++ l2 ∧ (upGo b (N : Int) k s).pl = ((p + (chW l2.length s.ah l2).length : Nat) : Int) ∧ (upGo b (N : Int) k s).bd = false := by
  intro k
  induction k with
  | zero =>
    intro p s l2 hp hb h0 h1 hlen hk hr hv hc h
    have : l2 = [] := List.eq_nil_of_length_eq_zero (by omega)
    subst this
    simp [upGo, chW, hp, hb]
  | succ k ih =>
    intro p s l2 hp hbd h0 h1 hlen hk hr hv hc h
    by_cases hl : l2.length = 0
    · have : l2 = [] := List.eq_nil_of_length_eq_zero hl
      subst this
      have hm : upMore (N : Int) s = false := by
        unfold upMore
        simp only [List.length_nil, Nat.add_zero] at hlen
        rw [hbd, hlen, decide_eq_false (show ¬ ((N : Int) < (N : Int)) from Int.lt_irrefl _)]
        simp
      rw [upGo_stop _ hm]
      simp [chW, hp, hbd]
    · have hm : upMore (N : Int) s = true := by
        unfold upMore
        rw [hbd, decide_eq_true (show (N : Int) ≤ 64 by omega), decide_eq_true (show ((s.out.length : Int) < (N : Int)) by omega)]
        rfl
      rw [upGo_more k hm]
      obtain ⟨q, hq⟩ : ∃ q, l2.length = q + 1 := ⟨l2.length - 1, by omega⟩
      have hch : chW l2.length s.ah l2 = blockP s.ah (l2.take 4) ++ chW (l2.drop 4).length (lastP s.ah (l2.take 4)) (l2.drop 4) := by
        rw [hq]
        simp only [chW]
        rw [if_neg hl]
        congr 1
        exact chW_more _ _ _ _ (by rw [List.length_drop]; omega) (Nat.le_refl _)
      rw [hch] at h ⊢
      obtain ⟨h2, h3⟩ := lies_app.1 h
      have hsplit : l2.take 4 ++ l2.drop 4 = l2 := List.take_append_drop 4 l2
      have hc2 : chain s.ah (l2.take 4) ∧ chain (lastP s.ah (l2.take 4)) (l2.drop 4) := chain_app.1 (by rw [hsplit]; exact hc)
      have hr1 : ∀ q ∈ l2.take 4, 0 ≤ q.f0 ∧ q.f0 < 64 := fun q hq => hr q (List.mem_of_mem_take hq)
      have htl : (l2.take 4).length = min 4 l2.length := List.length_take
      have hlr : 0 ≤ lastP s.ah (l2.take 4) ∧ lastP s.ah (l2.take 4) < 64 := by
        match hx : l2.take 4, htl, hr1 with
        | [], htl, _ => simp only [List.length_nil] at htl; omega
        | a :: r, _, hr1 =>
          have : ∀ (r : List S64) (a : S64), (0 ≤ a.f0 ∧ a.f0 < 64) → (∀ q ∈ r, 0 ≤ q.f0 ∧ q.f0 < 64) → 0 ≤ lastP a.f0 r ∧ lastP a.f0 r < 64 := by
            intro r
            induction r with
            | nil => intro a h _; exact h
            | cons x r ih => intro a _ h; exact ih x (h x (by simp)) (fun q hq => h q (by simp [hq]))
          exact this r a (hr1 a (by simp)) (fun q hq => hr1 q (by simp [hq]))
      obtain ⟨last, hlast⟩ := Int.eq_ofNat_of_zero_le hlr.1
      have hbl := body_len (l2.take 4) s.ah (fun q hq => hv q (List.mem_of_mem_take hq))
      have hb35 : (bodyP s.ah (l2.take 4)).length < 34359738368 := by omega
      have hblk : blockP s.ah (l2.take 4) = vput last ++ (vput (bodyP s.ah (l2.take 4)).length ++ bodyP s.ah (l2.take 4)) := by
        unfold blockP
        rw [hlast, putP_nat (by omega), putP_nat hb35, List.append_assoc]
      rw [hblk] at h2 h3
      obtain ⟨b1, b2, b3, b4⟩ := bk_put (by omega) hb35 h2
      rw [← hp, ← hbd] at b1 b2 b3 b4
      have hmany : upMany (N : Int) s.out.length = (l2.take 4).length := by unfold upMany; rw [Int.toNat_natCast, htl]; omega
      have hrdN : upRd b (N : Int) s = ⟨l2.take 4, ((0 + (bodyP s.ah (l2.take 4)).length : Nat) : Int), false, lastP s.ah (l2.take 4)⟩ := by
        unfold upRd
        rw [b2, hmany, rd_put (l2.take 4) 0 ⟨[], 0, false, s.ah⟩ rfl rfl h0 (by show s.ah + _ ≤ _; omega) hc2.1 ⟨[], [], by simp, rfl⟩]
        rfl
      have hst : upStep b (N : Int) s = ⟨s.out ++ l2.take 4, ((p + (vput last ++ (vput (bodyP s.ah (l2.take 4)).length ++ bodyP s.ah (l2.take 4))).length : Nat) : Int), false, lastP s.ah (l2.take 4)⟩ := by
        unfold upStep
        rw [hrdN, b1, b2, b3, b4, ← hlast]
        unfold rdBad rdEnd
        simp
      rw [hst]
      have hd : (l2.drop 4).length = l2.length - 4 := List.length_drop
      obtain ⟨i1, i2, i3⟩ := ih (p + (vput last ++ (vput (bodyP s.ah (l2.take 4)).length ++ bodyP s.ah (l2.take 4))).length) ⟨s.out ++ l2.take 4, _, false, lastP s.ah (l2.take 4)⟩ (l2.drop 4) rfl rfl (by show -1 ≤ lastP s.ah (l2.take 4); omega) hlr.2 (by show (s.out ++ l2.take 4).length + _ = N; rw [List.length_append]; omega) (by omega) (fun q hq => hr q (List.mem_of_mem_drop hq)) (fun q hq => hv q (List.mem_of_mem_drop hq)) hc2.2 h3
      refine ⟨?_, ?_, i3⟩
      · rw [i1]
        show s.out ++ l2.take 4 ++ l2.drop 4 = _
        rw [List.append_assoc, hsplit]
      · rw [i2, hblk]
        simp only [List.length_append, Nat.add_assoc]
/-! ### the laws -/
theorem unpack_pack {b : List Int} (hb : byt b) (h : unpackOk b = true) : postMayP (unpackP b) = true ∧ b = postPackP (unpackP b) := by
  have hP : unpackP b = (upEnd b).out := if_pos h
  rw [hP]
  unfold unpackOk at h
  simp only [Bool.and_eq_true, Bool.not_eq_true', beq_iff_eq, decide_eq_true_eq] at h
  obtain ⟨⟨⟨h1, h2⟩, h3⟩, h4⟩ := h
  refine ⟨h4, ?_⟩
  have hlen := (postMay_post h4).1
  have hE : upEnd b = upGo b (numV b 0) 65 ⟨[], numA b 0, numB b 0 false, -1⟩ := rfl
  obtain ⟨N, hN⟩ := Int.eq_ofNat_of_zero_le (numV_range b 0 hb).1
  have hN' : (upEnd b).out.length = N := by omega
  have hnb : numB b 0 false = false := by
    cases hc : numB b 0 false with
    | false => rfl
    | true =>
      rw [hE, upGo_bad _ (by exact hc)] at h1
      rw [hc] at h1; exact absurd (show true = false from h1) (by decide)
  obtain ⟨_, p, m, e1, e2, e3, e4, e5⟩ := num_ok hb hnb
  have hp0 : p = 0 := by omega
  subst hp0
  have hm : m = N := by omega
  subst hm
  rw [hN, hnb] at hE
  rw [hE] at h1 h2 hN' hlen h4 ⊢
  have hle := lies_le e5
  obtain ⟨l2, f1, f2, f3, f4⟩ := up_ok hb m (by omega) 65 (0 + (vput m).length) ⟨[], numA b 0, false, -1⟩ e4 hle (show (-1 : Int) ≤ -1 by decide) (show (-1 : Int) < 34359738368 by decide) (Nat.zero_le _) h1 hN'
  rw [List.nil_append] at f1
  rw [f1] at hN' ⊢
  rw [postPack_chW, hN', putP_nat e3]
  rw [hN'] at f2 f3
  refine (lies_full (lies_app.2 ⟨e5, f2⟩) ?_).symm
  rw [List.length_append]
  have := f3.symm.trans h2
  simp only [Nat.zero_add] at this
  exact Int.ofNat.inj this
theorem chain_of {l : List S64} : ∀ {ah : Int}, -1 ≤ ah → risingP ah 64 (l.map (·.f0)) = true → (∀ p ∈ l, p.f1.length ≤ 120 ∧ risingP (-1) 120 p.f1 = true) → chain ah l := by
  induction l with
  | nil => intro ah _ _ _; trivial
  | cons p r ih =>
    intro ah h0 h hv
    simp only [List.map_cons, risingP, Bool.and_eq_true, decide_eq_true_eq] at h
    obtain ⟨⟨h1, h2⟩, h3⟩ := h
    have hp := hv p (by simp)
    exact ⟨⟨h1, by omega, by omega, rising_mono (by decide) hp.2⟩, ih (by omega) h3 (fun q hq => hv q (by simp [hq]))⟩
theorem pack_unpack {l : List S64} (h : postMayP l = true) : unpackOk (postPackP l) = true ∧ unpackP (postPackP l) = l := by
  have hlen := (postMay_post h).1
  have hok := postOk_of h
  have hr : risingP (-1) 64 (l.map (·.f0)) = true := by
    unfold postMayP at h
    simp only [Bool.and_eq_true] at h
    exact h.2
  have hc := chain_of (by decide) hr (fun p hp => (hok p hp).2)
  have hb : postPackP l = vput l.length ++ chW l.length (-1) l := by rw [postPack_chW, putP_nat (by omega)]
  have hl1 : lies (postPackP l) 0 (vput l.length ++ chW l.length (-1) l) := ⟨[], [], by rw [hb]; simp, rfl⟩
  obtain ⟨h1, h2⟩ := lies_app.1 hl1
  obtain ⟨n1, n2, n3⟩ := num_put (show l.length < 34359738368 by omega) h1 false
  have hE : upEnd (postPackP l) = upGo (postPackP l) (l.length : Int) 65 ⟨[], ((0 + (vput l.length).length : Nat) : Int), false, -1⟩ := by
    unfold upEnd
    have n1' : numV (postPackP l) 0 = (l.length : Int) := n1
    have n2' : numA (postPackP l) 0 = ((0 + (vput l.length).length : Nat) : Int) := n2
    have n3' : numB (postPackP l) 0 false = false := n3
    rw [n1', n2', n3']
  obtain ⟨i1, i2, i3⟩ := up_put l.length hlen 65 (0 + (vput l.length).length) ⟨[], ((0 + (vput l.length).length : Nat) : Int), false, -1⟩ l rfl rfl (show (-1 : Int) ≤ -1 by decide) (show (-1 : Int) < 64 by decide) (by simp) (by omega) (fun q hq => (hok q hq).1) (fun q hq => (hok q hq).2) hc h2
  rw [← hE, List.nil_append] at i1
  rw [← hE] at i2 i3
  have hU : unpackOk (postPackP l) = true := by
    unfold unpackOk
    have n1' : numV (postPackP l) 0 = (l.length : Int) := n1
    rw [i1, i2, i3, h, n1', hb]
    simp
  exact ⟨hU, (if_pos hU).trans i1⟩
end Go.Proofs.Ytfhcolhiolgikaa.Plain
/- Plain facts for Pack: words, unpacked and packed. -/
namespace Go.Proofs.Ytfhcolhiolgikaa.Plain
set_option linter.unusedVariables false
set_option linter.unusedSimpArgs false
open Go.RowKit Go.Proofs.Ytfhcolhiolgikaa.T Go.Proofs.YtfhcolhiolgikaaW.PrintWords Go.Proofs.YtfhcolhiolgikaaW.PrintLast Go.Proofs.YtfhcolhiolgikaaW.PrintMore
theorem bytesOf_app (a b : ByteArray) : bytesOf (a ++ b) = bytesOf a ++ bytesOf b := by
  unfold bytesOf
  rw [ByteArray.data_append, Array.toList_append, List.map_append]
theorem bytesOf_front (t : ByteArray) (n : Nat) : bytesOf (t.extract 0 n) = (bytesOf t).take n := by
  unfold bytesOf
  rw [ByteArray.data_extract, Array.toList_extract, List.extract_eq_take_drop]
  simp [List.map_take]
theorem bytesOf_str {l : List Int} (h : byt l) : bytesOf (strOfNums l) = l := by
  unfold bytesOf
  rw [strOfNums_data, List.map_map]
  induction l with
  | nil => rfl
  | cons a r ih =>
    obtain ⟨h1, h2⟩ := byt_cons.1 h
    rw [List.map_cons, ih h2]
    congr 1
    show ((UInt8.ofNat a.toNat).toNat : Int) = a
    rw [UInt8.toNat_ofNat']
    omega
theorem bytesOf_inj {a b : ByteArray} (h : bytesOf a = bytesOf b) : a = b := by
  have h1 : a.data.toList = b.data.toList := by
    unfold bytesOf at h
    exact (List.map_inj_right (fun x y e => by
      have : x.toNat = y.toNat := Int.ofNat.inj e
      exact UInt8.toNat_inj.1 this)).1 h
  cases a; cases b
  simp only at h1
  rw [Array.toList_inj] at h1
  rw [h1]
theorem bytesOf_byt (t : ByteArray) : byt (bytesOf t) := by
  intro x hx
  unfold bytesOf at hx
  obtain ⟨y, _, rfl⟩ := List.mem_map.1 hx
  have := y.toNat_lt
  omega
theorem str_bytesOf (t : ByteArray) : strOfNums (bytesOf t) = t := bytesOf_inj (bytesOf_str (bytesOf_byt t))
theorem lcp_take (a b : List Int) : a.take (lcp a b) = b.take (lcp a b) := by
  induction a generalizing b with
  | nil => simp [lcp]
  | cons x a ih =>
    cases b with
    | nil => simp [lcp]
    | cons y b =>
      unfold lcp
      split
      · rename_i h
        simp [h, ih b]
      · rfl
/-- A word, put behind one. -/
def wenc (ah t : ByteArray) : List Int := vput (sharedP ah t) ++ (vput (t.size - sharedP ah t) ++ (bytesOf t).drop (sharedP ah t))
theorem sharedP_le (a b : ByteArray) : sharedP a b ≤ a.size ∧ sharedP a b ≤ b.size := by
  have := lcp_le (bytesOf a) (bytesOf b)
  rw [bytesOf_length, bytesOf_length] at this
  exact this
theorem wenc_pos (ah t : ByteArray) : 0 < (wenc ah t).length := by
  unfold wenc
  have := vput_pos (sharedP ah t)
  simp only [List.length_append]
  omega
theorem word_ok {b : List Int} (hb : byt b) {at_ : Int} {ah : ByteArray} (h : (wordP b at_ ah).2 ≠ 0) : ∃ p : Nat, at_ = p ∧ lies b p (wenc ah (wordP b at_ ah).1) ∧ (wordP b at_ ah).2 = ((p + (wenc ah (wordP b at_ ah).1).length : Nat) : Int) := by
  unfold wordP at h ⊢
  by_cases h1 : (getP b at_).2.2 = 0 ∧ (getP b at_).1 ≤ (ah.size : Int)
  · rw [if_pos h1] at h ⊢
    obtain ⟨_, p, m, e1, e2, e3, e4, e5, e6⟩ := get_ok hb (show getP b at_ = ((getP b at_).1, (getP b at_).2.1, 0) from by rw [← h1.1])
    have h1' := h1.2
    rw [e4, e2] at h ⊢
    rw [e2] at h1'
    by_cases h2 : (getP b ((p + (vput m).length : Nat) : Int)).2.2 = 0 ∧ (getP b ((p + (vput m).length : Nat) : Int)).1 ≤ (b.length : Int) - (getP b ((p + (vput m).length : Nat) : Int)).2.1
    · rw [if_pos h2] at h ⊢
      obtain ⟨_, p2, n, f1, f2, f3, f4, f5, f6⟩ := get_ok hb (show getP b ((p + (vput m).length : Nat) : Int) = ((getP b ((p + (vput m).length : Nat) : Int)).1, (getP b ((p + (vput m).length : Nat) : Int)).2.1, 0) from by rw [← h2.1])
      have hp2 : p2 = p + (vput m).length := by omega
      subst hp2
      have h2' := h2.2
      rw [f4, f2] at h ⊢
      rw [f4, f2] at h2'
      have hle : p + (vput m).length + (vput n).length + n ≤ b.length := by omega
      rw [show (((p + (vput m).length + (vput n).length : Nat) : Int) + (n : Int)).toNat = p + (vput m).length + (vput n).length + n from by omega, Int.toNat_natCast, Int.toNat_natCast] at h ⊢
      obtain ⟨m1, m2⟩ := lies_mid hle
      generalize hrest : (b.take (p + (vput m).length + (vput n).length + n)).drop (p + (vput m).length + (vput n).length) = rest at h m1 m2 ⊢
      have hbr : byt rest := by rw [← hrest]; exact byt_sub hb _ _
      by_cases h3 : ((sharedP ah (ah.extract 0 m ++ strOfNums rest) : Nat) : Int) = (m : Int)
      · rw [if_pos h3] at h ⊢
        have hm : sharedP ah (ah.extract 0 m ++ strOfNums rest) = m := Int.ofNat.inj h3
        have hbw : bytesOf (ah.extract 0 m ++ strOfNums rest) = (bytesOf ah).take m ++ rest := by rw [bytesOf_app, bytesOf_front, bytesOf_str hbr]
        have hmle : m ≤ ah.size := by omega
        have htl : ((bytesOf ah).take m).length = m := by rw [List.length_take, bytesOf_length]; omega
        have hsz : (ah.extract 0 m ++ strOfNums rest).size = m + n := by
          rw [← bytesOf_length, hbw, List.length_append, htl, m2]
        have hw : wenc ah (ah.extract 0 m ++ strOfNums rest) = vput m ++ (vput n ++ rest) := by
          unfold wenc
          rw [hm, hsz, hbw, show m + n - m = n from by omega]
          conv => lhs; rw [show ((bytesOf ah).take m ++ rest).drop m = rest from by rw [List.drop_append, htl, List.drop_eq_nil_of_le (by omega)]; simp]
        refine ⟨p, e1, ?_, ?_⟩
        · show lies b p (wenc ah (ah.extract 0 m ++ strOfNums rest))
          rw [hw]
          exact lies_app.2 ⟨⟨b.take p, b.drop (p + (vput m).length), by rw [← e6, List.take_append_drop], by rw [List.length_take]; omega⟩, lies_app.2 ⟨⟨b.take (p + (vput m).length), b.drop (p + (vput m).length + (vput n).length), by rw [← f6, List.take_append_drop], by rw [List.length_take]; omega⟩, m1⟩⟩
        · show ((p + (vput m).length + (vput n).length : Nat) : Int) + (n : Int) = ((p + (wenc ah (ah.extract 0 m ++ strOfNums rest)).length : Nat) : Int)
          rw [hw]
          simp only [List.length_append, m2]
          omega
      · rw [if_neg h3] at h; exact absurd rfl h
    · rw [if_neg h2] at h; exact absurd rfl h
  · rw [if_neg h1] at h; exact absurd rfl h
theorem word_put {b : List Int} {p : Nat} {ah t : ByteArray} (ht : t.size < 34359738368) (h : lies b p (wenc ah t)) : wordP b (p : Int) ah = (t, ((p + (wenc ah t).length : Nat) : Int)) := by
  have h' := h
  unfold wenc at h'
  obtain ⟨h1, h2⟩ := lies_app.1 h'
  obtain ⟨h3, h4⟩ := lies_app.1 h2
  obtain ⟨s1, s2⟩ := sharedP_le ah t
  obtain ⟨v1, hv1⟩ := lies_drop h1
  obtain ⟨v2, hv2⟩ := lies_drop h3
  have g1 := get_put (show sharedP ah t < 34359738368 by omega) (by have := lies_le h1; omega) hv1
  have g2 := get_put (show t.size - sharedP ah t < 34359738368 by omega) (by have := lies_le h3; omega) hv2
  have hle := lies_le h4
  have hdl : ((bytesOf t).drop (sharedP ah t)).length = t.size - sharedP ah t := by rw [List.length_drop, bytesOf_length]
  have he := lies_eq h4
  rw [hdl] at hle he
  have hword : ah.extract 0 (sharedP ah t) ++ strOfNums ((bytesOf t).drop (sharedP ah t)) = t := by
    refine bytesOf_inj ?_
    rw [bytesOf_app, bytesOf_front, bytesOf_str (byt_drop (bytesOf_byt t) _)]
    show (bytesOf ah).take (lcp (bytesOf ah) (bytesOf t)) ++ (bytesOf t).drop (lcp (bytesOf ah) (bytesOf t)) = bytesOf t
    rw [lcp_take, List.take_append_drop]
  unfold wordP
  rw [g1]
  simp only [g2]
  rw [if_pos ⟨trivial, by omega⟩, if_pos ⟨trivial, by omega⟩]
  rw [show (((p + (vput (sharedP ah t)).length + (vput (t.size - sharedP ah t)).length : Nat) : Int) + ((t.size - sharedP ah t : Nat) : Int)).toNat = p + (vput (sharedP ah t)).length + (vput (t.size - sharedP ah t)).length + (t.size - sharedP ah t) from by omega, Int.toNat_natCast, Int.toNat_natCast, he, hword, if_pos rfl]
  unfold wenc
  simp only [List.length_append, hdl]
  congr 1
  omega
def wencs : ByteArray → List ByteArray → List Int
  | _, [] => []
  | ah, t :: r => wenc ah t ++ wencs t r
theorem dpk_wencs (l : List ByteArray) : ∀ ah : ByteArray, (∀ t ∈ l, t.size ≤ 32) → dpk ah l = wencs ah l := by
  induction l with
  | nil => intro ah _; rfl
  | cons t r ih =>
    intro ah h
    have ht := h t (by simp)
    obtain ⟨s1, s2⟩ := sharedP_le ah t
    simp only [dpk, wencs, ih t (fun x hx => h x (by simp [hx]))]
    rw [putP_nat (by omega), show (t.size : Int) - (sharedP ah t : Nat) = ((t.size - sharedP ah t : Nat) : Int) from by omega, putP_nat (by omega)]
    unfold wenc
    simp only [List.append_assoc]
theorem unL_ok {b : List Int} (hb : byt b) : ∀ (m p : Nat) (acc : List ByteArray) (ah : ByteArray), (unL b m (p : Int) acc ah).2 = 0 → p ≤ b.length → ∃ r, (unL b m (p : Int) acc ah).1 = acc ++ r ∧ r.length = m ∧ lies b p (wencs ah r) ∧ p + (wencs ah r).length = b.length ∧ dictMayP (acc ++ r) = true := by
  intro m
  induction m with
  | zero =>
    intro p acc ah h hp
    unfold unL at h ⊢
    by_cases hc : (p : Int) = (b.length : Int) ∧ dictMayP acc = true
    · rw [if_pos hc]
      exact ⟨[], by simp, rfl, lies_nil hp, by show p + 0 = _; have := hc.1; omega, by rw [List.append_nil]; exact hc.2⟩
    · rw [if_neg hc] at h; exact absurd h (by decide)
  | succ m ih =>
    intro p acc ah h hp
    unfold unL at h ⊢
    by_cases hc : (wordP b (p : Int) ah).2 = 0
    · rw [if_pos hc] at h; exact absurd h (by decide)
    · rw [if_neg hc] at h ⊢
      obtain ⟨p', e1, e2, e3⟩ := word_ok hb hc
      have hpp : p' = p := by omega
      subst hpp
      rw [e3] at h ⊢
      generalize (wordP b (p' : Int) ah).1 = t at *
      obtain ⟨r, f1, f2, f3, f4, f5⟩ := ih (p' + (wenc ah t).length) (acc ++ [t]) t h (lies_le e2)
      refine ⟨t :: r, by rw [f1]; simp, by simp [f2], lies_app.2 ⟨e2, f3⟩, ?_, by rw [List.append_assoc] at f5; exact f5⟩
      simp only [wencs, List.length_append]
      omega
theorem unL_put {b : List Int} : ∀ (r : List ByteArray) (p : Nat) (acc : List ByteArray) (ah : ByteArray), (∀ t ∈ r, t.size ≤ 32) → lies b p (wencs ah r) → p + (wencs ah r).length = b.length → dictMayP (acc ++ r) = true → unL b r.length (p : Int) acc ah = (acc ++ r, 0) := by
  intro r
  induction r with
  | nil =>
    intro p acc ah _ _ hl hd
    simp only [wencs, List.length_nil, Nat.add_zero] at hl
    rw [List.append_nil] at hd
    simp only [List.length_nil, unL]
    rw [if_pos ⟨by omega, hd⟩, List.append_nil]
  | cons t r ih =>
    intro p acc ah hs h hl hd
    simp only [wencs] at h hl
    obtain ⟨h1, h2⟩ := lies_app.1 h
    have hw := word_put (by have := hs t (by simp); omega) h1
    have hpos := wenc_pos ah t
    simp only [List.length_cons, unL]
    rw [hw]
    simp only
    rw [if_neg (by omega), ih _ (acc ++ [t]) t (fun x hx => hs x (by simp [hx])) h2 (by rw [List.length_append] at hl; omega) (by rw [List.append_assoc]; exact hd), List.append_assoc]
    rfl
theorem dictUn_pack {b : List Int} (hb : byt b) (h : (dictUnP b).2 = 0) : dictMayP (dictUnP b).1 = true ∧ b = dictPackP (dictUnP b).1 := by
  unfold dictUnP at h ⊢
  by_cases hc : (getP b 0).2.2 = 0 ∧ (getP b 0).1 ≤ 200
  · rw [if_pos hc] at h ⊢
    obtain ⟨_, p, m, e1, e2, e3, e4, e5, e6⟩ := get_ok hb (show getP b 0 = ((getP b 0).1, (getP b 0).2.1, 0) from Prod.ext rfl (Prod.ext rfl hc.1))
    have hp0 : p = 0 := by omega
    subst hp0
    rw [e2, e4, Int.toNat_natCast] at h ⊢
    obtain ⟨r, f1, f2, f3, f4, f5⟩ := unL_ok hb m (0 + (vput m).length) [] ⟨#[]⟩ h e5
    rw [List.nil_append] at f1 f5
    rw [f1]
    refine ⟨f5, ?_⟩
    unfold dictPackP
    rw [dpk_wencs r _ (fun t ht => ((dictMay_ok f5).2 t ht).2), putP_nat (by omega), f2]
    refine (lies_full (lies_app.2 ⟨⟨b.take 0, b.drop (0 + (vput m).length), by rw [← e6, List.take_append_drop], by simp⟩, f3⟩) ?_).symm
    rw [List.length_append]
    omega
  · rw [if_neg hc] at h; exact absurd h (by decide)
theorem dict_unPack {l : List ByteArray} (h : dictMayP l = true) : dictUnP (dictPackP l) = (l, 0) := by
  obtain ⟨h1, h2⟩ := dictMay_ok h
  have hs : ∀ t ∈ l, t.size ≤ 32 := fun t ht => (h2 t ht).2
  have hb : dictPackP l = vput l.length ++ wencs ⟨#[]⟩ l := by unfold dictPackP; rw [dpk_wencs l _ hs, putP_nat (by omega)]
  have hl : lies (dictPackP l) 0 (vput l.length ++ wencs ⟨#[]⟩ l) := ⟨[], [], by rw [hb]; simp, rfl⟩
  obtain ⟨l1, l2⟩ := lies_app.1 hl
  obtain ⟨v, hv⟩ := lies_drop l1
  have hg : getP (dictPackP l) 0 = ((l.length : Int), ((0 + (vput l.length).length : Nat) : Int), 0) := get_put (show l.length < 34359738368 by omega) (Nat.zero_le _) hv
  unfold dictUnP
  rw [hg]
  simp only
  rw [if_pos ⟨trivial, by omega⟩, Int.toNat_natCast, unL_put l _ [] ⟨#[]⟩ hs l2 (by rw [hb, List.length_append]; omega) (by rw [List.nil_append]; exact h), List.nil_append]
end Go.Proofs.Ytfhcolhiolgikaa.Plain
/- Plain facts for Pack: segments, unpacked and packed. -/
namespace Go.Proofs.Ytfhcolhiolgikaa.Plain
set_option linter.unusedVariables false
set_option linter.unusedSimpArgs false
open Go.RowKit Go.Proofs.Ytfhcolhiolgikaa.T Go.Proofs.YtfhcolhiolgikaaW.PrintWords Go.Proofs.YtfhcolhiolgikaaW.PrintLast Go.Proofs.YtfhcolhiolgikaaW.PrintMore
theorem rb_ok {b : List Int} (hb : byt b) {at_ : Int} {bad : Bool} (h : rbOk b at_ bad = true) : bad = false ∧ ∃ p : Nat, at_ = p ∧ (rbV b at_ bad).length < 34359738368 ∧ lies b p (sizedP (rbV b at_ bad)) ∧ rbA b at_ bad = ((p + (sizedP (rbV b at_ bad)).length : Nat) : Int) := by
  have h' := h
  unfold rbOk at h
  simp only [Bool.and_eq_true, Bool.not_eq_true', decide_eq_true_eq] at h
  obtain ⟨h1, h2⟩ := h
  obtain ⟨hb1, p, n, e1, e2, e3, e4, e5⟩ := num_ok hb h1
  rw [e2, e4] at h2
  have hle : p + (vput n).length + n ≤ b.length := by have := lies_le e5; omega
  have hB : rbV b at_ bad = (b.take (p + (vput n).length + n)).drop (p + (vput n).length) := by
    unfold rbV
    rw [if_pos h', e2, e4, Int.toNat_natCast, show (((p + (vput n).length : Nat) : Int) + (n : Int)).toNat = p + (vput n).length + n from by omega]
  obtain ⟨m1, m2⟩ := lies_mid hle
  rw [← hB] at m1 m2
  refine ⟨hb1, p, e1, by omega, ?_, ?_⟩
  · unfold sizedP
    rw [m2]
    exact lies_app.2 ⟨e5, m1⟩
  · unfold sizedP
    have e6 : rbA b at_ bad = ((p + (vput n).length : Nat) : Int) + (n : Int) := by unfold rbA; rw [if_pos h', e4, e2]
    rw [e6, m2, List.length_append, m2]
    omega
theorem rb_put {b x : List Int} {p : Nat} (hx : x.length < 34359738368) (h : lies b p (sizedP x)) : rbOk b (p : Int) false = true ∧ rbV b (p : Int) false = x ∧ rbA b (p : Int) false = ((p + (sizedP x).length : Nat) : Int) := by
  unfold sizedP at h
  obtain ⟨h1, h2⟩ := lies_app.1 h
  obtain ⟨n1, n2, n3⟩ := num_put hx h1 false
  have hle := lies_le h2
  have hok : rbOk b (p : Int) false = true := by
    unfold rbOk
    rw [n3, n1, n2, decide_eq_true (by omega)]
    rfl
  refine ⟨hok, ?_, ?_⟩
  · unfold rbV
    rw [if_pos hok, n1, n2, Int.toNat_natCast, show (((p + (vput x.length).length : Nat) : Int) + (x.length : Int)).toNat = p + (vput x.length).length + x.length from by omega]
    exact lies_eq h2
  · unfold rbA sizedP
    rw [if_pos hok, n1, n2, List.length_append]
    omega
def encs {α : Type} (enc : α → List Int) : List α → List Int
  | [] => []
  | x :: r => enc x ++ encs enc r
theorem smGo_put {α : Type} {b : List Int} (one : Int → Bool → α × Int × Bool) (enc : α → List Int) : ∀ (xs : List α) (p : Nat) (acc : List α), (∀ x ∈ xs, ∀ p : Nat, lies b p (enc x) → one (p : Int) false = (x, ((p + (enc x).length : Nat) : Int), false)) → lies b p (encs enc xs) → smGo one xs.length ⟨acc, (p : Int), false⟩ = ⟨acc ++ xs, ((p + (encs enc xs).length : Nat) : Int), false⟩ := by
  intro xs
  induction xs with
  | nil => intro p acc _ _; simp [smGo, encs]
  | cons x r ih =>
    intro p acc h hl
    obtain ⟨h1, h2⟩ := lies_app.1 hl
    have e := h x (by simp) p h1
    rw [List.length_cons, smGo_more _ _ rfl]
    have es : smStep one ⟨acc, (p : Int), false⟩ = ⟨acc ++ [x], ((p + (enc x).length : Nat) : Int), false⟩ := by simp only [smStep, e]
    rw [es, ih _ _ (fun y hy => h y (by simp [hy])) h2]
    simp only [encs, List.length_append, List.append_assoc, List.singleton_append, Nat.add_assoc]
theorem smGo_bd0 {α : Type} (one : Int → Bool → α × Int × Bool) (k : Nat) {s : SmS α} (h : (smGo one k s).bd = false) : s.bd = false := by
  cases hb : s.bd with
  | false => rfl
  | true => rw [smGo_bad one k hb, hb] at h; exact h
theorem smGo_ok {α : Type} {b : List Int} (one : Int → Bool → α × Int × Bool) (enc : α → List Int) (P : α → Prop) (hone : ∀ at_ bad, (one at_ bad).2.2 = false → bad = false ∧ P (one at_ bad).1 ∧ ∃ p : Nat, at_ = p ∧ lies b p (enc (one at_ bad).1) ∧ (one at_ bad).2.1 = ((p + (enc (one at_ bad).1).length : Nat) : Int)) :
    ∀ (k : Nat) (s : SmS α) (p : Nat), s.pl = (p : Int) → p ≤ b.length → (smGo one k s).bd = false → ∃ xs, (smGo one k s).out = s.out ++ xs ∧ xs.length = k ∧ (∀ x ∈ xs, P x) ∧ lies b p (encs enc xs) ∧ (smGo one k s).pl = ((p + (encs enc xs).length : Nat) : Int) := by
  intro k
  induction k with
  | zero => intro s p hp hle _; exact ⟨[], by simp [smGo], rfl, (fun x hx => by cases hx), lies_nil hle, by simp [smGo, encs, hp]⟩
  | succ k ih =>
    intro s p hp hle h
    have hbd := smGo_bd0 one _ h
    rw [smGo_more _ _ hbd] at h
    rw [smGo_more _ _ hbd]
    have h1 : (one s.pl s.bd).2.2 = false := smGo_bd0 one _ h
    obtain ⟨_, hP, q, e1, e2, e3⟩ := hone _ _ h1
    have hq : q = p := by omega
    subst hq
    obtain ⟨xs, f1, f2, f3, f4, f5⟩ := ih (smStep one s) (q + (enc (one s.pl s.bd).1).length) e3 (lies_le e2) h
    refine ⟨(one s.pl s.bd).1 :: xs, ?_, by simp [f2], ?_, lies_app.2 ⟨e2, f4⟩, ?_⟩
    · rw [f1]; simp [smStep]
    · intro x hx
      rcases List.mem_cons.1 hx with rfl | hx
      · exact hP
      · exact f3 x hx
    · rw [f5]
      simp only [encs, List.length_append, Nat.add_assoc]
/-! ### the kinds -/
def idE (t : ByteArray) : List Int := sizedP (bytesOf t)
def tmE (t : S44) : List Int := sizedP (postPackR t.f1)
theorem idsE_encs (l : List ByteArray) : idsE l = encs idE l := by
  induction l with
  | nil => rfl
  | cons x r ih => simp only [idsE, encs, ih, idE]
theorem numsE_encs (l : List Int) : numsE l = encs putP l := by
  induction l with
  | nil => rfl
  | cons x r ih => simp only [numsE, encs, ih]
theorem postsE_encs (l : List S44) : postsE l = encs tmE l := by
  induction l with
  | nil => rfl
  | cons x r ih => simp only [postsE, encs, ih, tmE]
theorem str_ok {b : List Int} (hb : byt b) (at_ : Int) (bad : Bool) (h : (strOne b at_ bad).2.2 = false) : bad = false ∧ True ∧ ∃ p : Nat, at_ = p ∧ lies b p (idE (strOne b at_ bad).1) ∧ (strOne b at_ bad).2.1 = ((p + (idE (strOne b at_ bad).1).length : Nat) : Int) := by
  simp only [strOne, Bool.not_eq_false'] at h
  obtain ⟨h1, p, e1, e2, e3, e4⟩ := rb_ok hb h
  refine ⟨h1, trivial, p, e1, ?_, ?_⟩
  · simp only [strOne, idE]
    rw [bytesOf_str (rbV_byt hb _ _)]; exact e3
  · simp only [strOne, idE]
    rw [bytesOf_str (rbV_byt hb _ _)]; exact e4
theorem str_put {b : List Int} {p : Nat} {t : ByteArray} (ht : t.size < 34359738368) (h : lies b p (idE t)) : strOne b (p : Int) false = (t, ((p + (idE t).length : Nat) : Int), false) := by
  obtain ⟨h1, h2, h3⟩ := rb_put (by rw [bytesOf_length]; exact ht) h
  unfold strOne
  rw [h1, h2, h3, str_bytesOf]
  rfl
theorem numOne_ok {b : List Int} (hb : byt b) (at_ : Int) (bad : Bool) (h : (numOne b at_ bad).2.2 = false) : bad = false ∧ True ∧ ∃ p : Nat, at_ = p ∧ lies b p (putP (numOne b at_ bad).1) ∧ (numOne b at_ bad).2.1 = ((p + (putP (numOne b at_ bad).1).length : Nat) : Int) := by
  obtain ⟨h1, p, m, e1, e2, e3, e4, e5⟩ := num_ok hb h
  refine ⟨h1, trivial, p, e1, ?_, ?_⟩
  · simp only [numOne]
    rw [e2, putP_nat e3]; exact e5
  · simp only [numOne]
    rw [e2, putP_nat e3]; exact e4
theorem numOne_put {b : List Int} {p : Nat} {n : Int} (h0 : 0 ≤ n) (h1 : n < 34359738368) (h : lies b p (putP n)) : numOne b (p : Int) false = (n, ((p + (putP n).length : Nat) : Int), false) := by
  obtain ⟨m, rfl⟩ := Int.eq_ofNat_of_zero_le h0
  rw [putP_nat (by omega)] at h ⊢
  obtain ⟨n1, n2, n3⟩ := num_put (by omega) h false
  unfold numOne
  rw [n1, n2, n3]
theorem tm_ok {b : List Int} (hb : byt b) (at_ : Int) (bad : Bool) (h : (termOne b at_ bad).2.2 = false) : bad = false ∧ (termOne b at_ bad).1.f0 = ⟨#[]⟩ ∧ ∃ p : Nat, at_ = p ∧ lies b p (tmE (termOne b at_ bad).1) ∧ (termOne b at_ bad).2.1 = ((p + (tmE (termOne b at_ bad).1).length : Nat) : Int) := by
  simp only [termOne, Bool.or_eq_false_iff, Bool.not_eq_false', bne_eq_false_iff_eq] at h
  obtain ⟨h0, hE⟩ := h
  have hU : unpackOk (rbV b at_ bad) = true := by
    cases hc : unpackOk (rbV b at_ bad) with
    | true => rfl
    | false => unfold unpackE at hE; rw [hc] at hE; exact absurd hE (by decide)
  obtain ⟨g1, g2⟩ := unpack_pack (rbV_byt hb at_ bad) hU
  obtain ⟨h1, p, e1, e2, e3, e4⟩ := rb_ok hb h0
  have hR : postPackR (unpackP (rbV b at_ bad)) = rbV b at_ bad := (if_pos g1).trans g2.symm
  refine ⟨h1, rfl, p, e1, ?_, ?_⟩
  · simp only [termOne, tmE]
    rw [hR]; exact e3
  · simp only [termOne, tmE]
    rw [hR]; exact e4
theorem tm_put {b : List Int} {p : Nat} {t : S44} (ht : postMayP t.f1 = true) (h : lies b p (tmE t)) : termOne b (p : Int) false = (⟨⟨#[]⟩, t.f1⟩, ((p + (tmE t).length : Nat) : Int), false) := by
  have hl := postPackR_len t.f1
  obtain ⟨h1, h2, h3⟩ := rb_put (by omega) h
  have hR : postPackR t.f1 = postPackP t.f1 := if_pos ht
  obtain ⟨g1, g2⟩ := pack_unpack ht
  rw [hR] at h2
  have hE : unpackE (postPackP t.f1) = 0 := if_pos g1
  unfold termOne
  rw [h1, h2, h3, g2, hE]
  rfl
def bare (t : S44) : S44 := ⟨⟨#[]⟩, t.f1⟩
theorem setT_bare (l : List S44) : setT (l.map (·.f0)) (l.map bare) = l := by
  induction l with
  | nil => rfl
  | cons x r ih => simp only [List.map_cons, setT, ih, bare]
theorem encs_bare (l : List S44) : encs tmE (l.map bare) = encs tmE l := by
  induction l with
  | nil => rfl
  | cons x r ih => simp only [List.map_cons, encs, ih, tmE, bare]
theorem setT_f0 (ws : List ByteArray) : ∀ ts : List S44, ws.length = ts.length → (setT ws ts).map (·.f0) = ws := by
  induction ws with
  | nil => intro ts h; cases ts with
    | nil => rfl
    | cons t ts => cases h
  | cons w ws ih => intro ts h; cases ts with
    | nil => cases h
    | cons t ts => simp only [setT, List.map_cons, ih ts (by simpa using h)]
theorem encs_setT (ws : List ByteArray) : ∀ ts : List S44, encs tmE (setT ws ts) = encs tmE ts := by
  induction ws with
  | nil => intro ts; rfl
  | cons w ws ih => intro ts; cases ts with
    | nil => rfl
    | cons t ts => simp only [setT, encs, ih, tmE]
def wbit (so : Bool) : Int := if so = true then 1 else 0
theorem pack_parts (ids : List ByteArray) (keys lens : List Int) (terms : List S44) (so : Bool) : packIn ids keys lens terms so = [wbit so] ++ (putP (ids.length : Int) ++ (encs idE ids ++ (encs putP keys ++ (encs putP lens ++ (sizedP (dictPackR (terms.map (·.f0))) ++ encs tmE terms))))) := by
  unfold packIn packHead
  rw [idsE_encs, numsE_app, numsE_encs, numsE_encs, postsE_encs]
  simp only [wbit, List.append_assoc, List.cons_append, List.nil_append]
theorem within_pack {b : List Int} (hb : byt b) (h : (withinP b).2 = true) : segMayV (withinP b).1 = true ∧ packIn (withinP b).1.ids (withinP b).1.keys (withinP b).1.lens (withinP b).1.terms (withinP b).1.so = b := by
  unfold withinP at h ⊢
  by_cases c1 : b.length = 0 ∨ rd b 0 > 1
  · rw [if_pos c1] at h; cases h
  rw [if_neg c1] at h
  rw [if_neg c1]
  by_cases c2 : wiN b > 64
  · rw [if_pos c2] at h; cases h
  rw [if_neg c2] at h
  rw [if_neg c2]
  by_cases c4 : ¬ wiOk b = true
  · rw [if_neg c4] at h; cases h
  have c3 : wiOk b = true := Classical.not_not.1 c4
  rw [if_pos c3] at h
  rw [if_pos c3]
  simp only at h ⊢
  refine ⟨h, ?_⟩
  unfold wiOk at c3
  simp only [Bool.and_eq_true, Bool.not_eq_true', decide_eq_true_eq] at c3
  obtain ⟨⟨hT, hD⟩, hend⟩ := c3
  have hR : rbOk b (wiL b).pl (wiL b).bd = true := by
    have := smGo_bd0 (s := ⟨[], rbA b (wiL b).pl (wiL b).bd, !rbOk b (wiL b).pl (wiL b).bd⟩) (termOne b) ((wiD b).1.length) hT
    simpa using this
  obtain ⟨hL, pL, eL, lL, liL, aL⟩ := rb_ok hb hR
  have hK : (wiK b).bd = false := smGo_bd0 (s := ⟨[], (wiK b).pl, (wiK b).bd⟩) (numOne b) ((wiN b).toNat) hL
  have hI : (wiI b).bd = false := smGo_bd0 (s := ⟨[], (wiI b).pl, (wiI b).bd⟩) (numOne b) ((wiN b).toNat) hK
  have hN : numB b 1 false = false := smGo_bd0 (s := ⟨[], numA b 1, numB b 1 false⟩) (strOne b) ((wiN b).toNat) hI
  obtain ⟨_, p0, n, e1, e2, e3, e4, e5⟩ := num_ok hb hN
  have hp0 : p0 = 1 := by omega
  subst hp0
  have hn : wiN b = (n : Int) := e2
  have gI : ∃ xs, (wiI b).out = [] ++ xs ∧ xs.length = (wiN b).toNat ∧ (∀ x ∈ xs, True) ∧ lies b (1 + (vput n).length) (encs idE xs) ∧ (wiI b).pl = ((1 + (vput n).length + (encs idE xs).length : Nat) : Int) := smGo_ok (strOne b) idE (fun _ => True) (str_ok hb) (wiN b).toNat ⟨[], numA b 1, numB b 1 false⟩ (1 + (vput n).length) e4 (lies_le e5) hI
  obtain ⟨ids, i1, i2, _, i3, i4⟩ := gI
  have gK : ∃ xs, (wiK b).out = [] ++ xs ∧ xs.length = (wiN b).toNat ∧ (∀ x ∈ xs, True) ∧ lies b (1 + (vput n).length + (encs idE ids).length) (encs putP xs) ∧ (wiK b).pl = ((1 + (vput n).length + (encs idE ids).length + (encs putP xs).length : Nat) : Int) := smGo_ok (numOne b) putP (fun _ => True) (numOne_ok hb) (wiN b).toNat ⟨[], (wiI b).pl, (wiI b).bd⟩ _ i4 (lies_le i3) hK
  obtain ⟨keys, k1, k2, _, k3, k4⟩ := gK
  have gL : ∃ xs, (wiL b).out = [] ++ xs ∧ xs.length = (wiN b).toNat ∧ (∀ x ∈ xs, True) ∧ lies b (1 + (vput n).length + (encs idE ids).length + (encs putP keys).length) (encs putP xs) ∧ (wiL b).pl = ((1 + (vput n).length + (encs idE ids).length + (encs putP keys).length + (encs putP xs).length : Nat) : Int) := smGo_ok (numOne b) putP (fun _ => True) (numOne_ok hb) (wiN b).toNat ⟨[], (wiK b).pl, (wiK b).bd⟩ _ k4 (lies_le k3) hL
  obtain ⟨lens, l1, l2, _, l3, l4⟩ := gL
  have hpL : pL = 1 + (vput n).length + (encs idE ids).length + (encs putP keys).length + (encs putP lens).length := by omega
  subst hpL
  have gT : ∃ xs, (wiT b).out = [] ++ xs ∧ xs.length = (wiD b).1.length ∧ (∀ x ∈ xs, x.f0 = ⟨#[]⟩) ∧ lies b (1 + (vput n).length + (encs idE ids).length + (encs putP keys).length + (encs putP lens).length + (sizedP (rbV b (wiL b).pl (wiL b).bd)).length) (encs tmE xs) ∧ (wiT b).pl = ((1 + (vput n).length + (encs idE ids).length + (encs putP keys).length + (encs putP lens).length + (sizedP (rbV b (wiL b).pl (wiL b).bd)).length + (encs tmE xs).length : Nat) : Int) := smGo_ok (termOne b) tmE (fun x => x.f0 = ⟨#[]⟩) (tm_ok hb) (wiD b).1.length ⟨[], rbA b (wiL b).pl (wiL b).bd, !rbOk b (wiL b).pl (wiL b).bd⟩ _ aL (lies_le liL) hT
  obtain ⟨ts, t1, t2, t3, t4, t5⟩ := gT
  obtain ⟨d1, d2⟩ := dictUn_pack (rbV_byt hb (wiL b).pl (wiL b).bd) hD
  have hS : wiS b = ⟨ids, keys, lens, setT (wiD b).1 ts, rd b 0 == 1⟩ := by
    unfold wiS
    rw [i1, k1, l1, t1]
    simp only [List.nil_append]
  rw [hS]
  simp only
  rw [pack_parts, setT_f0 _ _ t2.symm, encs_setT, i2, hn, Int.toNat_natCast, putP_nat e3]
  have hdR : dictPackR (wiD b).1 = rbV b (wiL b).pl (wiL b).bd := (if_pos d1).trans d2.symm
  rw [hdR]
  have hb0 : 0 < b.length := Nat.pos_of_ne_zero (fun h0 => c1 (Or.inl h0))
  have hc0 : wbit (rd b 0 == 1) = b[0] := by
    have hr : rd b 0 = b[0] := rd_nat b 0 hb0
    have h2 := hb _ (List.getElem_mem hb0)
    have h3 : ¬ rd b 0 > 1 := fun hh => c1 (Or.inr hh)
    rw [hr] at h3 ⊢
    unfold wbit
    by_cases h4 : b[0] = 1
    · rw [h4]; rfl
    · rw [if_neg (by simpa using h4)]; omega
  have hl0 : lies b 0 [wbit (rd b 0 == 1)] := ⟨[], b.drop 1, by rw [hc0]; exact List.drop_eq_getElem_cons hb0, rfl⟩
  refine lies_full (lies_app.2 ⟨hl0, lies_app.2 ⟨e5, lies_app.2 ⟨i3, lies_app.2 ⟨k3, lies_app.2 ⟨l3, lies_app.2 ⟨liL, t4⟩⟩⟩⟩⟩⟩) ?_
  simp only [List.length_append, List.length_singleton]
  omega
theorem pack_within {ids : List ByteArray} {keys lens : List Int} {terms : List S44} {so : Bool} (h : segMayP ids keys lens terms so = true) : withinP (packIn ids keys lens terms so) = (⟨ids, keys, lens, terms, so⟩, true) := by
  have O := segOk h
  generalize hB : packIn ids keys lens terms so = b
  have hl : lies b 0 b := ⟨[], [], by simp, rfl⟩
  have hparts := hB.symm.trans (pack_parts ids keys lens terms so)
  rw [putP_nat (by have := O.n64; omega)] at hparts
  have hl' : lies b 0 ([wbit so] ++ (vput ids.length ++ (encs idE ids ++ (encs putP keys ++ (encs putP lens ++ (sizedP (dictPackR (terms.map (·.f0))) ++ encs tmE terms)))))) := by rw [← hparts]; exact hl
  have hlen := congrArg List.length hparts
  obtain ⟨l0, r1⟩ := lies_app.1 hl'
  obtain ⟨l1, r2⟩ := lies_app.1 (show lies b 1 _ from r1)
  obtain ⟨l2, r3⟩ := lies_app.1 r2
  obtain ⟨l3, r4⟩ := lies_app.1 r3
  obtain ⟨l4, r5⟩ := lies_app.1 r4
  obtain ⟨l5, l6⟩ := lies_app.1 r5
  clear r1 r2 r3 r4 r5
  have hdR : dictPackR (terms.map (·.f0)) = dictPackP (terms.map (·.f0)) := if_pos O.dict
  obtain ⟨n1, n2, n3⟩ := num_put (show ids.length < 34359738368 by have := O.n64; omega) l1 false
  have hN : wiN b = (ids.length : Int) := n1
  have eI : wiI b = ⟨ids, ((1 + (vput ids.length).length + (encs idE ids).length : Nat) : Int), false⟩ := by
    have := smGo_put (strOne b) idE ids (1 + (vput ids.length).length) [] (fun x hx p hp => str_put (by have := (O.ids16 x hx).2; omega) hp) l2
    rw [List.nil_append] at this
    rw [← this]
    unfold wiI
    rw [hN, Int.toNat_natCast]
    have e2 : numA b 1 = ((1 + (vput ids.length).length : Nat) : Int) := n2
    have e3 : numB b 1 false = false := n3
    rw [e2, e3]
  have eK : wiK b = ⟨keys, ((1 + (vput ids.length).length + (encs idE ids).length + (encs putP keys).length : Nat) : Int), false⟩ := by
    have := smGo_put (numOne b) putP keys (1 + (vput ids.length).length + (encs idE ids).length) [] (fun x hx p hp => numOne_put (O.keys30 x hx).1 (by have := (O.keys30 x hx).2; omega) hp) l3
    rw [List.nil_append] at this
    rw [← this]
    unfold wiK
    rw [hN, Int.toNat_natCast, eI, O.nk]
  have eL : wiL b = ⟨lens, ((1 + (vput ids.length).length + (encs idE ids).length + (encs putP keys).length + (encs putP lens).length : Nat) : Int), false⟩ := by
    have := smGo_put (numOne b) putP lens (1 + (vput ids.length).length + (encs idE ids).length + (encs putP keys).length) [] (fun x hx p hp => numOne_put (O.lens120 x hx).1 (by have := (O.lens120 x hx).2; omega) hp) l4
    rw [List.nil_append] at this
    rw [← this]
    unfold wiL
    rw [hN, Int.toNat_natCast, eK, O.nl]
  have hDl : (dictPackR (terms.map (·.f0))).length < 34359738368 := by have := lies_le l5; have := dictPackR_len (terms.map (·.f0)); omega
  obtain ⟨q1, q2, q3⟩ := rb_put hDl l5
  have eD : wiD b = (terms.map (·.f0), 0) := by
    unfold wiD
    rw [eL]
    simp only
    rw [q2, hdR]
    exact dict_unPack O.dict
  have eT : wiT b = ⟨terms.map bare, ((1 + (vput ids.length).length + (encs idE ids).length + (encs putP keys).length + (encs putP lens).length + (sizedP (dictPackR (terms.map (·.f0)))).length + (encs tmE terms).length : Nat) : Int), false⟩ := by
    have := smGo_put (termOne b) tmE (terms.map bare) _ [] (fun x hx p hp => by
      obtain ⟨t, ht, rfl⟩ := List.mem_map.1 hx
      exact tm_put (t := bare t) (O.post t ht).2 hp) (by rw [encs_bare]; exact l6)
    rw [List.nil_append, encs_bare] at this
    rw [← this]
    unfold wiT
    rw [eD, eL]
    simp only
    rw [q1, q3, List.length_map, List.length_map]
    rfl
  have hr0 : rd b 0 = wbit so := by
    obtain ⟨u, v, e, hu⟩ := l0
    have hu' := List.eq_nil_of_length_eq_zero hu
    rw [hu'] at e
    rw [e]
    rfl
  unfold withinP
  rw [if_neg, hN, if_neg (by have := O.n64; omega), if_pos, show wiS b = ⟨ids, keys, lens, terms, so⟩ from ?_]
  · exact congrArg _ h
  · unfold wiS
    rw [eI, eK, eL, eD, eT]
    simp only
    rw [setT_bare, hr0]
    cases so <;> rfl
  · unfold wiOk
    rw [eT, eD]
    simp only [List.length_append, List.length_singleton] at hlen
    simp only [Bool.not_false, Bool.true_and, decide_true, decide_eq_true_eq]
    omega
  · rintro (h0 | h0)
    · rw [hlen] at h0; simp at h0
    · rw [hr0] at h0; cases so <;> simp [wbit] at h0
end Go.Proofs.Ytfhcolhiolgikaa.Plain
/- Plain facts for Pack: frames; how long a segment's bytes may be. -/
namespace Go.Proofs.Ytfhcolhiolgikaa.Plain
set_option linter.unusedVariables false
set_option linter.unusedSimpArgs false
open Go.RowKit Go.Proofs.Ytfhcolhiolgikaa.T Go.Proofs.YtfhcolhiolgikaaW.PrintWords Go.Proofs.YtfhcolhiolgikaaW.PrintLast Go.Proofs.YtfhcolhiolgikaaW.PrintMore
/-! ### how long -/
theorem vput_one {n : Nat} (h : n < 128) : (vput n).length = 1 := by rw [vput_small h]; rfl
theorem putP_one {n : Int} (h : n < 128) : (putP n).length ≤ 1 := by
  rw [putP_def]
  split
  · rw [vput_one (by omega)]; omega
  · simp
theorem gaps_one (last : Int) (l : List Int) (h0 : -1 ≤ last) (h : risingP last 120 l = true) : (gaps last l).length ≤ l.length := by
  induction l generalizing last with
  | nil => simp [gaps]
  | cons a r ih =>
    unfold risingP at h
    simp only [Bool.and_eq_true, decide_eq_true_eq] at h
    have := ih a (by omega) h.2
    have := vput_one (show (a - last - 1).toNat < 128 by omega)
    simp only [gaps, List.length_append, List.length_cons]
    omega
def atS : List S64 → Nat
  | [] => 0
  | p :: r => p.f1.length + atS r
theorem atS_app (a b : List S64) : atS (a ++ b) = atS a + atS b := by
  induction a with
  | nil => simp [atS]
  | cons x r ih => simp only [List.cons_append, atS, ih]; omega
theorem body_one (ps : List S64) : ∀ ah : Int, -1 ≤ ah → (∀ p ∈ ps, (0 ≤ p.f0 ∧ p.f0 < 64) ∧ p.f1.length ≤ 120 ∧ risingP (-1) 120 p.f1 = true) → (bodyP ah ps).length ≤ 2 * ps.length + atS ps := by
  induction ps with
  | nil => intro ah _ _; simp [bodyP]
  | cons p r ih =>
    intro ah h0 h
    have h1 := h p (by simp)
    have h2 := ih p.f0 (by omega) (fun q hq => h q (by simp [hq]))
    have h3 := gaps_one (-1) p.f1 (by omega) h1.2.2
    have h5 := vput_one (show p.f1.length < 128 by omega)
    have h4 := putP_one (show p.f0 - ah - 1 < 128 by omega)
    simp only [bodyP, riseP, List.length_append, List.length_cons, atS]
    omega
theorem chW_len (k : Nat) : ∀ (ah : Int) (l : List S64), -1 ≤ ah → ah < 64 → (∀ p ∈ l, (0 ≤ p.f0 ∧ p.f0 < 64) ∧ p.f1.length ≤ 120 ∧ risingP (-1) 120 p.f1 = true) → (chW k ah l).length ≤ 10 * ((l.length + 3) / 4) + 2 * l.length + atS l := by
  induction k with
  | zero => intro ah l _ _ _; simp [chW]
  | succ k ih =>
    intro ah l h0 h1 h
    unfold chW
    split
    · simp
    · rename_i hl
      have hm : ∀ p ∈ l.take 4, (0 ≤ p.f0 ∧ p.f0 < 64) ∧ p.f1.length ≤ 120 ∧ risingP (-1) 120 p.f1 = true := fun p hp => h p (List.mem_of_mem_take hp)
      have h2 := lastP_range (l.take 4) ah ⟨h0, h1⟩ (fun p hp => (hm p hp).1)
      have h3 := ih (lastP ah (l.take 4)) (l.drop 4) h2.1 h2.2 (fun p hp => h p (List.mem_of_mem_drop hp))
      have h4 := body_one (l.take 4) ah h0 hm
      have h5 : atS l = atS (l.take 4) + atS (l.drop 4) := by rw [← atS_app, List.take_append_drop]
      have h6 := putP_len (lastP ah (l.take 4))
      have h7 := putP_len ((bodyP ah (l.take 4)).length : Int)
      rw [List.length_drop] at h3
      rw [List.length_take] at h4
      simp only [blockP, List.length_append]
      omega
theorem postPack_len {l : List S64} (h : postMayP l = true) : (postPackR l).length ≤ 5 + (10 * ((l.length + 3) / 4) + 2 * l.length + atS l) := by
  have hR : postPackR l = postPackP l := if_pos h
  rw [hR, postPack_chW, List.length_append]
  have h1 := putP_len (l.length : Int)
  have h2 := chW_len l.length (-1) l (by decide) (by decide) (postOk_of h)
  omega
theorem plAts_len {lens : List Int} {d : Int} (l : List Int) : ∀ s s', plAts lens d l s = some s' → s'.length = s.length + l.length := by
  induction l with
  | nil => intro s s' h; simp only [plAts, Option.some.injEq] at h; rw [h]; rfl
  | cons a r ih =>
    intro s s' h
    unfold plAts at h
    split at h
    · have := ih _ _ h
      simp only [List.length_cons] at this ⊢
      omega
    · cases h
theorem plPosts_len {lens : List Int} (l : List S64) : ∀ s s', plPosts lens l s = some s' → s'.length = s.length + atS l := by
  induction l with
  | nil => intro s s' h; simp only [plPosts, Option.some.injEq] at h; rw [h]; rfl
  | cons a r ih =>
    intro s s' h
    unfold plPosts at h
    obtain ⟨s1, h1, h2⟩ := Option.bind_eq_some_iff.1 h
    have := ih _ _ h2
    have := plAts_len _ _ _ h1
    simp only [atS]
    omega
def atT : List S44 → Nat
  | [] => 0
  | t :: r => atS t.f1 + atT r
theorem plTerms_len {lens : List Int} (l : List S44) : ∀ s s', plTerms lens l s = some s' → s'.length = s.length + atT l := by
  induction l with
  | nil => intro s s' h; simp only [plTerms, Option.some.injEq] at h; rw [h]; rfl
  | cons a r ih =>
    intro s s' h
    unfold plTerms at h
    split at h
    · cases h
    · obtain ⟨s1, h1, h2⟩ := Option.bind_eq_some_iff.1 h
      have := ih _ _ h2
      have := plPosts_len _ _ _ h1
      simp only [atT]
      omega
theorem atS_ge {l : List S64} (h : ∀ p ∈ l, p.f1.length ≠ 0) : l.length ≤ atS l := by
  induction l with
  | nil => simp [atS]
  | cons a r ih =>
    have h1 := h a (by simp)
    have h2 := ih (fun q hq => h q (by simp [hq]))
    simp only [atS, List.length_cons]
    omega
theorem post_ne {l : List S64} (h : postMayP l = true) : ∀ p ∈ l, p.f1.length ≠ 0 := by
  intro p hp
  unfold postMayP at h
  simp only [Bool.and_eq_true, decide_eq_true_eq, List.all_eq_true] at h
  have hok := h.1.1 p hp
  unfold postOk at hok
  simp only [Bool.and_eq_true, Bool.not_eq_true', decide_eq_false_iff_not] at hok
  exact hok.1.1
theorem posts_len (l : List S44) (h : ∀ t ∈ l, t.f1.length ≠ 0 ∧ postMayP t.f1 = true) : (encs tmE l).length ≤ 18 * l.length + 6 * atT l := by
  induction l with
  | nil => simp [encs]
  | cons t r ih =>
    have h1 := h t (by simp)
    have h2 := ih (fun q hq => h q (by simp [hq]))
    have h3 := postPack_len h1.2
    have h4 := atS_ge (post_ne h1.2)
    have h5 := postPackR_len t.f1
    have h6 := sizedP_len (postPackR t.f1) (by omega)
    simp only [encs, tmE, atT, List.length_append, List.length_cons]
    omega
theorem encs_ids_len (ids : List ByteArray) (h : ∀ id ∈ ids, id.size ≤ 16) : (encs idE ids).length ≤ 21 * ids.length := by rw [← idsE_encs]; exact idsE_len ids h
theorem encs_nums_len (l : List Int) : (encs putP l).length ≤ 5 * l.length := by rw [← numsE_encs]; exact numsE_len l
theorem packIn_len {ids : List ByteArray} {keys lens : List Int} {terms : List S44} {so : Bool} (h : segMayP ids keys lens terms so = true) : (packIn ids keys lens terms so).length ≤ 65536 := by
  have O := segOk h
  have h1 := O.n64
  have h2 := O.nk
  have h3 := O.nl
  obtain ⟨s, p1, p2⟩ := O.pl
  have h4 := plTerms_len _ _ _ p1
  have h5 := (sum_range lens 64 (by omega) O.lens120).2
  have h6 := posts_len terms O.post
  have h7 := O.t200
  have h8 := encs_ids_len ids (fun id hid => (O.ids16 id hid).2)
  have h9 := encs_nums_len keys
  have h10 := encs_nums_len lens
  have h11 := dictPackR_len (terms.map (·.f0))
  have h12 := sizedP_len (dictPackR (terms.map (·.f0))) (by omega)
  have h13 := putP_len (ids.length : Int)
  rw [pack_parts]
  simp only [List.length_append, List.length_singleton, List.length_nil] at h4 ⊢
  omega
/-! ### frames -/
def frB (x : List Int) : List Int := [70, 83] ++ (vput x.length ++ x)
theorem frB_len (x : List Int) : (frB x).length = 2 + (vput x.length).length + x.length := by
  simp only [frB, List.length_append, List.length_cons, List.length_nil]; omega
theorem wrap_fr {x : List Int} (h : x.length ≤ 65536) : wrapP x = frB x ++ ofL (sumL (frB x)) := by
  unfold wrapP
  rw [if_neg (by omega), putP_nat (by omega)]
  simp only [frB, List.append_assoc, List.cons_append, List.nil_append]
theorem fr_get {x v : List Int} (h : x.length ≤ 65536) : getP (frB x ++ v) 2 = ((x.length : Int), ((2 + (vput x.length).length : Nat) : Int), 0) :=
  get_put (b := frB x ++ v) (r := x ++ v) (p := 2) (m := x.length) (by omega) (by rw [List.length_append, frB_len]; omega) (by simp [frB])
theorem fr_end {x v : List Int} (h : x.length ≤ 65536) : openEnd (frB x ++ v) = (frB x).length := by
  unfold openEnd
  rw [fr_get h, frB_len]
  simp only
  omega
theorem fr_open {x v : List Int} (h : x.length ≤ 65536) (hv : v.length = 4) : openP (frB x ++ v) = if ofL (sumL (frB x)) = v then (x, 0) else ([], 6) := by
  have hE := fr_end (v := v) h
  have hG := fr_get (v := v) h
  have hL : (frB x ++ v).length = 2 + (vput x.length).length + x.length + 4 := by rw [List.length_append, frB_len, hv]
  have hF : openForm (frB x ++ v) = true := by
    unfold openForm
    rw [hG]
    have h0 : rd (frB x ++ v) 0 = 70 := rfl
    have h1 : rd (frB x ++ v) 1 = 83 := rfl
    rw [h0, h1, hL]
    simp only [Bool.and_eq_true, Bool.not_eq_true', decide_eq_false_iff_not, decide_eq_true_eq]
    exact ⟨⟨⟨⟨⟨by omega, trivial⟩, trivial⟩, trivial⟩, by omega⟩, by omega⟩
  unfold openP
  rw [if_pos hF, hE, hG]
  simp only
  rw [List.take_left, List.drop_left, Int.toNat_natCast]
  have hx : (frB x).drop (2 + (vput x.length).length) = x := by
    have : frB x = ([70, 83] ++ vput x.length) ++ x := by simp [frB]
    rw [this, List.drop_left' (by simp; omega)]
  rw [hx]
theorem open_fr {l : List Int} (hb : byt l) (h : openForm l = true) : ∃ x v : List Int, l = frB x ++ v ∧ x.length ≤ 65536 ∧ v.length = 4 := by
  unfold openForm at h
  simp only [Bool.and_eq_true, Bool.not_eq_true', decide_eq_false_iff_not, decide_eq_true_eq] at h
  obtain ⟨⟨⟨⟨⟨a, b⟩, c⟩, d⟩, e⟩, f⟩ := h
  obtain ⟨_, p, m, e1, e2, e3, e4, e5, e6⟩ := get_ok hb (show getP l 2 = ((getP l 2).1, (getP l 2).2.1, 0) from by rw [← d])
  have hp2 : p = 2 := by omega
  subst hp2
  refine ⟨(l.drop (2 + (vput m).length)).take m, l.drop (2 + (vput m).length + m), ?_, by rw [List.length_take]; omega, by rw [List.length_drop]; omega⟩
  have hl : ((l.drop (2 + (vput m).length)).take m).length = m := by rw [List.length_take, List.length_drop]; omega
  unfold frB
  have e7 : l.drop (2 + (vput m).length + m) = (l.drop (2 + (vput m).length)).drop m := by rw [List.drop_drop]
  rw [hl, e7, List.append_assoc, List.append_assoc, List.take_append_drop, ← e6]
  obtain ⟨x, y, r, rfl⟩ : ∃ x y r, l = x :: y :: r := by
    match l, a with
    | x :: y :: r, _ => exact ⟨x, y, r, rfl⟩
    | [], a => exact absurd (by decide) a
    | [x], a => exact absurd (by simp) a
  have hx : x = 70 := b
  have hy : y = 83 := c
  rw [hx, hy]
  rfl
theorem ofL_len (n : Int) : (ofL n).length = 4 := rfl
theorem open_wrap {x : List Int} (h : x.length ≤ 65536) : openP (wrapP x) = (x, 0) := by
  rw [wrap_fr h, fr_open h (ofL_len _), if_pos rfl]
theorem open_bad {l : List Int} (h : (openP l).2 = 0) : openForm l = true := by
  cases hc : openForm l with
  | true => rfl
  | false => unfold openP at h; rw [hc] at h; exact absurd (show (5 : Int) = 0 from h) (by decide)
theorem wrap_open {l : List Int} (hb : byt l) (h : (openP l).2 = 0) : wrapP (openP l).1 = l := by
  obtain ⟨x, v, rfl, hx, hv⟩ := open_fr hb (open_bad h)
  rw [fr_open hx hv] at h
  rw [fr_open hx hv]
  by_cases hc : ofL (sumL (frB x)) = v
  · rw [if_pos hc, wrap_fr hx, hc]
  · rw [if_neg hc] at h; exact absurd h (by decide)
/-! ### whole -/
theorem pack_back {ids : List ByteArray} {keys lens : List Int} {terms : List S44} {so : Bool} (h : segMayP ids keys lens terms so = true) : unSegP (packR ids keys lens terms so) = (⟨ids, keys, lens, terms, so⟩, 0) := by
  have hR : packR ids keys lens terms so = wrapP (packIn ids keys lens terms so) := if_pos h
  unfold unSegP
  rw [hR, open_wrap (packIn_len h)]
  simp only [if_pos]
  rw [pack_within h]
  simp only [if_pos]
theorem un_codes (l : List Int) : ((unSegP l).2 = 0 ∧ segMayV (unSegP l).1 = true ∧ (byt l → packR (unSegP l).1.ids (unSegP l).1.keys (unSegP l).1.lens (unSegP l).1.terms (unSegP l).1.so = l)) ∨ ((unSegP l).1 = segZ ∧ ((unSegP l).2 = 5 ∨ (unSegP l).2 = 6)) := by
  unfold unSegP
  by_cases h : (openP l).2 = 0
  · rw [if_pos h]
    by_cases h2 : (withinP (openP l).1).2 = true
    · rw [if_pos h2]
      have hm : segMayV (withinP (openP l).1).1 = true := by
        unfold withinP at h2 ⊢
        split at h2
        · cases h2
        · split at h2
          · cases h2
          · split at h2
            · rename_i a b c
              rw [if_neg a, if_neg b, if_pos c]; exact h2
            · cases h2
      refine Or.inl ⟨rfl, hm, fun hb => ?_⟩
      obtain ⟨g1, g2⟩ := within_pack (open_byt hb) h2
      exact (if_pos hm).trans ((congrArg wrapP g2).trans (wrap_open hb h))
    · rw [if_neg h2]
      exact Or.inr ⟨rfl, Or.inl rfl⟩
  · rw [if_neg h]
    refine Or.inr ⟨rfl, ?_⟩
    unfold openP at h ⊢
    split
    · rename_i hf
      split
      · rename_i hs
        rw [if_pos hf, if_pos hs] at h; exact absurd rfl h
      · exact Or.inr rfl
    · exact Or.inl rfl
/-- What is cut is refused by its form. -/
theorem cut_form {x : List Int} (hb : byt (frB x)) (hx : x.length ≤ 65536) {n : Nat} (hn : n < (frB x).length + 4) (v : List Int) (hv : v.length = 4) (hvb : byt v) : openP ((frB x ++ v).take n) = ([], 5) := by
  have hlb : byt (frB x ++ v) := byt_app.2 ⟨hb, hvb⟩
  cases hc : openForm ((frB x ++ v).take n) with
  | false => unfold openP; rw [hc]; rfl
  | true =>
    exfalso
    obtain ⟨y, u, e, hy, hu⟩ := open_fr (byt_take hlb n) hc
    have hg := fr_get (v := v) hx
    have hs : frB x ++ v = frB y ++ (u ++ (frB x ++ v).drop n) := by rw [← List.append_assoc, ← e, List.take_append_drop]
    have hg2 := fr_get (x := y) (v := u ++ (frB x ++ v).drop n) hy
    rw [← hs, hg] at hg2
    have hxy : x.length = y.length := by
      have := congrArg Prod.fst hg2
      simp only at this
      omega
    have h1 := congrArg List.length e
    rw [List.length_take, List.length_append, List.length_append, frB_len y, ← hxy, ← frB_len x, hv, hu] at h1
    omega
end Go.Proofs.Ytfhcolhiolgikaa.Plain
