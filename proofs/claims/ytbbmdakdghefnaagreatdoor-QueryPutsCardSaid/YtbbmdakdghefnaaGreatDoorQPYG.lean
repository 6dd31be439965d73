import Derived.Test.YtbbmdakdghefnaaGreatDoorQPB
import Derived.Test.YtbbmdakdghefnaaGreatDoorQPYF
/- Texts of this claim, laid together by a program (merge.py): KC, KD, KE. -/
/- What the printed functions of package token come to, in plain terms. -/
namespace Go.Proofs.YtbbmdakdghefnaaGreatDoor.KC
open Go.RowKit Go.Proofs.YtbbmdakdghefnaaGreatDoor.T Go.Proofs.YtbbmdakdghefnaaGreatDoorW.PrintWords Go.Proofs.YtbbmdakdghefnaaGreatDoorW.PrintLast Go.Lib Go.Proofs.YtbbmdakdghefnaaGreatDoor.KA
def nm (l : List UInt8) : List Int := l.map fun b => (b.toNat : Int)
theorem nm_app (a b : List UInt8) : nm (a ++ b) = nm a ++ nm b := by simp [nm]
theorem nm_len (a : List UInt8) : (nm a).length = a.length := by simp [nm]
theorem str_nm (l : List UInt8) : strOfNums (nm l) = mkS l := by
 simp only [strOfNums, nm, mkS, List.map_map]
 congr 1
 rw [show ((fun n : Int => UInt8.ofNat n.toNat) ∘ fun b : UInt8 => (b.toNat : Int)) = id from by funext b; simp]
 simp
theorem letter_eq (n : Nat) : f74.f (n : Int) = some (letN n) := by
 have e : (letN n = true) ↔ ((97 ≤ n ∧ n ≤ 122) ∨ (65 ≤ n ∧ n ≤ 90) ∨ (48 ≤ n ∧ n ≤ 57) ∨ 128 ≤ n) := by
  unfold letN; simp only [Bool.or_eq_true, decide_eq_true_eq]; omega
 unfold f74.f
 repeat' split
 all_goals
  refine congrArg some ?_; rw [Bool.eq_iff_iff, e]; simp only [decide_eq_true_eq, true_iff]; omega
theorem small_eq (n : Nat) (h : n ≤ 1114111) : f96.f (n : Int) = some ((lowN n : Nat) : Int) := by
 unfold f96.f lowN wrap32
 repeat' split
 all_goals
  refine congrArg some ?_; omega
theorem rune_one (k : Nat) (now : List UInt8) (b : UInt8) (hb : b.toNat < 128) (hn : now.length < 140737488355328) : f54.f k (nm now) ((b.toNat : Nat) : Int) = some (nm (now ++ [b])) := by
 unfold f54.f; rw [if_pos z161_, if_pos (by rw [nm_len]; exact hn), nm_app]
 congr 2
 simp only [nm, List.map_cons, List.map_nil]
 congr 1
 omega
theorem or192 (y : Int) (h0 : 0 ≤ y) (h1 : y < 32) : Go.bits .or .u8 192 (y % 256) = 192 + y := by
 rw [Int.emod_eq_of_lt h0 z161_]; exact u8_or192 y h0 h1
theorem or224 (y : Int) (h0 : 0 ≤ y) (h1 : y < 16) : Go.bits .or .u8 224 (y % 256) = 224 + y := by
 rw [Int.emod_eq_of_lt h0 z161_]; exact u8_or224 y h0 h1
theorem or240 (y : Int) (h0 : 0 ≤ y) (h1 : y < 8) : Go.bits .or .u8 240 (y % 256) = 240 + y := by
 rw [Int.emod_eq_of_lt h0 z161_]; exact u8_or240 y h0 h1
theorem rune_two (k : Nat) (now : List UInt8) (b0 b1 : UInt8) (x : Nat) (h1 : 128 ≤ x) (h2 : x ≤ 2047) (e0 : 192 + x / 64 = b0.toNat) (e1 : 128 + x % 64 = b1.toNat) (hn : now.length + 4 < 140737488355328) :
  f54.f k (nm now) (x : Int) = some (nm (now ++ [b0, b1])) := by
 unfold f54.f f32.f; rw [if_neg z161_, if_pos z161_, or192 _ z161_ z161_]; simp only [Option.bind_some, List.length_cons, List.length_nil, nm_len]; rw [if_pos z161_, Option.bind_some, nm_app]
 congr 2
 simp only [nm, List.map_cons, List.map_nil]; rw [← e0, ← e1]
 congr 1
theorem rune_three (k : Nat) (now : List UInt8) (b0 b1 b2 : UInt8) (x : Nat) (h1 : 2048 ≤ x) (h2 : x ≤ 65535) (h3 : x < 55296 ∨ 57343 < x) (e0 : 224 + x / 4096 = b0.toNat) (e1 : 128 + x / 64 % 64 = b1.toNat) (e2 : 128 + x % 64 = b2.toNat) (hn : now.length + 4 < 140737488355328) :
  f54.f (k + 1) (nm now) (x : Int) = some (nm (now ++ [b0, b1, b2])) := by
 have hj : ∀ t, t = true → f32.j0 (k + 1) (nm now) (x : Int) ((x : Int) % 4294967296) t = some (nm (now ++ [b0, b1, b2])) := by
  intro t ht; subst ht; rw [f32.j0, if_pos rfl, or224 _ z161_ z161_]; simp only [Option.bind_some, List.length_cons, List.length_nil, nm_len]; rw [if_pos z161_, nm_app]
  congr 2
  simp only [nm, List.map_cons, List.map_nil]; rw [← e0, ← e1, ← e2]
  congr 1
 unfold f54.f f32.f; rw [if_neg z161_, if_neg z161_]
 by_cases c : ((x : Int) % 4294967296) < 55296
 ·
  rw [if_pos c, hj _ (by rw [decide_eq_true_eq]; exact c)]
  rfl
 ·
  rw [if_neg c, if_pos z161_, hj _ (by rw [decide_eq_true_eq]; omega)]
  rfl
theorem rune_four (k : Nat) (now : List UInt8) (b0 b1 b2 b3 : UInt8) (x : Nat) (h1 : 65536 ≤ x) (h2 : x ≤ 1114111) (e0 : 240 + x / 262144 = b0.toNat) (e1 : 128 + x / 4096 % 64 = b1.toNat) (e2 : 128 + x / 64 % 64 = b2.toNat) (e3 : 128 + x % 64 = b3.toNat) (hn : now.length + 4 < 140737488355328) :
  f54.f (k + 1) (nm now) (x : Int) = some (nm (now ++ [b0, b1, b2, b3])) := by
 have hj : ∀ t, t = false → f32.j0 (k + 1) (nm now) (x : Int) ((x : Int) % 4294967296) t = some (nm (now ++ [b0, b1, b2, b3])) := by
  intro t ht; subst ht; rw [f32.j0, if_neg z219_, if_pos z161_, if_pos z161_, or240 _ z161_ z161_]; simp only [Option.bind_some, List.length_cons, List.length_nil, nm_len]; rw [if_pos z161_, nm_app]
  congr 2
  simp only [nm, List.map_cons, List.map_nil]; rw [← e0, ← e1, ← e2, ← e3]
  congr 1
 unfold f54.f f32.f; rw [if_neg z161_, if_neg z161_, if_neg z161_, if_pos z161_, hj _ (by rw [decide_eq_false_iff_not]; omega)]
 rfl
theorem drop_lt {S : ByteArray} {p : Nat} {c r : List UInt8} (h : S.data.toList.drop p = c ++ r) (hc : c ≠ []) : p < S.size := by
 rw [size_eq]; have := congrArg List.length h; rw [List.length_drop, List.length_append] at this; have := List.length_pos_iff.2 hc; omega
theorem drop_more {S : ByteArray} {p : Nat} {c r : List UInt8} (h : S.data.toList.drop p = c ++ r) : S.data.toList.drop (p + c.length) = r := by
 rw [← List.drop_drop, h]
 simp
theorem words_loop (S : ByteArray) : ∀ (l : List UInt8), validD l = true → ∀ (p k : Nat) (x3 : List ByteArray) (now : List UInt8), S.data.toList.drop p = l ++ [32] → l.length + 3 ≤ k → x3.length + l.length + 1 < 8796093022208 → now.length + l.length + 4 < 140737488355328 →
  f44.l0 k S x3 (nm now) p = some (x3 ++ bw (l ++ [32]) now) := by
 refine v_induct ?_ ?_
 ·
  intro p k x3 now hS hk hx hn; obtain ⟨k, rfl⟩ : ∃ m, k = m + 2 := ⟨k - 2, by simp at hk; omega⟩; have hp : p < S.size := drop_lt (c := [32]) (r := []) (by rw [hS]; rfl) z219_
  have hd : Utf8.decode S p = (32, 1) := by rw [← decodeL_drop, hS, List.nil_append]; exact decodeL_ascii 32 [] z106_
  have hp2 : ¬ p + 1 < S.size := by
   have := congrArg List.length hS; rw [List.length_drop, List.length_append] at this; simp only [List.length_nil, List.length_cons] at this; rw [size_eq]; omega
  rw [List.nil_append, bw_no let_blank]
  have hl : f74.f ((32 : Nat) : Int) = some false := by rw [letter_eq]; rfl
  have h2 : ∀ x y, f44.l0 (k + 1) S x y (p + 1) = some x := by
   intro x y; simp only [f44.l0]; rw [if_neg hp2]
  rw [f44.l0, if_pos hp, hd, hl, Option.bind_some, if_neg z219_, nm_len]
  by_cases e : now = []
  ·
   subst e; rw [if_neg z219_, if_pos rfl, h2]; simp [bw]
  ·
   have := List.length_pos_iff.2 e; rw [if_pos z161_, if_neg e, if_pos (by simp at hx; omega), h2, str_nm]; simp [bw]
 ·
  intro c r hc hr ih p k x3 now hS hk hx hn; have hl := sign_len hc; rw [List.length_append] at hk hx hn; obtain ⟨k, rfl⟩ : ∃ m, k = m + 2 := ⟨k - 2, z161_⟩; rw [List.append_assoc] at hS; have hp : p < S.size := drop_lt hS hc.1; have hS2 := drop_more hS; obtain ⟨x, hd, _, hcase⟩ := dec_sign hc (r ++ [32]); rw [← hS, decodeL_drop] at hd; rw [f44.l0, if_pos hp, hd, List.append_assoc]
  dsimp only
  rw [letter_eq]
  have next : ∀ x3' now', x3'.length ≤ x3.length + 1 → now'.length ≤ now.length + c.length → f44.l0 (k + 1) S x3' (nm now') (p + c.length) = some (x3' ++ bw (r ++ [32]) now') := by
   intro x3' now' h1 h2; exact ih (p + c.length) (k + 1) x3' now' hS2 z161_ z161_ z161_
  rcases hcase with ⟨b, rfl, rfl, hb⟩ | ⟨b0, b1, rfl, hx1, hx2, e0, e1⟩ | ⟨b0, b1, b2, rfl, hx1, hx2, hx3, e0, e1, e2⟩ | ⟨b0, b1, b2, b3, rfl, hx1, hx2, e0, e1, e2, e3⟩
  ·
   rw [Option.bind_some]
   cases hx : letB b with
   | true =>
    have hx' : letN b.toNat = true := hx; rw [if_pos hx', small_eq _ z161_, Option.bind_some, ← lowB_toNat, rune_one _ _ _ (low_ascii hb) z161_, Option.bind_some, next _ _ z161_ z219_, List.cons_append, List.nil_append, bw_let hx]
   | false =>
    have hx' : ¬ letN b.toNat = true := by rw [show letN b.toNat = letB b from rfl, hx]; simp
    rw [if_neg hx', nm_len, List.cons_append, List.nil_append, bw_no hx]; have hnil : ([] : List Int) = nm [] := rfl
    by_cases e : now = []
    ·
     subst e; rw [if_neg z219_, if_pos rfl, next _ _ z161_ z219_]
    ·
     have := List.length_pos_iff.2 e; rw [if_pos z161_, if_neg e, if_pos z161_, hnil, next _ _ z219_ z219_, str_nm]
     simp
  all_goals
   have hlt : letN x = true := by unfold letN; simp; omega
   have hlo : lowN x = x := by unfold lowN; rw [if_neg z161_]
   rw [Option.bind_some, if_pos hlt, small_eq _ z161_, Option.bind_some, hlo]
  · rw [rune_two _ _ b0 b1 x hx1 hx2 e0 e1 z161_, Option.bind_some, next _ _ z161_ z219_, bw_all [b0, b1] (small_high z223_)]
  · rw [rune_three _ _ b0 b1 b2 x hx1 hx2 hx3 e0 e1 e2 z161_, Option.bind_some, next _ _ z161_ z219_, bw_all [b0, b1, b2] (small_high z223_)]
  · rw [rune_four _ _ b0 b1 b2 b3 x hx1 hx2 e0 e1 e2 e3 z161_, Option.bind_some, next _ _ z161_ z219_, bw_all [b0, b1, b2, b3] (small_high z223_)]
theorem words_eq (k : Nat) (a : ByteArray) (hv : validD a.data.toList = true) (hs : a.size ≤ 500) (hk : a.size + 3 ≤ k) : f44.f k a = some (words a.data.toList) := by
 have hl := size_eq a; unfold f44.f; rw [if_pos z161_, show ([] : List Int) = nm [] from rfl, words_loop (a ++ (⟨#[32]⟩ : ByteArray)) a.data.toList hv 0 k [] [] z219_ z161_ z223_ z223_]
 rfl
theorem rd_of {l : List ByteArray} {i : Nat} (h : i < l.length) : rdOf ByteArray.empty l (i : Int) = l[i] := by
 simp [rdOf, List.getD_eq_getElem?_getD, List.getElem?_eq_getElem h]
theorem index_loop (l : List ByteArray) (hl : l.length < 9223372036854775807) : ∀ (d i k : Nat), i + d = l.length → d < k → ∃ r, f10.l0 k l (l.length : Int) (i : Int) = some r ∧ (decide (r ≥ 0) = (l.drop i).any (fun w => decide (32 < w.size)))
 | 0, i, k, h, hk => by
  obtain ⟨k, rfl⟩ : ∃ m, k = m + 1 := ⟨k - 1, z161_⟩; refine ⟨-1, by rw [f10.l0, if_neg z161_], ?_⟩; rw [List.drop_of_length_le z161_]
  rfl
 | d + 1, i, k, h, hk => by
  obtain ⟨k, rfl⟩ : ∃ m, k = m + 1 := ⟨k - 1, z161_⟩; have hi : i < l.length := z161_; rw [f10.l0, if_pos z161_, if_pos z161_, if_pos z161_, rd_of hi, f86.f, Option.bind_some, List.drop_eq_getElem_cons hi, List.any_cons]
  by_cases c : ((l[i].size : Int) > 32)
  ·
   rw [if_pos (by simpa using c)]; exact ⟨_, rfl, by simp; exact .inl z161_⟩
  ·
   rw [if_neg (by simpa using c), show wrap64 ((i : Int) + 1) = ((i + 1 : Nat) : Int) from z225_]; obtain ⟨r, h1, h2⟩ := index_loop l hl d (i + 1) k z161_ z161_; refine ⟨r, h1, ?_⟩; rw [h2, show decide (32 < l[i].size) = false from z223_, Bool.false_or]
theorem contains_eq (l : List ByteArray) (k : Nat) (hl : l.length < 9223372036854775807) (hk : l.length < k) : f34.f k l = some (l.any (fun w => decide (32 < w.size))) := by
 obtain ⟨r, h1, h2⟩ := index_loop l hl l.length 0 k z161_ hk; unfold f34.f f10.f; rw [show (0 : Int) = ((0 : Nat) : Int) from rfl] at *; rw [h1, Option.bind_some, h2, List.drop_zero]
theorem valid_eq (a : ByteArray) (h : a.size ≤ 9223372036854775807) : f76.f a = some (validD a.data.toList) := by
 unfold f76.f f80.f; rw [if_pos h]
 rfl
theorem Words_eq (k : Nat) (a : ByteArray) (hk : 400 ≤ k) : f89.f k a = some (pWords a.data.toList) := by
 have hl := size_eq a; unfold f89.f pWords
 by_cases c : 240 < a.data.toList.length
 · rw [if_pos z161_, if_pos c]
 ·
  rw [if_neg z161_, if_neg c, valid_eq a z161_, Option.bind_some]
  by_cases hv : validD a.data.toList = true
  ·
   rw [if_pos hv, if_pos hv, words_eq k a hv z161_ z161_, Option.bind_some]; have hc := words_count a.data.toList; rw [contains_eq _ k z161_ z161_, Option.bind_some]
   split <;> rfl
  · rw [if_neg hv, if_neg hv]
theorem toList_inj {a b : ByteArray} : a.toList = b.toList ↔ a = b := by
 rw [toList_data, toList_data]
 constructor
 ·
  intro h; cases a; cases b
  congr 1
  exact Array.toList_inj.1 h
 ·
  rintro rfl
  rfl
theorem mkS_data (a : ByteArray) : mkS a.data.toList = a := by
 cases a; simp [mkS]
theorem term_tail (l : List ByteArray) (e : Int) (a : ByteArray) :
  (if e = 0 then (if (l.length : Int) = 1 then (if 0 < (l.length : Int) then (some ((rdOf ByteArray.empty l 0).toList == a.toList)) else (none)) else (some false)) else (some false)) = some (decide (e = 0) && decide (l = [a])) := by
 by_cases h0 : e = 0
 ·
  rw [if_pos h0, decide_eq_true h0, Bool.true_and]
  by_cases h1 : (l.length : Int) = 1
  ·
   rw [if_pos h1, if_pos z161_]; obtain ⟨x, rfl⟩ := List.length_eq_one_iff.1 (show l.length = 1 from z161_)
   congr 1
   rw [show rdOf ByteArray.empty [x] 0 = x from rfl, Bool.eq_iff_iff]; simp only [beq_iff_eq, toList_inj, decide_eq_true_eq, List.cons.injEq, and_true]
  ·
   rw [if_neg h1, decide_eq_false]; rintro rfl; exact h1 rfl
 · rw [if_neg h0, decide_eq_false h0, Bool.false_and]
theorem Term_eq (k : Nat) (a : ByteArray) (hk : 400 ≤ k) : f99.f k a = some (pTerm a.data.toList) := by
 unfold f99.f pTerm; rw [Words_eq k a hk, Option.bind_some, term_tail, mkS_data]
end Go.Proofs.YtbbmdakdghefnaaGreatDoor.KC
/- What the printed functions of the reference's package come to, in plain terms. -/
namespace Go.Proofs.YtbbmdakdghefnaaGreatDoor.KC
open Go.RowKit Go.Proofs.YtbbmdakdghefnaaGreatDoor.T Go.Proofs.YtbbmdakdghefnaaGreatDoorW.PrintWords Go.Proofs.YtbbmdakdghefnaaGreatDoorW.PrintLast Go.Lib Go.Proofs.YtbbmdakdghefnaaGreatDoor.KA
end Go.Proofs.YtbbmdakdghefnaaGreatDoor.KC
/- The reference's words; the statements' own examples. -/
namespace Go.Proofs.YtbbmdakdghefnaaGreatDoor.KC
open Go.RowKit Go.Proofs.YtbbmdakdghefnaaGreatDoor.T Go.Proofs.YtbbmdakdghefnaaGreatDoorW.PrintWords Go.Proofs.YtbbmdakdghefnaaGreatDoorW.PrintLast Go.Lib Go.Proofs.YtbbmdakdghefnaaGreatDoor.KA
end Go.Proofs.YtbbmdakdghefnaaGreatDoor.KC
