import Derived.Test.YtbbmdakdghefnaaGreatDoorQPG
import Derived.Test.YtbbmdakdghefnaaGreatDoorQPH
/- Texts of this claim, laid together by a program (merge.py): PN. -/
/- Plain facts for Query: dict.Or at two rows. -/
namespace Go.Proofs.YtbbmdakdghefnaaGreatDoor.Plain
set_option linter.unusedVariables false
set_option linter.unusedSimpArgs false
open Go.RowKit Go.Proofs.YtbbmdakdghefnaaGreatDoor.T Go.Proofs.YtbbmdakdghefnaaGreatDoorW.PrintWords Go.Proofs.YtbbmdakdghefnaaGreatDoorW.PrintLast Go.Proofs.YtbbmdakdghefnaaGreatDoorW.PrintMore
theorem or_none (a b out : List ByteArray) (i j : Nat) (k : Nat) (hi : ¬ i < a.length) (hj : ¬ j < b.length) : f30.l1 (k + 7) [a, b] out [(i : Int), (j : Int)] = some out := by
 have w1 : wrap64 1 = 1 := z225_; have w2 : wrap64 2 = 2 := z225_; have h1 : ¬ (i : Int) < (a.length : Int) := z161_; have h2 : ¬ (j : Int) < (b.length : Int) := z161_; simp [f30.l1, f30.l2, rd, rd_L3, w1, w2, h1, h2, hi, hj]
theorem or_left (a b out : List ByteArray) (i j : Nat) (k : Nat) (hi : i < a.length) (hj : ¬ j < b.length) (hl : out.length < 200) (hb : a.length < 1000) : f30.l1 (k + 7) [a, b] out [(i : Int), (j : Int)] = f30.l1 k [a, b] (out ++ [a[i]]) [((i + 1 : Nat) : Int), (j : Int)] := by
 have w1 : wrap64 1 = 1 := z225_; have w2 : wrap64 2 = 2 := z225_; have w3 : wrap64 ((i : Int) + 1) = (i : Int) + 1 := z225_; have h1 : (i : Int) < (a.length : Int) := z161_; have h2 : ¬ (j : Int) < (b.length : Int) := z161_; have h3 : out.length < 8796093022208 := z161_; have h4 : ¬ ((out.length : Int) + 1 > 200) := z161_; have h5 : ¬ ((200 : Int) < (out.length : Int) + 1) := z161_; simp [f30.l1, f30.l2, f30.l3, rd, rd_L3, rdOf, w1, w2, w3, h1, h2, h3, h4, h5, hi, hj]
theorem or_right (a b out : List ByteArray) (i j : Nat) (k : Nat) (hi : ¬ i < a.length) (hj : j < b.length) (hl : out.length < 200) (hb : i < 1000) (hb2 : j < 1000) : f30.l1 (k + 7) [a, b] out [(i : Int), (j : Int)] = f30.l1 k [a, b] (out ++ [b[j]]) [(i : Int), ((j + 1 : Nat) : Int)] := by
 have w1 : wrap64 1 = 1 := z225_; have w2 : wrap64 2 = 2 := z225_; have w3 : wrap64 ((i : Int) + 1) = (i : Int) + 1 := z225_; have w4 : wrap64 ((j : Int) + 1) = (j : Int) + 1 := z225_; have h3 : out.length < 8796093022208 := z161_; have h4 : ¬ ((out.length : Int) + 1 > 200) := z161_; have h5 : ¬ ((200 : Int) < (out.length : Int) + 1) := z161_; have h1 : ¬ (i : Int) < (a.length : Int) := z161_; have h2 : (j : Int) < (b.length : Int) := z161_; simp [f30.l1, f30.l2, f30.l3, rd, rd_L3, rdOf, w1, w2, w3, w4, h3, h4, h5, hi, hj, h1, h2]
theorem or_lt (a b out : List ByteArray) (i j : Nat) (k : Nat) (hi : i < a.length) (hj : j < b.length) (hlt : lessB b[j] a[i] = false) (hne : a[i] ≠ b[j]) (hl : out.length < 200) (hb : i < 1000) (hb2 : j < 1000) : f30.l1 (k + 7) [a, b] out [(i : Int), (j : Int)] = f30.l1 k [a, b] (out ++ [a[i]]) [((i + 1 : Nat) : Int), (j : Int)] := by
 have w1 : wrap64 1 = 1 := z225_; have w2 : wrap64 2 = 2 := z225_; have w3 : wrap64 ((i : Int) + 1) = (i : Int) + 1 := z225_; have w4 : wrap64 ((j : Int) + 1) = (j : Int) + 1 := z225_; have h3 : out.length < 8796093022208 := z161_; have h4 : ¬ ((out.length : Int) + 1 > 200) := z161_; have h5 : ¬ ((200 : Int) < (out.length : Int) + 1) := z161_; have h1 : (i : Int) < (a.length : Int) := z161_; have h2 : (j : Int) < (b.length : Int) := z161_; have h6 : Op.bytesLess b[j].toList a[i].toList = false := hlt; have h7 : ¬ b[j].toList = a[i].toList := fun e => hne (list_inj e).symm; simp [f30.l1, f30.l2, f30.l3, rd, rd_L3, rdOf, w1, w2, w3, w4, h3, h4, h5, hi, hj, h1, h2, h6, h7]
theorem or_eq (a b out : List ByteArray) (i j : Nat) (k : Nat) (hi : i < a.length) (hj : j < b.length) (hlt : a[i] = b[j]) (hl : out.length < 200) (hb : i < 1000) (hb2 : j < 1000) : f30.l1 (k + 7) [a, b] out [(i : Int), (j : Int)] = f30.l1 k [a, b] (out ++ [b[j]]) [((i + 1 : Nat) : Int), ((j + 1 : Nat) : Int)] := by
 have w1 : wrap64 1 = 1 := z225_; have w2 : wrap64 2 = 2 := z225_; have w3 : wrap64 ((i : Int) + 1) = (i : Int) + 1 := z225_; have w4 : wrap64 ((j : Int) + 1) = (j : Int) + 1 := z225_; have h3 : out.length < 8796093022208 := z161_; have h4 : ¬ ((out.length : Int) + 1 > 200) := z161_; have h5 : ¬ ((200 : Int) < (out.length : Int) + 1) := z161_; have h1 : (i : Int) < (a.length : Int) := z161_; have h2 : (j : Int) < (b.length : Int) := z161_; have h6 : Op.bytesLess b[j].toList b[j].toList = false := bl_irr _; simp [f30.l1, f30.l2, f30.l3, rd, rd_L3, rdOf, w1, w2, w3, w4, h3, h4, h5, hi, hj, h1, h2, h6, hlt]
theorem or_gt (a b out : List ByteArray) (i j : Nat) (k : Nat) (hi : i < a.length) (hj : j < b.length) (hlt : lessB b[j] a[i] = true) (hl : out.length < 200) (hb : i < 1000) (hb2 : j < 1000) : f30.l1 (k + 7) [a, b] out [(i : Int), (j : Int)] = f30.l1 k [a, b] (out ++ [b[j]]) [(i : Int), ((j + 1 : Nat) : Int)] := by
 have w1 : wrap64 1 = 1 := z225_; have w2 : wrap64 2 = 2 := z225_; have w3 : wrap64 ((i : Int) + 1) = (i : Int) + 1 := z225_; have w4 : wrap64 ((j : Int) + 1) = (j : Int) + 1 := z225_; have h3 : out.length < 8796093022208 := z161_; have h4 : ¬ ((out.length : Int) + 1 > 200) := z161_; have h5 : ¬ ((200 : Int) < (out.length : Int) + 1) := z161_; have h1 : (i : Int) < (a.length : Int) := z161_; have h2 : (j : Int) < (b.length : Int) := z161_; have h6 : Op.bytesLess b[j].toList a[i].toList = true := hlt; have h7 : ¬ a[i].toList = b[j].toList := fun e => less_ne hlt (list_inj e).symm; simp [f30.l1, f30.l2, f30.l3, rd, rd_L3, rdOf, w1, w2, w3, w4, h3, h4, h5, hi, hj, h1, h2, h6, h7]
/-- Two rows made one. -/
def mU : List ByteArray → List ByteArray → List ByteArray
 | [], b => b
 | x :: r, [] => x :: r
 | x :: r, y :: s => if lessB y x = true then y :: mU (x :: r) s else if x = y then y :: mU r s else x :: mU r (y :: s)
termination_by a b => a.length + b.length
theorem mU_nil (a : List ByteArray) : mU a [] = a := by cases a <;> simp [mU]
theorem mU_mem (a b : List ByteArray) (t : ByteArray) : t ∈ mU a b ↔ t ∈ a ∨ t ∈ b := by
 induction a, b using mU.induct with
 | case1 b => simp [mU]
 | case2 x r => simp [mU]
 | case3 x r y s h ih => rw [mU, if_pos h, List.mem_cons, ih]; simp only [List.mem_cons]; grind
 | case4 x r s h ih => rw [mU, if_neg h, if_pos rfl, List.mem_cons, ih]; simp only [List.mem_cons]; grind
 | case5 x r y s h e ih => rw [mU, if_neg h, if_neg e, List.mem_cons, ih]; simp only [List.mem_cons]; grind
theorem mU_asc (a b : List ByteArray) (ha : Asc a) (hb : Asc b) : Asc (mU a b) := by
 induction a, b using mU.induct with
 | case1 b => simpa [mU] using hb
 | case2 x r => simpa [mU] using ha
 | case3 x r y s h ih =>
  obtain ⟨p1, q1⟩ := List.pairwise_cons.1 ha; obtain ⟨p2, q2⟩ := List.pairwise_cons.1 hb; rw [mU, if_pos h]; refine List.pairwise_cons.2 ⟨fun t ht => ?_, ih ha q2⟩
  rcases (mU_mem _ _ t).1 ht with ht | ht
  ·
   rcases List.mem_cons.1 ht with rfl | ht
   · exact h
   · exact less_tr h (p1 t ht)
  · exact p2 t ht
 | case4 x r s h ih =>
  obtain ⟨p1, q1⟩ := List.pairwise_cons.1 ha; obtain ⟨p2, q2⟩ := List.pairwise_cons.1 hb; rw [mU, if_neg h, if_pos rfl]; refine List.pairwise_cons.2 ⟨fun t ht => ?_, ih q1 q2⟩
  rcases (mU_mem _ _ t).1 ht with ht | ht
  · exact p1 t ht
  · exact p2 t ht
 | case5 x r y s h e ih =>
  obtain ⟨p1, q1⟩ := List.pairwise_cons.1 ha; obtain ⟨p2, q2⟩ := List.pairwise_cons.1 hb; rw [mU, if_neg h, if_neg e]; have hxy : lessB x y = true := (less_tot e).resolve_right h; refine List.pairwise_cons.2 ⟨fun t ht => ?_, ih q1 hb⟩
  rcases (mU_mem _ _ t).1 ht with ht | ht
  · exact p1 t ht
  ·
   rcases List.mem_cons.1 ht with rfl | ht
   · exact hxy
   · exact less_tr hxy (p2 t ht)
theorem or_loop (a b : List ByteArray) : ∀ (d i j : Nat) (out : List ByteArray) (k : Nat), (a.length - i) + (b.length - j) ≤ d → i ≤ a.length → j ≤ b.length → out.length + d ≤ 200 → a.length ≤ 200 → b.length ≤ 200 → 7 * d + 7 ≤ k →
  f30.l1 k [a, b] out [(i : Int), (j : Int)] = some (out ++ mU (a.drop i) (b.drop j)) := by
 intro d
 induction d with
 | zero =>
  intro i j out k hd hi hj ho hla hlb hk; obtain ⟨k, rfl⟩ : ∃ m, k = m + 7 := ⟨k - 7, z161_⟩; rw [or_none a b out i j k z161_ z161_, List.drop_eq_nil_of_le z161_, List.drop_eq_nil_of_le z161_]; simp [mU]
 | succ d ih =>
  intro i j out k hd hi hj ho hla hlb hk; obtain ⟨k, rfl⟩ : ∃ m, k = m + 7 := ⟨k - 7, z161_⟩
  by_cases h1 : i < a.length
  ·
   by_cases h2 : j < b.length
   ·
    rw [List.drop_eq_getElem_cons h1, List.drop_eq_getElem_cons h2]
    cases h3 : lessB b[j] a[i]
    ·
     by_cases h4 : a[i] = b[j]
     ·
      rw [or_eq a b out i j k h1 h2 h4 z161_ z161_ z161_, ih (i + 1) (j + 1) _ k z161_ z161_ z161_ z223_ hla hlb z161_]; rw [mU, if_neg (by rw [h3]; decide), if_pos h4]
      simp
     ·
      rw [or_lt a b out i j k h1 h2 h3 h4 z161_ z161_ z161_, ih (i + 1) j _ k z161_ z161_ z161_ z223_ hla hlb z161_]; rw [mU, if_neg (by rw [h3]; decide), if_neg h4, ← List.drop_eq_getElem_cons h2]
      simp
    ·
     rw [or_gt a b out i j k h1 h2 h3 z161_ z161_ z161_, ih i (j + 1) _ k z161_ z161_ z161_ z223_ hla hlb z161_]; rw [mU, if_pos h3, ← List.drop_eq_getElem_cons h1]
     simp
   ·
    rw [or_left a b out i j k h1 h2 z161_ z161_, ih (i + 1) j _ k z161_ z161_ z161_ z223_ hla hlb z161_]; rw [List.drop_eq_nil_of_le (show b.length ≤ j from z161_), mU_nil, mU_nil, List.drop_eq_getElem_cons h1]
    simp
  ·
   by_cases h2 : j < b.length
   ·
    rw [or_right a b out i j k h1 h2 z161_ z161_ z161_, ih i (j + 1) _ k z161_ z161_ z161_ z223_ hla hlb z161_]; rw [List.drop_eq_nil_of_le (show a.length ≤ i from z161_), mU, mU, List.drop_eq_getElem_cons h2]
    simp
   ·
    rw [or_none a b out i j k z161_ z161_, List.drop_eq_nil_of_le z161_, List.drop_eq_nil_of_le z161_]; simp [mU]
theorem asc_may (l : List ByteArray) (h : Asc l) (hw : ∀ t, t ∈ l → wordOk t = true) : ascP l = true := by
 induction l with
 | nil => rfl
 | cons a r ih =>
  obtain ⟨p, q⟩ := List.pairwise_cons.1 h; have hr := ih q (fun t ht => hw t (List.mem_cons_of_mem _ ht))
  match r, p, hr with
  | [], _, _ => simpa [ascP] using hw a z219_
  | b :: r, p, hr =>
   simp only [ascP, Bool.and_eq_true]; exact ⟨⟨hw a z219_, p b z219_⟩, hr⟩
/-- dict.Or of two rows of words that may be. -/
theorem or_eq2 (a b : List ByteArray) (k : Nat) (ha : Asc a) (hb : Asc b) (hwa : ∀ t, t ∈ a → wordOk t = true) (hwb : ∀ t, t ∈ b → wordOk t = true) (hl : a.length + b.length ≤ 200) (hk : 2000 ≤ k) : f30.f k [a, b] = some (mU a b) := by
 have w1 : wrap64 1 = 1 := z225_; have w2 : wrap64 2 = 2 := z225_; obtain ⟨k, rfl⟩ : ∃ m, k = m + 3 := ⟨k - 3, z161_⟩
 have ma : ∀ q, 1900 ≤ q → f45.f q a = some true := fun q hq => by
  rw [dictMay_eq a z161_ q z161_, dictMayP, asc_may a ha hwa]
  simp; omega
 have mb : ∀ q, 1900 ≤ q → f45.f q b = some true := fun q hq => by
  rw [dictMay_eq b z161_ q z161_, dictMayP, asc_may b hb hwb]
  simp; omega
 have h := or_loop a b 200 0 0 [] k z161_ z161_ z161_ z219_ z161_ z161_ z161_; simp only [List.drop_zero, List.nil_append] at h; rw [← h]; simp [f30.f, f30.l0, rd_L3, w1, w2, ma (k + 2) z161_, mb (k + 1) z161_, List.replicate]
end Go.Proofs.YtbbmdakdghefnaaGreatDoor.Plain
