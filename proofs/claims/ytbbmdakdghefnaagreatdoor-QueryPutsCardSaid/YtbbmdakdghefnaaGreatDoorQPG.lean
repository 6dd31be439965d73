import Derived.Test.YtbbmdakdghefnaaGreatDoorQPC
import Derived.Test.YtbbmdakdghefnaaGreatDoorQPF
/- Texts of this claim, laid together by a program (merge.py): PO. -/
/- Plain facts for Query: the order of words; rows of words that rise, one just by its words; a word put in; rows made rising. -/
namespace Go.Proofs.YtbbmdakdghefnaaGreatDoor.Plain
set_option linter.unusedVariables false
set_option linter.unusedSimpArgs false
open Go.RowKit Go.Proofs.YtbbmdakdghefnaaGreatDoor.T Go.Proofs.YtbbmdakdghefnaaGreatDoorW.PrintWords Go.Proofs.YtbbmdakdghefnaaGreatDoorW.PrintLast Go.Proofs.YtbbmdakdghefnaaGreatDoorW.PrintMore
theorem toList_data (a : ByteArray) : a.toList = a.data.toList := ByteArray.toList_eq a
theorem u8_eq_of (x y : UInt8) (h1 : ¬ x < y) (h2 : ¬ y < x) : x = y := by
 rw [UInt8.lt_iff_toNat_lt] at h1 h2; exact UInt8.toNat_inj.1 z161_
theorem bl_cons (x y : UInt8) (r s : List UInt8) : Op.bytesLess (x :: r) (y :: s) = true ↔ x < y ∨ x = y ∧ Op.bytesLess r s = true := by
 rw [Op.bytesLess]
 by_cases h1 : x < y
 · simp [h1]
 ·
  by_cases h2 : y < x
  ·
   have h3 : ¬ x = y := by intro e; subst e; exact h1 h2
   simp [h1, h2, h3]
  ·
   obtain rfl := u8_eq_of _ _ h1 h2; simp [h1]
theorem bl_nil (s : List UInt8) : Op.bytesLess s [] = false := by cases s <;> simp [Op.bytesLess]
theorem bl_irr : ∀ a : List UInt8, Op.bytesLess a a = false
 | [] => bl_nil _
 | x :: r => by
  rw [← Bool.not_eq_true, bl_cons]; rintro (h | ⟨_, h⟩)
  · exact absurd h (UInt8.lt_irrefl x)
  · rw [bl_irr r] at h; cases h
theorem bl_tr : ∀ a b c : List UInt8, Op.bytesLess a b = true → Op.bytesLess b c = true → Op.bytesLess a c = true
 | _, _, [], _, h => by rw [bl_nil] at h; cases h
 | _, [], _, h, _ => by rw [bl_nil] at h; cases h
 | [], y :: s, z :: t, _, _ => by simp [Op.bytesLess]
 | x :: r, y :: s, z :: t, h1, h2 => by
  rw [bl_cons] at *
  rcases h1 with h1 | ⟨e1, h1⟩
  ·
   rcases h2 with h2 | ⟨e2, h2⟩
   · exact .inl (UInt8.lt_trans h1 h2)
   · subst e2; exact .inl h1
  ·
   subst e1
   rcases h2 with h2 | ⟨e2, h2⟩
   · exact .inl h2
   · exact .inr ⟨e2, bl_tr r s t h1 h2⟩
theorem bl_tot : ∀ a b : List UInt8, a ≠ b → Op.bytesLess a b = true ∨ Op.bytesLess b a = true
 | [], [], h => absurd rfl h
 | [], _ :: _, _ => by simp [Op.bytesLess]
 | _ :: _, [], _ => by simp [Op.bytesLess]
 | x :: r, y :: s, h => by
  rw [bl_cons, bl_cons]
  by_cases h1 : x < y
  · exact .inl (.inl h1)
  ·
   by_cases h2 : y < x
   · exact .inr (.inl h2)
   ·
    obtain rfl := u8_eq_of _ _ h1 h2
    rcases bl_tot r s (fun e => h (by rw [e])) with h | h
    · exact .inl (.inr ⟨rfl, h⟩)
    · exact .inr (.inr ⟨rfl, h⟩)
theorem w1 (i : Nat) (h : i < 9223372036854775807) : wrap64 ((i : Int) + 1) = ((i + 1 : Nat) : Int) := by unfold wrap64; omega
theorem size_list (a : ByteArray) : a.data.toList.length = a.size := by rw [Array.length_toList]; rfl
theorem list_inj {a b : ByteArray} (h : a.toList = b.toList) : a = b := by
 rw [toList_data, toList_data] at h
 cases a; cases b
 congr 1
 exact Array.ext' h
theorem less_irr (a : ByteArray) : lessB a a = false := bl_irr _
theorem less_tr {a b c : ByteArray} (h1 : lessB a b = true) (h2 : lessB b c = true) : lessB a c = true := bl_tr _ _ _ h1 h2
theorem less_tot {a b : ByteArray} (h : a ≠ b) : lessB a b = true ∨ lessB b a = true := bl_tot _ _ (fun e => h (list_inj e))
theorem less_ne {a b : ByteArray} (h : lessB a b = true) : a ≠ b := fun e => by subst e; rw [less_irr] at h; cases h
theorem less_as {a b : ByteArray} (h : lessB a b = true) : lessB b a = false := by
 cases h2 : lessB b a
 · rfl
 ·
  have := less_tr h h2; rw [less_irr] at this; cases this
/-- Words that rise. -/
def Asc (l : List ByteArray) : Prop := l.Pairwise (fun a b => lessB a b = true)
theorem asc_ext : ∀ {a b : List ByteArray}, Asc a → Asc b → (∀ t, t ∈ a ↔ t ∈ b) → a = b
 | [], [], _, _, _ => rfl
 | [], y :: s, _, _, h => absurd ((h y).2 z219_) z219_
 | x :: r, [], _, _, h => absurd ((h x).1 z219_) z219_
 | x :: r, y :: s, h1, h2, h => by
  obtain ⟨p1, q1⟩ := List.pairwise_cons.1 h1; obtain ⟨p2, q2⟩ := List.pairwise_cons.1 h2
  have e : x = y := by
   rcases List.mem_cons.1 ((h x).1 z219_) with e | hx
   · exact e
   ·
    rcases List.mem_cons.1 ((h y).2 z219_) with e | hy
    · exact e.symm
    ·
     have := less_as (p1 y hy); rw [p2 x hx] at this; cases this
  subst e
  congr 1
  refine asc_ext q1 q2 (fun t => ⟨fun ht => ?_, fun ht => ?_⟩)
  ·
   rcases List.mem_cons.1 ((h t).1 (List.mem_cons_of_mem _ ht)) with e | h'
   · exact absurd e (less_ne (p1 t ht)).symm
   · exact h'
  ·
   rcases List.mem_cons.1 ((h t).2 (List.mem_cons_of_mem _ ht)) with e | h'
   · exact absurd e (less_ne (p2 t ht)).symm
   · exact h'
theorem asc_len : ∀ {a L : List ByteArray}, Asc a → (∀ t, t ∈ a → t ∈ L) → a.length ≤ L.length
 | [], _, _, _ => by simp
 | x :: r, L, h1, h => by
  obtain ⟨p1, q1⟩ := List.pairwise_cons.1 h1; have hx : x ∈ L := h x z219_; have := asc_len (a := r) (L := L.filter (fun t => decide (t ≠ x))) q1 (fun t ht => List.mem_filter.2 ⟨h t (List.mem_cons_of_mem _ ht), decide_eq_true (less_ne (p1 t ht)).symm⟩); have hlt : (L.filter (fun t => decide (t ≠ x))).length < L.length := List.length_filter_lt_length_iff_exists.2 ⟨x, hx, z219_⟩; simp only [List.length_cons]; omega
/-- A word put in, if it is not there. -/
def addB : List ByteArray → ByteArray → List ByteArray
 | [], t => [t]
 | y :: r, t => if lessB y t = true then y :: addB r t else if y = t then y :: r else t :: y :: r
theorem addB_mem : ∀ (l : List ByteArray) (t u : ByteArray), u ∈ addB l t ↔ u = t ∨ u ∈ l
 | [], t, u => by simp [addB]
 | y :: r, t, u => by
  unfold addB
  by_cases h : lessB y t = true
  ·
   rw [if_pos h, List.mem_cons, addB_mem r t u, List.mem_cons]
   constructor
   ·
    rintro (h | h | h)
    · exact .inr (.inl h)
    · exact .inl h
    · exact .inr (.inr h)
   ·
    rintro (h | h | h)
    · exact .inr (.inl h)
    · exact .inl h
    · exact .inr (.inr h)
  ·
   rw [if_neg h]
   by_cases e : y = t
   ·
    rw [if_pos e]; subst e
    simp
   ·
    rw [if_neg e]
    simp
theorem addB_asc : ∀ (l : List ByteArray) (t : ByteArray), Asc l → Asc (addB l t)
 | [], t, _ => List.pairwise_cons.2 ⟨fun _ h => absurd h z219_, List.Pairwise.nil⟩
 | y :: r, t, h => by
  obtain ⟨p, q⟩ := List.pairwise_cons.1 h; unfold addB
  by_cases h1 : lessB y t = true
  ·
   rw [if_pos h1]; refine List.pairwise_cons.2 ⟨fun u hu => ?_, addB_asc r t q⟩
   rcases (addB_mem r t u).1 hu with rfl | hu
   · exact h1
   · exact p u hu
  ·
   rw [if_neg h1]
   by_cases e : y = t
   · rw [if_pos e]; exact h
   ·
    rw [if_neg e]; have h2 : lessB t y = true := (less_tot e).resolve_left h1; refine List.pairwise_cons.2 ⟨fun u hu => ?_, h⟩
    rcases List.mem_cons.1 hu with rfl | hu
    · exact h2
    · exact less_tr h2 (p u hu)
theorem le_less {x y : List UInt8} (h : x ≤ y) (hn : x ≠ y) : Op.bytesLess x y = true := by
 rcases bl_tot x y hn with h1 | h1
 · exact h1
 ·
  exfalso
  refine hn (List.le_antisymm h ?_)
  have : y < x := by
   clear h hn
   induction y generalizing x with
   | nil => cases x with
    | nil => rw [bl_irr] at h1; cases h1
    | cons a r => exact List.nil_lt_cons _ _
   | cons b s ih => cases x with
    | nil => rw [bl_nil] at h1; cases h1
    | cons a r =>
     rw [bl_cons] at h1
     rcases h1 with h1 | ⟨e, h1⟩
     · exact List.Lex.rel h1
     ·
      subst e; exact List.Lex.cons (ih h1)
  exact List.le_of_lt this
theorem get_bang {zs : List (List UInt8)} {m : Nat} (h : m < zs.length) : zs.toArray[m]! = zs[m] := by
 rw [getElem!_pos zs.toArray m (by simpa using h)]; exact List.getElem_toArray _
theorem comp_told (zs : List (List UInt8)) (hs : zs.Pairwise (· ≤ ·)) : ∀ m, m ≤ zs.length → (Lib.compactUpTo zs.toArray m).Pairwise (fun a b => Op.bytesLess a b = true) ∧ (∀ t, t ∈ Lib.compactUpTo zs.toArray m ↔ t ∈ zs.take m) ∧ (0 < m → ∀ t ∈ Lib.compactUpTo zs.toArray m, t ≤ zs.toArray[m - 1]!) := by
 intro m
 induction m with
 | zero => intro _; simp [Lib.compactUpTo]
 | succ m ih =>
  intro hm; obtain ⟨h1, h2, h3⟩ := ih z161_; have hg : zs.toArray[m]! = zs[m] := get_bang z161_
  have htk : zs.take (m + 1) = zs.take m ++ [zs[m]] := by rw [List.take_add_one, List.getElem?_eq_getElem z161_]; rfl
  rw [Lib.compactUpTo_succ, show m + 1 - 1 = m from rfl, hg]
  have hle : ∀ t ∈ Lib.compactUpTo zs.toArray m, t ≤ zs[m] := by
   intro t ht; have ht' := (h2 t).1 ht; obtain ⟨j, hj, rfl⟩ := List.mem_take_iff_getElem.1 ht'; exact List.pairwise_iff_getElem.1 hs j m z161_ z161_ z161_
  by_cases hk : Lib.keeps zs.toArray m = true
  ·
   rw [if_pos hk]; refine ⟨?_, fun t => ?_, fun _ t ht => ?_⟩
   ·
    refine List.pairwise_append.2 ⟨h1, z219_, fun t ht u hu => ?_⟩
    obtain rfl : u = zs[m] := by simpa using hu
    refine le_less (hle t ht) (fun e => ?_)
    have hm0 : m ≠ 0 := by
     intro e0; subst e0; simp [Lib.compactUpTo] at ht
    have hk' : zs.toArray[m]! ≠ zs.toArray[m - 1]! := by
     simp only [Lib.keeps, decide_eq_true_eq] at hk; exact hk.resolve_left hm0
    have hg2 : zs.toArray[m - 1]! = zs[m - 1] := get_bang z161_; rw [hg, hg2] at hk'; have q1 := h3 z161_ t ht; rw [hg2, e] at q1; exact hk' (List.le_antisymm q1 (List.pairwise_iff_getElem.1 hs (m - 1) m z161_ z161_ z161_))
   · rw [htk, List.mem_append, List.mem_append, h2]
   ·
    rcases List.mem_append.1 ht with ht | ht
    · exact hle t ht
    ·
     obtain rfl : t = zs[m] := by simpa using ht
     exact List.le_refl _
  ·
   rw [if_neg hk, List.append_nil]; refine ⟨h1, fun t => ?_, fun _ t ht => hle t ht⟩
   have hk' : m ≠ 0 ∧ zs.toArray[m]! = zs.toArray[m - 1]! := by
    simp only [Lib.keeps, decide_eq_true_eq, not_or, Decidable.not_not] at hk; exact hk
   rw [htk, List.mem_append, h2]; refine ⟨fun h => .inl h, fun h => h.elim id (fun h => ?_)⟩
   obtain rfl : t = zs[m] := by simpa using h
   have hg2 : zs.toArray[m - 1]! = zs[m - 1] := get_bang z161_; rw [hg, hg2] at hk'; rw [hk'.2]; exact List.mem_take_iff_getElem.2 ⟨m - 1, z161_, rfl⟩
/-- Words made rising. -/
def ownB (xs : List ByteArray) : List ByteArray := compB (isB xs)
theorem own_eq (xs : List ByteArray) (h : xs.length ≤ 1000000) : f102.f xs = some (ownB xs) := by rw [f102.f, if_pos h]; rfl
theorem ownB_told (xs : List ByteArray) : Asc (ownB xs) ∧ ∀ t, t ∈ ownB xs ↔ t ∈ xs := by
 have hi : (isB xs).map ofB_ = insB (xs.map ofB_) := by
  unfold isB; rw [List.map_map]
  have : (ofB_ ∘ toB_) = id := by funext l; simp [ofB_, toB_]
  rw [this, List.map_id]
 obtain ⟨h1, h2, _⟩ := comp_told (insB (xs.map ofB_)) (insB_sorted _) _ (Nat.le_refl _); rw [List.take_length] at h2
 have e : ownB xs = (Lib.compactUpTo (insB (xs.map ofB_)).toArray (insB (xs.map ofB_)).length).map toB_ := by
  unfold ownB compB; rw [hi]
  rfl
 rw [e]; refine ⟨?_, fun t => ?_⟩
 ·
  unfold Asc; rw [List.pairwise_map]; refine h1.imp (fun {a b} hab => ?_); unfold lessB; rw [toList_data, toList_data]
  simpa [toB_] using hab
 ·
  rw [List.mem_map]
  constructor
  ·
   rintro ⟨l, hl, rfl⟩; have := (insB_perm _).mem_iff.1 ((h2 l).1 hl); obtain ⟨b, hb, rfl⟩ := List.mem_map.1 this
   rwa [toB_ofB]
  ·
   intro ht; exact ⟨ofB_ t, (h2 _).2 ((insB_perm _).mem_iff.2 (List.mem_map_of_mem ht)), toB_ofB t⟩
end Go.Proofs.YtbbmdakdghefnaaGreatDoor.Plain
