import Derived.Test.YtbbmdakdghefnaaGreatDoorQPYE
import Derived.Test.YtbbmdakdghefnaaGreatDoorQPYG
/- Texts of this claim, laid together by a program (merge.py): PY, PZ. -/
/- Plain facts for Query: a text's parts, and the query that is read, in the program and in the document's answer; QueryReads. -/
namespace Go.Proofs.YtbbmdakdghefnaaGreatDoor.Plain
set_option linter.unusedVariables false
set_option linter.unusedSimpArgs false
open Go.RowKit Go.Proofs.YtbbmdakdghefnaaGreatDoor.T Go.Proofs.YtbbmdakdghefnaaGreatDoorW.PrintWords Go.Proofs.YtbbmdakdghefnaaGreatDoorW.PrintLast Go.Proofs.YtbbmdakdghefnaaGreatDoorW.PrintMore
open Go.Proofs.YtbbmdakdghefnaaGreatDoor.KA (mkS mkS_size pTerm)
/-- The parts of a text, between a sign and the next one. -/
def cutB (c : UInt8) : List UInt8 → List UInt8 → List (List UInt8)
 | [], now => [now]
 | b :: t, now => if b = c then now :: cutB c t [] else cutB c t (now ++ [b])
theorem cut_none (c : UInt8) : ∀ (l now : List UInt8), c ∉ l → cutB c l now = [now ++ l]
 | [], now, _ => by simp [cutB]
 | b :: t, now, h => by
  rw [List.mem_cons, not_or] at h; rw [cutB, if_neg (fun e => h.1 e.symm), cut_none c t _ h.2]
  simp
theorem cut_hit (c : UInt8) (r : List UInt8) : ∀ (a now : List UInt8), c ∉ a → cutB c (a ++ c :: r) now = (now ++ a) :: cutB c r []
 | [], now, _ => by simp [cutB]
 | b :: t, now, h => by
  rw [List.mem_cons, not_or] at h; rw [List.cons_append, cutB, if_neg (fun e => h.1 e.symm), cut_hit c r t _ h.2]
  simp
theorem cut_len (c : UInt8) : ∀ (l now : List UInt8), (cutB c l now).length ≤ l.length + 1
 | [], now => by simp [cutB]
 | b :: t, now => by
  rw [cutB]
  split
  ·
   have := cut_len c t []; simp only [List.length_cons]; omega
  ·
   have := cut_len c t (now ++ [b]); simp only [List.length_cons]; omega
theorem cut_size (c : UInt8) : ∀ (l now : List UInt8), ∀ p ∈ cutB c l now, p.length ≤ now.length + l.length
 | [], now, p, h => by simp [cutB] at h; subst h; simp
 | b :: t, now, p, h => by
  rw [cutB] at h
  split at h
  ·
   rcases List.mem_cons.1 h with rfl | h
   · simp
   ·
    have := cut_size c t [] p h; simp only [List.length_nil, List.length_cons] at this ⊢; omega
  ·
   have := cut_size c t _ p h; simp only [List.length_append, List.length_cons, List.length_nil] at this ⊢; omega
theorem splitK_cut (c : UInt8) : ∀ (k : Nat) (l : List UInt8), l.count c = k → Lib.splitK [c] 0 k l = cutB c l []
 | 0, l, h => by rw [cut_none c l [] (List.count_eq_zero.1 h)]; rfl
 | k + 1, l, h => by
  have hm : c ∈ l := List.count_pos_iff.1 z161_; have hix := Lib.index_one l c
  have hn : Lib.indexByte l c ≠ -1 := by
   intro e; obtain ⟨j, hj, e2⟩ := List.getElem_of_mem hm; exact Lib.indexByte_none e j (by rw [List.getElem?_eq_getElem hj, e2])
  have hge := Lib.indexByte_ge l c; obtain ⟨o, ho⟩ : ∃ o : Nat, Lib.indexByte l c = (o : Int) := ⟨(Lib.indexByte l c).toNat, z161_⟩; obtain ⟨h1, h2⟩ := Lib.indexByte_some ho
  have hol : o < l.length := by
   rcases Nat.lt_or_ge o l.length with h | h
   · exact h
   · rw [List.getElem?_eq_none h] at h1; cases h1
  have hc : l[o] = c := by rw [List.getElem?_eq_getElem hol] at h1; exact Option.some.inj h1
  have hl : l = l.take o ++ c :: l.drop (o + 1) := by
   conv => lhs; rw [← List.take_append_drop o l, List.drop_eq_getElem_cons hol, hc]
  have hno : c ∉ l.take o := by
   intro hmem; obtain ⟨j, hj, e2⟩ := List.getElem_of_mem hmem
   have hj2 : j < o := by rw [List.length_take] at hj; omega
   refine h2 j hj2 ?_; rw [List.getElem_take] at e2; rw [List.getElem?_eq_getElem z161_, e2]
  have hcnt : (l.drop (o + 1)).count c = k := by
   have : l.count c = (l.take o).count c + (1 + (l.drop (o + 1)).count c) := by
    conv => lhs; rw [hl]
    rw [List.count_append, List.count_cons_self]; omega
   rw [List.count_eq_zero.2 hno] at this; omega
  rw [Lib.splitK, hix, ho, if_neg (by rw [beq_iff_eq]; omega), Int.toNat_natCast, Nat.add_zero, List.length_singleton, splitK_cut c k _ hcnt]
  conv => rhs; rw [hl]
  rw [cut_hit c _ _ _ hno, List.nil_append]
def partsP (c : UInt8) (a : ByteArray) : List ByteArray := (cutB c a.data.toList []).map mkS
theorem split_eq (c : UInt8) (a : ByteArray) (h : a.size < 4294967281) : f59.f a ⟨#[c]⟩ = some (partsP c a) := by
 unfold f59.f partsP; rw [if_pos ⟨h, rfl⟩]; have h1 := Lib.splitB_data ⟨#[c]⟩ 0 (Lib.countB a ⟨#[c]⟩) a
 have h2 : Lib.countB a ⟨#[c]⟩ = a.data.toList.count c := by
  show Lib.count a.data.toList [c] = _; exact Lib.count_one c _
 rw [h2] at h1 ⊢; have h3 := splitK_cut c _ a.data.toList rfl; rw [show (⟨#[c]⟩ : ByteArray).data.toList = [c] from rfl, h3] at h1; rw [← h1, List.map_map]
 congr 1
 conv => lhs; rw [← List.map_id (Lib.splitB _ _ _ _)]
 refine List.map_congr_left (fun x _ => ?_); exact (KC.mkS_data x).symm
theorem parts_len (c : UInt8) (a : ByteArray) : (partsP c a).length ≤ a.size + 1 := by
 have := cut_len c a.data.toList []; rw [size_list] at this
 simpa [partsP] using this
theorem parts_size (c : UInt8) (a : ByteArray) : ∀ p ∈ partsP c a, p.size ≤ a.size := by
 intro p hp; obtain ⟨l, hl, rfl⟩ := List.mem_map.1 hp; have := cut_size c a.data.toList [] l hl; rw [size_list] at this; rw [mkS_size]
 simpa using this
def termB (w : ByteArray) : Bool := pTerm w.data.toList
/-- The node that a part makes. -/
def nodeP (p : ByteArray) : Int × List ByteArray × Int × Int × Bool :=
 if (partsP 43 p).all termB = true then (if (partsP 43 p).length = 1 then (0, partsP 43 p, 0, 0, true) else (1, partsP 43 p, 0, 0, true)) else (0, [], 0, 0, false)
theorem index70 (l : List ByteArray) (hl : l.length ≤ 1000000) : ∀ (d i k : Nat), i + d = l.length → 400 + d < k → ∃ r : Int, f9.l0 k l (l.length : Int) (i : Int) = some r ∧ decide (r ≥ 0) = !(l.drop i).all termB := by
 intro d
 induction d with
 | zero =>
  intro i k hd hk; obtain ⟨k, rfl⟩ : ∃ m, k = m + 1 := ⟨k - 1, z161_⟩; rw [f9.l0, if_neg z161_, List.drop_eq_nil_of_le z161_]; exact ⟨-1, rfl, rfl⟩
 | succ d ih =>
  intro i k hd hk; obtain ⟨k, rfl⟩ : ∃ m, k = m + 1 := ⟨k - 1, z161_⟩; have hi : i < l.length := z161_; rw [f9.l0, if_pos z161_, if_pos z161_, if_pos z161_, rdOf_nat l i hi, f92.f, KC.Term_eq k _ z161_, Option.bind_some, Option.bind_some, List.drop_eq_getElem_cons hi, List.all_cons, Plain.w1 i z161_]
  cases h : pTerm l[i].data.toList
  ·
   refine ⟨(i : Int), by rw [if_pos z106_], ?_⟩; rw [decide_eq_true (show (i : Int) ≥ 0 from z161_), termB, h]; rfl
  ·
   obtain ⟨r, h1, h2⟩ := ih (i + 1) k z161_ z161_; refine ⟨r, by rw [if_neg z106_]; exact h1, ?_⟩; rw [h2, termB, h, Bool.true_and]
theorem qnode_eq (p : ByteArray) (hp : p.size ≤ 1000) (k : Nat) (hk : 2000 ≤ k) : f88.f k p = some (nodeP p) := by
 have hl := parts_len 43 p; obtain ⟨r, h1, h2⟩ := index70 (partsP 43 p) z161_ (partsP 43 p).length 0 k z161_ z161_; unfold f88.f f35.f f9.f; rw [split_eq 43 p z161_, Option.bind_some]; rw [show f9.l0 k (partsP 43 p) ((partsP 43 p).length : Int) 0 = some r from h1, Option.bind_some, Option.bind_some, h2, List.drop_zero]; unfold nodeP
 cases h : (partsP 43 p).all termB
 · simp
 ·
  simp only [Bool.not_true, Bool.false_eq_true, if_false, if_true]
  by_cases h3 : (partsP 43 p).length = 1
  · rw [if_pos z161_, if_pos h3]
  · rw [if_neg z161_, if_neg h3]
theorem node_len (p : ByteArray) (hp : p.size ≤ 999) : (nodeP p).2.1.length ≤ 1000 := by
 have hl := parts_len 43 p; unfold nodeP
 split
 ·
  split
  · simp only; omega
  · simp only; omega
 · simp
theorem qsign_eq (p : ByteArray) (hp : p.size ≤ 1000) : f106.f p = some (signF p, decide (signF p ≠ 0)) := by
 unfold f106.f; rw [if_pos (by unfold maxLen; omega)]
/-- What is read of parts: nodes, and those that are left. -/
def readP : List ByteArray → List S37 → List Int → Option (List S37 × List Int)
 | [], q, l => some (q, l)
 | p :: r, q, l =>
  if signF p ≠ 0 then (if l.length < 2 then none else readP r (q ++ [⟨signF p, [], rd l ((l.length - 2 : Nat) : Int), rd l ((l.length - 1 : Nat) : Int)⟩]) (l.take (l.length - 2) ++ [(q.length : Int)]))
  else if (nodeP p).2.2.2.2 = true then readP r (q ++ [⟨(nodeP p).1, (nodeP p).2.1, (nodeP p).2.2.1, (nodeP p).2.2.2.1⟩]) (l ++ [(q.length : Int)]) else none
def endP : Option (List S37 × List Int) → List S37 × Int
 | none => ([], 5)
 | some (q, l) => if l.length = 1 then (if mayP q = true then (q, 0) else ([], 8)) else ([], 5)
theorem qread_loop (ps : List ByteArray) (hps : ps.length ≤ 1000) (hsz : ∀ p ∈ ps, p.size ≤ 999) : ∀ (d i k : Nat) (q : List S37) (l : List Int), i + d = ps.length → 6000 + d ≤ k → q.length ≤ i → l.length ≤ i → (∀ x ∈ q, x.f1.length ≤ 1000) →
  f16.l0 k q l ps (ps.length : Int) (i : Int) = some (endP (readP (ps.drop i) q l)) := by
 intro d
 induction d with
 | zero =>
  intro i k q l hd hk hq hl hx; obtain ⟨k, rfl⟩ : ∃ m, k = m + 1 := ⟨k - 1, z161_⟩; rw [f16.l0, if_neg z161_, List.drop_eq_nil_of_le (show ps.length ≤ i from z161_), readP, endP]
  by_cases h : l.length = 1
  ·
   rw [if_pos z161_, if_pos h, qmay_gen q z161_ hx k z161_, Option.bind_some]
   cases mayP q <;> rfl
  · rw [if_neg z161_, if_neg h]
 | succ d ih =>
  intro i k q l hd hk hq hl hx; obtain ⟨k, rfl⟩ : ∃ m, k = m + 1 := ⟨k - 1, z161_⟩; have hi : i < ps.length := z161_; have hpi := hsz _ (List.getElem_mem hi); rw [f16.l0, if_pos z161_, if_pos z161_, if_pos z161_, rdOf_nat ps i hi, qnode_eq _ z161_ k z161_, Option.bind_some, qsign_eq _ z161_, Option.bind_some, List.drop_eq_getElem_cons hi, readP, Plain.w1 i z161_]
  by_cases hs : signF ps[i] ≠ 0
  ·
   simp only [decide_eq_true hs, if_true]; rw [if_pos hs]
   by_cases h2 : l.length < 2
   · rw [if_pos z161_, if_pos h2]; rfl
   ·
    have e2 : wrap64 ((l.length : Int) - 2) = ((l.length - 2 : Nat) : Int) := z237_; have e1 : wrap64 ((l.length : Int) - 1) = ((l.length - 1 : Nat) : Int) := z237_; rw [if_neg z161_, if_neg h2, e2, e1, if_pos z161_, if_pos z161_, if_pos z161_, if_pos z161_, if_pos z161_, Option.bind_some, Int.toNat_natCast, if_pos z216_, if_pos z161_]
    exact ih (i + 1) k _ _ z161_ z161_ z223_ z223_ (fun x hxm => by
     rcases List.mem_append.1 hxm with h | h
     · exact hx x h
     · rw [List.mem_singleton] at h; subst h; simp)
  ·
   simp only [decide_eq_false hs, Bool.false_eq_true, if_false]; rw [if_neg hs]
   by_cases hb : (nodeP ps[i]).2.2.2.2 = true
   ·
    rw [if_pos hb, if_pos hb, if_pos z161_, if_pos z161_]
    exact ih (i + 1) k _ _ z161_ z161_ z223_ z223_ (fun x hxm => by
     rcases List.mem_append.1 hxm with h | h
     · exact hx x h
     · rw [List.mem_singleton] at h; subst h; exact node_len _ hpi)
   · rw [if_neg hb, if_neg hb]; rfl
/-- What is read of a text. -/
def readT (a : ByteArray) : List S37 × Int := endP (readP (partsP 32 a) [] [])
theorem qread_eq (a : ByteArray) (ha : a.size ≤ 900) (k : Nat) (hk : 8000 ≤ k) : f16.f k a = some (readT a) := by
 have hl := parts_len 32 a; have := qread_loop (partsP 32 a) z161_ (fun p hp => by have := parts_size 32 a p hp; omega) (partsP 32 a).length 0 k [] [] z161_ z161_ z219_ z219_ (fun x h => by cases h); unfold f16.f readT; rw [split_eq 32 a z161_, Option.bind_some]
 simpa using this
theorem same_loop (q : List S37) (hq : q.length ≤ 1000000) (hx : ∀ x ∈ q, x.f1.length ≤ 1000000) : ∀ (d i k : Nat), i + d = q.length → (∀ x ∈ q, x.f1.length + d < k) → d < k → f19.l0 k q q (i : Int) = some true := by
 intro d
 induction d with
 | zero =>
  intro i k hd hk hk2; obtain ⟨k, rfl⟩ : ∃ m, k = m + 1 := ⟨k - 1, z161_⟩; rw [f19.l0, if_neg z161_]
 | succ d ih =>
  intro i k hd hk hk2; obtain ⟨k, rfl⟩ : ∃ m, k = m + 1 := ⟨k - 1, z161_⟩; have hi : i < q.length := z161_; have h1 := hk _ (List.getElem_mem hi); rw [f19.l0, if_pos z161_, if_pos z161_, if_pos z161_, rd37 q i hi, texts_eq _ _ (hx _ (List.getElem_mem hi)) k z161_, Option.bind_some, if_pos z219_, if_pos rfl, if_pos rfl, if_pos rfl, Plain.w1 i z161_]; exact ih (i + 1) k z161_ (fun x h => by have := hk x h; omega) z161_
theorem same_self (q : List S37) (hq : q.length ≤ 1000) (hx : ∀ x ∈ q, x.f1.length ≤ 1000) (k : Nat) (hk : 3000 ≤ k) : f19.f k q q = some true := by
 unfold f19.f; rw [if_pos rfl]; have := same_loop q z161_ (fun x h => by have := hx x h; omega) q.length 0 k z161_ (fun x h => by have := hx x h; omega) z161_
 simpa using this
end Go.Proofs.YtbbmdakdghefnaaGreatDoor.Plain
/- Plain facts for Query: two texts one behind the other, with a sign behind; QueryPuts. -/
namespace Go.Proofs.YtbbmdakdghefnaaGreatDoor.Plain
set_option linter.unusedVariables false
set_option linter.unusedSimpArgs false
open Go.RowKit Go.Proofs.YtbbmdakdghefnaaGreatDoor.T Go.Proofs.YtbbmdakdghefnaaGreatDoorW.PrintWords Go.Proofs.YtbbmdakdghefnaaGreatDoorW.PrintLast Go.Proofs.YtbbmdakdghefnaaGreatDoorW.PrintMore
open Go.Proofs.YtbbmdakdghefnaaGreatDoor.KA (mkS mkS_size pTerm)
theorem cut_join (c : UInt8) (r : List UInt8) : ∀ (l now : List UInt8), cutB c (l ++ c :: r) now = cutB c l now ++ cutB c r []
 | [], now => by simp [cutB]
 | b :: t, now => by
  rw [List.cons_append, cutB, cutB]
  split
  · rw [cut_join c r t []]; rfl
  · exact cut_join c r t _
theorem parts_two (a b : ByteArray) : partsP 32 ((a ++ (⟨#[32]⟩ : ByteArray)) ++ b) = partsP 32 a ++ partsP 32 b := by
 unfold partsP
 have : ((a ++ (⟨#[32]⟩ : ByteArray)) ++ b).data.toList = a.data.toList ++ 32 :: b.data.toList := by simp [ByteArray.data_append]
 rw [this, cut_join, List.map_append]
theorem parts_three (a b : ByteArray) : partsP 32 (((a ++ (⟨#[32]⟩ : ByteArray)) ++ b) ++ (⟨#[32, 124]⟩ : ByteArray)) = (partsP 32 a ++ partsP 32 b) ++ [⟨#[124]⟩] := by
 have : (((a ++ (⟨#[32]⟩ : ByteArray)) ++ b) ++ (⟨#[32, 124]⟩ : ByteArray)).data.toList = (a.data.toList ++ 32 :: b.data.toList) ++ 32 :: [124] := by simp [ByteArray.data_append]
 unfold partsP; rw [this, cut_join, cut_join, List.map_append, List.map_append]
 rfl
/-- One part. -/
def stepR (p : ByteArray) (q : List S37) (l : List Int) : Option (List S37 × List Int) :=
 if signF p ≠ 0 then (if l.length < 2 then none else some (q ++ [⟨signF p, [], rd l ((l.length - 2 : Nat) : Int), rd l ((l.length - 1 : Nat) : Int)⟩], l.take (l.length - 2) ++ [(q.length : Int)]))
 else if (nodeP p).2.2.2.2 = true then some (q ++ [⟨(nodeP p).1, (nodeP p).2.1, (nodeP p).2.2.1, (nodeP p).2.2.2.1⟩], l ++ [(q.length : Int)]) else none
theorem readP_cons (p : ByteArray) (r : List ByteArray) (q : List S37) (l : List Int) : readP (p :: r) q l = (stepR p q l).bind fun z => readP r z.1 z.2 := by
 unfold stepR; rw [readP]
 by_cases h : signF p ≠ 0
 ·
  rw [if_pos h, if_pos h]
  by_cases h2 : l.length < 2
  · rw [if_pos h2, if_pos h2]; rfl
  · rw [if_neg h2, if_neg h2]; rfl
 ·
  rw [if_neg h, if_neg h]
  by_cases h2 : (nodeP p).2.2.2.2 = true
  · rw [if_pos h2, if_pos h2]; rfl
  · rw [if_neg h2, if_neg h2]; rfl
theorem readP_app : ∀ (r s : List ByteArray) (q : List S37) (l : List Int), readP (r ++ s) q l = (readP r q l).bind fun z => readP s z.1 z.2
 | [], s, q, l => by rw [List.nil_append, readP]; rfl
 | p :: r, s, q, l => by
  rw [List.cons_append, readP_cons, readP_cons]
  cases stepR p q l with
  | none => rfl
  | some z => exact readP_app r s z.1 z.2
def shN (n : Nat) (x : S37) : S37 := if x.f0 ≥ 2 then ⟨x.f0, x.f1, x.f2 + (n : Int), x.f3 + (n : Int)⟩ else x
theorem sign_two (p : ByteArray) (h : signF p ≠ 0) : signF p ≥ 2 := by
 unfold signF at h ⊢
 by_cases e1 : p = ⟨#[33]⟩
 · rw [if_pos e1]; omega
 ·
  rw [if_neg e1] at h ⊢
  by_cases e2 : p = ⟨#[124]⟩
  · rw [if_pos e2]; omega
  ·
   rw [if_neg e2] at h ⊢
   by_cases e3 : p = ⟨#[38]⟩
   · rw [if_pos e3]; omega
   · rw [if_neg e3] at h; exact absurd rfl h
theorem node_op (p : ByteArray) : (nodeP p).1 < 2 := by
 unfold nodeP
 split
 ·
  split
  · simp only; omega
  · simp only; omega
 · simp only; omega
theorem step_shift (p0 : List S37) (l0 : List Int) (p : ByteArray) (q : List S37) (l : List Int) (q' : List S37) (l' : List Int) (h : stepR p q l = some (q', l')) :
  stepR p (p0 ++ q.map (shN p0.length)) (l0 ++ l.map (· + (p0.length : Int))) = some (p0 ++ q'.map (shN p0.length), l0 ++ l'.map (· + (p0.length : Int))) := by
 unfold stepR at h ⊢
 by_cases hs : signF p ≠ 0
 ·
  rw [if_pos hs] at h ⊢
  by_cases h2 : l.length < 2
  · rw [if_pos h2] at h; cases h
  ·
   rw [if_neg h2] at h
   injection h with h
   injection h with ha hb
   subst ha hb; have hlen : (l0 ++ l.map (· + (p0.length : Int))).length = l0.length + l.length := z219_
   have hr : ∀ i, i < l.length → rd (l0 ++ l.map (· + (p0.length : Int))) ((l0.length + i : Nat) : Int) = rd l (i : Int) + (p0.length : Int) := by
    intro i hi; rw [rd_nat _ _ (by rw [hlen]; omega), rd_nat l i hi, List.getElem_append_right z161_, List.getElem_map]
    simp
   have e1 : l0.length + l.length - 2 = l0.length + (l.length - 2) := z161_; have e2 : l0.length + l.length - 1 = l0.length + (l.length - 1) := z161_; have hsg := sign_two p hs; rw [hlen, if_neg z161_, e1, e2, hr _ z161_, hr _ z161_, List.take_append, List.take_of_length_le (show l0.length ≤ l0.length + (l.length - 2) from z161_), show l0.length + (l.length - 2) - l0.length = l.length - 2 from z161_]; simp only [List.map_append, List.map_cons, List.map_nil, List.append_assoc, List.length_append, List.length_map, List.map_take]; rw [show shN p0.length ⟨signF p, [], rd l ((l.length - 2 : Nat) : Int), rd l ((l.length - 1 : Nat) : Int)⟩ = ⟨signF p, [], rd l ((l.length - 2 : Nat) : Int) + (p0.length : Int), rd l ((l.length - 1 : Nat) : Int) + (p0.length : Int)⟩ from if_pos hsg]; rw [show ((p0.length + q.length : Nat) : Int) = (q.length : Int) + (p0.length : Int) from z161_]
 ·
  rw [if_neg hs] at h ⊢
  by_cases h2 : (nodeP p).2.2.2.2 = true
  ·
   rw [if_pos h2] at h ⊢
   injection h with h
   injection h with ha hb
   subst ha hb; have hop := node_op p; simp only [List.map_append, List.map_cons, List.map_nil, List.append_assoc, List.length_append, List.length_map]; rw [show shN p0.length ⟨(nodeP p).1, (nodeP p).2.1, (nodeP p).2.2.1, (nodeP p).2.2.2.1⟩ = ⟨(nodeP p).1, (nodeP p).2.1, (nodeP p).2.2.1, (nodeP p).2.2.2.1⟩ from if_neg (by simp only; omega)]; rw [show ((p0.length + q.length : Nat) : Int) = (q.length : Int) + (p0.length : Int) from z161_]
  · rw [if_neg h2] at h; cases h
theorem read_shift (p0 : List S37) (l0 : List Int) : ∀ (r : List ByteArray) (q : List S37) (l : List Int) (q' : List S37) (l' : List Int), readP r q l = some (q', l') →
  readP r (p0 ++ q.map (shN p0.length)) (l0 ++ l.map (· + (p0.length : Int))) = some (p0 ++ q'.map (shN p0.length), l0 ++ l'.map (· + (p0.length : Int)))
 | [], q, l, q', l', h => by
  rw [readP] at h ⊢
  injection h with h
  injection h with ha hb
  rw [ha, hb]
 | p :: r, q, l, q', l', h => by
  rw [readP_cons] at h ⊢
  cases hs : stepR p q l with
  | none => rw [hs] at h; cases h
  | some z =>
   obtain ⟨q1, l1⟩ := z; rw [hs, Option.bind_some] at h; rw [step_shift p0 l0 p q l q1 l1 hs, Option.bind_some]; exact read_shift p0 l0 r q1 l1 q' l' h
/-- What is read: the last of those that are left is the last node; places are none below 0. -/
def GoodR (q : List S37) (l : List Int) : Prop := q ≠ [] ∧ ∃ l1, l = l1 ++ [((q.length - 1 : Nat) : Int)]
def PosR (q : List S37) (l : List Int) : Prop := (∀ i ∈ l, 0 ≤ i) ∧ ∀ x ∈ q, x.f0 ≥ 2 → 0 ≤ x.f2 ∧ 0 ≤ x.f3
theorem posR_nil : PosR [] [] := ⟨z219_, z219_⟩
theorem rd_pos (l : List Int) (h : ∀ i ∈ l, (0 : Int) ≤ i) (i : Nat) (hi : i < l.length) : 0 ≤ rd l (i : Int) := by
 rw [rd_nat l i hi]; exact h _ (List.getElem_mem hi)
theorem step_good (p : ByteArray) (q : List S37) (l : List Int) (q' : List S37) (l' : List Int) (h : stepR p q l = some (q', l')) (hp : PosR q l) : GoodR q' l' ∧ PosR q' l' := by
 unfold stepR at h; obtain ⟨h1, h2⟩ := hp
 by_cases hs : signF p ≠ 0
 ·
  rw [if_pos hs] at h
  by_cases hl : l.length < 2
  · rw [if_pos hl] at h; cases h
  ·
   rw [if_neg hl] at h
   injection h with h
   injection h with ha hb
   subst ha hb; refine ⟨⟨z219_, l.take (l.length - 2), z219_⟩, fun i hi => ?_, fun x hx hop => ?_⟩
   ·
    rcases List.mem_append.1 hi with hi | hi
    · exact h1 i (List.mem_of_mem_take hi)
    · rw [List.mem_singleton] at hi; omega
   ·
    rcases List.mem_append.1 hx with hx | hx
    · exact h2 x hx hop
    ·
     rw [List.mem_singleton] at hx; subst hx; exact ⟨rd_pos l h1 _ z161_, rd_pos l h1 _ z161_⟩
 ·
  rw [if_neg hs] at h
  by_cases hn : (nodeP p).2.2.2.2 = true
  ·
   rw [if_pos hn] at h
   injection h with h
   injection h with ha hb
   subst ha hb; refine ⟨⟨z219_, l, z219_⟩, fun i hi => ?_, fun x hx hop => ?_⟩
   ·
    rcases List.mem_append.1 hi with hi | hi
    · exact h1 i hi
    · rw [List.mem_singleton] at hi; omega
   ·
    rcases List.mem_append.1 hx with hx | hx
    · exact h2 x hx hop
    ·
     rw [List.mem_singleton] at hx; subst hx; have := node_op p; simp only at hop; omega
  · rw [if_neg hn] at h; cases h
theorem read_good : ∀ (r : List ByteArray) (q : List S37) (l : List Int) (q' : List S37) (l' : List Int), readP r q l = some (q', l') → PosR q l → (r ≠ [] ∨ GoodR q l) → GoodR q' l' ∧ PosR q' l'
 | [], q, l, q', l', h, hp, hg => by
  rw [readP] at h
  injection h with h
  injection h with ha hb
  subst ha hb
  rcases hg with hg | hg
  · exact absurd rfl hg
  · exact ⟨hg, hp⟩
 | p :: r, q, l, q', l', h, hp, _ => by
  rw [readP_cons] at h
  cases hs : stepR p q l with
  | none => rw [hs] at h; cases h
  | some z =>
   obtain ⟨q1, l1⟩ := z; rw [hs, Option.bind_some] at h; obtain ⟨g1, g2⟩ := step_good p q l q1 l1 hs hp; exact read_good r q1 l1 q' l' h g2 (.inr g1)
theorem parts_ne (c : UInt8) (a : ByteArray) : partsP c a ≠ [] := by
 unfold partsP
 have : ∀ (l now : List UInt8), cutB c l now ≠ [] := by
  intro l
  induction l with
  | nil => intro now; simp [cutB]
  | cons b t ih =>
   intro now; rw [cutB]
   split
   · simp
   · exact ih _
 simp [this]
/-- A text that is read: what comes of its parts. -/
theorem end_cases (z : Option (List S37 × List Int)) : endP z = ([], 5) ∨ ∃ q l, z = some (q, l) ∧ l.length = 1 ∧ (mayP q = true ∧ endP z = (q, 0) ∨ mayP q = false ∧ endP z = ([], 8)) := by
 cases z with
 | none => exact .inl rfl
 | some z =>
  obtain ⟨q, l⟩ := z
  by_cases h : l.length = 1
  ·
   refine .inr ⟨q, l, rfl, h, ?_⟩; rw [endP, if_pos h]
   cases hm : mayP q
   · exact .inr ⟨rfl, by rw [if_neg z106_]⟩
   · exact .inl ⟨rfl, by rw [if_pos rfl]⟩
  · exact .inl (by rw [endP, if_neg h])
/-- Both, joined. -/
def bothP (p q : List S37) : List S37 := (p ++ q.map (shN p.length)) ++ [⟨3, [], ((p.length - 1 : Nat) : Int), ((p.length + q.length - 1 : Nat) : Int)⟩]
theorem read_two (a b : ByteArray) (p q : List S37) (i j : List Int) (ha : readP (partsP 32 a) [] [] = some (p, i)) (hb : readP (partsP 32 b) [] [] = some (q, j)) (hi : i.length = 1) (hj : j.length = 1) :
  p ≠ [] ∧ q ≠ [] ∧ PosR q j ∧ readP (partsP 32 a ++ partsP 32 b) [] [] = some (p ++ q.map (shN p.length), [((p.length - 1 : Nat) : Int), ((p.length + q.length - 1 : Nat) : Int)]) := by
 obtain ⟨⟨p1, x, hx⟩, p3⟩ := read_good _ _ _ p i ha posR_nil (.inl (parts_ne _ _)); obtain ⟨⟨q1, y, hy⟩, q3⟩ := read_good _ _ _ q j hb posR_nil (.inl (parts_ne _ _))
 have hx0 : x = [] := by
  have : x.length = 0 := by rw [hx] at hi; simp at hi; simpa using hi
  exact List.eq_nil_of_length_eq_zero this
 have hy0 : y = [] := by
  have : y.length = 0 := by rw [hy] at hj; simp at hj; simpa using hj
  exact List.eq_nil_of_length_eq_zero this
 subst hx0 hy0; rw [List.nil_append] at hx hy; refine ⟨p1, q1, q3, ?_⟩; rw [readP_app, ha, Option.bind_some]; have := read_shift p i (partsP 32 b) [] [] q j hb; simp only [List.map_nil, List.append_nil] at this; rw [this, hx, hy]; have hq := List.length_pos_iff.2 q1; have hp := List.length_pos_iff.2 p1; simp only [List.map_cons, List.map_nil, List.singleton_append]; rw [show ((q.length - 1 : Nat) : Int) + (p.length : Int) = ((p.length + q.length - 1 : Nat) : Int) from z161_]
theorem read_three (a b : ByteArray) (p q : List S37) (i j : List Int) (ha : readP (partsP 32 a) [] [] = some (p, i)) (hb : readP (partsP 32 b) [] [] = some (q, j)) (hi : i.length = 1) (hj : j.length = 1) :
  ∃ l, l.length = 1 ∧ readP ((partsP 32 a ++ partsP 32 b) ++ [⟨#[124]⟩]) [] [] = some (bothP p q, l) := by
 obtain ⟨p1, q1, _, h⟩ := read_two a b p q i j ha hb hi hj; refine ⟨[((p ++ q.map (shN p.length)).length : Int)], rfl, ?_⟩; rw [readP_app, h, Option.bind_some, readP_cons]
 have hs : signF ⟨#[124]⟩ = 3 := by
  unfold signF; rw [if_neg z106_, if_pos rfl]
 unfold stepR; rw [hs, if_pos z106_]; simp only [List.length_cons, List.length_nil, Nat.reduceAdd, Nat.lt_irrefl, if_false, Option.bind_some]; rw [readP]
 rfl
theorem right_shift (n k : Nat) (x : S37) (hpos : x.f0 ≥ 2 → 0 ≤ x.f2 ∧ 0 ≤ x.f3) (h : rightP (shN n x) ((n + k : Nat) : Int) = true) : rightP x (k : Int) = true := by
 by_cases h2 : x.f0 ≥ 2
 ·
  obtain ⟨a, b⟩ := hpos h2; rw [show shN n x = ⟨x.f0, x.f1, x.f2 + (n : Int), x.f3 + (n : Int)⟩ from if_pos h2] at h; unfold rightP kindP at h ⊢; simp only [Bool.and_eq_true] at h ⊢; refine ⟨h.1, ?_⟩; have hk := h.2; rw [if_neg z161_, if_neg z161_] at hk ⊢
  by_cases h4 : x.f0 = 2 ∨ x.f0 = 3 ∨ x.f0 = 4
  ·
   rw [if_pos h4] at hk ⊢; simp only [Bool.and_eq_true, decide_eq_true_eq] at hk ⊢; exact ⟨hk.1, a, z161_, b, z161_⟩
  · rw [if_neg h4] at hk; cases hk
 ·
  rw [show shN n x = x from if_neg h2] at h; unfold rightP kindP at h ⊢; simp only [Bool.and_eq_true] at h ⊢; refine ⟨h.1, ?_⟩; have hk := h.2
  by_cases e0 : x.f0 = 0
  · rw [if_pos e0] at hk ⊢; exact hk
  ·
   rw [if_neg e0] at hk ⊢
   by_cases e1 : x.f0 = 1
   · rw [if_pos e1] at hk ⊢; exact hk
   · rw [if_neg e1, if_neg z161_] at hk; cases hk
theorem rowsP_app (p q : List S37) (rows : List (List ByteArray)) : rowsP (p ++ q) rows = rowsP q (rowsP p rows) := by unfold rowsP; rw [List.foldl_append]
theorem rowsP_asc : ∀ (q : List S37) (rows : List (List ByteArray)), (∀ r ∈ rows, Asc r) → ∀ r ∈ rowsP q rows, Asc r
 | [], rows, h => h
 | x :: q, rows, h => rowsP_asc q (rows ++ [rowP rows x]) (fun r hr => by
  rcases List.mem_append.1 hr with hr | hr
  · exact h r hr
  ·
   rw [List.mem_singleton] at hr; subst hr
   exact fold_asc _ _ List.Pairwise.nil)
theorem rows_shift (r0 : List (List ByteArray)) : ∀ (q : List S37) (rows : List (List ByteArray)), (∀ (k : Nat) (h : k < q.length), rightP q[k] ((rows.length + k : Nat) : Int) = true) → rowsP (q.map (shN r0.length)) (r0 ++ rows) = r0 ++ rowsP q rows
 | [], rows, _ => rfl
 | x :: q, rows, hr => by
  have h0 := hr 0 z219_; simp only [List.getElem_cons_zero, Nat.add_zero] at h0; obtain ⟨_, hop⟩ := right_told h0
  have hrd : ∀ a : Int, 0 ≤ a → a < (rows.length : Int) → rd_L3 (r0 ++ rows) (a + (r0.length : Int)) = rd_L3 rows a := by
   intro a h1 h2; obtain ⟨n, rfl⟩ : ∃ n : Nat, a = (n : Int) := ⟨a.toNat, z161_⟩; rw [show (n : Int) + (r0.length : Int) = ((r0.length + n : Nat) : Int) from z161_, rdL3_nat _ _ z223_, rdL3_nat rows n z161_, List.getElem_append_right z161_]
   simp
  have he : rowP (r0 ++ rows) (shN r0.length x) = rowP rows x := by
   have hf : rowFrom (r0 ++ rows) (shN r0.length x) = rowFrom rows x := by
    rcases hop with ⟨e, _⟩ | ⟨e, _, a1, a2, b1, b2⟩
    ·
     rw [show shN r0.length x = x from if_neg z161_]; unfold rowFrom; rw [if_neg z161_, if_neg z161_, if_neg z161_, if_neg z161_]
    ·
     rw [show shN r0.length x = ⟨x.f0, x.f1, x.f2 + (r0.length : Int), x.f3 + (r0.length : Int)⟩ from if_pos z161_]; unfold rowFrom; simp only [hrd _ a1 a2, hrd _ b1 b2]
   unfold rowP; rw [hf]
  have ih := rows_shift r0 q (rows ++ [rowP rows x]) (fun k h => by
   have := hr (k + 1) z223_; simp only [List.getElem_cons_succ] at this
   simpa [Nat.add_comm, Nat.add_left_comm, Nat.add_assoc] using this)
  show rowsP (q.map (shN r0.length)) ((r0 ++ rows) ++ [rowP (r0 ++ rows) (shN r0.length x)]) = _; rw [he, List.append_assoc, ih]
  rfl
theorem may_both (p q : List S37) (hp : p ≠ []) (hq : q ≠ []) (hpos : ∀ x ∈ q, x.f0 ≥ 2 → 0 ≤ x.f2 ∧ 0 ≤ x.f3) (h : mayP (bothP p q) = true) : mayP p = true ∧ mayP q = true := by
 obtain ⟨h0, h12, hr, h6⟩ := mayP_told h; have hp0 := List.length_pos_iff.2 hp; have hq0 := List.length_pos_iff.2 hq
 have hlen : (bothP p q).length = p.length + q.length + 1 := by simp [bothP]; omega
 have hr' := (allR_told _ _ 0 z161_).1 hr
 have rp : ∀ (j : Nat) (h : j < p.length), rightP p[j] (j : Int) = true := by
  intro j hj; have := hr' j z161_ z161_
  simpa [bothP, List.getElem_append, hj, Nat.lt_add_right] using this
 have rq : ∀ (k : Nat) (h : k < q.length), rightP q[k] (k : Int) = true := by
  intro k hk; have := hr' (p.length + k) z161_ z161_; refine right_shift p.length k q[k] (hpos _ (List.getElem_mem hk)) ?_
  have e : (bothP p q)[p.length + k]'z161_ = shN p.length q[k] := by
   unfold bothP; rw [List.getElem_append_left z223_, List.getElem_append_right z161_, List.getElem_map]
   simp
  rw [e] at this; exact this
 have lp : (rowsP p []).length = p.length := by rw [rowsP_len]; simp
 have lq : (rowsP q []).length = q.length := by rw [rowsP_len]; simp
 have hrows : rowsP (bothP p q) [] = (rowsP p [] ++ rowsP q []) ++ [rowP (rowsP p [] ++ rowsP q []) ⟨3, [], ((p.length - 1 : Nat) : Int), ((p.length + q.length - 1 : Nat) : Int)⟩] := by
  unfold bothP; rw [rowsP_app, rowsP_app]; have := rows_shift (rowsP p []) q [] (fun k h => by simpa using rq k h); rw [lp, List.append_nil] at this; rw [this]
  rfl
 have hlast : lastRow (bothP p q) = rowP (rowsP p [] ++ rowsP q []) ⟨3, [], ((p.length - 1 : Nat) : Int), ((p.length + q.length - 1 : Nat) : Int)⟩ := by
  unfold lastRow; rw [hrows, hlen, rdL3_nat _ (p.length + q.length + 1 - 1) (by simp [lp, lq]), List.getElem_append_right (by simp [lp, lq])]
  simp
 have ep : rd_L3 (rowsP p [] ++ rowsP q []) ((p.length - 1 : Nat) : Int) = lastRow p := by
  unfold lastRow; rw [rdL3_nat _ (p.length - 1) (by simp [lp, lq]; omega), rdL3_nat _ (p.length - 1) z161_, List.getElem_append_left]
 have eq : rd_L3 (rowsP p [] ++ rowsP q []) ((p.length + q.length - 1 : Nat) : Int) = lastRow q := by
  unfold lastRow; rw [rdL3_nat _ (p.length + q.length - 1) (by simp [lp, lq]; omega), rdL3_nat _ (q.length - 1) z161_, List.getElem_append_right z161_]
  congr 1
  omega
 have hmem : ∀ t, (t ∈ lastRow p ∨ t ∈ lastRow q) → t ∈ lastRow (bothP p q) := by
  intro t ht; rw [hlast]; unfold rowP; rw [fold_mem]; refine .inr ?_; unfold rowFrom; simp only [ep, eq]
  simpa using ht
 have ap : Asc (lastRow p) := by
  unfold lastRow; rw [rdL3_nat _ (p.length - 1) z161_]; exact rowsP_asc p [] (fun r h => by cases h) _ (List.getElem_mem _)
 have aq : Asc (lastRow q) := by
  unfold lastRow; rw [rdL3_nat _ (q.length - 1) z161_]; exact rowsP_asc q [] (fun r h => by cases h) _ (List.getElem_mem _)
 have n1 := asc_len ap (fun t ht => hmem t (.inl ht)); have n2 := asc_len aq (fun t ht => hmem t (.inr ht))
 constructor
 ·
  unfold mayP; rw [decide_eq_true hp0, decide_eq_true (show p.length ≤ 12 from z161_), (allR_told p p.length 0 z161_).2 (fun j h _ => rp j h), decide_eq_true (show (lastRow p).length ≤ 6 from z161_)]
  rfl
 ·
  unfold mayP; rw [decide_eq_true hq0, decide_eq_true (show q.length ≤ 12 from z161_), (allR_told q q.length 0 z161_).2 (fun j h _ => rq j h), decide_eq_true (show (lastRow q).length ≤ 6 from z161_)]
  rfl
theorem shifted_loop (q : List S37) (n : Nat) (hq : q.length ≤ 1000) (hn : n ≤ 1000) (hx : ∀ x ∈ q, x.f0 ≥ 2 → 0 ≤ x.f2 ∧ x.f2 ≤ 1000 ∧ 0 ≤ x.f3 ∧ x.f3 ≤ 1000) : ∀ (d i k : Nat) (out : List S37), i + d = q.length → d < k → out.length ≤ i → f11.l0 k q (n : Int) out (i : Int) = some (out ++ (q.drop i).map (shN n)) := by
 intro d
 induction d with
 | zero =>
  intro i k out hd hk ho; obtain ⟨k, rfl⟩ : ∃ m, k = m + 1 := ⟨k - 1, z161_⟩; rw [f11.l0, if_neg z161_, List.drop_eq_nil_of_le z161_]
  simp
 | succ d ih =>
  intro i k out hd hk ho; obtain ⟨k, rfl⟩ : ∃ m, k = m + 1 := ⟨k - 1, z161_⟩; have hi : i < q.length := z161_; rw [f11.l0, if_pos z161_, if_pos z161_, rd37 q i hi, Plain.w1 i z161_, List.drop_eq_getElem_cons hi, List.map_cons]
  by_cases h2 : q[i].f0 ≥ 2
  ·
   obtain ⟨a, b, c, e⟩ := hx _ (List.getElem_mem hi) h2; rw [if_pos h2, if_pos z161_, wid z161_ z161_, wid z161_ z161_, ih (i + 1) k _ z161_ z161_ z223_, show shN n q[i] = ⟨q[i].f0, q[i].f1, q[i].f2 + (n : Int), q[i].f3 + (n : Int)⟩ from if_pos h2]
   simp
  ·
   rw [if_neg h2, if_pos z161_, ih (i + 1) k _ z161_ z161_ z223_, show shN n q[i] = q[i] from if_neg h2]
   simp
theorem may_small {q : List S37} (h : mayP q = true) : q.length ≤ 12 ∧ ∀ x ∈ q, x.f1.length ≤ 6 ∧ (x.f0 ≥ 2 → 0 ≤ x.f2 ∧ x.f2 ≤ 1000 ∧ 0 ≤ x.f3 ∧ x.f3 ≤ 1000) := by
 obtain ⟨h0, h12, hr, _⟩ := mayP_told h; have hr' := (allR_told q q.length 0 z161_).1 hr; refine ⟨h12, fun x hx => ?_⟩; obtain ⟨i, hi, rfl⟩ := List.getElem_of_mem hx; obtain ⟨_, hop⟩ := right_told (hr' i hi z161_)
 rcases hop with ⟨e, h6⟩ | ⟨e, hn, a1, a2, b1, b2⟩
 · exact ⟨h6, fun h2 => z161_⟩
 · exact ⟨by rw [hn]; simp, fun h2 => ⟨a1, z161_, b1, z161_⟩⟩
/-- QueryPuts, as a plain law. -/
theorem puts_true (a b : ByteArray) (k : Nat) (hk : 9000 ≤ k) : catchwordlaw18_QueryPuts.f k a b = some true := by
 obtain ⟨k, rfl⟩ : ∃ m, k = m + 3 := ⟨k - 3, z161_⟩
 have hj0 : catchwordlaw18_QueryPuts.j0 (k + 3) a b true true = some true := by rw [catchwordlaw18_QueryPuts.j0, if_pos rfl]
 unfold catchwordlaw18_QueryPuts.f f84.f; rw [Option.bind_some, if_pos rfl]
 by_cases h : (a.size : Int) > 200
 · rw [if_pos h, hj0]
 rw [if_neg h]
 by_cases h' : (b.size : Int) > 200
 · rw [decide_eq_true h', hj0]
 have s1 : (a ++ (⟨#[32]⟩ : ByteArray)).size = a.size + 1 := by rw [ByteArray.size_append]; rfl
 have s2 : ((a ++ (⟨#[32]⟩ : ByteArray)) ++ b).size = a.size + 1 + b.size := by rw [ByteArray.size_append, s1]
 have s3 : (((a ++ (⟨#[32]⟩ : ByteArray)) ++ b) ++ (⟨#[32, 124]⟩ : ByteArray)).size = a.size + 1 + b.size + 2 := by rw [ByteArray.size_append, s2]; rfl
 rw [decide_eq_false h', catchwordlaw18_QueryPuts.j0, if_neg z106_, qread_eq a z161_ (k + 2) z161_, Option.bind_some, qread_eq b z161_ (k + 2) z161_, Option.bind_some, if_pos z161_, if_pos z161_, if_pos z161_, qread_eq _ z161_ (k + 2) z161_, Option.bind_some, qread_eq _ z161_ (k + 2) z161_, Option.bind_some]
 have hj1 : ∀ (p : List S37) (e : Int) (q : List S37) (f : Int) (x : List S37) (g hh : Int), (e ≠ 0 → p = []) → (f ≠ 0 → q = []) → e ≠ 0 ∨ f ≠ 0 → catchwordlaw18_QueryPuts.j1 (k + 2) p e q f x g hh true = some true := by
  intro p e q f x g hh he hf hor; rw [catchwordlaw18_QueryPuts.j1, if_pos rfl]
  by_cases e0 : e = 0
  ·
   have f0 : f ≠ 0 := by rcases hor with h | h; exact absurd e0 h; exact h
   rw [if_pos e0, if_neg f0, hf f0]; rfl
  · rw [if_neg e0, he e0]; rfl
 have hE : ∀ z : Option (List S37 × List Int), (endP z).2 ≠ 0 → (endP z).1 = [] := by
  intro z hz
  rcases end_cases z with e | ⟨q, l, _, _, ⟨_, e⟩ | ⟨_, e⟩⟩
  · rw [e]
  · rw [e] at hz; exact absurd rfl hz
  · rw [e]
 by_cases h5 : (readT a).2 = 5
 ·
  rw [if_pos h5]; exact hj1 _ _ _ _ _ _ _ (hE _) (hE _) (.inl (by rw [h5]; decide))
 rw [if_neg h5]
 by_cases f5 : (readT b).2 = 5
 ·
  rw [show ((readT b).2 == 5) = true by rw [f5]; rfl]; exact hj1 _ _ _ _ _ _ _ (hE _) (hE _) (.inr (by rw [f5]; decide))
 rw [show ((readT b).2 == 5) = false by simpa using f5, catchwordlaw18_QueryPuts.j1, if_neg z106_]
 rcases end_cases (readP (partsP 32 a) [] []) with e | ⟨p, i, ea, hi, hma⟩
 · exact absurd (by show (endP _).2 = 5; rw [e]) h5
 rcases end_cases (readP (partsP 32 b) [] []) with e | ⟨q, j, eb, hj, hmb⟩
 · exact absurd (by show (endP _).2 = 5; rw [e]) f5
 obtain ⟨p1, q1, hpos, h2⟩ := read_two a b p q i j ea eb hi hj; obtain ⟨l, hl, h3⟩ := read_three a b p q i j ea eb hi hj
 have e4 : readT ((a ++ (⟨#[32]⟩ : ByteArray)) ++ b) = ([], 5) := by
  unfold readT; rw [parts_two, h2, endP, if_neg z219_]
 have e3 : readT (((a ++ (⟨#[32]⟩ : ByteArray)) ++ b) ++ (⟨#[32, 124]⟩ : ByteArray)) = if mayP (bothP p q) = true then (bothP p q, 0) else ([], 8) := by
  unfold readT; rw [parts_three, h3, endP, if_pos hl]
 rw [e4, e3]
 have hneg : ∀ (u v : List S37), mayP (bothP p q) = false → catchwordlaw18_QueryPuts.j2 (k + 1) u v (if mayP (bothP p q) = true then (bothP p q, (0 : Int)) else ([], 8)).1 (if mayP (bothP p q) = true then (bothP p q, (0 : Int)) else ([], 8)).2 5 true = some true := by
  intro u v hm; rw [hm, if_neg z106_, catchwordlaw18_QueryPuts.j2, if_pos rfl, if_pos rfl]; rfl
 have ra : readT a = endP (readP (partsP 32 a) [] []) := rfl; have rb : readT b = endP (readP (partsP 32 b) [] []) := rfl; rw [ra, rb]
 rcases hma with ⟨ma, e1⟩ | ⟨ma, e1⟩
 ·
  rw [e1]
  rcases hmb with ⟨mb, e2⟩ | ⟨mb, e2⟩
  ·
   rw [e2, if_pos rfl, show ((0 : Int) != 0) = false from rfl, catchwordlaw18_QueryPuts.j2, if_neg z106_]; obtain ⟨pl, px⟩ := may_small ma; obtain ⟨ql, qx⟩ := may_small mb; have hp0 := List.length_pos_iff.2 p1; have hq0 := List.length_pos_iff.2 q1; have hsh := shifted_loop q p.length z161_ z161_ (fun x hx => (qx x hx).2) q.length 0 k [] z161_ z161_ z219_; simp only [Int.natCast_zero, List.drop_zero, List.nil_append] at hsh; have hw1 : wrap64 ((p.length : Int) - 1) = ((p.length - 1 : Nat) : Int) := z237_
   have hw2 : wrap64 (wrap64 ((p.length : Int) + (q.length : Int)) - 1) = ((p.length + q.length - 1 : Nat) : Int) := by rw [wid (n := (p.length : Int) + (q.length : Int)) z161_ z161_, wid z161_ z161_]; omega
   have hbl : (bothP p q).length = p.length + q.length + 1 := by simp [bothP]; omega
   have hbx : ∀ x ∈ bothP p q, x.f1.length ≤ 1000 := by
    intro x hx; unfold bothP at hx
    rcases List.mem_append.1 hx with hx | hx
    ·
     rcases List.mem_append.1 hx with hx | hx
     · have := (px x hx).1; omega
     ·
      obtain ⟨y, hy, rfl⟩ := List.mem_map.1 hx; have := (qx y hy).1; unfold shN
      split
      · simp only; omega
      · omega
    · rw [List.mem_singleton] at hx; subst hx; simp
   rw [if_pos (by simp only [List.length_nil]; omega), Option.bind_some]; unfold f11.f; rw [hsh, Option.bind_some, if_pos z223_, Option.bind_some, if_pos z223_, Option.bind_some, hw1, hw2, List.nil_append, show (p ++ q.map (shN p.length)) ++ [(⟨3, ([] : List ByteArray), ((p.length - 1 : Nat) : Int), ((p.length + q.length - 1 : Nat) : Int)⟩ : S37)] = bothP p q from rfl]
   cases hm : mayP (bothP p q)
   ·
    rw [if_neg z106_]; unfold f19.f; rw [if_neg (by simp only [List.length_nil]; omega), Option.bind_some, if_pos rfl, if_neg z106_, if_pos rfl, qmay_gen (bothP p q) z161_ hbx k z161_, Option.bind_some, hm]
    rfl
   · rw [if_pos rfl, same_self (bothP p q) z161_ hbx k z161_, Option.bind_some, if_pos rfl, if_pos rfl, if_pos rfl]
  ·
   rw [e2, if_pos rfl, show ((8 : Int) != 0) = true from rfl]
   exact hneg _ _ (by
    cases hm : mayP (bothP p q)
    · rfl
    ·
     have := (may_both p q p1 q1 hpos.2 hm).2
     rw [mb] at this; cases this)
 ·
  rw [e1, if_neg z106_]
  exact hneg _ _ (by
   cases hm : mayP (bothP p q)
   · rfl
   ·
    have := (may_both p q p1 q1 hpos.2 hm).1
    rw [ma] at this; cases this)
theorem QueryPuts (a : ByteArray) (ha : a.size ≤ 140737488351232) (b : ByteArray) (hb : b.size ≤ 140737488351232) : ∃ k, catchwordlaw18_QueryPuts.f k a b = some true := ⟨9000, puts_true a b 9000 z161_⟩
end Go.Proofs.YtbbmdakdghefnaaGreatDoor.Plain
