import Derived.Test.YtaldbabkdoabkaaQA
import Derived.Test.YtaldbabkdoabkaaQD
import Derived.Test.YtaldbabkdoabkaaQE
import Derived.Test.YtaldbabkdoabkaaQG
import Derived.Test.YtaldbabkdoabkaaQH
import Derived.Test.YtaldbabkdoabkaaQJ
import Derived.Test.YtaldbabkdoabkaaQK
import Derived.Test.YtaldbabkdoabkaaQL
import Derived.Test.YtaldbabkdoabkaaQM
import Derived.Test.YtaldbabkdoabkaaQN
import Derived.Laws.RangeString
import Derived.Laws.RangeAny
/- Plain facts for Disk. -/
namespace Go.Proofs.Ytaldbabkdoabkaa.Plain
set_option linter.unusedVariables false
set_option linter.unusedSimpArgs false
open Go.RowKit Go.Proofs.Ytaldbabkdoabkaa.T Go.Proofs.YtaldbabkdoabkaaW.PrintWords Go.Proofs.YtaldbabkdoabkaaW.PrintLast
def okc (c : UInt8) : Bool := (decide (97 ≤ c.toNat) && decide (c.toNat ≤ 122)) || (decide (48 ≤ c.toNat) && decide (c.toNat ≤ 57)) || decide (c.toNat = 46)
def nameB (a : ByteArray) : Bool := a.data.toList.all okc && decide (1 ≤ a.size) && decide (a.size ≤ 24)
theorem drop_all {a : ByteArray} {p : Nat} (h : p < a.size) : (a.data.toList.drop p).all okc = (okc a[p] && (a.data.toList.drop (p + 1)).all okc) := by
  rw [List.drop_eq_getElem_cons (show p < a.data.toList.length by rw [size_list]; exact h), List.all_cons]
  rfl
theorem named1 (c : Nat) : disk_named_1.f (c : Int) = some (!((decide (97 ≤ c) && decide (c ≤ 122)) || (decide (48 ≤ c) && decide (c ≤ 57)) || decide (c = 46))) := by
  have h46 : ((c : Int) != 46) = !decide (c = 46) := by
    by_cases h : c = 46
    · subst h; rfl
    · rw [decide_eq_false h]
      simp only [Bool.not_false, bne_iff_ne, ne_eq]
      omega
  unfold disk_named_1.f
  rw [h46]
  by_cases h1 : c < 97
  · rw [if_pos (by omega), decide_eq_false (by omega : ¬ 97 ≤ c)]
    by_cases h2 : c < 48
    · rw [if_pos (by omega), decide_eq_false (by omega : ¬ 48 ≤ c)]; simp
    · rw [if_neg (by omega), decide_eq_true (by omega : 48 ≤ c)]
      by_cases h3 : c ≤ 57
      · rw [if_neg (by omega), decide_eq_true h3]; simp
      · rw [if_pos (by omega), decide_eq_false h3]; simp
  · rw [if_neg (by omega), decide_eq_true (by omega : 97 ≤ c)]
    by_cases h2 : c ≤ 122
    · rw [if_neg (by omega), decide_eq_true h2]; simp
    · rw [if_pos (by omega), decide_eq_false h2, if_neg (by omega), decide_eq_true (by omega : 48 ≤ c), if_pos (by omega), decide_eq_false (by omega : ¬ c ≤ 57)]; simp
theorem named_l0 (a : ByteArray) : ∀ (d p k : Nat), a.size - p = d → p ≤ a.size → d < k → disk_named.l0 k a p = some ((a.data.toList.drop p).all okc) := by
  intro d
  induction d with
  | zero =>
    intro p k hd hp hk
    obtain ⟨k, rfl⟩ : ∃ m, k = m + 1 := ⟨k - 1, by omega⟩
    rw [disk_named.l0, if_neg (by omega), List.drop_eq_nil_of_le (by rw [size_list]; omega)]
    rfl
  | succ d ih =>
    intro p k hd hp hk
    obtain ⟨k, rfl⟩ : ∃ m, k = m + 1 := ⟨k - 1, by omega⟩
    have hlt : p < a.size := by omega
    rw [disk_named.l0, if_pos hlt, drop_all hlt]
    by_cases ha : (a[p]'hlt).toNat < 128
    · rw [decode_ascii a p hlt ha]
      simp only
      rw [named1, Option.bind_some]
      unfold okc
      cases h : ((decide (97 ≤ (a[p]'hlt).toNat) && decide ((a[p]'hlt).toNat ≤ 122)) || (decide (48 ≤ (a[p]'hlt).toNat) && decide ((a[p]'hlt).toNat ≤ 57)) || decide ((a[p]'hlt).toNat = 46)) with
      | true =>
        rw [if_neg (by simp), ih (p + 1) k (by omega) (by omega) (by omega)]
        rfl
      | false =>
        simp
    · obtain ⟨h1, h2⟩ := decode_high a p hlt (by omega)
      rw [named1, Option.bind_some]
      have e1 : ((decide (97 ≤ (Utf8.decode a p).1) && decide ((Utf8.decode a p).1 ≤ 122)) || (decide (48 ≤ (Utf8.decode a p).1) && decide ((Utf8.decode a p).1 ≤ 57)) || decide ((Utf8.decode a p).1 = 46)) = false := by
        rw [decide_eq_false (by omega : ¬ (Utf8.decode a p).1 ≤ 122), decide_eq_false (by omega : ¬ (Utf8.decode a p).1 ≤ 57), decide_eq_false (by omega : ¬ (Utf8.decode a p).1 = 46)]; simp
      have e2 : okc a[p] = false := by
        unfold okc
        rw [decide_eq_false (by omega : ¬ (a[p]'hlt).toNat ≤ 122), decide_eq_false (by omega : ¬ (a[p]'hlt).toNat ≤ 57), decide_eq_false (by omega : ¬ (a[p]'hlt).toNat = 46)]; simp
      rw [e1, e2]
      simp
theorem named_eq (a : ByteArray) (k : Nat) (hk : a.size < k) : disk_named.f k a = some (nameB a) := by
  unfold disk_named.f nameB
  by_cases h1 : 0 < a.size
  · rw [if_pos h1, decide_eq_true (by omega : 1 ≤ a.size)]
    by_cases h2 : a.size ≤ 24
    · rw [if_pos h2, decide_eq_true h2, named_l0 a a.size 0 k (by omega) (by omega) hk]
      simp
    · rw [if_neg h2, decide_eq_false h2]; simp
  · rw [if_neg h1, decide_eq_false (by omega : ¬ 1 ≤ a.size)]; simp
def usedN (l : List S48) : Nat := (l.map fun x => x.f1.length).sum
def sortedB (l : List S48) : Bool := decide (l.Pairwise fun a b => ltX a b = true)
def mayB (cap : Int) (l : List S48) : Bool := (l.all fun x => nameB x.f0) && sortedB l && decide (0 ≤ cap) && decide (cap ≤ 1048576) && decide (l.length ≤ 64) && decide ((usedN l : Int) ≤ cap)
def Sm (l : List S48) : Prop := l.length ≤ 200 ∧ ∀ x ∈ l, x.f1.length ≤ 400 ∧ x.f0.size ≤ 100
theorem usedN_cons (x : S48) (l : List S48) : usedN (x :: l) = x.f1.length + usedN l := by simp [usedN]
theorem usedN_le {l : List S48} (h : ∀ x ∈ l, x.f1.length ≤ 400) : usedN l ≤ 400 * l.length := by
  induction l with
  | nil => simp [usedN]
  | cons x l ih =>
    rw [usedN_cons, List.length_cons]
    have h1 := h x (by simp)
    have h2 := ih (fun y hy => h y (by simp [hy]))
    omega
theorem rd48 (l : List S48) (i : Nat) (h : i < l.length) : rd_T48 l (i : Int) = l[i] := by
  unfold rd_T48
  rw [Int.toNat_natCast, List.getD_eq_getElem?_getD, List.getElem?_eq_getElem h]
  rfl
theorem drop_c (l : List S48) (i : Nat) (h : i < l.length) : l.drop i = rd_T48 l (i : Int) :: l.drop (i + 1) := by
  rw [rd48 l i h]
  exact List.drop_eq_getElem_cons h
theorem sm_drop {l : List S48} (h : Sm l) (i : Nat) : ∀ x ∈ l.drop i, x.f1.length ≤ 400 := fun x hx => (h.2 x (List.mem_of_mem_drop hx)).1
theorem w64 (n : Nat) (h : n ≤ 1000000000) : wrap64 ((n : Int) + 1) = ((n + 1 : Nat) : Int) := by unfold wrap64; omega
theorem w64a (m n : Nat) (hm : m ≤ 1000000000) (h : n ≤ 1000000000) : wrap64 ((m : Int) + (n : Int)) = ((m + n : Nat) : Int) := by unfold wrap64; omega
theorem dused_l0 (l : List S48) (h : Sm l) : ∀ (d i k s : Nat), l.length - i = d → i ≤ l.length → s ≤ 1000000 - 400 * d → d < k → disk_used.l0 k (s : Int) l (l.length : Int) (i : Int) = some ((s + usedN (l.drop i) : Nat) : Int) := by
  intro d
  induction d with
  | zero =>
    intro i k s hd hi hs hk
    obtain ⟨k, rfl⟩ : ∃ m, k = m + 1 := ⟨k - 1, by omega⟩
    rw [disk_used.l0, if_neg (by omega), List.drop_eq_nil_of_le (by omega)]
    simp [usedN]
  | succ d ih =>
    intro i k s hd hi hs hk
    have h200 := h.1
    obtain ⟨k, rfl⟩ : ∃ m, k = m + 1 := ⟨k - 1, by omega⟩
    have hlt : i < l.length := by omega
    have hx : (rd_T48 l (i : Int)).f1.length ≤ 400 := by rw [rd48 l i hlt]; exact (h.2 _ (List.getElem_mem hlt)).1
    rw [disk_used.l0, if_pos (by omega), if_pos (by omega), if_pos (by omega), w64 i (by omega), w64a s _ (by omega) (by omega), ih (i + 1) k _ (by omega) (by omega) (by omega) (by omega), drop_c l i hlt, usedN_cons]
    congr 2
    omega
theorem dused_eq (l : List S48) (h : Sm l) (k : Nat) (hk : l.length < k) : disk_used.f k l = some ((usedN l : Nat) : Int) := by
  unfold disk_used.f
  have h1 := h.1
  have := dused_l0 l h l.length 0 k 0 (by omega) (by omega) (by omega) hk
  simpa using this
def adjB : Option S48 → List S48 → Bool
  | _, [] => true
  | none, x :: l => nameB x.f0 && adjB (some x) l
  | some p, x :: l => nameB x.f0 && (ltX p x && adjB (some x) l)
theorem adj_some (p : S48) : ∀ l : List S48, adjB (some p) l = ((l.all fun x => nameB x.f0) && sortedB (p :: l))
  | [] => by simp [adjB, sortedB]
  | x :: l => by
    have ih := adj_some x l
    rw [adjB, ih, List.all_cons]
    have e : (sortedB (p :: x :: l)) = (ltX p x && sortedB (x :: l)) := by
      unfold sortedB
      rw [Bool.eq_iff_iff, Bool.and_eq_true, decide_eq_true_eq, decide_eq_true_eq, List.pairwise_cons]
      constructor
      · rintro ⟨h1, h2⟩
        exact ⟨h1 x (by simp), h2⟩
      · rintro ⟨h1, h2⟩
        refine ⟨fun y hy => ?_, h2⟩
        rcases List.mem_cons.1 hy with rfl | hy
        · exact h1
        · exact ltX_tr h1 ((List.pairwise_cons.1 h2).1 y hy)
    rw [e]
    cases nameB x.f0 <;> cases ltX p x <;> simp
theorem adj_none (l : List S48) : adjB none l = ((l.all fun x => nameB x.f0) && sortedB l) := by
  cases l with
  | nil => simp [adjB, sortedB]
  | cons x l => rw [adjB, adj_some, List.all_cons, Bool.and_assoc]
def prevO (l : List S48) (i : Nat) : Option S48 := if i = 0 then none else l[i - 1]?
theorem leB_lt (x p : S48) : leB x.f0 p.f0 = !ltX p x := by
  unfold leB ltX
  rw [← bytesLess_swap x.f0.toList p.f0.toList, Bool.not_not]
def KS : Nat := 1000
theorem mayL_eq (l : List S48) (h : Sm l) (k : Nat) (hk : KS ≤ k) : ∀ (d i : Nat), l.length - i = d → i ≤ l.length → mayL k l i d = some (adjB (prevO l i) (l.drop i)) := by
  intro d
  induction d with
  | zero =>
    intro i hd hi
    rw [mayL, List.drop_eq_nil_of_le (by omega)]
    cases prevO l i <;> rfl
  | succ d ih =>
    intro i hd hi
    have h200 := h.1
    have hlt : i < l.length := by omega
    have hz : (rd_T48 l (i : Int)).f0.size ≤ 100 := by rw [rd48 l i hlt]; exact (h.2 _ (List.getElem_mem hlt)).2
    rw [mayL, named_eq _ k (by unfold KS at hk; omega), Option.bind_some, drop_c l i hlt, ih (i + 1) (by omega) (by omega), leB_lt]
    have hp1 : prevO l (i + 1) = some (rd_T48 l (i : Int)) := by
      unfold prevO
      rw [if_neg (by omega), rd48 l i hlt]
      simp [hlt]
    rw [hp1]
    by_cases h0 : i = 0
    · subst h0
      have hp0 : prevO l 0 = none := rfl
      rw [hp0, adjB]
      cases nameB (rd_T48 l ((0 : Nat) : Int)).f0 <;> simp
    · have hpi : prevO l i = some (rd_T48 l ((i - 1 : Nat) : Int)) := by
        unfold prevO
        rw [if_neg h0, rd48 l (i - 1) (by omega)]
        simp [show i - 1 < l.length by omega]
      rw [hpi, adjB, decide_eq_true (by omega : 0 < i)]
      cases nameB (rd_T48 l (i : Int)).f0 <;> cases ltX (rd_T48 l ((i - 1 : Nat) : Int)) (rd_T48 l (i : Int)) <;> simp
theorem dmay_eq (cap : Int) (l : List S48) (h : Sm l) (k : Nat) (hk : KS ≤ k) : disk_May.f k cap l = some (mayB cap l) := by
  unfold disk_May.f mayB
  have h200 := h.1
  rw [mayL_eq l h k hk l.length 0 (by omega) (by omega), Option.bind_some]
  have hp0 : prevO l 0 = none := rfl
  rw [hp0, List.drop_zero, adj_none]
  cases hs : (l.all fun x => nameB x.f0) && sortedB l with
  | false => rw [if_neg (by simp)]; simp
  | true =>
    rw [if_pos rfl, dused_eq l h k (by unfold KS at hk; omega)]
    by_cases h1 : 0 ≤ cap ∧ cap ≤ 1048576 ∧ l.length ≤ 64
    · rw [if_pos h1, decide_eq_true h1.1, decide_eq_true h1.2.1, decide_eq_true h1.2.2]
      simp
    · rw [if_neg h1]
      by_cases a1 : 0 ≤ cap
      · by_cases a2 : cap ≤ 1048576
        · have a3 : ¬ l.length ≤ 64 := fun a => h1 ⟨a1, a2, a⟩
          rw [decide_eq_false a3]; simp
        · rw [decide_eq_false a2]; simp
      · rw [decide_eq_false a1]; simp
theorem cast0 : ((0 : Nat) : Int) = 0 := rfl
def fewB (l : List S48) : Bool := decide (l.length ≤ 70) && l.all fun x => decide (x.f1.length ≤ 300) && decide (x.f0.size ≤ 40)
theorem few_l0 (cap : Int) (l : List S48) (hl : l.length ≤ 70) : ∀ (d i k : Nat), l.length - i = d → i ≤ l.length → d < k → catchwordlaw03_Few.l0 k (i : Int) cap l = some ((l.drop i).all fun x => decide (x.f1.length ≤ 300) && decide (x.f0.size ≤ 40)) := by
  intro d
  induction d with
  | zero =>
    intro i k hd hi hk
    obtain ⟨k, rfl⟩ : ∃ m, k = m + 1 := ⟨k - 1, by omega⟩
    rw [catchwordlaw03_Few.l0, if_neg (by omega), List.drop_eq_nil_of_le (by omega)]
    rfl
  | succ d ih =>
    intro i k hd hi hk
    obtain ⟨k, rfl⟩ : ∃ m, k = m + 1 := ⟨k - 1, by omega⟩
    have hlt : i < l.length := by omega
    rw [catchwordlaw03_Few.l0, if_pos (by omega), if_pos (by omega), drop_c l i hlt, w64 i (by omega), ih (i + 1) k (by omega) (by omega) (by omega), List.all_cons]
    by_cases h1 : (rd_T48 l (i : Int)).f1.length ≤ 300
    · rw [if_neg (by omega), decide_eq_true h1]
      by_cases h2 : (rd_T48 l (i : Int)).f0.size ≤ 40
      · rw [if_neg (by omega), decide_eq_true h2]; simp
      · rw [if_pos (by omega), decide_eq_false h2]; simp
    · rw [if_pos (by omega), decide_eq_false h1]; simp
theorem few_eq (cap : Int) (l : List S48) (k : Nat) (hk : KS ≤ k) : catchwordlaw03_Few.f k cap l = some (fewB l) := by
  unfold catchwordlaw03_Few.f fewB
  by_cases h : l.length ≤ 70
  · have := few_l0 cap l h l.length 0 k (by omega) (by omega) (by unfold KS at hk; omega)
    rw [if_neg (by omega), decide_eq_true h]
    simp only [Int.natCast_zero, List.drop_zero] at this
    rw [this]
    simp
  · rw [if_pos (by omega), decide_eq_false h]; simp
theorem few_sm {l : List S48} (h : fewB l = true) : l.length ≤ 70 ∧ ∀ x ∈ l, x.f1.length ≤ 300 ∧ x.f0.size ≤ 40 := by
  simp only [fewB, Bool.and_eq_true, decide_eq_true_eq, List.all_eq_true] at h
  exact h
theorem sm_of_few {l : List S48} (h : fewB l = true) : Sm l := by
  obtain ⟨h1, h2⟩ := few_sm h
  exact ⟨by omega, fun x hx => by have := h2 x hx; omega⟩
def fewO (a b : ByteArray) (dat : List Int) : Bool := decide (dat.length ≤ 300) && decide (a.size ≤ 40) && decide (b.size ≤ 40)
theorem fewO_eq (kind : Int) (a b : ByteArray) (dat : List Int) : catchwordlaw03_few.f kind a b dat = some (fewO a b dat) := by
  unfold catchwordlaw03_few.f fewO
  by_cases h1 : dat.length ≤ 300
  · rw [if_pos (by omega), decide_eq_true h1]
    by_cases h2 : a.size ≤ 40
    · rw [if_pos (by omega), decide_eq_true h2]
      simp only [Bool.true_and, Option.some.injEq, decide_eq_decide]
      omega
    · rw [if_neg (by omega), decide_eq_false h2]; simp
  · rw [if_neg (by omega), decide_eq_false h1]; simp
theorem rdI (l : List Int) (i : Nat) (h : i < l.length) : rd l (i : Int) = l[i] := by
  unfold rd
  rw [Int.toNat_natCast, List.getD_eq_getElem?_getD, List.getElem?_eq_getElem h]
  rfl
theorem dropI (l : List Int) (i : Nat) (h : i < l.length) : l.drop i = rd l (i : Int) :: l.drop (i + 1) := by
  rw [rdI l i h]
  exact List.drop_eq_getElem_cons h
theorem bytes_l0 (l m : List Int) (hl : l.length = m.length) (h4 : l.length ≤ 100000) : ∀ (d i k : Nat), l.length - i = d → i ≤ l.length → d < k → catchwordref01_Bytes.l0 k l m (i : Int) = some (decide (l.drop i = m.drop i)) := by
  intro d
  induction d with
  | zero =>
    intro i k hd hi hk
    obtain ⟨k, rfl⟩ : ∃ m, k = m + 1 := ⟨k - 1, by omega⟩
    rw [catchwordref01_Bytes.l0, if_neg (by omega), List.drop_eq_nil_of_le (by omega), List.drop_eq_nil_of_le (by omega)]
    rfl
  | succ d ih =>
    intro i k hd hi hk
    obtain ⟨k, rfl⟩ : ∃ m, k = m + 1 := ⟨k - 1, by omega⟩
    have hlt : i < l.length := by omega
    rw [catchwordref01_Bytes.l0, if_pos (by omega), if_pos (by omega), if_pos (by omega), dropI l i hlt, dropI m i (by omega), w64 i (by omega)]
    by_cases e : rd l (i : Int) = rd m (i : Int)
    · rw [if_pos e, ih (i + 1) k (by omega) (by omega) (by omega), e]
      simp
    · rw [if_neg e]
      congr 1
      exact (decide_eq_false (fun h => e (by injection h))).symm
theorem bytes_eq (l m : List Int) (h4 : l.length ≤ 100000) (k : Nat) (hk : l.length < k) : catchwordref01_Bytes.f k l m = some (decide (l = m)) := by
  unfold catchwordref01_Bytes.f
  by_cases e : l.length = m.length
  · have := bytes_l0 l m e h4 l.length 0 k (by omega) (by omega) hk
    rw [if_pos (by omega)]
    simpa using this
  · rw [if_neg (by omega), decide_eq_false (fun h => e (by rw [h]))]
theorem equal_l0 (l m : List Int) (hl : l.length = m.length) (h4 : l.length ≤ 100000) : ∀ (d i k : Nat), l.length - i = d → i ≤ l.length → d < k → slices_Equal_byte_byte.l0 k l m (l.length : Int) (i : Int) = some (decide (l.drop i = m.drop i)) := by
  intro d
  induction d with
  | zero =>
    intro i k hd hi hk
    obtain ⟨k, rfl⟩ : ∃ m, k = m + 1 := ⟨k - 1, by omega⟩
    rw [slices_Equal_byte_byte.l0, if_neg (by omega), List.drop_eq_nil_of_le (by omega), List.drop_eq_nil_of_le (by omega)]
    rfl
  | succ d ih =>
    intro i k hd hi hk
    obtain ⟨k, rfl⟩ : ∃ m, k = m + 1 := ⟨k - 1, by omega⟩
    have hlt : i < l.length := by omega
    rw [slices_Equal_byte_byte.l0, if_pos (by omega), if_pos (by omega), if_pos (by omega), if_pos (by omega), dropI l i hlt, dropI m i (by omega), w64 i (by omega)]
    by_cases e : rd l (i : Int) = rd m (i : Int)
    · rw [if_pos e, ih (i + 1) k (by omega) (by omega) (by omega), e]
      simp
    · rw [if_neg e]
      congr 1
      exact (decide_eq_false (fun h => e (by injection h))).symm
theorem equal_eq (l m : List Int) (h4 : l.length ≤ 100000) (k : Nat) (hk : l.length < k) : slices_Equal_byte_byte.f k l m = some (decide (l = m)) := by
  unfold slices_Equal_byte_byte.f
  by_cases e : l.length = m.length
  · have := equal_l0 l m e h4 l.length 0 k (by omega) (by omega) hk
    rw [if_pos (by omega)]
    simpa using this
  · rw [if_neg (by omega), decide_eq_false (fun h => e (by rw [h]))]
instance : DecidableEq S48 := fun x y => if h : x.f0.toList = y.f0.toList ∧ x.f1 = y.f1 ∧ x.f2 = y.f2 then isTrue (by
    obtain ⟨⟨⟨a⟩⟩, b, c⟩ := x
    obtain ⟨⟨⟨a'⟩⟩, b', c'⟩ := y
    obtain ⟨h1, h2, h3⟩ := h
    simp only [toList_data] at h1
    simp only at h1 h2 h3
    subst h1; subst h2; subst h3
    rfl) else isFalse (fun e => h (by subst e; exact ⟨rfl, rfl, rfl⟩))
theorem s48_eq (x y : S48) : x = y ↔ x.f0.toList = y.f0.toList ∧ x.f1 = y.f1 ∧ x.f2 = y.f2 := by
  constructor
  · rintro rfl; exact ⟨rfl, rfl, rfl⟩
  · intro h
    obtain ⟨⟨⟨a⟩⟩, b, c⟩ := x
    obtain ⟨⟨⟨a'⟩⟩, b', c'⟩ := y
    obtain ⟨h1, h2, h3⟩ := h
    simp only [toList_data] at h1
    simp only at h1 h2 h3
    subst h1; subst h2; subst h3
    rfl
theorem same1_eq (x y : S48) (h4 : x.f1.length ≤ 400) (k : Nat) (hk : 400 < k) : disk_Same_1.f k x.f0 x.f1 x.f2 y.f0 y.f1 y.f2 = some (decide (x = y)) := by
  unfold disk_Same_1.f
  rw [equal_eq _ _ (by omega) k (by omega)]
  by_cases h1 : x.f0.toList = y.f0.toList
  · rw [if_pos h1]
    by_cases h3 : x.f2 = y.f2
    · rw [if_pos (by rw [h3]; exact beq_self_eq_true _)]
      simp only [Option.bind_some, Option.some.injEq, decide_eq_decide]
      rw [s48_eq]
      exact ⟨fun h => ⟨h1, h, h3⟩, fun h => h.2.1⟩
    · rw [if_neg (by simpa using h3), decide_eq_false (fun h => h3 (by rw [h]))]
  · rw [if_neg h1, decide_eq_false (fun h => h1 (by rw [h]))]
abbrev EQF := @slices_EqualFunc_catchword_api_File_catchword_api_File_catchword_api_File_catchword_api_File_37.l0
theorem eqf_l0 (l m : List S48) (hl : l.length = m.length) (h : Sm l) : ∀ (d i k : Nat), l.length - i = d → i ≤ l.length → 500 + d ≤ k → slices_EqualFunc_catchword_api_File_catchword_api_File_catchword_api_File_catchword_api_File_37.l0 k m l (l.length : Int) (i : Int) = some (decide (l.drop i = m.drop i)) := by
  intro d
  induction d with
  | zero =>
    intro i k hd hi hk
    obtain ⟨k, rfl⟩ : ∃ m, k = m + 1 := ⟨k - 1, by omega⟩
    rw [slices_EqualFunc_catchword_api_File_catchword_api_File_catchword_api_File_catchword_api_File_37.l0, if_neg (by omega), List.drop_eq_nil_of_le (by omega), List.drop_eq_nil_of_le (by omega)]
    rfl
  | succ d ih =>
    intro i k hd hi hk
    have h200 := h.1
    obtain ⟨k, rfl⟩ : ∃ m, k = m + 1 := ⟨k - 1, by omega⟩
    have hlt : i < l.length := by omega
    have hx : (rd_T48 l (i : Int)).f1.length ≤ 400 := by rw [rd48 l i hlt]; exact (h.2 _ (List.getElem_mem hlt)).1
    rw [slices_EqualFunc_catchword_api_File_catchword_api_File_catchword_api_File_catchword_api_File_37.l0, if_pos (by omega), if_pos (by omega), if_pos (by omega), if_pos (by omega), same1_eq _ _ hx k (by omega), Option.bind_some, drop_c l i hlt, drop_c m i (by omega), w64 i (by omega)]
    by_cases e : rd_T48 l (i : Int) = rd_T48 m (i : Int)
    · rw [if_pos (decide_eq_true e), ih (i + 1) k (by omega) (by omega) (by omega), e]
      simp
    · rw [if_neg (by rw [decide_eq_false e]; simp)]
      congr 1
      exact (decide_eq_false (fun h => e (by injection h))).symm
theorem dsame_eq (c1 : Int) (l : List S48) (c2 : Int) (m : List S48) (h : Sm l) (k : Nat) (hk : KS ≤ k) : disk_Same.f k c1 l c2 m = some (decide (c1 = c2) && decide (l = m)) := by
  unfold disk_Same.f
  have h200 := h.1
  by_cases hc : c1 = c2
  · rw [if_pos hc, decide_eq_true hc]
    unfold slices_EqualFunc_catchword_api_File_catchword_api_File_catchword_api_File_catchword_api_File_37.f
    by_cases e : l.length = m.length
    · have := eqf_l0 l m e h l.length 0 k (by omega) (by omega) (by unfold KS at hk; omega)
      simp only [Int.natCast_zero, List.drop_zero] at this
      rw [if_pos (by omega), this]
      simp
    · rw [if_neg (by omega), decide_eq_false (fun h => e (by rw [h]))]
      rfl
  · rw [if_neg hc, decide_eq_false hc]
    rfl
theorem may_parts {cap : Int} {l : List S48} (h : mayB cap l = true) : (∀ x ∈ l, nameB x.f0 = true) ∧ l.Pairwise (fun a b => ltX a b = true) ∧ 0 ≤ cap ∧ cap ≤ 1048576 ∧ l.length ≤ 64 ∧ (usedN l : Int) ≤ cap := by
  simp only [mayB, sortedB, Bool.and_eq_true, decide_eq_true_eq, List.all_eq_true] at h
  obtain ⟨⟨⟨⟨⟨h1, h2⟩, h3⟩, h4⟩, h5⟩, h6⟩ := h
  exact ⟨h1, h2, h3, h4, h5, h6⟩
theorem may_of {cap : Int} {l : List S48} (h1 : ∀ x ∈ l, nameB x.f0 = true) (h2 : l.Pairwise (fun a b => ltX a b = true)) (h3 : 0 ≤ cap) (h4 : cap ≤ 1048576) (h5 : l.length ≤ 64) (h6 : (usedN l : Int) ≤ cap) : mayB cap l = true := by
  simp only [mayB, sortedB, Bool.and_eq_true, decide_eq_true_eq, List.all_eq_true]
  exact ⟨⟨⟨⟨⟨h1, h2⟩, h3⟩, h4⟩, h5⟩, h6⟩
theorem ok_of_may {cap : Int} {l : List S48} (h : mayB cap l = true) : doOk cap l (usedN l : Int) = true := by
  obtain ⟨h1, h2, h3, h4, h5, h6⟩ := may_parts h
  simp only [doOk, Bool.and_eq_true, decide_eq_true_eq]
  exact ⟨⟨⟨⟨h2, by omega⟩, h6⟩, h4⟩, h5⟩
theorem own_of_sm {l : List S48} (h : Sm l) : ownOk l = true := by
  simp only [ownOk, Bool.and_eq_true, decide_eq_true_eq, List.all_eq_true]
  have h1 := h.1
  refine ⟨by unfold gRow; omega, fun x hx => ?_⟩
  have := h.2 x hx
  exact ⟨by unfold gRow; omega, by unfold gMax; omega⟩
/-- what is done: the disk's files, and why not -/
def doQ (cap : Int) (l : List S48) (kind : Int) (a b : ByteArray) (dat : List Int) : List S48 × Int :=
  if mayB cap l = true then (if nameB a = true then (if kind < 0 ∨ 4 ≤ kind then (l, 1) else doP cap l kind a b dat (usedN l : Int) (nameB b)) else (l, 1)) else (l, 1)
theorem do_eq (cap : Int) (l : List S48) (kind : Int) (a b : ByteArray) (dat : List Int) (h : Sm l) (ha : a.size ≤ 100) (hb : b.size ≤ 100) (k : Nat) (hk : KS ≤ k) :
    disk_Do.f k cap l kind a b dat = some (cap, (doQ cap l kind a b dat).1, (doQ cap l kind a b dat).2) := by
  have hk' := hk
  unfold KS at hk'
  have h200 := h.1
  unfold disk_Do.f doQ
  rw [if_pos (own_of_sm h), dmay_eq cap l h k hk, Option.bind_some, named_eq a k (by omega), named_eq b k (by omega), dused_eq l h k (by omega)]
  cases hm : mayB cap l with
  | false => rw [if_neg (by simp), if_neg (by simp)]
  | true =>
    rw [if_pos rfl, if_pos rfl]
    simp only [Option.bind_some]
    cases hn : nameB a with
    | false => rw [if_neg (by simp), if_neg (by simp)]
    | true =>
      rw [if_pos rfl, if_pos rfl]
      by_cases hkd : kind < 0 ∨ 4 ≤ kind
      · rw [if_pos hkd, if_pos hkd]
      · rw [if_neg hkd, if_neg hkd, if_pos ⟨ok_of_may hm, by unfold gMax; omega⟩]
def findI (l : List S48) (a : ByteArray) : Int := if isX a l = true then (posX a l : Int) else -1
theorem names_at (l : List S48) (i : Nat) (h : i < l.length) : (namesOf l)[i]'(by unfold namesOf; rw [List.length_map]; exact h) = (rd_T48 l (i : Int)).f0.data.toList := by
  unfold namesOf
  rw [List.getElem_map, rd48 l i h]
theorem dfind_eq (cap : Int) (l : List S48) (a : ByteArray) (h : Sm l) (ha : a.size ≤ 100) (k : Nat) (hk : KS ≤ k) : disk_Find.f k cap l a = some (if mayB cap l = true then findI l a else -1) := by
  unfold disk_Find.f
  have hs : sizesOk l = true := by
    unfold sizesOk
    rw [List.all_eq_true]
    intro x hx
    have := h.2 x hx
    exact decide_eq_true (by omega)
  rw [if_pos hs, if_pos (by omega), dmay_eq cap l h k hk]
  by_cases hx : a.data.toList ∈ namesOf l
  · have hx2 : isX a l = true := decide_eq_true hx
    rw [if_pos hx, Option.bind_some]
    cases hm : mayB cap l with
    | false => rw [if_neg (by simp), if_neg (by simp)]
    | true =>
      rw [if_pos rfl, if_pos rfl]
      have hn := sorted_nodup (may_parts hm).2.1
      simp only [toList_data] at hn
      have hn2 : (namesOf l).Nodup := hn
      rw [if_pos hn2]
      unfold findI
      rw [if_pos hx2]
      rfl
  · have hx2 : ¬ isX a l = true := by unfold isX; rw [decide_eq_false hx]; simp
    rw [if_neg hx]
    unfold findI
    rw [if_neg hx2]
    split <;> rfl
def refQ (cap : Int) (l : List S48) (kind : Int) (a b : ByteArray) (dat : List Int) : List S48 × Int :=
  if mayB cap l = true then (if nameB a = true then (if kind < 0 ∨ 4 ≤ kind then (l, 1) else refP cap l kind a b dat (usedN l : Int) (nameB b) (findI l a)) else (l, 1)) else (l, 1)
theorem split_at {l : List S48} {a : ByteArray} (hs : l.Pairwise (fun a b => ltX a b = true)) (hx : isX a l = true) : ∃ l1 l2, l = l1 ++ atX a l :: l2 ∧ posX a l = l1.length ∧ (atX a l).f0.toList = a.toList ∧ (∀ y ∈ l1, ltX y (atX a l) = true) ∧ (∀ y ∈ l2, ltX (atX a l) y = true) := by
  have hlt := posX_lt hx
  have hat := atX_at hx
  have hsp : l = l.take (posX a l) ++ atX a l :: l.drop (posX a l + 1) := by
    have h1 := List.take_append_drop (posX a l) l
    rw [List.drop_eq_getElem_cons hlt] at h1
    rw [List.getElem?_eq_getElem hlt] at hat
    rw [Option.some.inj hat] at h1
    exact h1.symm
  have hp := hs
  rw [hsp] at hp
  obtain ⟨_, h2, h3⟩ := List.pairwise_append.1 hp
  refine ⟨l.take (posX a l), l.drop (posX a l + 1), hsp, by rw [List.length_take]; omega, ?_, fun y hy => h3 y hy _ (by simp), fun y hy => (List.pairwise_cons.1 h2).1 y hy⟩
  have h4 : a.data.toList ∈ namesOf l := of_decide_eq_true hx
  have h5 := List.getElem_idxOf (List.idxOf_lt_length_of_mem h4)
  have h6 := names_at l (posX a l) hlt
  rw [show (namesOf l)[posX a l]'(by unfold namesOf; rw [List.length_map]; exact hlt) = a.data.toList from h5] at h6
  rw [toList_data, toList_data, h6]
  rfl
theorem lt_ne {x y : S48} (h : ltX x y = true) : x.f0.toList ≠ y.f0.toList := fun e => by
  unfold ltX at h
  rw [e, bl_irr] at h
  cases h
theorem lt_asym {x y : S48} (h : ltX x y = true) : ltX y x = false := by
  cases h2 : ltX y x with
  | false => rfl
  | true =>
    have := ltX_tr h h2
    unfold ltX at this
    rw [bl_irr] at this
    cases this
theorem ltX_names {x x' y : S48} (e : x'.f0.toList = x.f0.toList) : ltX x' y = ltX x y ∧ ltX y x' = ltX y x := by
  unfold ltX
  rw [e]
  exact ⟨rfl, rfl⟩
theorem delX_split {l1 l2 : List S48} {x : S48} {a : ByteArray} (e : x.f0.toList = a.toList) (h1 : ∀ y ∈ l1, ltX y x = true) (h2 : ∀ y ∈ l2, ltX x y = true) : delX a (l1 ++ x :: l2) = l1 ++ l2 := by
  unfold delX
  have k1 : l1.filter (keepX a) = l1 := List.filter_eq_self.2 (fun y hy => by unfold keepX; have := lt_ne (h1 y hy); rw [e] at this; simpa using this)
  have k2 : l2.filter (keepX a) = l2 := List.filter_eq_self.2 (fun y hy => by unfold keepX; have := lt_ne (h2 y hy); rw [e] at this; simpa using this.symm)
  have k3 : keepX a x = false := by unfold keepX; rw [e]; simp
  rw [List.filter_append, List.filter_cons, k3, k1, k2]
  rfl
theorem insX_split {x : S48} : ∀ {l1 l2 : List S48}, (∀ y ∈ l1, ltX y x = true) → (∀ y ∈ l2, ltX x y = true) → insX x (l1 ++ l2) = l1 ++ x :: l2
  | [], [], _, _ => rfl
  | [], y :: l2, _, h2 => by
    rw [List.nil_append, insX, lt_asym (h2 y (by simp))]
    rfl
  | y :: l1, l2, h1, h2 => by
    rw [List.cons_append, insX, h1 y (by simp), if_pos rfl, insX_split (fun z hz => h1 z (by simp [hz])) h2]
    rfl
theorem delX_again (a : ByteArray) (l : List S48) : delX a (delX a l) = delX a l := by
  unfold delX
  rw [List.filter_filter]
  simp
theorem delX_name {a b : ByteArray} (h : a.toList = b.toList) (l : List S48) : delX b l = delX a l := by
  unfold delX keepX
  rw [h]
theorem doP_refP (cap : Int) (l : List S48) (kind : Int) (a b : ByteArray) (dat : List Int) (hs : l.Pairwise (fun a b => ltX a b = true)) (hkd : ¬ (kind < 0 ∨ 4 ≤ kind)) (bn : Bool) :
    doP cap l kind a b dat (usedN l : Int) bn = refP cap l kind a b dat (usedN l : Int) bn (findI l a) := by
  unfold doP refP
  cases hx : isX a l with
  | false =>
    have hf : findI l a = -1 := by unfold findI; rw [hx]; rfl
    rw [hf]
    by_cases h0 : kind = 0
    · rw [if_pos h0, if_pos h0, if_neg (by simp), if_neg (show ¬ (0 : Int) ≤ -1 by decide)]
      by_cases hc : l.length = 64 ∨ cap - (usedN l : Int) < (dat.length : Int)
      · rw [if_pos hc, if_pos (by rcases hc with h | h; (· exact .inl h); (· exact .inr (by omega)))]
      · rw [if_neg hc, if_neg (by rintro (h | h); (· exact hc (.inl h)); (· exact hc (.inr (by omega))))]
    · rw [if_neg h0, if_neg h0]
      by_cases h1 : kind = 1
      · rw [if_pos h1, if_neg (by simp), if_neg (show ¬ (kind = 2 ∧ bn = false) by rintro ⟨h, _⟩; omega), if_pos (show (-1 : Int) < 0 by decide)]
      · rw [if_neg h1]
        by_cases h2 : kind = 2
        · rw [if_pos h2]
          cases bn with
          | false => rw [if_pos rfl, if_pos ⟨h2, rfl⟩]
          | true => rw [if_neg (show ¬ true = false by simp), if_neg (show ¬ false = true by simp), if_neg (show ¬ (kind = 2 ∧ true = false) by rintro ⟨_, h⟩; cases h), if_pos (show (-1 : Int) < 0 by decide)]
        · rw [if_neg h2, if_neg (show ¬ false = true by simp), if_neg (show ¬ (kind = 2 ∧ bn = false) by rintro ⟨h, _⟩; exact h2 h), if_pos (show (-1 : Int) < 0 by decide)]
  | true =>
    have hf : findI l a = (posX a l : Int) := by unfold findI; rw [hx]; rfl
    have hrd : rd_T48 l (posX a l : Int) = atX a l := rfl
    rw [hf, hrd]
    have hng : ¬ ((posX a l : Int) < 0) := by omega
    obtain ⟨l1, l2, e, hp, hnm, h1, h2⟩ := split_at hs hx
    have hdel : delX a l = l1 ++ l2 := by
      have := delX_split hnm h1 h2
      rw [← e] at this
      exact this
    by_cases h0 : kind = 0
    · rw [if_pos h0, if_pos h0, if_pos rfl, if_pos (by omega)]
    · rw [if_neg h0, if_neg h0]
      by_cases k1 : kind = 1
      · rw [if_pos k1, if_pos rfl, if_neg (show ¬ (kind = 2 ∧ bn = false) by rintro ⟨h, _⟩; omega), if_neg hng, if_pos k1, hdel]
        have e2 := fun y => ltX_names (x := atX a l) (x' := ⟨(atX a l).f0, (atX a l).f1, true⟩) (y := y) rfl
        rw [insX_split (fun y hy => by rw [(e2 y).2]; exact h1 y hy) (fun y hy => by rw [(e2 y).1]; exact h2 y hy), hp]
        generalize (⟨(atX a l).f0, (atX a l).f1, true⟩ : S48) = z
        conv => lhs; rw [e]
        rw [List.set_append_right _ _ (Nat.le_refl _), Nat.sub_self]
        rfl
      · rw [if_neg k1]
        by_cases k2 : kind = 2
        · rw [if_pos k2]
          cases bn with
          | false => rw [if_pos rfl, if_pos ⟨k2, rfl⟩]
          | true =>
            rw [if_neg (show ¬ true = false by simp), if_pos rfl, if_neg (show ¬ (kind = 2 ∧ true = false) by rintro ⟨_, h⟩; cases h), if_neg hng, if_neg k1, if_pos k2]
            by_cases hab : (a.toList == b.toList) = true
            · have hab2 : a.toList = b.toList := by simpa using hab
              rw [if_pos hab, delX_name hab2, delX_again, hdel]
              have e2 := fun y => ltX_names (x := atX a l) (x' := ⟨b, (atX a l).f1, (atX a l).f2⟩) (y := y) (by rw [hnm, hab2])
              rw [insX_split (fun y hy => by rw [(e2 y).2]; exact h1 y hy) (fun y hy => by rw [(e2 y).1]; exact h2 y hy)]
              have e3 : (⟨b, (atX a l).f1, (atX a l).f2⟩ : S48) = atX a l := (s48_eq _ _).2 ⟨by rw [hnm, hab2], rfl, rfl⟩
              rw [e3, ← e]
            · rw [if_neg hab]
        · rw [if_neg k2, if_pos rfl, if_neg (show ¬ (kind = 2 ∧ bn = false) by rintro ⟨h, _⟩; exact k2 h), if_neg hng, if_neg k1, if_neg k2]
theorem doQ_refQ (cap : Int) (l : List S48) (kind : Int) (a b : ByteArray) (dat : List Int) : doQ cap l kind a b dat = refQ cap l kind a b dat := by
  unfold doQ refQ
  cases hm : mayB cap l with
  | false => rw [if_neg (by simp), if_neg (by simp)]
  | true =>
    rw [if_pos rfl, if_pos rfl]
    by_cases hkd : kind < 0 ∨ 4 ≤ kind
    · rw [if_pos hkd, if_pos hkd]
    · rw [if_neg hkd, if_neg hkd, doP_refP _ _ _ _ _ _ (may_parts hm).2.1 hkd]
def Okf (x : S48) : Prop := x.f1.length ≤ 300 ∧ x.f0.size ≤ 40
theorem atX_mem {a : ByteArray} {l : List S48} (h : isX a l = true) : atX a l ∈ l := List.mem_of_getElem? (atX_at h)
theorem doP_small (cap : Int) (l : List S48) (kind : Int) (a b : ByteArray) (dat : List Int) (u : Int) (bn : Bool) (h : ∀ x ∈ l, Okf x) (ho : fewO a b dat = true) :
    (doP cap l kind a b dat u bn).1.length ≤ l.length + 1 ∧ ∀ x ∈ (doP cap l kind a b dat u bn).1, Okf x := by
  simp only [fewO, Bool.and_eq_true, decide_eq_true_eq] at ho
  obtain ⟨⟨h1, h2⟩, h3⟩ := ho
  have hins : ∀ (z : S48) (m : List S48), Okf z → (∀ x ∈ m, x ∈ l) → m.length ≤ l.length → (insX z m).length ≤ l.length + 1 ∧ ∀ x ∈ insX z m, Okf x := by
    intro z m hz hm hl
    refine ⟨by rw [(insX_perm z m).length_eq, List.length_append, List.length_singleton]; omega, fun x hx => ?_⟩
    rcases insX_mem.1 hx with hx | rfl
    · exact h x (hm x hx)
    · exact hz
  have hsame : l.length ≤ l.length + 1 ∧ ∀ x ∈ l, Okf x := ⟨by omega, h⟩
  have hdel : ∀ (nm : ByteArray) (m : List S48), (∀ x ∈ m, x ∈ l) → m.length ≤ l.length → (delX nm m).length ≤ l.length ∧ ∀ x ∈ delX nm m, x ∈ l := fun nm m hm hl => ⟨Nat.le_trans (List.length_filter_le _ _) hl, fun x hx => hm x (List.mem_filter.1 hx).1⟩
  unfold doP
  by_cases k0 : kind = 0
  · rw [if_pos k0]
    split
    · exact hsame
    · split
      · exact hsame
      · exact hins _ l ⟨h1, h2⟩ (fun _ hx => hx) (Nat.le_refl _)
  · rw [if_neg k0]
    by_cases k1 : kind = 1
    · rw [if_pos k1]
      split
      · rename_i hx
        have hat := h _ (atX_mem hx)
        refine ⟨by rw [List.length_set]; omega, fun x hx2 => ?_⟩
        rcases List.mem_or_eq_of_mem_set hx2 with h4 | rfl
        · exact h x h4
        · exact hat
      · exact hsame
    · rw [if_neg k1]
      by_cases k2 : kind = 2
      · rw [if_pos k2]
        split
        · exact hsame
        · split
          · rename_i hx
            split
            · exact hsame
            · have hat := h _ (atX_mem hx)
              obtain ⟨g1, g2⟩ := hdel a l (fun _ hx => hx) (Nat.le_refl _)
              obtain ⟨g3, g4⟩ := hdel b (delX a l) g2 g1
              exact hins _ _ ⟨hat.1, h3⟩ g4 g3
          · exact hsame
      · rw [if_neg k2]
        split
        · obtain ⟨g1, g2⟩ := hdel a l (fun _ hx => hx) (Nat.le_refl _)
          exact ⟨by show (delX a l).length ≤ _; omega, fun x hx => h x (g2 x hx)⟩
        · exact hsame
theorem doQ_small (cap : Int) (l : List S48) (kind : Int) (a b : ByteArray) (dat : List Int) (h : ∀ x ∈ l, Okf x) (ho : fewO a b dat = true) :
    (doQ cap l kind a b dat).1.length ≤ l.length + 1 ∧ ∀ x ∈ (doQ cap l kind a b dat).1, Okf x := by
  have hsame : l.length ≤ l.length + 1 ∧ ∀ x ∈ l, Okf x := ⟨by omega, h⟩
  unfold doQ
  split
  · split
    · split
      · exact hsame
      · exact doP_small _ _ _ _ _ _ _ _ h ho
    · exact hsame
  · exact hsame
theorem sm_okf {l : List S48} (h1 : l.length ≤ 100) (h2 : ∀ x ∈ l, Okf x) : Sm l := ⟨by omega, fun x hx => by have := h2 x hx; unfold Okf at this; omega⟩
theorem fewO_sizes {a b : ByteArray} {dat : List Int} (h : fewO a b dat = true) : a.size ≤ 40 ∧ b.size ≤ 40 ∧ dat.length ≤ 300 := by
  simp only [fewO, Bool.and_eq_true, decide_eq_true_eq] at h
  exact ⟨h.1.2, h.2, h.1.1⟩
theorem awake_eq : catchwordlaw03_awake.f = some true := rfl
theorem usedN_perm {l m : List S48} (h : l.Perm m) : usedN l = usedN m := (h.map _).sum_nat
theorem usedN_app (l m : List S48) : usedN (l ++ m) = usedN l + usedN m := by simp [usedN]
theorem usedN_sub {l m : List S48} (h : l.Sublist m) : usedN l ≤ usedN m := by
  induction h with
  | slnil => exact Nat.le_refl _
  | cons a _ ih => rw [usedN_cons]; omega
  | cons_cons a _ ih => rw [usedN_cons, usedN_cons]; omega
theorem usedN_ins (z : S48) (m : List S48) : usedN (insX z m) = usedN m + z.f1.length := by
  rw [usedN_perm (insX_perm z m), usedN_app, usedN_cons]
  simp [usedN]
theorem ins_may {cap : Int} {l m : List S48} {z : S48} (hm : mayB cap l = true) (hsub : m.Sublist l) (hz : nameB z.f0 = true) (hfr : ∀ y ∈ m, y.f0.toList ≠ z.f0.toList) (hlen : m.length < 64) (hu : (usedN m : Int) + z.f1.length ≤ cap) : mayB cap (insX z m) = true := by
  obtain ⟨h1, h2, h3, h4, h5, h6⟩ := may_parts hm
  refine may_of (fun x hx => ?_) (insX_sorted z m (h2.sublist hsub) hfr) h3 h4 ?_ ?_
  · rcases insX_mem.1 hx with hx | rfl
    · exact h1 x (hsub.subset hx)
    · exact hz
  · rw [(insX_perm z m).length_eq, List.length_append, List.length_singleton]; omega
  · rw [usedN_ins]; omega
theorem sub_may {cap : Int} {l m : List S48} (hm : mayB cap l = true) (hsub : m.Sublist l) : mayB cap m = true := by
  obtain ⟨h1, h2, h3, h4, h5, h6⟩ := may_parts hm
  have := usedN_sub hsub
  have := hsub.length_le
  exact may_of (fun x hx => h1 x (hsub.subset hx)) (h2.sublist hsub) h3 h4 (by omega) (by omega)
theorem delX_sub (a : ByteArray) (l : List S48) : (delX a l).Sublist l := List.filter_sublist
theorem del_facts {cap : Int} {l : List S48} {a : ByteArray} (hm : mayB cap l = true) (hx : isX a l = true) : (delX a l).length + 1 = l.length ∧ usedN (delX a l) + (atX a l).f1.length = usedN l := by
  obtain ⟨l1, l2, e, hp, hnm, h1, h2⟩ := split_at (may_parts hm).2.1 hx
  have hdel : delX a l = l1 ++ l2 := by
    have := delX_split hnm h1 h2
    rw [← e] at this
    exact this
  have hl : l.length = (l1 ++ atX a l :: l2).length := by rw [← e]
  have hu : usedN l = usedN (l1 ++ atX a l :: l2) := by rw [← e]
  rw [hdel, hl, hu, usedN_app, usedN_app, usedN_cons]
  simp only [List.length_append, List.length_cons]
  omega
theorem doP_may (cap : Int) (l : List S48) (kind : Int) (a b : ByteArray) (dat : List Int) (hm : mayB cap l = true) (ha : nameB a = true) (hkd : ¬ (kind < 0 ∨ 4 ≤ kind)) (h : (doP cap l kind a b dat (usedN l : Int) (nameB b)).2 = 0) : mayB cap (doP cap l kind a b dat (usedN l : Int) (nameB b)).1 = true := by
  have hd := doP_refP cap l kind a b dat (may_parts hm).2.1 hkd (nameB b)
  obtain ⟨h1, h2, h3, h4, h5, h6⟩ := may_parts hm
  rw [hd] at h ⊢
  unfold refP at *
  by_cases k0 : kind = 0
  · rw [if_pos k0] at *
    by_cases hi : 0 ≤ findI l a
    · rw [if_pos hi] at h; cases h
    · rw [if_neg hi] at *
      by_cases hc : l.length = 64 ∨ cap < (usedN l : Int) + (dat.length : Int)
      · rw [if_pos hc] at h; cases h
      · rw [if_neg hc]
        have hx : isX a l = false := by
          cases hx : isX a l with
          | false => rfl
          | true => exfalso; apply hi; unfold findI; rw [if_pos hx]; omega
        exact ins_may hm (List.Sublist.refl _) ha (isX_ne hx) (by omega) (by show (usedN l : Int) + (dat.length : Int) ≤ cap; omega)
  · rw [if_neg k0] at *
    by_cases kb : kind = 2 ∧ nameB b = false
    · rw [if_pos kb] at h; cases h
    · rw [if_neg kb] at *
      by_cases hi : findI l a < 0
      · rw [if_pos hi] at h; cases h
      · rw [if_neg hi] at *
        have hx : isX a l = true := by
          cases hx : isX a l with
          | true => rfl
          | false => exfalso; apply hi; unfold findI; rw [if_neg (by rw [hx]; simp)]; omega
        have hf : findI l a = (posX a l : Int) := by unfold findI; rw [if_pos hx]
        have hrd : rd_T48 l (findI l a) = atX a l := by rw [hf]; rfl
        obtain ⟨d1, d2⟩ := del_facts hm hx
        obtain ⟨l1, l2, e, hp, hnm, g1, g2⟩ := split_at h2 hx
        rw [hrd] at *
        by_cases k1 : kind = 1
        · rw [if_pos k1]
          refine ins_may hm (delX_sub a l) (h1 (atX a l) (atX_mem hx)) (fun y hy => ?_) (by omega) (by show (usedN (delX a l) : Int) + ((atX a l).f1.length : Int) ≤ cap; omega)
          show y.f0.toList ≠ (atX a l).f0.toList
          rw [hnm]
          exact delX_ne y hy
        · rw [if_neg k1]
          by_cases k2 : kind = 2
          · rw [if_pos k2]
            have hb : nameB b = true := by
              cases hb : nameB b with
              | true => rfl
              | false => exact absurd ⟨k2, hb⟩ kb
            have s2 := delX_sub b (delX a l)
            have := usedN_sub s2
            have := s2.length_le
            exact ins_may hm (s2.trans (delX_sub a l)) hb (fun y hy => delX_ne y hy) (by omega) (by show (usedN (delX b (delX a l)) : Int) + ((atX a l).f1.length : Int) ≤ cap; omega)
          · rw [if_neg k2]
            exact sub_may hm (delX_sub a l)
theorem doQ_same (cap : Int) (l : List S48) (kind : Int) (a b : ByteArray) (dat : List Int) (h : (doQ cap l kind a b dat).2 ≠ 0) : (doQ cap l kind a b dat).1 = l := by
  unfold doQ at *
  split
  · rename_i h1
    rw [if_pos h1] at h
    split
    · rename_i h2
      rw [if_pos h2] at h
      split
      · rfl
      · rename_i h3
        rw [if_neg h3] at h
        exact doP_same _ _ _ _ _ _ _ _ h
    · rfl
  · rfl
theorem doQ_may (cap : Int) (l : List S48) (kind : Int) (a b : ByteArray) (dat : List Int) (h : (doQ cap l kind a b dat).2 = 0) : mayB cap l = true ∧ mayB cap (doQ cap l kind a b dat).1 = true ∧ nameB a = true ∧ ¬ (kind < 0 ∨ 4 ≤ kind) ∧ doQ cap l kind a b dat = doP cap l kind a b dat (usedN l : Int) (nameB b) := by
  unfold doQ at *
  cases hm : mayB cap l with
  | false => rw [hm, if_neg (by simp)] at h; cases h
  | true =>
    rw [hm, if_pos rfl] at h
    rw [if_pos rfl]
    cases hn : nameB a with
    | false => rw [hn, if_neg (by simp)] at h; cases h
    | true =>
      rw [hn, if_pos rfl] at h
      rw [if_pos rfl]
      by_cases hkd : kind < 0 ∨ 4 ≤ kind
      · rw [if_pos hkd] at h; cases h
      · rw [if_neg hkd] at h ⊢
        exact ⟨rfl, doP_may cap l kind a b dat hm hn hkd h, rfl, hkd, rfl⟩
theorem dUsed_eq (cap : Int) (l : List S48) (h : Sm l) (k : Nat) (hk : KS ≤ k) : disk_Used.f k cap l = some (if mayB cap l = true then (usedN l : Int) else 0) := by
  unfold disk_Used.f
  have hk' := hk
  unfold KS at hk'
  have := h.1
  rw [dmay_eq cap l h k hk, dused_eq l h k (by omega)]
  cases mayB cap l <;> rfl
theorem crashL_small : ∀ (l : List S48) (p : List Int), (∀ x ∈ l, Okf x) → (crashL l p).length ≤ l.length ∧ ∀ x ∈ crashL l p, Okf x
  | [], p, h => ⟨Nat.le_refl _, h⟩
  | x :: l, p, h => by
    have hl : ∀ y ∈ l, Okf y := fun y hy => h y (by simp [hy])
    have hx := h x (by simp)
    have cons_ : ∀ (z : S48) (q : List Int), Okf z → (z :: crashL l q).length ≤ (x :: l).length ∧ ∀ y ∈ z :: crashL l q, Okf y := fun z q hz => by
      obtain ⟨h1, h2⟩ := crashL_small l q hl
      refine ⟨by simp only [List.length_cons]; omega, fun y hy => ?_⟩
      rcases List.mem_cons.1 hy with rfl | hy
      · exact hz
      · exact h2 y hy
    have skip_ : ∀ q, (crashL l q).length ≤ (x :: l).length ∧ ∀ y ∈ crashL l q, Okf y := fun q => by
      obtain ⟨h1, h2⟩ := crashL_small l q hl
      exact ⟨by simp only [List.length_cons]; omega, h2⟩
    have cut_ : ∀ n : Nat, Okf ⟨x.f0, x.f1.take n, true⟩ := fun n => ⟨Nat.le_trans (List.length_take_le' n x.f1) hx.1, hx.2⟩
    cases p with
    | nil =>
      rw [crashL]
      split
      · exact cons_ x [] hx
      · exact skip_ _
    | cons n q =>
      rw [crashL]
      split
      · exact cons_ x _ hx
      · split
        · exact skip_ _
        · exact cons_ _ _ (cut_ _)
def crashQ (cap : Int) (l : List S48) (p : List Int) : List S48 := if mayB cap l = true then crashL l p else l
theorem crash_eq (cap : Int) (l : List S48) (p : List Int) (h : Sm l) (k : Nat) (hk : KS ≤ k) : disk_Crash.f k cap l p = some (cap, crashQ cap l p) := by
  unfold disk_Crash.f crashQ
  rw [if_pos (own_of_sm h), dmay_eq cap l h k hk, Option.bind_some]
  split <;> rfl
theorem crashL_facts : ∀ (l : List S48) (p : List Int), ((crashL l p).map fun x => x.f0).Sublist (l.map fun x => x.f0) ∧ (∀ x ∈ crashL l p, x.f2 = true) ∧ usedN (crashL l p) ≤ usedN l
  | [], p => by cases p <;> exact ⟨List.Sublist.refl _, fun x hx => absurd hx (by simp [crashL]), Nat.le_refl _⟩
  | x :: l, p => by
    have cons_ : ∀ (z : S48) (q : List Int), z.f0 = x.f0 → z.f2 = true → z.f1.length ≤ x.f1.length → ((z :: crashL l q).map fun x => x.f0).Sublist ((x :: l).map fun x => x.f0) ∧ (∀ y ∈ z :: crashL l q, y.f2 = true) ∧ usedN (z :: crashL l q) ≤ usedN (x :: l) := fun z q h0 h2 h1 => by
      obtain ⟨g1, g2, g3⟩ := crashL_facts l q
      refine ⟨?_, fun y hy => ?_, ?_⟩
      · rw [List.map_cons, List.map_cons, h0]
        exact g1.cons_cons _
      · rcases List.mem_cons.1 hy with rfl | hy
        · exact h2
        · exact g2 y hy
      · rw [usedN_cons, usedN_cons]; omega
    have skip_ : ∀ q, ((crashL l q).map fun x => x.f0).Sublist ((x :: l).map fun x => x.f0) ∧ (∀ y ∈ crashL l q, y.f2 = true) ∧ usedN (crashL l q) ≤ usedN (x :: l) := fun q => by
      obtain ⟨g1, g2, g3⟩ := crashL_facts l q
      refine ⟨?_, g2, by rw [usedN_cons]; omega⟩
      rw [List.map_cons]
      exact g1.cons _
    cases p with
    | nil =>
      rw [crashL]
      split
      · rename_i h
        exact cons_ x [] rfl h (Nat.le_refl _)
      · exact skip_ _
    | cons n q =>
      rw [crashL]
      split
      · rename_i h
        exact cons_ x _ rfl h (Nat.le_refl _)
      · split
        · exact skip_ _
        · exact cons_ _ _ rfl rfl (List.length_take_le' _ _)
theorem crashL_may {cap : Int} {l : List S48} (p : List Int) (hm : mayB cap l = true) : mayB cap (crashL l p) = true := by
  obtain ⟨h1, h2, h3, h4, h5, h6⟩ := may_parts hm
  obtain ⟨g1, g2, g3⟩ := crashL_facts l p
  refine may_of (fun x hx => ?_) ?_ h3 h4 ?_ (by omega)
  · have := g1.subset (List.mem_map_of_mem (f := fun x : S48 => x.f0) hx)
    obtain ⟨y, hy, e⟩ := List.mem_map.1 this
    rw [← e]
    exact h1 y hy
  · have hp : (l.map fun x => x.f0).Pairwise (fun a b => Op.bytesLess a.toList b.toList = true) := List.pairwise_map.2 h2
    exact List.pairwise_map.1 (hp.sublist g1)
  · have := g1.length_le
    rw [List.length_map, List.length_map] at this
    omega
theorem crashL_sure : ∀ (l : List S48) (p : List Int), (∀ x ∈ l, x.f2 = true) → crashL l p = l
  | [], p, _ => by cases p <;> rfl
  | x :: l, p, h => by
    have hx := h x (by simp)
    have ih := crashL_sure l p (fun y hy => h y (by simp [hy]))
    cases p with
    | nil => rw [crashL, if_pos hx, ih]
    | cons n q => rw [crashL, if_pos hx, ih]
theorem crashL_isX {l : List S48} (p : List Int) {x : S48} (hx : x ∈ crashL l p) : isX x.f0 l = true := by
  have := (crashL_facts l p).1.subset (List.mem_map_of_mem (f := fun x : S48 => x.f0) hx)
  obtain ⟨y, hy, e⟩ := List.mem_map.1 this
  exact decide_eq_true (isX_iff.2 ⟨y, hy, by rw [e]⟩)
end Go.Proofs.Ytaldbabkdoabkaa.Plain
