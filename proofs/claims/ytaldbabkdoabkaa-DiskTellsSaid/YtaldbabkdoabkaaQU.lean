import Derived.Test.YtaldbabkdoabkaaProg
import Derived.Test.YtaldbabkdoabkaaQV
import Derived.Test.YtaldbabkdoabkaaQA
import Derived.Test.YtaldbabkdoabkaaQD
import Derived.Test.YtaldbabkdoabkaaQE
import Derived.Test.YtaldbabkdoabkaaQK
import Derived.Test.YtaldbabkdoabkaaQM
import Derived.Test.YtaldbabkdoabkaaP0
namespace Go.Proofs.Ytaldbabkdoabkaa.T
open Go.RowKit Go.Proofs.YtaldbabkdoabkaaW.PrintWords Go.Proofs.YtaldbabkdoabkaaW.PrintLast Go.Proofs.YtaldbabkdoabkaaW.PrintMore
attribute [local go_sem] max2_int min2_int max_two min_two max_three min_three max_four min_four   -- for this text's walks alone
set_option linter.unusedVariables false
set_option linter.unusedSimpArgs false
/-! ### what the disk's functions tell, in words -/
open Go.Proofs.Ytaldbabkdoabkaa.Plain
def readQ (cap : Int) (l : List S48) (a : ByteArray) : List Int × Int := if mayB cap l = true then (if isX a l = true then ((atX a l).f1, 0) else ([], 2)) else ([], 1)
def findQ (cap : Int) (l : List S48) (a : ByteArray) : Int := if mayB cap l = true then findI l a else -1
theorem findI_lt (l : List S48) (a : ByteArray) : findI l a < (l.length : Int) := by
  unfold findI
  split
  · rename_i h
    have := posX_lt h
    omega
  · omega
theorem dfind_big (cap : Int) (l : List S48) (a : ByteArray) (h : Sm l) (ha : a.size ≤ 9223372036854775807) (k : Nat) (hk : KS ≤ k) : disk_Find.f k cap l a = some (if mayB cap l = true then findI l a else -1) := by
  unfold disk_Find.f
  have hs : sizesOk l = true := by
    unfold sizesOk
    rw [List.all_eq_true]
    intro x hx
    have := h.2 x hx
    exact decide_eq_true (by omega)
  rw [if_pos hs, if_pos ha, dmay_eq cap l h k hk]
  by_cases hx : a.data.toList ∈ namesOf l
  · have hx2 : isX a l = true := decide_eq_true hx
    rw [if_pos hx, Option.bind_some]
    cases hm : mayB cap l with
    | false => rw [if_neg (by simp), if_neg (by simp)]
    | true =>
      rw [if_pos rfl, if_pos rfl]
      have hn := sorted_nodup (may_parts hm).2.1
      simp only [toList_data] at hn
      have hn2 : (namesOf l).Nodup := hn
      rw [if_pos hn2]
      unfold findI
      rw [if_pos hx2]
      rfl
  · have hx2 : ¬ isX a l = true := by unfold isX; rw [decide_eq_false hx]; simp
    rw [if_neg hx]
    unfold findI
    rw [if_neg hx2]
    split <;> rfl
theorem dread_eq (cap : Int) (l : List S48) (a : ByteArray) (h : Sm l) (ha : a.size ≤ 9223372036854775807) (k : Nat) (hk : KS ≤ k) : disk_Read.f k cap l a = some (readQ cap l a) := by
  unfold disk_Read.f readQ
  rw [dfind_big cap l a h ha k hk, Option.bind_some, dmay_eq cap l h k hk, Option.bind_some]
  cases hm : mayB cap l with
  | false => rw [if_neg (by simp), if_neg (by simp)]
  | true =>
    rw [if_pos rfl, if_pos rfl, if_pos rfl]
    unfold findI
    cases hx : isX a l with
    | false => rw [if_neg (by simp : ¬ (false = true)), if_pos rfl, if_neg (by simp : ¬ (false = true))]
    | true =>
      have h1 := posX_lt hx
      have h2 : (atX a l).f1.length ≤ 400 := (h.2 _ (atX_mem hx)).1
      rw [if_pos rfl, if_neg (by omega), if_pos (by omega), if_pos (by omega), if_pos rfl]
      have : slices_Clone_u8.f ((rd_T48 l (posX a l : Int)).f1) = some (atX a l).f1 := by
        unfold slices_Clone_u8.f
        exact if_pos (show (atX a l).f1.length * 1 ≤ 140737488355328 by omega)
      rw [this]
      rfl
theorem qfew {A : Option Addr} {c : Nat} {cap : Int} {l : List S48} {b : Bool} {w : World} (hC : Kd.C k48 w A l.length l) (hc : l.length ≤ c) (h : fewB l = b) : Calls Try.prog 11 #[.agg #[.int .i64 cap, .slice A l.length c]] w fun e w' => e = .returned (.bool b) ∧ Below w.heap.size w w' :=
  catchwordlaw03_Few.calls KS cap A c l b w hC hc (by rw [few_eq cap l KS (Nat.le_refl _), h])
theorem qmay {A : Option Addr} {c : Nat} {cap : Int} {l : List S48} {b : Bool} {w : World} (hC : Kd.C k48 w A l.length l) (hc : l.length ≤ c) (hs : Sm l) (h : mayB cap l = b) : Calls Try.prog 18 #[.agg #[.int .i64 cap, .slice A l.length c]] w fun e w' => e = .returned (.bool b) ∧ Below w.heap.size w w' :=
  disk_May.calls KS cap A c l b w hC hc (by rw [dmay_eq cap l hs KS (Nat.le_refl _), h])
theorem qfind {A : Option Addr} {c : Nat} {cap : Int} {l : List S48} {a : ByteArray} {r : Int} {w : World} (hC : Kd.C k48 w A l.length l) (hc : l.length ≤ c) (hs : Sm l) (ha : a.size ≤ 9223372036854775807) (h : findQ cap l a = r) : Calls Try.prog 21 #[.agg #[.int .i64 cap, .slice A l.length c], .string a] w fun e w' => e = .returned (.int .i64 r) ∧ Below w.heap.size w w' :=
  disk_Find.calls KS cap A c l a r w hC hc (by rw [dfind_big cap l a hs ha KS (Nat.le_refl _), ← h]; rfl)
theorem qread {A : Option Addr} {c : Nat} {cap : Int} {l : List S48} {a : ByteArray} {r1 : List Int} {r2 : Int} {w : World} (hC : Kd.C k48 w A l.length l) (hc : l.length ≤ c) (hs : Sm l) (ha : a.size ≤ 9223372036854775807) (h : readQ cap l a = (r1, r2)) :
    Calls Try.prog 12 #[.agg #[.int .i64 cap, .slice A l.length c], .string a] w fun e w' => ∃ (A' : Option Addr) (c' : Nat), e = .returned (.tuple #[.slice A' r1.length c', .int .i64 r2]) ∧ Aside0 (r1.length ≤ c') ∧ Aside0 (Kd.C (Kd.int .u8) w' A' r1.length r1) ∧ Below w.heap.size w w' := by
  refine (disk_Read.calls KS cap A c l a r1 r2 w hC hc (by rw [dread_eq cap l a hs ha KS (Nat.le_refl _), h])).mono ?_
  rintro e w' ⟨v, rfl, hR, hb⟩
  obtain ⟨A', c', rfl, h1, h2⟩ := Kd.R_reads hR
  exact ⟨A', c', rfl, ⟨h1⟩, ⟨h2⟩, hb⟩
theorem qbytes {A B : Option Addr} {c d : Nat} {l m : List Int} {b : Bool} {w : World} (hC : Kd.C (Kd.int .u8) w A l.length l) (hc : l.length ≤ c) (hD : Kd.C (Kd.int .u8) w B m.length m) (hd : m.length ≤ d) (hl : l.length ≤ 500) (h : decide (l = m) = b) :
    Calls Try.prog 14 #[.slice A l.length c, .slice B m.length d] w fun e w' => e = .returned (.bool b) ∧ Below w.heap.size w w' := by
  refine (catchwordref01_Bytes.calls KS A c l B d m b w hC hc hD hd (by rw [bytes_eq l m (by omega) KS (by unfold KS; omega), h])).mono ?_
  rintro e w' ⟨rfl, hd⟩
  exact ⟨rfl, drawn_below hd⟩
end Go.Proofs.Ytaldbabkdoabkaa.T
