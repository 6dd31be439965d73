import Derived.Test.YtaldbabkdoabkaaProg
import Derived.Test.YtaldbabkdoabkaaQV
import Derived.Test.YtaldbabkdoabkaaQA
import Derived.Test.YtaldbabkdoabkaaQK
import Derived.Test.YtaldbabkdoabkaaQP
import Derived.Test.YtaldbabkdoabkaaQQ
import Derived.Test.YtaldbabkdoabkaaQZ
import Derived.Test.YtaldbabkdoabkaaQU
import Derived.Test.YtaldbabkdoabkaaP0
import Derived.Test.YtaldbabkdoabkaaP1
namespace Go.Proofs.Ytaldbabkdoabkaa.T
open Go.RowKit Go.Proofs.YtaldbabkdoabkaaW.PrintWords Go.Proofs.YtaldbabkdoabkaaW.PrintLast Go.Proofs.YtaldbabkdoabkaaW.PrintMore
attribute [local go_sem] max2_int min2_int max_two min_two max_three min_three max_four min_four   -- for this text's walks alone
set_option linter.unusedVariables false
set_option linter.unusedSimpArgs false
/-! ### what the document's functions tell, in words -/
open Go.Proofs.Ytaldbabkdoabkaa.Plain
theorem rread_eq (cap : Int) (l : List S48) (a : ByteArray) (h : Sm l) (k : Nat) (hk : KS ≤ k) : catchwordref03_Read.f k cap l a = some (readQ cap l a) := by
  unfold catchwordref03_Read.f readQ
  rw [rmay_eq cap l h k hk, Option.bind_some, rfind_eq cap l a h k hk]
  cases hm : mayB cap l with
  | false => rw [if_neg (by simp), if_neg (by simp)]
  | true =>
    rw [if_pos rfl, if_pos rfl, if_pos rfl, Option.bind_some]
    unfold findI
    cases hx : isX a l with
    | false => rfl
    | true =>
      have h1 := posX_lt hx
      rw [if_pos rfl, if_neg (by omega), if_pos (by omega), if_pos (by omega), if_pos rfl]
      rfl
def usedQ (cap : Int) (l : List S48) : Int := if mayB cap l = true then (usedN l : Int) else 0
theorem rUsed_eq (cap : Int) (l : List S48) (h : Sm l) (k : Nat) (hk : KS ≤ k) : catchwordref03_Used.f k cap l = some (usedQ cap l) := by
  unfold catchwordref03_Used.f usedQ
  rw [rmay_eq cap l h k hk, Option.bind_some]
  split
  · rw [rused_eq l h k (by have := h.1; unfold KS at hk; omega)]
    rfl
  · rfl
theorem new_eq (room : Int) (k : Nat) (hk : KS ≤ k) : disk_New.f k room = some (if mayB room [] = true then (room, [], true) else (0, [], false)) := by
  unfold disk_New.f
  rw [dmay_eq room [] ⟨by decide, fun x hx => absurd hx (by simp)⟩ k hk, Option.bind_some]
  split <;> rfl
theorem sm_nil : Sm ([] : List S48) := ⟨by decide, fun x hx => absurd hx (by simp)⟩
theorem qnew {room : Int} {m : Bool} {r : Int} {w : World} (h : mayB room [] = m) (hr : (if m = true then room else 0) = r) :
    Calls Try.prog 15 #[.int .i64 room] w fun e w' => ∃ (A : Option Addr) (c : Nat), e = .returned (.tuple #[.agg #[.int .i64 r, .slice A 0 c], .bool m]) ∧ Aside0 (Kd.C k48 w' A ([] : List S48).length []) ∧ Below w.heap.size w w' := by
  refine (disk_New.calls KS room r [] m w (by rw [new_eq room KS (Nat.le_refl _), h, ← hr]; cases m <;> rfl)).mono ?_
  rintro e w' ⟨v, rfl, hS, hb⟩
  obtain ⟨A, c, ev⟩ := Kd.R_slice (Kd.S_R hS)
  subst ev
  exact ⟨A, c, rfl, ⟨(Kd.R_reads' (Kd.S_R hS)).2.2⟩, hb⟩
theorem qused {A : Option Addr} {c : Nat} {cap : Int} {l : List S48} {r : Int} {w : World} (hC : Kd.C k48 w A l.length l) (hc : l.length ≤ c) (hs : Sm l) (h : usedQ cap l = r) : Calls Try.prog 19 #[.agg #[.int .i64 cap, .slice A l.length c]] w fun e w' => e = .returned (.int .i64 r) ∧ Below w.heap.size w w' :=
  disk_Used.calls KS cap A c l r w hC hc (by rw [dUsed_eq cap l hs KS (Nat.le_refl _), ← h]; rfl)
theorem qsame {A B : Option Addr} {c d : Nat} {cap cap2 : Int} {l m : List S48} {b : Bool} {w : World} (hC : Kd.C k48 w A l.length l) (hc : l.length ≤ c) (hD : Kd.C k48 w B m.length m) (hd : m.length ≤ d) (hs : Sm l) (h : (decide (cap = cap2) && decide (l = m)) = b) :
    Calls Try.prog 23 #[.agg #[.int .i64 cap, .slice A l.length c], .agg #[.int .i64 cap2, .slice B m.length d]] w fun e w' => e = .returned (.bool b) ∧ Below w.heap.size w w' :=
  disk_Same.calls KS cap A c l cap2 B d m b w hC hc hD hd (by rw [dsame_eq cap l cap2 m hs KS (Nat.le_refl _), h])
theorem rsame {A B : Option Addr} {c d : Nat} {cap cap2 : Int} {l m : List S48} {b : Bool} {w : World} (hC : Kd.C k48 w A l.length l) (hc : l.length ≤ c) (hD : Kd.C k48 w B m.length m) (hd : m.length ≤ d) (hs : Sm l) (h : (decide (cap = cap2) && decide (l = m)) = b) :
    Calls Try.prog 17 #[.agg #[.int .i64 cap, .slice A l.length c], .agg #[.int .i64 cap2, .slice B m.length d]] w fun e w' => e = .returned (.bool b) ∧ Below w.heap.size w w' :=
  catchwordref03_Same.calls KS cap A c l cap2 B d m b w hC hc hD hd (by rw [rsame_eq cap l cap2 m hs KS (Nat.le_refl _), h])
theorem rmay {A : Option Addr} {c : Nat} {cap : Int} {l : List S48} {b : Bool} {w : World} (hC : Kd.C k48 w A l.length l) (hc : l.length ≤ c) (hs : Sm l) (h : mayB cap l = b) : Calls Try.prog 16 #[.agg #[.int .i64 cap, .slice A l.length c]] w fun e w' => e = .returned (.bool b) ∧ Below w.heap.size w w' :=
  catchwordref03_May.calls KS cap A c l b w hC hc (by rw [rmay_eq cap l hs KS (Nat.le_refl _), h])
theorem rused {A : Option Addr} {c : Nat} {cap : Int} {l : List S48} {r : Int} {w : World} (hC : Kd.C k48 w A l.length l) (hc : l.length ≤ c) (hs : Sm l) (h : usedQ cap l = r) : Calls Try.prog 20 #[.agg #[.int .i64 cap, .slice A l.length c]] w fun e w' => e = .returned (.int .i64 r) ∧ Below w.heap.size w w' :=
  catchwordref03_Used.calls KS cap A c l r w hC hc (by rw [rUsed_eq cap l hs KS (Nat.le_refl _), h])
theorem rfind {A : Option Addr} {c : Nat} {cap : Int} {l : List S48} {a : ByteArray} {r : Int} {w : World} (hC : Kd.C k48 w A l.length l) (hc : l.length ≤ c) (hs : Sm l) (h : findQ cap l a = r) : Calls Try.prog 22 #[.agg #[.int .i64 cap, .slice A l.length c], .string a] w fun e w' => e = .returned (.int .i64 r) ∧ Below w.heap.size w w' :=
  catchwordref03_Find.calls KS cap A c l a r w hC hc (by rw [rfind_eq cap l a hs KS (Nat.le_refl _), ← h]; rfl)
theorem rread {A : Option Addr} {c : Nat} {cap : Int} {l : List S48} {a : ByteArray} {r1 : List Int} {r2 : Int} {w : World} (hC : Kd.C k48 w A l.length l) (hc : l.length ≤ c) (hs : Sm l) (h : readQ cap l a = (r1, r2)) :
    Calls Try.prog 13 #[.agg #[.int .i64 cap, .slice A l.length c], .string a] w fun e w' => ∃ (A' : Option Addr) (c' : Nat), e = .returned (.tuple #[.slice A' r1.length c', .int .i64 r2]) ∧ Aside0 (r1.length ≤ c') ∧ Aside0 (Kd.C (Kd.int .u8) w' A' r1.length r1) ∧ Below w.heap.size w w' := by
  refine (catchwordref03_Read.calls KS cap (fun k => k < w.heap.size) A c l a r1 r2 w (Kd.V_mk hc (Kd.C_F k48_heap hC)) (by rw [rread_eq cap l a hs KS (Nat.le_refl _), h])).mono ?_
  rintro e w' ⟨v, rfl, hV, hb⟩
  obtain ⟨A', c', rfl⟩ := Kd.V_slice hV
  exact ⟨A', c', rfl, ⟨(Kd.V_reads' hV).2.1⟩, ⟨(Kd.V_reads' hV).2.2⟩, hb⟩
end Go.Proofs.Ytaldbabkdoabkaa.T
