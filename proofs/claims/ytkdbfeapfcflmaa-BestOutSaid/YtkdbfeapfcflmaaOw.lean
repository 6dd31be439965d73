/- Written by hp.py, this session's own program, out of the translation of this seat: Lean functions for the Go functions, and the proof that each call comes to what its Lean function says. -/
import Derived.Test.YtkdbfeapfcflmaaProg
import Derived.Below
import Derived.Deep.Draws
import Derived.Deep.AppendLies
import Derived.Maps.AppendAt
import Derived.OwnWalk
import Derived.Laws.BytesArg
import Derived.Laws.MakeOwn
import Derived.Laws.OwnMore
import Derived.Deep.OwnRows
import Derived.Tactics
import Derived.Lib.ConvBytes
import Derived.Laws.Slices
import Derived.WalkKit
import Derived.KernelRfl
import Derived.RowKit3
import Derived.Deep.LoopGhost
import Derived.Deep.QuietTactic
import Derived.BigQuiet
import Derived.WideLaws
import Derived.Deep.DeepCutAuto
import Derived.Deep.CutBlock
import Derived.Deep.RegionHeld3
import Derived.Laws.Rows
import Derived.Lib.AppendStr
import Derived.ArgAppend
import Derived.Laws.IdiomCopy
import Derived.OrdersHeld
import Derived.Laws.BitsLemmas
import Derived.RowKit
import Derived.Test.YtkdbfeapfcflmaaWWords
import Derived.Test.YtkdbfeapfcflmaaWLast
import Derived.Test.YtkdbfeapfcflmaaWTab
import Derived.Test.YtkdbfeapfcflmaaWFour
import Derived.Test.YtkdbfeapfcflmaaWQPut
import Derived.Test.YtkdbfeapfcflmaaWApart
import Derived.Test.YtkdbfeapfcflmaaWArr
import Derived.Test.YtkdbfeapfcflmaaWZeros
import Derived.Test.YtkdbfeapfcflmaaWFoot
import Derived.Test.YtkdbfeapfcflmaaWKept
import Derived.Test.YtkdbfeapfcflmaaWShare
import Derived.Test.YtkdbfeapfcflmaaWN
import Derived.Test.YtkdbfeapfcflmaaWFootNe
import Derived.Test.YtkdbfeapfcflmaaWAt
import Derived.Test.YtkdbfeapfcflmaaWEqStruct
import Derived.Test.YtkdbfeapfcflmaaWRepsOne
import Derived.Test.YtkdbfeapfcflmaaWInv
import Derived.Test.YtkdbfeapfcflmaaWInvWords
import Derived.Test.YtkdbfeapfcflmaaWGuard
import Derived.Test.YtkdbfeapfcflmaaWNEv
import Derived.Test.YtkdbfeapfcflmaaWMore
import Derived.Test.YtkdbfeapfcflmaaAw
import Derived.Test.YtkdbfeapfcflmaaPH
namespace Go.Proofs.Ytkdbfeapfcflmaa.T
open Go.RowKit Go.Proofs.YtkdbfeapfcflmaaW.PrintWords Go.Proofs.YtkdbfeapfcflmaaW.PrintLast Go.Proofs.YtkdbfeapfcflmaaW.PrintMore
attribute [local go_sem] max2_int min2_int max_two min_two max_three min_three max_four min_four   -- for this text's walks alone
set_option linter.unusedVariables false
set_option linter.unusedSimpArgs false
/-! ### what Best, First, few, May and Same tell, in words for hand walks -/
open Go.Proofs.Ytkdbfeapfcflmaa.Plain (aheadB soonerB KB mayB fewB)
theorem of_post {F : Nat} {args : Array Value} {w : World} {r : List S27} (h : Calls Try.prog F args w fun e w' => ∃ v0_ : Value, e = .returned (v0_) ∧ Kd.R k27 27 w' w.heap.size (fun _ => True) v0_ r ∧ Below w.heap.size w w') :
    Calls Try.prog F args w fun e w' => ∃ (A : Option Addr) (c : Nat), e = .returned (.slice A r.length c) ∧ Aside0 (r.length ≤ c) ∧ Aside0 (Kd.C k27 w' A r.length r) ∧ Below w.heap.size w w' := by
  refine h.mono ?_
  rintro e w' ⟨v, rfl, hR, hB⟩
  obtain ⟨A, c, rfl, hc, hC⟩ := Kd.R_reads hR
  exact ⟨A, c, rfl, ⟨hc⟩, ⟨hC⟩, hB⟩
theorem Best_one (n : Int) (A : Option Addr) (c : Nat) (l : List S27) (w : World) (g : Nat) (hg : w.heap[g]? = some (.cells #[.slice A l.length c] 22 (0, 0))) (hc : l.length ≤ c) (hC : Kd.C k27 w A l.length l) (hu : ∀ x ∈ l, HitG x) (hl : l.length ≤ 5000) (r : List S27) (hr : ofV aheadB n l (mayB l) = r) :
    Calls Try.prog 19 #[.int .i64 n, .slice (some ⟨g, 0, none⟩) 1 1] w fun e w' => ∃ (A : Option Addr) (c : Nat), e = .returned (.slice A r.length c) ∧ Aside0 (r.length ≤ c) ∧ Aside0 (Kd.C k27 w' A r.length r) ∧ Below w.heap.size w w' := by
  have e := Plain.best_eq n [l] (by simpa using hu) (by simpa using hl) KB (Nat.le_refl _)
  rw [show [l].flatten = l by simp] at e
  rw [hr] at e
  exact of_post (best_Best.calls KB n (some ⟨g, 0, none⟩) 1 [l] _ w (rows1_C w g A c l hg hc hC) (Nat.le_refl _) e)
theorem First_one (n : Int) (A : Option Addr) (c : Nat) (l : List S27) (w : World) (g : Nat) (hg : w.heap[g]? = some (.cells #[.slice A l.length c] 22 (0, 0))) (hc : l.length ≤ c) (hC : Kd.C k27 w A l.length l) (hu : ∀ x ∈ l, HitG x) (hl : l.length ≤ 5000) (r : List S27) (hr : ofV soonerB n l (mayB l) = r) :
    Calls Try.prog 21 #[.int .i64 n, .slice (some ⟨g, 0, none⟩) 1 1] w fun e w' => ∃ (A : Option Addr) (c : Nat), e = .returned (.slice A r.length c) ∧ Aside0 (r.length ≤ c) ∧ Aside0 (Kd.C k27 w' A r.length r) ∧ Below w.heap.size w w' := by
  have e := Plain.first_eq n [l] (by simpa using hu) (by simpa using hl) KB (Nat.le_refl _)
  rw [show [l].flatten = l by simp] at e
  rw [hr] at e
  exact of_post (best_First.calls KB n (some ⟨g, 0, none⟩) 1 [l] _ w (rows1_C w g A c l hg hc hC) (Nat.le_refl _) e)
theorem Best_two (n : Int) (A B : Option Addr) (c d : Nat) (l m : List S27) (w : World) (g : Nat) (hg : w.heap[g]? = some (.cells #[.slice A l.length c, .slice B m.length d] 22 (0, 0))) (hc : l.length ≤ c) (hC : Kd.C k27 w A l.length l) (hd : m.length ≤ d) (hD : Kd.C k27 w B m.length m) (hu : ∀ x ∈ l ++ m, HitG x) (hl : (l ++ m).length ≤ 5000) (r : List S27) (hr : ofV aheadB n (l ++ m) (mayB (l ++ m)) = r) :
    Calls Try.prog 19 #[.int .i64 n, .slice (some ⟨g, 0, none⟩) 2 2] w fun e w' => ∃ (A : Option Addr) (c : Nat), e = .returned (.slice A r.length c) ∧ Aside0 (r.length ≤ c) ∧ Aside0 (Kd.C k27 w' A r.length r) ∧ Below w.heap.size w w' := by
  have e := Plain.best_eq n [l, m] (by intro x hx y hy; simp only [List.mem_cons, List.not_mem_nil, or_false] at hx; rcases hx with rfl | rfl <;> exact hu y (by simp [hy])) (by simpa using hl) KB (Nat.le_refl _)
  rw [show [l, m].flatten = l ++ m by simp] at e
  rw [hr] at e
  exact of_post (best_Best.calls KB n (some ⟨g, 0, none⟩) 2 [l, m] _ w (rows2_C w g A B c d l m hg hc hC hd hD) (Nat.le_refl _) e)
theorem First_two (n : Int) (A B : Option Addr) (c d : Nat) (l m : List S27) (w : World) (g : Nat) (hg : w.heap[g]? = some (.cells #[.slice A l.length c, .slice B m.length d] 22 (0, 0))) (hc : l.length ≤ c) (hC : Kd.C k27 w A l.length l) (hd : m.length ≤ d) (hD : Kd.C k27 w B m.length m) (hu : ∀ x ∈ l ++ m, HitG x) (hl : (l ++ m).length ≤ 5000) (r : List S27) (hr : ofV soonerB n (l ++ m) (mayB (l ++ m)) = r) :
    Calls Try.prog 21 #[.int .i64 n, .slice (some ⟨g, 0, none⟩) 2 2] w fun e w' => ∃ (A : Option Addr) (c : Nat), e = .returned (.slice A r.length c) ∧ Aside0 (r.length ≤ c) ∧ Aside0 (Kd.C k27 w' A r.length r) ∧ Below w.heap.size w w' := by
  have e := Plain.first_eq n [l, m] (by intro x hx y hy; simp only [List.mem_cons, List.not_mem_nil, or_false] at hx; rcases hx with rfl | rfl <;> exact hu y (by simp [hy])) (by simpa using hl) KB (Nat.le_refl _)
  rw [show [l, m].flatten = l ++ m by simp] at e
  rw [hr] at e
  exact of_post (best_First.calls KB n (some ⟨g, 0, none⟩) 2 [l, m] _ w (rows2_C w g A B c d l m hg hc hC hd hD) (Nat.le_refl _) e)
theorem few_told (A : Option Addr) (c : Nat) (l : List S27) (b : Bool) (w : World) (hC : Kd.C k27 w A l.length l) (hc : l.length ≤ c) (h : fewB l = b) : Calls Try.prog 10 #[.slice A l.length c] w fun e w' => e = .returned (.bool b) ∧ Drawn0 w w' :=
  catchwordlaw20_few.calls 1200 A c l b w hC hc (by rw [Plain.few_eq 1200 l (Nat.le_refl _), h])
theorem may_told (A : Option Addr) (c : Nat) (l : List S27) (b : Bool) (w : World) (hC : Kd.C k27 w A l.length l) (hc : l.length ≤ c) (hu : ∀ x ∈ l, HitG x) (h : mayB l = b) : Calls Try.prog 11 #[.slice A l.length c] w fun e w' => e = .returned (.bool b) ∧ Below w.heap.size w w' :=
  best_May.calls KB A c l b w hC hc (by rw [Plain.bmay_eq KB l (Nat.le_refl _) hu, h])
theorem same_told (A B : Option Addr) (c d : Nat) (l m : List S27) (w : World) (hC : Kd.C k27 w A l.length l) (hc : l.length ≤ c) (hD : Kd.C k27 w B m.length m) (hd : m.length ≤ d) (hl : l.length ≤ 5000) (h : l = m) : Calls Try.prog 18 #[.slice A l.length c, .slice B m.length d] w fun e w' => e = .returned (.bool true) ∧ Below w.heap.size w w' := by
  subst h
  refine (catchwordref20_Same.calls 5001 A c l B d l true w hC hc hD hd (Plain.same_refl l hl 5001 (Nat.le_refl _))).mono ?_
  rintro e w' ⟨rfl, nd, rfl⟩
  exact ⟨rfl, pw_below_drewN (Below.refl _ _) nd⟩

end Go.Proofs.Ytkdbfeapfcflmaa.T
