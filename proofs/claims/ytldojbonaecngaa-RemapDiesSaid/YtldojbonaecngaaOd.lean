/- Written by hp.py, this session's own program, out of the translation of this seat: Lean functions for the Go functions, and the proof that each call comes to what its Lean function says. -/
import Derived.Test.YtldojbonaecngaaProg
import Derived.Below
import Derived.Deep.Draws
import Derived.Deep.AppendLies
import Derived.Maps.AppendAt
import Derived.OwnWalk
import Derived.Laws.BytesArg
import Derived.Laws.MakeOwn
import Derived.Laws.OwnMore
import Derived.Deep.OwnRows
import Derived.Tactics
import Derived.Lib.ConvBytes
import Derived.Laws.Slices
import Derived.WalkKit
import Derived.KernelRfl
import Derived.RowKit3
import Derived.Deep.LoopGhost
import Derived.Deep.QuietTactic
import Derived.BigQuiet
import Derived.WideLaws
import Derived.Deep.DeepCutAuto
import Derived.Deep.CutBlock
import Derived.Deep.RegionHeld3
import Derived.Laws.Rows
import Derived.Lib.AppendStr
import Derived.ArgAppend
import Derived.Laws.IdiomCopy
import Derived.OrdersHeld
import Derived.Laws.BitsLemmas
import Derived.RowKit
import Derived.Test.YtldojbonaecngaaWWords
import Derived.Test.YtldojbonaecngaaWLast
import Derived.Test.YtldojbonaecngaaWTab
import Derived.Test.YtldojbonaecngaaWFour
import Derived.Test.YtldojbonaecngaaWQPut
import Derived.Test.YtldojbonaecngaaWApart
import Derived.Test.YtldojbonaecngaaWArr
import Derived.Test.YtldojbonaecngaaWZeros
import Derived.Test.YtldojbonaecngaaWFoot
import Derived.Test.YtldojbonaecngaaWKept
import Derived.Test.YtldojbonaecngaaWShare
import Derived.Test.YtldojbonaecngaaWN
import Derived.Test.YtldojbonaecngaaWFootNe
import Derived.Test.YtldojbonaecngaaWAt
import Derived.Test.YtldojbonaecngaaWEqStruct
import Derived.Test.YtldojbonaecngaaWRepsOne
import Derived.Test.YtldojbonaecngaaWInv
import Derived.Test.YtldojbonaecngaaWInvWords
import Derived.Test.YtldojbonaecngaaWGuard
import Derived.Test.YtldojbonaecngaaWNEv
import Derived.Test.YtldojbonaecngaaWMore
import Derived.Test.YtldojbonaecngaaTx0
import Derived.Test.YtldojbonaecngaaOc
namespace Go.Proofs.Ytldojbonaecngaa.T
open Go.RowKit Go.Proofs.YtldojbonaecngaaW.PrintWords Go.Proofs.YtldojbonaecngaaW.PrintLast Go.Proofs.YtldojbonaecngaaW.PrintMore
attribute [local go_sem] max2_int min2_int max_two min_two max_three min_three max_four min_four   -- for this text's walks alone
set_option linter.unusedVariables false
set_option linter.unusedSimpArgs false
/-! ### what Order puts in order: the comparison is a total order -/
section
open Go.Sort
theorem u8_lt_asymm (a b : UInt8) (h : a < b) : ¬ b < a := by
  rw [UInt8.lt_iff_toNat_lt] at *
  omega
theorem u8_eq_of (a b : UInt8) (h : ¬ a < b) (h' : ¬ b < a) : a = b := by
  rw [UInt8.lt_iff_toNat_lt] at *
  exact UInt8.toNat_inj.1 (by omega)
theorem u8_lt_trans (a b c : UInt8) (h : a < b) (h' : b < c) : a < c := by
  rw [UInt8.lt_iff_toNat_lt] at *
  omega
theorem cb_self : ∀ a : List UInt8, Lib.compareBytes a a = 0
  | [] => rfl
  | x :: r => by
    have h : ¬ x < x := by rw [UInt8.lt_iff_toNat_lt]; omega
    rw [Lib.compareBytes, if_neg h, if_neg h]
    exact cb_self r
theorem cb_neg : ∀ a b : List UInt8, Lib.compareBytes b a = - Lib.compareBytes a b
  | [], [] => rfl
  | [], _ :: _ => rfl
  | _ :: _, [] => rfl
  | x :: r, y :: q => by
    rw [Lib.compareBytes, Lib.compareBytes]
    by_cases h1 : x < y
    · rw [if_pos h1, if_neg (u8_lt_asymm _ _ h1), if_pos h1]
      rfl
    · by_cases h2 : y < x
      · rw [if_pos h2, if_neg h1, if_pos h2]
      · rw [if_neg h1, if_neg h2, if_neg h2, if_neg h1]
        exact cb_neg r q
theorem cb_zero : ∀ a b : List UInt8, Lib.compareBytes a b = 0 → a = b
  | [], [], _ => rfl
  | [], _ :: _, h => by simp [Lib.compareBytes] at h
  | _ :: _, [], h => by simp [Lib.compareBytes] at h
  | x :: r, y :: q, h => by
    rw [Lib.compareBytes] at h
    by_cases h1 : x < y
    · rw [if_pos h1] at h
      omega
    · by_cases h2 : y < x
      · rw [if_neg h1, if_pos h2] at h
        omega
      · rw [if_neg h1, if_neg h2] at h
        rw [u8_eq_of _ _ h1 h2, cb_zero r q h]
theorem cb_trans : ∀ a b c : List UInt8, Lib.compareBytes a b < 0 → Lib.compareBytes b c < 0 → Lib.compareBytes a c < 0
  | [], [], _, h, _ => by simp [Lib.compareBytes] at h
  | [], _ :: _, [], _, h => by simp [Lib.compareBytes] at h
  | [], _ :: _, _ :: _, _, _ => by simp [Lib.compareBytes]
  | _ :: _, [], _, h, _ => by simp [Lib.compareBytes] at h
  | _ :: _, _ :: _, [], _, h => by simp [Lib.compareBytes] at h
  | x :: r, y :: q, z :: s, h, h' => by
    rw [Lib.compareBytes] at h h' ⊢
    by_cases h1 : x < y
    · by_cases h3 : y < z
      · rw [if_pos (u8_lt_trans _ _ _ h1 h3)]
        omega
      · by_cases h4 : z < y
        · rw [if_neg h3, if_pos h4] at h'
          omega
        · rw [← u8_eq_of _ _ h3 h4, if_pos h1]
          omega
    · by_cases h2 : y < x
      · rw [if_neg h1, if_pos h2] at h
        omega
      · rw [if_neg h1, if_neg h2] at h
        obtain rfl := u8_eq_of _ _ h1 h2
        by_cases h3 : x < z
        · rw [if_pos h3]
          omega
        · by_cases h4 : z < x
          · rw [if_neg h3, if_pos h4] at h'
            omega
          · rw [if_neg h3, if_neg h4] at h' ⊢
            exact cb_trans r q s h h'
/-- less: by key, then by id, then by place -/
def ordLess (keys : List Int) (ids : List ByteArray) (x y : Nat) : Prop := rd keys x < rd keys y ∨ rd keys x = rd keys y ∧ (Lib.compareBytes (rdOf ByteArray.empty ids (x : Int)).data.toList (rdOf ByteArray.empty ids (y : Int)).data.toList < 0 ∨ rdOf ByteArray.empty ids (x : Int) = rdOf ByteArray.empty ids (y : Int) ∧ x < y)
theorem bytes_ext (a b : ByteArray) (h : a.data.toList = b.data.toList) : a = b := by
  cases a; cases b
  congr 1
  exact Array.toList_inj.1 h
theorem ordCmp_less (keys : List Int) (ids : List ByteArray) (x y : Nat) : ordCmp keys ids x y < 0 ↔ ordLess keys ids x y := by
  unfold ordCmp ordLess or3 Lib.compareInt
  generalize rd keys (x : Int) = kx
  generalize rd keys (y : Int) = ky
  generalize hx : rdOf ByteArray.empty ids (x : Int) = ix
  generalize hy : rdOf ByteArray.empty ids (y : Int) = iy
  by_cases h1 : kx < ky
  · simp [h1]
  · by_cases h2 : kx > ky
    · simp [h1, h2]
      omega
    · have he : kx = ky := by omega
      subst he
      simp only [h1, h2, if_false, if_true, false_or, true_and]
      by_cases h3 : Lib.compareBytes ix.data.toList iy.data.toList = 0
      · have e := bytes_ext _ _ (cb_zero _ _ h3)
        subst e
        rw [if_pos h3, h3]
        simp
        omega
      · rw [if_neg h3]
        constructor
        · exact fun h => .inl h
        · rintro (h | ⟨h, _⟩)
          · exact h
          · rw [h] at h3
            exact absurd (cb_self _) h3
theorem ordLess_irrefl (keys : List Int) (ids : List ByteArray) (x : Nat) : ¬ ordLess keys ids x x := by
  unfold ordLess
  rw [cb_self]
  omega
theorem ordLess_trans (keys : List Int) (ids : List ByteArray) (x y z : Nat) (h : ordLess keys ids x y) (h' : ordLess keys ids y z) : ordLess keys ids x z := by
  unfold ordLess at *
  rcases h with h | ⟨h, h1⟩
  · rcases h' with h' | ⟨h', _⟩
    · exact .inl (by omega)
    · exact .inl (by omega)
  · rcases h' with h' | ⟨h', h2⟩
    · exact .inl (by omega)
    · refine .inr ⟨by omega, ?_⟩
      rcases h1 with h1 | ⟨h1, h3⟩
      · rcases h2 with h2 | ⟨h2, _⟩
        · exact .inl (cb_trans _ _ _ h1 h2)
        · rw [← h2]
          exact .inl h1
      · rcases h2 with h2 | ⟨h2, h4⟩
        · rw [h1]
          exact .inl h2
        · exact .inr ⟨h1.trans h2, by omega⟩
theorem ordLess_total (keys : List Int) (ids : List ByteArray) (x y : Nat) (hne : x ≠ y) : ordLess keys ids x y ∨ ordLess keys ids y x := by
  unfold ordLess
  by_cases h1 : rd keys x < rd keys y
  · exact .inl (.inl h1)
  · by_cases h2 : rd keys y < rd keys x
    · exact .inr (.inl h2)
    · have he : rd keys x = rd keys y := by omega
      by_cases h3 : Lib.compareBytes (rdOf ByteArray.empty ids (x : Int)).data.toList (rdOf ByteArray.empty ids (y : Int)).data.toList < 0
      · exact .inl (.inr ⟨he, .inl h3⟩)
      · by_cases h4 : Lib.compareBytes (rdOf ByteArray.empty ids (x : Int)).data.toList (rdOf ByteArray.empty ids (y : Int)).data.toList = 0
        · have e := bytes_ext _ _ (cb_zero _ _ h4)
          rcases Nat.lt_or_gt_of_ne hne with hl | hl
          · exact .inl (.inr ⟨he, .inr ⟨e, hl⟩⟩)
          · exact .inr (.inr ⟨he.symm, .inr ⟨e.symm, hl⟩⟩)
        · refine .inr (.inr ⟨he.symm, .inl ?_⟩)
          rw [cb_neg]
          omega
def ordFin (keys : List Int) (ids : List ByteArray) (n : Nat) (x y : Fin n) : Int := ordCmp keys ids x.val y.val
theorem ordFin_lt (keys : List Int) (ids : List ByteArray) (n : Nat) (x y : Fin n) : ltOf (ordFin keys ids n) x y = true ↔ ordLess keys ids x.val y.val := by
  unfold ltOf ordFin
  rw [decide_eq_true_iff, ordCmp_less]
theorem ordFin_not (keys : List Int) (ids : List ByteArray) (n : Nat) (x y : Fin n) : ltOf (ordFin keys ids n) x y = false ↔ ¬ ordLess keys ids x.val y.val := by
  rw [← ordFin_lt, Bool.not_eq_true]
theorem ordFin_total (keys : List Int) (ids : List ByteArray) (n : Nat) (x y : Fin n) (h : ltOf (ordFin keys ids n) x y = false) (h' : ltOf (ordFin keys ids n) y x = false) : x = y := by
  rw [ordFin_not] at h h'
  apply Classical.byContradiction
  intro hne
  rcases ordLess_total keys ids x.val y.val (fun he => hne (Fin.ext he)) with hl | hl
  · exact h hl
  · exact h' hl
theorem ordFin_swo (keys : List Int) (ids : List ByteArray) (n : Nat) : SWO (ltOf (ordFin keys ids n)) where
  irrefl x := (ordFin_not _ _ _ _ _).2 (ordLess_irrefl _ _ _)
  trans x y z h h' := (ordFin_lt _ _ _ _ _).2 (ordLess_trans _ _ _ _ _ ((ordFin_lt _ _ _ _ _).1 h) ((ordFin_lt _ _ _ _ _).1 h'))
  ntrans x y z h h' := by
    rw [ordFin_not] at *
    intro hl
    by_cases h1 : x = y
    · subst h1
      exact h' hl
    · by_cases h2 : y = z
      · subst h2
        exact h hl
      · have g1 := (ordLess_total keys ids x.val y.val (fun he => h1 (Fin.ext he))).resolve_left h
        have g2 := (ordLess_total keys ids y.val z.val (fun he => h2 (Fin.ext he))).resolve_left h'
        exact ordLess_irrefl _ _ _ (ordLess_trans _ _ _ _ _ hl (ordLess_trans _ _ _ _ _ g2 g1))
def orderOf (keys : List Int) (ids : List ByteArray) : List Int := ((List.finRange keys.length).mergeSort fun x y => !(ltOf (ordFin keys ids keys.length)) y x).map fun i => (i.val : Int)
end

end Go.Proofs.Ytldojbonaecngaa.T
