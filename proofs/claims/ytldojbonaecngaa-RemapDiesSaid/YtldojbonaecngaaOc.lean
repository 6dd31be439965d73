/- Written by hp.py, this session's own program, out of the translation of this seat: Lean functions for the Go functions, and the proof that each call comes to what its Lean function says. -/
import Derived.Test.YtldojbonaecngaaProg
import Derived.Below
import Derived.Deep.Draws
import Derived.Deep.AppendLies
import Derived.Maps.AppendAt
import Derived.OwnWalk
import Derived.Laws.BytesArg
import Derived.Laws.MakeOwn
import Derived.Laws.OwnMore
import Derived.Deep.OwnRows
import Derived.Tactics
import Derived.Lib.ConvBytes
import Derived.Laws.Slices
import Derived.WalkKit
import Derived.KernelRfl
import Derived.RowKit3
import Derived.Deep.LoopGhost
import Derived.Deep.QuietTactic
import Derived.BigQuiet
import Derived.WideLaws
import Derived.Deep.DeepCutAuto
import Derived.Deep.CutBlock
import Derived.Deep.RegionHeld3
import Derived.Laws.Rows
import Derived.Lib.AppendStr
import Derived.ArgAppend
import Derived.Laws.IdiomCopy
import Derived.OrdersHeld
import Derived.Laws.BitsLemmas
import Derived.RowKit
import Derived.Test.YtldojbonaecngaaWWords
import Derived.Test.YtldojbonaecngaaWLast
import Derived.Test.YtldojbonaecngaaWTab
import Derived.Test.YtldojbonaecngaaWFour
import Derived.Test.YtldojbonaecngaaWQPut
import Derived.Test.YtldojbonaecngaaWApart
import Derived.Test.YtldojbonaecngaaWArr
import Derived.Test.YtldojbonaecngaaWZeros
import Derived.Test.YtldojbonaecngaaWFoot
import Derived.Test.YtldojbonaecngaaWKept
import Derived.Test.YtldojbonaecngaaWShare
import Derived.Test.YtldojbonaecngaaWN
import Derived.Test.YtldojbonaecngaaWFootNe
import Derived.Test.YtldojbonaecngaaWAt
import Derived.Test.YtldojbonaecngaaWEqStruct
import Derived.Test.YtldojbonaecngaaWRepsOne
import Derived.Test.YtldojbonaecngaaWInv
import Derived.Test.YtldojbonaecngaaWInvWords
import Derived.Test.YtldojbonaecngaaWGuard
import Derived.Test.YtldojbonaecngaaWNEv
import Derived.Test.YtldojbonaecngaaWMore
import Derived.Test.YtldojbonaecngaaTx0
import Derived.Test.YtldojbonaecngaaSh
namespace Go.Proofs.Ytldojbonaecngaa.T
open Go.RowKit Go.Proofs.YtldojbonaecngaaW.PrintWords Go.Proofs.YtldojbonaecngaaW.PrintLast Go.Proofs.YtldojbonaecngaaW.PrintMore
attribute [local go_sem] max2_int min2_int max_two min_two max_three min_three max_four min_four   -- for this text's walks alone
set_option linter.unusedVariables false
set_option linter.unusedSimpArgs false
/-! ### remap_Order: function 17, its closure (28), cmp.Or of three (29), by hand -/
def or3 (x y z : Int) : Int := if x = 0 then (if y = 0 then z else y) else x
set_option maxHeartbeats 2000000 in
theorem cmp_Or3 (g : Nat) (x y z : Int) (w : World) (h0 : w.cell? ⟨g, 0, none⟩ = some (.int .i64 x)) (h1 : w.cell? ⟨g, 1, none⟩ = some (.int .i64 y)) (h2 : w.cell? ⟨g, 2, none⟩ = some (.int .i64 z)) :
    Calls Try.prog 29 #[.slice (some ⟨g, 0, none⟩) 3 3] w fun e w' => e = .returned (.int .i64 (or3 x y z)) ∧ w' = w := by
  by_cases hx : x = 0
  · subst hx
    by_cases hy : y = 0
    · subst hy
      by_cases hz : z = 0
      · subst hz
        go_enter Try.func29, Try.ntmps29
        go_wp2
        refine wp_loop_rounds 4 ?_
        rw [rounds_succ]
        go_wp2
        rw [rounds_succ]
        go_wp2
        rw [rounds_succ]
        go_wp2
        rw [rounds_succ]
        go_wp2
        go_ret
        exact ⟨rfl, rfl⟩
      · go_enter Try.func29, Try.ntmps29
        go_wp2
        refine wp_loop_rounds 4 ?_
        rw [rounds_succ]
        go_wp2
        rw [rounds_succ]
        go_wp2
        rw [rounds_succ]
        go_wp2
        go_ret
        exact ⟨rfl, rfl⟩
    · go_enter Try.func29, Try.ntmps29
      go_wp2
      refine wp_loop_rounds 4 ?_
      rw [rounds_succ]
      go_wp2
      rw [rounds_succ]
      go_wp2
      go_ret
      exact ⟨by simp [or3, hy], rfl⟩
  · go_enter Try.func29, Try.ntmps29
    go_wp2
    refine wp_loop_rounds 4 ?_
    rw [rounds_succ]
    go_wp2
    go_ret
    exact ⟨by simp [or3, hx], rfl⟩
def Lays_ (w w' : World) : Prop := ∃ q os', w' = Sort.grow (w.drewN q) os'
theorem Lays_.refl (w : World) : Lays_ w w := ⟨0, #[], by rw [Sort.grow_empty]; rfl⟩
theorem Lays_.drew1 (w : World) : Lays_ w w.drew := ⟨1, #[], by rw [Sort.grow_empty]; rfl⟩
theorem Lays_.alloc {w w' : World} (h : Lays_ w w') (o : Obj) : Lays_ w (w'.alloc o) := by
  obtain ⟨q, os, rfl⟩ := h
  refine ⟨q, os.push o, ?_⟩
  simp [Sort.grow, World.alloc]
theorem Lays_.ad (w : World) (o : Obj) : Lays_ w (w.alloc o).drew := (Lays_.drew1 w).alloc o
theorem new_cell (w : World) (cs : Array Value) (t : TypeId) (j : Nat) (v : Value) (h : cs[j]? = some v) : (w.alloc (.cells cs t (0, 0))).drew.cell? ⟨w.heap.size, j, none⟩ = some v := by
  rw [cell_of_row _ w.heap.size j cs t (0, 0) (blk_drew (blk_new w _))]
  exact h
theorem wrap_sub_ (x y : Nat) (hx : x ≤ 1100) (hy : y ≤ 1100) : IntKind.i64.wrap ((x : Int) - (y : Int)) = (x : Int) - (y : Int) := by
  rw [IntKind.wrap_i64]
  omega
def ordCmp (keys : List Int) (ids : List ByteArray) (x y : Nat) : Int := or3 (Lib.compareInt (rd keys (x : Int)) (rd keys (y : Int))) (Lib.compareBytes (rdOf ByteArray.empty ids (x : Int)).data.toList (rdOf ByteArray.empty ids (y : Int)).data.toList) ((x : Int) - (y : Int))
set_option maxHeartbeats 4000000 in
theorem order_cmp (bk bi : Nat) (Ak Ai : Option Addr) (ck ci N : Nat) (keys : List Int) (ids : List ByteArray) (W : World) (x y : Nat) (hx : x < N) (hy : y < N) (hN : N ≤ 1100)
    (hbk : W.cell? ⟨bk, 0, none⟩ = some (.slice Ak N ck)) (hbi : W.cell? ⟨bi, 0, none⟩ = some (.slice Ai N ci))
    (hK : Kd.C (Kd.int .i64) W Ak N keys) (hI : Kd.C Kd.string W Ai N ids) :
    Calls Try.prog 28 #[.int .i64 x, .int .i64 y, .pointer (some ⟨bk, 0, none⟩), .pointer (some ⟨bi, 0, none⟩)] W fun e w' => e = .returned (.int .i64 (ordCmp keys ids x y)) ∧ Lays_ W w' := by
  obtain ⟨ak, e1, hkx⟩ := Kd.at_int hK (x : Int) (by omega) (by omega)
  obtain ⟨ak', e1', hky⟩ := Kd.at_int hK (y : Int) (by omega) (by omega)
  obtain ⟨ai, e2, hix⟩ := Kd.at_string hI (x : Int) (by omega) (by omega)
  obtain ⟨ai', e2', hiy⟩ := Kd.at_string hI (y : Int) (by omega) (by omega)
  subst e1; cases e1'; subst e2; cases e2'
  rw [Int.toNat_natCast] at hkx hky hix hiy
  unfold ordCmp
  generalize rd keys (x : Int) = kx at hkx ⊢
  generalize rd keys (y : Int) = ky at hky ⊢
  generalize rdOf ByteArray.empty ids (x : Int) = ix at hix ⊢
  generalize rdOf ByteArray.empty ids (y : Int) = iy at hiy ⊢
  clear hK hI
  have c30 := fun W_ => Any.cmp_Compare_int Try.laysCmp kx ky W_
  change ∀ W_, Calls Try.prog 30 _ W_ _ at c30
  have c31 := fun W_ => Any.strings_Compare Try.laysCompare ix iy W_
  change ∀ W_, Calls Try.prog 31 _ W_ _ at c31
  generalize Lib.compareInt kx ky = r1 at c30 ⊢
  generalize Lib.compareBytes ix.data.toList iy.data.toList = r2 at c31 ⊢
  have p1 : decide ((x : Int) < (N : Int)) = true := decide_eq_true (by omega)
  have p2 : decide ((y : Int) < (N : Int)) = true := decide_eq_true (by omega)
  have q1 : decide ((0 : Int) ≤ (x : Int)) = true := decide_eq_true (by omega)
  have q2 : decide ((0 : Int) ≤ (y : Int)) = true := decide_eq_true (by omega)
  go_enter Try.func28, Try.ntmps28
  go_wp2
  go_region_held3 (fun w_ => w_.cell? ⟨bk, 0, none⟩ = some (.slice (some ak) N ck) ∧ w_.cell? ⟨bi, 0, none⟩ = some (.slice (some ai) N ci) ∧ w_.cell? (ak.add x) = some (.int .i64 kx) ∧ w_.cell? (ak.add y) = some (.int .i64 ky) ∧ w_.cell? (ai.add x) = some (.string ix) ∧ w_.cell? (ai.add y) = some (.string iy) ∧ Lays_ W w_) ((repeat' apply And.intro) <;> (first | assumption | exact Lays_.drew1 _ | exact Lays_.ad _ _ | go_keep)) (first | (go_at_call 30; refine (c30 _).mono ?_; rintro e w' ⟨rfl, rfl⟩) | (go_at_call 31; refine (c31 _).mono ?_; rintro e w' ⟨rfl, rfl⟩) | (go_at_call 29; refine (cmp_Or3 _ _ _ _ _ (new_cell _ _ _ 0 _ rfl) (new_cell _ _ _ 1 _ rfl) (new_cell _ _ _ 2 _ rfl)).mono ?_; rintro e w' ⟨rfl, rfl⟩))
  all_goals (go_wp2; go_ret; exact ⟨by rw [wrap_sub_ x y (by omega) (by omega)]; rfl, Lays_.ad _ _⟩)

end Go.Proofs.Ytldojbonaecngaa.T
