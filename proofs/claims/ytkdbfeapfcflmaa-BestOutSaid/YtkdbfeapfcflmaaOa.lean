/- Written by hp.py, this session's own program, out of the translation of this seat: Lean functions for the Go functions, and the proof that each call comes to what its Lean function says. -/
import Derived.Test.YtkdbfeapfcflmaaProg
import Derived.Below
import Derived.Deep.Draws
import Derived.Deep.AppendLies
import Derived.Maps.AppendAt
import Derived.OwnWalk
import Derived.Laws.BytesArg
import Derived.Laws.MakeOwn
import Derived.Laws.OwnMore
import Derived.Deep.OwnRows
import Derived.Tactics
import Derived.Lib.ConvBytes
import Derived.Laws.Slices
import Derived.WalkKit
import Derived.KernelRfl
import Derived.RowKit3
import Derived.Deep.LoopGhost
import Derived.Deep.QuietTactic
import Derived.BigQuiet
import Derived.WideLaws
import Derived.Deep.DeepCutAuto
import Derived.Deep.CutBlock
import Derived.Deep.RegionHeld3
import Derived.Laws.Rows
import Derived.Lib.AppendStr
import Derived.ArgAppend
import Derived.Laws.IdiomCopy
import Derived.OrdersHeld
import Derived.Laws.BitsLemmas
import Derived.RowKit
import Derived.Test.YtkdbfeapfcflmaaWWords
import Derived.Test.YtkdbfeapfcflmaaWLast
import Derived.Test.YtkdbfeapfcflmaaWTab
import Derived.Test.YtkdbfeapfcflmaaWFour
import Derived.Test.YtkdbfeapfcflmaaWQPut
import Derived.Test.YtkdbfeapfcflmaaWApart
import Derived.Test.YtkdbfeapfcflmaaWArr
import Derived.Test.YtkdbfeapfcflmaaWZeros
import Derived.Test.YtkdbfeapfcflmaaWFoot
import Derived.Test.YtkdbfeapfcflmaaWKept
import Derived.Test.YtkdbfeapfcflmaaWShare
import Derived.Test.YtkdbfeapfcflmaaWN
import Derived.Test.YtkdbfeapfcflmaaWFootNe
import Derived.Test.YtkdbfeapfcflmaaWAt
import Derived.Test.YtkdbfeapfcflmaaWEqStruct
import Derived.Test.YtkdbfeapfcflmaaWRepsOne
import Derived.Test.YtkdbfeapfcflmaaWInv
import Derived.Test.YtkdbfeapfcflmaaWInvWords
import Derived.Test.YtkdbfeapfcflmaaWGuard
import Derived.Test.YtkdbfeapfcflmaaWNEv
import Derived.Test.YtkdbfeapfcflmaaWMore
import Derived.Test.YtkdbfeapfcflmaaTx0
import Derived.Test.YtkdbfeapfcflmaaTd
import Derived.Test.YtkdbfeapfcflmaaSr
namespace Go.Proofs.Ytkdbfeapfcflmaa.T
open Go.RowKit Go.Proofs.YtkdbfeapfcflmaaW.PrintWords Go.Proofs.YtkdbfeapfcflmaaW.PrintLast Go.Proofs.YtkdbfeapfcflmaaW.PrintMore
attribute [local go_sem] max2_int min2_int max_two min_two max_three min_three max_four min_four   -- for this text's walks alone
set_option linter.unusedVariables false
set_option linter.unusedSimpArgs false
/-! ### the comparisons of best.of, and the closure of told (function 42) -/
def Lays_ (w w' : World) : Prop := ∃ q os', w' = Sort.grow (w.drewN q) os'
theorem Lays_.refl (w : World) : Lays_ w w := ⟨0, #[], by rw [Sort.grow_empty]; rfl⟩
theorem Lays_.drew1 (w : World) : Lays_ w w.drew := ⟨1, #[], by rw [Sort.grow_empty]; rfl⟩
theorem Lays_.alloc {w w' : World} (h : Lays_ w w') (o : Obj) : Lays_ w (w'.alloc o) := by
  obtain ⟨q, os, rfl⟩ := h
  refine ⟨q, os.push o, ?_⟩
  simp [Sort.grow, World.alloc]
theorem Lays_.trans {w w1 w2 : World} (h : Lays_ w w1) (k : Lays_ w1 w2) : Lays_ w w2 := by
  obtain ⟨q, os, rfl⟩ := h
  obtain ⟨q', os', rfl⟩ := k
  exact ⟨q + q', os ++ os', by simp [Sort.grow, World.drewN, Nat.add_assoc, Array.append_assoc]⟩
theorem Lays_.drew {w w' : World} (h : Lays_ w w') : Lays_ w w'.drew := h.trans (Lays_.drew1 _)
theorem Lays_.below {w w' : World} (h : Lays_ w w') : Below w.heap.size w w' := by
  obtain ⟨q, os, rfl⟩ := h
  exact ⟨rfl, rfl, rfl, by simp [Sort.grow, World.drewN], fun k hk => by simp only [Sort.grow, World.drewN]; rw [Array.getElem?_append_left hk]⟩
theorem Lays_.of {w w' : World} (h : Go.Proofs.Ytkdbfeapfcflmaa.TD.Below w.heap.size w w') : Lays_ w w' := by
  obtain ⟨⟨h1, h2, h3, h4, h5⟩, hd⟩ := h
  refine ⟨w'.drawn - w.drawn, w'.heap.extract w.heap.size w'.heap.size, ?_⟩
  obtain ⟨heap, tape, drawn, os, output⟩ := w
  obtain ⟨heap', tape', drawn', os', output'⟩ := w'
  simp only at h1 h2 h3 h4 h5 hd
  subst h1; subst h2; subst h3
  simp only [Sort.grow, World.drewN, World.mk.injEq, true_and, and_true]
  refine ⟨?_, by omega⟩
  apply Array.ext_getElem?
  intro i
  by_cases hi : i < heap.size
  · rw [Array.getElem?_append_left hi]
    exact h5 i hi
  · rw [Array.getElem?_append_right (by omega), Array.getElem?_extract]
    by_cases hi' : i < heap'.size
    · rw [if_pos (by omega)]
      congr 1
      omega
    · rw [if_neg (by omega), Array.getElem?_eq_none (by omega)]
def hitV (x : S27) : Array Value := #[.string x.f0, .int .i64 x.f1, .int .u64 x.f2.f0, .int .u64 x.f2.f1]
def hitL (x : S27) : List Value := [.string x.f0, .int .i64 x.f1, .int .u64 x.f2.f0, .int .u64 x.f2.f1]
/-- what is asked of a comparison: at hits of D it tells lt; it makes new blocks alone -/
structure CmpOk (F : Nat) (lt : S27 → S27 → Bool) (D : S27 → Prop) : Prop where
  eg : ∀ args w, (callFunc F args).run Try.prog w = .ok (.enter F args) w
  calls : ∀ a b w, D a → D b → Calls Try.prog F #[.agg (hitV a), .agg (hitV b)] w fun e w' => e = .returned (.bool (lt a b)) ∧ Lays_ w w'
theorem new_cell (w : World) (cs : Array Value) (t : TypeId) (j : Nat) (v : Value) (h : cs[j]? = some v) : (w.alloc (.cells cs t (0, 0))).drew.cell? ⟨w.heap.size, j, none⟩ = some v := by
  rw [cell_of_row _ w.heap.size j cs t (0, 0) (blk_drew (blk_new w _))]
  exact h
theorem told1 {F : Nat} {lt : S27 → S27 → Bool} {D : S27 → Prop} (hF : CmpOk F lt D) (bt G : Nat) (W : World) (a b : S27) (ha : D a) (hb : D b)
    (h1 : W.cell? ⟨bt, 0, none⟩ = some (.pointer (some ⟨G, 0, none⟩))) (h2 : W.cell? ⟨G, 2, none⟩ = some (.func (.func F) #[] #[])) :
    Calls Try.prog 42 #[.agg (hitV a), .agg (hitV b), .pointer (some ⟨bt, 0, none⟩)] W fun e w' => e = .returned (.int .i64 (if lt a b then -1 else 1)) ∧ Lays_ W w' := by
  have hu27 := Try.underlying27
  have eF := hF.eg
  have cF := fun w => hF.calls a b w ha hb
  unfold hitV at cF ⊢
  generalize hl : lt a b = q at cF ⊢
  clear hF ha hb
  cases q
  all_goals
    go_enter Try.func42, Try.ntmps42
    go_wp2
    go_region_held3 (fun w_ => w_.cell? ⟨bt, 0, none⟩ = some (.pointer (some ⟨G, 0, none⟩)) ∧ w_.cell? ⟨G, 2, none⟩ = some (.func (.func F) #[] #[]) ∧ w_.cell? ⟨W.heap.size, 0, none⟩ = some (.string a.f0) ∧ w_.cell? ⟨W.heap.size, 1, none⟩ = some (.int .i64 a.f1) ∧ w_.cell? ⟨W.heap.size, 2, none⟩ = some (.int .u64 a.f2.f0) ∧ w_.cell? ⟨W.heap.size, 3, none⟩ = some (.int .u64 a.f2.f1) ∧ w_.cell? ⟨W.heap.size + 1, 0, none⟩ = some (.string b.f0) ∧ w_.cell? ⟨W.heap.size + 1, 1, none⟩ = some (.int .i64 b.f1) ∧ w_.cell? ⟨W.heap.size + 1, 2, none⟩ = some (.int .u64 b.f2.f0) ∧ w_.cell? ⟨W.heap.size + 1, 3, none⟩ = some (.int .u64 b.f2.f1) ∧ Lays_ W w_) (first | ((repeat' apply And.intro) <;> (first | assumption | exact (((Lays_.refl _).alloc _).alloc _).drew | go_keep)) | (go_split_ands; ((repeat' apply And.intro) <;> (first | assumption | exact pw_cell_below (Lays_.below hL) (by assumption) | exact Lays_.trans (by assumption) hL)))) (first | (go_at_fn F; refine (cF _).mono ?_; rintro e w' ⟨rfl, hL⟩))
    have hLW : Lays_ W w' := (((Lays_.refl W).alloc _).alloc _).drew.trans hL
    clear hL
    go_wp2
    all_goals first
      | (exfalso; simp_all; done)
      | (go_ret; exact ⟨by simp, hLW⟩)
/-- told (function 36): what a heap keeps, copied and sorted -/
def cmpOf {D : S27 → Prop} (lt : S27 → S27 → Bool) (x y : {x : S27 // D x}) : Int := if lt x.1 y.1 then -1 else 1

end Go.Proofs.Ytkdbfeapfcflmaa.T
