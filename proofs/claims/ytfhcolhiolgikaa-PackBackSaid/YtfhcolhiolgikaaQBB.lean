import Derived.Test.YtfhcolhiolgikaaQBV
import Derived.Test.YtfhcolhiolgikaaProg
import Derived.Below
import Derived.Deep.Draws
import Derived.Deep.AppendLies
import Derived.Maps.AppendAt
import Derived.OwnWalk
import Derived.Laws.BytesArg
import Derived.Laws.MakeOwn
import Derived.Laws.OwnMore
import Derived.Deep.OwnRows
import Derived.Tactics
import Derived.Lib.ConvBytes
import Derived.Laws.Slices
import Derived.WalkKit
import Derived.KernelRfl
import Derived.RowKit3
import Derived.Deep.LoopGhost
import Derived.Deep.QuietTactic
import Derived.BigQuiet
import Derived.WideLaws
import Derived.Deep.DeepCutAuto
import Derived.Deep.CutBlock
import Derived.Deep.RegionHeld3
import Derived.Laws.Rows
import Derived.Lib.AppendStr
import Derived.ArgAppend
import Derived.Laws.IdiomCopy
import Derived.OrdersHeld
import Derived.Laws.BitsLemmas
import Derived.RowKit
import Derived.Test.YtfhcolhiolgikaaQBA
/- Texts of this claim, laid together by a program (merge.py): By, Su, Of, Wf. -/
/- Written by hp.py, this session's own program, out of the translation of this seat: Lean functions for the Go functions, and the proof that each call comes to what its Lean function says. -/
namespace Go.Proofs.Ytfhcolhiolgikaa.T
open Go.RowKit Go.Proofs.YtfhcolhiolgikaaW.PrintWords Go.Proofs.YtfhcolhiolgikaaW.PrintLast Go.Proofs.YtfhcolhiolgikaaW.PrintMore
attribute [local go_sem] max2_int min2_int max_two min_two max_three min_three max_four min_four   -- for this text's walks alone
set_option linter.unusedVariables false
set_option linter.unusedSimpArgs false
/-! ### bytes, of a reader (50), by hand: three ways -/
set_option maxHeartbeats 4000000 in
set_option maxRecDepth 100000 in
theorem bytes50_bad (k g : Nat) (A : Option Addr) (c : Nat) (b : List Int) (at_ : Int) (bad : Bool) (cs : Array Value) (t : TypeId) (n nx e : Int) (w0 w : World) (hC : Kd.C (Kd.int .u8) w0 A b.length b) (hc : b.length ≤ c) (hblk : w.heap[g]? = some (.cells cs t (0, 0))) (h0 : cs[0]? = some (.slice A b.length c)) (h1 : cs[1]? = some (.int .i64 at_)) (h2 : cs[2]? = some (.bool bad)) (hB : Below w0.heap.size w0 w) (hg : w0.heap.size ≤ g) (h : vint_Get.f k b at_ = some (n, nx, e)) (cs1 : Array Value) (r : Int) (hr : (if e = 0 then (n, cs.setIfInBounds 1 (.int .i64 nx)) else (0, cs.setIfInBounds 2 (.bool true))) = (r, cs1)) (hbad : cs1[2]? = some (.bool true)) :
    Calls Try.prog 50 #[.pointer (some ⟨g, 0, none⟩)] w fun en w' => en = .returned (.slice none 0 0) ∧ w'.heap[g]? = some (.cells (cs1.setIfInBounds 2 (.bool true)) t (0, 0)) ∧ Below w0.heap.size w0 w' ∧ KeepBut w w' g none := by
  have HNUM := Aside0.mk (num47_calls k g A c b at_ bad cs t n nx e w0 w hC hc hblk h0 h1 h2 hB hg h r cs1 hr)
  have HGE := Aside0.mk hg
  have HBAD := Aside0.mk hbad
  clear hC hc hblk h0 h1 h2 hB hg h hr hbad
  go_enter Try.func50, Try.ntmps50
  go_upto_region 2 with (first | (go_at_call 47; (refine (HNUM.out).mono ?_); rintro e_ w1 ⟨rfl, hb1, hB1, hk1⟩; have HKB := Aside0.mk (show KeepBut w w1.drew g none from ⟨hk1.1, hk1.2⟩); clear hk1; have BG := Aside0.mk hb1; have HB := Aside0.mk hB1; clear hb1 hB1))
  have d2 : w1.cell? ⟨g, 2, none⟩ = some (.bool true) := (blk_cell BG.out 2).trans HBAD.out
  replace d2 : w1.drew.cell? ⟨g, 2, none⟩ = some (.bool true) := pw_cell_below (below_drew (Below.refl _ _)) d2
  refine start_ (n := 18) (S := fun w' => w'.cell? ⟨g, 2, none⟩ = some (.bool true)) (ds := []) #[false, false, false, false, false, false, false, false, false, false, false, false, false, false, false, false, false, false] (by kernel_rfl) rfl rfl (d2) (fun hHeld => ?_)
  refine pure_ (i := 0) (N := some 6) (v := ?_) (a' := ?_) #[true, false, false, false, false, false, false, false, false, false, false, false, false, false, false, false, false, false] rfl rfl (by kernel_rfl) (fun _ _ _ h => h) (Or.inl ⟨by rfl, ?_⟩) ?_ ?_
  rotate_left
  · intro w'
    go_simp
    with_reducible rfl
  rotate_left
  · simp only [Act.put, List.setIfInBounds_toArray, List.set_cons_zero, List.set_cons_succ, i64_w, i32_w]
    rfl
  refine pure_ (i := 1) (N := some 7) (v := ?_) (a' := ?_) #[true, true, false, false, false, false, false, false, false, false, false, false, false, false, false, false, false, false] rfl rfl (by kernel_rfl) (fun _ _ _ h => h) (Or.inl ⟨by rfl, ?_⟩) ?_ ?_
  rotate_left
  · intro w'
    go_simp
    with_reducible rfl
  rotate_left
  · simp only [Act.put, List.setIfInBounds_toArray, List.set_cons_zero, List.set_cons_succ, i64_w, i32_w]
    rfl
  refine pure_ (i := 2) (N := some 8) (v := ?_) (a' := ?_) #[true, true, true, false, false, false, false, false, false, false, false, false, false, false, false, false, false, false] rfl rfl (by kernel_rfl) (fun _ _ _ h => h) (Or.inl ⟨by rfl, ?_⟩) ?_ ?_
  rotate_left
  · intro w'
    go_simp
    with_reducible rfl
  rotate_left
  · simp only [Act.put, List.setIfInBounds_toArray, List.set_cons_zero, List.set_cons_succ, i64_w, i32_w]
    rfl
  refine take_ (i := 3) (N := some 9) (v := ?_) (a' := ?_) #[true, true, true, true, false, false, false, false, false, false, false, false, false, false, false, false, false, false] rfl rfl (by kernel_rfl) (fun _ _ _ h => h) (Or.inl ⟨by rfl, ?_⟩) hHeld ?_ ?_
  rotate_left
  · intro w' s0
    go_simp
    with_reducible rfl
  rotate_left
  · simp only [Act.put, List.setIfInBounds_toArray, List.set_cons_zero, List.set_cons_succ, i64_w, i32_w]
    rfl
  refine pure_ (i := 4) (N := some 10) (v := ?_) (a' := ?_) #[true, true, true, true, true, false, false, false, false, false, false, false, false, false, false, false, false, false] rfl rfl (by kernel_rfl) (fun _ _ _ h => h) (Or.inl ⟨by rfl, ?_⟩) ?_ ?_
  rotate_left
  · intro w'
    go_simp
    with_reducible rfl
  rotate_left
  · simp only [Act.put, List.setIfInBounds_toArray, List.set_cons_zero, List.set_cons_succ, i64_w, i32_w]
    rfl
  refine pure_ (i := 5) (N := some 11) (v := undef) (a' := ?_) #[true, true, true, true, true, true, false, false, false, false, false, false, false, false, false, false, false, false] rfl rfl (by kernel_rfl) (fun _ _ _ h => h) (Or.inr ⟨by rfl, rfl⟩) ?_ ?_
  rotate_left
  · simp only [Act.put, List.setIfInBounds_toArray, List.set_cons_zero, List.set_cons_succ, i64_w, i32_w]
    rfl
  refine pure_ (i := 6) (N := some 12) (v := undef) (a' := ?_) #[true, true, true, true, true, true, true, false, false, false, false, false, false, false, false, false, false, false] rfl rfl (by kernel_rfl) (fun _ _ _ h => h) (Or.inr ⟨by rfl, rfl⟩) ?_ ?_
  rotate_left
  · simp only [Act.put, List.setIfInBounds_toArray, List.set_cons_zero, List.set_cons_succ, i64_w, i32_w]
    rfl
  refine pure_ (i := 7) (N := some 13) (v := undef) (a' := ?_) #[true, true, true, true, true, true, true, true, false, false, false, false, false, false, false, false, false, false] rfl rfl (by kernel_rfl) (fun _ _ _ h => h) (Or.inr ⟨by rfl, rfl⟩) ?_ ?_
  rotate_left
  · simp only [Act.put, List.setIfInBounds_toArray, List.set_cons_zero, List.set_cons_succ, i64_w, i32_w]
    rfl
  refine pure_ (i := 8) (N := some 14) (v := undef) (a' := ?_) #[true, true, true, true, true, true, true, true, true, false, false, false, false, false, false, false, false, false] rfl rfl (by kernel_rfl) (fun _ _ _ h => h) (Or.inr ⟨by rfl, rfl⟩) ?_ ?_
  rotate_left
  · simp only [Act.put, List.setIfInBounds_toArray, List.set_cons_zero, List.set_cons_succ, i64_w, i32_w]
    rfl
  refine pure_ (i := 9) (N := some 15) (v := undef) (a' := ?_) #[true, true, true, true, true, true, true, true, true, true, false, false, false, false, false, false, false, false] rfl rfl (by kernel_rfl) (fun _ _ _ h => h) (Or.inr ⟨by rfl, rfl⟩) ?_ ?_
  rotate_left
  · simp only [Act.put, List.setIfInBounds_toArray, List.set_cons_zero, List.set_cons_succ, i64_w, i32_w]
    rfl
  refine pure_ (i := 10) (N := some 16) (v := undef) (a' := ?_) #[true, true, true, true, true, true, true, true, true, true, true, false, false, false, false, false, false, false] rfl rfl (by kernel_rfl) (fun _ _ _ h => h) (Or.inr ⟨by rfl, rfl⟩) ?_ ?_
  rotate_left
  · simp only [Act.put, List.setIfInBounds_toArray, List.set_cons_zero, List.set_cons_succ, i64_w, i32_w]
    rfl
  refine pure_ (i := 11) (N := some 17) (v := undef) (a' := ?_) #[true, true, true, true, true, true, true, true, true, true, true, true, false, false, false, false, false, false] rfl rfl (by kernel_rfl) (fun _ _ _ h => h) (Or.inr ⟨by rfl, rfl⟩) ?_ ?_
  rotate_left
  · simp only [Act.put, List.setIfInBounds_toArray, List.set_cons_zero, List.set_cons_succ, i64_w, i32_w]
    rfl
  refine pure_ (i := 12) (N := some 18) (v := undef) (a' := ?_) #[true, true, true, true, true, true, true, true, true, true, true, true, true, false, false, false, false, false] rfl rfl (by kernel_rfl) (fun _ _ _ h => h) (Or.inr ⟨by rfl, rfl⟩) ?_ ?_
  rotate_left
  · simp only [Act.put, List.setIfInBounds_toArray, List.set_cons_zero, List.set_cons_succ, i64_w, i32_w]
    rfl
  refine pure_ (i := 13) (N := some 19) (v := undef) (a' := ?_) #[true, true, true, true, true, true, true, true, true, true, true, true, true, true, false, false, false, false] rfl rfl (by kernel_rfl) (fun _ _ _ h => h) (Or.inr ⟨by rfl, rfl⟩) ?_ ?_
  rotate_left
  · simp only [Act.put, List.setIfInBounds_toArray, List.set_cons_zero, List.set_cons_succ, i64_w, i32_w]
    rfl
  refine pure_ (i := 14) (N := some 20) (v := undef) (a' := ?_) #[true, true, true, true, true, true, true, true, true, true, true, true, true, true, true, false, false, false] rfl rfl (by kernel_rfl) (fun _ _ _ h => h) (Or.inr ⟨by rfl, rfl⟩) ?_ ?_
  rotate_left
  · simp only [Act.put, List.setIfInBounds_toArray, List.set_cons_zero, List.set_cons_succ, i64_w, i32_w]
    rfl
  refine pure_ (i := 15) (N := some 21) (v := undef) (a' := ?_) #[true, true, true, true, true, true, true, true, true, true, true, true, true, true, true, true, false, false] rfl rfl (by kernel_rfl) (fun _ _ _ h => h) (Or.inr ⟨by rfl, rfl⟩) ?_ ?_
  rotate_left
  · simp only [Act.put, List.setIfInBounds_toArray, List.set_cons_zero, List.set_cons_succ, i64_w, i32_w]
    rfl
  refine pure_ (i := 16) (N := some 22) (v := undef) (a' := ?_) #[true, true, true, true, true, true, true, true, true, true, true, true, true, true, true, true, true, false] rfl rfl (by kernel_rfl) (fun _ _ _ h => h) (Or.inr ⟨by rfl, rfl⟩) ?_ ?_
  rotate_left
  · simp only [Act.put, List.setIfInBounds_toArray, List.set_cons_zero, List.set_cons_succ, i64_w, i32_w]
    rfl
  refine pure_ (i := 17) (N := some 23) (v := ?_) (a' := ?_) #[true, true, true, true, true, true, true, true, true, true, true, true, true, true, true, true, true, true] rfl rfl (by kernel_rfl) (fun _ _ _ h => h) (Or.inl ⟨by rfl, ?_⟩) ?_ ?_
  rotate_left
  · intro w'
    go_simp
    with_reducible rfl
  rotate_left
  · simp only [Act.put, List.setIfInBounds_toArray, List.set_cons_zero, List.set_cons_succ, i64_w, i32_w]
    rfl
  refine done_ (by kernel_rfl) ?_
  have f2 := blk_frozen (blk_drew BG.out) 2
  go_wp2
  go_ret
  exact ⟨rfl, blk_set (blk_drew BG.out) 2 _, below_set (below_drew HB.out) HGE.out, HKB.out.set_ 2 _⟩
set_option maxHeartbeats 4000000 in
set_option maxRecDepth 100000 in
theorem bytes50_short (k g : Nat) (A : Option Addr) (c : Nat) (b : List Int) (at_ : Int) (bad : Bool) (cs : Array Value) (t : TypeId) (n nx e : Int) (w0 w : World) (hC : Kd.C (Kd.int .u8) w0 A b.length b) (hc : b.length ≤ c) (hblk : w.heap[g]? = some (.cells cs t (0, 0))) (h0 : cs[0]? = some (.slice A b.length c)) (h1 : cs[1]? = some (.int .i64 at_)) (h2 : cs[2]? = some (.bool bad)) (hB : Below w0.heap.size w0 w) (hg : w0.heap.size ≤ g) (h : vint_Get.f k b at_ = some (n, nx, e)) (cs1 : Array Value) (r : Int) (hr : (if e = 0 then (n, cs.setIfInBounds 1 (.int .i64 nx)) else (0, cs.setIfInBounds 2 (.bool true))) = (r, cs1)) (h10 : cs1[0]? = some (.slice A b.length c)) (h11 : cs1[1]? = some (.int .i64 nx)) (hbad : cs1[2]? = some (.bool false)) (hlt : wrap64 ((b.length : Int) - nx) < r) :
    Calls Try.prog 50 #[.pointer (some ⟨g, 0, none⟩)] w fun en w' => en = .returned (.slice none 0 0) ∧ w'.heap[g]? = some (.cells (cs1.setIfInBounds 2 (.bool true)) t (0, 0)) ∧ Below w0.heap.size w0 w' ∧ KeepBut w w' g none := by
  have HNUM := Aside0.mk (num47_calls k g A c b at_ bad cs t n nx e w0 w hC hc hblk h0 h1 h2 hB hg h r cs1 hr)
  have HGE := Aside0.mk hg
  have k0 := Aside0.mk h10
  have k1 := Aside0.mk h11
  have k2 := Aside0.mk hbad
  have dl : decide (wrap64 ((b.length : Int) - nx) < r) = true := decide_eq_true hlt
  clear hC hc hblk h0 h1 h2 hB hg h hr hbad h10 h11 hlt
  go_enter Try.func50, Try.ntmps50
  go_upto_region 2 with (first | (go_at_call 47; (refine (HNUM.out).mono ?_); rintro e_ w1 ⟨rfl, hb1, hB1, hk1⟩; have HKB := Aside0.mk (show KeepBut w w1.drew g none from ⟨hk1.1, hk1.2⟩); clear hk1; have BG := Aside0.mk (blk_drew hb1); have HB := Aside0.mk (below_drew hB1); clear hb1 hB1))
  have d2 : w1.drew.cell? ⟨g, 2, none⟩ = some (.bool false) := (blk_cell BG.out 2).trans k2.out
  have d1 : w1.drew.cell? ⟨g, 1, none⟩ = some (.int .i64 nx) := (blk_cell BG.out 1).trans k1.out
  have d0 : w1.drew.cell? ⟨g, 0, none⟩ = some (.slice A b.length c) := (blk_cell BG.out 0).trans k0.out
  refine start_ (n := 18) (S := fun w' => w'.cell? ⟨g, 2, none⟩ = some (.bool false) ∧ w'.cell? ⟨g, 0, none⟩ = some (.slice A b.length c) ∧ w'.cell? ⟨g, 1, none⟩ = some (.int .i64 nx)) (ds := []) #[false, false, false, false, false, false, false, false, false, false, false, false, false, false, false, false, false, false] (by kernel_rfl) rfl rfl ⟨d2, d0, d1⟩ (fun hHeld => ?_)
  refine pure_ (i := 0) (N := some 6) (v := ?_) (a' := ?_) #[true, false, false, false, false, false, false, false, false, false, false, false, false, false, false, false, false, false] rfl rfl (by kernel_rfl) (fun _ _ _ h => h) (Or.inl ⟨by rfl, ?_⟩) ?_ ?_
  rotate_left
  · intro w'
    go_simp
    with_reducible rfl
  rotate_left
  · simp only [Act.put, List.setIfInBounds_toArray, List.set_cons_zero, List.set_cons_succ, i64_w, i32_w]
    rfl
  refine pure_ (i := 1) (N := some 7) (v := ?_) (a' := ?_) #[true, true, false, false, false, false, false, false, false, false, false, false, false, false, false, false, false, false] rfl rfl (by kernel_rfl) (fun _ _ _ h => h) (Or.inl ⟨by rfl, ?_⟩) ?_ ?_
  rotate_left
  · intro w'
    go_simp
    with_reducible rfl
  rotate_left
  · simp only [Act.put, List.setIfInBounds_toArray, List.set_cons_zero, List.set_cons_succ, i64_w, i32_w]
    rfl
  refine pure_ (i := 2) (N := some 8) (v := ?_) (a' := ?_) #[true, true, true, false, false, false, false, false, false, false, false, false, false, false, false, false, false, false] rfl rfl (by kernel_rfl) (fun _ _ _ h => h) (Or.inl ⟨by rfl, ?_⟩) ?_ ?_
  rotate_left
  · intro w'
    go_simp
    with_reducible rfl
  rotate_left
  · simp only [Act.put, List.setIfInBounds_toArray, List.set_cons_zero, List.set_cons_succ, i64_w, i32_w]
    rfl
  refine take_ (i := 3) (N := some 9) (v := ?_) (a' := ?_) #[true, true, true, true, false, false, false, false, false, false, false, false, false, false, false, false, false, false] rfl rfl (by kernel_rfl) (fun _ _ _ h => h) (Or.inl ⟨by rfl, ?_⟩) hHeld ?_ ?_
  rotate_left
  · rintro w' ⟨s0, s1, s2⟩
    go_simp
    with_reducible rfl
  rotate_left
  · simp only [Act.put, List.setIfInBounds_toArray, List.set_cons_zero, List.set_cons_succ, i64_w, i32_w]
    rfl
  refine pure_ (i := 4) (N := some 10) (v := ?_) (a' := ?_) #[true, true, true, true, true, false, false, false, false, false, false, false, false, false, false, false, false, false] rfl rfl (by kernel_rfl) (fun _ _ _ h => h) (Or.inl ⟨by rfl, ?_⟩) ?_ ?_
  rotate_left
  · intro w'
    go_simp
    with_reducible rfl
  rotate_left
  · simp only [Act.put, List.setIfInBounds_toArray, List.set_cons_zero, List.set_cons_succ, i64_w, i32_w]
    rfl
  refine pure_ (i := 5) (N := some 11) (v := ?_) (a' := ?_) #[true, true, true, true, true, true, false, false, false, false, false, false, false, false, false, false, false, false] rfl rfl (by kernel_rfl) (fun _ _ _ h => h) (Or.inl ⟨by rfl, ?_⟩) ?_ ?_
  rotate_left
  · intro w'
    go_simp
    with_reducible rfl
  rotate_left
  · simp only [Act.put, List.setIfInBounds_toArray, List.set_cons_zero, List.set_cons_succ, i64_w, i32_w]
    rfl
  refine pure_ (i := 6) (N := some 12) (v := ?_) (a' := ?_) #[true, true, true, true, true, true, true, false, false, false, false, false, false, false, false, false, false, false] rfl rfl (by kernel_rfl) (fun _ _ _ h => h) (Or.inl ⟨by rfl, ?_⟩) ?_ ?_
  rotate_left
  · intro w'
    go_simp
    with_reducible rfl
  rotate_left
  · simp only [Act.put, List.setIfInBounds_toArray, List.set_cons_zero, List.set_cons_succ, i64_w, i32_w]
    rfl
  refine pure_ (i := 7) (N := some 13) (v := ?_) (a' := ?_) #[true, true, true, true, true, true, true, true, false, false, false, false, false, false, false, false, false, false] rfl rfl (by kernel_rfl) (fun _ _ _ h => h) (Or.inl ⟨by rfl, ?_⟩) ?_ ?_
  rotate_left
  · intro w'
    go_simp
    with_reducible rfl
  rotate_left
  · simp only [Act.put, List.setIfInBounds_toArray, List.set_cons_zero, List.set_cons_succ, i64_w, i32_w]
    rfl
  refine pure_ (i := 8) (N := some 14) (v := ?_) (a' := ?_) #[true, true, true, true, true, true, true, true, true, false, false, false, false, false, false, false, false, false] rfl rfl (by kernel_rfl) (fun _ _ _ h => h) (Or.inl ⟨by rfl, ?_⟩) ?_ ?_
  rotate_left
  · intro w'
    go_simp
    with_reducible rfl
  rotate_left
  · simp only [Act.put, List.setIfInBounds_toArray, List.set_cons_zero, List.set_cons_succ, i64_w, i32_w]
    rfl
  refine pure_ (i := 11) (N := some 17) (v := ?_) (a' := ?_) #[true, true, true, true, true, true, true, true, true, false, false, true, false, false, false, false, false, false] rfl rfl (by kernel_rfl) (fun _ _ _ h => h) (Or.inl ⟨by rfl, ?_⟩) ?_ ?_
  rotate_left
  · intro w'
    go_simp
    with_reducible rfl
  rotate_left
  · simp only [Act.put, List.setIfInBounds_toArray, List.set_cons_zero, List.set_cons_succ, i64_w, i32_w]
    rfl
  refine pure_ (i := 12) (N := some 18) (v := ?_) (a' := ?_) #[true, true, true, true, true, true, true, true, true, false, false, true, true, false, false, false, false, false] rfl rfl (by kernel_rfl) (fun _ _ _ h => h) (Or.inl ⟨by rfl, ?_⟩) ?_ ?_
  rotate_left
  · intro w'
    go_simp
    with_reducible rfl
  rotate_left
  · simp only [Act.put, List.setIfInBounds_toArray, List.set_cons_zero, List.set_cons_succ, i64_w, i32_w]
    rfl
  refine pure_ (i := 13) (N := some 19) (v := ?_) (a' := ?_) #[true, true, true, true, true, true, true, true, true, false, false, true, true, true, false, false, false, false] rfl rfl (by kernel_rfl) (fun _ _ _ h => h) (Or.inl ⟨by rfl, ?_⟩) ?_ ?_
  rotate_left
  · intro w'
    go_simp
    with_reducible rfl
  rotate_left
  · simp only [Act.put, List.setIfInBounds_toArray, List.set_cons_zero, List.set_cons_succ, i64_w, i32_w]
    rfl
  refine take_ (i := 9) (N := some 15) (v := ?_) (a' := ?_) #[true, true, true, true, true, true, true, true, true, true, false, true, true, true, false, false, false, false] rfl rfl (by kernel_rfl) (fun _ _ _ h => h) (Or.inl ⟨by rfl, ?_⟩) hHeld ?_ ?_
  rotate_left
  · rintro w' ⟨s0, s1, s2⟩
    go_simp
    with_reducible rfl
  rotate_left
  · simp only [Act.put, List.setIfInBounds_toArray, List.set_cons_zero, List.set_cons_succ, i64_w, i32_w]
    rfl
  refine pure_ (i := 10) (N := some 16) (v := ?_) (a' := ?_) #[true, true, true, true, true, true, true, true, true, true, true, true, true, true, false, false, false, false] rfl rfl (by kernel_rfl) (fun _ _ _ h => h) (Or.inl ⟨by rfl, ?_⟩) ?_ ?_
  rotate_left
  · intro w'
    go_simp
    with_reducible rfl
  rotate_left
  · simp only [Act.put, List.setIfInBounds_toArray, List.set_cons_zero, List.set_cons_succ, i64_w, i32_w]
    rfl
  refine take_ (i := 14) (N := some 20) (v := ?_) (a' := ?_) #[true, true, true, true, true, true, true, true, true, true, true, true, true, true, true, false, false, false] rfl rfl (by kernel_rfl) (fun _ _ _ h => h) (Or.inl ⟨by rfl, ?_⟩) hHeld ?_ ?_
  rotate_left
  · rintro w' ⟨s0, s1, s2⟩
    go_simp
    with_reducible rfl
  rotate_left
  · simp only [Act.put, List.setIfInBounds_toArray, List.set_cons_zero, List.set_cons_succ, i64_w, i32_w]
    rfl
  refine pure_ (i := 15) (N := some 21) (v := ?_) (a' := ?_) #[true, true, true, true, true, true, true, true, true, true, true, true, true, true, true, true, false, false] rfl rfl (by kernel_rfl) (fun _ _ _ h => h) (Or.inl ⟨by rfl, ?_⟩) ?_ ?_
  rotate_left
  · intro w'
    go_simp
    with_reducible rfl
  rotate_left
  · simp only [Act.put, List.setIfInBounds_toArray, List.set_cons_zero, List.set_cons_succ, i64_w, i32_w]
    rfl
  refine pure_ (i := 16) (N := some 22) (v := ?_) (a' := ?_) #[true, true, true, true, true, true, true, true, true, true, true, true, true, true, true, true, true, false] rfl rfl (by kernel_rfl) (fun _ _ _ h => h) (Or.inl ⟨by rfl, ?_⟩) ?_ ?_
  rotate_left
  · intro w'
    go_simp
    with_reducible rfl
  rotate_left
  · simp only [Act.put, List.setIfInBounds_toArray, List.set_cons_zero, List.set_cons_succ, i64_w, i32_w]
    rfl
  refine pure_ (i := 17) (N := some 23) (v := ?_) (a' := ?_) #[true, true, true, true, true, true, true, true, true, true, true, true, true, true, true, true, true, true] rfl rfl (by kernel_rfl) (fun _ _ _ h => h) (Or.inl ⟨by rfl, ?_⟩) ?_ ?_
  rotate_left
  · intro w'
    go_simp
    with_reducible rfl
  rotate_left
  · simp only [Act.put, List.setIfInBounds_toArray, List.set_cons_zero, List.set_cons_succ, i64_w, i32_w]
    rfl
  refine done_ (by kernel_rfl) ?_
  have f2 := blk_frozen BG.out 2
  go_wp2
  go_ret
  exact ⟨rfl, blk_set BG.out 2 _, below_set HB.out HGE.out, HKB.out.set_ 2 _⟩
set_option maxHeartbeats 4000000 in
set_option maxRecDepth 100000 in
theorem bytes50_whole (k g : Nat) (A : Option Addr) (c : Nat) (b : List Int) (at_ : Int) (bad : Bool) (cs : Array Value) (t : TypeId) (n nx e : Int) (p q : Nat) (w0 w : World) (hC : Kd.C (Kd.int .u8) w0 A b.length b) (hc : b.length ≤ c) (hblk : w.heap[g]? = some (.cells cs t (0, 0))) (h0 : cs[0]? = some (.slice A b.length c)) (h1 : cs[1]? = some (.int .i64 at_)) (h2 : cs[2]? = some (.bool bad)) (hB : Below w0.heap.size w0 w) (hg : w0.heap.size ≤ g) (h : vint_Get.f k b at_ = some (n, nx, e)) (cs1 : Array Value) (r : Int) (hr : (if e = 0 then (n, cs.setIfInBounds 1 (.int .i64 nx)) else (0, cs.setIfInBounds 2 (.bool true))) = (r, cs1)) (h10 : cs1[0]? = some (.slice A b.length c)) (h11 : cs1[1]? = some (.int .i64 nx)) (hbad : cs1[2]? = some (.bool false)) (hp : nx = (p : Int)) (hq : r = (q : Int)) (hlt : p + q ≤ b.length) :
    Calls Try.prog 50 #[.pointer (some ⟨g, 0, none⟩)] w fun en w' => en = .returned (.slice (if c = p then A else A.map (·.add p)) q (c - p)) ∧ w'.heap[g]? = some (.cells (cs1.setIfInBounds 1 (.int .i64 ((p : Int) + (q : Int)))) t (0, 0)) ∧ Below w0.heap.size w0 w' ∧ KeepBut w w' g none := by
  have hlm : b.length ≤ 9223372036854775807 := hC.2.1
  have HNUM := Aside0.mk (num47_calls k g A c b at_ bad cs t n nx e w0 w hC hc hblk h0 h1 h2 hB hg h r cs1 hr)
  have HGE := Aside0.mk hg
  have k0 := Aside0.mk h10
  have k1 := Aside0.mk h11
  have k2 := Aside0.mk hbad
  subst hp hq
  have hw1 : wrap64 ((b.length : Int) - (p : Int)) = (b.length : Int) - (p : Int) := by unfold wrap64; omega
  have hw2 : wrap64 ((p : Int) + (q : Int)) = (p : Int) + (q : Int) := by unfold wrap64; omega
  have hw3 : wrap64 ((p : Int) + (q : Int) - (q : Int)) = (p : Int) := by unfold wrap64; omega
  have hw4 : wrap64 (p : Int) = (p : Int) := by unfold wrap64; omega
  have dl : decide (wrap64 ((b.length : Int) - (p : Int)) < (q : Int)) = false := decide_eq_false (by rw [hw1]; omega)
  have dl2 : decide ((b.length : Int) - (p : Int) < (q : Int)) = false := decide_eq_false (by omega)
  have t1 : (0 : Int) ≤ (p : Int) := by omega
  have t2 : (p : Int) ≤ (p : Int) + (q : Int) := by omega
  have t3 : (p : Int) + (q : Int) ≤ (c : Int) := by omega
  have t4 : ((p : Int) + (q : Int)).toNat = p + q := by omega
  clear hC hc hblk h0 h1 h2 hB hg h hr hbad h10 h11 hlt
  go_enter Try.func50, Try.ntmps50
  go_upto_region 2 with (first | (go_at_call 47; (refine (HNUM.out).mono ?_); rintro e_ w1 ⟨rfl, hb1, hB1, hk1⟩; have HKB := Aside0.mk (show KeepBut w w1.drew g none from ⟨hk1.1, hk1.2⟩); clear hk1; have BG0 := Aside0.mk hb1; have HB0 := Aside0.mk hB1; have BG := Aside0.mk (blk_drew hb1); have HB := Aside0.mk (below_drew hB1); clear hb1 hB1))
  have d2 : w1.drew.cell? ⟨g, 2, none⟩ = some (.bool false) := (blk_cell BG.out 2).trans k2.out
  have d1 : w1.drew.cell? ⟨g, 1, none⟩ = some (.int .i64 (p : Int)) := (blk_cell BG.out 1).trans k1.out
  have d0 : w1.drew.cell? ⟨g, 0, none⟩ = some (.slice A b.length c) := (blk_cell BG.out 0).trans k0.out
  refine start_ (n := 18) (S := fun w' => w'.cell? ⟨g, 2, none⟩ = some (.bool false) ∧ w'.cell? ⟨g, 0, none⟩ = some (.slice A b.length c) ∧ w'.cell? ⟨g, 1, none⟩ = some (.int .i64 (p : Int))) (ds := []) #[false, false, false, false, false, false, false, false, false, false, false, false, false, false, false, false, false, false] (by kernel_rfl) rfl rfl ⟨d2, d0, d1⟩ (fun hHeld => ?_)
  refine pure_ (i := 0) (N := some 6) (v := ?_) (a' := ?_) #[true, false, false, false, false, false, false, false, false, false, false, false, false, false, false, false, false, false] rfl rfl (by kernel_rfl) (fun _ _ _ h => h) (Or.inl ⟨by rfl, ?_⟩) ?_ ?_
  rotate_left
  · intro w'
    go_simp
    with_reducible rfl
  rotate_left
  · simp only [Act.put, List.setIfInBounds_toArray, List.set_cons_zero, List.set_cons_succ, i64_w, i32_w]
    rfl
  refine pure_ (i := 1) (N := some 7) (v := ?_) (a' := ?_) #[true, true, false, false, false, false, false, false, false, false, false, false, false, false, false, false, false, false] rfl rfl (by kernel_rfl) (fun _ _ _ h => h) (Or.inl ⟨by rfl, ?_⟩) ?_ ?_
  rotate_left
  · intro w'
    go_simp
    with_reducible rfl
  rotate_left
  · simp only [Act.put, List.setIfInBounds_toArray, List.set_cons_zero, List.set_cons_succ, i64_w, i32_w]
    rfl
  refine pure_ (i := 2) (N := some 8) (v := ?_) (a' := ?_) #[true, true, true, false, false, false, false, false, false, false, false, false, false, false, false, false, false, false] rfl rfl (by kernel_rfl) (fun _ _ _ h => h) (Or.inl ⟨by rfl, ?_⟩) ?_ ?_
  rotate_left
  · intro w'
    go_simp
    with_reducible rfl
  rotate_left
  · simp only [Act.put, List.setIfInBounds_toArray, List.set_cons_zero, List.set_cons_succ, i64_w, i32_w]
    rfl
  refine take_ (i := 3) (N := some 9) (v := ?_) (a' := ?_) #[true, true, true, true, false, false, false, false, false, false, false, false, false, false, false, false, false, false] rfl rfl (by kernel_rfl) (fun _ _ _ h => h) (Or.inl ⟨by rfl, ?_⟩) hHeld ?_ ?_
  rotate_left
  · rintro w' ⟨s0, s1, s2⟩
    go_simp
    with_reducible rfl
  rotate_left
  · simp only [Act.put, List.setIfInBounds_toArray, List.set_cons_zero, List.set_cons_succ, i64_w, i32_w]
    rfl
  refine pure_ (i := 4) (N := some 10) (v := ?_) (a' := ?_) #[true, true, true, true, true, false, false, false, false, false, false, false, false, false, false, false, false, false] rfl rfl (by kernel_rfl) (fun _ _ _ h => h) (Or.inl ⟨by rfl, ?_⟩) ?_ ?_
  rotate_left
  · intro w'
    go_simp
    with_reducible rfl
  rotate_left
  · simp only [Act.put, List.setIfInBounds_toArray, List.set_cons_zero, List.set_cons_succ, i64_w, i32_w]
    rfl
  refine pure_ (i := 5) (N := some 11) (v := ?_) (a' := ?_) #[true, true, true, true, true, true, false, false, false, false, false, false, false, false, false, false, false, false] rfl rfl (by kernel_rfl) (fun _ _ _ h => h) (Or.inl ⟨by rfl, ?_⟩) ?_ ?_
  rotate_left
  · intro w'
    go_simp
    with_reducible rfl
  rotate_left
  · simp only [Act.put, List.setIfInBounds_toArray, List.set_cons_zero, List.set_cons_succ, i64_w, i32_w]
    rfl
  refine pure_ (i := 6) (N := some 12) (v := ?_) (a' := ?_) #[true, true, true, true, true, true, true, false, false, false, false, false, false, false, false, false, false, false] rfl rfl (by kernel_rfl) (fun _ _ _ h => h) (Or.inl ⟨by rfl, ?_⟩) ?_ ?_
  rotate_left
  · intro w'
    go_simp
    with_reducible rfl
  rotate_left
  · simp only [Act.put, List.setIfInBounds_toArray, List.set_cons_zero, List.set_cons_succ, i64_w, i32_w]
    rfl
  refine pure_ (i := 7) (N := some 13) (v := ?_) (a' := ?_) #[true, true, true, true, true, true, true, true, false, false, false, false, false, false, false, false, false, false] rfl rfl (by kernel_rfl) (fun _ _ _ h => h) (Or.inl ⟨by rfl, ?_⟩) ?_ ?_
  rotate_left
  · intro w'
    go_simp
    with_reducible rfl
  rotate_left
  · simp only [Act.put, List.setIfInBounds_toArray, List.set_cons_zero, List.set_cons_succ, i64_w, i32_w]
    rfl
  refine pure_ (i := 8) (N := some 14) (v := ?_) (a' := ?_) #[true, true, true, true, true, true, true, true, true, false, false, false, false, false, false, false, false, false] rfl rfl (by kernel_rfl) (fun _ _ _ h => h) (Or.inl ⟨by rfl, ?_⟩) ?_ ?_
  rotate_left
  · intro w'
    go_simp
    with_reducible rfl
  rotate_left
  · simp only [Act.put, List.setIfInBounds_toArray, List.set_cons_zero, List.set_cons_succ, i64_w, i32_w]
    rfl
  refine pure_ (i := 11) (N := some 17) (v := ?_) (a' := ?_) #[true, true, true, true, true, true, true, true, true, false, false, true, false, false, false, false, false, false] rfl rfl (by kernel_rfl) (fun _ _ _ h => h) (Or.inl ⟨by rfl, ?_⟩) ?_ ?_
  rotate_left
  · intro w'
    go_simp
    with_reducible rfl
  rotate_left
  · simp only [Act.put, List.setIfInBounds_toArray, List.set_cons_zero, List.set_cons_succ, i64_w, i32_w]
    rfl
  refine pure_ (i := 12) (N := some 18) (v := ?_) (a' := ?_) #[true, true, true, true, true, true, true, true, true, false, false, true, true, false, false, false, false, false] rfl rfl (by kernel_rfl) (fun _ _ _ h => h) (Or.inl ⟨by rfl, ?_⟩) ?_ ?_
  rotate_left
  · intro w'
    go_simp
    with_reducible rfl
  rotate_left
  · simp only [Act.put, List.setIfInBounds_toArray, List.set_cons_zero, List.set_cons_succ, i64_w, i32_w]
    rfl
  refine pure_ (i := 13) (N := some 19) (v := ?_) (a' := ?_) #[true, true, true, true, true, true, true, true, true, false, false, true, true, true, false, false, false, false] rfl rfl (by kernel_rfl) (fun _ _ _ h => h) (Or.inl ⟨by rfl, ?_⟩) ?_ ?_
  rotate_left
  · intro w'
    go_simp
    with_reducible rfl
  rotate_left
  · simp only [Act.put, List.setIfInBounds_toArray, List.set_cons_zero, List.set_cons_succ, i64_w, i32_w]
    rfl
  refine take_ (i := 9) (N := some 15) (v := ?_) (a' := ?_) #[true, true, true, true, true, true, true, true, true, true, false, true, true, true, false, false, false, false] rfl rfl (by kernel_rfl) (fun _ _ _ h => h) (Or.inl ⟨by rfl, ?_⟩) hHeld ?_ ?_
  rotate_left
  · rintro w' ⟨s0, s1, s2⟩
    go_simp
    with_reducible rfl
  rotate_left
  · simp only [Act.put, List.setIfInBounds_toArray, List.set_cons_zero, List.set_cons_succ, i64_w, i32_w]
    rfl
  refine pure_ (i := 10) (N := some 16) (v := ?_) (a' := ?_) #[true, true, true, true, true, true, true, true, true, true, true, true, true, true, false, false, false, false] rfl rfl (by kernel_rfl) (fun _ _ _ h => h) (Or.inl ⟨by rfl, ?_⟩) ?_ ?_
  rotate_left
  · intro w'
    go_simp
    with_reducible rfl
  rotate_left
  · simp only [Act.put, List.setIfInBounds_toArray, List.set_cons_zero, List.set_cons_succ, i64_w, i32_w]
    rfl
  refine take_ (i := 14) (N := some 20) (v := ?_) (a' := ?_) #[true, true, true, true, true, true, true, true, true, true, true, true, true, true, true, false, false, false] rfl rfl (by kernel_rfl) (fun _ _ _ h => h) (Or.inl ⟨by rfl, ?_⟩) hHeld ?_ ?_
  rotate_left
  · rintro w' ⟨s0, s1, s2⟩
    go_simp
    with_reducible rfl
  rotate_left
  · simp only [Act.put, List.setIfInBounds_toArray, List.set_cons_zero, List.set_cons_succ, i64_w, i32_w]
    rfl
  refine pure_ (i := 15) (N := some 21) (v := ?_) (a' := ?_) #[true, true, true, true, true, true, true, true, true, true, true, true, true, true, true, true, false, false] rfl rfl (by kernel_rfl) (fun _ _ _ h => h) (Or.inl ⟨by rfl, ?_⟩) ?_ ?_
  rotate_left
  · intro w'
    go_simp
    with_reducible rfl
  rotate_left
  · simp only [Act.put, List.setIfInBounds_toArray, List.set_cons_zero, List.set_cons_succ, i64_w, i32_w]
    rfl
  refine pure_ (i := 16) (N := some 22) (v := ?_) (a' := ?_) #[true, true, true, true, true, true, true, true, true, true, true, true, true, true, true, true, true, false] rfl rfl (by kernel_rfl) (fun _ _ _ h => h) (Or.inl ⟨by rfl, ?_⟩) ?_ ?_
  rotate_left
  · intro w'
    go_simp
    with_reducible rfl
  rotate_left
  · simp only [Act.put, List.setIfInBounds_toArray, List.set_cons_zero, List.set_cons_succ, i64_w, i32_w]
    rfl
  refine pure_ (i := 17) (N := some 23) (v := ?_) (a' := ?_) #[true, true, true, true, true, true, true, true, true, true, true, true, true, true, true, true, true, true] rfl rfl (by kernel_rfl) (fun _ _ _ h => h) (Or.inl ⟨by rfl, ?_⟩) ?_ ?_
  rotate_left
  · intro w'
    go_simp
    with_reducible rfl
  rotate_left
  · simp only [Act.put, List.setIfInBounds_toArray, List.set_cons_zero, List.set_cons_succ, i64_w, i32_w]
    rfl
  refine done_ (by kernel_rfl) ?_
  have f1 := blk_frozen BG.out 1
  go_upto_region 6 with fail
  have B5 := Aside0.mk (blk_drew (blk_set BG0.out 1 (.int .i64 ((p : Int) + (q : Int)))))
  have H5 := Aside0.mk (below_drew (below_set (j := 1) (v := .int .i64 ((p : Int) + (q : Int))) HB0.out HGE.out))
  have K5 := Aside0.mk (show KeepBut w ((w1.setCell ⟨g, 1, none⟩ (.int .i64 ((p : Int) + (q : Int))))).drew g none from ⟨(HKB.out.set_ 1 _).1, (HKB.out.set_ 1 _).2⟩)
  generalize ((w1.setCell ⟨g, 1, none⟩ (.int .i64 ((p : Int) + (q : Int))))).drew = w5 at *
  have e0 : w5.drew.cell? ⟨g, 0, none⟩ = some (.slice A b.length c) := (blk_cell (blk_drew B5.out) 0).trans (by rw [Array.getElem?_setIfInBounds_ne (by decide)]; exact k0.out)
  have e1 : w5.drew.cell? ⟨g, 1, none⟩ = some (.int .i64 ((p : Int) + (q : Int))) := (blk_cell (blk_drew B5.out) 1).trans (Array.getElem?_setIfInBounds_self_of_lt (Array.getElem?_eq_some_iff.1 k1.out).1)
  refine start_ (n := 16) (S := fun w' => w'.cell? ⟨g, 0, none⟩ = some (.slice A b.length c) ∧ w'.cell? ⟨g, 1, none⟩ = some (.int .i64 ((p : Int) + (q : Int)))) (ds := []) #[false, false, false, false, false, false, false, false, false, false, false, false, false, false, false, false] (by kernel_rfl) rfl rfl ⟨e0, e1⟩ (fun hHeld => ?_)
  refine pure_ (i := 0) (N := some 35) (v := ?_) (a' := ?_) #[true, false, false, false, false, false, false, false, false, false, false, false, false, false, false, false] rfl rfl (by kernel_rfl) (fun _ _ _ h => h) (Or.inl ⟨by rfl, ?_⟩) ?_ ?_
  rotate_left
  · intro w'
    go_simp
    with_reducible rfl
  rotate_left
  · simp only [Act.put, List.setIfInBounds_toArray, List.set_cons_zero, List.set_cons_succ, i64_w, i32_w]
    rfl
  refine pure_ (i := 1) (N := some 36) (v := ?_) (a' := ?_) #[true, true, false, false, false, false, false, false, false, false, false, false, false, false, false, false] rfl rfl (by kernel_rfl) (fun _ _ _ h => h) (Or.inl ⟨by rfl, ?_⟩) ?_ ?_
  rotate_left
  · intro w'
    go_simp
    with_reducible rfl
  rotate_left
  · simp only [Act.put, List.setIfInBounds_toArray, List.set_cons_zero, List.set_cons_succ, i64_w, i32_w]
    rfl
  refine pure_ (i := 2) (N := some 37) (v := ?_) (a' := ?_) #[true, true, true, false, false, false, false, false, false, false, false, false, false, false, false, false] rfl rfl (by kernel_rfl) (fun _ _ _ h => h) (Or.inl ⟨by rfl, ?_⟩) ?_ ?_
  rotate_left
  · intro w'
    go_simp
    with_reducible rfl
  rotate_left
  · simp only [Act.put, List.setIfInBounds_toArray, List.set_cons_zero, List.set_cons_succ, i64_w, i32_w]
    rfl
  refine pure_ (i := 4) (N := some 39) (v := ?_) (a' := ?_) #[true, true, true, false, true, false, false, false, false, false, false, false, false, false, false, false] rfl rfl (by kernel_rfl) (fun _ _ _ h => h) (Or.inl ⟨by rfl, ?_⟩) ?_ ?_
  rotate_left
  · intro w'
    go_simp
    with_reducible rfl
  rotate_left
  · simp only [Act.put, List.setIfInBounds_toArray, List.set_cons_zero, List.set_cons_succ, i64_w, i32_w]
    rfl
  refine pure_ (i := 5) (N := some 40) (v := ?_) (a' := ?_) #[true, true, true, false, true, true, false, false, false, false, false, false, false, false, false, false] rfl rfl (by kernel_rfl) (fun _ _ _ h => h) (Or.inl ⟨by rfl, ?_⟩) ?_ ?_
  rotate_left
  · intro w'
    go_simp
    with_reducible rfl
  rotate_left
  · simp only [Act.put, List.setIfInBounds_toArray, List.set_cons_zero, List.set_cons_succ, i64_w, i32_w]
    rfl
  refine pure_ (i := 6) (N := some 41) (v := ?_) (a' := ?_) #[true, true, true, false, true, true, true, false, false, false, false, false, false, false, false, false] rfl rfl (by kernel_rfl) (fun _ _ _ h => h) (Or.inl ⟨by rfl, ?_⟩) ?_ ?_
  rotate_left
  · intro w'
    go_simp
    with_reducible rfl
  rotate_left
  · simp only [Act.put, List.setIfInBounds_toArray, List.set_cons_zero, List.set_cons_succ, i64_w, i32_w]
    rfl
  refine pure_ (i := 8) (N := some 43) (v := ?_) (a' := ?_) #[true, true, true, false, true, true, true, false, true, false, false, false, false, false, false, false] rfl rfl (by kernel_rfl) (fun _ _ _ h => h) (Or.inl ⟨by rfl, ?_⟩) ?_ ?_
  rotate_left
  · intro w'
    go_simp
    with_reducible rfl
  rotate_left
  · simp only [Act.put, List.setIfInBounds_toArray, List.set_cons_zero, List.set_cons_succ, i64_w, i32_w]
    rfl
  refine pure_ (i := 10) (N := some 45) (v := ?_) (a' := ?_) #[true, true, true, false, true, true, true, false, true, false, true, false, false, false, false, false] rfl rfl (by kernel_rfl) (fun _ _ _ h => h) (Or.inl ⟨by rfl, ?_⟩) ?_ ?_
  rotate_left
  · intro w'
    go_simp
    with_reducible rfl
  rotate_left
  · simp only [Act.put, List.setIfInBounds_toArray, List.set_cons_zero, List.set_cons_succ, i64_w, i32_w]
    rfl
  refine pure_ (i := 11) (N := some 46) (v := ?_) (a' := ?_) #[true, true, true, false, true, true, true, false, true, false, true, true, false, false, false, false] rfl rfl (by kernel_rfl) (fun _ _ _ h => h) (Or.inl ⟨by rfl, ?_⟩) ?_ ?_
  rotate_left
  · intro w'
    go_simp
    with_reducible rfl
  rotate_left
  · simp only [Act.put, List.setIfInBounds_toArray, List.set_cons_zero, List.set_cons_succ, i64_w, i32_w]
    rfl
  refine pure_ (i := 12) (N := some 47) (v := ?_) (a' := ?_) #[true, true, true, false, true, true, true, false, true, false, true, true, true, false, false, false] rfl rfl (by kernel_rfl) (fun _ _ _ h => h) (Or.inl ⟨by rfl, ?_⟩) ?_ ?_
  rotate_left
  · intro w'
    go_simp
    with_reducible rfl
  rotate_left
  · simp only [Act.put, List.setIfInBounds_toArray, List.set_cons_zero, List.set_cons_succ, i64_w, i32_w]
    rfl
  refine take_ (i := 3) (N := some 38) (v := ?_) (a' := ?_) #[true, true, true, true, true, true, true, false, true, false, true, true, true, false, false, false] rfl rfl (by kernel_rfl) (fun _ _ _ h => h) (Or.inl ⟨by rfl, ?_⟩) hHeld ?_ ?_
  rotate_left
  · rintro w' ⟨s0, s1⟩
    go_simp
    with_reducible rfl
  rotate_left
  · simp only [Act.put, List.setIfInBounds_toArray, List.set_cons_zero, List.set_cons_succ, i64_w, i32_w]
    rfl
  refine take_ (i := 7) (N := some 42) (v := ?_) (a' := ?_) #[true, true, true, true, true, true, true, true, true, false, true, true, true, false, false, false] rfl rfl (by kernel_rfl) (fun _ _ _ h => h) (Or.inl ⟨by rfl, ?_⟩) hHeld ?_ ?_
  rotate_left
  · rintro w' ⟨s0, s1⟩
    go_simp
    with_reducible rfl
  rotate_left
  · simp only [Act.put, List.setIfInBounds_toArray, List.set_cons_zero, List.set_cons_succ, i64_w, i32_w]
    rfl
  refine pure_ (i := 9) (N := some 44) (v := ?_) (a' := ?_) #[true, true, true, true, true, true, true, true, true, true, true, true, true, false, false, false] rfl rfl (by kernel_rfl) (fun _ _ _ h => h) (Or.inl ⟨by rfl, ?_⟩) ?_ ?_
  rotate_left
  · intro w'
    go_simp
    with_reducible rfl
  rotate_left
  · simp only [Act.put, List.setIfInBounds_toArray, List.set_cons_zero, List.set_cons_succ, i64_w, i32_w]
    rfl
  refine take_ (i := 13) (N := some 48) (v := ?_) (a' := ?_) #[true, true, true, true, true, true, true, true, true, true, true, true, true, true, false, false] rfl rfl (by kernel_rfl) (fun _ _ _ h => h) (Or.inl ⟨by rfl, ?_⟩) hHeld ?_ ?_
  rotate_left
  · rintro w' ⟨s0, s1⟩
    go_simp
    with_reducible rfl
  rotate_left
  · simp only [Act.put, List.setIfInBounds_toArray, List.set_cons_zero, List.set_cons_succ, i64_w, i32_w]
    rfl
  refine pure_ (i := 14) (N := some 49) (v := ?_) (a' := ?_) #[true, true, true, true, true, true, true, true, true, true, true, true, true, true, true, false] rfl rfl (by kernel_rfl) (fun _ _ _ h => h) (Or.inl ⟨by rfl, ?_⟩) ?_ ?_
  rotate_left
  · intro w'
    go_simp
    with_reducible rfl
  rotate_left
  · simp only [Act.put, List.setIfInBounds_toArray, List.set_cons_zero, List.set_cons_succ, i64_w, i32_w]
    rfl
  refine pure_ (i := 15) (N := some 2) (v := ?_) (a' := ?_) #[true, true, true, true, true, true, true, true, true, true, true, true, true, true, true, true] rfl rfl (by kernel_rfl) (fun _ _ _ h => h) (Or.inl ⟨by rfl, ?_⟩) ?_ ?_
  rotate_left
  · intro w'
    go_simp
    with_reducible rfl
  rotate_left
  · simp only [Act.put, List.setIfInBounds_toArray, List.set_cons_zero, List.set_cons_succ, i64_w, i32_w]
    rfl
  refine done_ (by kernel_rfl) ?_
  go_wp2
  all_goals (go_ret; exact ⟨by first | rfl | simp_all, blk_drew B5.out, below_drew H5.out, ⟨K5.out.1, K5.out.2⟩⟩)

end Go.Proofs.Ytfhcolhiolgikaa.T
/- Written by hp.py, this session's own program, out of the translation of this seat: Lean functions for the Go functions, and the proof that each call comes to what its Lean function says. -/
namespace Go.Proofs.Ytfhcolhiolgikaa.T
open Go.RowKit Go.Proofs.YtfhcolhiolgikaaW.PrintWords Go.Proofs.YtfhcolhiolgikaaW.PrintLast Go.Proofs.YtfhcolhiolgikaaW.PrintMore
attribute [local go_sem] max2_int min2_int max_two min_two max_three min_three max_four min_four   -- for this text's walks alone
set_option linter.unusedVariables false
set_option linter.unusedSimpArgs false
/-! ### frame.each at the method value (function 59), frame.Sum (function 40), by hand -/
theorem add_some : ∀ (d k : Nat) (i x : Int), i + d = 8 → 0 ≤ i → d < k → ∃ r, frame_sum_add.l0 k i x = some r
  | 0, k, i, x, h, h0, hk => by
    obtain ⟨k, rfl⟩ : ∃ m, k = m + 1 := ⟨k - 1, by omega⟩
    exact ⟨x, by rw [frame_sum_add.l0, if_neg (by omega)]⟩
  | d + 1, k, i, x, h, h0, hk => by
    obtain ⟨k, rfl⟩ : ∃ m, k = m + 1 := ⟨k - 1, by omega⟩
    have hw : wrap64 (i + 1) = i + 1 := by unfold wrap64; omega
    rw [frame_sum_add.l0, if_pos (by omega), hw]
    split
    · exact add_some d k (i + 1) _ (by omega) (by omega) (by omega)
    · exact add_some d k (i + 1) _ (by omega) (by omega) (by omega)
def addS (s a : Int) : Int := (frame_sum_add.f 20 s a).getD 0
theorem addS_eq (s a : Int) : frame_sum_add.f 20 s a = some (addS s a) := by
  obtain ⟨r, hr⟩ := add_some 8 20 0 (Go.bits .xor .u32 s ((a) % 4294967296)) (by omega) (by omega) (by omega)
  have hf : frame_sum_add.f 20 s a = some r := hr
  unfold addS
  rw [hf]
  rfl
set_option maxHeartbeats 4000000 in
set_option maxRecDepth 100000 in
theorem each_calls (A : Option Addr) (c : Nat) (l : List Int) (g : Nat) (s : Int) (w0 w : World) (hC : Kd.C (Kd.int .u8) w0 A l.length l) (hc : l.length ≤ c) (hI : IsS104 w0 w g s) (hB : Below w0.heap.size w0 w) :
    Calls Try.prog 59 #[.slice A l.length c, .func (.func 60) #[.pointer (some ⟨g, 0, none⟩)] #[]] w fun e w' => e = .returned (.tuple #[]) ∧ IsS104 w0 w' g (l.foldl addS s) ∧ Below w0.heap.size w0 w' := by
  have hlm : l.length ≤ 9223372036854775807 := hC.2.1
  have HR := Aside0.mk hC
  have HI0 := Aside0.mk hI
  have HB0 := Aside0.mk hB
  clear hC hI hB
  go_enter Try.func59, Try.ntmps59
  go_wp2
  go_loopg [8] l.length (fun kq v8 w' => ∃ (i : Nat) (t : Int), v8 = .int .i64 (i : Int) ∧ Aside0 (l.length ≤ kq + i) ∧ Aside0 (i ≤ l.length) ∧ Aside0 ((l.drop i).foldl addS t = l.foldl addS s) ∧ Aside0 (IsS104 w0 w' g t) ∧ Aside0 (Below w0.heap.size w0 w'))
  case atStart => exact ⟨0, s, rfl, ⟨Nat.le_refl _⟩, ⟨Nat.zero_le _⟩, ⟨rfl⟩, HI0, HB0⟩
  case round =>
    obtain ⟨i, t, rfl, HK, HI, HN, HS, HB⟩ := hrel
    obtain ⟨wo, rfl⟩ : ∃ wo : World, wo = wr := ⟨_, rfl⟩
    by_cases hlt : i < l.length
    · obtain ⟨kj, rfl⟩ : ∃ m, gk = m + 1 := ⟨gk - 1, by have := HK.out; omega⟩
      have d1 : decide ((i : Int) < (l.length : Int)) = true := decide_eq_true (by omega)
      obtain ⟨ad, ea, hx⟩ := Kd.at_int (Kd.C_below HR.out HB.out) (i : Int) (by omega) (by omega)
      subst ea
      rw [Int.toNat_natCast] at hx
      have hstep : (l.drop i).foldl addS t = (l.drop (i + 1)).foldl addS (addS t (rd l (i : Int))) := by
        rw [List.drop_eq_getElem_cons hlt, List.foldl_cons]
        unfold rd
        rw [Int.toNat_natCast, List.getD_eq_getElem?_getD, List.getElem?_eq_getElem hlt]
        rfl
      have hn := HN.out
      rw [hstep] at hn
      generalize rd l (i : Int) = x at hx hn
      have HN2 := Aside0.mk hn
      clear hn hstep
      go_wp2_with (first | (go_at_call 60; (refine (frame_sum_add.calls 20 g t x (addS t x) w0 _ HS.out HB.out (addS_eq t x)).mono ?_); rintro e w1 ⟨rfl, hS1, hB1, _⟩; have HS1 := Aside0.mk hS1; have HB1 := Aside0.mk hB1; clear hS1 hB1))
      go_roundg kj
      case measure => omega
      case rel => exact ⟨i + 1, _, congrArg (Value.int .i64) (by omega), ⟨by have := HK.out; omega⟩, ⟨by omega⟩, HN2, HS1, HB1⟩
    · have d1 : decide ((i : Int) < (l.length : Int)) = false := decide_eq_false (by omega)
      have HN2 := Aside0.mk (show IsS104 w0 wo g (l.foldl addS s) by have h := HN.out; rw [List.drop_eq_nil_of_le (by omega)] at h; rw [← h]; exact HS.out)
      go_wp2
      first | go_end0 | ((try simp only [Exit.inBlock, Exit.then]); refine bodyPost_ret (results_none rfl _ _ _) rfl ?_)
      exact ⟨rfl, HN2.out, HB.out⟩
def sumL (l : List Int) : Int := Go.bits BinOp.xor IntKind.u32 IntKind.u32.max (l.foldl addS 4294967295)
def frame_Sum.f (l : List Int) : Option Int := some (sumL l)
set_option maxHeartbeats 4000000 in
set_option maxRecDepth 100000 in
theorem frame_Sum.calls (A : Option Addr) (c : Nat) (l : List Int) (r : Int) (w : World) (hC : Kd.C (Kd.int .u8) w A l.length l) (hc : l.length ≤ c) (h : frame_Sum.f l = some r) : Calls Try.prog 40 #[.slice A l.length c] w fun e w' => e = .returned (.int .u32 r) ∧ Below w.heap.size w w' := by
  obtain rfl := Option.some.inj h
  clear h
  have hu104 := Try.underlying104
  have HR := Aside0.mk hC
  clear hC
  go_enter Try.func40, Try.ntmps40
  go_upto_region 2 with fail
  have hI : IsS104 w (w.alloc (.cells #[.int .u32 4294967295] 104)) w.heap.size 4294967295 := ⟨blk_new _ _, Nat.le_refl _⟩
  have hB := below_alloc (Below.refl w.heap.size w) (.cells #[.int .u32 4294967295] 104)
  generalize (w.alloc (.cells #[.int .u32 4294967295] 104)) = wb at *
  have HI := Aside0.mk hI
  have HB := Aside0.mk hB
  clear hI hB
  generalize w.heap.size = g at HI ⊢
  go_upto_region 3 with (first | (go_at_call 59; (refine (each_calls A c l g 4294967295 w _ HR.out hc HI.out HB.out).mono ?_); rintro e w1 ⟨rfl, hS1, hB1⟩; have HS1 := Aside0.mk hS1; have HB1 := Aside0.mk hB1; have c0 := cellS104_0 hS1.1; clear hS1 hB1))
  go_wp2
  go_ret
  exact ⟨rfl, HB1.out⟩

end Go.Proofs.Ytfhcolhiolgikaa.T
/- Written by hp.py, this session's own program, out of the translation of this seat: Lean functions for the Go functions, and the proof that each call comes to what its Lean function says. -/
namespace Go.Proofs.Ytfhcolhiolgikaa.T
open Go.RowKit Go.Proofs.YtfhcolhiolgikaaW.PrintWords Go.Proofs.YtfhcolhiolgikaaW.PrintLast Go.Proofs.YtfhcolhiolgikaaW.PrintMore
attribute [local go_sem] max2_int min2_int max_two min_two max_three min_three max_four min_four   -- for this text's walks alone
set_option linter.unusedVariables false
set_option linter.unusedSimpArgs false
/-! ### frame.of (function 39), by hand -/
theorem results_c1 {P : Program} {fn : Func} {p : Tmp} {ty : TypeId} (h : fn.results = #[.cell p ty]) (tmps : Array Value) (w : World) (g : Nat) (t : TypeId) (cs : Array Value) (fr : Nat × Nat) (d : TypeDesc)
    (hp : tmps.getD p undef = .pointer (some ⟨g, 0, none⟩)) (hg : w.heap[g]? = some (.cells cs t fr))
    (hu : P.underlying ty = some d) (hd : (match d with | .struct _ | .array _ _ => true | _ => false) = true) (hi : (P.info? ty).map (·.size) = some cs.size) :
    (results fn tmps).run P w = .ok (.agg cs) w := by
  have hp' : tmps[p]?.getD undef = .pointer (some ⟨g, 0, none⟩) := by simpa using hp
  simp [results, h, hp', asAddr, run_loadVar_row w g t ty cs fr d hg hu hd hi]
def ofL (n : Int) : List Int := [n % 256, n / 256 % 256, n / 65536 % 256, n / 16777216 % 256]
def ofA (n : Int) : Array Value := #[.int .u8 (n % 256), .int .u8 (n / 256 % 256), .int .u8 (n / 65536 % 256), .int .u8 (n / 16777216 % 256)]
set_option maxHeartbeats 1000000 in
set_option maxRecDepth 100000 in
theorem of_calls (n : Int) (w : World) : Calls Try.prog 39 #[.int .u32 n] w fun e w' => e = .returned (.agg #[.int .u8 (n % 256), .int .u8 (n / 256 % 256), .int .u8 (n / 65536 % 256), .int .u8 (n / 16777216 % 256)]) ∧ Below w.heap.size w w' := by
  have hu38 := Try.underlying38
  go_enter Try.func39, Try.ntmps39
  go_upto_region 1 with fail
  have b0 := blk_new w (.cells #[.int .u8 0, .int .u8 0, .int .u8 0, .int .u8 0] 38)
  have bb := below_alloc (Below.refl w.heap.size w) (.cells #[.int .u8 0, .int .u8 0, .int .u8 0, .int .u8 0] 38)
  generalize (w.alloc (.cells #[.int .u8 0, .int .u8 0, .int .u8 0, .int .u8 0] 38)) = wb at *
  have HB := Aside0.mk bb
  have HG := Aside0.mk (Nat.le_refl w.heap.size)
  generalize hg : w.heap.size = g at b0 ⊢
  have BG := Aside0.mk b0
  have f0 := blk_frozen BG.out 0
  have f1 := blk_frozen BG.out 1
  have f2 := blk_frozen BG.out 2
  have f3 := blk_frozen BG.out 3
  have c0 : wb.cell? ⟨g, 0, none⟩ = some (.int .u8 0) := (blk_cell BG.out 0).trans rfl
  have c1 : wb.cell? ⟨g, 1, none⟩ = some (.int .u8 0) := (blk_cell BG.out 1).trans rfl
  have c2 : wb.cell? ⟨g, 2, none⟩ = some (.int .u8 0) := (blk_cell BG.out 2).trans rfl
  have c3 : wb.cell? ⟨g, 3, none⟩ = some (.int .u8 0) := (blk_cell BG.out 3).trans rfl
  have HLE := Aside0.mk (show w.heap.size ≤ g by omega)
  clear bb b0 HG hg
  go_wp2
  have hG := blk_set (blk_set (blk_set (blk_set BG.out 0 (.int .u8 (n % 256))) 1 (.int .u8 (n / 256 % 256))) 2 (.int .u8 (n / 65536 % 256))) 3 (.int .u8 (n / 16777216 % 256))
  refine bodyPost_ret (results_c1 rfl _ _ g 38 (ofA n) (0, 0) _ rfl hG Try.underlying38 rfl (by kernel_rfl)) rfl ?_
  exact ⟨rfl, below_set (below_set (below_set (below_set HB.out HLE.out) HLE.out) HLE.out) HLE.out⟩

end Go.Proofs.Ytfhcolhiolgikaa.T
/- Written by hp.py, this session's own program, out of the translation of this seat: Lean functions for the Go functions, and the proof that each call comes to what its Lean function says. -/
namespace Go.Proofs.Ytfhcolhiolgikaa.T
open Go.RowKit Go.Proofs.YtfhcolhiolgikaaW.PrintWords Go.Proofs.YtfhcolhiolgikaaW.PrintLast Go.Proofs.YtfhcolhiolgikaaW.PrintMore
attribute [local go_sem] max2_int min2_int max_two min_two max_three min_three max_four min_four   -- for this text's walks alone
set_option linter.unusedVariables false
set_option linter.unusedSimpArgs false
/-! ### frame.Wrap (function 20), by hand -/
theorem wr_lit {W : World} {k : IntKind} {g : Nat} {t : TypeId} {cs : Array Value} (xs : List Int) (h : W.heap[g]? = some (.cells cs t (0, 0))) (he : cs.toList = xs.map (Value.int k)) (hl : xs.length ≤ 1000) : Kd.C (Kd.int k) W (some ⟨g, 0, none⟩) xs.length xs := by
  refine ⟨rfl, by omega, fun _ => ⟨⟨g, 0, none⟩, rfl, fun j p hp => ⟨[.int k p], rfl, rfl, fun i u hu => ?_⟩⟩⟩
  have hi : i = 0 := by have := (List.getElem?_eq_some_iff.1 hu).1; simpa using this
  subst hi
  have e : (⟨g, 0, none⟩ : Addr).add (j * (Kd.int k).sz + 0) = ⟨g, j, none⟩ := by rw [add_plain]; congr 1; show j * 1 + 0 = j; omega
  rw [e, blk_cell h, ← Array.getElem?_toList, he, List.getElem?_map, hp]
  exact hu
def frame_Wrap.f (k : Nat) (kind : Int) (l : List Int) : Option (List Int) := if (l.length : Int) > 65536 then some [] else (vint_Put.f k (l.length : Int)).bind fun p => if p.length ≤ 1000 then some (([70, kind] ++ p ++ l) ++ ofL (sumL ([70, kind] ++ p ++ l))) else none
set_option maxHeartbeats 8000000 in
set_option maxRecDepth 100000 in
theorem frame_Wrap.calls (k : Nat) (a0 : Int) (A1 : Option Addr) (c1 : Nat) (l1 : List Int) (r : List Int) (w : World) (hr1 : Kd.C (Kd.int .u8) w A1 l1.length l1) (hc1 : l1.length ≤ c1) (h : frame_Wrap.f k a0 l1 = some r) :
    Calls Try.prog 20 #[.int .u8 a0, .slice A1 l1.length c1] w fun e w' => ∃ v0_ : Value, e = .returned (v0_) ∧ Kd.R (Kd.int .u8) 5 w' w.heap.size (fun _ => True) v0_ r ∧ Below w.heap.size w w' := by
  have hu38 := Try.underlying38
  have hu29 := Try.underlying29
  have HR1 := Aside0.mk hr1
  have HC1 := Aside0.mk hc1
  clear hr1 hc1
  have HB := Aside0.mk (Below.refl w.heap.size w)
  unfold frame_Wrap.f at h
  by_cases c3 : (l1.length : Int) > 65536
  · rw [if_pos c3] at h
    obtain rfl := Option.some.inj h
    have d1 : decide (65536 < (l1.length : Int)) = true := decide_eq_true c3
    have d2 : decide (65536 < l1.length) = true := decide_eq_true (by omega)
    clear c3 h
    go_enter Try.func20, Try.ntmps20
    go_wp2
    go_ret
    exact ⟨_, rfl, Kd.R_nil _ _ _ _ _, HB.out⟩
  rw [if_neg c3] at h
  have d1 : decide (65536 < (l1.length : Int)) = false := decide_eq_false c3
  have d2 : decide (65536 < l1.length) = false := decide_eq_false (by omega)
  have HLL := Aside0.mk (show l1.length ≤ 65536 by omega)
  clear c3
  obtain ⟨t269, A4, h⟩ := Option.bind_eq_some_iff.mp h
  by_cases c4 : t269.length ≤ 1000
  · rw [if_pos c4] at h
    have h := Option.some.inj h
    have A4 := Aside0.mk A4
    obtain ⟨y266, hy⟩ : ∃ y_ : List Int, y_ = ([70, a0] : List Int) := ⟨_, rfl⟩
    have Ny266 := Aside0.mk hy
    have LMc5 := Aside0.mk (show y266.length + t269.length < 140737488355328 by rw [hy]; simp; omega)
    obtain ⟨y272, hy1⟩ : ∃ y_ : List Int, y_ = (y266 ++ t269) := ⟨_, rfl⟩
    have Ny272 := Aside0.mk hy1
    have LMc6 := Aside0.mk (show y272.length + l1.length < 140737488355328 by have := HLL.out; rw [hy1, hy]; simp; omega)
    obtain ⟨y275, hy2⟩ : ∃ y_ : List Int, y_ = (y272 ++ l1) := ⟨_, rfl⟩
    have Ny275 := Aside0.mk hy2
    have LMc7 := Aside0.mk (show y275.length + 4 < 140737488355328 by have := HLL.out; rw [hy2, hy1, hy]; simp; omega)
    have HRS := Aside0.mk (show y275 ++ ofL (sumL y275) = r by rw [← h, hy2, hy1, hy])
    clear hy hy1 hy2 h c4
    go_enter Try.func20, Try.ntmps20
    go_upto_region 5 with (first | ((with_reducible refine gate_dst (N := 11) rfl ?_); refine Kd.R_lit (Kd.int .u8) _ 5 ?hg (N := 11) ?hd (xs := ([70, a0] : List Int)) (inner := [.int .u8 70, .int .u8 a0]) (ok := fun _ => True) (okp := fun _ => True) ?hr ?hp (fun _ hk => hk) trivial (Below.refl _ _) (Nat.le_refl _) (by simp) ?_; (case hd => rfl); (case hg => rfl); (case hr => first | (go_simp; done) | (go_simp; rfl)); (case hp => exact (Reps.one (show Kd.M (Kd.int .u8) _ _ _ 70 [.int .u8 70] from rfl) (Reps.one (show Kd.M (Kd.int .u8) _ _ _ a0 [.int .u8 a0] from rfl) (Reps.none _ _)))); intro v267 w8 ho9 hb hg_ hnew_; clear hg_ hnew_; (first | rw [← Ny266.out] at ho9 | (simp only [Int.reduceToNat] at ho9; rw [← Ny266.out] at ho9)); have n0_ := Aside0.mk (Kd.R_lower ho9 (below_size (by repeat (first | (with_reducible first | exact HB.out | apply below_alloc | apply pw_below_drewN | apply below_drew1) | exact HB.out)))); have n1_ := Aside0.mk (below_step (by repeat (first | (with_reducible first | exact HB.out | apply below_alloc | apply pw_below_drewN | apply below_drew1) | exact HB.out)) hb); clear HB; have HO268 := n0_; have HB := n1_; clear n0_ n1_; clear hb ho9) | ((with_reducible refine gate_callee (f := 15) rfl ?_); refine goesL_ (some 14) rfl rfl Try.func15 (by kernel_rfl) rfl #[.int .i64 (l1.length : Int)] rfl (by (try simp only [List.map_toArray, List.map_cons, List.map_nil]); first | done | rfl | (simp only [List.length_drop, List.length_take]; rfl)) ?_; (with_reducible refine (vint_Put.calls k (l1.length : Int) t269 _ A4.out).mono ?_); rintro e w10 ⟨v270, rfl, ho0, hb⟩; refine ⟨_, rfl, ?_⟩; have n0_ := Aside0.mk (Kd.R_elder' (by (with_reducible repeat (first | apply Kd.R_alloc | apply Kd.R_drewN | apply Kd.R_drew)); exact HO268.out) (Kd.R_base ho0) hb); have n1_ := Aside0.mk (Kd.R_lower (Kd.R_new' ho0 (Kd.R_lt (by (with_reducible repeat (first | apply Kd.R_alloc | apply Kd.R_drewN | apply Kd.R_drew)); exact HO268.out))) (below_size (by repeat (first | (with_reducible first | exact HB.out | apply below_alloc | apply pw_below_drewN | apply below_drew1) | exact HB.out)))); have n2_ := Aside0.mk (below_step (by repeat (first | (with_reducible first | exact HB.out | apply below_alloc | apply pw_below_drewN | apply below_drew1) | exact HB.out)) hb); clear HO268; clear HB; have HO268 := n0_; have HO271 := n1_; have HB := n2_; clear n0_ n1_ n2_; (try clear hb); (try clear hb2); (try clear hk); (try clear hi); (try clear ho0); obtain ⟨Ao12, co12, eo12⟩ := Kd.R_slice HO271.out; subst eo12) | ((with_reducible refine gate_builtin (b := .append) (xs := #[.tmp 11, .tmp 14]) rfl ?_); at_builtin; refine Kd.R_append_rows (Kd.int .u8) (w0 := w) w.heap.size rfl (.tmp 11) (.tmp 14) 29 5 (.int .u8 0) 1 rfl Try.underlying29 info5 rfl (by decide) (by omega) v267 y266 t269 _ _ _ (fun k_ => some k_ ≠ (.slice Ao12 t269.length co12 : Value).ownBlock) (fun _ => False) rfl rfl ?aO ?aR (fun _ _ h => h) (fun _ h => h.elim) ?aF ?aB ?aS ?aL ?_; (case aR => repeat (first | exact (Kd.R_reads' HO271.out).2.2 | (with_reducible refine Kd.C_alloc ?_ _) | (with_reducible refine Kd.C_drewN ?_ _) | (with_reducible refine Kd.C_drew ?_))); (case aB => exact (by repeat (first | (with_reducible first | exact HB.out | apply below_alloc | apply pw_below_drewN | apply below_drew1) | exact HB.out))); (case aF => exact (fun k_ hk => Kd.fresh' (Kd.R_lt (by (with_reducible repeat (first | apply Kd.R_alloc | apply Kd.R_drewN | apply Kd.R_drew)); exact HO271.out)) k_ hk)); (case aO => exact (by (with_reducible repeat (first | apply Kd.R_alloc | apply Kd.R_drewN | apply Kd.R_drew)); exact Kd.R_mono HO268.out (fun _ hk => hk.2))); (case aS => exact (below_size (by repeat (first | (with_reducible first | exact HB.out | apply below_alloc | apply pw_below_drewN | apply below_drew1) | exact HB.out)))); (case aL => have := LMc5.out; omega); intro v273 w11 ho hb hg hat; rw [← Ny272.out] at ho; have n0_ := Aside0.mk (Kd.R_after (ok := (fun _ => True)) (by (with_reducible repeat (first | apply Kd.R_alloc | apply Kd.R_drewN | apply Kd.R_drew)); exact HO271.out) hg hat); have n1_ := Aside0.mk (hb); have n2_ := Aside0.mk (ho); clear HO271; clear HB; clear HO268; have HO271 := n0_; have HB := n1_; have HO274 := n2_; clear n0_ n1_ n2_; clear ho hb hg hat) | ((with_reducible refine gate_builtin (b := .append) (xs := #[.tmp 16, .tmp 17]) rfl ?_); at_builtin; refine Kd.R_append_rows (Kd.int .u8) (w0 := w) w.heap.size rfl (.tmp 16) (.tmp 17) 29 5 (.int .u8 0) 1 rfl Try.underlying29 info5 rfl (by decide) (by omega) v273 y272 l1 _ _ _ (fun k_ => some k_ ≠ (.slice Ao12 t269.length co12 : Value).ownBlock) (fun _ => False) rfl rfl ?aO ?aR (fun _ _ h => h) (fun _ h => h.elim) ?aF ?aB ?aS ?aL ?_; (case aR => repeat (first | exact (Kd.C_below HR1.out HB.out) | (with_reducible refine Kd.C_alloc ?_ _) | (with_reducible refine Kd.C_drewN ?_ _) | (with_reducible refine Kd.C_drew ?_))); (case aB => exact (by repeat (first | (with_reducible first | exact HB.out | apply below_alloc | apply pw_below_drewN | apply below_drew1) | exact HB.out))); (case aF => exact (fun k_ hk => Kd.fresh' (Kd.R_lt (by (with_reducible repeat (first | apply Kd.R_alloc | apply Kd.R_drewN | apply Kd.R_drew)); exact HO271.out)) k_ hk)); (case aO => exact (by (with_reducible repeat (first | apply Kd.R_alloc | apply Kd.R_drewN | apply Kd.R_drew)); exact HO274.out)); (case aS => exact (below_size (by repeat (first | (with_reducible first | exact HB.out | apply below_alloc | apply pw_below_drewN | apply below_drew1) | exact HB.out)))); (case aL => have := LMc6.out; omega); intro v276 w13 ho hb hg hat; rw [← Ny275.out] at ho; have n0_ := Aside0.mk (Kd.R_after (ok := (fun _ => True)) (by (with_reducible repeat (first | apply Kd.R_alloc | apply Kd.R_drewN | apply Kd.R_drew)); exact HO271.out) hg hat); have n1_ := Aside0.mk (hb); have n2_ := Aside0.mk (ho); clear HO271; clear HB; clear HO274; have HO271 := n0_; have HB := n1_; have HO277 := n2_; clear n0_ n1_ n2_; clear ho hb hg hat; obtain ⟨Ao14, co14, eo14⟩ := Kd.R_slice HO277.out; subst eo14))
    have m0_ := Aside0.mk (show Kd.R (Kd.int .u8) 5 _ w.heap.size (fun _ => True) (.slice Ao14 y275.length co14) y275 from Kd.R_mono HO277.out (fun _ _ => trivial))
    clear HO277
    have HO277 := m0_
    clear m0_
    go_upto_region 6 with (first | (go_at_call 40; (refine (frame_Sum.calls _ _ y275 (sumL y275) _ (Kd.R_reads' HO277.out).2.2 (Kd.R_reads' HO277.out).2.1 rfl).mono ?_); rintro e_ w20 ⟨rfl, hb⟩; have n0_ := Aside0.mk (Kd.R_below HO277.out hb); have n1_ := Aside0.mk (below_step HB.out hb); clear HO277 HB hb; have HO277 := n0_; have HB := n1_; clear n0_ n1_) | (go_at_call 39; (refine (of_calls (sumL y275) _).mono ?_); rintro e_ w21 ⟨rfl, hb⟩; have n0_ := Aside0.mk (Kd.R_below HO277.out hb); have n1_ := Aside0.mk (below_step HB.out hb); clear HO277 HB hb; have HO277 := n0_; have HB := n1_; clear n0_ n1_))
    have b0 := blk_new w21 (.cells #[.int .u8 (sumL y275 % 256), .int .u8 (sumL y275 / 256 % 256), .int .u8 (sumL y275 / 65536 % 256), .int .u8 (sumL y275 / 16777216 % 256)] 38)
    have hb := below_alloc (Below.refl w21.heap.size w21) (.cells #[.int .u8 (sumL y275 % 256), .int .u8 (sumL y275 / 256 % 256), .int .u8 (sumL y275 / 65536 % 256), .int .u8 (sumL y275 / 16777216 % 256)] 38)
    generalize (w21.alloc (.cells #[.int .u8 (sumL y275 % 256), .int .u8 (sumL y275 / 256 % 256), .int .u8 (sumL y275 / 65536 % 256), .int .u8 (sumL y275 / 16777216 % 256)] 38)) = w22 at *
    have n0_ := Aside0.mk (Kd.R_below HO277.out hb)
    have n1_ := Aside0.mk (below_step HB.out hb)
    have HCA := Aside0.mk (wr_lit (k := .u8) (ofL (sumL y275)) b0 rfl (by simp [ofL]))
    clear HO277 HB hb b0
    have HO277 := n0_
    have HB := n1_
    clear n0_ n1_
    generalize w21.heap.size = g at *
    go_wp2_with (first | ((with_reducible refine gate_builtin (b := .append) (xs := #[.tmp 22, .tmp 23]) rfl ?_); at_builtin; refine Kd.R_append_rows (Kd.int .u8) (w0 := w) w.heap.size rfl (.tmp 22) (.tmp 23) 29 5 (.int .u8 0) 1 rfl Try.underlying29 info5 rfl (by decide) (by omega) (.slice Ao14 y275.length co14) y275 (ofL (sumL y275)) _ _ _ (fun _ => True) (fun _ => False) rfl rfl HO277.out HCA.out (fun _ _ h => h) (fun _ h => h.elim) (fun _ _ => trivial) HB.out (below_size HB.out) (by have := LMc7.out; show (y275.length + 4) * 1 ≤ _; omega) ?_; intro v30 w30 ho hb hg hat; rw [HRS.out] at ho; have HO30 := Aside0.mk ho; have HB30 := Aside0.mk hb; clear ho hb hg hat))
    go_ret
    exact ⟨_, rfl, HO30.out, HB30.out⟩
  · rw [if_neg c4] at h
    exact absurd h (by simp)

end Go.Proofs.Ytfhcolhiolgikaa.T
