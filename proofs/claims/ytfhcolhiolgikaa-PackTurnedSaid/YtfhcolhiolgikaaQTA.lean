import Derived.Test.YtfhcolhiolgikaaQTV
import Derived.Test.YtfhcolhiolgikaaProg
import Derived.Below
import Derived.Deep.Draws
import Derived.Deep.AppendLies
import Derived.Maps.AppendAt
import Derived.OwnWalk
import Derived.Laws.BytesArg
import Derived.Laws.MakeOwn
import Derived.Laws.OwnMore
import Derived.Deep.OwnRows
import Derived.Tactics
import Derived.Lib.ConvBytes
import Derived.Laws.Slices
import Derived.WalkKit
import Derived.KernelRfl
import Derived.RowKit3
import Derived.Deep.LoopGhost
import Derived.Deep.QuietTactic
import Derived.BigQuiet
import Derived.WideLaws
import Derived.Deep.DeepCutAuto
import Derived.Deep.CutBlock
import Derived.Deep.RegionHeld3
import Derived.Laws.Rows
import Derived.Lib.AppendStr
import Derived.ArgAppend
import Derived.Laws.IdiomCopy
import Derived.OrdersHeld
import Derived.Laws.BitsLemmas
import Derived.RowKit
/- Texts of this claim, laid together by a program (merge.py): Tx0, Tx1, Sl, Tx2, Tx6, Tx8, Tx9, Nu, By, Su, Of, Wf. -/
/- Written by hp.py, this session's own program, out of the translation of this seat: Lean functions for the Go functions, and the proof that each call comes to what its Lean function says. -/
namespace Go.Proofs.Ytfhcolhiolgikaa.T
open Go.RowKit Go.Proofs.YtfhcolhiolgikaaW.PrintWords Go.Proofs.YtfhcolhiolgikaaW.PrintLast Go.Proofs.YtfhcolhiolgikaaW.PrintMore
attribute [local go_sem] max2_int min2_int max_two min_two max_three min_three max_four min_four   -- for this text's walks alone
set_option linter.unusedVariables false
set_option linter.unusedSimpArgs false



def errW : Option Int → Value
 | none => .nilIface
 | some c => .iface 0 (.int .i64 c)
theorem errW_none : errW none = .nilIface := rfl
theorem errW_some (c : Int) : errW (some c) = .iface 0 (.int .i64 c) := rfl

theorem info3 : (Try.prog.info? 3).map (fun i => (i.zero, i.size, i.bytes)) = some (some (.int .i64 0), 1, 8) := by kernel_rfl
theorem info5 : (Try.prog.info? 5).map (fun i => (i.zero, i.size, i.bytes)) = some (some (.int .u8 0), 1, 1) := by kernel_rfl
theorem info9 : (Try.prog.info? 9).map (fun i => (i.zero, i.size, i.bytes)) = some (some (.string ⟨#[]⟩), 1, 16) := by kernel_rfl
-- the values' own types
def rd_L3 (xs : List (List Int)) (i : Int) : (List Int) := xs.getD i.toNat ([] : List Int)
theorem at_L3 {w : World} {A : Option Addr} {n : Nat} {xs : List (List Int)} (h : Kd.C (Kd.slice 3 (Kd.int .i64)) w A n xs) (i : Int) (h0 : 0 ≤ i) (h1 : i < n) : ∃ ad A0 c0, A = some ad ∧ w.cell? (ad.add i.toNat) = some (.slice A0 (rd_L3 xs i).length c0) ∧ (rd_L3 xs i).length ≤ c0 ∧ (Kd.int .i64).C w A0 (rd_L3 xs i).length (rd_L3 xs i) := by
 obtain ⟨ad, c, e, _, hK, hc0⟩ := Kd.C_get h ([] : List Int) i h0 h1
 have hc : ∀ j u, c[j]? = some u → w.cell? (ad.add (i.toNat * 1 + j)) = some u := hc0
 obtain ⟨A0, c0, rfl, l0, g0⟩ := hK
 exact ⟨ad, A0, c0, e, by have hq := hc 0 _ rfl; rwa [Nat.mul_one, Nat.add_zero] at hq, l0, g0⟩

/-! #### struct type 64 -/
structure S64 where
 f0 : Int
 f1 : (List Int)
def z64 : S64 := ⟨(0 : Int), ([] : List Int)⟩
def k64 : Kd S64 := Kd.iso (Kd.pair (Kd.int .i64) (Kd.slice 3 (Kd.int .i64))) (fun x : S64 => (x.f0, x.f1))
theorem k64_open {w : World} {x : S64} {cs : List Value} (h : k64.K w x cs) : ∃ A1 c1, cs = [.int .i64 x.f0, .slice A1 x.f1.length c1] ∧ x.f1.length ≤ c1 ∧ (Kd.int .i64).C w A1 x.f1.length x.f1 := by
 obtain ⟨_, _, rfl, rfl, ⟨A1, c1, rfl, l1, g1⟩⟩ := h
 exact ⟨A1, c1, rfl, l1, g1⟩
theorem k64_mkM (w : World) (base : Nat) (ok : Nat → Prop) (x : S64) {v1 : Value} (g1 : (Kd.int .i64).R 3 w base ok v1 x.f1) : k64.M w base ok x [.int .i64 x.f0, v1] := ⟨[.int .i64 x.f0], [v1], rfl, rfl, ⟨v1, rfl, g1⟩⟩
def rd_T64 (xs : List S64) (i : Int) : S64 := xs.getD i.toNat z64
theorem at_T64 {w : World} {A : Option Addr} {n : Nat} {xs : List S64} (h : Kd.C k64 w A n xs) (i : Int) (h0 : 0 ≤ i) (h1 : i < n) : ∃ ad A1 c1, A = some ad ∧ w.cell? (ad.add (i.toNat * 2)) = some (.int .i64 (rd_T64 xs i).f0) ∧ w.cell? ⟨(ad.add (i.toNat * 2)).block, (ad.add (i.toNat * 2)).off + 1, none⟩ = some (.slice A1 (rd_T64 xs i).f1.length c1) ∧ (rd_T64 xs i).f1.length ≤ c1 ∧ (Kd.int .i64).C w A1 (rd_T64 xs i).f1.length (rd_T64 xs i).f1 := by
 obtain ⟨ad, c, e, _, hK, hc0⟩ := Kd.C_get h z64 i h0 h1
 have hc : ∀ j u, c[j]? = some u → w.cell? (ad.add (i.toNat * 2 + j)) = some u := hc0
 obtain ⟨A1, c1, rfl, l1, g1⟩ := k64_open hK
 exact ⟨ad, A1, c1, e, hc 0 _ rfl, by rw [← add_field _ _ 1 (by omega)]; exact hc 1 _ rfl, l1, g1⟩

/-! #### struct type 44 -/
structure S44 where
 f0 : ByteArray
 f1 : (List S64)
def z44 : S44 := ⟨(⟨#[]⟩ : ByteArray), ([] : List S64)⟩
def k44 : Kd S44 := Kd.iso (Kd.pair Kd.string (Kd.slice 64 k64)) (fun x : S44 => (x.f0, x.f1))
theorem k44_open {w : World} {x : S44} {cs : List Value} (h : k44.K w x cs) : ∃ A1 c1, cs = [.string x.f0, .slice A1 x.f1.length c1] ∧ x.f1.length ≤ c1 ∧ k64.C w A1 x.f1.length x.f1 := by
 obtain ⟨_, _, rfl, rfl, ⟨A1, c1, rfl, l1, g1⟩⟩ := h
 exact ⟨A1, c1, rfl, l1, g1⟩
theorem k44_openM {w : World} {base : Nat} {ok : Nat → Prop} {x : S44} {cs : List Value} (h : k44.M w base ok x cs) : ∃ v1, cs = [.string x.f0, v1] ∧ k64.R 64 w base ok v1 x.f1 := by
 obtain ⟨_, _, rfl, rfl, ⟨v1, rfl, g1⟩⟩ := h
 exact ⟨v1, rfl, g1⟩
theorem k44_mkM (w : World) (base : Nat) (ok : Nat → Prop) (x : S44) {v1 : Value} (g1 : k64.R 64 w base ok v1 x.f1) : k44.M w base ok x [.string x.f0, v1] := ⟨[.string x.f0], [v1], rfl, rfl, ⟨v1, rfl, g1⟩⟩
def rd_T44 (xs : List S44) (i : Int) : S44 := xs.getD i.toNat z44
theorem at_T44 {w : World} {A : Option Addr} {n : Nat} {xs : List S44} (h : Kd.C k44 w A n xs) (i : Int) (h0 : 0 ≤ i) (h1 : i < n) : ∃ ad A1 c1, A = some ad ∧ w.cell? (ad.add (i.toNat * 2)) = some (.string (rd_T44 xs i).f0) ∧ w.cell? ⟨(ad.add (i.toNat * 2)).block, (ad.add (i.toNat * 2)).off + 1, none⟩ = some (.slice A1 (rd_T44 xs i).f1.length c1) ∧ (rd_T44 xs i).f1.length ≤ c1 ∧ k64.C w A1 (rd_T44 xs i).f1.length (rd_T44 xs i).f1 := by
 obtain ⟨ad, c, e, _, hK, hc0⟩ := Kd.C_get h z44 i h0 h1
 have hc : ∀ j u, c[j]? = some u → w.cell? (ad.add (i.toNat * 2 + j)) = some u := hc0
 obtain ⟨A1, c1, rfl, l1, g1⟩ := k44_open hK
 exact ⟨ad, A1, c1, e, hc 0 _ rfl, by rw [← add_field _ _ 1 (by omega)]; exact hc 1 _ rfl, l1, g1⟩

end Go.Proofs.Ytfhcolhiolgikaa.T
/- Written by hp.py, this session's own program, out of the translation of this seat: Lean functions for the Go functions, and the proof that each call comes to what its Lean function says. -/
namespace Go.Proofs.Ytfhcolhiolgikaa.T
open Go.RowKit Go.Proofs.YtfhcolhiolgikaaW.PrintWords Go.Proofs.YtfhcolhiolgikaaW.PrintLast Go.Proofs.YtfhcolhiolgikaaW.PrintMore
attribute [local go_sem] max2_int min2_int max_two min_two max_three min_three max_four min_four   -- for this text's walks alone
set_option linter.unusedVariables false
set_option linter.unusedSimpArgs false

/-! ### vint_may: function 31 -/
def vint_may.f (a0 : Int) : Option (Bool) := if a0 ≥ 0 then (some (decide (a0 ≤ 34359738367))) else (some false)
set_option maxHeartbeats 8000000 in
set_option maxRecDepth 100000 in
theorem vint_may.calls (a0 : Int) (r : Bool) (w : World) (h : vint_may.f a0 = some r) :
  Calls Try.prog 31 #[.int .i64 a0] w fun e w' => e = .returned (.bool r) ∧ Drawn0 w w' := by
 have H : (if a0 ≥ 0 then (some (decide (a0 ≤ 34359738367))) else (some false)) = some r := h
 clear h
 by_cases c2 : a0 ≥ 0
 ·
  rw [if_pos c2] at H
  have c2b0 : decide (0 ≤ a0) = true := decide_eq_true c2
  clear c2
  obtain rfl := Option.some.inj H
  go_enter Try.func31, Try.ntmps31
  go_wp2
  go_ret
  exact ⟨by first | rfl | (simp; done) | (simp [*]; done), by repeat (first | exact Drawn0.refl _ | apply Drawn0.step)⟩
 ·
  rw [if_neg c2] at H
  have c2b0 : decide (0 ≤ a0) = false := decide_eq_false c2
  clear c2
  obtain rfl := Option.some.inj H
  go_enter Try.func31, Try.ntmps31
  go_wp2
  go_ret
  exact ⟨by first | rfl | (simp; done) | (simp [*]; done), by repeat (first | exact Drawn0.refl _ | apply Drawn0.step)⟩

/-! ### vint_Get: function 45 -/
mutual
def vint_Get.j0 : Nat → List Int → Int → Bool → Option (Int × Int × Int)
 | 0, _, _, _ => none
 | k + 1, x0, x1, x17 => if x17 = true then (some (0, 0, 1)) else (vint_Get.l0 k x0 x1 0 (mn 5 (wrap64 ((x0.length : Int) - x1))) 0)
def vint_Get.l0 : Nat → List Int → Int → Int → Int → Int → Option (Int × Int × Int)
 | 0, _, _, _, _, _ => none
 | k + 1, x0, x1, x7, x22, x23 => if x23 < x22 then (if 0 ≤ (wrap64 (x1 + x23)) then (if (wrap64 (x1 + x23)) < (x0.length : Int) then (if 0 ≤ (wrap64 (7 * x23)) then (if (rd x0 (wrap64 (x1 + x23))) ≥ 128 then (vint_Get.l0 k x0 x1 (Go.bits .or .i64 x7 (shl .i64 (wrap64 (Int.tmod (rd x0 (wrap64 (x1 + x23))) 128)) (wrap64 (7 * x23)))) x22 (wrap64 (x23 + 1))) else (if (rd x0 (wrap64 (x1 + x23))) = 0 then (if x23 > 0 then (some (0, 0, 5)) else (some (Go.bits .or .i64 x7 (shl .i64 (wrap64 (Int.tmod (rd x0 (wrap64 (x1 + x23))) 128)) (wrap64 (7 * x23))), wrap64 ((wrap64 (x1 + x23)) + 1), 0))) else (some (Go.bits .or .i64 x7 (shl .i64 (wrap64 (Int.tmod (rd x0 (wrap64 (x1 + x23))) 128)) (wrap64 (7 * x23))), wrap64 ((wrap64 (x1 + x23)) + 1), 0)))) else (none)) else (none)) else (none)) else (some (0, 0, 5))
end
def vint_Get.f (k : Nat) (l0 : List Int) (a1 : Int) : Option (Int × Int × Int) := if a1 < 0 then (vint_Get.j0 k l0 a1 true) else (vint_Get.j0 k l0 a1 (decide (a1 > (l0.length : Int))))
set_option maxHeartbeats 8000000 in
set_option maxRecDepth 100000 in
theorem vint_Get.calls (k : Nat) (A0 : Option Addr) (c0 : Nat) (l0 : List Int) (a1 : Int) (r1 : Int) (r2 : Int) (r3 : Int) (w : World) (hr0 : Kd.C (Kd.int .u8) w A0 l0.length l0) (hc0 : l0.length ≤ c0) (h : vint_Get.f k l0 a1 = some (r1, r2, r3)) :
  Calls Try.prog 45 #[.slice A0 l0.length c0, .int .i64 a1] w fun e w' => e = .returned (.tuple #[.int .i64 r1, .int .i64 r2, .int .i64 r3]) ∧ Below w.heap.size w w' := by
 have HR0 := Aside0.mk hr0
 have HC0 := Aside0.mk hc0
 clear hr0 hc0
 have HB := Aside0.mk (Below.refl w.heap.size w)
 have H : (if a1 < 0 then (vint_Get.j0 k l0 a1 true) else (vint_Get.j0 k l0 a1 (decide (a1 > (l0.length : Int))))) = some (r1, r2, r3) := h
 clear h
 have HC3 := Aside0.mk H
 clear H
 go_enter Try.func45, Try.ntmps45
 go_upto_region 1 with (fail)
 go_cut [17] (fun v17 wc => ∃ (kq : Nat) (x17_2 : Bool), v17 = .bool x17_2 ∧ Aside0 (vint_Get.j0 kq l0 a1 x17_2 = some (r1, r2, r3)) ∧ Aside0 (kq ≤ k) ∧ Aside0 (Below w.heap.size w wc))
 case first =>
  have H := HC3.out
  clear HC3
  by_cases c4 : a1 < 0
  ·
   rw [if_pos c4] at H
   have c4b0 : decide (a1 < 0) = true := decide_eq_true c4
   clear c4
   (first | rw [c4b0] | (simp only [i64_w, i32_w]; rw [c4b0]) | skip)
   have H' := Aside0.mk H
   clear H
   go_wp2
   go_meet
   case rel => exact ⟨_, (true), (by first | rfl | (simp; done) | (simp [*]; done)), H', ⟨by first | omega | exact Nat.le_refl _⟩, ⟨by repeat (first | (with_reducible first | exact HB.out | apply below_alloc | apply pw_below_drewN | apply below_drew1) | exact HB.out)⟩⟩
  ·
   rw [if_neg c4] at H
   have c4b0 : decide (a1 < 0) = false := decide_eq_false c4
   clear c4
   (first | rw [c4b0] | (simp only [i64_w, i32_w]; rw [c4b0]) | skip)
   have H' := Aside0.mk H
   clear H
   go_wp2
   go_meet
   case rel => exact ⟨_, (decide (a1 > (l0.length : Int))), (by first | rfl | (simp; done) | (simp [*]; done)), H', ⟨by first | omega | exact Nat.le_refl _⟩, ⟨by repeat (first | (with_reducible first | exact HB.out | apply below_alloc | apply pw_below_drewN | apply below_drew1) | exact HB.out)⟩⟩
 case rest =>
  clear HC3
  try clear p2
  try clear c4
  try clear c4b0
  obtain ⟨kq, x17_2, rfl, HA, HJ2, HB⟩ := hcut
  cases kq with
  | zero => exact absurd HA.out (by simp [vint_Get.j0])
  | succ kj2 =>
   have H := HA.out
   clear HA
   simp only [vint_Get.j0] at H
   by_cases c5 : x17_2 = true
   ·
    subst c5
    have H1 : (some (0, 0, 1)) = some (r1, r2, r3) := by rw [if_pos rfl] at H; exact H
    clear H
    have H := H1
    clear H1
    simp only [Option.some.injEq, Prod.mk.injEq] at H
    obtain ⟨rfl, rfl, rfl⟩ := H
    go_wp2
    go_ret3
    exact ⟨by first | rfl | (simp [errW_none, errW_some] <;> rfl) | (simp [*, errW_none, errW_some] <;> rfl), by repeat (first | (with_reducible first | exact HB.out | apply below_alloc | apply pw_below_drewN | apply below_drew1) | exact HB.out)⟩
   ·
    replace c5 := Bool.eq_false_iff.mpr c5
    subst c5
    have H1 : (vint_Get.l0 kj2 l0 a1 0 (mn 5 (wrap64 ((l0.length : Int) - a1))) 0) = some (r1, r2, r3) := by rw [if_neg (show ¬ (false = true) by decide)] at H; exact H
    clear H
    have H := H1
    clear H1
    obtain ⟨ji6, hji6⟩ : ∃ j_ : Int, (mn 5 (wrap64 ((l0.length : Int) - a1))) = j_ := ⟨_, rfl⟩
    replace H : (vint_Get.l0 kj2 l0 a1 0 ji6 0) = some (r1, r2, r3) := by first | (rw [hji6] at H; exact H) | (simp only [hji6] at H ⊢; exact H)
    have hji6_ : (if (wrap64 ((l0.length : Int) - a1)) < 5 then (wrap64 ((l0.length : Int) - a1)) else 5) = ji6 := hji6
    have H' := Aside0.mk H
    clear H
    go_wp2
    go_loopg [7, 23] kj2 (fun kq v7 v23 w' => ∃ (x7_2 : Int) (x23_2 : Int), v7 = .int .i64 x7_2 ∧ v23 = .int .i64 x23_2 ∧ Aside0 (vint_Get.l0 kq l0 a1 x7_2 ji6 x23_2 = some (r1, r2, r3)) ∧ Aside0 (kq ≤ kj2) ∧ Aside0 (Below w.heap.size w w'))
    case atStart => exact ⟨(0), (0), (by first | rfl | (simp; done) | (simp [*]; done)), (by first | rfl | (simp; done) | (simp [*]; done)), H', ⟨Nat.le_refl _⟩, ⟨by repeat (first | (with_reducible first | exact HB.out | apply below_alloc | apply pw_below_drewN | apply below_drew1) | exact HB.out)⟩⟩
    case round =>
     clear H'
     try clear p2
     try clear c4
     try clear c4b0
     try clear c5
     try clear p6
     try clear p2
     obtain ⟨x7_2, x23_2, rfl, rfl, HA, HK2, HB⟩ := hrel
     cases gk with
     | zero => exact absurd HA.out (by simp [vint_Get.l0])
     | succ k2 =>
      have H := HA.out
      clear HA
      simp only [vint_Get.l0] at H
      by_cases c7 : x23_2 < ji6
      ·
       rw [if_pos c7] at H
       have c7b0 : decide (x23_2 < ji6) = true := decide_eq_true c7
       clear c7
       obtain ⟨ji8, hji8⟩ : ∃ j_ : Int, (wrap64 (a1 + x23_2)) = j_ := ⟨_, rfl⟩
       replace H : (if 0 ≤ (ji8) then (if (ji8) < (l0.length : Int) then (if 0 ≤ (wrap64 (7 * x23_2)) then (if (rd l0 (ji8)) ≥ 128 then (vint_Get.l0 k2 l0 a1 (Go.bits .or .i64 x7_2 (shl .i64 (wrap64 (Int.tmod (rd l0 (ji8)) 128)) (wrap64 (7 * x23_2)))) ji6 (wrap64 (x23_2 + 1))) else (if (rd l0 (ji8)) = 0 then (if x23_2 > 0 then (some (0, 0, 5)) else (some (Go.bits .or .i64 x7_2 (shl .i64 (wrap64 (Int.tmod (rd l0 (ji8)) 128)) (wrap64 (7 * x23_2))), wrap64 ((ji8) + 1), 0))) else (some (Go.bits .or .i64 x7_2 (shl .i64 (wrap64 (Int.tmod (rd l0 (ji8)) 128)) (wrap64 (7 * x23_2))), wrap64 ((ji8) + 1), 0)))) else (none)) else (none)) else (none)) = some (r1, r2, r3) := by first | (rw [hji8] at H; exact H) | (simp only [hji8] at H ⊢; exact H)
       have hji8w : (IntKind.i64.wrap (a1 + x23_2)) = ji8 := (i64_w _).trans hji8
       by_cases c9 : 0 ≤ (ji8)
       ·
        rw [if_pos c9] at H
        have c9b0 : decide (0 ≤ (ji8)) = true := decide_eq_true c9
        clear c9
        by_cases c10 : (ji8) < (l0.length : Int)
        ·
         rw [if_pos c10] at H
         have c10b0 : decide ((ji8) < (l0.length : Int)) = true := decide_eq_true c10
         clear c10
         obtain ⟨ji11, hji11⟩ : ∃ j_ : Int, (wrap64 (7 * x23_2)) = j_ := ⟨_, rfl⟩
         replace H : (if 0 ≤ (ji11) then (if (rd l0 (ji8)) ≥ 128 then (vint_Get.l0 k2 l0 a1 (Go.bits .or .i64 x7_2 (shl .i64 (wrap64 (Int.tmod (rd l0 (ji8)) 128)) (ji11))) ji6 (wrap64 (x23_2 + 1))) else (if (rd l0 (ji8)) = 0 then (if x23_2 > 0 then (some (0, 0, 5)) else (some (Go.bits .or .i64 x7_2 (shl .i64 (wrap64 (Int.tmod (rd l0 (ji8)) 128)) (ji11)), wrap64 ((ji8) + 1), 0))) else (some (Go.bits .or .i64 x7_2 (shl .i64 (wrap64 (Int.tmod (rd l0 (ji8)) 128)) (ji11)), wrap64 ((ji8) + 1), 0)))) else (none)) = some (r1, r2, r3) := by first | (rw [hji11] at H; exact H) | (simp only [hji11] at H ⊢; exact H)
         have hji11w : (IntKind.i64.wrap (7 * x23_2)) = ji11 := (i64_w _).trans hji11
         by_cases c12 : 0 ≤ (ji11)
         ·
          rw [if_pos c12] at H
          have c12b0 := eq_true c12
          have c12b1 : decide (0 ≤ (ji11)) = true := decide_eq_true c12
          clear c12
          obtain ⟨ji13, hji13⟩ : ∃ j_ : Int, (shl .i64 (wrap64 (Int.tmod (rd l0 (ji8)) 128)) (ji11)) = j_ := ⟨_, rfl⟩
          replace H : (if (rd l0 (ji8)) ≥ 128 then (vint_Get.l0 k2 l0 a1 (Go.bits .or .i64 x7_2 (ji13)) ji6 (wrap64 (x23_2 + 1))) else (if (rd l0 (ji8)) = 0 then (if x23_2 > 0 then (some (0, 0, 5)) else (some (Go.bits .or .i64 x7_2 (ji13), wrap64 ((ji8) + 1), 0))) else (some (Go.bits .or .i64 x7_2 (ji13), wrap64 ((ji8) + 1), 0)))) = some (r1, r2, r3) := by first | (rw [hji13] at H; exact H) | (simp only [hji13] at H ⊢; exact H)
          have hji13_ : (IntKind.i64.wrap ((wrap64 (Int.tmod (rd l0 (ji8)) 128)) * 2 ^ min (ji11).toNat 64)) = ji13 := hji13
          have hji13z : (ji11) ≤ 64 → (IntKind.i64.wrap ((wrap64 (Int.tmod (rd l0 (ji8)) 128)) * 2 ^ (ji11).toNat)) = ji13 := shl_small hji13
          have hji13y : (wrap64 ((wrap64 (Int.tmod (rd l0 (ji8)) 128)) * 2 ^ min (ji11).toNat 64)) = ji13 := (i64_w _).symm.trans hji13_
          have hji13x : (ji11) ≤ 64 → (wrap64 ((wrap64 (Int.tmod (rd l0 (ji8)) 128)) * 2 ^ (ji11).toNat)) = ji13 := fun h_ => (i64_w _).symm.trans (hji13z h_)
          by_cases c14 : (rd l0 (ji8)) ≥ 128
          ·
           rw [if_pos c14] at H
           have c14b0 : decide (128 ≤ (rd l0 (ji8))) = true := decide_eq_true c14
           clear c14
           have H' := Aside0.mk H
           clear H
           have p101 : 0 ≤ ((ji8) : Int) := of_decide_eq_true (by first | (with_reducible assumption) | assumption)
           have q101 : (ji8) < (l0.length : Int) := of_decide_eq_true (by first | (with_reducible assumption) | assumption)
           obtain ⟨ad101, e101, hx101_0⟩ := Kd.at_int HR0.out (ji8) p101 q101
           cases e101
           replace hx101_0 := (HB.out.cell (World.block_lt_of_cell? w _ hx101_0)).trans hx101_0
           replace p101 := eq_true p101
           replace q101 := eq_true q101
           go_wp2
           go_roundg k2
           case measure => have := HJ2.out; have := HK2.out; omega
           case rel => exact ⟨(Go.bits .or .i64 x7_2 (ji13)), (wrap64 (x23_2 + 1)), (by first | rfl | (simp; done) | (simp only [← hji13] <;> (first | rfl | simp)) | (simp [*]; done)), (by first | rfl | (simp; done) | (simp [*]; done)), H', ⟨by have := HJ2.out; have := HK2.out; omega⟩, ⟨by repeat (first | (with_reducible first | exact HB.out | apply below_alloc | apply pw_below_drewN | apply below_drew1) | exact HB.out)⟩⟩
          ·
           rw [if_neg c14] at H
           have c14b0 : decide (128 ≤ (rd l0 (ji8))) = false := decide_eq_false c14
           clear c14
           by_cases c15 : (rd l0 (ji8)) = 0
           ·
            rw [if_pos c15] at H
            have c15b0 : ((rd l0 (ji8)) == 0) = true := beq_iff_eq.mpr c15
            have c15b1 : ((rd l0 (ji8)) != 0) = false := bne_eq_false_iff_eq.mpr c15
            clear c15
            by_cases c16 : x23_2 > 0
            ·
             rw [if_pos c16] at H
             have c16b0 : decide (0 < x23_2) = true := decide_eq_true c16
             clear c16
             simp only [Option.some.injEq, Prod.mk.injEq] at H
             obtain ⟨rfl, rfl, rfl⟩ := H
             have p101 : 0 ≤ ((ji8) : Int) := of_decide_eq_true (by first | (with_reducible assumption) | assumption)
             have q101 : (ji8) < (l0.length : Int) := of_decide_eq_true (by first | (with_reducible assumption) | assumption)
             obtain ⟨ad101, e101, hx101_0⟩ := Kd.at_int HR0.out (ji8) p101 q101
             cases e101
             replace hx101_0 := (HB.out.cell (World.block_lt_of_cell? w _ hx101_0)).trans hx101_0
             replace p101 := eq_true p101
             replace q101 := eq_true q101
             go_wp2
             go_ret3
             exact ⟨by first | rfl | (simp [errW_none, errW_some] <;> rfl) | (simp only [← hji6, ← hji8, ← hji11, ← hji13]; first | rfl | (simp [errW_none, errW_some] <;> rfl)) | (simp [*, errW_none, errW_some] <;> rfl), by repeat (first | (with_reducible first | exact HB.out | apply below_alloc | apply pw_below_drewN | apply below_drew1) | exact HB.out)⟩
            ·
             rw [if_neg c16] at H
             have c16b0 : decide (0 < x23_2) = false := decide_eq_false c16
             clear c16
             simp only [Option.some.injEq, Prod.mk.injEq] at H
             obtain ⟨rfl, rfl, rfl⟩ := H
             have p101 : 0 ≤ ((ji8) : Int) := of_decide_eq_true (by first | (with_reducible assumption) | assumption)
             have q101 : (ji8) < (l0.length : Int) := of_decide_eq_true (by first | (with_reducible assumption) | assumption)
             obtain ⟨ad101, e101, hx101_0⟩ := Kd.at_int HR0.out (ji8) p101 q101
             cases e101
             replace hx101_0 := (HB.out.cell (World.block_lt_of_cell? w _ hx101_0)).trans hx101_0
             replace p101 := eq_true p101
             replace q101 := eq_true q101
             go_wp2
             go_ret3
             exact ⟨by first | rfl | (simp [errW_none, errW_some] <;> rfl) | (simp only [← hji6, ← hji8, ← hji11, ← hji13]; first | rfl | (simp [errW_none, errW_some] <;> rfl)) | (simp [*, errW_none, errW_some] <;> rfl), by repeat (first | (with_reducible first | exact HB.out | apply below_alloc | apply pw_below_drewN | apply below_drew1) | exact HB.out)⟩
           ·
            rw [if_neg c15] at H
            have c15b0 : ((rd l0 (ji8)) == 0) = false := beq_eq_false_iff_ne.mpr c15
            have c15b1 : ((rd l0 (ji8)) != 0) = true := bne_iff_ne.mpr c15
            simp only [Option.some.injEq, Prod.mk.injEq] at H
            obtain ⟨rfl, rfl, rfl⟩ := H
            have p101 : 0 ≤ ((ji8) : Int) := of_decide_eq_true (by first | (with_reducible assumption) | assumption)
            have q101 : (ji8) < (l0.length : Int) := of_decide_eq_true (by first | (with_reducible assumption) | assumption)
            obtain ⟨ad101, e101, hx101_0⟩ := Kd.at_int HR0.out (ji8) p101 q101
            cases e101
            replace hx101_0 := (HB.out.cell (World.block_lt_of_cell? w _ hx101_0)).trans hx101_0
            replace p101 := eq_true p101
            replace q101 := eq_true q101
            go_wp2
            go_ret3
            exact ⟨by first | rfl | (simp [errW_none, errW_some] <;> rfl) | (simp only [← hji6, ← hji8, ← hji11, ← hji13]; first | rfl | (simp [errW_none, errW_some] <;> rfl)) | (simp [*, errW_none, errW_some] <;> rfl), by repeat (first | (with_reducible first | exact HB.out | apply below_alloc | apply pw_below_drewN | apply below_drew1) | exact HB.out)⟩
         ·
          rw [if_neg c12] at H
          exact absurd H (by simp)
        ·
         rw [if_neg c10] at H
         exact absurd H (by simp)
       ·
        rw [if_neg c9] at H
        exact absurd H (by simp)
      ·
       rw [if_neg c7] at H
       have c7b0 : decide (x23_2 < ji6) = false := decide_eq_false c7
       clear c7
       simp only [Option.some.injEq, Prod.mk.injEq] at H
       obtain ⟨rfl, rfl, rfl⟩ := H
       go_wp2
       go_ret3
       exact ⟨by first | rfl | (simp [errW_none, errW_some] <;> rfl) | (simp only [← hji6]; first | rfl | (simp [errW_none, errW_some] <;> rfl)) | (simp [*, errW_none, errW_some] <;> rfl), by repeat (first | (with_reducible first | exact HB.out | apply below_alloc | apply pw_below_drewN | apply below_drew1) | exact HB.out)⟩

/-! ### vint_Read: function 74 -/
def vint_Read.l0 : Nat → List Int → Int → List Int → Int → Int → Int → Option (List Int × Int × Int)
 | 0, _, _, _, _, _, _ => none
 | k + 1, x0, x1, x9, x10, x26, x27 => if x27 < x26 then ((vint_Get.f k x0 x1).bind fun bt105 => (if bt105.2.2 = 0 then ((vint_may.f (wrap64 (x10 + (wrap64 (bt105.1 + 1))))).bind fun t108 => (if t108 = true then (if x9.length < 17592186044416 then (vint_Read.l0 k x0 bt105.2.1 (x9 ++ [wrap64 (x10 + (wrap64 (bt105.1 + 1)))]) (wrap64 (x10 + (wrap64 (bt105.1 + 1)))) x26 (wrap64 (x27 + 1))) else (none)) else (some (([] : List Int), 0, 5)))) else (some (([] : List Int), 0, 5)))) else (some (x9, x1, 0))
def vint_Read.f (k : Nat) (l0 : List Int) (a1 : Int) : Option (List Int × Int × Int) := (vint_Get.f k l0 a1).bind fun bt102 => (if bt102.2.2 = 0 then (if bt102.1 > 2000 then (some (([] : List Int), 0, 5)) else (vint_Read.l0 k l0 bt102.2.1 ([] : List Int) (-1) bt102.1 0)) else (some (([] : List Int), 0, bt102.2.2)))
set_option maxHeartbeats 8000000 in
set_option maxRecDepth 100000 in
theorem vint_Read.calls (k : Nat) (A0 : Option Addr) (c0 : Nat) (l0 : List Int) (a1 : Int) (r1 : List Int) (r2 : Int) (r3 : Int) (w : World) (hr0 : Kd.C (Kd.int .u8) w A0 l0.length l0) (hc0 : l0.length ≤ c0) (h : vint_Read.f k l0 a1 = some (r1, r2, r3)) :
  Calls Try.prog 74 #[.slice A0 l0.length c0, .int .i64 a1] w fun e w' => ∃ v0_ : Value, e = .returned (.tuple #[v0_, .int .i64 r2, .int .i64 r3]) ∧ Kd.R (Kd.int .i64) 3 w' w.heap.size (fun _ => True) v0_ r1 ∧ Below w.heap.size w w' := by
 have HR0 := Aside0.mk hr0
 have HC0 := Aside0.mk hc0
 clear hr0 hc0
 have HB := Aside0.mk (Below.refl w.heap.size w)
 have H : ((vint_Get.f k l0 a1).bind fun bt102 => (if bt102.2.2 = 0 then (if bt102.1 > 2000 then (some (([] : List Int), 0, 5)) else (vint_Read.l0 k l0 bt102.2.1 ([] : List Int) (-1) bt102.1 0)) else (some (([] : List Int), 0, bt102.2.2)))) = some (r1, r2, r3) := h
 clear h
 replace H := Option.bind_eq_some_iff.mp H
 obtain ⟨⟨t102, t103, t104⟩, A30, H⟩ := H
 replace H : (if t104 = 0 then (if t102 > 2000 then (some (([] : List Int), 0, 5)) else (vint_Read.l0 k l0 t103 ([] : List Int) (-1) t102 0)) else (some (([] : List Int), 0, t104))) = some (r1, r2, r3) := H
 have A3 := Aside0.mk A30
 clear A30
 by_cases c4 : t104 = 0
 ·
  rw [if_pos c4] at H
  have c4b0 : (t104 == 0) = true := beq_iff_eq.mpr c4
  have c4b1 : (t104 != 0) = false := bne_eq_false_iff_eq.mpr c4
  clear c4
  by_cases c5 : t102 > 2000
  ·
   rw [if_pos c5] at H
   have c5b0 : decide (2000 < t102) = true := decide_eq_true c5
   clear c5
   simp only [Option.some.injEq, Prod.mk.injEq] at H
   obtain ⟨rfl, rfl, rfl⟩ := H
   go_enter Try.func74, Try.ntmps74
   go_wp2_with (first | ((with_reducible refine gate_callee (f := 45) rfl ?_); refine goesL_ (some 17) rfl rfl Try.func45 (by kernel_rfl) rfl #[.slice A0 l0.length c0, .int .i64 a1] rfl (by (try simp only [List.map_toArray, List.map_cons, List.map_nil]); first | done | rfl | (simp only [List.length_drop, List.length_take]; rfl)) ?_; (with_reducible refine (vint_Get.calls k _ _ l0 a1 t102 t103 t104 _ ?side1 ?side2 A3.out).mono ?_); (case side1 => repeat (first | exact HR0.out | (with_reducible refine Kd.C_alloc ?_ _) | (with_reducible refine Kd.C_drewN ?_ _) | (with_reducible refine Kd.C_drew ?_))); (case side2 => exact HC0.out); rintro e w6 ⟨rfl, hb⟩; refine ⟨_, rfl, ?_⟩; have n0_ := Aside0.mk (below_step (by repeat (first | (with_reducible first | exact HB.out | apply below_alloc | apply pw_below_drewN | apply below_drew1) | exact HB.out)) hb); clear HB; have HB := n0_; clear n0_; (try clear hb); (try clear hb2); (try clear hk); (try clear hi)))
   go_ret3
   exact ⟨_, by first | rfl | (simp [errW_none, errW_some] <;> rfl) | (simp [*, errW_none, errW_some] <;> rfl), by first | exact Kd.R_nil _ _ _ _ _ | exact Kd.N_nil _ _ _ _ _ | exact Kd.V_nil _ _ _ _ _ | exact Kd.Q_nil _ _ _ _ _ | exact Kd.S_nil _ _ _ _ _, by repeat (first | (with_reducible first | exact HB.out | apply below_alloc | apply pw_below_drewN | apply below_drew1) | exact HB.out)⟩
  ·
   rw [if_neg c5] at H
   have c5b0 : decide (2000 < t102) = false := decide_eq_false c5
   clear c5
   have H' := Aside0.mk H
   clear H
   go_enter Try.func74, Try.ntmps74
   go_wp2_with (first | ((with_reducible refine gate_callee (f := 45) rfl ?_); refine goesL_ (some 17) rfl rfl Try.func45 (by kernel_rfl) rfl #[.slice A0 l0.length c0, .int .i64 a1] rfl (by (try simp only [List.map_toArray, List.map_cons, List.map_nil]); first | done | rfl | (simp only [List.length_drop, List.length_take]; rfl)) ?_; (with_reducible refine (vint_Get.calls k _ _ l0 a1 t102 t103 t104 _ ?side1 ?side2 A3.out).mono ?_); (case side1 => repeat (first | exact HR0.out | (with_reducible refine Kd.C_alloc ?_ _) | (with_reducible refine Kd.C_drewN ?_ _) | (with_reducible refine Kd.C_drew ?_))); (case side2 => exact HC0.out); rintro e w7 ⟨rfl, hb⟩; refine ⟨_, rfl, ?_⟩; have n0_ := Aside0.mk (below_step (by repeat (first | (with_reducible first | exact HB.out | apply below_alloc | apply pw_below_drewN | apply below_drew1) | exact HB.out)) hb); clear HB; have HB := n0_; clear n0_; (try clear hb); (try clear hb2); (try clear hk); (try clear hi)))
   go_loopg [1, 9, 10, 27] k (fun kq v1 v9 v10 v27 w' => ∃ (x1_1 : Int) (x9_1 : List Int) (x10_1 : Int) (x27_1 : Int), v1 = .int .i64 x1_1 ∧ v10 = .int .i64 x10_1 ∧ v27 = .int .i64 x27_1 ∧ Aside0 (vint_Read.l0 kq l0 x1_1 x9_1 x10_1 t102 x27_1 = some (r1, r2, r3)) ∧ Aside0 (kq ≤ k) ∧ Aside0 (Kd.R (Kd.int .i64) 3 w' w.heap.size (fun _ => True) v9 x9_1) ∧ Aside0 (Below w.heap.size w w'))
   case atStart => exact ⟨(t103), (([] : List Int)), ((-1)), (0), (by first | rfl | (simp; done) | (simp [*]; done)), (by first | rfl | (simp; done) | (simp [*]; done)), (by first | rfl | (simp; done) | (simp [*]; done)), H', ⟨Nat.le_refl _⟩, ⟨by first | exact Kd.R_nil _ _ _ _ _ | exact Kd.N_nil _ _ _ _ _ | exact Kd.V_nil _ _ _ _ _ | exact Kd.Q_nil _ _ _ _ _ | exact Kd.S_nil _ _ _ _ _⟩, ⟨by repeat (first | (with_reducible first | exact HB.out | apply below_alloc | apply pw_below_drewN | apply below_drew1) | exact HB.out)⟩⟩
   case round =>
    clear H'
    try clear p2
    try clear c4
    try clear c4b0
    try clear c4b1
    try clear c5
    try clear c5b0
    try clear c7
    obtain ⟨x1_1, x9_1, x10_1, x27_1, rfl, rfl, rfl, HA, HK1, HO_9, HB⟩ := hrel
    cases gk with
    | zero => exact absurd HA.out (by simp [vint_Read.l0])
    | succ k1 =>
     have H := HA.out
     clear HA
     simp only [vint_Read.l0] at H
     by_cases c8 : x27_1 < t102
     ·
      rw [if_pos c8] at H
      have c8b0 : decide (x27_1 < t102) = true := decide_eq_true c8
      clear c8
      replace H := Option.bind_eq_some_iff.mp H
      obtain ⟨⟨t105, t106, t107⟩, A90, H⟩ := H
      replace H : (if t107 = 0 then ((vint_may.f (wrap64 (x10_1 + (wrap64 (t105 + 1))))).bind fun t108 => (if t108 = true then (if x9_1.length < 17592186044416 then (vint_Read.l0 k1 l0 t106 (x9_1 ++ [wrap64 (x10_1 + (wrap64 (t105 + 1)))]) (wrap64 (x10_1 + (wrap64 (t105 + 1)))) t102 (wrap64 (x27_1 + 1))) else (none)) else (some (([] : List Int), 0, 5)))) else (some (([] : List Int), 0, 5))) = some (r1, r2, r3) := H
      have A9 := Aside0.mk A90
      clear A90
      by_cases c10 : t107 = 0
      ·
       rw [if_pos c10] at H
       have c10b0 : (t107 == 0) = true := beq_iff_eq.mpr c10
       have c10b1 : (t107 != 0) = false := bne_eq_false_iff_eq.mpr c10
       clear c10
       replace H := Option.bind_eq_some_iff.mp H
       obtain ⟨t108, A110, H⟩ := H
       replace H : (if t108 = true then (if x9_1.length < 17592186044416 then (vint_Read.l0 k1 l0 t106 (x9_1 ++ [wrap64 (x10_1 + (wrap64 (t105 + 1)))]) (wrap64 (x10_1 + (wrap64 (t105 + 1)))) t102 (wrap64 (x27_1 + 1))) else (none)) else (some (([] : List Int), 0, 5))) = some (r1, r2, r3) := H
       have A11 := Aside0.mk A110
       clear A110
       by_cases c12 : t108 = true
       ·
        subst c12
        have H1 : (if x9_1.length < 17592186044416 then (vint_Read.l0 k1 l0 t106 (x9_1 ++ [wrap64 (x10_1 + (wrap64 (t105 + 1)))]) (wrap64 (x10_1 + (wrap64 (t105 + 1)))) t102 (wrap64 (x27_1 + 1))) else (none)) = some (r1, r2, r3) := by rw [if_pos rfl] at H; exact H
        clear H
        have H := H1
        clear H1
        by_cases c13 : x9_1.length < 17592186044416
        ·
         rw [if_pos c13] at H
         have LMc13 := Aside0.mk c13
         clear c13
         obtain ⟨y109, hy109⟩ : ∃ y_ : List Int, y_ = (x9_1 ++ [wrap64 (x10_1 + (wrap64 (t105 + 1)))]) := ⟨_, rfl⟩
         replace H : (vint_Read.l0 k1 l0 t106 y109 (wrap64 (x10_1 + (wrap64 (t105 + 1)))) t102 (wrap64 (x27_1 + 1))) = some (r1, r2, r3) := by first | (rw [hy109]; with_reducible exact H) | (have H2_ := (Option.bind_some _ _).symm.trans H; rw [hy109]; with_reducible exact H2_) | (have H2_ := (Option.bind_some _ _).symm.trans H; with_reducible exact H2_) | with_reducible exact H | (rw [hy109]; exact H) | exact H
         have Ny109 := Aside0.mk hy109
         clear hy109
         have H' := Aside0.mk H
         clear H
         go_wp2_with (first | ((with_reducible refine gate_callee (f := 45) rfl ?_); refine goesL_ (some 32) rfl rfl Try.func45 (by kernel_rfl) rfl #[.slice A0 l0.length c0, .int .i64 x1_1] rfl (by (try simp only [List.map_toArray, List.map_cons, List.map_nil]); first | done | rfl | (simp only [List.length_drop, List.length_take]; rfl)) ?_; (with_reducible refine (vint_Get.calls k1 _ _ l0 x1_1 t105 t106 t107 _ ?side1 ?side2 A9.out).mono ?_); (case side1 => repeat (first | exact (Kd.C_below HR0.out HB.out) | (with_reducible refine Kd.C_alloc ?_ _) | (with_reducible refine Kd.C_drewN ?_ _) | (with_reducible refine Kd.C_drew ?_))); (case side2 => exact HC0.out); rintro e w14 ⟨rfl, hb⟩; refine ⟨_, rfl, ?_⟩; have n0_ := Aside0.mk (Kd.R_below (by (with_reducible repeat (first | apply Kd.R_alloc | apply Kd.R_drewN | apply Kd.R_drew)); exact HO_9.out) hb); have n1_ := Aside0.mk (below_step (by repeat (first | (with_reducible first | exact HB.out | apply below_alloc | apply pw_below_drewN | apply below_drew1) | exact HB.out)) hb); clear HO_9; clear HB; have HO_9 := n0_; have HB := n1_; clear n0_ n1_; (try clear hb); (try clear hb2); (try clear hk); (try clear hi)) | (go_at_call 31; (with_reducible refine (vint_may.calls (wrap64 (x10_1 + (wrap64 (t105 + 1)))) true _ A11.out).mono ?_); rintro e w' ⟨rfl, ⟨nd, rfl⟩⟩) | ((with_reducible refine gate_builtin (b := .append) (xs := #[.tmp 47, .tmp 49]) rfl ?_); at_builtin; refine Kd.R_append (Kd.int .i64) (w0 := w) w.heap.size rfl (.tmp 47) (.tmp 49) 23 3 (.int .i64 0) 8 rfl Try.underlying23 info3 rfl (by decide) (by omega) u9 x9_1 (wrap64 (x10_1 + (wrap64 (t105 + 1)))) [.int .i64 (wrap64 (x10_1 + (wrap64 (t105 + 1))))] (fun _ => True) (fun _ => False) rfl rfl ?aP (fun _ hk => hk.elim) ?aF ?aO ?aB ?aS ?aL ?_; (case aP => exact rfl); (case aB => exact (by repeat (first | (with_reducible first | exact HB.out | apply below_alloc | apply pw_below_drewN | apply below_drew1) | exact HB.out))); (case aF => exact (fun _ _ => trivial)); (case aO => exact (by (with_reducible repeat (first | apply Kd.R_alloc | apply Kd.R_drewN | apply Kd.R_drew)); exact HO_9.out)); (case aS => exact (below_size (by repeat (first | (with_reducible first | exact HB.out | apply below_alloc | apply pw_below_drewN | apply below_drew1) | exact HB.out)))); (case aL => have := LMc13.out; omega); intro v110 w15 ho hb hg hat; rw [← Ny109.out] at ho; have n0_ := Aside0.mk (hb); have n1_ := Aside0.mk (ho); clear HB; clear HO_9; have HB := n0_; have HO111 := n1_; clear n0_ n1_; clear ho hb hg hat))
         go_roundg k1
         case measure => have := HK1.out; omega
         case rel => exact ⟨(t106), (y109), (wrap64 (x10_1 + (wrap64 (t105 + 1)))), (wrap64 (x27_1 + 1)), (by first | rfl | (simp; done) | (simp [*]; done)), (by first | rfl | (simp; done) | (simp [*]; done)), (by first | rfl | (simp; done) | (simp [*]; done)), H', ⟨by have := HK1.out; omega⟩, ⟨by (with_reducible repeat (first | apply Kd.R_alloc | apply Kd.R_drewN | apply Kd.R_drew)); exact HO111.out⟩, ⟨by repeat (first | (with_reducible first | exact HB.out | apply below_alloc | apply pw_below_drewN | apply below_drew1) | exact HB.out)⟩⟩
        ·
         rw [if_neg c13] at H
         exact absurd H (by simp)
       ·
        replace c12 := Bool.eq_false_iff.mpr c12
        subst c12
        have H1 : (some (([] : List Int), 0, 5)) = some (r1, r2, r3) := by rw [if_neg (show ¬ (false = true) by decide)] at H; exact H
        clear H
        have H := H1
        clear H1
        simp only [Option.some.injEq, Prod.mk.injEq] at H
        obtain ⟨rfl, rfl, rfl⟩ := H
        go_wp2_with (first | ((with_reducible refine gate_callee (f := 45) rfl ?_); refine goesL_ (some 32) rfl rfl Try.func45 (by kernel_rfl) rfl #[.slice A0 l0.length c0, .int .i64 x1_1] rfl (by (try simp only [List.map_toArray, List.map_cons, List.map_nil]); first | done | rfl | (simp only [List.length_drop, List.length_take]; rfl)) ?_; (with_reducible refine (vint_Get.calls k1 _ _ l0 x1_1 t105 t106 t107 _ ?side1 ?side2 A9.out).mono ?_); (case side1 => repeat (first | exact (Kd.C_below HR0.out HB.out) | (with_reducible refine Kd.C_alloc ?_ _) | (with_reducible refine Kd.C_drewN ?_ _) | (with_reducible refine Kd.C_drew ?_))); (case side2 => exact HC0.out); rintro e w16 ⟨rfl, hb⟩; refine ⟨_, rfl, ?_⟩; have n0_ := Aside0.mk (Kd.R_below (by (with_reducible repeat (first | apply Kd.R_alloc | apply Kd.R_drewN | apply Kd.R_drew)); exact HO_9.out) hb); have n1_ := Aside0.mk (below_step (by repeat (first | (with_reducible first | exact HB.out | apply below_alloc | apply pw_below_drewN | apply below_drew1) | exact HB.out)) hb); clear HO_9; clear HB; have HO_9 := n0_; have HB := n1_; clear n0_ n1_; (try clear hb); (try clear hb2); (try clear hk); (try clear hi)) | (go_at_call 31; (with_reducible refine (vint_may.calls (wrap64 (x10_1 + (wrap64 (t105 + 1)))) false _ A11.out).mono ?_); rintro e w' ⟨rfl, ⟨nd, rfl⟩⟩))
        go_ret3
        exact ⟨_, by first | rfl | (simp [errW_none, errW_some] <;> rfl) | (simp [*, errW_none, errW_some] <;> rfl), by first | exact Kd.R_nil _ _ _ _ _ | exact Kd.N_nil _ _ _ _ _ | exact Kd.V_nil _ _ _ _ _ | exact Kd.Q_nil _ _ _ _ _ | exact Kd.S_nil _ _ _ _ _, by repeat (first | (with_reducible first | exact HB.out | apply below_alloc | apply pw_below_drewN | apply below_drew1) | exact HB.out)⟩
      ·
       rw [if_neg c10] at H
       have c10b0 : (t107 == 0) = false := beq_eq_false_iff_ne.mpr c10
       have c10b1 : (t107 != 0) = true := bne_iff_ne.mpr c10
       simp only [Option.some.injEq, Prod.mk.injEq] at H
       obtain ⟨rfl, rfl, rfl⟩ := H
       go_wp2_with (first | ((with_reducible refine gate_callee (f := 45) rfl ?_); refine goesL_ (some 32) rfl rfl Try.func45 (by kernel_rfl) rfl #[.slice A0 l0.length c0, .int .i64 x1_1] rfl (by (try simp only [List.map_toArray, List.map_cons, List.map_nil]); first | done | rfl | (simp only [List.length_drop, List.length_take]; rfl)) ?_; (with_reducible refine (vint_Get.calls k1 _ _ l0 x1_1 t105 t106 t107 _ ?side1 ?side2 A9.out).mono ?_); (case side1 => repeat (first | exact (Kd.C_below HR0.out HB.out) | (with_reducible refine Kd.C_alloc ?_ _) | (with_reducible refine Kd.C_drewN ?_ _) | (with_reducible refine Kd.C_drew ?_))); (case side2 => exact HC0.out); rintro e w17 ⟨rfl, hb⟩; refine ⟨_, rfl, ?_⟩; have n0_ := Aside0.mk (Kd.R_below (by (with_reducible repeat (first | apply Kd.R_alloc | apply Kd.R_drewN | apply Kd.R_drew)); exact HO_9.out) hb); have n1_ := Aside0.mk (below_step (by repeat (first | (with_reducible first | exact HB.out | apply below_alloc | apply pw_below_drewN | apply below_drew1) | exact HB.out)) hb); clear HO_9; clear HB; have HO_9 := n0_; have HB := n1_; clear n0_ n1_; (try clear hb); (try clear hb2); (try clear hk); (try clear hi)))
       go_ret3
       exact ⟨_, by first | rfl | (simp [errW_none, errW_some] <;> rfl) | (simp [*, errW_none, errW_some] <;> rfl), by first | exact Kd.R_nil _ _ _ _ _ | exact Kd.N_nil _ _ _ _ _ | exact Kd.V_nil _ _ _ _ _ | exact Kd.Q_nil _ _ _ _ _ | exact Kd.S_nil _ _ _ _ _, by repeat (first | (with_reducible first | exact HB.out | apply below_alloc | apply pw_below_drewN | apply below_drew1) | exact HB.out)⟩
     ·
      rw [if_neg c8] at H
      have c8b0 : decide (x27_1 < t102) = false := decide_eq_false c8
      clear c8
      simp only [Option.some.injEq, Prod.mk.injEq] at H
      obtain ⟨rfl, rfl, rfl⟩ := H
      go_wp2
      go_ret3
      exact ⟨_, by first | rfl | (simp [errW_none, errW_some] <;> rfl) | (simp [*, errW_none, errW_some] <;> rfl), by (with_reducible repeat (first | apply Kd.R_alloc | apply Kd.R_drewN | apply Kd.R_drew)); exact HO_9.out, by repeat (first | (with_reducible first | exact HB.out | apply below_alloc | apply pw_below_drewN | apply below_drew1) | exact HB.out)⟩
 ·
  rw [if_neg c4] at H
  have c4b0 : (t104 == 0) = false := beq_eq_false_iff_ne.mpr c4
  have c4b1 : (t104 != 0) = true := bne_iff_ne.mpr c4
  simp only [Option.some.injEq, Prod.mk.injEq] at H
  obtain ⟨rfl, rfl, rfl⟩ := H
  go_enter Try.func74, Try.ntmps74
  go_wp2_with (first | ((with_reducible refine gate_callee (f := 45) rfl ?_); refine goesL_ (some 17) rfl rfl Try.func45 (by kernel_rfl) rfl #[.slice A0 l0.length c0, .int .i64 a1] rfl (by (try simp only [List.map_toArray, List.map_cons, List.map_nil]); first | done | rfl | (simp only [List.length_drop, List.length_take]; rfl)) ?_; (with_reducible refine (vint_Get.calls k _ _ l0 a1 t102 t103 t104 _ ?side1 ?side2 A3.out).mono ?_); (case side1 => repeat (first | exact HR0.out | (with_reducible refine Kd.C_alloc ?_ _) | (with_reducible refine Kd.C_drewN ?_ _) | (with_reducible refine Kd.C_drew ?_))); (case side2 => exact HC0.out); rintro e w18 ⟨rfl, hb⟩; refine ⟨_, rfl, ?_⟩; have n0_ := Aside0.mk (below_step (by repeat (first | (with_reducible first | exact HB.out | apply below_alloc | apply pw_below_drewN | apply below_drew1) | exact HB.out)) hb); clear HB; have HB := n0_; clear n0_; (try clear hb); (try clear hb2); (try clear hk); (try clear hi)))
  go_ret3
  exact ⟨_, by first | rfl | (simp [errW_none, errW_some] <;> rfl) | (simp [*, errW_none, errW_some] <;> rfl), by first | exact Kd.R_nil _ _ _ _ _ | exact Kd.N_nil _ _ _ _ _ | exact Kd.V_nil _ _ _ _ _ | exact Kd.Q_nil _ _ _ _ _ | exact Kd.S_nil _ _ _ _ _, by repeat (first | (with_reducible first | exact HB.out | apply below_alloc | apply pw_below_drewN | apply below_drew1) | exact HB.out)⟩

/-- A state of type 104 at block g of W; what its slices lead to came in by w0. -/
def IsS104 (w0 W : World) (g : Nat) (f0 : Int) : Prop := W.heap[g]? = some (.cells #[.int .u32 f0] 104 (0, 0)) ∧ w0.heap.size ≤ g
theorem IsS104.grown {w0 W : World} {g : Nat} {f0 : Int} {W1 : World} {row : Option Nat} (h : IsS104 w0 W g f0) (hw : W.grownBy W1 row) (hne : some g ≠ row) : IsS104 w0 W1 g f0 := by
 obtain ⟨hb, hg⟩ := h
 exact ⟨blk_grown hb hw hne, hg⟩
theorem IsS104.kept {w0 W : World} {g : Nat} {f0 : Int} {W1 : World} {S : Nat → Prop} (h : IsS104 w0 W g f0) (hk : Kept W W1 S) (hne : ¬ S g) : IsS104 w0 W1 g f0 := by
 obtain ⟨hb, hg⟩ := h
 exact ⟨blk_kept hb hk hne, hg⟩
theorem IsS104.below {w0 W : World} {g : Nat} {f0 : Int} {W1 : World} (h : IsS104 w0 W g f0) (hw : Below W.heap.size W W1) : IsS104 w0 W1 g f0 := h.grown (grown_of_below hw none) (by simp)
theorem IsS104.alloc {w0 W : World} {g : Nat} {f0 : Int} (h : IsS104 w0 W g f0) (o : Obj) : IsS104 w0 (W.alloc o) g f0 := h.below (below_alloc (Below.refl _ _) o)
theorem IsS104.drewN {w0 W : World} {g : Nat} {f0 : Int} (h : IsS104 w0 W g f0) (m : Nat) : IsS104 w0 (W.drewN m) g f0 := h
theorem IsS104.drew {w0 W : World} {g : Nat} {f0 : Int} (h : IsS104 w0 W g f0) : IsS104 w0 W.drew g f0 := h
theorem IsS104.at_ {w0 W : World} {g : Nat} {f0 : Int} {w' : World} {m : Nat} (hq : W.drewN m = w') (h : IsS104 w0 W g f0) : IsS104 w0 w' g f0 := by subst hq; exact IsS104.drewN h m
theorem IsS104.apart {w0 W : World} {g : Nat} {f0 : Int} {α : Type} {d : Kd α} {e : Nat} {base : Nat} {ok : Nat → Prop} {v : Value} {xs : List α} (h : IsS104 w0 W g f0) (ho : d.R e W base ok v xs) (ht : ∀ q, q ∈ e :: d.E → q ≠ 104) : d.R e W base (fun k => ok k ∧ k ≠ g) v xs := by
 obtain ⟨hb, hg⟩ := h
 exact Kd.R_types ho hb ht
theorem IsS104.own_ne {w0 W : World} {g : Nat} {f0 : Int} {α : Type} {d : Kd α} {e : Nat} {base : Nat} {ok : Nat → Prop} {v : Value} {xs : List α} (h : IsS104 w0 W g f0) (ho : d.R e W base ok v xs) (ht : e ≠ 104) : some g ≠ v.ownBlock := by
 obtain ⟨hb, hg⟩ := h
 exact Kd.R_ne ho hb ht
theorem IsS104.lt {w0 W : World} {g : Nat} {f0 : Int} (h : IsS104 w0 W g f0) : g < W.heap.size := by
 obtain ⟨hb, hg⟩ := h
 exact blk_lt hb
theorem IsS104.ge {w0 W : World} {g : Nat} {f0 : Int} (h : IsS104 w0 W g f0) : w0.heap.size ≤ g := by
 obtain ⟨hb, hg⟩ := h
 exact hg
theorem cellS104_0 {W : World} {g : Nat} {f0 : Int} (h : W.heap[g]? = some (.cells #[.int .u32 f0] 104 (0, 0))) : W.cell? ⟨g, 0, none⟩ = some (.int .u32 f0) := (blk_cell h 0).trans rfl
theorem IsS104.set_0 {w0 W : World} {g : Nat} {f0 : Int} (h : IsS104 w0 W g f0) (x : Int) : IsS104 w0 (W.setCell ⟨g, 0, none⟩ (.int .u32 x)) g x := by
 obtain ⟨hb, hg⟩ := h
 exact ⟨by simpa using blk_set hb 0 (.int .u32 x), hg⟩
theorem IsS104.new (w0 W : World) (f0 : Int) (hB : Below w0.heap.size w0 W) : IsS104 w0 (W.alloc (.cells #[.int .u32 f0] 104)) W.heap.size f0 := ⟨by simpa using heap_alloc_new W _, hB.size⟩

/-! ### frame_sum_add: function 60 -/
def frame_sum_add.l0 : Nat → Int → Int → Option (Int)
 | 0, _, _ => none
 | k + 1, x14, x1000 => if x14 < 8 then (if (Go.bits .and .u32 x1000 1) = 1 then (frame_sum_add.l0 k (wrap64 (x14 + 1)) (Go.bits .xor .u32 (x1000 / 2) 2197175160)) else (frame_sum_add.l0 k (wrap64 (x14 + 1)) (x1000 / 2))) else (some x1000)
def frame_sum_add.f (k : Nat) (s0_0 : Int) (a1 : Int) : Option (Int) := frame_sum_add.l0 k 0 (Go.bits .xor .u32 s0_0 ((a1) % 4294967296))
set_option maxHeartbeats 8000000 in
set_option maxRecDepth 100000 in
theorem frame_sum_add.calls (k : Nat) (g : Nat) (s0_0 : Int) (a1 : Int) (r : Int) (w0 w : World) (hI : IsS104 w0 w g s0_0) (hB : Below w0.heap.size w0 w) (h : frame_sum_add.f k s0_0 a1 = some r) :
  Calls Try.prog 60 #[.pointer (some ⟨g, 0, none⟩), .int .u8 a1] w fun e w' => e = .returned (.tuple #[]) ∧ IsS104 w0 w' g r ∧ Below w0.heap.size w0 w' ∧ KeepBut w w' g none := by
 have HI0 := Aside0.mk hI
 have HK := Aside0.mk (KeepBut.refl w g none)
 have HL := Aside0.mk hB.size
 clear hI
 have HW0 := Aside0.mk hB.size
 have HB := Aside0.mk hB
 clear hB
 have H : (frame_sum_add.l0 k 0 (Go.bits .xor .u32 s0_0 ((a1) % 4294967296))) = some r := h
 clear h
 have H' := Aside0.mk H
 clear H
 obtain ⟨HGz3, hgz3⟩ := HI0.out
 have hcz3_0 := cellS104_0 HGz3
 have hfz3_0 := blk_frozen HGz3 0
 clear HGz3 hgz3
 go_enter Try.func60, Try.ntmps60
 go_wp2
 go_loopg [14] k (fun kq v14 w' => ∃ (x14_1 : Int) (x1000_1 : Int), v14 = .int .i64 x14_1 ∧ Aside0 (frame_sum_add.l0 kq x14_1 x1000_1 = some r) ∧ Aside0 (kq ≤ k) ∧ Aside0 (IsS104 w0 w' g x1000_1) ∧ Aside0 (KeepBut w w' g none) ∧ Aside0 (Below w0.heap.size w0 w'))
 case atStart => exact ⟨(0), (Go.bits .xor .u32 s0_0 ((a1) % 4294967296)), (by first | rfl | (simp; done) | (simp [*]; done)), H', ⟨Nat.le_refl _⟩, ⟨by repeat (first | (with_reducible first | exact HI0.out | apply IsS104.alloc | apply IsS104.drewN | apply IsS104.drew | apply IsS104.set_0) | exact HI0.out)⟩, ⟨by repeat (first | (with_reducible first | exact HK.out | apply KeepBut.set_ | apply keep_drewN | apply keep_drew | apply keep_alloc) | exact HK.out)⟩, ⟨by repeat (first | (with_reducible first | exact HB.out | apply below_alloc | apply pw_below_drewN | apply below_drew1 | refine below_set ?_ (IsS104.ge HI0.out)) | exact HB.out)⟩⟩
 case round =>
  clear H'
  try clear p2
  try clear hcz3_0
  try clear hfz3_0
  obtain ⟨x14_1, x1000_1, rfl, HA, HK1, HI0, HK, HB⟩ := hrel
  cases gk with
  | zero => exact absurd HA.out (by simp [frame_sum_add.l0])
  | succ k1 =>
   have H := HA.out
   clear HA
   simp only [frame_sum_add.l0] at H
   by_cases c4 : x14_1 < 8
   ·
    rw [if_pos c4] at H
    have c4b0 : decide (x14_1 < 8) = true := decide_eq_true c4
    clear c4
    by_cases c5 : (Go.bits .and .u32 x1000_1 1) = 1
    ·
     rw [if_pos c5] at H
     have c5b0 : ((Go.bits .and .u32 x1000_1 1) == 1) = true := beq_iff_eq.mpr c5
     have c5b1 : ((Go.bits .and .u32 x1000_1 1) != 1) = false := bne_eq_false_iff_eq.mpr c5
     clear c5
     have H' := Aside0.mk H
     clear H
     obtain ⟨HGz6, hgz6⟩ := HI0.out
     have hcz6_0 := cellS104_0 HGz6
     have hfz6_0 := blk_frozen HGz6 0
     clear HGz6 hgz6
     go_wp2
     go_roundg k1
     case measure => have := HK1.out; omega
     case rel => exact ⟨(wrap64 (x14_1 + 1)), (Go.bits .xor .u32 (x1000_1 / 2) 2197175160), (by first | rfl | (simp; done) | (simp [*]; done)), H', ⟨by have := HK1.out; omega⟩, ⟨by repeat (first | (with_reducible first | exact HI0.out | apply IsS104.alloc | apply IsS104.drewN | apply IsS104.drew | apply IsS104.set_0) | exact HI0.out)⟩, ⟨by repeat (first | (with_reducible first | exact HK.out | apply KeepBut.set_ | apply keep_drewN | apply keep_drew | apply keep_alloc) | exact HK.out)⟩, ⟨by repeat (first | (with_reducible first | exact HB.out | apply below_alloc | apply pw_below_drewN | apply below_drew1 | refine below_set ?_ (IsS104.ge HI0.out)) | exact HB.out)⟩⟩
    ·
     rw [if_neg c5] at H
     have c5b0 : ((Go.bits .and .u32 x1000_1 1) == 1) = false := beq_eq_false_iff_ne.mpr c5
     have c5b1 : ((Go.bits .and .u32 x1000_1 1) != 1) = true := bne_iff_ne.mpr c5
     have H' := Aside0.mk H
     clear H
     obtain ⟨HGz7, hgz7⟩ := HI0.out
     have hcz7_0 := cellS104_0 HGz7
     have hfz7_0 := blk_frozen HGz7 0
     clear HGz7 hgz7
     go_wp2
     go_roundg k1
     case measure => have := HK1.out; omega
     case rel => exact ⟨(wrap64 (x14_1 + 1)), (x1000_1 / 2), (by first | rfl | (simp; done) | (simp [*]; done)), H', ⟨by have := HK1.out; omega⟩, ⟨by repeat (first | (with_reducible first | exact HI0.out | apply IsS104.alloc | apply IsS104.drewN | apply IsS104.drew | apply IsS104.set_0) | exact HI0.out)⟩, ⟨by repeat (first | (with_reducible first | exact HK.out | apply KeepBut.set_ | apply keep_drewN | apply keep_drew | apply keep_alloc) | exact HK.out)⟩, ⟨by repeat (first | (with_reducible first | exact HB.out | apply below_alloc | apply pw_below_drewN | apply below_drew1 | refine below_set ?_ (IsS104.ge HI0.out)) | exact HB.out)⟩⟩
   ·
    rw [if_neg c4] at H
    have c4b0 : decide (x14_1 < 8) = false := decide_eq_false c4
    clear c4
    obtain rfl := Option.some.inj H
    go_wp2
    first | go_end0 | ((try simp only [Exit.inBlock, Exit.then]); refine bodyPost_ret (results_none rfl _ _ _) rfl ?_)
    exact ⟨by first | rfl | (simp [errW_none, errW_some] <;> rfl) | (simp [*, errW_none, errW_some] <;> rfl), by repeat (first | (with_reducible first | exact HI0.out | apply IsS104.alloc | apply IsS104.drewN | apply IsS104.drew | apply IsS104.set_0) | exact HI0.out), by repeat (first | (with_reducible first | exact HB.out | apply below_alloc | apply pw_below_drewN | apply below_drew1 | refine below_set ?_ (IsS104.ge HI0.out)) | exact HB.out), by repeat (first | (with_reducible first | exact HK.out | apply KeepBut.set_ | apply keep_drewN | apply keep_drew | apply keep_alloc) | exact HK.out)⟩

/-- A state of type 114 at block g of W; what its slices lead to came in by w0. -/
def IsS114 (w0 W : World) (g : Nat) (f0 : List Int) (f1 : Int) (f2 : Bool) : Prop := ∃ A0 c0, W.heap[g]? = some (.cells #[.slice A0 f0.length c0, .int .i64 f1, .bool f2] 114 (0, 0)) ∧ w0.heap.size ≤ g ∧ Kd.C (Kd.int .u8) w0 A0 f0.length f0
theorem IsS114.grown {w0 W : World} {g : Nat} {f0 : List Int} {f1 : Int} {f2 : Bool} {W1 : World} {row : Option Nat} (h : IsS114 w0 W g f0 f1 f2) (hw : W.grownBy W1 row) (hne : some g ≠ row) : IsS114 w0 W1 g f0 f1 f2 := by
 obtain ⟨A0, c0, hb, hg, hr0⟩ := h
 exact ⟨A0, c0, blk_grown hb hw hne, hg, hr0⟩
theorem IsS114.kept {w0 W : World} {g : Nat} {f0 : List Int} {f1 : Int} {f2 : Bool} {W1 : World} {S : Nat → Prop} (h : IsS114 w0 W g f0 f1 f2) (hk : Kept W W1 S) (hne : ¬ S g) : IsS114 w0 W1 g f0 f1 f2 := by
 obtain ⟨A0, c0, hb, hg, hr0⟩ := h
 exact ⟨A0, c0, blk_kept hb hk hne, hg, hr0⟩
theorem IsS114.below {w0 W : World} {g : Nat} {f0 : List Int} {f1 : Int} {f2 : Bool} {W1 : World} (h : IsS114 w0 W g f0 f1 f2) (hw : Below W.heap.size W W1) : IsS114 w0 W1 g f0 f1 f2 := h.grown (grown_of_below hw none) (by simp)
theorem IsS114.alloc {w0 W : World} {g : Nat} {f0 : List Int} {f1 : Int} {f2 : Bool} (h : IsS114 w0 W g f0 f1 f2) (o : Obj) : IsS114 w0 (W.alloc o) g f0 f1 f2 := h.below (below_alloc (Below.refl _ _) o)
theorem IsS114.drewN {w0 W : World} {g : Nat} {f0 : List Int} {f1 : Int} {f2 : Bool} (h : IsS114 w0 W g f0 f1 f2) (m : Nat) : IsS114 w0 (W.drewN m) g f0 f1 f2 := h
theorem IsS114.drew {w0 W : World} {g : Nat} {f0 : List Int} {f1 : Int} {f2 : Bool} (h : IsS114 w0 W g f0 f1 f2) : IsS114 w0 W.drew g f0 f1 f2 := h
theorem IsS114.at_ {w0 W : World} {g : Nat} {f0 : List Int} {f1 : Int} {f2 : Bool} {w' : World} {m : Nat} (hq : W.drewN m = w') (h : IsS114 w0 W g f0 f1 f2) : IsS114 w0 w' g f0 f1 f2 := by subst hq; exact IsS114.drewN h m
theorem IsS114.apart {w0 W : World} {g : Nat} {f0 : List Int} {f1 : Int} {f2 : Bool} {α : Type} {d : Kd α} {e : Nat} {base : Nat} {ok : Nat → Prop} {v : Value} {xs : List α} (h : IsS114 w0 W g f0 f1 f2) (ho : d.R e W base ok v xs) (ht : ∀ q, q ∈ e :: d.E → q ≠ 114) : d.R e W base (fun k => ok k ∧ k ≠ g) v xs := by
 obtain ⟨A0, c0, hb, hg, hr0⟩ := h
 exact Kd.R_types ho hb ht
theorem IsS114.own_ne {w0 W : World} {g : Nat} {f0 : List Int} {f1 : Int} {f2 : Bool} {α : Type} {d : Kd α} {e : Nat} {base : Nat} {ok : Nat → Prop} {v : Value} {xs : List α} (h : IsS114 w0 W g f0 f1 f2) (ho : d.R e W base ok v xs) (ht : e ≠ 114) : some g ≠ v.ownBlock := by
 obtain ⟨A0, c0, hb, hg, hr0⟩ := h
 exact Kd.R_ne ho hb ht
theorem IsS114.lt {w0 W : World} {g : Nat} {f0 : List Int} {f1 : Int} {f2 : Bool} (h : IsS114 w0 W g f0 f1 f2) : g < W.heap.size := by
 obtain ⟨A0, c0, hb, hg, hr0⟩ := h
 exact blk_lt hb
theorem IsS114.ge {w0 W : World} {g : Nat} {f0 : List Int} {f1 : Int} {f2 : Bool} (h : IsS114 w0 W g f0 f1 f2) : w0.heap.size ≤ g := by
 obtain ⟨A0, c0, hb, hg, hr0⟩ := h
 exact hg
theorem IsS114.new (w0 W : World) (A0 : Option Addr) (c0 : Nat) (f0 : List Int) (f1 : Int) (f2 : Bool) (hB : Below w0.heap.size w0 W) (hr0 : Kd.C (Kd.int .u8) w0 A0 f0.length f0) : IsS114 w0 (W.alloc (.cells #[.slice A0 f0.length c0, .int .i64 f1, .bool f2] 114)) W.heap.size f0 f1 f2 := ⟨A0, c0, by simpa using heap_alloc_new W _, hB.size, hr0⟩

/-! ### post_cursor_ends: function 69 -/
end Go.Proofs.Ytfhcolhiolgikaa.T
/- Written by hp.py, this session's own program, out of the translation of this seat: Lean functions for the Go functions, and the proof that each call comes to what its Lean function says. -/
namespace Go.Proofs.Ytfhcolhiolgikaa.T
open Go.RowKit Go.Proofs.YtfhcolhiolgikaaW.PrintWords Go.Proofs.YtfhcolhiolgikaaW.PrintLast Go.Proofs.YtfhcolhiolgikaaW.PrintMore
attribute [local go_sem] max2_int min2_int max_two min_two max_three min_three max_four min_four   -- for this text's walks alone
set_option linter.unusedVariables false
set_option linter.unusedSimpArgs false
/-! ### a ≤ b of two texts, as the print spells it: not b < a -/
theorem bytesLess_swap : ∀ a b : List UInt8, (!(Op.bytesLess a b || a == b)) = Op.bytesLess b a
 | [], [] => rfl
 | [], _ :: _ => rfl
 | _ :: _, [] => rfl
 | x :: r, y :: s => by
  have ih := bytesLess_swap r s
  simp only [Op.bytesLess]
  by_cases h1 : x < y
  ·
   have h2 : ¬ y < x := by rw [UInt8.lt_iff_toNat_lt] at *; omega
   have h3 : (y == x) = false := by
    rw [beq_eq_false_iff_ne]
    intro he
    subst he
    exact h2 h1
   simp [h1, h2, h3]
  ·
   by_cases h2 : y < x
   ·
    have h3 : (x == y) = false := by
     rw [beq_eq_false_iff_ne]
     intro he
     subst he
     exact h1 h2
    have h4 : ((x :: r) == (y :: s)) = false := by
     rw [beq_eq_false_iff_ne]
     intro he
     injection he with he _
     rw [he] at h3
     simp at h3
    simp [h1, h2, h3, h4]
   ·
    have he : x = y := by
     rw [UInt8.lt_iff_toNat_lt] at *
     exact UInt8.toNat_inj.1 (by omega)
    subst he
    have h4 : ((x :: r) == (x :: s)) = (r == s) := by simp
    rw [h4]
    simp only [h1, decide_false, Bool.false_or, beq_self_eq_true, Bool.true_and]
    exact ih
theorem string_leq_ (t : TypeId) (a b : ByteArray) : binOp .leq t (.string a) (.string b) = pure (.bool (!(Op.bytesLess b.toList a.toList))) := by
 rw [← bytesLess_swap, Bool.not_not]
 simp [binOp, Op.stringOp]

end Go.Proofs.Ytfhcolhiolgikaa.T
/- Written by hp.py, this session's own program, out of the translation of this seat: Lean functions for the Go functions, and the proof that each call comes to what its Lean function says. -/
namespace Go.Proofs.Ytfhcolhiolgikaa.T
open Go.RowKit Go.Proofs.YtfhcolhiolgikaaW.PrintWords Go.Proofs.YtfhcolhiolgikaaW.PrintLast Go.Proofs.YtfhcolhiolgikaaW.PrintMore
attribute [local go_sem] max2_int min2_int max_two min_two max_three min_three max_four min_four   -- for this text's walks alone
set_option linter.unusedVariables false
set_option linter.unusedSimpArgs false

/-! ### vint_all: function 32 -/
mutual
def vint_all.l0 : Nat → List Int → List Int → Int → Int → Option (List Int)
 | 0, _, _, _, _ => none
 | k + 1, x0, x7, x8, x9 => if x9 < x8 then (if 0 ≤ x9 then (if x9 < (x7.length : Int) then (vint_all.l1 k x0 (rd x7 x9) x7 x8 x9) else (none)) else (none)) else (some x0)
def vint_all.l1 : Nat → List Int → Int → List Int → Int → Int → Option (List Int)
 | 0, _, _, _, _, _ => none
 | k + 1, x0, x6, x7, x8, x9 => if x6 ≥ 128 then (if x0.length < 140737488355328 then (vint_all.l1 k (x0 ++ [Go.bits .or .u8 ((x6) % 256) 128]) (x6 / 128) x7 x8 x9) else (none)) else (if x0.length < 140737488355328 then (vint_all.l0 k (x0 ++ [(x6) % 256]) x7 x8 (wrap64 (x9 + 1))) else (none))
end
def vint_all.f (k : Nat) (l0 : List Int) (l1 : List Int) : Option (List Int) := vint_all.l0 k l0 l1 (l1.length : Int) 0
theorem vint_all.mono_l : ∀ k, (∀ y0 y1 y2 y3, LeO (vint_all.l0 k y0 y1 y2 y3) (vint_all.l0 (k + 1) y0 y1 y2 y3)) ∧ (∀ y0 y1 y2 y3 y4, LeO (vint_all.l1 k y0 y1 y2 y3 y4) (vint_all.l1 (k + 1) y0 y1 y2 y3 y4))
 | 0 => ⟨fun _ _ _ _ r h => by simp [vint_all.l0] at h, fun _ _ _ _ _ r h => by simp [vint_all.l1] at h⟩
 | k + 1 => by
  obtain ⟨ih0, ih1⟩ := vint_all.mono_l k
  refine ⟨?_, ?_⟩
  ·
   intro y0 y1 y2 y3
   unfold vint_all.l0
   repeat' first
   | (with_reducible exact ih0 _ _ _ _)
   | (with_reducible exact ih1 _ _ _ _ _)
   | (with_reducible exact LeO.refl _)
   | (with_reducible exact LeO.none _)
   | (with_reducible refine LeO.ite ?_ ?_)
   | (with_reducible refine LeO.bind ?_ (fun _ => ?_))
   | exact ih0 _ _ _ _
   | exact ih1 _ _ _ _ _
   | exact LeO.none _
   | refine LeO.ite ?_ ?_
   | refine LeO.bind ?_ (fun _ => ?_)
  ·
   intro y0 y1 y2 y3 y4
   unfold vint_all.l1
   repeat' first
   | (with_reducible exact ih0 _ _ _ _)
   | (with_reducible exact ih1 _ _ _ _ _)
   | (with_reducible exact LeO.refl _)
   | (with_reducible exact LeO.none _)
   | (with_reducible refine LeO.ite ?_ ?_)
   | (with_reducible refine LeO.bind ?_ (fun _ => ?_))
   | exact ih0 _ _ _ _
   | exact ih1 _ _ _ _ _
   | exact LeO.none _
   | refine LeO.ite ?_ ?_
   | refine LeO.bind ?_ (fun _ => ?_)
set_option maxHeartbeats 8000000 in
set_option maxRecDepth 100000 in
theorem vint_all.calls (k : Nat) (P0_ : Nat → Prop) (u9000_ : Value) (l0 : List Int) (A1 : Option Addr) (c1 : Nat) (l1 : List Int) (r : List Int) (w0 w : World) (hB : Below w0.heap.size w0 w) (ho0 : Kd.R (Kd.int .u8) 5 w w0.heap.size P0_ u9000_ l0) (hr1 : ∀ W_, Kept w W_ (fun k_ => P0_ k_) → Kd.C (Kd.int .i64) W_ A1 l1.length l1) (hc1 : l1.length ≤ c1) (h : vint_all.f k l0 l1 = some r) :
  Calls Try.prog 32 #[u9000_, .slice A1 l1.length c1] w fun e w' => ∃ v0_ : Value, e = .returned (v0_) ∧ Kd.R (Kd.int .u8) 5 w' w0.heap.size (fun k_ => (P0_ k_ ∨ w.heap.size ≤ k_)) v0_ r ∧ Below w0.heap.size w0 w' ∧ Kept w w' (fun k_ => P0_ k_) := by
 have HO0 := Aside0.mk (show Kd.R (Kd.int .u8) 5 w w0.heap.size (fun k_ => (P0_ k_ ∨ w.heap.size ≤ k_)) u9000_ l0 from Kd.R_mono ho0 (fun k_ hk => (.inl hk)))
 have HR1 := Aside0.mk hr1
 have HC1 := Aside0.mk hc1
 clear hr1 hc1
 have HK := Aside0.mk (Kept.refl w (fun k_ => P0_ k_))
 have HW0 := Aside0.mk hB.size
 have HB := Aside0.mk hB
 clear hB
 have H : (vint_all.l0 k l0 l1 (l1.length : Int) 0) = some r := h
 clear h
 have H' := Aside0.mk H
 clear H
 go_enter Try.func32, Try.ntmps32
 go_wp2
 go_loopg [0, 9] k (fun kq v0 v9 w' => ∃ (x0_1 : List Int) (x9_1 : Int), v9 = .int .i64 x9_1 ∧ Aside0 (vint_all.l0 kq x0_1 l1 (l1.length : Int) x9_1 = some r) ∧ Aside0 (kq ≤ k) ∧ Aside0 (Kd.R (Kd.int .u8) 5 w' w0.heap.size (fun k_ => (P0_ k_ ∨ w.heap.size ≤ k_)) v0 x0_1) ∧ Aside0 (Kept w w' (fun k_ => P0_ k_)) ∧ Aside0 (Below w0.heap.size w0 w'))
 case atStart => exact ⟨(l0), (0), (by first | rfl | (simp; done) | (simp [*]; done)), H', ⟨Nat.le_refl _⟩, ⟨by (with_reducible repeat (first | apply Kd.R_alloc | apply Kd.R_drewN | apply Kd.R_drew)); exact HO0.out⟩, ⟨by repeat (first | (with_reducible first | exact HK.out | apply Kept.alloc | apply Kept.drewN | apply Kept.drew) | exact HK.out)⟩, ⟨by repeat (first | (with_reducible first | exact HB.out | apply below_alloc | apply pw_below_drewN | apply below_drew1) | exact HB.out)⟩⟩
 case round =>
  clear H'
  try clear c1
  try clear p2
  obtain ⟨x0_1, x9_1, rfl, HA, HK1, HO_0, HK, HB⟩ := hrel
  cases gk with
  | zero => exact absurd HA.out (by simp [vint_all.l0])
  | succ k1 =>
   have H := HA.out
   clear HA
   simp only [vint_all.l0] at H
   by_cases c3 : x9_1 < (l1.length : Int)
   ·
    rw [if_pos c3] at H
    have c3b0 : decide (x9_1 < (l1.length : Int)) = true := decide_eq_true c3
    clear c3
    by_cases c4 : 0 ≤ x9_1
    ·
     rw [if_pos c4] at H
     have c4b0 : decide (0 ≤ x9_1) = true := decide_eq_true c4
     clear c4
     by_cases c5 : x9_1 < (l1.length : Int)
     ·
      rw [if_pos c5] at H
      have c5b0 : decide (x9_1 < (l1.length : Int)) = true := decide_eq_true c5
      clear c5
      have H' := Aside0.mk H
      clear H
      have p112 : 0 ≤ (x9_1 : Int) := of_decide_eq_true (by first | (with_reducible assumption) | assumption)
      have q112 : x9_1 < (l1.length : Int) := of_decide_eq_true (by first | (with_reducible assumption) | assumption)
      obtain ⟨ad112, e112, hx112_0⟩ := Kd.at_int (Kd.C_kept_now HR1.out HK.out) x9_1 p112 q112
      cases e112
      replace p112 := eq_true p112
      replace q112 := eq_true q112
      go_wp2
      go_loopg [0, 6] k1 (fun kq v0 v6 w' => ∃ (x0_2 : List Int) (x6_2 : Int), v6 = .int .i64 x6_2 ∧ Aside0 (vint_all.l1 kq x0_2 x6_2 l1 (l1.length : Int) x9_1 = some r) ∧ Aside0 (kq ≤ k1) ∧ Aside0 (Kd.R (Kd.int .u8) 5 w' w0.heap.size (fun k_ => (P0_ k_ ∨ w.heap.size ≤ k_)) v0 x0_2) ∧ Aside0 (Kept w w' (fun k_ => P0_ k_)) ∧ Aside0 (Below w0.heap.size w0 w'))
      case atStart => exact ⟨(x0_1), (rd l1 x9_1), (by first | rfl | (simp; done) | (simp [*]; done)), H', ⟨Nat.le_refl _⟩, ⟨by (with_reducible repeat (first | apply Kd.R_alloc | apply Kd.R_drewN | apply Kd.R_drew)); exact HO_0.out⟩, ⟨by repeat (first | (with_reducible first | exact HK.out | apply Kept.alloc | apply Kept.drewN | apply Kept.drew) | exact HK.out)⟩, ⟨by repeat (first | (with_reducible first | exact HB.out | apply below_alloc | apply pw_below_drewN | apply below_drew1) | exact HB.out)⟩⟩
      case round =>
       clear H'
       try clear c1
       try clear p1
       try clear q1
       try clear hx1
       try clear p2
       try clear c3
       try clear c3b0
       try clear c4
       try clear c4b0
       try clear c5
       try clear c5b0
       try clear hx112_0
       try clear p112
       try clear p2
       try clear q112
       obtain ⟨x0_2, x6_2, rfl, HA, HK2, HO_0, HK, HB⟩ := hrel
       cases gk with
       | zero => exact absurd HA.out (by simp [vint_all.l1])
       | succ k2 =>
        have H := HA.out
        clear HA
        simp only [vint_all.l1] at H
        by_cases c6 : x6_2 ≥ 128
        ·
         rw [if_pos c6] at H
         have c6b0 : decide (128 ≤ x6_2) = true := decide_eq_true c6
         clear c6
         by_cases c7 : x0_2.length < 140737488355328
         ·
          rw [if_pos c7] at H
          have LMc7 := Aside0.mk c7
          clear c7
          obtain ⟨y113, hy113⟩ : ∃ y_ : List Int, y_ = (x0_2 ++ [Go.bits .or .u8 ((x6_2) % 256) 128]) := ⟨_, rfl⟩
          replace H : (vint_all.l1 k2 y113 (x6_2 / 128) l1 (l1.length : Int) x9_1) = some r := by first | (rw [hy113]; with_reducible exact H) | (have H2_ := (Option.bind_some _ _).symm.trans H; rw [hy113]; with_reducible exact H2_) | (have H2_ := (Option.bind_some _ _).symm.trans H; with_reducible exact H2_) | with_reducible exact H | (rw [hy113]; exact H) | exact H
          have Ny113 := Aside0.mk hy113
          clear hy113
          have H' := Aside0.mk H
          clear H
          go_wp2_with (first | ((with_reducible refine gate_builtin (b := .append) (xs := #[.tmp 15, .tmp 19]) rfl ?_); at_builtin; refine Kd.R_append (Kd.int .u8) (w0 := w0) w0.heap.size rfl (.tmp 15) (.tmp 19) 29 5 (.int .u8 0) 1 rfl Try.underlying29 info5 rfl (by decide) (by omega) u0 x0_2 (Go.bits .or .u8 ((x6_2) % 256) 128) [.int .u8 (Go.bits .or .u8 ((x6_2) % 256) 128)] (fun k_ => (P0_ k_ ∨ w.heap.size ≤ k_)) (fun _ => False) rfl rfl ?aP (fun _ hk => hk.elim) ?aF ?aO ?aB ?aS ?aL ?_; (case aP => exact rfl); (case aB => exact (by repeat (first | (with_reducible first | exact HB.out | apply below_alloc | apply pw_below_drewN | apply below_drew1) | exact HB.out))); (case aF => exact (fun k_ hk => (.inr (Nat.le_trans (by first | exact HK.out.1 | exact (show Kept w _ (fun k_ => P0_ k_) from by repeat (first | (with_reducible first | exact HK.out | apply Kept.alloc | apply Kept.drewN | apply Kept.drew) | exact HK.out)).1) hk)))); (case aO => exact (by (with_reducible repeat (first | apply Kd.R_alloc | apply Kd.R_drewN | apply Kd.R_drew)); exact HO_0.out)); (case aS => exact (below_size (by repeat (first | (with_reducible first | exact HB.out | apply below_alloc | apply pw_below_drewN | apply below_drew1) | exact HB.out)))); (case aL => have := LMc7.out; omega); intro v114 w8 ho hb hg hat; rw [← Ny113.out] at ho; have n0_ := Aside0.mk (hb); have n1_ := Aside0.mk (Kept.of_grown (S := (fun k_ => P0_ k_)) hg (by repeat (first | (with_reducible first | exact HK.out | apply Kept.alloc | apply Kept.drewN | apply Kept.drew) | exact HK.out)) (fun k_ e_ => (HO_0.out.1 k_ e_))); have n2_ := Aside0.mk (ho); clear HB; clear HK; clear HO_0; have HB := n0_; have HK := n1_; have HO115 := n2_; clear n0_ n1_ n2_; clear ho hb hg hat))
          go_roundg k2
          case measure => have := HK1.out; have := HK2.out; omega
          case rel => exact ⟨(y113), (x6_2 / 128), (by first | rfl | (simp; done) | (simp [*]; done)), H', ⟨by have := HK1.out; have := HK2.out; omega⟩, ⟨by (with_reducible repeat (first | apply Kd.R_alloc | apply Kd.R_drewN | apply Kd.R_drew)); exact HO115.out⟩, ⟨by repeat (first | (with_reducible first | exact HK.out | apply Kept.alloc | apply Kept.drewN | apply Kept.drew) | exact HK.out)⟩, ⟨by repeat (first | (with_reducible first | exact HB.out | apply below_alloc | apply pw_below_drewN | apply below_drew1) | exact HB.out)⟩⟩
         ·
          rw [if_neg c7] at H
          exact absurd H (by simp)
        ·
         rw [if_neg c6] at H
         have c6b0 : decide (128 ≤ x6_2) = false := decide_eq_false c6
         clear c6
         by_cases c9 : x0_2.length < 140737488355328
         ·
          rw [if_pos c9] at H
          have LMc9 := Aside0.mk c9
          clear c9
          obtain ⟨y116, hy116⟩ : ∃ y_ : List Int, y_ = (x0_2 ++ [(x6_2) % 256]) := ⟨_, rfl⟩
          replace H : (vint_all.l0 k2 y116 l1 (l1.length : Int) (wrap64 (x9_1 + 1))) = some r := by first | (rw [hy116]; with_reducible exact H) | (have H2_ := (Option.bind_some _ _).symm.trans H; rw [hy116]; with_reducible exact H2_) | (have H2_ := (Option.bind_some _ _).symm.trans H; with_reducible exact H2_) | with_reducible exact H | (rw [hy116]; exact H) | exact H
          have Ny116 := Aside0.mk hy116
          clear hy116
          have H' := Aside0.mk H
          clear H
          go_wp2_with (first | ((with_reducible refine gate_builtin (b := .append) (xs := #[.tmp 23, .tmp 26]) rfl ?_); at_builtin; refine Kd.R_append (Kd.int .u8) (w0 := w0) w0.heap.size rfl (.tmp 23) (.tmp 26) 29 5 (.int .u8 0) 1 rfl Try.underlying29 info5 rfl (by decide) (by omega) u0 x0_2 ((x6_2) % 256) [.int .u8 ((x6_2) % 256)] (fun k_ => (P0_ k_ ∨ w.heap.size ≤ k_)) (fun _ => False) rfl rfl ?aP (fun _ hk => hk.elim) ?aF ?aO ?aB ?aS ?aL ?_; (case aP => exact rfl); (case aB => exact (by repeat (first | (with_reducible first | exact HB.out | apply below_alloc | apply pw_below_drewN | apply below_drew1) | exact HB.out))); (case aF => exact (fun k_ hk => (.inr (Nat.le_trans (by first | exact HK.out.1 | exact (show Kept w _ (fun k_ => P0_ k_) from by repeat (first | (with_reducible first | exact HK.out | apply Kept.alloc | apply Kept.drewN | apply Kept.drew) | exact HK.out)).1) hk)))); (case aO => exact (by (with_reducible repeat (first | apply Kd.R_alloc | apply Kd.R_drewN | apply Kd.R_drew)); exact HO_0.out)); (case aS => exact (below_size (by repeat (first | (with_reducible first | exact HB.out | apply below_alloc | apply pw_below_drewN | apply below_drew1) | exact HB.out)))); (case aL => have := LMc9.out; omega); intro v117 w10 ho hb hg hat; rw [← Ny116.out] at ho; have n0_ := Aside0.mk (hb); have n1_ := Aside0.mk (Kept.of_grown (S := (fun k_ => P0_ k_)) hg (by repeat (first | (with_reducible first | exact HK.out | apply Kept.alloc | apply Kept.drewN | apply Kept.drew) | exact HK.out)) (fun k_ e_ => (HO_0.out.1 k_ e_))); have n2_ := Aside0.mk (ho); clear HB; clear HK; clear HO_0; have HB := n0_; have HK := n1_; have HO118 := n2_; clear n0_ n1_ n2_; clear ho hb hg hat))
          go_roundg k2
          case measure => have := HK1.out; have := HK2.out; omega
          case rel => exact ⟨(y116), (wrap64 (x9_1 + 1)), (by first | rfl | (simp; done) | (simp [*]; done)), H', ⟨by have := HK1.out; have := HK2.out; omega⟩, ⟨by (with_reducible repeat (first | apply Kd.R_alloc | apply Kd.R_drewN | apply Kd.R_drew)); exact HO118.out⟩, ⟨by repeat (first | (with_reducible first | exact HK.out | apply Kept.alloc | apply Kept.drewN | apply Kept.drew) | exact HK.out)⟩, ⟨by repeat (first | (with_reducible first | exact HB.out | apply below_alloc | apply pw_below_drewN | apply below_drew1) | exact HB.out)⟩⟩
         ·
          rw [if_neg c9] at H
          exact absurd H (by simp)
     ·
      rw [if_neg c5] at H
      exact absurd H (by simp)
    ·
     rw [if_neg c4] at H
     exact absurd H (by simp)
   ·
    rw [if_neg c3] at H
    have c3b0 : decide (x9_1 < (l1.length : Int)) = false := decide_eq_false c3
    clear c3
    obtain rfl := Option.some.inj H
    go_wp2
    go_ret
    exact ⟨_, by first | rfl | (simp [errW_none, errW_some] <;> rfl) | (simp [*, errW_none, errW_some] <;> rfl), by (with_reducible repeat (first | apply Kd.R_alloc | apply Kd.R_drewN | apply Kd.R_drew)); exact HO_0.out, by repeat (first | (with_reducible first | exact HB.out | apply below_alloc | apply pw_below_drewN | apply below_drew1) | exact HB.out), by repeat (first | (with_reducible first | exact HK.out | apply Kept.alloc | apply Kept.drewN | apply Kept.drew) | exact HK.out)⟩

/-! ### vint_Put: function 15 -/
def vint_Put.f (k : Nat) (a0 : Int) : Option (List Int) := (vint_may.f a0).bind fun t119 => (if t119 = true then ((vint_all.f k ([] : List Int) (([a0] : List Int))).bind fun t123 => (some t123)) else (some ([] : List Int)))
set_option maxHeartbeats 8000000 in
set_option maxRecDepth 100000 in
theorem vint_Put.calls (k : Nat) (a0 : Int) (r : List Int) (w : World) (h : vint_Put.f k a0 = some r) :
  Calls Try.prog 15 #[.int .i64 a0] w fun e w' => ∃ v0_ : Value, e = .returned (v0_) ∧ Kd.R (Kd.int .u8) 5 w' w.heap.size (fun _ => True) v0_ r ∧ Below w.heap.size w w' := by
 have HB := Aside0.mk (Below.refl w.heap.size w)
 have H : ((vint_may.f a0).bind fun t119 => (if t119 = true then ((vint_all.f k ([] : List Int) (([a0] : List Int))).bind fun t123 => (some t123)) else (some ([] : List Int)))) = some r := h
 clear h
 replace H := Option.bind_eq_some_iff.mp H
 obtain ⟨t119, A20, H⟩ := H
 replace H : (if t119 = true then ((vint_all.f k ([] : List Int) (([a0] : List Int))).bind fun t123 => (some t123)) else (some ([] : List Int))) = some r := H
 have A2 := Aside0.mk A20
 clear A20
 by_cases c3 : t119 = true
 ·
  subst c3
  have H1 : ((vint_all.f k ([] : List Int) (([a0] : List Int))).bind fun t123 => (some t123)) = some r := by rw [if_pos rfl] at H; exact H
  clear H
  have H := H1
  clear H1
  obtain ⟨y120, hy120⟩ : ∃ y_ : List Int, y_ = (([a0] : List Int)) := ⟨_, rfl⟩
  replace H : ((vint_all.f k ([] : List Int) y120).bind fun t123 => (some t123)) = some r := by first | (rw [hy120]; with_reducible exact H) | (have H2_ := (Option.bind_some _ _).symm.trans H; rw [hy120]; with_reducible exact H2_) | (have H2_ := (Option.bind_some _ _).symm.trans H; with_reducible exact H2_) | with_reducible exact H | (rw [hy120]; exact H) | exact H
  have Ny120 := Aside0.mk hy120
  clear hy120
  replace H := Option.bind_eq_some_iff.mp H
  obtain ⟨t123, A40, H⟩ := H
  replace H : (some t123) = some r := H
  have A4 := Aside0.mk A40
  clear A40
  obtain rfl := Option.some.inj H
  go_enter Try.func15, Try.ntmps15
  go_wp2_with (first | ((with_reducible refine gate_callee (f := 31) rfl ?_); refine goesL_ (some 4) rfl rfl Try.func31 (by kernel_rfl) rfl #[.int .i64 a0] rfl (by (try simp only [List.map_toArray, List.map_cons, List.map_nil]); first | done | rfl | (simp only [List.length_drop, List.length_take]; rfl)) ?_; (with_reducible refine (vint_may.calls a0 true _ A2.out).mono ?_); rintro e w' ⟨rfl, ⟨nd, rfl⟩⟩; refine ⟨_, rfl, ?_⟩) | ((with_reducible refine gate_dst (N := 7) rfl ?_); refine Kd.R_lit (Kd.int .i64) _ 3 ?hg (N := 7) ?hd (xs := ([a0] : List Int)) (inner := [.int .i64 a0]) (ok := fun _ => True) (okp := fun _ => True) ?hr ?hp (fun _ hk => hk) trivial (Below.refl _ _) (Nat.le_refl _) (by simp) ?_; (case hd => rfl); (case hg => rfl); (case hr => first | (go_simp; done) | (go_simp; rfl)); (case hp => exact (Reps.one (show Kd.M (Kd.int .i64) _ _ _ a0 [.int .i64 a0] from rfl) (Reps.none _ _))); intro v121 w5 ho6 hb hg_ hnew_; clear hg_ hnew_; (first | rw [← Ny120.out] at ho6 | (simp only [Int.reduceToNat] at ho6; rw [← Ny120.out] at ho6)); have n0_ := Aside0.mk (Kd.R_lower ho6 (below_size (by repeat (first | (with_reducible first | exact HB.out | apply below_alloc | apply pw_below_drewN | apply below_drew1) | exact HB.out)))); have n1_ := Aside0.mk (below_step (by repeat (first | (with_reducible first | exact HB.out | apply below_alloc | apply pw_below_drewN | apply below_drew1) | exact HB.out)) hb); clear HB; have HO122 := n0_; have HB := n1_; clear n0_ n1_; clear hb ho6; obtain ⟨Ao7, co7, eo7⟩ := Kd.R_slice HO122.out; subst eo7) | ((with_reducible refine gate_callee (f := 32) rfl ?_); refine goesL_ (some 8) rfl rfl Try.func32 (by kernel_rfl) rfl #[.slice none 0 0, .slice Ao7 y120.length co7] rfl (by (try simp only [List.map_toArray, List.map_cons, List.map_nil]); first | done | rfl | (simp only [List.length_drop, List.length_take]; rfl)) ?_; (refine (vint_all.calls k (fun k_ => some k_ = (.slice none 0 0 : Value).ownBlock) (.slice none 0 0) ([] : List Int) _ _ y120 t123 w _ ?side1 ?side2 ?side3 ?side4 A4.out).mono ?_); (case side1 => repeat (first | (with_reducible first | exact HB.out | apply below_alloc | apply pw_below_drewN | apply below_drew1) | exact HB.out)); (case side2 => exact Kd.R_nil _ _ _ _ _); (case side3 => exact Kd.C_kept_own (HO122.out) (fun k_ hk_ hs_ => (fun e_ => by simp [Value.ownBlock] at e_) hs_)); (case side4 => exact (Kd.R_reads' HO122.out).2.1); rintro e w8 ⟨v124, rfl, ho0, hb, hkp⟩; refine ⟨_, rfl, ?_⟩; have n0_ := Aside0.mk (Kd.R_mono (ok' := fun k_ => True) (Kd.R_keptB (HO122.out) hkp (fun k_ hk_ hs_ => (fun e_ => by simp [Value.ownBlock] at e_) hs_)) (fun k_ hk_ => trivial)); have n1_ := Aside0.mk (Kd.R_mono (ok' := fun k_ => True) ho0 (fun k_ hk_ => trivial)); have n2_ := Aside0.mk (hb); clear HO122; clear HB; have HO122 := n0_; have HO125 := n1_; have HB := n2_; clear n0_ n1_ n2_; (try clear hb); (try clear hkp); (try clear ho0)))
  go_ret
  exact ⟨_, by first | rfl | (simp [errW_none, errW_some] <;> rfl) | (simp [*, errW_none, errW_some] <;> rfl), by (with_reducible repeat (first | apply Kd.R_alloc | apply Kd.R_drewN | apply Kd.R_drew)); exact HO125.out, by repeat (first | (with_reducible first | exact HB.out | apply below_alloc | apply pw_below_drewN | apply below_drew1) | exact HB.out)⟩
 ·
  replace c3 := Bool.eq_false_iff.mpr c3
  subst c3
  have H1 : (some ([] : List Int)) = some r := by rw [if_neg (show ¬ (false = true) by decide)] at H; exact H
  clear H
  have H := H1
  clear H1
  obtain rfl := Option.some.inj H
  go_enter Try.func15, Try.ntmps15
  go_wp2_with (first | ((with_reducible refine gate_callee (f := 31) rfl ?_); refine goesL_ (some 4) rfl rfl Try.func31 (by kernel_rfl) rfl #[.int .i64 a0] rfl (by (try simp only [List.map_toArray, List.map_cons, List.map_nil]); first | done | rfl | (simp only [List.length_drop, List.length_take]; rfl)) ?_; (with_reducible refine (vint_may.calls a0 false _ A2.out).mono ?_); rintro e w' ⟨rfl, ⟨nd, rfl⟩⟩; refine ⟨_, rfl, ?_⟩))
  go_ret
  exact ⟨_, by first | rfl | (simp [errW_none, errW_some] <;> rfl) | (simp [*, errW_none, errW_some] <;> rfl), by first | exact Kd.R_nil _ _ _ _ _ | exact Kd.N_nil _ _ _ _ _ | exact Kd.V_nil _ _ _ _ _ | exact Kd.Q_nil _ _ _ _ _ | exact Kd.S_nil _ _ _ _ _, by repeat (first | (with_reducible first | exact HB.out | apply below_alloc | apply pw_below_drewN | apply below_drew1) | exact HB.out)⟩

/-! ### pack_sized: function 16 -/
def pack_sized.f (k : Nat) (l0 : List Int) : Option (List Int) := (vint_Put.f k (l0.length : Int)).bind fun t126 => (if t126.length + l0.length < 140737488355328 then (some (t126 ++ l0)) else (none))
set_option maxHeartbeats 8000000 in
set_option maxRecDepth 100000 in
theorem pack_sized.calls (k : Nat) (A0 : Option Addr) (c0 : Nat) (l0 : List Int) (r : List Int) (w : World) (hr0 : Kd.C (Kd.int .u8) w A0 l0.length l0) (hc0 : l0.length ≤ c0) (h : pack_sized.f k l0 = some r) :
  Calls Try.prog 16 #[.slice A0 l0.length c0] w fun e w' => ∃ v0_ : Value, e = .returned (v0_) ∧ Kd.R (Kd.int .u8) 5 w' w.heap.size (fun _ => True) v0_ r ∧ Below w.heap.size w w' := by
 have HR0 := Aside0.mk hr0
 have HC0 := Aside0.mk hc0
 clear hr0 hc0
 have HB := Aside0.mk (Below.refl w.heap.size w)
 have H : ((vint_Put.f k (l0.length : Int)).bind fun t126 => (if t126.length + l0.length < 140737488355328 then (some (t126 ++ l0)) else (none))) = some r := h
 clear h
 replace H := Option.bind_eq_some_iff.mp H
 obtain ⟨t126, A20, H⟩ := H
 replace H : (if t126.length + l0.length < 140737488355328 then (some (t126 ++ l0)) else (none)) = some r := H
 have A2 := Aside0.mk A20
 clear A20
 by_cases c3 : t126.length + l0.length < 140737488355328
 ·
  rw [if_pos c3] at H
  have LMc3 := Aside0.mk c3
  clear c3
  obtain ⟨y129, hy129⟩ : ∃ y_ : List Int, y_ = (t126 ++ l0) := ⟨_, rfl⟩
  replace H : (some y129) = some r := by first | (rw [hy129]; with_reducible exact H) | (have H2_ := (Option.bind_some _ _).symm.trans H; rw [hy129]; with_reducible exact H2_) | (have H2_ := (Option.bind_some _ _).symm.trans H; with_reducible exact H2_) | with_reducible exact H | (rw [hy129]; exact H) | exact H
  have Ny129 := Aside0.mk hy129
  clear hy129
  obtain rfl := Option.some.inj H
  go_enter Try.func16, Try.ntmps16
  go_wp2_with (first | ((with_reducible refine gate_callee (f := 15) rfl ?_); refine goesL_ (some 5) rfl rfl Try.func15 (by kernel_rfl) rfl #[.int .i64 (l0.length : Int)] rfl (by (try simp only [List.map_toArray, List.map_cons, List.map_nil]); first | done | rfl | (simp only [List.length_drop, List.length_take]; rfl)) ?_; (with_reducible refine (vint_Put.calls k (l0.length : Int) t126 _ A2.out).mono ?_); rintro e w4 ⟨v127, rfl, ho0, hb⟩; refine ⟨_, rfl, ?_⟩; have n0_ := Aside0.mk (Kd.R_lower ho0 (below_size (by repeat (first | (with_reducible first | exact HB.out | apply below_alloc | apply pw_below_drewN | apply below_drew1) | exact HB.out)))); have n1_ := Aside0.mk (below_step (by repeat (first | (with_reducible first | exact HB.out | apply below_alloc | apply pw_below_drewN | apply below_drew1) | exact HB.out)) hb); clear HB; have HO128 := n0_; have HB := n1_; clear n0_ n1_; (try clear hb); (try clear hb2); (try clear hk); (try clear hi); (try clear ho0)) | ((with_reducible refine gate_builtin (b := .append) (xs := #[.tmp 5, .tmp 6]) rfl ?_); at_builtin; refine Kd.R_append_rows (Kd.int .u8) (w0 := w) w.heap.size rfl (.tmp 5) (.tmp 6) 29 5 (.int .u8 0) 1 rfl Try.underlying29 info5 rfl (by decide) (by omega) v127 t126 l0 _ _ _ (fun _ => True) (fun _ => False) rfl rfl ?aO ?aR (fun _ _ h => h) (fun _ h => h.elim) ?aF ?aB ?aS ?aL ?_; (case aR => repeat (first | exact (Kd.C_below HR0.out HB.out) | (with_reducible refine Kd.C_alloc ?_ _) | (with_reducible refine Kd.C_drewN ?_ _) | (with_reducible refine Kd.C_drew ?_))); (case aB => exact (by repeat (first | (with_reducible first | exact HB.out | apply below_alloc | apply pw_below_drewN | apply below_drew1) | exact HB.out))); (case aF => exact (fun _ _ => trivial)); (case aO => exact (by (with_reducible repeat (first | apply Kd.R_alloc | apply Kd.R_drewN | apply Kd.R_drew)); exact HO128.out)); (case aS => exact (below_size (by repeat (first | (with_reducible first | exact HB.out | apply below_alloc | apply pw_below_drewN | apply below_drew1) | exact HB.out)))); (case aL => have := LMc3.out; omega); intro v130 w5 ho hb hg hat; rw [← Ny129.out] at ho; have n0_ := Aside0.mk (hb); have n1_ := Aside0.mk (ho); clear HB; clear HO128; have HB := n0_; have HO131 := n1_; clear n0_ n1_; clear ho hb hg hat))
  go_ret
  exact ⟨_, by first | rfl | (simp [errW_none, errW_some] <;> rfl) | (simp [*, errW_none, errW_some] <;> rfl), by (with_reducible repeat (first | apply Kd.R_alloc | apply Kd.R_drewN | apply Kd.R_drew)); exact HO131.out, by repeat (first | (with_reducible first | exact HB.out | apply below_alloc | apply pw_below_drewN | apply below_drew1) | exact HB.out)⟩
 ·
  rw [if_neg c3] at H
  exact absurd H (by simp)

end Go.Proofs.Ytfhcolhiolgikaa.T
/- Written by hp.py, this session's own program, out of the translation of this seat: Lean functions for the Go functions, and the proof that each call comes to what its Lean function says. -/
namespace Go.Proofs.Ytfhcolhiolgikaa.T
open Go.RowKit Go.Proofs.YtfhcolhiolgikaaW.PrintWords Go.Proofs.YtfhcolhiolgikaaW.PrintLast Go.Proofs.YtfhcolhiolgikaaW.PrintMore
attribute [local go_sem] max2_int min2_int max_two min_two max_three min_three max_four min_four   -- for this text's walks alone
set_option linter.unusedVariables false
set_option linter.unusedSimpArgs false

/-! ### catchwordref01_Ints: function 27 -/
def catchwordref01_Ints.l0 : Nat → List Int → List Int → Int → Option (Bool)
 | 0, _, _, _ => none
 | k + 1, x0, x1, x5 => if x5 < (x0.length : Int) then (if 0 ≤ x5 then (if x5 < (x1.length : Int) then (if (rd x0 x5) = (rd x1 x5) then (catchwordref01_Ints.l0 k x0 x1 (wrap64 (x5 + 1))) else (some false)) else (none)) else (none)) else (some true)
def catchwordref01_Ints.f (k : Nat) (l0 : List Int) (l1 : List Int) : Option (Bool) := if (l0.length : Int) = (l1.length : Int) then (catchwordref01_Ints.l0 k l0 l1 0) else (some false)
set_option maxHeartbeats 8000000 in
set_option maxRecDepth 100000 in
theorem catchwordref01_Ints.calls (k : Nat) (A0 : Option Addr) (c0 : Nat) (l0 : List Int) (A1 : Option Addr) (c1 : Nat) (l1 : List Int) (r : Bool) (w : World) (hr0 : Kd.C (Kd.int .i64) w A0 l0.length l0) (hc0 : l0.length ≤ c0) (hr1 : Kd.C (Kd.int .i64) w A1 l1.length l1) (hc1 : l1.length ≤ c1) (h : catchwordref01_Ints.f k l0 l1 = some r) :
  Calls Try.prog 27 #[.slice A0 l0.length c0, .slice A1 l1.length c1] w fun e w' => e = .returned (.bool r) ∧ Drawn0 w w' := by
 have HR0 := Aside0.mk hr0
 have HC0 := Aside0.mk hc0
 clear hr0 hc0
 have HR1 := Aside0.mk hr1
 have HC1 := Aside0.mk hc1
 clear hr1 hc1
 have H : (if (l0.length : Int) = (l1.length : Int) then (catchwordref01_Ints.l0 k l0 l1 0) else (some false)) = some r := h
 clear h
 by_cases c3 : (l0.length : Int) = (l1.length : Int)
 ·
  rw [if_pos c3] at H
  have c3b0 : ((l0.length : Int) == (l1.length : Int)) = true := beq_iff_eq.mpr c3
  have c3b1 : ((l0.length : Int) != (l1.length : Int)) = false := bne_eq_false_iff_eq.mpr c3
  have c3b2 : (l0.length == l1.length) = true := by first | simpa using c3 | (simp at c3 ⊢; omega)
  clear c3
  have H' := Aside0.mk H
  clear H
  go_enter Try.func27, Try.ntmps27
  go_wp2
  repeat (go_quiet (fail); try go_wp2)
  go_loopg [5] k (fun kq v5 w' => ∃ (x5_1 : Int), v5 = .int .i64 x5_1 ∧ Aside0 (catchwordref01_Ints.l0 kq l0 l1 x5_1 = some r) ∧ Aside0 (kq ≤ k) ∧ Drawn0 w w')
  case atStart => exact ⟨(0), (by first | rfl | (simp; done) | (simp [*]; done)), H', ⟨Nat.le_refl _⟩, by repeat (first | exact Drawn0.refl _ | apply Drawn0.step)⟩
  case round =>
   clear H'
   try clear c1
   try clear c2
   try clear p2
   try clear c3
   try clear c3b0
   try clear c3b1
   try clear c3b2
   obtain ⟨x5_1, rfl, HA, HK1, ⟨m1, rfl⟩⟩ := hrel
   cases gk with
   | zero => exact absurd HA.out (by simp [catchwordref01_Ints.l0])
   | succ k1 =>
    have H := HA.out
    clear HA
    simp only [catchwordref01_Ints.l0] at H
    by_cases c4 : x5_1 < (l0.length : Int)
    ·
     rw [if_pos c4] at H
     have c4b0 : decide (x5_1 < (l0.length : Int)) = true := decide_eq_true c4
     clear c4
     by_cases c5 : 0 ≤ x5_1
     ·
      rw [if_pos c5] at H
      have c5b0 : decide (0 ≤ x5_1) = true := decide_eq_true c5
      clear c5
      by_cases c6 : x5_1 < (l1.length : Int)
      ·
       rw [if_pos c6] at H
       have c6b0 : decide (x5_1 < (l1.length : Int)) = true := decide_eq_true c6
       clear c6
       by_cases c7 : (rd l0 x5_1) = (rd l1 x5_1)
       ·
        rw [if_pos c7] at H
        have c7b0 : ((rd l0 x5_1) == (rd l1 x5_1)) = true := beq_iff_eq.mpr c7
        have c7b1 : ((rd l0 x5_1) != (rd l1 x5_1)) = false := bne_eq_false_iff_eq.mpr c7
        clear c7
        have H' := Aside0.mk H
        clear H
        have p240 : 0 ≤ (x5_1 : Int) := of_decide_eq_true (by first | (with_reducible assumption) | assumption)
        have q240 : x5_1 < (l0.length : Int) := of_decide_eq_true (by first | (with_reducible assumption) | assumption)
        obtain ⟨ad240, e240, hx240_0⟩ := Kd.at_int HR0.out x5_1 p240 q240
        cases e240
        replace p240 := eq_true p240
        replace q240 := eq_true q240
        have p241 : 0 ≤ (x5_1 : Int) := of_decide_eq_true (by first | (with_reducible assumption) | assumption)
        have q241 : x5_1 < (l1.length : Int) := of_decide_eq_true (by first | (with_reducible assumption) | assumption)
        obtain ⟨ad241, e241, hx241_0⟩ := Kd.at_int HR1.out x5_1 p241 q241
        cases e241
        replace p241 := eq_true p241
        replace q241 := eq_true q241
        go_wp2
        repeat (go_quiet (fail); try go_wp2)
        go_roundg k1
        case measure => have := HK1.out; omega
        case rel => exact ⟨(wrap64 (x5_1 + 1)), (by first | rfl | (simp; done) | (simp [*]; done)), H', ⟨by have := HK1.out; omega⟩, by repeat (first | exact Drawn0.refl _ | apply Drawn0.step)⟩
       ·
        rw [if_neg c7] at H
        have c7b0 : ((rd l0 x5_1) == (rd l1 x5_1)) = false := beq_eq_false_iff_ne.mpr c7
        have c7b1 : ((rd l0 x5_1) != (rd l1 x5_1)) = true := bne_iff_ne.mpr c7
        obtain rfl := Option.some.inj H
        have p240 : 0 ≤ (x5_1 : Int) := of_decide_eq_true (by first | (with_reducible assumption) | assumption)
        have q240 : x5_1 < (l0.length : Int) := of_decide_eq_true (by first | (with_reducible assumption) | assumption)
        obtain ⟨ad240, e240, hx240_0⟩ := Kd.at_int HR0.out x5_1 p240 q240
        cases e240
        replace p240 := eq_true p240
        replace q240 := eq_true q240
        have p241 : 0 ≤ (x5_1 : Int) := of_decide_eq_true (by first | (with_reducible assumption) | assumption)
        have q241 : x5_1 < (l1.length : Int) := of_decide_eq_true (by first | (with_reducible assumption) | assumption)
        obtain ⟨ad241, e241, hx241_0⟩ := Kd.at_int HR1.out x5_1 p241 q241
        cases e241
        replace p241 := eq_true p241
        replace q241 := eq_true q241
        go_wp2
        repeat (go_quiet (fail); try go_wp2)
        go_ret
        exact ⟨by first | rfl | (simp; done) | (simp [*]; done), by repeat (first | exact Drawn0.refl _ | apply Drawn0.step)⟩
      ·
       rw [if_neg c6] at H
       exact absurd H (by simp)
     ·
      rw [if_neg c5] at H
      exact absurd H (by simp)
    ·
     rw [if_neg c4] at H
     have c4b0 : decide (x5_1 < (l0.length : Int)) = false := decide_eq_false c4
     clear c4
     obtain rfl := Option.some.inj H
     go_wp2
     repeat (go_quiet (fail); try go_wp2)
     go_ret
     exact ⟨by first | rfl | (simp; done) | (simp [*]; done), by repeat (first | exact Drawn0.refl _ | apply Drawn0.step)⟩
 ·
  rw [if_neg c3] at H
  have c3b0 : ((l0.length : Int) == (l1.length : Int)) = false := beq_eq_false_iff_ne.mpr c3
  have c3b1 : ((l0.length : Int) != (l1.length : Int)) = true := bne_iff_ne.mpr c3
  have c3b2 : (l0.length == l1.length) = false := by first | simpa using c3 | (simp at c3 ⊢; omega)
  obtain rfl := Option.some.inj H
  go_enter Try.func27, Try.ntmps27
  go_wp2
  repeat (go_quiet (fail); try go_wp2)
  go_ret
  exact ⟨by first | rfl | (simp; done) | (simp [*]; done), by repeat (first | exact Drawn0.refl _ | apply Drawn0.step)⟩

/-! ### catchwordref06_Same: function 28 -/
def catchwordref06_Same.l0 : Nat → List (S64) → List (S64) → Int → Option (Bool)
 | 0, _, _, _ => none
 | k + 1, x0, x1, x5 => if x5 < (x0.length : Int) then (if 0 ≤ x5 then (if x5 < (x1.length : Int) then ((catchwordref01_Ints.f k ((rd_T64 x0 x5).f1) ((rd_T64 x1 x5).f1)).bind fun t244 => (if t244 = true then (if ((rd_T64 x0 x5).f0) = ((rd_T64 x1 x5).f0) then (catchwordref06_Same.l0 k x0 x1 (wrap64 (x5 + 1))) else (some false)) else (some false))) else (none)) else (none)) else (some true)
def catchwordref06_Same.f (k : Nat) (l0 : List (S64)) (l1 : List (S64)) : Option (Bool) := if (l0.length : Int) = (l1.length : Int) then (catchwordref06_Same.l0 k l0 l1 0) else (some false)
set_option maxHeartbeats 8000000 in
set_option maxRecDepth 100000 in
theorem catchwordref06_Same.calls (k : Nat) (A0 : Option Addr) (c0 : Nat) (l0 : List (S64)) (A1 : Option Addr) (c1 : Nat) (l1 : List (S64)) (r : Bool) (w : World) (hr0 : Kd.C k64 w A0 l0.length l0) (hc0 : l0.length ≤ c0) (hr1 : Kd.C k64 w A1 l1.length l1) (hc1 : l1.length ≤ c1) (h : catchwordref06_Same.f k l0 l1 = some r) :
  Calls Try.prog 28 #[.slice A0 l0.length c0, .slice A1 l1.length c1] w fun e w' => e = .returned (.bool r) ∧ Drawn0 w w' := by
 have HR0 := Aside0.mk hr0
 have HC0 := Aside0.mk hc0
 clear hr0 hc0
 have HR1 := Aside0.mk hr1
 have HC1 := Aside0.mk hc1
 clear hr1 hc1
 have H : (if (l0.length : Int) = (l1.length : Int) then (catchwordref06_Same.l0 k l0 l1 0) else (some false)) = some r := h
 clear h
 by_cases c3 : (l0.length : Int) = (l1.length : Int)
 ·
  rw [if_pos c3] at H
  have c3b0 : ((l0.length : Int) == (l1.length : Int)) = true := beq_iff_eq.mpr c3
  have c3b1 : ((l0.length : Int) != (l1.length : Int)) = false := bne_eq_false_iff_eq.mpr c3
  have c3b2 : (l0.length == l1.length) = true := by first | simpa using c3 | (simp at c3 ⊢; omega)
  clear c3
  have H' := Aside0.mk H
  clear H
  go_enter Try.func28, Try.ntmps28
  go_wp2
  repeat (go_quiet (fail); try go_wp2)
  go_loopg [5] k (fun kq v5 w' => ∃ (x5_1 : Int), v5 = .int .i64 x5_1 ∧ Aside0 (catchwordref06_Same.l0 kq l0 l1 x5_1 = some r) ∧ Aside0 (kq ≤ k) ∧ Drawn0 w w')
  case atStart => exact ⟨(0), (by first | rfl | (simp; done) | (simp [*]; done)), H', ⟨Nat.le_refl _⟩, by repeat (first | exact Drawn0.refl _ | apply Drawn0.step)⟩
  case round =>
   clear H'
   try clear c1
   try clear c2
   try clear p2
   try clear c3
   try clear c3b0
   try clear c3b1
   try clear c3b2
   obtain ⟨x5_1, rfl, HA, HK1, ⟨m1, rfl⟩⟩ := hrel
   cases gk with
   | zero => exact absurd HA.out (by simp [catchwordref06_Same.l0])
   | succ k1 =>
    have H := HA.out
    clear HA
    simp only [catchwordref06_Same.l0] at H
    by_cases c4 : x5_1 < (l0.length : Int)
    ·
     rw [if_pos c4] at H
     have c4b0 : decide (x5_1 < (l0.length : Int)) = true := decide_eq_true c4
     clear c4
     by_cases c5 : 0 ≤ x5_1
     ·
      rw [if_pos c5] at H
      have c5b0 : decide (0 ≤ x5_1) = true := decide_eq_true c5
      clear c5
      by_cases c6 : x5_1 < (l1.length : Int)
      ·
       rw [if_pos c6] at H
       have c6b0 : decide (x5_1 < (l1.length : Int)) = true := decide_eq_true c6
       clear c6
       replace H := Option.bind_eq_some_iff.mp H
       obtain ⟨t244, A70, H⟩ := H
       replace H : (if t244 = true then (if ((rd_T64 l0 x5_1).f0) = ((rd_T64 l1 x5_1).f0) then (catchwordref06_Same.l0 k1 l0 l1 (wrap64 (x5_1 + 1))) else (some false)) else (some false)) = some r := H
       have A7 := Aside0.mk A70
       clear A70
       by_cases c8 : t244 = true
       ·
        subst c8
        have H1 : (if ((rd_T64 l0 x5_1).f0) = ((rd_T64 l1 x5_1).f0) then (catchwordref06_Same.l0 k1 l0 l1 (wrap64 (x5_1 + 1))) else (some false)) = some r := by rw [if_pos rfl] at H; exact H
        clear H
        have H := H1
        clear H1
        by_cases c9 : ((rd_T64 l0 x5_1).f0) = ((rd_T64 l1 x5_1).f0)
        ·
         rw [if_pos c9] at H
         have c9b0 : (((rd_T64 l0 x5_1).f0) == ((rd_T64 l1 x5_1).f0)) = true := beq_iff_eq.mpr c9
         have c9b1 : (((rd_T64 l0 x5_1).f0) != ((rd_T64 l1 x5_1).f0)) = false := bne_eq_false_iff_eq.mpr c9
         clear c9
         have H' := Aside0.mk H
         clear H
         have p242 : 0 ≤ (x5_1 : Int) := of_decide_eq_true (by first | (with_reducible assumption) | assumption)
         have q242 : x5_1 < (l0.length : Int) := of_decide_eq_true (by first | (with_reducible assumption) | assumption)
         obtain ⟨ad242, A242_1, c242_1, e242, hx242_0, hx242_1, hl242_1, hi242_1⟩ := at_T64 HR0.out x5_1 p242 q242
         cases e242
         have HR242_1 := Aside0.mk hi242_1
         have HC242_1 := Aside0.mk hl242_1
         clear hi242_1 hl242_1
         replace p242 := eq_true p242
         replace q242 := eq_true q242
         have p243 : 0 ≤ (x5_1 : Int) := of_decide_eq_true (by first | (with_reducible assumption) | assumption)
         have q243 : x5_1 < (l1.length : Int) := of_decide_eq_true (by first | (with_reducible assumption) | assumption)
         obtain ⟨ad243, A243_1, c243_1, e243, hx243_0, hx243_1, hl243_1, hi243_1⟩ := at_T64 HR1.out x5_1 p243 q243
         cases e243
         have HR243_1 := Aside0.mk hi243_1
         have HC243_1 := Aside0.mk hl243_1
         clear hi243_1 hl243_1
         replace p243 := eq_true p243
         replace q243 := eq_true q243
         go_wp2_with (first | (go_at_call 27; (with_reducible refine (catchwordref01_Ints.calls k1 _ _ ((rd_T64 l0 x5_1).f1) _ _ ((rd_T64 l1 x5_1).f1) true _ ?side1 ?side2 ?side3 ?side4 A7.out).mono ?_); (case side1 => repeat (first | exact HR242_1.out | (with_reducible refine Kd.C_alloc ?_ _) | (with_reducible refine Kd.C_drewN ?_ _) | (with_reducible refine Kd.C_drew ?_))); (case side2 => exact HC242_1.out); (case side3 => repeat (first | exact HR243_1.out | (with_reducible refine Kd.C_alloc ?_ _) | (with_reducible refine Kd.C_drewN ?_ _) | (with_reducible refine Kd.C_drew ?_))); (case side4 => exact HC243_1.out); rintro e w' ⟨rfl, ⟨nd, rfl⟩⟩; (try first | exact ⟨rfl, _, World.drewN_drewN _ _ _⟩ | exact ⟨rfl, _, Eq.trans (World.drewN_drewN _ _ _) (congrArg (World.drewN _) (Nat.add_assoc _ _ _))⟩); have p245 : 0 ≤ (x5_1 : Int) := of_decide_eq_true (by first | (with_reducible assumption) | assumption); have q245 : x5_1 < (l0.length : Int) := of_decide_eq_true (by first | (with_reducible assumption) | assumption); obtain ⟨ad245, A245_1, c245_1, e245, hx245_0, hx245_1, hl245_1, hi245_1⟩ := at_T64 HR0.out x5_1 p245 q245; obtain rfl : ad242 = ad245 := (by injection e245); have HR245_1 := Aside0.mk hi245_1; have HC245_1 := Aside0.mk hl245_1; clear hi245_1 hl245_1; replace p245 := eq_true p245; replace q245 := eq_true q245; have ea_ := Option.some.inj (hx242_1.symm.trans hx245_1); injection ea_ with ea_ en_ ec_; subst ea_; subst ec_; clear en_; have p246 : 0 ≤ (x5_1 : Int) := of_decide_eq_true (by first | (with_reducible assumption) | assumption); have q246 : x5_1 < (l1.length : Int) := of_decide_eq_true (by first | (with_reducible assumption) | assumption); obtain ⟨ad246, A246_1, c246_1, e246, hx246_0, hx246_1, hl246_1, hi246_1⟩ := at_T64 HR1.out x5_1 p246 q246; obtain rfl : ad243 = ad246 := (by injection e246); have HR246_1 := Aside0.mk hi246_1; have HC246_1 := Aside0.mk hl246_1; clear hi246_1 hl246_1; replace p246 := eq_true p246; replace q246 := eq_true q246; have ea_ := Option.some.inj (hx243_1.symm.trans hx246_1); injection ea_ with ea_ en_ ec_; subst ea_; subst ec_; clear en_))
         repeat (go_quiet (first | (go_at_call 27; (with_reducible refine (catchwordref01_Ints.calls k1 _ _ ((rd_T64 l0 x5_1).f1) _ _ ((rd_T64 l1 x5_1).f1) true _ ?side1 ?side2 ?side3 ?side4 A7.out).mono ?_); (case side1 => repeat (first | exact HR242_1.out | (with_reducible refine Kd.C_alloc ?_ _) | (with_reducible refine Kd.C_drewN ?_ _) | (with_reducible refine Kd.C_drew ?_))); (case side2 => exact HC242_1.out); (case side3 => repeat (first | exact HR243_1.out | (with_reducible refine Kd.C_alloc ?_ _) | (with_reducible refine Kd.C_drewN ?_ _) | (with_reducible refine Kd.C_drew ?_))); (case side4 => exact HC243_1.out); rintro e w' ⟨rfl, ⟨nd, rfl⟩⟩; (try first | exact ⟨rfl, _, World.drewN_drewN _ _ _⟩ | exact ⟨rfl, _, Eq.trans (World.drewN_drewN _ _ _) (congrArg (World.drewN _) (Nat.add_assoc _ _ _))⟩); have p245 : 0 ≤ (x5_1 : Int) := of_decide_eq_true (by first | (with_reducible assumption) | assumption); have q245 : x5_1 < (l0.length : Int) := of_decide_eq_true (by first | (with_reducible assumption) | assumption); obtain ⟨ad245, A245_1, c245_1, e245, hx245_0, hx245_1, hl245_1, hi245_1⟩ := at_T64 HR0.out x5_1 p245 q245; obtain rfl : ad242 = ad245 := (by injection e245); have HR245_1 := Aside0.mk hi245_1; have HC245_1 := Aside0.mk hl245_1; clear hi245_1 hl245_1; replace p245 := eq_true p245; replace q245 := eq_true q245; have ea_ := Option.some.inj (hx242_1.symm.trans hx245_1); injection ea_ with ea_ en_ ec_; subst ea_; subst ec_; clear en_; have p246 : 0 ≤ (x5_1 : Int) := of_decide_eq_true (by first | (with_reducible assumption) | assumption); have q246 : x5_1 < (l1.length : Int) := of_decide_eq_true (by first | (with_reducible assumption) | assumption); obtain ⟨ad246, A246_1, c246_1, e246, hx246_0, hx246_1, hl246_1, hi246_1⟩ := at_T64 HR1.out x5_1 p246 q246; obtain rfl : ad243 = ad246 := (by injection e246); have HR246_1 := Aside0.mk hi246_1; have HC246_1 := Aside0.mk hl246_1; clear hi246_1 hl246_1; replace p246 := eq_true p246; replace q246 := eq_true q246; have ea_ := Option.some.inj (hx243_1.symm.trans hx246_1); injection ea_ with ea_ en_ ec_; subst ea_; subst ec_; clear en_)); try go_wp2_with (first | (go_at_call 27; (with_reducible refine (catchwordref01_Ints.calls k1 _ _ ((rd_T64 l0 x5_1).f1) _ _ ((rd_T64 l1 x5_1).f1) true _ ?side1 ?side2 ?side3 ?side4 A7.out).mono ?_); (case side1 => repeat (first | exact HR242_1.out | (with_reducible refine Kd.C_alloc ?_ _) | (with_reducible refine Kd.C_drewN ?_ _) | (with_reducible refine Kd.C_drew ?_))); (case side2 => exact HC242_1.out); (case side3 => repeat (first | exact HR243_1.out | (with_reducible refine Kd.C_alloc ?_ _) | (with_reducible refine Kd.C_drewN ?_ _) | (with_reducible refine Kd.C_drew ?_))); (case side4 => exact HC243_1.out); rintro e w' ⟨rfl, ⟨nd, rfl⟩⟩; (try first | exact ⟨rfl, _, World.drewN_drewN _ _ _⟩ | exact ⟨rfl, _, Eq.trans (World.drewN_drewN _ _ _) (congrArg (World.drewN _) (Nat.add_assoc _ _ _))⟩); have p245 : 0 ≤ (x5_1 : Int) := of_decide_eq_true (by first | (with_reducible assumption) | assumption); have q245 : x5_1 < (l0.length : Int) := of_decide_eq_true (by first | (with_reducible assumption) | assumption); obtain ⟨ad245, A245_1, c245_1, e245, hx245_0, hx245_1, hl245_1, hi245_1⟩ := at_T64 HR0.out x5_1 p245 q245; obtain rfl : ad242 = ad245 := (by injection e245); have HR245_1 := Aside0.mk hi245_1; have HC245_1 := Aside0.mk hl245_1; clear hi245_1 hl245_1; replace p245 := eq_true p245; replace q245 := eq_true q245; have ea_ := Option.some.inj (hx242_1.symm.trans hx245_1); injection ea_ with ea_ en_ ec_; subst ea_; subst ec_; clear en_; have p246 : 0 ≤ (x5_1 : Int) := of_decide_eq_true (by first | (with_reducible assumption) | assumption); have q246 : x5_1 < (l1.length : Int) := of_decide_eq_true (by first | (with_reducible assumption) | assumption); obtain ⟨ad246, A246_1, c246_1, e246, hx246_0, hx246_1, hl246_1, hi246_1⟩ := at_T64 HR1.out x5_1 p246 q246; obtain rfl : ad243 = ad246 := (by injection e246); have HR246_1 := Aside0.mk hi246_1; have HC246_1 := Aside0.mk hl246_1; clear hi246_1 hl246_1; replace p246 := eq_true p246; replace q246 := eq_true q246; have ea_ := Option.some.inj (hx243_1.symm.trans hx246_1); injection ea_ with ea_ en_ ec_; subst ea_; subst ec_; clear en_)))
         go_roundg k1
         case measure => have := HK1.out; omega
         case rel => exact ⟨(wrap64 (x5_1 + 1)), (by first | rfl | (simp; done) | (simp [*]; done)), H', ⟨by have := HK1.out; omega⟩, by repeat (first | exact Drawn0.refl _ | apply Drawn0.step)⟩
        ·
         rw [if_neg c9] at H
         have c9b0 : (((rd_T64 l0 x5_1).f0) == ((rd_T64 l1 x5_1).f0)) = false := beq_eq_false_iff_ne.mpr c9
         have c9b1 : (((rd_T64 l0 x5_1).f0) != ((rd_T64 l1 x5_1).f0)) = true := bne_iff_ne.mpr c9
         obtain rfl := Option.some.inj H
         have p242 : 0 ≤ (x5_1 : Int) := of_decide_eq_true (by first | (with_reducible assumption) | assumption)
         have q242 : x5_1 < (l0.length : Int) := of_decide_eq_true (by first | (with_reducible assumption) | assumption)
         obtain ⟨ad242, A242_1, c242_1, e242, hx242_0, hx242_1, hl242_1, hi242_1⟩ := at_T64 HR0.out x5_1 p242 q242
         cases e242
         have HR242_1 := Aside0.mk hi242_1
         have HC242_1 := Aside0.mk hl242_1
         clear hi242_1 hl242_1
         replace p242 := eq_true p242
         replace q242 := eq_true q242
         have p243 : 0 ≤ (x5_1 : Int) := of_decide_eq_true (by first | (with_reducible assumption) | assumption)
         have q243 : x5_1 < (l1.length : Int) := of_decide_eq_true (by first | (with_reducible assumption) | assumption)
         obtain ⟨ad243, A243_1, c243_1, e243, hx243_0, hx243_1, hl243_1, hi243_1⟩ := at_T64 HR1.out x5_1 p243 q243
         cases e243
         have HR243_1 := Aside0.mk hi243_1
         have HC243_1 := Aside0.mk hl243_1
         clear hi243_1 hl243_1
         replace p243 := eq_true p243
         replace q243 := eq_true q243
         go_wp2_with (first | (go_at_call 27; (with_reducible refine (catchwordref01_Ints.calls k1 _ _ ((rd_T64 l0 x5_1).f1) _ _ ((rd_T64 l1 x5_1).f1) true _ ?side1 ?side2 ?side3 ?side4 A7.out).mono ?_); (case side1 => repeat (first | exact HR242_1.out | (with_reducible refine Kd.C_alloc ?_ _) | (with_reducible refine Kd.C_drewN ?_ _) | (with_reducible refine Kd.C_drew ?_))); (case side2 => exact HC242_1.out); (case side3 => repeat (first | exact HR243_1.out | (with_reducible refine Kd.C_alloc ?_ _) | (with_reducible refine Kd.C_drewN ?_ _) | (with_reducible refine Kd.C_drew ?_))); (case side4 => exact HC243_1.out); rintro e w' ⟨rfl, ⟨nd, rfl⟩⟩; (try first | exact ⟨rfl, _, World.drewN_drewN _ _ _⟩ | exact ⟨rfl, _, Eq.trans (World.drewN_drewN _ _ _) (congrArg (World.drewN _) (Nat.add_assoc _ _ _))⟩); have p245 : 0 ≤ (x5_1 : Int) := of_decide_eq_true (by first | (with_reducible assumption) | assumption); have q245 : x5_1 < (l0.length : Int) := of_decide_eq_true (by first | (with_reducible assumption) | assumption); obtain ⟨ad245, A245_1, c245_1, e245, hx245_0, hx245_1, hl245_1, hi245_1⟩ := at_T64 HR0.out x5_1 p245 q245; obtain rfl : ad242 = ad245 := (by injection e245); have HR245_1 := Aside0.mk hi245_1; have HC245_1 := Aside0.mk hl245_1; clear hi245_1 hl245_1; replace p245 := eq_true p245; replace q245 := eq_true q245; have ea_ := Option.some.inj (hx242_1.symm.trans hx245_1); injection ea_ with ea_ en_ ec_; subst ea_; subst ec_; clear en_; have p246 : 0 ≤ (x5_1 : Int) := of_decide_eq_true (by first | (with_reducible assumption) | assumption); have q246 : x5_1 < (l1.length : Int) := of_decide_eq_true (by first | (with_reducible assumption) | assumption); obtain ⟨ad246, A246_1, c246_1, e246, hx246_0, hx246_1, hl246_1, hi246_1⟩ := at_T64 HR1.out x5_1 p246 q246; obtain rfl : ad243 = ad246 := (by injection e246); have HR246_1 := Aside0.mk hi246_1; have HC246_1 := Aside0.mk hl246_1; clear hi246_1 hl246_1; replace p246 := eq_true p246; replace q246 := eq_true q246; have ea_ := Option.some.inj (hx243_1.symm.trans hx246_1); injection ea_ with ea_ en_ ec_; subst ea_; subst ec_; clear en_))
         repeat (go_quiet (first | (go_at_call 27; (with_reducible refine (catchwordref01_Ints.calls k1 _ _ ((rd_T64 l0 x5_1).f1) _ _ ((rd_T64 l1 x5_1).f1) true _ ?side1 ?side2 ?side3 ?side4 A7.out).mono ?_); (case side1 => repeat (first | exact HR242_1.out | (with_reducible refine Kd.C_alloc ?_ _) | (with_reducible refine Kd.C_drewN ?_ _) | (with_reducible refine Kd.C_drew ?_))); (case side2 => exact HC242_1.out); (case side3 => repeat (first | exact HR243_1.out | (with_reducible refine Kd.C_alloc ?_ _) | (with_reducible refine Kd.C_drewN ?_ _) | (with_reducible refine Kd.C_drew ?_))); (case side4 => exact HC243_1.out); rintro e w' ⟨rfl, ⟨nd, rfl⟩⟩; (try first | exact ⟨rfl, _, World.drewN_drewN _ _ _⟩ | exact ⟨rfl, _, Eq.trans (World.drewN_drewN _ _ _) (congrArg (World.drewN _) (Nat.add_assoc _ _ _))⟩); have p245 : 0 ≤ (x5_1 : Int) := of_decide_eq_true (by first | (with_reducible assumption) | assumption); have q245 : x5_1 < (l0.length : Int) := of_decide_eq_true (by first | (with_reducible assumption) | assumption); obtain ⟨ad245, A245_1, c245_1, e245, hx245_0, hx245_1, hl245_1, hi245_1⟩ := at_T64 HR0.out x5_1 p245 q245; obtain rfl : ad242 = ad245 := (by injection e245); have HR245_1 := Aside0.mk hi245_1; have HC245_1 := Aside0.mk hl245_1; clear hi245_1 hl245_1; replace p245 := eq_true p245; replace q245 := eq_true q245; have ea_ := Option.some.inj (hx242_1.symm.trans hx245_1); injection ea_ with ea_ en_ ec_; subst ea_; subst ec_; clear en_; have p246 : 0 ≤ (x5_1 : Int) := of_decide_eq_true (by first | (with_reducible assumption) | assumption); have q246 : x5_1 < (l1.length : Int) := of_decide_eq_true (by first | (with_reducible assumption) | assumption); obtain ⟨ad246, A246_1, c246_1, e246, hx246_0, hx246_1, hl246_1, hi246_1⟩ := at_T64 HR1.out x5_1 p246 q246; obtain rfl : ad243 = ad246 := (by injection e246); have HR246_1 := Aside0.mk hi246_1; have HC246_1 := Aside0.mk hl246_1; clear hi246_1 hl246_1; replace p246 := eq_true p246; replace q246 := eq_true q246; have ea_ := Option.some.inj (hx243_1.symm.trans hx246_1); injection ea_ with ea_ en_ ec_; subst ea_; subst ec_; clear en_)); try go_wp2_with (first | (go_at_call 27; (with_reducible refine (catchwordref01_Ints.calls k1 _ _ ((rd_T64 l0 x5_1).f1) _ _ ((rd_T64 l1 x5_1).f1) true _ ?side1 ?side2 ?side3 ?side4 A7.out).mono ?_); (case side1 => repeat (first | exact HR242_1.out | (with_reducible refine Kd.C_alloc ?_ _) | (with_reducible refine Kd.C_drewN ?_ _) | (with_reducible refine Kd.C_drew ?_))); (case side2 => exact HC242_1.out); (case side3 => repeat (first | exact HR243_1.out | (with_reducible refine Kd.C_alloc ?_ _) | (with_reducible refine Kd.C_drewN ?_ _) | (with_reducible refine Kd.C_drew ?_))); (case side4 => exact HC243_1.out); rintro e w' ⟨rfl, ⟨nd, rfl⟩⟩; (try first | exact ⟨rfl, _, World.drewN_drewN _ _ _⟩ | exact ⟨rfl, _, Eq.trans (World.drewN_drewN _ _ _) (congrArg (World.drewN _) (Nat.add_assoc _ _ _))⟩); have p245 : 0 ≤ (x5_1 : Int) := of_decide_eq_true (by first | (with_reducible assumption) | assumption); have q245 : x5_1 < (l0.length : Int) := of_decide_eq_true (by first | (with_reducible assumption) | assumption); obtain ⟨ad245, A245_1, c245_1, e245, hx245_0, hx245_1, hl245_1, hi245_1⟩ := at_T64 HR0.out x5_1 p245 q245; obtain rfl : ad242 = ad245 := (by injection e245); have HR245_1 := Aside0.mk hi245_1; have HC245_1 := Aside0.mk hl245_1; clear hi245_1 hl245_1; replace p245 := eq_true p245; replace q245 := eq_true q245; have ea_ := Option.some.inj (hx242_1.symm.trans hx245_1); injection ea_ with ea_ en_ ec_; subst ea_; subst ec_; clear en_; have p246 : 0 ≤ (x5_1 : Int) := of_decide_eq_true (by first | (with_reducible assumption) | assumption); have q246 : x5_1 < (l1.length : Int) := of_decide_eq_true (by first | (with_reducible assumption) | assumption); obtain ⟨ad246, A246_1, c246_1, e246, hx246_0, hx246_1, hl246_1, hi246_1⟩ := at_T64 HR1.out x5_1 p246 q246; obtain rfl : ad243 = ad246 := (by injection e246); have HR246_1 := Aside0.mk hi246_1; have HC246_1 := Aside0.mk hl246_1; clear hi246_1 hl246_1; replace p246 := eq_true p246; replace q246 := eq_true q246; have ea_ := Option.some.inj (hx243_1.symm.trans hx246_1); injection ea_ with ea_ en_ ec_; subst ea_; subst ec_; clear en_)))
         go_ret
         exact ⟨by first | rfl | (simp; done) | (simp [*]; done), by repeat (first | exact Drawn0.refl _ | apply Drawn0.step)⟩
       ·
        replace c8 := Bool.eq_false_iff.mpr c8
        subst c8
        have H1 : (some false) = some r := by rw [if_neg (show ¬ (false = true) by decide)] at H; exact H
        clear H
        have H := H1
        clear H1
        obtain rfl := Option.some.inj H
        have p242 : 0 ≤ (x5_1 : Int) := of_decide_eq_true (by first | (with_reducible assumption) | assumption)
        have q242 : x5_1 < (l0.length : Int) := of_decide_eq_true (by first | (with_reducible assumption) | assumption)
        obtain ⟨ad242, A242_1, c242_1, e242, hx242_0, hx242_1, hl242_1, hi242_1⟩ := at_T64 HR0.out x5_1 p242 q242
        cases e242
        have HR242_1 := Aside0.mk hi242_1
        have HC242_1 := Aside0.mk hl242_1
        clear hi242_1 hl242_1
        replace p242 := eq_true p242
        replace q242 := eq_true q242
        have p243 : 0 ≤ (x5_1 : Int) := of_decide_eq_true (by first | (with_reducible assumption) | assumption)
        have q243 : x5_1 < (l1.length : Int) := of_decide_eq_true (by first | (with_reducible assumption) | assumption)
        obtain ⟨ad243, A243_1, c243_1, e243, hx243_0, hx243_1, hl243_1, hi243_1⟩ := at_T64 HR1.out x5_1 p243 q243
        cases e243
        have HR243_1 := Aside0.mk hi243_1
        have HC243_1 := Aside0.mk hl243_1
        clear hi243_1 hl243_1
        replace p243 := eq_true p243
        replace q243 := eq_true q243
        go_wp2_with (first | (go_at_call 27; (with_reducible refine (catchwordref01_Ints.calls k1 _ _ ((rd_T64 l0 x5_1).f1) _ _ ((rd_T64 l1 x5_1).f1) false _ ?side1 ?side2 ?side3 ?side4 A7.out).mono ?_); (case side1 => repeat (first | exact HR242_1.out | (with_reducible refine Kd.C_alloc ?_ _) | (with_reducible refine Kd.C_drewN ?_ _) | (with_reducible refine Kd.C_drew ?_))); (case side2 => exact HC242_1.out); (case side3 => repeat (first | exact HR243_1.out | (with_reducible refine Kd.C_alloc ?_ _) | (with_reducible refine Kd.C_drewN ?_ _) | (with_reducible refine Kd.C_drew ?_))); (case side4 => exact HC243_1.out); rintro e w' ⟨rfl, ⟨nd, rfl⟩⟩; (try first | exact ⟨rfl, _, World.drewN_drewN _ _ _⟩ | exact ⟨rfl, _, Eq.trans (World.drewN_drewN _ _ _) (congrArg (World.drewN _) (Nat.add_assoc _ _ _))⟩)))
        repeat (go_quiet (first | (go_at_call 27; (with_reducible refine (catchwordref01_Ints.calls k1 _ _ ((rd_T64 l0 x5_1).f1) _ _ ((rd_T64 l1 x5_1).f1) false _ ?side1 ?side2 ?side3 ?side4 A7.out).mono ?_); (case side1 => repeat (first | exact HR242_1.out | (with_reducible refine Kd.C_alloc ?_ _) | (with_reducible refine Kd.C_drewN ?_ _) | (with_reducible refine Kd.C_drew ?_))); (case side2 => exact HC242_1.out); (case side3 => repeat (first | exact HR243_1.out | (with_reducible refine Kd.C_alloc ?_ _) | (with_reducible refine Kd.C_drewN ?_ _) | (with_reducible refine Kd.C_drew ?_))); (case side4 => exact HC243_1.out); rintro e w' ⟨rfl, ⟨nd, rfl⟩⟩; (try first | exact ⟨rfl, _, World.drewN_drewN _ _ _⟩ | exact ⟨rfl, _, Eq.trans (World.drewN_drewN _ _ _) (congrArg (World.drewN _) (Nat.add_assoc _ _ _))⟩))); try go_wp2_with (first | (go_at_call 27; (with_reducible refine (catchwordref01_Ints.calls k1 _ _ ((rd_T64 l0 x5_1).f1) _ _ ((rd_T64 l1 x5_1).f1) false _ ?side1 ?side2 ?side3 ?side4 A7.out).mono ?_); (case side1 => repeat (first | exact HR242_1.out | (with_reducible refine Kd.C_alloc ?_ _) | (with_reducible refine Kd.C_drewN ?_ _) | (with_reducible refine Kd.C_drew ?_))); (case side2 => exact HC242_1.out); (case side3 => repeat (first | exact HR243_1.out | (with_reducible refine Kd.C_alloc ?_ _) | (with_reducible refine Kd.C_drewN ?_ _) | (with_reducible refine Kd.C_drew ?_))); (case side4 => exact HC243_1.out); rintro e w' ⟨rfl, ⟨nd, rfl⟩⟩; (try first | exact ⟨rfl, _, World.drewN_drewN _ _ _⟩ | exact ⟨rfl, _, Eq.trans (World.drewN_drewN _ _ _) (congrArg (World.drewN _) (Nat.add_assoc _ _ _))⟩))))
        go_ret
        exact ⟨by first | rfl | (simp; done) | (simp [*]; done), by repeat (first | exact Drawn0.refl _ | apply Drawn0.step)⟩
      ·
       rw [if_neg c6] at H
       exact absurd H (by simp)
     ·
      rw [if_neg c5] at H
      exact absurd H (by simp)
    ·
     rw [if_neg c4] at H
     have c4b0 : decide (x5_1 < (l0.length : Int)) = false := decide_eq_false c4
     clear c4
     obtain rfl := Option.some.inj H
     go_wp2
     repeat (go_quiet (fail); try go_wp2)
     go_ret
     exact ⟨by first | rfl | (simp; done) | (simp [*]; done), by repeat (first | exact Drawn0.refl _ | apply Drawn0.step)⟩
 ·
  rw [if_neg c3] at H
  have c3b0 : ((l0.length : Int) == (l1.length : Int)) = false := beq_eq_false_iff_ne.mpr c3
  have c3b1 : ((l0.length : Int) != (l1.length : Int)) = true := bne_iff_ne.mpr c3
  have c3b2 : (l0.length == l1.length) = false := by first | simpa using c3 | (simp at c3 ⊢; omega)
  obtain rfl := Option.some.inj H
  go_enter Try.func28, Try.ntmps28
  go_wp2
  repeat (go_quiet (fail); try go_wp2)
  go_ret
  exact ⟨by first | rfl | (simp; done) | (simp [*]; done), by repeat (first | exact Drawn0.refl _ | apply Drawn0.step)⟩

end Go.Proofs.Ytfhcolhiolgikaa.T
/- Written by hp.py, this session's own program, out of the translation of this seat: Lean functions for the Go functions, and the proof that each call comes to what its Lean function says. -/
namespace Go.Proofs.Ytfhcolhiolgikaa.T
open Go.RowKit Go.Proofs.YtfhcolhiolgikaaW.PrintWords Go.Proofs.YtfhcolhiolgikaaW.PrintLast Go.Proofs.YtfhcolhiolgikaaW.PrintMore
attribute [local go_sem] max2_int min2_int max_two min_two max_three min_three max_four min_four   -- for this text's walks alone
set_option linter.unusedVariables false
set_option linter.unusedSimpArgs false

/-! ### catchwordref01_Put: function 29 -/
mutual
def catchwordref01_Put.j0 : Nat → Int → List Int → Bool → Option (List Int)
 | 0, _, _, _ => none
 | k + 1, x0, x3, x9 => if x9 = true then (some ([] : List Int)) else (catchwordref01_Put.l0 k x0 x3)
def catchwordref01_Put.l0 : Nat → Int → List Int → Option (List Int)
 | 0, _, _ => none
 | k + 1, x0, x3 => if x0 ≥ 128 then (if x3.length < 140737488355328 then (catchwordref01_Put.l0 k (wrap64 (Int.tdiv x0 128)) (x3 ++ [(wrap64 (128 + (Int.tmod x0 128))) % 256])) else (none)) else (if x3.length < 140737488355328 then (some (x3 ++ [(x0) % 256])) else (none))
end
def catchwordref01_Put.f (k : Nat) (a0 : Int) : Option (List Int) := if a0 < 0 then (catchwordref01_Put.j0 k a0 ([] : List Int) true) else (catchwordref01_Put.j0 k a0 ([] : List Int) (decide (a0 > 34359738367)))
set_option maxHeartbeats 8000000 in
set_option maxRecDepth 100000 in
theorem catchwordref01_Put.calls (k : Nat) (a0 : Int) (r : List Int) (w : World) (h : catchwordref01_Put.f k a0 = some r) :
  Calls Try.prog 29 #[.int .i64 a0] w fun e w' => ∃ v0_ : Value, e = .returned (v0_) ∧ Kd.R (Kd.int .u8) 5 w' w.heap.size (fun _ => True) v0_ r ∧ Below w.heap.size w w' := by
 have HB := Aside0.mk (Below.refl w.heap.size w)
 have H : (if a0 < 0 then (catchwordref01_Put.j0 k a0 ([] : List Int) true) else (catchwordref01_Put.j0 k a0 ([] : List Int) (decide (a0 > 34359738367)))) = some r := h
 clear h
 have HC2 := Aside0.mk H
 clear H
 go_enter Try.func29, Try.ntmps29
 go_upto_region 2 with (fail)
 go_cut [9] (fun v9 wc => ∃ (kq : Nat) (x9_1 : Bool), v9 = .bool x9_1 ∧ Aside0 (catchwordref01_Put.j0 kq a0 ([] : List Int) x9_1 = some r) ∧ Aside0 (kq ≤ k) ∧ Aside0 (Kd.R (Kd.int .u8) 5 wc w.heap.size (fun _ => True) (.slice none 0 0) ([] : List Int)) ∧ Aside0 (Below w.heap.size w wc))
 case first =>
  have H := HC2.out
  clear HC2
  by_cases c3 : a0 < 0
  ·
   rw [if_pos c3] at H
   have c3b0 : decide (a0 < 0) = true := decide_eq_true c3
   clear c3
   (first | rw [c3b0] | (simp only [i64_w, i32_w]; rw [c3b0]) | skip)
   have H' := Aside0.mk H
   clear H
   go_wp2
   go_meet
   case rel => exact ⟨_, (true), (by first | rfl | (simp; done) | (simp [*]; done)), H', ⟨by first | omega | exact Nat.le_refl _⟩, ⟨by first | exact Kd.R_nil _ _ _ _ _ | exact Kd.N_nil _ _ _ _ _ | exact Kd.V_nil _ _ _ _ _ | exact Kd.Q_nil _ _ _ _ _ | exact Kd.S_nil _ _ _ _ _⟩, ⟨by repeat (first | (with_reducible first | exact HB.out | apply below_alloc | apply pw_below_drewN | apply below_drew1) | exact HB.out)⟩⟩
  ·
   rw [if_neg c3] at H
   have c3b0 : decide (a0 < 0) = false := decide_eq_false c3
   clear c3
   (first | rw [c3b0] | (simp only [i64_w, i32_w]; rw [c3b0]) | skip)
   have H' := Aside0.mk H
   clear H
   go_wp2
   go_meet
   case rel => exact ⟨_, (decide (a0 > 34359738367)), (by first | rfl | (simp; done) | (simp [*]; done)), H', ⟨by first | omega | exact Nat.le_refl _⟩, ⟨by first | exact Kd.R_nil _ _ _ _ _ | exact Kd.N_nil _ _ _ _ _ | exact Kd.V_nil _ _ _ _ _ | exact Kd.Q_nil _ _ _ _ _ | exact Kd.S_nil _ _ _ _ _⟩, ⟨by repeat (first | (with_reducible first | exact HB.out | apply below_alloc | apply pw_below_drewN | apply below_drew1) | exact HB.out)⟩⟩
 case rest =>
  clear HC2
  try clear c2
  try clear p2
  try clear c3
  try clear c3b0
  obtain ⟨kq, x9_1, rfl, HA, HJ1, HO_3, HB⟩ := hcut
  cases kq with
  | zero => exact absurd HA.out (by simp [catchwordref01_Put.j0])
  | succ kj1 =>
   have H := HA.out
   clear HA
   simp only [catchwordref01_Put.j0] at H
   by_cases c4 : x9_1 = true
   ·
    subst c4
    have H1 : (some ([] : List Int)) = some r := by rw [if_pos rfl] at H; exact H
    clear H
    have H := H1
    clear H1
    obtain rfl := Option.some.inj H
    go_wp2
    go_ret
    exact ⟨_, by first | rfl | (simp [errW_none, errW_some] <;> rfl) | (simp [*, errW_none, errW_some] <;> rfl), by first | exact Kd.R_nil _ _ _ _ _ | exact Kd.N_nil _ _ _ _ _ | exact Kd.V_nil _ _ _ _ _ | exact Kd.Q_nil _ _ _ _ _ | exact Kd.S_nil _ _ _ _ _, by repeat (first | (with_reducible first | exact HB.out | apply below_alloc | apply pw_below_drewN | apply below_drew1) | exact HB.out)⟩
   ·
    replace c4 := Bool.eq_false_iff.mpr c4
    subst c4
    have H1 : (catchwordref01_Put.l0 kj1 a0 ([] : List Int)) = some r := by rw [if_neg (show ¬ (false = true) by decide)] at H; exact H
    clear H
    have H := H1
    clear H1
    have H' := Aside0.mk H
    clear H
    go_wp2
    go_loopg [0, 3] kj1 (fun kq v0 v3 w' => ∃ (x0_2 : Int) (x3_2 : List Int), v0 = .int .i64 x0_2 ∧ Aside0 (catchwordref01_Put.l0 kq x0_2 x3_2 = some r) ∧ Aside0 (kq ≤ kj1) ∧ Aside0 (Kd.R (Kd.int .u8) 5 w' w.heap.size (fun _ => True) v3 x3_2) ∧ Aside0 (Below w.heap.size w w'))
    case atStart => exact ⟨(a0), (([] : List Int)), (by first | rfl | (simp; done) | (simp [*]; done)), H', ⟨Nat.le_refl _⟩, ⟨by (with_reducible repeat (first | apply Kd.R_alloc | apply Kd.R_drewN | apply Kd.R_drew)); exact HO_3.out⟩, ⟨by repeat (first | (with_reducible first | exact HB.out | apply below_alloc | apply pw_below_drewN | apply below_drew1) | exact HB.out)⟩⟩
    case round =>
     clear H'
     try clear c2
     try clear p2
     try clear c3
     try clear c3b0
     try clear c4
     try clear p2
     obtain ⟨x0_2, x3_2, rfl, HA, HK2, HO_3, HB⟩ := hrel
     cases gk with
     | zero => exact absurd HA.out (by simp [catchwordref01_Put.l0])
     | succ k2 =>
      have H := HA.out
      clear HA
      simp only [catchwordref01_Put.l0] at H
      by_cases c5 : x0_2 ≥ 128
      ·
       rw [if_pos c5] at H
       have c5b0 : decide (128 ≤ x0_2) = true := decide_eq_true c5
       clear c5
       by_cases c6 : x3_2.length < 140737488355328
       ·
        rw [if_pos c6] at H
        have LMc6 := Aside0.mk c6
        clear c6
        obtain ⟨y259, hy259⟩ : ∃ y_ : List Int, y_ = (x3_2 ++ [(wrap64 (128 + (Int.tmod x0_2 128))) % 256]) := ⟨_, rfl⟩
        replace H : (catchwordref01_Put.l0 k2 (wrap64 (Int.tdiv x0_2 128)) y259) = some r := by first | (rw [hy259]; with_reducible exact H) | (have H2_ := (Option.bind_some _ _).symm.trans H; rw [hy259]; with_reducible exact H2_) | (have H2_ := (Option.bind_some _ _).symm.trans H; with_reducible exact H2_) | with_reducible exact H | (rw [hy259]; exact H) | exact H
        have Ny259 := Aside0.mk hy259
        clear hy259
        have H' := Aside0.mk H
        clear H
        go_wp2_with (first | ((with_reducible refine gate_builtin (b := .append) (xs := #[.tmp 12, .tmp 17]) rfl ?_); at_builtin; refine Kd.R_append (Kd.int .u8) (w0 := w) w.heap.size rfl (.tmp 12) (.tmp 17) 29 5 (.int .u8 0) 1 rfl Try.underlying29 info5 rfl (by decide) (by omega) u3 x3_2 ((wrap64 (128 + (Int.tmod x0_2 128))) % 256) [.int .u8 ((wrap64 (128 + (Int.tmod x0_2 128))) % 256)] (fun _ => True) (fun _ => False) rfl rfl ?aP (fun _ hk => hk.elim) ?aF ?aO ?aB ?aS ?aL ?_; (case aP => exact rfl); (case aB => exact (by repeat (first | (with_reducible first | exact HB.out | apply below_alloc | apply pw_below_drewN | apply below_drew1) | exact HB.out))); (case aF => exact (fun _ _ => trivial)); (case aO => exact (by (with_reducible repeat (first | apply Kd.R_alloc | apply Kd.R_drewN | apply Kd.R_drew)); exact HO_3.out)); (case aS => exact (below_size (by repeat (first | (with_reducible first | exact HB.out | apply below_alloc | apply pw_below_drewN | apply below_drew1) | exact HB.out)))); (case aL => have := LMc6.out; omega); intro v260 w7 ho hb hg hat; rw [← Ny259.out] at ho; have n0_ := Aside0.mk (hb); have n1_ := Aside0.mk (ho); clear HB; clear HO_3; have HB := n0_; have HO261 := n1_; clear n0_ n1_; clear ho hb hg hat))
        go_roundg k2
        case measure => have := HJ1.out; have := HK2.out; omega
        case rel => exact ⟨(wrap64 (Int.tdiv x0_2 128)), (y259), (by first | rfl | (simp; done) | (simp [*]; done)), H', ⟨by have := HJ1.out; have := HK2.out; omega⟩, ⟨by (with_reducible repeat (first | apply Kd.R_alloc | apply Kd.R_drewN | apply Kd.R_drew)); exact HO261.out⟩, ⟨by repeat (first | (with_reducible first | exact HB.out | apply below_alloc | apply pw_below_drewN | apply below_drew1) | exact HB.out)⟩⟩
       ·
        rw [if_neg c6] at H
        exact absurd H (by simp)
      ·
       rw [if_neg c5] at H
       have c5b0 : decide (128 ≤ x0_2) = false := decide_eq_false c5
       clear c5
       by_cases c8 : x3_2.length < 140737488355328
       ·
        rw [if_pos c8] at H
        have LMc8 := Aside0.mk c8
        clear c8
        obtain ⟨y262, hy262⟩ : ∃ y_ : List Int, y_ = (x3_2 ++ [(x0_2) % 256]) := ⟨_, rfl⟩
        replace H : (some y262) = some r := by first | (rw [hy262]; with_reducible exact H) | (have H2_ := (Option.bind_some _ _).symm.trans H; rw [hy262]; with_reducible exact H2_) | (have H2_ := (Option.bind_some _ _).symm.trans H; with_reducible exact H2_) | with_reducible exact H | (rw [hy262]; exact H) | exact H
        have Ny262 := Aside0.mk hy262
        clear hy262
        obtain rfl := Option.some.inj H
        go_wp2_with (first | ((with_reducible refine gate_builtin (b := .append) (xs := #[.tmp 21, .tmp 24]) rfl ?_); at_builtin; refine Kd.R_append (Kd.int .u8) (w0 := w) w.heap.size rfl (.tmp 21) (.tmp 24) 29 5 (.int .u8 0) 1 rfl Try.underlying29 info5 rfl (by decide) (by omega) u3 x3_2 ((x0_2) % 256) [.int .u8 ((x0_2) % 256)] (fun _ => True) (fun _ => False) rfl rfl ?aP (fun _ hk => hk.elim) ?aF ?aO ?aB ?aS ?aL ?_; (case aP => exact rfl); (case aB => exact (by repeat (first | (with_reducible first | exact HB.out | apply below_alloc | apply pw_below_drewN | apply below_drew1) | exact HB.out))); (case aF => exact (fun _ _ => trivial)); (case aO => exact (by (with_reducible repeat (first | apply Kd.R_alloc | apply Kd.R_drewN | apply Kd.R_drew)); exact HO_3.out)); (case aS => exact (below_size (by repeat (first | (with_reducible first | exact HB.out | apply below_alloc | apply pw_below_drewN | apply below_drew1) | exact HB.out)))); (case aL => have := LMc8.out; omega); intro v263 w9 ho hb hg hat; rw [← Ny262.out] at ho; have n0_ := Aside0.mk (hb); have n1_ := Aside0.mk (ho); clear HB; clear HO_3; have HB := n0_; have HO264 := n1_; clear n0_ n1_; clear ho hb hg hat))
        go_ret
        exact ⟨_, by first | rfl | (simp [errW_none, errW_some] <;> rfl) | (simp [*, errW_none, errW_some] <;> rfl), by (with_reducible repeat (first | apply Kd.R_alloc | apply Kd.R_drewN | apply Kd.R_drew)); exact HO264.out, by repeat (first | (with_reducible first | exact HB.out | apply below_alloc | apply pw_below_drewN | apply below_drew1) | exact HB.out)⟩
       ·
        rw [if_neg c8] at H
        exact absurd H (by simp)

/-! ### catchwordref02_Sum: function 30 -/
mutual
def catchwordref02_Sum.l0 : Nat → List Int → Int → Int → Option (Int)
 | 0, _, _, _ => none
 | k + 1, x0, x3, x4 => if x4 < (x0.length : Int) then (if 0 ≤ x4 then (catchwordref02_Sum.l1 k x0 (Go.bits .xor .u32 x3 ((rd x0 x4) % 4294967296)) x4 0) else (none)) else (some ((4294967295 - x3) % 4294967296))
def catchwordref02_Sum.l1 : Nat → List Int → Int → Int → Int → Option (Int)
 | 0, _, _, _, _ => none
 | k + 1, x0, x3, x4, x5 => if x5 < 8 then (if (Int.tmod x3 2) = 1 then (catchwordref02_Sum.l1 k x0 (Go.bits .xor .u32 ((Int.tdiv x3 2) % 4294967296) 2197175160) x4 (wrap64 (x5 + 1))) else (catchwordref02_Sum.l1 k x0 ((Int.tdiv x3 2) % 4294967296) x4 (wrap64 (x5 + 1)))) else (catchwordref02_Sum.l0 k x0 x3 (wrap64 (x4 + 1)))
end
def catchwordref02_Sum.f (k : Nat) (l0 : List Int) : Option (Int) := catchwordref02_Sum.l0 k l0 4294967295 0
set_option maxHeartbeats 8000000 in
set_option maxRecDepth 100000 in
theorem catchwordref02_Sum.calls (k : Nat) (A0 : Option Addr) (c0 : Nat) (l0 : List Int) (r : Int) (w : World) (hr0 : Kd.C (Kd.int .u8) w A0 l0.length l0) (hc0 : l0.length ≤ c0) (h : catchwordref02_Sum.f k l0 = some r) :
  Calls Try.prog 30 #[.slice A0 l0.length c0] w fun e w' => e = .returned (.int .u32 r) ∧ Drawn0 w w' := by
 have HR0 := Aside0.mk hr0
 have HC0 := Aside0.mk hc0
 clear hr0 hc0
 have H : (catchwordref02_Sum.l0 k l0 4294967295 0) = some r := h
 clear h
 have H' := Aside0.mk H
 clear H
 go_enter Try.func30, Try.ntmps30
 go_wp2
 go_loopg [3, 4] k (fun kq v3 v4 w' => ∃ (x3_1 : Int) (x4_1 : Int), v3 = .int .u32 x3_1 ∧ v4 = .int .i64 x4_1 ∧ Aside0 (catchwordref02_Sum.l0 kq l0 x3_1 x4_1 = some r) ∧ Aside0 (kq ≤ k) ∧ Drawn0 w w')
 case atStart => exact ⟨(4294967295), (0), (by first | rfl | (simp; done) | (simp [*]; done)), (by first | rfl | (simp; done) | (simp [*]; done)), H', ⟨Nat.le_refl _⟩, by repeat (first | exact Drawn0.refl _ | apply Drawn0.step)⟩
 case round =>
  clear H'
  obtain ⟨x3_1, x4_1, rfl, rfl, HA, HK1, ⟨m1, rfl⟩⟩ := hrel
  cases gk with
  | zero => exact absurd HA.out (by simp [catchwordref02_Sum.l0])
  | succ k1 =>
   have H := HA.out
   clear HA
   simp only [catchwordref02_Sum.l0] at H
   by_cases c2 : x4_1 < (l0.length : Int)
   ·
    rw [if_pos c2] at H
    have c2b0 : decide (x4_1 < (l0.length : Int)) = true := decide_eq_true c2
    clear c2
    by_cases c3 : 0 ≤ x4_1
    ·
     rw [if_pos c3] at H
     have c3b0 : decide (0 ≤ x4_1) = true := decide_eq_true c3
     clear c3
     have H' := Aside0.mk H
     clear H
     have p265 : 0 ≤ (x4_1 : Int) := of_decide_eq_true (by first | (with_reducible assumption) | assumption)
     have q265 : x4_1 < (l0.length : Int) := of_decide_eq_true (by first | (with_reducible assumption) | assumption)
     obtain ⟨ad265, e265, hx265_0⟩ := Kd.at_int HR0.out x4_1 p265 q265
     cases e265
     replace p265 := eq_true p265
     replace q265 := eq_true q265
     go_wp2
     go_loopg [3, 5] k1 (fun kq v3 v5 w' => ∃ (x3_2 : Int) (x5_2 : Int), v3 = .int .u32 x3_2 ∧ v5 = .int .i64 x5_2 ∧ Aside0 (catchwordref02_Sum.l1 kq l0 x3_2 x4_1 x5_2 = some r) ∧ Aside0 (kq ≤ k1) ∧ Drawn0 w w')
     case atStart => exact ⟨(Go.bits .xor .u32 x3_1 ((rd l0 x4_1) % 4294967296)), (0), (by first | rfl | (simp; done) | (simp [*]; done)), (by first | rfl | (simp; done) | (simp [*]; done)), H', ⟨Nat.le_refl _⟩, by repeat (first | exact Drawn0.refl _ | apply Drawn0.step)⟩
     case round =>
      clear H'
      try clear c2
      try clear c2b0
      try clear p2
      try clear q2
      try clear hx2
      try clear c3
      try clear c3b0
      try clear hx265_0
      try clear p265
      try clear q265
      obtain ⟨x3_2, x5_2, rfl, rfl, HA, HK2, ⟨m2, rfl⟩⟩ := hrel
      cases gk with
      | zero => exact absurd HA.out (by simp [catchwordref02_Sum.l1])
      | succ k2 =>
       have H := HA.out
       clear HA
       simp only [catchwordref02_Sum.l1] at H
       by_cases c4 : x5_2 < 8
       ·
        rw [if_pos c4] at H
        have c4b0 : decide (x5_2 < 8) = true := decide_eq_true c4
        clear c4
        by_cases c5 : (Int.tmod x3_2 2) = 1
        ·
         rw [if_pos c5] at H
         have c5b0 : ((Int.tmod x3_2 2) == 1) = true := beq_iff_eq.mpr c5
         have c5b1 : ((Int.tmod x3_2 2) != 1) = false := bne_eq_false_iff_eq.mpr c5
         clear c5
         have H' := Aside0.mk H
         clear H
         go_wp2
         go_roundg k2
         case measure => have := HK1.out; have := HK2.out; omega
         case rel => exact ⟨(Go.bits .xor .u32 ((Int.tdiv x3_2 2) % 4294967296) 2197175160), (wrap64 (x5_2 + 1)), (by first | rfl | (simp; done) | (simp [*]; done)), (by first | rfl | (simp; done) | (simp [*]; done)), H', ⟨by have := HK1.out; have := HK2.out; omega⟩, by repeat (first | exact Drawn0.refl _ | apply Drawn0.step)⟩
        ·
         rw [if_neg c5] at H
         have c5b0 : ((Int.tmod x3_2 2) == 1) = false := beq_eq_false_iff_ne.mpr c5
         have c5b1 : ((Int.tmod x3_2 2) != 1) = true := bne_iff_ne.mpr c5
         have H' := Aside0.mk H
         clear H
         go_wp2
         go_roundg k2
         case measure => have := HK1.out; have := HK2.out; omega
         case rel => exact ⟨((Int.tdiv x3_2 2) % 4294967296), (wrap64 (x5_2 + 1)), (by first | rfl | (simp; done) | (simp [*]; done)), (by first | rfl | (simp; done) | (simp [*]; done)), H', ⟨by have := HK1.out; have := HK2.out; omega⟩, by repeat (first | exact Drawn0.refl _ | apply Drawn0.step)⟩
       ·
        rw [if_neg c4] at H
        have c4b0 : decide (x5_2 < 8) = false := decide_eq_false c4
        clear c4
        have H' := Aside0.mk H
        clear H
        go_wp2
        go_roundg k2
        case measure => have := HK1.out; have := HK2.out; omega
        case rel => exact ⟨(x3_2), (wrap64 (x4_1 + 1)), (by first | rfl | (simp; done) | (simp [*]; done)), (by first | rfl | (simp; done) | (simp [*]; done)), H', ⟨by have := HK1.out; have := HK2.out; omega⟩, by repeat (first | exact Drawn0.refl _ | apply Drawn0.step)⟩
    ·
     rw [if_neg c3] at H
     exact absurd H (by simp)
   ·
    rw [if_neg c2] at H
    have c2b0 : decide (x4_1 < (l0.length : Int)) = false := decide_eq_false c2
    clear c2
    obtain rfl := Option.some.inj H
    go_wp2
    go_ret
    exact ⟨by first | rfl | (simp; done) | (simp [*]; done), by repeat (first | exact Drawn0.refl _ | apply Drawn0.step)⟩

/-! ### catchwordref02_Wrap: function 13 -/
def catchwordref02_Wrap.l0 : Nat → List Int → Int → Int → Option (List Int)
 | 0, _, _, _ => none
 | k + 1, x5, x6, x7 => if x7 < 4 then (if x5.length < 140737488355328 then (catchwordref02_Wrap.l0 k (x5 ++ [(Int.tmod x6 256) % 256]) ((Int.tdiv x6 256) % 4294967296) (wrap64 (x7 + 1))) else (none)) else (some x5)
def catchwordref02_Wrap.f (k : Nat) (a0 : Int) (l1 : List Int) : Option (List Int) := if (l1.length : Int) > 65536 then (some ([] : List Int)) else ((some (([70, a0] : List Int) : List Int)).bind fun y266 => ((catchwordref01_Put.f k (l1.length : Int)).bind fun t269 => (if y266.length + t269.length < 140737488355328 then ((some (y266 ++ t269 : List Int)).bind fun y272 => (if y272.length + l1.length < 140737488355328 then ((some (y272 ++ l1 : List Int)).bind fun y275 => ((catchwordref02_Sum.f k y275).bind fun t278 => (catchwordref02_Wrap.l0 k y275 t278 0))) else (none))) else (none))))
set_option maxHeartbeats 8000000 in
set_option maxRecDepth 100000 in
theorem catchwordref02_Wrap.calls (k : Nat) (a0 : Int) (A1 : Option Addr) (c1 : Nat) (l1 : List Int) (r : List Int) (w : World) (hr1 : Kd.C (Kd.int .u8) w A1 l1.length l1) (hc1 : l1.length ≤ c1) (h : catchwordref02_Wrap.f k a0 l1 = some r) :
  Calls Try.prog 13 #[.int .u8 a0, .slice A1 l1.length c1] w fun e w' => ∃ v0_ : Value, e = .returned (v0_) ∧ Kd.R (Kd.int .u8) 5 w' w.heap.size (fun _ => True) v0_ r ∧ Below w.heap.size w w' := by
 have HR1 := Aside0.mk hr1
 have HC1 := Aside0.mk hc1
 clear hr1 hc1
 have HB := Aside0.mk (Below.refl w.heap.size w)
 have H : (if (l1.length : Int) > 65536 then (some ([] : List Int)) else ((some (([70, a0] : List Int) : List Int)).bind fun y266 => ((catchwordref01_Put.f k (l1.length : Int)).bind fun t269 => (if y266.length + t269.length < 140737488355328 then ((some (y266 ++ t269 : List Int)).bind fun y272 => (if y272.length + l1.length < 140737488355328 then ((some (y272 ++ l1 : List Int)).bind fun y275 => ((catchwordref02_Sum.f k y275).bind fun t278 => (catchwordref02_Wrap.l0 k y275 t278 0))) else (none))) else (none))))) = some r := h
 clear h
 by_cases c3 : (l1.length : Int) > 65536
 ·
  rw [if_pos c3] at H
  have c3b0 : decide (65536 < (l1.length : Int)) = true := decide_eq_true c3
  have c3b1 : decide (65536 < l1.length) = true := decide_eq_true (by omega)
  clear c3
  obtain rfl := Option.some.inj H
  go_enter Try.func13, Try.ntmps13
  go_wp2
  go_ret
  exact ⟨_, by first | rfl | (simp [errW_none, errW_some] <;> rfl) | (simp [*, errW_none, errW_some] <;> rfl), by first | exact Kd.R_nil _ _ _ _ _ | exact Kd.N_nil _ _ _ _ _ | exact Kd.V_nil _ _ _ _ _ | exact Kd.Q_nil _ _ _ _ _ | exact Kd.S_nil _ _ _ _ _, by repeat (first | (with_reducible first | exact HB.out | apply below_alloc | apply pw_below_drewN | apply below_drew1) | exact HB.out)⟩
 ·
  rw [if_neg c3] at H
  have c3b0 : decide (65536 < (l1.length : Int)) = false := decide_eq_false c3
  have c3b1 : decide (65536 < l1.length) = false := decide_eq_false (by omega)
  clear c3
  obtain ⟨y266, hy266⟩ : ∃ y_ : List Int, y_ = (([70, a0] : List Int)) := ⟨_, rfl⟩
  replace H : ((catchwordref01_Put.f k (l1.length : Int)).bind fun t269 => (if y266.length + t269.length < 140737488355328 then ((some (y266 ++ t269 : List Int)).bind fun y272 => (if y272.length + l1.length < 140737488355328 then ((some (y272 ++ l1 : List Int)).bind fun y275 => ((catchwordref02_Sum.f k y275).bind fun t278 => (catchwordref02_Wrap.l0 k y275 t278 0))) else (none))) else (none))) = some r := by first | (rw [hy266]; with_reducible exact H) | (have H2_ := (Option.bind_some _ _).symm.trans H; rw [hy266]; with_reducible exact H2_) | (have H2_ := (Option.bind_some _ _).symm.trans H; with_reducible exact H2_) | with_reducible exact H | (rw [hy266]; exact H) | exact H
  have Ny266 := Aside0.mk hy266
  clear hy266
  replace H := Option.bind_eq_some_iff.mp H
  obtain ⟨t269, A40, H⟩ := H
  replace H : (if y266.length + t269.length < 140737488355328 then ((some (y266 ++ t269 : List Int)).bind fun y272 => (if y272.length + l1.length < 140737488355328 then ((some (y272 ++ l1 : List Int)).bind fun y275 => ((catchwordref02_Sum.f k y275).bind fun t278 => (catchwordref02_Wrap.l0 k y275 t278 0))) else (none))) else (none)) = some r := H
  have A4 := Aside0.mk A40
  clear A40
  by_cases c5 : y266.length + t269.length < 140737488355328
  ·
   rw [if_pos c5] at H
   have LMc5 := Aside0.mk c5
   clear c5
   obtain ⟨y272, hy272⟩ : ∃ y_ : List Int, y_ = (y266 ++ t269) := ⟨_, rfl⟩
   replace H : (if y272.length + l1.length < 140737488355328 then ((some (y272 ++ l1 : List Int)).bind fun y275 => ((catchwordref02_Sum.f k y275).bind fun t278 => (catchwordref02_Wrap.l0 k y275 t278 0))) else (none)) = some r := by first | (rw [hy272]; with_reducible exact H) | (have H2_ := (Option.bind_some _ _).symm.trans H; rw [hy272]; with_reducible exact H2_) | (have H2_ := (Option.bind_some _ _).symm.trans H; with_reducible exact H2_) | with_reducible exact H | (rw [hy272]; exact H) | exact H
   have Ny272 := Aside0.mk hy272
   clear hy272
   by_cases c6 : y272.length + l1.length < 140737488355328
   ·
    rw [if_pos c6] at H
    have LMc6 := Aside0.mk c6
    clear c6
    obtain ⟨y275, hy275⟩ : ∃ y_ : List Int, y_ = (y272 ++ l1) := ⟨_, rfl⟩
    replace H : ((catchwordref02_Sum.f k y275).bind fun t278 => (catchwordref02_Wrap.l0 k y275 t278 0)) = some r := by first | (rw [hy275]; with_reducible exact H) | (have H2_ := (Option.bind_some _ _).symm.trans H; rw [hy275]; with_reducible exact H2_) | (have H2_ := (Option.bind_some _ _).symm.trans H; with_reducible exact H2_) | with_reducible exact H | (rw [hy275]; exact H) | exact H
    have Ny275 := Aside0.mk hy275
    clear hy275
    replace H := Option.bind_eq_some_iff.mp H
    obtain ⟨t278, A70, H⟩ := H
    replace H : (catchwordref02_Wrap.l0 k y275 t278 0) = some r := H
    have A7 := Aside0.mk A70
    clear A70
    have H' := Aside0.mk H
    clear H
    go_enter Try.func13, Try.ntmps13
    go_wp2_with (first | ((with_reducible refine gate_dst (N := 12) rfl ?_); refine Kd.R_lit (Kd.int .u8) _ 5 ?hg (N := 12) ?hd (xs := ([70, a0] : List Int)) (inner := [.int .u8 70, .int .u8 a0]) (ok := fun _ => True) (okp := fun _ => True) ?hr ?hp (fun _ hk => hk) trivial (Below.refl _ _) (Nat.le_refl _) (by simp) ?_; (case hd => rfl); (case hg => rfl); (case hr => first | (go_simp; done) | (go_simp; rfl)); (case hp => exact (Reps.one (show Kd.M (Kd.int .u8) _ _ _ 70 [.int .u8 70] from rfl) (Reps.one (show Kd.M (Kd.int .u8) _ _ _ a0 [.int .u8 a0] from rfl) (Reps.none _ _)))); intro v267 w8 ho9 hb hg_ hnew_; clear hg_ hnew_; (first | rw [← Ny266.out] at ho9 | (simp only [Int.reduceToNat] at ho9; rw [← Ny266.out] at ho9)); have n0_ := Aside0.mk (Kd.R_lower ho9 (below_size (by repeat (first | (with_reducible first | exact HB.out | apply below_alloc | apply pw_below_drewN | apply below_drew1) | exact HB.out)))); have n1_ := Aside0.mk (below_step (by repeat (first | (with_reducible first | exact HB.out | apply below_alloc | apply pw_below_drewN | apply below_drew1) | exact HB.out)) hb); clear HB; have HO268 := n0_; have HB := n1_; clear n0_ n1_; clear hb ho9) | ((with_reducible refine gate_callee (f := 29) rfl ?_); refine goesL_ (some 15) rfl rfl Try.func29 (by kernel_rfl) rfl #[.int .i64 (l1.length : Int)] rfl (by (try simp only [List.map_toArray, List.map_cons, List.map_nil]); first | done | rfl | (simp only [List.length_drop, List.length_take]; rfl)) ?_; (with_reducible refine (catchwordref01_Put.calls k (l1.length : Int) t269 _ A4.out).mono ?_); rintro e w10 ⟨v270, rfl, ho0, hb⟩; refine ⟨_, rfl, ?_⟩; have n0_ := Aside0.mk (Kd.R_elder' (by (with_reducible repeat (first | apply Kd.R_alloc | apply Kd.R_drewN | apply Kd.R_drew)); exact HO268.out) (Kd.R_base ho0) hb); have n1_ := Aside0.mk (Kd.R_lower (Kd.R_new' ho0 (Kd.R_lt (by (with_reducible repeat (first | apply Kd.R_alloc | apply Kd.R_drewN | apply Kd.R_drew)); exact HO268.out))) (below_size (by repeat (first | (with_reducible first | exact HB.out | apply below_alloc | apply pw_below_drewN | apply below_drew1) | exact HB.out)))); have n2_ := Aside0.mk (below_step (by repeat (first | (with_reducible first | exact HB.out | apply below_alloc | apply pw_below_drewN | apply below_drew1) | exact HB.out)) hb); clear HO268; clear HB; have HO268 := n0_; have HO271 := n1_; have HB := n2_; clear n0_ n1_ n2_; (try clear hb); (try clear hb2); (try clear hk); (try clear hi); (try clear ho0); obtain ⟨Ao12, co12, eo12⟩ := Kd.R_slice HO271.out; subst eo12) | ((with_reducible refine gate_builtin (b := .append) (xs := #[.tmp 12, .tmp 15]) rfl ?_); at_builtin; refine Kd.R_append_rows (Kd.int .u8) (w0 := w) w.heap.size rfl (.tmp 12) (.tmp 15) 29 5 (.int .u8 0) 1 rfl Try.underlying29 info5 rfl (by decide) (by omega) v267 y266 t269 _ _ _ (fun k_ => some k_ ≠ (.slice Ao12 t269.length co12 : Value).ownBlock) (fun _ => False) rfl rfl ?aO ?aR (fun _ _ h => h) (fun _ h => h.elim) ?aF ?aB ?aS ?aL ?_; (case aR => repeat (first | exact (Kd.R_reads' HO271.out).2.2 | (with_reducible refine Kd.C_alloc ?_ _) | (with_reducible refine Kd.C_drewN ?_ _) | (with_reducible refine Kd.C_drew ?_))); (case aB => exact (by repeat (first | (with_reducible first | exact HB.out | apply below_alloc | apply pw_below_drewN | apply below_drew1) | exact HB.out))); (case aF => exact (fun k_ hk => Kd.fresh' (Kd.R_lt (by (with_reducible repeat (first | apply Kd.R_alloc | apply Kd.R_drewN | apply Kd.R_drew)); exact HO271.out)) k_ hk)); (case aO => exact (by (with_reducible repeat (first | apply Kd.R_alloc | apply Kd.R_drewN | apply Kd.R_drew)); exact Kd.R_mono HO268.out (fun _ hk => hk.2))); (case aS => exact (below_size (by repeat (first | (with_reducible first | exact HB.out | apply below_alloc | apply pw_below_drewN | apply below_drew1) | exact HB.out)))); (case aL => have := LMc5.out; omega); intro v273 w11 ho hb hg hat; rw [← Ny272.out] at ho; have n0_ := Aside0.mk (Kd.R_after (ok := (fun _ => True)) (by (with_reducible repeat (first | apply Kd.R_alloc | apply Kd.R_drewN | apply Kd.R_drew)); exact HO271.out) hg hat); have n1_ := Aside0.mk (hb); have n2_ := Aside0.mk (ho); clear HO271; clear HB; clear HO268; have HO271 := n0_; have HB := n1_; have HO274 := n2_; clear n0_ n1_ n2_; clear ho hb hg hat) | ((with_reducible refine gate_builtin (b := .append) (xs := #[.tmp 17, .tmp 18]) rfl ?_); at_builtin; refine Kd.R_append_rows (Kd.int .u8) (w0 := w) w.heap.size rfl (.tmp 17) (.tmp 18) 29 5 (.int .u8 0) 1 rfl Try.underlying29 info5 rfl (by decide) (by omega) v273 y272 l1 _ _ _ (fun k_ => some k_ ≠ (.slice Ao12 t269.length co12 : Value).ownBlock) (fun _ => False) rfl rfl ?aO ?aR (fun _ _ h => h) (fun _ h => h.elim) ?aF ?aB ?aS ?aL ?_; (case aR => repeat (first | exact (Kd.C_below HR1.out HB.out) | (with_reducible refine Kd.C_alloc ?_ _) | (with_reducible refine Kd.C_drewN ?_ _) | (with_reducible refine Kd.C_drew ?_))); (case aB => exact (by repeat (first | (with_reducible first | exact HB.out | apply below_alloc | apply pw_below_drewN | apply below_drew1) | exact HB.out))); (case aF => exact (fun k_ hk => Kd.fresh' (Kd.R_lt (by (with_reducible repeat (first | apply Kd.R_alloc | apply Kd.R_drewN | apply Kd.R_drew)); exact HO271.out)) k_ hk)); (case aO => exact (by (with_reducible repeat (first | apply Kd.R_alloc | apply Kd.R_drewN | apply Kd.R_drew)); exact HO274.out)); (case aS => exact (below_size (by repeat (first | (with_reducible first | exact HB.out | apply below_alloc | apply pw_below_drewN | apply below_drew1) | exact HB.out)))); (case aL => have := LMc6.out; omega); intro v276 w13 ho hb hg hat; rw [← Ny275.out] at ho; have n0_ := Aside0.mk (Kd.R_after (ok := (fun _ => True)) (by (with_reducible repeat (first | apply Kd.R_alloc | apply Kd.R_drewN | apply Kd.R_drew)); exact HO271.out) hg hat); have n1_ := Aside0.mk (hb); have n2_ := Aside0.mk (ho); clear HO271; clear HB; clear HO274; have HO271 := n0_; have HB := n1_; have HO277 := n2_; clear n0_ n1_ n2_; clear ho hb hg hat; obtain ⟨Ao14, co14, eo14⟩ := Kd.R_slice HO277.out; subst eo14) | ((with_reducible refine gate_callee (f := 30) rfl ?_); refine goesL_ (some 21) rfl rfl Try.func30 (by kernel_rfl) rfl #[.slice Ao14 y275.length co14] rfl (by (try simp only [List.map_toArray, List.map_cons, List.map_nil]); first | done | rfl | (simp only [List.length_drop, List.length_take]; rfl)) ?_; (with_reducible refine (catchwordref02_Sum.calls k _ _ y275 t278 _ ?side1 ?side2 A7.out).mono ?_); (case side1 => repeat (first | exact (Kd.R_reads' HO277.out).2.2 | (with_reducible refine Kd.C_alloc ?_ _) | (with_reducible refine Kd.C_drewN ?_ _) | (with_reducible refine Kd.C_drew ?_))); (case side2 => exact (Kd.R_reads' HO277.out).2.1); rintro e w' ⟨rfl, ⟨nd, rfl⟩⟩; refine ⟨_, rfl, ?_⟩))
    go_loopg [5, 6, 7] k (fun kq v5 v6 v7 w' => ∃ (x5_1 : List Int) (x6_1 : Int) (x7_1 : Int), v6 = .int .u32 x6_1 ∧ v7 = .int .i64 x7_1 ∧ Aside0 (catchwordref02_Wrap.l0 kq x5_1 x6_1 x7_1 = some r) ∧ Aside0 (kq ≤ k) ∧ Aside0 (Kd.R (Kd.int .u8) 5 w' w.heap.size (fun _ => True) v5 x5_1) ∧ Aside0 (Below w.heap.size w w'))
    case atStart => exact ⟨(y275), (t278), (0), (by first | rfl | (simp; done) | (simp [*]; done)), (by first | rfl | (simp; done) | (simp [*]; done)), H', ⟨Nat.le_refl _⟩, ⟨by (with_reducible repeat (first | apply Kd.R_alloc | apply Kd.R_drewN | apply Kd.R_drew)); exact Kd.R_mono HO277.out (fun _ hk => trivial)⟩, ⟨by repeat (first | (with_reducible first | exact HB.out | apply below_alloc | apply pw_below_drewN | apply below_drew1) | exact HB.out)⟩⟩
    case round =>
     clear H'
     try clear c1
     try clear c2
     try clear p2
     try clear c3
     try clear c3b0
     try clear c3b1
     try clear c5
     try clear c6
     try clear c13
     obtain ⟨x5_1, x6_1, x7_1, rfl, rfl, HA, HK1, HO_5, HB⟩ := hrel
     cases gk with
     | zero => exact absurd HA.out (by simp [catchwordref02_Wrap.l0])
     | succ k1 =>
      have H := HA.out
      clear HA
      simp only [catchwordref02_Wrap.l0] at H
      by_cases c15 : x7_1 < 4
      ·
       rw [if_pos c15] at H
       have c15b0 : decide (x7_1 < 4) = true := decide_eq_true c15
       clear c15
       by_cases c16 : x5_1.length < 140737488355328
       ·
        rw [if_pos c16] at H
        have LMc16 := Aside0.mk c16
        clear c16
        obtain ⟨y279, hy279⟩ : ∃ y_ : List Int, y_ = (x5_1 ++ [(Int.tmod x6_1 256) % 256]) := ⟨_, rfl⟩
        replace H : (catchwordref02_Wrap.l0 k1 y279 ((Int.tdiv x6_1 256) % 4294967296) (wrap64 (x7_1 + 1))) = some r := by first | (rw [hy279]; with_reducible exact H) | (have H2_ := (Option.bind_some _ _).symm.trans H; rw [hy279]; with_reducible exact H2_) | (have H2_ := (Option.bind_some _ _).symm.trans H; with_reducible exact H2_) | with_reducible exact H | (rw [hy279]; exact H) | exact H
        have Ny279 := Aside0.mk hy279
        clear hy279
        have H' := Aside0.mk H
        clear H
        go_wp2_with (first | ((with_reducible refine gate_builtin (b := .append) (xs := #[.tmp 26, .tmp 30]) rfl ?_); at_builtin; refine Kd.R_append (Kd.int .u8) (w0 := w) w.heap.size rfl (.tmp 26) (.tmp 30) 29 5 (.int .u8 0) 1 rfl Try.underlying29 info5 rfl (by decide) (by omega) u5 x5_1 ((Int.tmod x6_1 256) % 256) [.int .u8 ((Int.tmod x6_1 256) % 256)] (fun _ => True) (fun _ => False) rfl rfl ?aP (fun _ hk => hk.elim) ?aF ?aO ?aB ?aS ?aL ?_; (case aP => exact rfl); (case aB => exact (by repeat (first | (with_reducible first | exact HB.out | apply below_alloc | apply pw_below_drewN | apply below_drew1) | exact HB.out))); (case aF => exact (fun _ _ => trivial)); (case aO => exact (by (with_reducible repeat (first | apply Kd.R_alloc | apply Kd.R_drewN | apply Kd.R_drew)); exact HO_5.out)); (case aS => exact (below_size (by repeat (first | (with_reducible first | exact HB.out | apply below_alloc | apply pw_below_drewN | apply below_drew1) | exact HB.out)))); (case aL => have := LMc16.out; omega); intro v280 w17 ho hb hg hat; rw [← Ny279.out] at ho; have n0_ := Aside0.mk (hb); have n1_ := Aside0.mk (ho); clear HB; clear HO_5; have HB := n0_; have HO281 := n1_; clear n0_ n1_; clear ho hb hg hat))
        go_roundg k1
        case measure => have := HK1.out; omega
        case rel => exact ⟨(y279), ((Int.tdiv x6_1 256) % 4294967296), (wrap64 (x7_1 + 1)), (by first | rfl | (simp; done) | (simp [*]; done)), (by first | rfl | (simp; done) | (simp [*]; done)), H', ⟨by have := HK1.out; omega⟩, ⟨by (with_reducible repeat (first | apply Kd.R_alloc | apply Kd.R_drewN | apply Kd.R_drew)); exact HO281.out⟩, ⟨by repeat (first | (with_reducible first | exact HB.out | apply below_alloc | apply pw_below_drewN | apply below_drew1) | exact HB.out)⟩⟩
       ·
        rw [if_neg c16] at H
        exact absurd H (by simp)
      ·
       rw [if_neg c15] at H
       have c15b0 : decide (x7_1 < 4) = false := decide_eq_false c15
       clear c15
       obtain rfl := Option.some.inj H
       go_wp2
       go_ret
       exact ⟨_, by first | rfl | (simp [errW_none, errW_some] <;> rfl) | (simp [*, errW_none, errW_some] <;> rfl), by (with_reducible repeat (first | apply Kd.R_alloc | apply Kd.R_drewN | apply Kd.R_drew)); exact HO_5.out, by repeat (first | (with_reducible first | exact HB.out | apply below_alloc | apply pw_below_drewN | apply below_drew1) | exact HB.out)⟩
   ·
    rw [if_neg c6] at H
    exact absurd H (by simp)
  ·
   rw [if_neg c5] at H
   exact absurd H (by simp)

/-! ### catchwordlaw06_Few: function 14 -/
def catchwordlaw06_Few.l0 : Nat → List (S64) → Int → Option (Bool)
 | 0, _, _ => none
 | k + 1, x0, x3 => if x3 < (x0.length : Int) then (if 0 ≤ x3 then (if (((rd_T64 x0 x3).f1).length : Int) > 130 then (some false) else (catchwordlaw06_Few.l0 k x0 (wrap64 (x3 + 1)))) else (none)) else (some true)
def catchwordlaw06_Few.f (k : Nat) (l0 : List (S64)) : Option (Bool) := if (l0.length : Int) > 70 then (some false) else (catchwordlaw06_Few.l0 k l0 0)
set_option maxHeartbeats 8000000 in
set_option maxRecDepth 100000 in
theorem catchwordlaw06_Few.calls (k : Nat) (A0 : Option Addr) (c0 : Nat) (l0 : List (S64)) (r : Bool) (w : World) (hr0 : Kd.C k64 w A0 l0.length l0) (hc0 : l0.length ≤ c0) (h : catchwordlaw06_Few.f k l0 = some r) :
  Calls Try.prog 14 #[.slice A0 l0.length c0] w fun e w' => e = .returned (.bool r) ∧ Drawn0 w w' := by
 have HR0 := Aside0.mk hr0
 have HC0 := Aside0.mk hc0
 clear hr0 hc0
 have H : (if (l0.length : Int) > 70 then (some false) else (catchwordlaw06_Few.l0 k l0 0)) = some r := h
 clear h
 by_cases c2 : (l0.length : Int) > 70
 ·
  rw [if_pos c2] at H
  have c2b0 : decide (70 < (l0.length : Int)) = true := decide_eq_true c2
  have c2b1 : decide (70 < l0.length) = true := decide_eq_true (by omega)
  clear c2
  obtain rfl := Option.some.inj H
  go_enter Try.func14, Try.ntmps14
  go_wp2
  go_ret
  exact ⟨by first | rfl | (simp; done) | (simp [*]; done), by repeat (first | exact Drawn0.refl _ | apply Drawn0.step)⟩
 ·
  rw [if_neg c2] at H
  have c2b0 : decide (70 < (l0.length : Int)) = false := decide_eq_false c2
  have c2b1 : decide (70 < l0.length) = false := decide_eq_false (by omega)
  clear c2
  have H' := Aside0.mk H
  clear H
  go_enter Try.func14, Try.ntmps14
  go_wp2
  go_loopg [3] k (fun kq v3 w' => ∃ (x3_1 : Int), v3 = .int .i64 x3_1 ∧ Aside0 (catchwordlaw06_Few.l0 kq l0 x3_1 = some r) ∧ Aside0 (kq ≤ k) ∧ Drawn0 w w')
  case atStart => exact ⟨(0), (by first | rfl | (simp; done) | (simp [*]; done)), H', ⟨Nat.le_refl _⟩, by repeat (first | exact Drawn0.refl _ | apply Drawn0.step)⟩
  case round =>
   clear H'
   try clear c1
   try clear c2
   try clear c2b0
   try clear c2b1
   try clear p2
   obtain ⟨x3_1, rfl, HA, HK1, ⟨m1, rfl⟩⟩ := hrel
   cases gk with
   | zero => exact absurd HA.out (by simp [catchwordlaw06_Few.l0])
   | succ k1 =>
    have H := HA.out
    clear HA
    simp only [catchwordlaw06_Few.l0] at H
    by_cases c3 : x3_1 < (l0.length : Int)
    ·
     rw [if_pos c3] at H
     have c3b0 : decide (x3_1 < (l0.length : Int)) = true := decide_eq_true c3
     clear c3
     by_cases c4 : 0 ≤ x3_1
     ·
      rw [if_pos c4] at H
      have c4b0 : decide (0 ≤ x3_1) = true := decide_eq_true c4
      clear c4
      by_cases c5 : (((rd_T64 l0 x3_1).f1).length : Int) > 130
      ·
       rw [if_pos c5] at H
       have c5b0 : decide (130 < (((rd_T64 l0 x3_1).f1).length : Int)) = true := decide_eq_true c5
       have c5b1 : decide (130 < ((rd_T64 l0 x3_1).f1).length) = true := decide_eq_true (by omega)
       clear c5
       obtain rfl := Option.some.inj H
       have p282 : 0 ≤ (x3_1 : Int) := of_decide_eq_true (by first | (with_reducible assumption) | assumption)
       have q282 : x3_1 < (l0.length : Int) := of_decide_eq_true (by first | (with_reducible assumption) | assumption)
       obtain ⟨ad282, A282_1, c282_1, e282, hx282_0, hx282_1, hl282_1, hi282_1⟩ := at_T64 HR0.out x3_1 p282 q282
       cases e282
       have HR282_1 := Aside0.mk hi282_1
       have HC282_1 := Aside0.mk hl282_1
       clear hi282_1 hl282_1
       replace p282 := eq_true p282
       replace q282 := eq_true q282
       go_wp2
       go_ret
       exact ⟨by first | rfl | (simp; done) | (simp [*]; done), by repeat (first | exact Drawn0.refl _ | apply Drawn0.step)⟩
      ·
       rw [if_neg c5] at H
       have c5b0 : decide (130 < (((rd_T64 l0 x3_1).f1).length : Int)) = false := decide_eq_false c5
       have c5b1 : decide (130 < ((rd_T64 l0 x3_1).f1).length) = false := decide_eq_false (by omega)
       clear c5
       have H' := Aside0.mk H
       clear H
       have p282 : 0 ≤ (x3_1 : Int) := of_decide_eq_true (by first | (with_reducible assumption) | assumption)
       have q282 : x3_1 < (l0.length : Int) := of_decide_eq_true (by first | (with_reducible assumption) | assumption)
       obtain ⟨ad282, A282_1, c282_1, e282, hx282_0, hx282_1, hl282_1, hi282_1⟩ := at_T64 HR0.out x3_1 p282 q282
       cases e282
       have HR282_1 := Aside0.mk hi282_1
       have HC282_1 := Aside0.mk hl282_1
       clear hi282_1 hl282_1
       replace p282 := eq_true p282
       replace q282 := eq_true q282
       go_wp2
       go_roundg k1
       case measure => have := HK1.out; omega
       case rel => exact ⟨(wrap64 (x3_1 + 1)), (by first | rfl | (simp; done) | (simp [*]; done)), H', ⟨by have := HK1.out; omega⟩, by repeat (first | exact Drawn0.refl _ | apply Drawn0.step)⟩
     ·
      rw [if_neg c4] at H
      exact absurd H (by simp)
    ·
     rw [if_neg c3] at H
     have c3b0 : decide (x3_1 < (l0.length : Int)) = false := decide_eq_false c3
     clear c3
     obtain rfl := Option.some.inj H
     go_wp2
     go_ret
     exact ⟨by first | rfl | (simp; done) | (simp [*]; done), by repeat (first | exact Drawn0.refl _ | apply Drawn0.step)⟩

end Go.Proofs.Ytfhcolhiolgikaa.T
/- Written by hp.py, this session's own program, out of the translation of this seat: Lean functions for the Go functions, and the proof that each call comes to what its Lean function says. -/
namespace Go.Proofs.Ytfhcolhiolgikaa.T
open Go.RowKit Go.Proofs.YtfhcolhiolgikaaW.PrintWords Go.Proofs.YtfhcolhiolgikaaW.PrintLast Go.Proofs.YtfhcolhiolgikaaW.PrintMore
attribute [local go_sem] max2_int min2_int max_two min_two max_three min_three max_four min_four   -- for this text's walks alone
set_option linter.unusedVariables false
set_option linter.unusedSimpArgs false

/-! ### catchwordlaw08_FewSeg: function 7 -/
mutual
def catchwordlaw08_FewSeg.j0 : Nat → Bool → List ByteArray → List Int → List Int → List (S44) → Bool → Option (Bool)
 | 0, _, _, _, _, _, _ => none
 | k + 1, x27, x284000, x284001, x284002, x284003, x284004 => if x27 = true then (some false) else (catchwordlaw08_FewSeg.l0 k 0 x284000 x284001 x284002 x284003 x284004)
def catchwordlaw08_FewSeg.l0 : Nat → Int → List ByteArray → List Int → List Int → List (S44) → Bool → Option (Bool)
 | 0, _, _, _, _, _, _ => none
 | k + 1, x3, x284000, x284001, x284002, x284003, x284004 => if x3 < (x284000.length : Int) then (if 0 ≤ x3 then (if ((rdOf ByteArray.empty x284000 x3).size : Int) > 40 then (some false) else (catchwordlaw08_FewSeg.l0 k (wrap64 (x3 + 1)) x284000 x284001 x284002 x284003 x284004)) else (none)) else (catchwordlaw08_FewSeg.l1 k 0 x284000 x284001 x284002 x284003 x284004)
def catchwordlaw08_FewSeg.l1 : Nat → Int → List ByteArray → List Int → List Int → List (S44) → Bool → Option (Bool)
 | 0, _, _, _, _, _, _ => none
 | k + 1, x4, x284000, x284001, x284002, x284003, x284004 => if x4 < (x284003.length : Int) then (if 0 ≤ x4 then ((catchwordlaw06_Few.f k ((rd_T44 x284003 x4).f1)).bind fun t286 => (if t286 = true then (if (((rd_T44 x284003 x4).f0).size : Int) > 40 then (some false) else (catchwordlaw08_FewSeg.l1 k (wrap64 (x4 + 1)) x284000 x284001 x284002 x284003 x284004)) else (some false))) else (none)) else (some true)
end
def catchwordlaw08_FewSeg.f (k : Nat) (l0_0 : List ByteArray) (l0_1 : List Int) (l0_2 : List Int) (l0_3 : List (S44)) (a0_4 : Bool) : Option (Bool) := if (l0_0.length : Int) > 70 then (catchwordlaw08_FewSeg.j0 k true l0_0 l0_1 l0_2 l0_3 a0_4) else (if (l0_1.length : Int) > 70 then (catchwordlaw08_FewSeg.j0 k true l0_0 l0_1 l0_2 l0_3 a0_4) else (if (l0_2.length : Int) > 70 then (catchwordlaw08_FewSeg.j0 k true l0_0 l0_1 l0_2 l0_3 a0_4) else (catchwordlaw08_FewSeg.j0 k (decide ((l0_3.length : Int) > 210)) l0_0 l0_1 l0_2 l0_3 a0_4)))
set_option maxHeartbeats 8000000 in
set_option maxRecDepth 100000 in
theorem catchwordlaw08_FewSeg.calls (k : Nat) (A0_0 : Option Addr) (c0_0 : Nat) (l0_0 : List ByteArray) (A0_1 : Option Addr) (c0_1 : Nat) (l0_1 : List Int) (A0_2 : Option Addr) (c0_2 : Nat) (l0_2 : List Int) (A0_3 : Option Addr) (c0_3 : Nat) (l0_3 : List (S44)) (a0_4 : Bool) (r : Bool) (w : World) (hr0_0 : Kd.C Kd.string w A0_0 l0_0.length l0_0) (hc0_0 : l0_0.length ≤ c0_0) (hr0_1 : Kd.C (Kd.int .i64) w A0_1 l0_1.length l0_1) (hc0_1 : l0_1.length ≤ c0_1) (hr0_2 : Kd.C (Kd.int .i64) w A0_2 l0_2.length l0_2) (hc0_2 : l0_2.length ≤ c0_2) (hr0_3 : Kd.C k44 w A0_3 l0_3.length l0_3) (hc0_3 : l0_3.length ≤ c0_3) (h : catchwordlaw08_FewSeg.f k l0_0 l0_1 l0_2 l0_3 a0_4 = some r) :
  Calls Try.prog 7 #[.agg #[.slice A0_0 l0_0.length c0_0, .slice A0_1 l0_1.length c0_1, .slice A0_2 l0_2.length c0_2, .slice A0_3 l0_3.length c0_3, .bool a0_4]] w fun e w' => e = .returned (.bool r) ∧ Below w.heap.size w w' := by
 have hu26 := Try.underlying26
 have HR0_0 := Aside0.mk hr0_0
 have HC0_0 := Aside0.mk hc0_0
 clear hr0_0 hc0_0
 have HR0_1 := Aside0.mk hr0_1
 have HC0_1 := Aside0.mk hc0_1
 clear hr0_1 hc0_1
 have HR0_2 := Aside0.mk hr0_2
 have HC0_2 := Aside0.mk hc0_2
 clear hr0_2 hc0_2
 have HR0_3 := Aside0.mk hr0_3
 have HC0_3 := Aside0.mk hc0_3
 clear hr0_3 hc0_3
 have HB := Aside0.mk (Below.refl w.heap.size w)
 have H : (if (l0_0.length : Int) > 70 then (catchwordlaw08_FewSeg.j0 k true l0_0 l0_1 l0_2 l0_3 a0_4) else (if (l0_1.length : Int) > 70 then (catchwordlaw08_FewSeg.j0 k true l0_0 l0_1 l0_2 l0_3 a0_4) else (if (l0_2.length : Int) > 70 then (catchwordlaw08_FewSeg.j0 k true l0_0 l0_1 l0_2 l0_3 a0_4) else (catchwordlaw08_FewSeg.j0 k (decide ((l0_3.length : Int) > 210)) l0_0 l0_1 l0_2 l0_3 a0_4)))) = some r := h
 clear h
 have HC2 := Aside0.mk H
 clear H
 go_enter Try.func7, Try.ntmps7
 go_upto_region 1 with (first | ((with_reducible refine gate_dst (N := 1) rfl ?_); (try (refine gate_guard (by rfl) ?_; dsimp only)); refine box_event ?hg (N := 1) ?hd (cs := #[.slice A0_0 l0_0.length c0_0, .slice A0_1 l0_1.length c0_1, .slice A0_2 l0_2.length c0_2, .slice A0_3 l0_3.length c0_3, .bool a0_4]) (t := 26) ?hr ?_; (case hd => rfl); (case hg => rfl); (case hr => first | (go_simp; done) | (go_simp; rfl)); intro gb283 hg w3 hbox hb; have n0_ := Aside0.mk (below_step (by repeat (first | (with_reducible first | exact HB.out | apply below_alloc | apply pw_below_drewN | apply below_drew1) | exact HB.out)) hb); have n1_ := Aside0.mk (hbox); have n2_ := Aside0.mk ((by rw [hg]; exact (below_size (by repeat (first | (with_reducible first | exact HB.out | apply below_alloc | apply pw_below_drewN | apply below_drew1) | exact HB.out))) : w.heap.size ≤ gb283)); have n3_ := Aside0.mk ((by rw [hg]; exact (below_size (by repeat (first | (with_reducible first | exact HB.out | apply below_alloc | apply pw_below_drewN | apply below_drew1) | exact HB.out))) : w.heap.size ≤ gb283)); clear HB; have HB := n0_; have BK283 := n1_; have GW283 := n2_; have GE283 := n3_; clear n0_ n1_ n2_ n3_; clear hb hbox hg))
 (try simp only [Act.put, List.setIfInBounds_toArray, List.set_cons_zero, List.set_cons_succ])
 go_cut [27] (fun v27 wc => ∃ (kq : Nat) (x27_1 : Bool), v27 = .bool x27_1 ∧ Aside0 (catchwordlaw08_FewSeg.j0 kq x27_1 l0_0 l0_1 l0_2 l0_3 a0_4 = some r) ∧ Aside0 (kq ≤ k) ∧ Aside0 (wc.heap[gb283]? = some (.cells #[(.slice A0_0 l0_0.length c0_0), (.slice A0_1 l0_1.length c0_1), (.slice A0_2 l0_2.length c0_2), (.slice A0_3 l0_3.length c0_3), .bool a0_4] 26 (0, 0))) ∧ Aside0 (Below w.heap.size w wc))
 case first =>
  have H := HC2.out
  clear HC2
  by_cases c4 : (l0_0.length : Int) > 70
  ·
   rw [if_pos c4] at H
   have c4b0 : decide (70 < (l0_0.length : Int)) = true := decide_eq_true c4
   have c4b1 : decide (70 < l0_0.length) = true := decide_eq_true (by omega)
   clear c4
   (first | rw [c4b0] | (simp only [i64_w, i32_w]; rw [c4b0]) | skip)
   have H' := Aside0.mk H
   clear H
   have hcz5_0 : w3.cell? ⟨gb283, 0, none⟩ = some (.slice A0_0 l0_0.length c0_0) := (blk_cell BK283.out 0).trans rfl
   have hcz5_1 : w3.cell? ⟨gb283, 1, none⟩ = some (.slice A0_1 l0_1.length c0_1) := (blk_cell BK283.out 1).trans rfl
   have hcz5_2 : w3.cell? ⟨gb283, 2, none⟩ = some (.slice A0_2 l0_2.length c0_2) := (blk_cell BK283.out 2).trans rfl
   have hcz5_3 : w3.cell? ⟨gb283, 3, none⟩ = some (.slice A0_3 l0_3.length c0_3) := (blk_cell BK283.out 3).trans rfl
   have hcz5_4 : w3.cell? ⟨gb283, 4, none⟩ = some (.bool a0_4) := (blk_cell BK283.out 4).trans rfl
   have hfz5_0 := blk_frozen BK283.out 0
   have hfz5_1 := blk_frozen BK283.out 1
   have hfz5_2 := blk_frozen BK283.out 2
   have hfz5_3 := blk_frozen BK283.out 3
   have hfz5_4 := blk_frozen BK283.out 4
   go_wp2
   go_meet
   case rel => exact ⟨_, (true), (by first | rfl | (simp; done) | (simp [*]; done)), H', ⟨by first | omega | exact Nat.le_refl _⟩, ⟨by (with_reducible repeat (first | refine blk_drewN ?_ _ | refine blk_drew ?_ | refine blk_alloc ?_ _)); exact BK283.out⟩, ⟨by repeat (first | (with_reducible first | exact HB.out | apply below_alloc | apply pw_below_drewN | apply below_drew1 | refine below_set ?_ GE283.out) | exact HB.out)⟩⟩
  ·
   rw [if_neg c4] at H
   have c4b0 : decide (70 < (l0_0.length : Int)) = false := decide_eq_false c4
   have c4b1 : decide (70 < l0_0.length) = false := decide_eq_false (by omega)
   clear c4
   (first | rw [c4b0] | (simp only [i64_w, i32_w]; rw [c4b0]) | skip)
   by_cases c6 : (l0_1.length : Int) > 70
   ·
    rw [if_pos c6] at H
    have c6b0 : decide (70 < (l0_1.length : Int)) = true := decide_eq_true c6
    have c6b1 : decide (70 < l0_1.length) = true := decide_eq_true (by omega)
    clear c6
    have H' := Aside0.mk H
    clear H
    have hcz7_0 : w3.cell? ⟨gb283, 0, none⟩ = some (.slice A0_0 l0_0.length c0_0) := (blk_cell BK283.out 0).trans rfl
    have hcz7_1 : w3.cell? ⟨gb283, 1, none⟩ = some (.slice A0_1 l0_1.length c0_1) := (blk_cell BK283.out 1).trans rfl
    have hcz7_2 : w3.cell? ⟨gb283, 2, none⟩ = some (.slice A0_2 l0_2.length c0_2) := (blk_cell BK283.out 2).trans rfl
    have hcz7_3 : w3.cell? ⟨gb283, 3, none⟩ = some (.slice A0_3 l0_3.length c0_3) := (blk_cell BK283.out 3).trans rfl
    have hcz7_4 : w3.cell? ⟨gb283, 4, none⟩ = some (.bool a0_4) := (blk_cell BK283.out 4).trans rfl
    have hfz7_0 := blk_frozen BK283.out 0
    have hfz7_1 := blk_frozen BK283.out 1
    have hfz7_2 := blk_frozen BK283.out 2
    have hfz7_3 := blk_frozen BK283.out 3
    have hfz7_4 := blk_frozen BK283.out 4
    go_wp2
    go_meet
    case rel => exact ⟨_, (true), (by first | rfl | (simp; done) | (simp [*]; done)), H', ⟨by first | omega | exact Nat.le_refl _⟩, ⟨by (with_reducible repeat (first | refine blk_drewN ?_ _ | refine blk_drew ?_ | refine blk_alloc ?_ _)); exact BK283.out⟩, ⟨by repeat (first | (with_reducible first | exact HB.out | apply below_alloc | apply pw_below_drewN | apply below_drew1 | refine below_set ?_ GE283.out) | exact HB.out)⟩⟩
   ·
    rw [if_neg c6] at H
    have c6b0 : decide (70 < (l0_1.length : Int)) = false := decide_eq_false c6
    have c6b1 : decide (70 < l0_1.length) = false := decide_eq_false (by omega)
    clear c6
    by_cases c8 : (l0_2.length : Int) > 70
    ·
     rw [if_pos c8] at H
     have c8b0 : decide (70 < (l0_2.length : Int)) = true := decide_eq_true c8
     have c8b1 : decide (70 < l0_2.length) = true := decide_eq_true (by omega)
     clear c8
     have H' := Aside0.mk H
     clear H
     have hcz9_0 : w3.cell? ⟨gb283, 0, none⟩ = some (.slice A0_0 l0_0.length c0_0) := (blk_cell BK283.out 0).trans rfl
     have hcz9_1 : w3.cell? ⟨gb283, 1, none⟩ = some (.slice A0_1 l0_1.length c0_1) := (blk_cell BK283.out 1).trans rfl
     have hcz9_2 : w3.cell? ⟨gb283, 2, none⟩ = some (.slice A0_2 l0_2.length c0_2) := (blk_cell BK283.out 2).trans rfl
     have hcz9_3 : w3.cell? ⟨gb283, 3, none⟩ = some (.slice A0_3 l0_3.length c0_3) := (blk_cell BK283.out 3).trans rfl
     have hcz9_4 : w3.cell? ⟨gb283, 4, none⟩ = some (.bool a0_4) := (blk_cell BK283.out 4).trans rfl
     have hfz9_0 := blk_frozen BK283.out 0
     have hfz9_1 := blk_frozen BK283.out 1
     have hfz9_2 := blk_frozen BK283.out 2
     have hfz9_3 := blk_frozen BK283.out 3
     have hfz9_4 := blk_frozen BK283.out 4
     go_wp2
     go_meet
     case rel => exact ⟨_, (true), (by first | rfl | (simp; done) | (simp [*]; done)), H', ⟨by first | omega | exact Nat.le_refl _⟩, ⟨by (with_reducible repeat (first | refine blk_drewN ?_ _ | refine blk_drew ?_ | refine blk_alloc ?_ _)); exact BK283.out⟩, ⟨by repeat (first | (with_reducible first | exact HB.out | apply below_alloc | apply pw_below_drewN | apply below_drew1 | refine below_set ?_ GE283.out) | exact HB.out)⟩⟩
    ·
     rw [if_neg c8] at H
     have c8b0 : decide (70 < (l0_2.length : Int)) = false := decide_eq_false c8
     have c8b1 : decide (70 < l0_2.length) = false := decide_eq_false (by omega)
     clear c8
     have H' := Aside0.mk H
     clear H
     have hcz10_0 : w3.cell? ⟨gb283, 0, none⟩ = some (.slice A0_0 l0_0.length c0_0) := (blk_cell BK283.out 0).trans rfl
     have hcz10_1 : w3.cell? ⟨gb283, 1, none⟩ = some (.slice A0_1 l0_1.length c0_1) := (blk_cell BK283.out 1).trans rfl
     have hcz10_2 : w3.cell? ⟨gb283, 2, none⟩ = some (.slice A0_2 l0_2.length c0_2) := (blk_cell BK283.out 2).trans rfl
     have hcz10_3 : w3.cell? ⟨gb283, 3, none⟩ = some (.slice A0_3 l0_3.length c0_3) := (blk_cell BK283.out 3).trans rfl
     have hcz10_4 : w3.cell? ⟨gb283, 4, none⟩ = some (.bool a0_4) := (blk_cell BK283.out 4).trans rfl
     have hfz10_0 := blk_frozen BK283.out 0
     have hfz10_1 := blk_frozen BK283.out 1
     have hfz10_2 := blk_frozen BK283.out 2
     have hfz10_3 := blk_frozen BK283.out 3
     have hfz10_4 := blk_frozen BK283.out 4
     go_wp2
     go_meet
     case rel => exact ⟨_, (decide ((l0_3.length : Int) > 210)), (by first | rfl | (simp; done) | (simp [*]; done)), H', ⟨by first | omega | exact Nat.le_refl _⟩, ⟨by (with_reducible repeat (first | refine blk_drewN ?_ _ | refine blk_drew ?_ | refine blk_alloc ?_ _)); exact BK283.out⟩, ⟨by repeat (first | (with_reducible first | exact HB.out | apply below_alloc | apply pw_below_drewN | apply below_drew1 | refine below_set ?_ GE283.out) | exact HB.out)⟩⟩
 case rest =>
  clear HC2
  try clear p2
  try clear c4
  try clear c4b0
  try clear c4b1
  try clear c6
  try clear c6b0
  try clear c6b1
  try clear c7
  try clear c8
  try clear c8b0
  try clear c8b1
  try clear hcz10_0
  try clear hcz10_1
  try clear hcz10_2
  try clear hcz10_3
  try clear hcz10_4
  try clear hcz5_0
  try clear hcz5_1
  try clear hcz5_2
  try clear hcz5_3
  try clear hcz5_4
  try clear hcz7_0
  try clear hcz7_1
  try clear hcz7_2
  try clear hcz7_3
  try clear hcz7_4
  try clear hcz9_0
  try clear hcz9_1
  try clear hcz9_2
  try clear hcz9_3
  try clear hcz9_4
  try clear hfz10_0
  try clear hfz10_1
  try clear hfz10_2
  try clear hfz10_3
  try clear hfz10_4
  try clear hfz5_0
  try clear hfz5_1
  try clear hfz5_2
  try clear hfz5_3
  try clear hfz5_4
  try clear hfz7_0
  try clear hfz7_1
  try clear hfz7_2
  try clear hfz7_3
  try clear hfz7_4
  try clear hfz9_0
  try clear hfz9_1
  try clear hfz9_2
  try clear hfz9_3
  try clear hfz9_4
  obtain ⟨kq, x27_1, rfl, HA, HJ1, BK283, HB⟩ := hcut
  cases kq with
  | zero => exact absurd HA.out (by simp [catchwordlaw08_FewSeg.j0])
  | succ kj1 =>
   have H := HA.out
   clear HA
   simp only [catchwordlaw08_FewSeg.j0] at H
   by_cases c11 : x27_1 = true
   ·
    subst c11
    have H1 : (some false) = some r := by rw [if_pos rfl] at H; exact H
    clear H
    have H := H1
    clear H1
    obtain rfl := Option.some.inj H
    go_wp2
    go_ret
    exact ⟨by first | rfl | (simp [errW_none, errW_some] <;> rfl) | (simp [*, errW_none, errW_some] <;> rfl), by repeat (first | (with_reducible first | exact HB.out | apply below_alloc | apply pw_below_drewN | apply below_drew1 | refine below_set ?_ GE283.out) | exact HB.out)⟩
   ·
    replace c11 := Bool.eq_false_iff.mpr c11
    subst c11
    have H1 : (catchwordlaw08_FewSeg.l0 kj1 0 l0_0 l0_1 l0_2 l0_3 a0_4) = some r := by rw [if_neg (show ¬ (false = true) by decide)] at H; exact H
    clear H
    have H := H1
    clear H1
    have H' := Aside0.mk H
    clear H
    go_wp2
    go_loopg [3] kj1 (fun kq v3 w' => ∃ (x3_2 : Int), v3 = .int .i64 x3_2 ∧ Aside0 (catchwordlaw08_FewSeg.l0 kq x3_2 l0_0 l0_1 l0_2 l0_3 a0_4 = some r) ∧ Aside0 (kq ≤ kj1) ∧ Aside0 (w'.heap[gb283]? = some (.cells #[(.slice A0_0 l0_0.length c0_0), (.slice A0_1 l0_1.length c0_1), (.slice A0_2 l0_2.length c0_2), (.slice A0_3 l0_3.length c0_3), .bool a0_4] 26 (0, 0))) ∧ Aside0 (Below w.heap.size w w'))
    case atStart => exact ⟨(0), (by first | rfl | (simp; done) | (simp [*]; done)), H', ⟨Nat.le_refl _⟩, ⟨by (with_reducible repeat (first | refine blk_drewN ?_ _ | refine blk_drew ?_ | refine blk_alloc ?_ _)); exact BK283.out⟩, ⟨by repeat (first | (with_reducible first | exact HB.out | apply below_alloc | apply pw_below_drewN | apply below_drew1 | refine below_set ?_ GE283.out) | exact HB.out)⟩⟩
    case round =>
     clear H'
     try clear c1
     try clear p2
     try clear c4
     try clear c4b0
     try clear c4b1
     try clear c6
     try clear c6b0
     try clear c6b1
     try clear c7
     try clear c8
     try clear c8b0
     try clear c8b1
     try clear c11
     try clear hcz10_0
     try clear hcz10_1
     try clear hcz10_2
     try clear hcz10_3
     try clear hcz10_4
     try clear hcz5_0
     try clear hcz5_1
     try clear hcz5_2
     try clear hcz5_3
     try clear hcz5_4
     try clear hcz7_0
     try clear hcz7_1
     try clear hcz7_2
     try clear hcz7_3
     try clear hcz7_4
     try clear hcz9_0
     try clear hcz9_1
     try clear hcz9_2
     try clear hcz9_3
     try clear hcz9_4
     try clear hfz10_0
     try clear hfz10_1
     try clear hfz10_2
     try clear hfz10_3
     try clear hfz10_4
     try clear hfz5_0
     try clear hfz5_1
     try clear hfz5_2
     try clear hfz5_3
     try clear hfz5_4
     try clear hfz7_0
     try clear hfz7_1
     try clear hfz7_2
     try clear hfz7_3
     try clear hfz7_4
     try clear hfz9_0
     try clear hfz9_1
     try clear hfz9_2
     try clear hfz9_3
     try clear hfz9_4
     try clear p2
     obtain ⟨x3_2, rfl, HA, HK2, BK283, HB⟩ := hrel
     cases gk with
     | zero => exact absurd HA.out (by simp [catchwordlaw08_FewSeg.l0])
     | succ k2 =>
      have H := HA.out
      clear HA
      simp only [catchwordlaw08_FewSeg.l0] at H
      by_cases c12 : x3_2 < (l0_0.length : Int)
      ·
       rw [if_pos c12] at H
       have c12b0 : decide (x3_2 < (l0_0.length : Int)) = true := decide_eq_true c12
       clear c12
       by_cases c13 : 0 ≤ x3_2
       ·
        rw [if_pos c13] at H
        have c13b0 : decide (0 ≤ x3_2) = true := decide_eq_true c13
        clear c13
        by_cases c14 : ((rdOf ByteArray.empty l0_0 x3_2).size : Int) > 40
        ·
         rw [if_pos c14] at H
         have c14b0 : decide (40 < ((rdOf ByteArray.empty l0_0 x3_2).size : Int)) = true := decide_eq_true c14
         have c14b1 : decide (40 < (rdOf ByteArray.empty l0_0 x3_2).size) = true := decide_eq_true (by omega)
         clear c14
         obtain rfl := Option.some.inj H
         have hcz15_0 : wr.cell? ⟨gb283, 0, none⟩ = some (.slice A0_0 l0_0.length c0_0) := (blk_cell BK283.out 0).trans rfl
         have hcz15_1 : wr.cell? ⟨gb283, 1, none⟩ = some (.slice A0_1 l0_1.length c0_1) := (blk_cell BK283.out 1).trans rfl
         have hcz15_2 : wr.cell? ⟨gb283, 2, none⟩ = some (.slice A0_2 l0_2.length c0_2) := (blk_cell BK283.out 2).trans rfl
         have hcz15_3 : wr.cell? ⟨gb283, 3, none⟩ = some (.slice A0_3 l0_3.length c0_3) := (blk_cell BK283.out 3).trans rfl
         have hcz15_4 : wr.cell? ⟨gb283, 4, none⟩ = some (.bool a0_4) := (blk_cell BK283.out 4).trans rfl
         have hfz15_0 := blk_frozen BK283.out 0
         have hfz15_1 := blk_frozen BK283.out 1
         have hfz15_2 := blk_frozen BK283.out 2
         have hfz15_3 := blk_frozen BK283.out 3
         have hfz15_4 := blk_frozen BK283.out 4
         have p284 : 0 ≤ (x3_2 : Int) := of_decide_eq_true (by first | (with_reducible assumption) | assumption)
         have q284 : x3_2 < (l0_0.length : Int) := of_decide_eq_true (by first | (with_reducible assumption) | assumption)
         obtain ⟨ad284, e284, hx284_0⟩ := Kd.at_string HR0_0.out x3_2 p284 q284
         cases e284
         replace hx284_0 := (HB.out.cell (World.block_lt_of_cell? w _ hx284_0)).trans hx284_0
         replace p284 := eq_true p284
         replace q284 := eq_true q284
         go_wp2
         go_ret
         exact ⟨by first | rfl | (simp [errW_none, errW_some] <;> rfl) | (simp [*, errW_none, errW_some] <;> rfl), by repeat (first | (with_reducible first | exact HB.out | apply below_alloc | apply pw_below_drewN | apply below_drew1 | refine below_set ?_ GE283.out) | exact HB.out)⟩
        ·
         rw [if_neg c14] at H
         have c14b0 : decide (40 < ((rdOf ByteArray.empty l0_0 x3_2).size : Int)) = false := decide_eq_false c14
         have c14b1 : decide (40 < (rdOf ByteArray.empty l0_0 x3_2).size) = false := decide_eq_false (by omega)
         clear c14
         have H' := Aside0.mk H
         clear H
         have hcz16_0 : wr.cell? ⟨gb283, 0, none⟩ = some (.slice A0_0 l0_0.length c0_0) := (blk_cell BK283.out 0).trans rfl
         have hcz16_1 : wr.cell? ⟨gb283, 1, none⟩ = some (.slice A0_1 l0_1.length c0_1) := (blk_cell BK283.out 1).trans rfl
         have hcz16_2 : wr.cell? ⟨gb283, 2, none⟩ = some (.slice A0_2 l0_2.length c0_2) := (blk_cell BK283.out 2).trans rfl
         have hcz16_3 : wr.cell? ⟨gb283, 3, none⟩ = some (.slice A0_3 l0_3.length c0_3) := (blk_cell BK283.out 3).trans rfl
         have hcz16_4 : wr.cell? ⟨gb283, 4, none⟩ = some (.bool a0_4) := (blk_cell BK283.out 4).trans rfl
         have hfz16_0 := blk_frozen BK283.out 0
         have hfz16_1 := blk_frozen BK283.out 1
         have hfz16_2 := blk_frozen BK283.out 2
         have hfz16_3 := blk_frozen BK283.out 3
         have hfz16_4 := blk_frozen BK283.out 4
         have p284 : 0 ≤ (x3_2 : Int) := of_decide_eq_true (by first | (with_reducible assumption) | assumption)
         have q284 : x3_2 < (l0_0.length : Int) := of_decide_eq_true (by first | (with_reducible assumption) | assumption)
         obtain ⟨ad284, e284, hx284_0⟩ := Kd.at_string HR0_0.out x3_2 p284 q284
         cases e284
         replace hx284_0 := (HB.out.cell (World.block_lt_of_cell? w _ hx284_0)).trans hx284_0
         replace p284 := eq_true p284
         replace q284 := eq_true q284
         go_wp2
         go_roundg k2
         case measure => have := HJ1.out; have := HK2.out; omega
         case rel => exact ⟨(wrap64 (x3_2 + 1)), (by first | rfl | (simp; done) | (simp [*]; done)), H', ⟨by have := HJ1.out; have := HK2.out; omega⟩, ⟨by (with_reducible repeat (first | refine blk_drewN ?_ _ | refine blk_drew ?_ | refine blk_alloc ?_ _)); exact BK283.out⟩, ⟨by repeat (first | (with_reducible first | exact HB.out | apply below_alloc | apply pw_below_drewN | apply below_drew1 | refine below_set ?_ GE283.out) | exact HB.out)⟩⟩
       ·
        rw [if_neg c13] at H
        exact absurd H (by simp)
      ·
       rw [if_neg c12] at H
       have c12b0 : decide (x3_2 < (l0_0.length : Int)) = false := decide_eq_false c12
       clear c12
       have H' := Aside0.mk H
       clear H
       have hcz17_0 : wr.cell? ⟨gb283, 0, none⟩ = some (.slice A0_0 l0_0.length c0_0) := (blk_cell BK283.out 0).trans rfl
       have hcz17_1 : wr.cell? ⟨gb283, 1, none⟩ = some (.slice A0_1 l0_1.length c0_1) := (blk_cell BK283.out 1).trans rfl
       have hcz17_2 : wr.cell? ⟨gb283, 2, none⟩ = some (.slice A0_2 l0_2.length c0_2) := (blk_cell BK283.out 2).trans rfl
       have hcz17_3 : wr.cell? ⟨gb283, 3, none⟩ = some (.slice A0_3 l0_3.length c0_3) := (blk_cell BK283.out 3).trans rfl
       have hcz17_4 : wr.cell? ⟨gb283, 4, none⟩ = some (.bool a0_4) := (blk_cell BK283.out 4).trans rfl
       have hfz17_0 := blk_frozen BK283.out 0
       have hfz17_1 := blk_frozen BK283.out 1
       have hfz17_2 := blk_frozen BK283.out 2
       have hfz17_3 := blk_frozen BK283.out 3
       have hfz17_4 := blk_frozen BK283.out 4
       go_wp2
       go_loopg [4] k2 (fun kq v4 w' => ∃ (x4_3 : Int), v4 = .int .i64 x4_3 ∧ Aside0 (catchwordlaw08_FewSeg.l1 kq x4_3 l0_0 l0_1 l0_2 l0_3 a0_4 = some r) ∧ Aside0 (kq ≤ k2) ∧ Aside0 (w'.heap[gb283]? = some (.cells #[(.slice A0_0 l0_0.length c0_0), (.slice A0_1 l0_1.length c0_1), (.slice A0_2 l0_2.length c0_2), (.slice A0_3 l0_3.length c0_3), .bool a0_4] 26 (0, 0))) ∧ Aside0 (Below w.heap.size w w'))
       case atStart => exact ⟨(0), (by first | rfl | (simp; done) | (simp [*]; done)), H', ⟨Nat.le_refl _⟩, ⟨by (with_reducible repeat (first | refine blk_drewN ?_ _ | refine blk_drew ?_ | refine blk_alloc ?_ _)); exact BK283.out⟩, ⟨by repeat (first | (with_reducible first | exact HB.out | apply below_alloc | apply pw_below_drewN | apply below_drew1 | refine below_set ?_ GE283.out) | exact HB.out)⟩⟩
       case round =>
        clear H'
        try clear c1
        try clear p2
        try clear q2
        try clear hx2
        try clear c4
        try clear c4b0
        try clear c4b1
        try clear c6
        try clear c6b0
        try clear c6b1
        try clear p6
        try clear c7
        try clear c8
        try clear c8b0
        try clear c8b1
        try clear c11
        try clear c12
        try clear c12b0
        try clear c13
        try clear c13b0
        try clear c14
        try clear c14b0
        try clear c14b1
        try clear hcz10_0
        try clear hcz10_1
        try clear hcz10_2
        try clear hcz10_3
        try clear hcz10_4
        try clear hcz15_0
        try clear hcz15_1
        try clear hcz15_2
        try clear hcz15_3
        try clear hcz15_4
        try clear hcz16_0
        try clear hcz16_1
        try clear hcz16_2
        try clear hcz16_3
        try clear hcz16_4
        try clear hcz17_0
        try clear hcz17_1
        try clear hcz17_2
        try clear hcz17_3
        try clear hcz17_4
        try clear hcz5_0
        try clear hcz5_1
        try clear hcz5_2
        try clear hcz5_3
        try clear hcz5_4
        try clear hcz7_0
        try clear hcz7_1
        try clear hcz7_2
        try clear hcz7_3
        try clear hcz7_4
        try clear hcz9_0
        try clear hcz9_1
        try clear hcz9_2
        try clear hcz9_3
        try clear hcz9_4
        try clear hfz10_0
        try clear hfz10_1
        try clear hfz10_2
        try clear hfz10_3
        try clear hfz10_4
        try clear hfz15_0
        try clear hfz15_1
        try clear hfz15_2
        try clear hfz15_3
        try clear hfz15_4
        try clear hfz16_0
        try clear hfz16_1
        try clear hfz16_2
        try clear hfz16_3
        try clear hfz16_4
        try clear hfz17_0
        try clear hfz17_1
        try clear hfz17_2
        try clear hfz17_3
        try clear hfz17_4
        try clear hfz5_0
        try clear hfz5_1
        try clear hfz5_2
        try clear hfz5_3
        try clear hfz5_4
        try clear hfz7_0
        try clear hfz7_1
        try clear hfz7_2
        try clear hfz7_3
        try clear hfz7_4
        try clear hfz9_0
        try clear hfz9_1
        try clear hfz9_2
        try clear hfz9_3
        try clear hfz9_4
        try clear hx284_0
        try clear p2
        try clear p284
        try clear q284
        obtain ⟨x4_3, rfl, HA, HK3, BK283, HB⟩ := hrel
        cases gk with
        | zero => exact absurd HA.out (by simp [catchwordlaw08_FewSeg.l1])
        | succ k3 =>
         have H := HA.out
         clear HA
         simp only [catchwordlaw08_FewSeg.l1] at H
         by_cases c18 : x4_3 < (l0_3.length : Int)
         ·
          rw [if_pos c18] at H
          have c18b0 : decide (x4_3 < (l0_3.length : Int)) = true := decide_eq_true c18
          clear c18
          by_cases c19 : 0 ≤ x4_3
          ·
           rw [if_pos c19] at H
           have c19b0 : decide (0 ≤ x4_3) = true := decide_eq_true c19
           clear c19
           replace H := Option.bind_eq_some_iff.mp H
           obtain ⟨t286, A200, H⟩ := H
           replace H : (if t286 = true then (if (((rd_T44 l0_3 x4_3).f0).size : Int) > 40 then (some false) else (catchwordlaw08_FewSeg.l1 k3 (wrap64 (x4_3 + 1)) l0_0 l0_1 l0_2 l0_3 a0_4)) else (some false)) = some r := H
           have A20 := Aside0.mk A200
           clear A200
           by_cases c21 : t286 = true
           ·
            subst c21
            have H1 : (if (((rd_T44 l0_3 x4_3).f0).size : Int) > 40 then (some false) else (catchwordlaw08_FewSeg.l1 k3 (wrap64 (x4_3 + 1)) l0_0 l0_1 l0_2 l0_3 a0_4)) = some r := by rw [if_pos rfl] at H; exact H
            clear H
            have H := H1
            clear H1
            by_cases c22 : (((rd_T44 l0_3 x4_3).f0).size : Int) > 40
            ·
             rw [if_pos c22] at H
             have c22b0 : decide (40 < (((rd_T44 l0_3 x4_3).f0).size : Int)) = true := decide_eq_true c22
             have c22b1 : decide (40 < ((rd_T44 l0_3 x4_3).f0).size) = true := decide_eq_true (by omega)
             clear c22
             obtain rfl := Option.some.inj H
             have hcz23_0 : wr.cell? ⟨gb283, 0, none⟩ = some (.slice A0_0 l0_0.length c0_0) := (blk_cell BK283.out 0).trans rfl
             have hcz23_1 : wr.cell? ⟨gb283, 1, none⟩ = some (.slice A0_1 l0_1.length c0_1) := (blk_cell BK283.out 1).trans rfl
             have hcz23_2 : wr.cell? ⟨gb283, 2, none⟩ = some (.slice A0_2 l0_2.length c0_2) := (blk_cell BK283.out 2).trans rfl
             have hcz23_3 : wr.cell? ⟨gb283, 3, none⟩ = some (.slice A0_3 l0_3.length c0_3) := (blk_cell BK283.out 3).trans rfl
             have hcz23_4 : wr.cell? ⟨gb283, 4, none⟩ = some (.bool a0_4) := (blk_cell BK283.out 4).trans rfl
             have hfz23_0 := blk_frozen BK283.out 0
             have hfz23_1 := blk_frozen BK283.out 1
             have hfz23_2 := blk_frozen BK283.out 2
             have hfz23_3 := blk_frozen BK283.out 3
             have hfz23_4 := blk_frozen BK283.out 4
             have p285 : 0 ≤ (x4_3 : Int) := of_decide_eq_true (by first | (with_reducible assumption) | assumption)
             have q285 : x4_3 < (l0_3.length : Int) := of_decide_eq_true (by first | (with_reducible assumption) | assumption)
             obtain ⟨ad285, A285_1, c285_1, e285, hx285_0, hx285_1, hl285_1, hi285_1⟩ := at_T44 HR0_3.out x4_3 p285 q285
             cases e285
             replace hx285_0 := (HB.out.cell (World.block_lt_of_cell? w _ hx285_0)).trans hx285_0
             replace hx285_1 := (HB.out.cell (World.block_lt_of_cell? w _ hx285_1)).trans hx285_1
             have HR285_1 := Aside0.mk hi285_1
             have HC285_1 := Aside0.mk hl285_1
             clear hi285_1 hl285_1
             replace p285 := eq_true p285
             replace q285 := eq_true q285
             go_wp2_with (first | ((with_reducible refine gate_callee (f := 14) rfl ?_); refine goesL_ (some 55) rfl rfl Try.func14 (by kernel_rfl) rfl #[.slice A285_1 ((rd_T44 l0_3 x4_3).f1).length c285_1] rfl (by (try simp only [List.map_toArray, List.map_cons, List.map_nil]); first | done | rfl | (simp only [List.length_drop, List.length_take]; rfl)) ?_; (with_reducible refine (catchwordlaw06_Few.calls k3 _ _ ((rd_T44 l0_3 x4_3).f1) true _ ?side1 ?side2 A20.out).mono ?_); (case side1 => repeat (first | exact (Kd.C_below HR285_1.out HB.out) | (with_reducible refine Kd.C_alloc ?_ _) | (with_reducible refine Kd.C_drewN ?_ _) | (with_reducible refine Kd.C_drew ?_))); (case side2 => exact HC285_1.out); rintro e w' ⟨rfl, ⟨nd, rfl⟩⟩; refine ⟨_, rfl, ?_⟩; have p287 : 0 ≤ (x4_3 : Int) := of_decide_eq_true (by first | (with_reducible assumption) | assumption); have q287 : x4_3 < (l0_3.length : Int) := of_decide_eq_true (by first | (with_reducible assumption) | assumption); obtain ⟨ad287, A287_1, c287_1, e287, hx287_0, hx287_1, hl287_1, hi287_1⟩ := at_T44 HR0_3.out x4_3 p287 q287; obtain rfl : ad285 = ad287 := (by injection e287); replace hx287_0 := (HB.out.cell (World.block_lt_of_cell? w _ hx287_0)).trans hx287_0; replace hx287_1 := (HB.out.cell (World.block_lt_of_cell? w _ hx287_1)).trans hx287_1; have HR287_1 := Aside0.mk hi287_1; have HC287_1 := Aside0.mk hl287_1; clear hi287_1 hl287_1; replace p287 := eq_true p287; replace q287 := eq_true q287; have ea_ := Option.some.inj (hx285_1.symm.trans hx287_1); injection ea_ with ea_ en_ ec_; subst ea_; subst ec_; clear en_))
             go_ret
             exact ⟨by first | rfl | (simp [errW_none, errW_some] <;> rfl) | (simp [*, errW_none, errW_some] <;> rfl), by repeat (first | (with_reducible first | exact HB.out | apply below_alloc | apply pw_below_drewN | apply below_drew1 | refine below_set ?_ GE283.out) | exact HB.out)⟩
            ·
             rw [if_neg c22] at H
             have c22b0 : decide (40 < (((rd_T44 l0_3 x4_3).f0).size : Int)) = false := decide_eq_false c22
             have c22b1 : decide (40 < ((rd_T44 l0_3 x4_3).f0).size) = false := decide_eq_false (by omega)
             clear c22
             have H' := Aside0.mk H
             clear H
             have hcz24_0 : wr.cell? ⟨gb283, 0, none⟩ = some (.slice A0_0 l0_0.length c0_0) := (blk_cell BK283.out 0).trans rfl
             have hcz24_1 : wr.cell? ⟨gb283, 1, none⟩ = some (.slice A0_1 l0_1.length c0_1) := (blk_cell BK283.out 1).trans rfl
             have hcz24_2 : wr.cell? ⟨gb283, 2, none⟩ = some (.slice A0_2 l0_2.length c0_2) := (blk_cell BK283.out 2).trans rfl
             have hcz24_3 : wr.cell? ⟨gb283, 3, none⟩ = some (.slice A0_3 l0_3.length c0_3) := (blk_cell BK283.out 3).trans rfl
             have hcz24_4 : wr.cell? ⟨gb283, 4, none⟩ = some (.bool a0_4) := (blk_cell BK283.out 4).trans rfl
             have hfz24_0 := blk_frozen BK283.out 0
             have hfz24_1 := blk_frozen BK283.out 1
             have hfz24_2 := blk_frozen BK283.out 2
             have hfz24_3 := blk_frozen BK283.out 3
             have hfz24_4 := blk_frozen BK283.out 4
             have p285 : 0 ≤ (x4_3 : Int) := of_decide_eq_true (by first | (with_reducible assumption) | assumption)
             have q285 : x4_3 < (l0_3.length : Int) := of_decide_eq_true (by first | (with_reducible assumption) | assumption)
             obtain ⟨ad285, A285_1, c285_1, e285, hx285_0, hx285_1, hl285_1, hi285_1⟩ := at_T44 HR0_3.out x4_3 p285 q285
             cases e285
             replace hx285_0 := (HB.out.cell (World.block_lt_of_cell? w _ hx285_0)).trans hx285_0
             replace hx285_1 := (HB.out.cell (World.block_lt_of_cell? w _ hx285_1)).trans hx285_1
             have HR285_1 := Aside0.mk hi285_1
             have HC285_1 := Aside0.mk hl285_1
             clear hi285_1 hl285_1
             replace p285 := eq_true p285
             replace q285 := eq_true q285
             go_wp2_with (first | ((with_reducible refine gate_callee (f := 14) rfl ?_); refine goesL_ (some 55) rfl rfl Try.func14 (by kernel_rfl) rfl #[.slice A285_1 ((rd_T44 l0_3 x4_3).f1).length c285_1] rfl (by (try simp only [List.map_toArray, List.map_cons, List.map_nil]); first | done | rfl | (simp only [List.length_drop, List.length_take]; rfl)) ?_; (with_reducible refine (catchwordlaw06_Few.calls k3 _ _ ((rd_T44 l0_3 x4_3).f1) true _ ?side1 ?side2 A20.out).mono ?_); (case side1 => repeat (first | exact (Kd.C_below HR285_1.out HB.out) | (with_reducible refine Kd.C_alloc ?_ _) | (with_reducible refine Kd.C_drewN ?_ _) | (with_reducible refine Kd.C_drew ?_))); (case side2 => exact HC285_1.out); rintro e w' ⟨rfl, ⟨nd, rfl⟩⟩; refine ⟨_, rfl, ?_⟩; have p287 : 0 ≤ (x4_3 : Int) := of_decide_eq_true (by first | (with_reducible assumption) | assumption); have q287 : x4_3 < (l0_3.length : Int) := of_decide_eq_true (by first | (with_reducible assumption) | assumption); obtain ⟨ad287, A287_1, c287_1, e287, hx287_0, hx287_1, hl287_1, hi287_1⟩ := at_T44 HR0_3.out x4_3 p287 q287; obtain rfl : ad285 = ad287 := (by injection e287); replace hx287_0 := (HB.out.cell (World.block_lt_of_cell? w _ hx287_0)).trans hx287_0; replace hx287_1 := (HB.out.cell (World.block_lt_of_cell? w _ hx287_1)).trans hx287_1; have HR287_1 := Aside0.mk hi287_1; have HC287_1 := Aside0.mk hl287_1; clear hi287_1 hl287_1; replace p287 := eq_true p287; replace q287 := eq_true q287; have ea_ := Option.some.inj (hx285_1.symm.trans hx287_1); injection ea_ with ea_ en_ ec_; subst ea_; subst ec_; clear en_))
             go_roundg k3
             case measure => have := HJ1.out; have := HK2.out; have := HK3.out; omega
             case rel => exact ⟨(wrap64 (x4_3 + 1)), (by first | rfl | (simp; done) | (simp [*]; done)), H', ⟨by have := HJ1.out; have := HK2.out; have := HK3.out; omega⟩, ⟨by (with_reducible repeat (first | refine blk_drewN ?_ _ | refine blk_drew ?_ | refine blk_alloc ?_ _)); exact BK283.out⟩, ⟨by repeat (first | (with_reducible first | exact HB.out | apply below_alloc | apply pw_below_drewN | apply below_drew1 | refine below_set ?_ GE283.out) | exact HB.out)⟩⟩
           ·
            replace c21 := Bool.eq_false_iff.mpr c21
            subst c21
            have H1 : (some false) = some r := by rw [if_neg (show ¬ (false = true) by decide)] at H; exact H
            clear H
            have H := H1
            clear H1
            obtain rfl := Option.some.inj H
            have hcz25_0 : wr.cell? ⟨gb283, 0, none⟩ = some (.slice A0_0 l0_0.length c0_0) := (blk_cell BK283.out 0).trans rfl
            have hcz25_1 : wr.cell? ⟨gb283, 1, none⟩ = some (.slice A0_1 l0_1.length c0_1) := (blk_cell BK283.out 1).trans rfl
            have hcz25_2 : wr.cell? ⟨gb283, 2, none⟩ = some (.slice A0_2 l0_2.length c0_2) := (blk_cell BK283.out 2).trans rfl
            have hcz25_3 : wr.cell? ⟨gb283, 3, none⟩ = some (.slice A0_3 l0_3.length c0_3) := (blk_cell BK283.out 3).trans rfl
            have hcz25_4 : wr.cell? ⟨gb283, 4, none⟩ = some (.bool a0_4) := (blk_cell BK283.out 4).trans rfl
            have hfz25_0 := blk_frozen BK283.out 0
            have hfz25_1 := blk_frozen BK283.out 1
            have hfz25_2 := blk_frozen BK283.out 2
            have hfz25_3 := blk_frozen BK283.out 3
            have hfz25_4 := blk_frozen BK283.out 4
            have p285 : 0 ≤ (x4_3 : Int) := of_decide_eq_true (by first | (with_reducible assumption) | assumption)
            have q285 : x4_3 < (l0_3.length : Int) := of_decide_eq_true (by first | (with_reducible assumption) | assumption)
            obtain ⟨ad285, A285_1, c285_1, e285, hx285_0, hx285_1, hl285_1, hi285_1⟩ := at_T44 HR0_3.out x4_3 p285 q285
            cases e285
            replace hx285_0 := (HB.out.cell (World.block_lt_of_cell? w _ hx285_0)).trans hx285_0
            replace hx285_1 := (HB.out.cell (World.block_lt_of_cell? w _ hx285_1)).trans hx285_1
            have HR285_1 := Aside0.mk hi285_1
            have HC285_1 := Aside0.mk hl285_1
            clear hi285_1 hl285_1
            replace p285 := eq_true p285
            replace q285 := eq_true q285
            go_wp2_with (first | ((with_reducible refine gate_callee (f := 14) rfl ?_); refine goesL_ (some 55) rfl rfl Try.func14 (by kernel_rfl) rfl #[.slice A285_1 ((rd_T44 l0_3 x4_3).f1).length c285_1] rfl (by (try simp only [List.map_toArray, List.map_cons, List.map_nil]); first | done | rfl | (simp only [List.length_drop, List.length_take]; rfl)) ?_; (with_reducible refine (catchwordlaw06_Few.calls k3 _ _ ((rd_T44 l0_3 x4_3).f1) false _ ?side1 ?side2 A20.out).mono ?_); (case side1 => repeat (first | exact (Kd.C_below HR285_1.out HB.out) | (with_reducible refine Kd.C_alloc ?_ _) | (with_reducible refine Kd.C_drewN ?_ _) | (with_reducible refine Kd.C_drew ?_))); (case side2 => exact HC285_1.out); rintro e w' ⟨rfl, ⟨nd, rfl⟩⟩; refine ⟨_, rfl, ?_⟩))
            go_ret
            exact ⟨by first | rfl | (simp [errW_none, errW_some] <;> rfl) | (simp [*, errW_none, errW_some] <;> rfl), by repeat (first | (with_reducible first | exact HB.out | apply below_alloc | apply pw_below_drewN | apply below_drew1 | refine below_set ?_ GE283.out) | exact HB.out)⟩
          ·
           rw [if_neg c19] at H
           exact absurd H (by simp)
         ·
          rw [if_neg c18] at H
          have c18b0 : decide (x4_3 < (l0_3.length : Int)) = false := decide_eq_false c18
          clear c18
          obtain rfl := Option.some.inj H
          have hcz26_0 : wr.cell? ⟨gb283, 0, none⟩ = some (.slice A0_0 l0_0.length c0_0) := (blk_cell BK283.out 0).trans rfl
          have hcz26_1 : wr.cell? ⟨gb283, 1, none⟩ = some (.slice A0_1 l0_1.length c0_1) := (blk_cell BK283.out 1).trans rfl
          have hcz26_2 : wr.cell? ⟨gb283, 2, none⟩ = some (.slice A0_2 l0_2.length c0_2) := (blk_cell BK283.out 2).trans rfl
          have hcz26_3 : wr.cell? ⟨gb283, 3, none⟩ = some (.slice A0_3 l0_3.length c0_3) := (blk_cell BK283.out 3).trans rfl
          have hcz26_4 : wr.cell? ⟨gb283, 4, none⟩ = some (.bool a0_4) := (blk_cell BK283.out 4).trans rfl
          have hfz26_0 := blk_frozen BK283.out 0
          have hfz26_1 := blk_frozen BK283.out 1
          have hfz26_2 := blk_frozen BK283.out 2
          have hfz26_3 := blk_frozen BK283.out 3
          have hfz26_4 := blk_frozen BK283.out 4
          go_wp2
          go_ret
          exact ⟨by first | rfl | (simp [errW_none, errW_some] <;> rfl) | (simp [*, errW_none, errW_some] <;> rfl), by repeat (first | (with_reducible first | exact HB.out | apply below_alloc | apply pw_below_drewN | apply below_drew1 | refine below_set ?_ GE283.out) | exact HB.out)⟩

end Go.Proofs.Ytfhcolhiolgikaa.T
/- Written by hp.py, this session's own program, out of the translation of this seat: Lean functions for the Go functions, and the proof that each call comes to what its Lean function says. -/
namespace Go.Proofs.Ytfhcolhiolgikaa.T
open Go.RowKit Go.Proofs.YtfhcolhiolgikaaW.PrintWords Go.Proofs.YtfhcolhiolgikaaW.PrintLast Go.Proofs.YtfhcolhiolgikaaW.PrintMore
attribute [local go_sem] max2_int min2_int max_two min_two max_three min_three max_four min_four   -- for this text's walks alone
set_option linter.unusedVariables false
set_option linter.unusedSimpArgs false
/-! ### number, of a cursor (66) and of a reader (47), by hand: at a block whose first three cells are bytes, place, bad -/
set_option maxHeartbeats 4000000 in
set_option maxRecDepth 100000 in
theorem num66_calls (k g : Nat) (A : Option Addr) (c : Nat) (b : List Int) (at_ : Int) (bad : Bool) (cs : Array Value) (t : TypeId) (n nx e : Int) (w0 w : World) (hC : Kd.C (Kd.int .u8) w0 A b.length b) (hc : b.length ≤ c) (hblk : w.heap[g]? = some (.cells cs t (0, 0))) (h0 : cs[0]? = some (.slice A b.length c)) (h1 : cs[1]? = some (.int .i64 at_)) (h2 : cs[2]? = some (.bool bad)) (hB : Below w0.heap.size w0 w) (hg : w0.heap.size ≤ g) (h : vint_Get.f k b at_ = some (n, nx, e)) (r : Int) (cs' : Array Value) (hr : (if e = 0 then (n, cs.setIfInBounds 1 (.int .i64 nx)) else (0, cs.setIfInBounds 2 (.bool true))) = (r, cs')) :
  Calls Try.prog 66 #[.pointer (some ⟨g, 0, none⟩)] w fun en w' => en = .returned (.int .i64 r) ∧ w'.heap[g]? = some (.cells cs' t (0, 0)) ∧ Below w0.heap.size w0 w' ∧ KeepBut w w' g none := by
 have HC := Aside0.mk hC
 have HCC := Aside0.mk hc
 have HB := Aside0.mk hB
 have BG := Aside0.mk hblk
 have HG := Aside0.mk h
 have HGE := Aside0.mk hg
 have HLT := Aside0.mk (blk_lt hblk)
 have k2 := Aside0.mk h2
 have k1 := Aside0.mk h1
 have c0 : w.cell? ⟨g, 0, none⟩ = some (.slice A b.length c) := (blk_cell BG.out 0).trans h0
 have c1 : w.cell? ⟨g, 1, none⟩ = some (.int .i64 at_) := (blk_cell BG.out 1).trans h1
 clear hC hc hB hblk h h0 h1 h2 hg
 by_cases he : e = 0
 ·
  subst he
  rw [if_pos rfl] at hr
  obtain ⟨rfl, rfl⟩ := Prod.mk.inj hr
  clear hr
  go_enter Try.func66, Try.ntmps66
  go_upto_region 1 with fail
  refine start_ (n := 16) (S := fun w' => w'.cell? ⟨g, 0, none⟩ = some (.slice A b.length c) ∧ w'.cell? ⟨g, 1, none⟩ = some (.int .i64 at_)) (ds := []) #[false, false, false, false, false, false, false, false, false, false, false, false, false, false, false, false] (by kernel_rfl) rfl rfl ⟨(pw_cell_below (below_drew (Below.refl _ _)) c0), (pw_cell_below (below_drew (Below.refl _ _)) c1)⟩ (fun hHeld => ?_)
  refine rgP 0 7 ?_
  refine rgP 1 8 ?_
  refine rgP 2 9 ?_
  refine rgP 4 11 ?_
  refine rgP 5 12 ?_
  refine rgP 6 13 ?_
  refine rgT2 3 10 hHeld ?_
  refine rgT2 7 14 hHeld ?_
  refine one_ (i := 8) (N := some 15) #[true, true, true, true, true, true, true, true, true, false, false, false, false, false, false, false] rfl rfl (by kernel_rfl) (by decide) (fun K hK => ?_)
  refine goes_ Try.func45 (by kernel_rfl) rfl #[.slice A b.length c, .int .i64 at_] (by rfl) rfl rfl (by simp only [List.map_toArray, List.map_cons, List.map_nil]; rfl) ?_
  with_reducible refine ((vint_Get.calls k A c b at_ _ _ _ _ (Kd.C_below HC.out (by repeat (first | exact HB.out | (with_reducible refine below_drew ?_)))) HCC.out HG.out)).mono ?_
  rintro e_ w1 ⟨rfl, hb⟩
  refine ⟨_, rfl, ?_⟩
  refine hK.out _ _ ⟨pw_cell_below hb hHeld.1, pw_cell_below hb hHeld.2⟩ (fun hHeld => ?_)
  clear hK K
  refine norm_ (a' := ?_) ?_ ?_
  rotate_left
  ·
   show Act.put _ (some 15) _ = _
   simp only [Act.put, List.setIfInBounds_toArray, List.set_cons_zero, List.set_cons_succ, i64_w, i32_w]
   rfl
  refine rgP 9 6 ?_
  refine rgP 10 16 ?_
  refine rgP 11 17 ?_
  refine rgP 12 18 ?_
  refine rgP 13 3 ?_
  refine rgP 14 4 ?_
  refine rgP 15 5 ?_
  refine done_ (by kernel_rfl) ?_
  have HB1 := Aside0.mk (below_step HB.out (below_step (below_drew (Below.refl w.heap.size w)) hb))
  have BG1 := Aside0.mk (blk_below BG.out (below_step (below_drew (Below.refl w.heap.size w)) hb))
  have HK1 := Aside0.mk (KeepBut.of_below (below_step (below_drew (Below.refl w.heap.size w)) hb) g none)
  have d1 : w1.cell? ⟨g, 1, none⟩ = some (.int .i64 at_) := (blk_cell BG1.out 1).trans k1.out
  have d2 : w1.cell? ⟨g, 2, none⟩ = some (.bool bad) := (blk_cell BG1.out 2).trans k2.out
  have f1 := blk_frozen BG1.out 1
  have f2 := blk_frozen BG1.out 2
  clear hb c0 c1
  go_wp2
  go_ret
  exact ⟨rfl, blk_set BG1.out 1 _, below_set HB1.out HGE.out, HK1.out.set_ 1 _⟩
 ·
  rw [if_neg he] at hr
  obtain ⟨rfl, rfl⟩ := Prod.mk.inj hr
  have e1 : (e == 0) = false := beq_eq_false_iff_ne.2 he
  have e2 : (e != 0) = true := by rw [bne, e1]; rfl
  clear hr he
  go_enter Try.func66, Try.ntmps66
  go_upto_region 1 with fail
  refine start_ (n := 16) (S := fun w' => w'.cell? ⟨g, 0, none⟩ = some (.slice A b.length c) ∧ w'.cell? ⟨g, 1, none⟩ = some (.int .i64 at_)) (ds := []) #[false, false, false, false, false, false, false, false, false, false, false, false, false, false, false, false] (by kernel_rfl) rfl rfl ⟨(pw_cell_below (below_drew (Below.refl _ _)) c0), (pw_cell_below (below_drew (Below.refl _ _)) c1)⟩ (fun hHeld => ?_)
  refine rgP 0 7 ?_
  refine rgP 1 8 ?_
  refine rgP 2 9 ?_
  refine rgP 4 11 ?_
  refine rgP 5 12 ?_
  refine rgP 6 13 ?_
  refine rgT2 3 10 hHeld ?_
  refine rgT2 7 14 hHeld ?_
  refine one_ (i := 8) (N := some 15) #[true, true, true, true, true, true, true, true, true, false, false, false, false, false, false, false] rfl rfl (by kernel_rfl) (by decide) (fun K hK => ?_)
  refine goes_ Try.func45 (by kernel_rfl) rfl #[.slice A b.length c, .int .i64 at_] (by rfl) rfl rfl (by simp only [List.map_toArray, List.map_cons, List.map_nil]; rfl) ?_
  with_reducible refine ((vint_Get.calls k A c b at_ _ _ _ _ (Kd.C_below HC.out (by repeat (first | exact HB.out | (with_reducible refine below_drew ?_)))) HCC.out HG.out)).mono ?_
  rintro e_ w1 ⟨rfl, hb⟩
  refine ⟨_, rfl, ?_⟩
  refine hK.out _ _ ⟨pw_cell_below hb hHeld.1, pw_cell_below hb hHeld.2⟩ (fun hHeld => ?_)
  clear hK K
  refine norm_ (a' := ?_) ?_ ?_
  rotate_left
  ·
   show Act.put _ (some 15) _ = _
   simp only [Act.put, List.setIfInBounds_toArray, List.set_cons_zero, List.set_cons_succ, i64_w, i32_w]
   rfl
  refine rgP 9 6 ?_
  refine rgP 10 16 ?_
  refine rgP 11 17 ?_
  refine rgP 12 18 ?_
  refine rgP 13 3 ?_
  refine rgP 14 4 ?_
  refine rgP 15 5 ?_
  refine done_ (by kernel_rfl) ?_
  have HB1 := Aside0.mk (below_step HB.out (below_step (below_drew (Below.refl w.heap.size w)) hb))
  have BG1 := Aside0.mk (blk_below BG.out (below_step (below_drew (Below.refl w.heap.size w)) hb))
  have HK1 := Aside0.mk (KeepBut.of_below (below_step (below_drew (Below.refl w.heap.size w)) hb) g none)
  have d1 : w1.cell? ⟨g, 1, none⟩ = some (.int .i64 at_) := (blk_cell BG1.out 1).trans k1.out
  have d2 : w1.cell? ⟨g, 2, none⟩ = some (.bool bad) := (blk_cell BG1.out 2).trans k2.out
  have f1 := blk_frozen BG1.out 1
  have f2 := blk_frozen BG1.out 2
  clear hb c0 c1
  go_wp2
  go_ret
  exact ⟨rfl, blk_set BG1.out 2 _, below_set HB1.out HGE.out, HK1.out.set_ 2 _⟩
set_option maxHeartbeats 4000000 in
set_option maxRecDepth 100000 in
theorem num47_calls (k g : Nat) (A : Option Addr) (c : Nat) (b : List Int) (at_ : Int) (bad : Bool) (cs : Array Value) (t : TypeId) (n nx e : Int) (w0 w : World) (hC : Kd.C (Kd.int .u8) w0 A b.length b) (hc : b.length ≤ c) (hblk : w.heap[g]? = some (.cells cs t (0, 0))) (h0 : cs[0]? = some (.slice A b.length c)) (h1 : cs[1]? = some (.int .i64 at_)) (h2 : cs[2]? = some (.bool bad)) (hB : Below w0.heap.size w0 w) (hg : w0.heap.size ≤ g) (h : vint_Get.f k b at_ = some (n, nx, e)) (r : Int) (cs' : Array Value) (hr : (if e = 0 then (n, cs.setIfInBounds 1 (.int .i64 nx)) else (0, cs.setIfInBounds 2 (.bool true))) = (r, cs')) :
  Calls Try.prog 47 #[.pointer (some ⟨g, 0, none⟩)] w fun en w' => en = .returned (.int .i64 r) ∧ w'.heap[g]? = some (.cells cs' t (0, 0)) ∧ Below w0.heap.size w0 w' ∧ KeepBut w w' g none := by
 have HC := Aside0.mk hC
 have HCC := Aside0.mk hc
 have HB := Aside0.mk hB
 have BG := Aside0.mk hblk
 have HG := Aside0.mk h
 have HGE := Aside0.mk hg
 have HLT := Aside0.mk (blk_lt hblk)
 have k2 := Aside0.mk h2
 have k1 := Aside0.mk h1
 have c0 : w.cell? ⟨g, 0, none⟩ = some (.slice A b.length c) := (blk_cell BG.out 0).trans h0
 have c1 : w.cell? ⟨g, 1, none⟩ = some (.int .i64 at_) := (blk_cell BG.out 1).trans h1
 clear hC hc hB hblk h h0 h1 h2 hg
 by_cases he : e = 0
 ·
  subst he
  rw [if_pos rfl] at hr
  obtain ⟨rfl, rfl⟩ := Prod.mk.inj hr
  clear hr
  go_enter Try.func47, Try.ntmps47
  go_upto_region 1 with fail
  refine start_ (n := 16) (S := fun w' => w'.cell? ⟨g, 0, none⟩ = some (.slice A b.length c) ∧ w'.cell? ⟨g, 1, none⟩ = some (.int .i64 at_)) (ds := []) #[false, false, false, false, false, false, false, false, false, false, false, false, false, false, false, false] (by kernel_rfl) rfl rfl ⟨(pw_cell_below (below_drew (Below.refl _ _)) c0), (pw_cell_below (below_drew (Below.refl _ _)) c1)⟩ (fun hHeld => ?_)
  refine rgP 0 7 ?_
  refine rgP 1 8 ?_
  refine rgP 2 9 ?_
  refine rgP 4 11 ?_
  refine rgP 5 12 ?_
  refine rgP 6 13 ?_
  refine rgT2 3 10 hHeld ?_
  refine rgT2 7 14 hHeld ?_
  refine one_ (i := 8) (N := some 15) #[true, true, true, true, true, true, true, true, true, false, false, false, false, false, false, false] rfl rfl (by kernel_rfl) (by decide) (fun K hK => ?_)
  refine goes_ Try.func45 (by kernel_rfl) rfl #[.slice A b.length c, .int .i64 at_] (by rfl) rfl rfl (by simp only [List.map_toArray, List.map_cons, List.map_nil]; rfl) ?_
  with_reducible refine ((vint_Get.calls k A c b at_ _ _ _ _ (Kd.C_below HC.out (by repeat (first | exact HB.out | (with_reducible refine below_drew ?_)))) HCC.out HG.out)).mono ?_
  rintro e_ w1 ⟨rfl, hb⟩
  refine ⟨_, rfl, ?_⟩
  refine hK.out _ _ ⟨pw_cell_below hb hHeld.1, pw_cell_below hb hHeld.2⟩ (fun hHeld => ?_)
  clear hK K
  refine norm_ (a' := ?_) ?_ ?_
  rotate_left
  ·
   show Act.put _ (some 15) _ = _
   simp only [Act.put, List.setIfInBounds_toArray, List.set_cons_zero, List.set_cons_succ, i64_w, i32_w]
   rfl
  refine rgP 9 6 ?_
  refine rgP 10 16 ?_
  refine rgP 11 17 ?_
  refine rgP 12 18 ?_
  refine rgP 13 3 ?_
  refine rgP 14 4 ?_
  refine rgP 15 5 ?_
  refine done_ (by kernel_rfl) ?_
  have HB1 := Aside0.mk (below_step HB.out (below_step (below_drew (Below.refl w.heap.size w)) hb))
  have BG1 := Aside0.mk (blk_below BG.out (below_step (below_drew (Below.refl w.heap.size w)) hb))
  have HK1 := Aside0.mk (KeepBut.of_below (below_step (below_drew (Below.refl w.heap.size w)) hb) g none)
  have d1 : w1.cell? ⟨g, 1, none⟩ = some (.int .i64 at_) := (blk_cell BG1.out 1).trans k1.out
  have d2 : w1.cell? ⟨g, 2, none⟩ = some (.bool bad) := (blk_cell BG1.out 2).trans k2.out
  have f1 := blk_frozen BG1.out 1
  have f2 := blk_frozen BG1.out 2
  clear hb c0 c1
  go_wp2
  go_ret
  exact ⟨rfl, blk_set BG1.out 1 _, below_set HB1.out HGE.out, HK1.out.set_ 1 _⟩
 ·
  rw [if_neg he] at hr
  obtain ⟨rfl, rfl⟩ := Prod.mk.inj hr
  have e1 : (e == 0) = false := beq_eq_false_iff_ne.2 he
  have e2 : (e != 0) = true := by rw [bne, e1]; rfl
  clear hr he
  go_enter Try.func47, Try.ntmps47
  go_upto_region 1 with fail
  refine start_ (n := 16) (S := fun w' => w'.cell? ⟨g, 0, none⟩ = some (.slice A b.length c) ∧ w'.cell? ⟨g, 1, none⟩ = some (.int .i64 at_)) (ds := []) #[false, false, false, false, false, false, false, false, false, false, false, false, false, false, false, false] (by kernel_rfl) rfl rfl ⟨(pw_cell_below (below_drew (Below.refl _ _)) c0), (pw_cell_below (below_drew (Below.refl _ _)) c1)⟩ (fun hHeld => ?_)
  refine rgP 0 7 ?_
  refine rgP 1 8 ?_
  refine rgP 2 9 ?_
  refine rgP 4 11 ?_
  refine rgP 5 12 ?_
  refine rgP 6 13 ?_
  refine rgT2 3 10 hHeld ?_
  refine rgT2 7 14 hHeld ?_
  refine one_ (i := 8) (N := some 15) #[true, true, true, true, true, true, true, true, true, false, false, false, false, false, false, false] rfl rfl (by kernel_rfl) (by decide) (fun K hK => ?_)
  refine goes_ Try.func45 (by kernel_rfl) rfl #[.slice A b.length c, .int .i64 at_] (by rfl) rfl rfl (by simp only [List.map_toArray, List.map_cons, List.map_nil]; rfl) ?_
  with_reducible refine ((vint_Get.calls k A c b at_ _ _ _ _ (Kd.C_below HC.out (by repeat (first | exact HB.out | (with_reducible refine below_drew ?_)))) HCC.out HG.out)).mono ?_
  rintro e_ w1 ⟨rfl, hb⟩
  refine ⟨_, rfl, ?_⟩
  refine hK.out _ _ ⟨pw_cell_below hb hHeld.1, pw_cell_below hb hHeld.2⟩ (fun hHeld => ?_)
  clear hK K
  refine norm_ (a' := ?_) ?_ ?_
  rotate_left
  ·
   show Act.put _ (some 15) _ = _
   simp only [Act.put, List.setIfInBounds_toArray, List.set_cons_zero, List.set_cons_succ, i64_w, i32_w]
   rfl
  refine rgP 9 6 ?_
  refine rgP 10 16 ?_
  refine rgP 11 17 ?_
  refine rgP 12 18 ?_
  refine rgP 13 3 ?_
  refine rgP 14 4 ?_
  refine rgP 15 5 ?_
  refine done_ (by kernel_rfl) ?_
  have HB1 := Aside0.mk (below_step HB.out (below_step (below_drew (Below.refl w.heap.size w)) hb))
  have BG1 := Aside0.mk (blk_below BG.out (below_step (below_drew (Below.refl w.heap.size w)) hb))
  have HK1 := Aside0.mk (KeepBut.of_below (below_step (below_drew (Below.refl w.heap.size w)) hb) g none)
  have d1 : w1.cell? ⟨g, 1, none⟩ = some (.int .i64 at_) := (blk_cell BG1.out 1).trans k1.out
  have d2 : w1.cell? ⟨g, 2, none⟩ = some (.bool bad) := (blk_cell BG1.out 2).trans k2.out
  have f1 := blk_frozen BG1.out 1
  have f2 := blk_frozen BG1.out 2
  clear hb c0 c1
  go_wp2
  go_ret
  exact ⟨rfl, blk_set BG1.out 2 _, below_set HB1.out HGE.out, HK1.out.set_ 2 _⟩
set_option maxHeartbeats 4000000 in
set_option maxRecDepth 100000 in
theorem list72_calls (k g : Nat) (A : Option Addr) (c : Nat) (b : List Int) (at_ : Int) (bad : Bool) (cs : Array Value) (t : TypeId) (l : List Int) (nx e : Int) (w0 w : World) (hC : Kd.C (Kd.int .u8) w0 A b.length b) (hc : b.length ≤ c) (hblk : w.heap[g]? = some (.cells cs t (0, 0))) (h0 : cs[0]? = some (.slice A b.length c)) (h1 : cs[1]? = some (.int .i64 at_)) (h2 : cs[2]? = some (.bool bad)) (hB : Below w0.heap.size w0 w) (hg : w0.heap.size ≤ g) (h : vint_Read.f k b at_ = some (l, nx, e)) (r : List Int) (cs' : Array Value) (hr : (if e = 0 then (l, cs.setIfInBounds 1 (.int .i64 nx)) else ([], cs.setIfInBounds 2 (.bool true))) = (r, cs')) :
  Calls Try.prog 72 #[.pointer (some ⟨g, 0, none⟩)] w fun en w' => ∃ v : Value, en = .returned v ∧ Kd.R (Kd.int .i64) 3 w' w.heap.size (fun k_ => w.heap.size ≤ k_) v r ∧ w'.heap[g]? = some (.cells cs' t (0, 0)) ∧ Below w0.heap.size w0 w' ∧ KeepBut w w' g none := by
 have HC := Aside0.mk hC
 have HCC := Aside0.mk hc
 have HB := Aside0.mk hB
 have BG := Aside0.mk hblk
 have HG := Aside0.mk h
 have HGE := Aside0.mk hg
 have HLT := Aside0.mk (blk_lt hblk)
 have k2 := Aside0.mk h2
 have k1 := Aside0.mk h1
 have c0 : w.cell? ⟨g, 0, none⟩ = some (.slice A b.length c) := (blk_cell BG.out 0).trans h0
 have c1 : w.cell? ⟨g, 1, none⟩ = some (.int .i64 at_) := (blk_cell BG.out 1).trans h1
 clear hC hc hB hblk h h0 h1 h2 hg
 by_cases he : e = 0
 ·
  subst he
  rw [if_pos rfl] at hr
  obtain ⟨rfl, rfl⟩ := Prod.mk.inj hr
  clear hr
  go_enter Try.func72, Try.ntmps72
  go_upto_region 1 with fail
  refine start_ (n := 16) (S := fun w' => w'.cell? ⟨g, 0, none⟩ = some (.slice A b.length c) ∧ w'.cell? ⟨g, 1, none⟩ = some (.int .i64 at_)) (ds := []) #[false, false, false, false, false, false, false, false, false, false, false, false, false, false, false, false] (by kernel_rfl) rfl rfl ⟨(pw_cell_below (below_drew (Below.refl _ _)) c0), (pw_cell_below (below_drew (Below.refl _ _)) c1)⟩ (fun hHeld => ?_)
  refine rgP 0 7 ?_
  refine rgP 1 8 ?_
  refine rgP 2 9 ?_
  refine rgP 4 11 ?_
  refine rgP 5 12 ?_
  refine rgP 6 13 ?_
  refine rgT2 3 10 hHeld ?_
  refine rgT2 7 14 hHeld ?_
  refine one_ (i := 8) (N := some 15) #[true, true, true, true, true, true, true, true, true, false, false, false, false, false, false, false] rfl rfl (by kernel_rfl) (by decide) (fun K hK => ?_)
  refine goes_ Try.func74 (by kernel_rfl) rfl #[.slice A b.length c, .int .i64 at_] (by rfl) rfl rfl (by simp only [List.map_toArray, List.map_cons, List.map_nil]; rfl) ?_
  with_reducible refine ((vint_Read.calls k A c b at_ _ _ _ _ (Kd.C_below HC.out (by repeat (first | exact HB.out | (with_reducible refine below_drew ?_)))) HCC.out HG.out)).mono ?_
  rintro e_ w1 ⟨v, rfl, hR, hb⟩
  refine ⟨_, rfl, ?_⟩
  refine hK.out _ _ ⟨pw_cell_below hb hHeld.1, pw_cell_below hb hHeld.2⟩ (fun hHeld => ?_)
  clear hK K
  refine norm_ (a' := ?_) ?_ ?_
  rotate_left
  ·
   show Act.put _ (some 15) _ = _
   simp only [Act.put, List.setIfInBounds_toArray, List.set_cons_zero, List.set_cons_succ, i64_w, i32_w]
   rfl
  refine rgP 9 6 ?_
  refine rgP 10 16 ?_
  refine rgP 11 17 ?_
  refine rgP 12 18 ?_
  refine rgP 13 3 ?_
  refine rgP 14 4 ?_
  refine rgP 15 5 ?_
  refine done_ (by kernel_rfl) ?_
  have HB1 := Aside0.mk (below_step HB.out (below_step (below_drew (Below.refl w.heap.size w)) hb))
  have BG1 := Aside0.mk (blk_below BG.out (below_step (below_drew (Below.refl w.heap.size w)) hb))
  have HK1 := Aside0.mk (KeepBut.of_below (below_step (below_drew (Below.refl w.heap.size w)) hb) g none)
  have HR1 := Aside0.mk (show Kd.R (Kd.int .i64) 3 w1 w.heap.size (fun k_ => w.heap.size ≤ k_) v l from Kd.R_mono (Kd.R_bound hR) (fun k_ hk => hk.2.1))
  have d1 : w1.cell? ⟨g, 1, none⟩ = some (.int .i64 at_) := (blk_cell BG1.out 1).trans k1.out
  have d2 : w1.cell? ⟨g, 2, none⟩ = some (.bool bad) := (blk_cell BG1.out 2).trans k2.out
  have f1 := blk_frozen BG1.out 1
  have f2 := blk_frozen BG1.out 2
  clear hb c0 c1 hR
  go_wp2
  go_ret
  exact ⟨_, rfl, Kd.R_far (p := ⟨g, 1, none⟩) HR1.out (fun k_ hk => by have h3 := HLT.out; have h4 : w.heap.size ≤ k_ := hk; show k_ ≠ g; omega) _, blk_set BG1.out 1 _, below_set HB1.out HGE.out, HK1.out.set_ 1 _⟩
 ·
  rw [if_neg he] at hr
  obtain ⟨rfl, rfl⟩ := Prod.mk.inj hr
  have e1 : (e == 0) = false := beq_eq_false_iff_ne.2 he
  have e2 : (e != 0) = true := by rw [bne, e1]; rfl
  clear hr he
  go_enter Try.func72, Try.ntmps72
  go_upto_region 1 with fail
  refine start_ (n := 16) (S := fun w' => w'.cell? ⟨g, 0, none⟩ = some (.slice A b.length c) ∧ w'.cell? ⟨g, 1, none⟩ = some (.int .i64 at_)) (ds := []) #[false, false, false, false, false, false, false, false, false, false, false, false, false, false, false, false] (by kernel_rfl) rfl rfl ⟨(pw_cell_below (below_drew (Below.refl _ _)) c0), (pw_cell_below (below_drew (Below.refl _ _)) c1)⟩ (fun hHeld => ?_)
  refine rgP 0 7 ?_
  refine rgP 1 8 ?_
  refine rgP 2 9 ?_
  refine rgP 4 11 ?_
  refine rgP 5 12 ?_
  refine rgP 6 13 ?_
  refine rgT2 3 10 hHeld ?_
  refine rgT2 7 14 hHeld ?_
  refine one_ (i := 8) (N := some 15) #[true, true, true, true, true, true, true, true, true, false, false, false, false, false, false, false] rfl rfl (by kernel_rfl) (by decide) (fun K hK => ?_)
  refine goes_ Try.func74 (by kernel_rfl) rfl #[.slice A b.length c, .int .i64 at_] (by rfl) rfl rfl (by simp only [List.map_toArray, List.map_cons, List.map_nil]; rfl) ?_
  with_reducible refine ((vint_Read.calls k A c b at_ _ _ _ _ (Kd.C_below HC.out (by repeat (first | exact HB.out | (with_reducible refine below_drew ?_)))) HCC.out HG.out)).mono ?_
  rintro e_ w1 ⟨v, rfl, hR, hb⟩
  refine ⟨_, rfl, ?_⟩
  refine hK.out _ _ ⟨pw_cell_below hb hHeld.1, pw_cell_below hb hHeld.2⟩ (fun hHeld => ?_)
  clear hK K
  refine norm_ (a' := ?_) ?_ ?_
  rotate_left
  ·
   show Act.put _ (some 15) _ = _
   simp only [Act.put, List.setIfInBounds_toArray, List.set_cons_zero, List.set_cons_succ, i64_w, i32_w]
   rfl
  refine rgP 9 6 ?_
  refine rgP 10 16 ?_
  refine rgP 11 17 ?_
  refine rgP 12 18 ?_
  refine rgP 13 3 ?_
  refine rgP 14 4 ?_
  refine rgP 15 5 ?_
  refine done_ (by kernel_rfl) ?_
  have HB1 := Aside0.mk (below_step HB.out (below_step (below_drew (Below.refl w.heap.size w)) hb))
  have BG1 := Aside0.mk (blk_below BG.out (below_step (below_drew (Below.refl w.heap.size w)) hb))
  have HK1 := Aside0.mk (KeepBut.of_below (below_step (below_drew (Below.refl w.heap.size w)) hb) g none)
  have HR1 := Aside0.mk (show Kd.R (Kd.int .i64) 3 w1 w.heap.size (fun k_ => w.heap.size ≤ k_) v l from Kd.R_mono (Kd.R_bound hR) (fun k_ hk => hk.2.1))
  have d1 : w1.cell? ⟨g, 1, none⟩ = some (.int .i64 at_) := (blk_cell BG1.out 1).trans k1.out
  have d2 : w1.cell? ⟨g, 2, none⟩ = some (.bool bad) := (blk_cell BG1.out 2).trans k2.out
  have f1 := blk_frozen BG1.out 1
  have f2 := blk_frozen BG1.out 2
  clear hb c0 c1 hR
  go_wp2
  go_ret
  exact ⟨_, rfl, Kd.R_nil _ _ _ _ _, blk_set BG1.out 2 _, below_set HB1.out HGE.out, HK1.out.set_ 2 _⟩
set_option maxHeartbeats 4000000 in
set_option maxRecDepth 100000 in
theorem ends69_calls (g : Nat) (A : Option Addr) (c : Nat) (b : List Int) (at_ : Int) (bad : Bool) (cs : Array Value) (t : TypeId) (w : World) (hblk : w.heap[g]? = some (.cells cs t (0, 0))) (h0 : cs[0]? = some (.slice A b.length c)) (h1 : cs[1]? = some (.int .i64 at_)) (h2 : cs[2]? = some (.bool bad)) (r : Bool) (hr : (!bad && at_ == (b.length : Int)) = r) :
  Calls Try.prog 69 #[.pointer (some ⟨g, 0, none⟩)] w fun en w' => en = .returned (.bool r) ∧ Below w.heap.size w w' := by
 have c0 : w.cell? ⟨g, 0, none⟩ = some (.slice A b.length c) := (blk_cell hblk 0).trans h0
 have c1 : w.cell? ⟨g, 1, none⟩ = some (.int .i64 at_) := (blk_cell hblk 1).trans h1
 have c2 : w.cell? ⟨g, 2, none⟩ = some (.bool bad) := (blk_cell hblk 2).trans h2
 clear hblk h0 h1 h2
 cases bad with
 | true =>
  obtain rfl : false = r := hr
  go_enter Try.func69, Try.ntmps69
  go_upto_region 1 with fail
  refine start_ (n := 18) (S := fun w' => w'.cell? ⟨g, 2, none⟩ = some (.bool true)) (ds := []) #[false, false, false, false, false, false, false, false, false, false, false, false, false, false, false, false, false, false] (by kernel_rfl) rfl rfl (c2) (fun hHeld => ?_)
  refine rgP 0 3 ?_
  refine rgP 1 4 ?_
  refine rgP 2 5 ?_
  refine rgT1 3 6 hHeld ?_
  refine rgP 4 7 ?_
  refine rgP 5 8 ?_
  refine rgU 6 9 ?_
  refine rgU 7 10 ?_
  refine rgU 8 11 ?_
  refine rgU 9 12 ?_
  refine rgU 10 13 ?_
  refine rgU 11 14 ?_
  refine rgU 12 15 ?_
  refine rgU 13 16 ?_
  refine rgU 14 17 ?_
  refine rgU 15 18 ?_
  refine rgP 16 19 ?_
  refine rgP 17 2 ?_
  refine done_ (by kernel_rfl) ?_
  go_wp2
  go_ret
  exact ⟨rfl, below_drew (Below.refl _ _)⟩
 | false =>
  replace hr : (at_ == (b.length : Int)) = r := hr
  go_enter Try.func69, Try.ntmps69
  go_upto_region 1 with fail
  refine start_ (n := 18) (S := fun w' => w'.cell? ⟨g, 2, none⟩ = some (.bool false) ∧ w'.cell? ⟨g, 1, none⟩ = some (.int .i64 at_) ∧ w'.cell? ⟨g, 0, none⟩ = some (.slice A b.length c)) (ds := []) #[false, false, false, false, false, false, false, false, false, false, false, false, false, false, false, false, false, false] (by kernel_rfl) rfl rfl ⟨c2, c1, c0⟩ (fun hHeld => ?_)
  refine rgP 0 3 ?_
  refine rgP 1 4 ?_
  refine rgP 2 5 ?_
  refine rgT3 3 6 hHeld ?_
  refine rgP 4 7 ?_
  refine rgP 5 8 ?_
  refine rgP 6 9 ?_
  refine rgP 7 10 ?_
  refine rgP 8 11 ?_
  refine rgP 10 13 ?_
  refine rgP 11 14 ?_
  refine rgP 12 15 ?_
  refine rgT3 9 12 hHeld ?_
  refine rgT3 13 16 hHeld ?_
  refine rgP 14 17 ?_
  refine rgP 15 18 ?_
  refine rgP 16 19 ?_
  refine rgP 17 2 ?_
  refine done_ (by kernel_rfl) ?_
  go_wp2
  go_ret
  exact ⟨rfl, below_drew (Below.refl _ _)⟩

end Go.Proofs.Ytfhcolhiolgikaa.T
/- Written by hp.py, this session's own program, out of the translation of this seat: Lean functions for the Go functions, and the proof that each call comes to what its Lean function says. -/
namespace Go.Proofs.Ytfhcolhiolgikaa.T
open Go.RowKit Go.Proofs.YtfhcolhiolgikaaW.PrintWords Go.Proofs.YtfhcolhiolgikaaW.PrintLast Go.Proofs.YtfhcolhiolgikaaW.PrintMore
attribute [local go_sem] max2_int min2_int max_two min_two max_three min_three max_four min_four   -- for this text's walks alone
set_option linter.unusedVariables false
set_option linter.unusedSimpArgs false
/-! ### bytes, of a reader (50), by hand: three ways -/
set_option maxHeartbeats 4000000 in
set_option maxRecDepth 100000 in
theorem bytes50_bad (k g : Nat) (A : Option Addr) (c : Nat) (b : List Int) (at_ : Int) (bad : Bool) (cs : Array Value) (t : TypeId) (n nx e : Int) (w0 w : World) (hC : Kd.C (Kd.int .u8) w0 A b.length b) (hc : b.length ≤ c) (hblk : w.heap[g]? = some (.cells cs t (0, 0))) (h0 : cs[0]? = some (.slice A b.length c)) (h1 : cs[1]? = some (.int .i64 at_)) (h2 : cs[2]? = some (.bool bad)) (hB : Below w0.heap.size w0 w) (hg : w0.heap.size ≤ g) (h : vint_Get.f k b at_ = some (n, nx, e)) (cs1 : Array Value) (r : Int) (hr : (if e = 0 then (n, cs.setIfInBounds 1 (.int .i64 nx)) else (0, cs.setIfInBounds 2 (.bool true))) = (r, cs1)) (hbad : cs1[2]? = some (.bool true)) :
  Calls Try.prog 50 #[.pointer (some ⟨g, 0, none⟩)] w fun en w' => en = .returned (.slice none 0 0) ∧ w'.heap[g]? = some (.cells (cs1.setIfInBounds 2 (.bool true)) t (0, 0)) ∧ Below w0.heap.size w0 w' ∧ KeepBut w w' g none := by
 have HNUM := Aside0.mk (num47_calls k g A c b at_ bad cs t n nx e w0 w hC hc hblk h0 h1 h2 hB hg h r cs1 hr)
 have HGE := Aside0.mk hg
 have HBAD := Aside0.mk hbad
 clear hC hc hblk h0 h1 h2 hB hg h hr hbad
 go_enter Try.func50, Try.ntmps50
 go_upto_region 2 with (first | (go_at_call 47; (refine (HNUM.out).mono ?_); rintro e_ w1 ⟨rfl, hb1, hB1, hk1⟩; have HKB := Aside0.mk (show KeepBut w w1.drew g none from ⟨hk1.1, hk1.2⟩); clear hk1; have BG := Aside0.mk hb1; have HB := Aside0.mk hB1; clear hb1 hB1))
 have d2 : w1.cell? ⟨g, 2, none⟩ = some (.bool true) := (blk_cell BG.out 2).trans HBAD.out
 replace d2 : w1.drew.cell? ⟨g, 2, none⟩ = some (.bool true) := pw_cell_below (below_drew (Below.refl _ _)) d2
 refine start_ (n := 18) (S := fun w' => w'.cell? ⟨g, 2, none⟩ = some (.bool true)) (ds := []) #[false, false, false, false, false, false, false, false, false, false, false, false, false, false, false, false, false, false] (by kernel_rfl) rfl rfl (d2) (fun hHeld => ?_)
 refine rgP 0 6 ?_
 refine rgP 1 7 ?_
 refine rgP 2 8 ?_
 refine rgT1 3 9 hHeld ?_
 refine rgP 4 10 ?_
 refine rgU 5 11 ?_
 refine rgU 6 12 ?_
 refine rgU 7 13 ?_
 refine rgU 8 14 ?_
 refine rgU 9 15 ?_
 refine rgU 10 16 ?_
 refine rgU 11 17 ?_
 refine rgU 12 18 ?_
 refine rgU 13 19 ?_
 refine rgU 14 20 ?_
 refine rgU 15 21 ?_
 refine rgU 16 22 ?_
 refine rgP 17 23 ?_
 refine done_ (by kernel_rfl) ?_
 have f2 := blk_frozen (blk_drew BG.out) 2
 go_wp2
 go_ret
 exact ⟨rfl, blk_set (blk_drew BG.out) 2 _, below_set (below_drew HB.out) HGE.out, HKB.out.set_ 2 _⟩
set_option maxHeartbeats 4000000 in
set_option maxRecDepth 100000 in
theorem bytes50_short (k g : Nat) (A : Option Addr) (c : Nat) (b : List Int) (at_ : Int) (bad : Bool) (cs : Array Value) (t : TypeId) (n nx e : Int) (w0 w : World) (hC : Kd.C (Kd.int .u8) w0 A b.length b) (hc : b.length ≤ c) (hblk : w.heap[g]? = some (.cells cs t (0, 0))) (h0 : cs[0]? = some (.slice A b.length c)) (h1 : cs[1]? = some (.int .i64 at_)) (h2 : cs[2]? = some (.bool bad)) (hB : Below w0.heap.size w0 w) (hg : w0.heap.size ≤ g) (h : vint_Get.f k b at_ = some (n, nx, e)) (cs1 : Array Value) (r : Int) (hr : (if e = 0 then (n, cs.setIfInBounds 1 (.int .i64 nx)) else (0, cs.setIfInBounds 2 (.bool true))) = (r, cs1)) (h10 : cs1[0]? = some (.slice A b.length c)) (h11 : cs1[1]? = some (.int .i64 nx)) (hbad : cs1[2]? = some (.bool false)) (hlt : wrap64 ((b.length : Int) - nx) < r) :
  Calls Try.prog 50 #[.pointer (some ⟨g, 0, none⟩)] w fun en w' => en = .returned (.slice none 0 0) ∧ w'.heap[g]? = some (.cells (cs1.setIfInBounds 2 (.bool true)) t (0, 0)) ∧ Below w0.heap.size w0 w' ∧ KeepBut w w' g none := by
 have HNUM := Aside0.mk (num47_calls k g A c b at_ bad cs t n nx e w0 w hC hc hblk h0 h1 h2 hB hg h r cs1 hr)
 have HGE := Aside0.mk hg
 have k0 := Aside0.mk h10
 have k1 := Aside0.mk h11
 have k2 := Aside0.mk hbad
 have dl : decide (wrap64 ((b.length : Int) - nx) < r) = true := decide_eq_true hlt
 clear hC hc hblk h0 h1 h2 hB hg h hr hbad h10 h11 hlt
 go_enter Try.func50, Try.ntmps50
 go_upto_region 2 with (first | (go_at_call 47; (refine (HNUM.out).mono ?_); rintro e_ w1 ⟨rfl, hb1, hB1, hk1⟩; have HKB := Aside0.mk (show KeepBut w w1.drew g none from ⟨hk1.1, hk1.2⟩); clear hk1; have BG := Aside0.mk (blk_drew hb1); have HB := Aside0.mk (below_drew hB1); clear hb1 hB1))
 have d2 : w1.drew.cell? ⟨g, 2, none⟩ = some (.bool false) := (blk_cell BG.out 2).trans k2.out
 have d1 : w1.drew.cell? ⟨g, 1, none⟩ = some (.int .i64 nx) := (blk_cell BG.out 1).trans k1.out
 have d0 : w1.drew.cell? ⟨g, 0, none⟩ = some (.slice A b.length c) := (blk_cell BG.out 0).trans k0.out
 refine start_ (n := 18) (S := fun w' => w'.cell? ⟨g, 2, none⟩ = some (.bool false) ∧ w'.cell? ⟨g, 0, none⟩ = some (.slice A b.length c) ∧ w'.cell? ⟨g, 1, none⟩ = some (.int .i64 nx)) (ds := []) #[false, false, false, false, false, false, false, false, false, false, false, false, false, false, false, false, false, false] (by kernel_rfl) rfl rfl ⟨d2, d0, d1⟩ (fun hHeld => ?_)
 refine rgP 0 6 ?_
 refine rgP 1 7 ?_
 refine rgP 2 8 ?_
 refine rgT3 3 9 hHeld ?_
 refine rgP 4 10 ?_
 refine rgP 5 11 ?_
 refine rgP 6 12 ?_
 refine rgP 7 13 ?_
 refine rgP 8 14 ?_
 refine rgP 11 17 ?_
 refine rgP 12 18 ?_
 refine rgP 13 19 ?_
 refine rgT3 9 15 hHeld ?_
 refine rgP 10 16 ?_
 refine rgT3 14 20 hHeld ?_
 refine rgP 15 21 ?_
 refine rgP 16 22 ?_
 refine rgP 17 23 ?_
 refine done_ (by kernel_rfl) ?_
 have f2 := blk_frozen BG.out 2
 go_wp2
 go_ret
 exact ⟨rfl, blk_set BG.out 2 _, below_set HB.out HGE.out, HKB.out.set_ 2 _⟩
set_option maxHeartbeats 4000000 in
set_option maxRecDepth 100000 in
theorem bytes50_whole (k g : Nat) (A : Option Addr) (c : Nat) (b : List Int) (at_ : Int) (bad : Bool) (cs : Array Value) (t : TypeId) (n nx e : Int) (p q : Nat) (w0 w : World) (hC : Kd.C (Kd.int .u8) w0 A b.length b) (hc : b.length ≤ c) (hblk : w.heap[g]? = some (.cells cs t (0, 0))) (h0 : cs[0]? = some (.slice A b.length c)) (h1 : cs[1]? = some (.int .i64 at_)) (h2 : cs[2]? = some (.bool bad)) (hB : Below w0.heap.size w0 w) (hg : w0.heap.size ≤ g) (h : vint_Get.f k b at_ = some (n, nx, e)) (cs1 : Array Value) (r : Int) (hr : (if e = 0 then (n, cs.setIfInBounds 1 (.int .i64 nx)) else (0, cs.setIfInBounds 2 (.bool true))) = (r, cs1)) (h10 : cs1[0]? = some (.slice A b.length c)) (h11 : cs1[1]? = some (.int .i64 nx)) (hbad : cs1[2]? = some (.bool false)) (hp : nx = (p : Int)) (hq : r = (q : Int)) (hlt : p + q ≤ b.length) :
  Calls Try.prog 50 #[.pointer (some ⟨g, 0, none⟩)] w fun en w' => en = .returned (.slice (if c = p then A else A.map (·.add p)) q (c - p)) ∧ w'.heap[g]? = some (.cells (cs1.setIfInBounds 1 (.int .i64 ((p : Int) + (q : Int)))) t (0, 0)) ∧ Below w0.heap.size w0 w' ∧ KeepBut w w' g none := by
 have hlm : b.length ≤ 9223372036854775807 := hC.2.1
 have HNUM := Aside0.mk (num47_calls k g A c b at_ bad cs t n nx e w0 w hC hc hblk h0 h1 h2 hB hg h r cs1 hr)
 have HGE := Aside0.mk hg
 have k0 := Aside0.mk h10
 have k1 := Aside0.mk h11
 have k2 := Aside0.mk hbad
 subst hp hq
 have hw1 : wrap64 ((b.length : Int) - (p : Int)) = (b.length : Int) - (p : Int) := by unfold wrap64; omega
 have hw2 : wrap64 ((p : Int) + (q : Int)) = (p : Int) + (q : Int) := by unfold wrap64; omega
 have hw3 : wrap64 ((p : Int) + (q : Int) - (q : Int)) = (p : Int) := by unfold wrap64; omega
 have hw4 : wrap64 (p : Int) = (p : Int) := by unfold wrap64; omega
 have dl : decide (wrap64 ((b.length : Int) - (p : Int)) < (q : Int)) = false := decide_eq_false (by rw [hw1]; omega)
 have dl2 : decide ((b.length : Int) - (p : Int) < (q : Int)) = false := decide_eq_false (by omega)
 have t1 : (0 : Int) ≤ (p : Int) := by omega
 have t2 : (p : Int) ≤ (p : Int) + (q : Int) := by omega
 have t3 : (p : Int) + (q : Int) ≤ (c : Int) := by omega
 have t4 : ((p : Int) + (q : Int)).toNat = p + q := by omega
 clear hC hc hblk h0 h1 h2 hB hg h hr hbad h10 h11 hlt
 go_enter Try.func50, Try.ntmps50
 go_upto_region 2 with (first | (go_at_call 47; (refine (HNUM.out).mono ?_); rintro e_ w1 ⟨rfl, hb1, hB1, hk1⟩; have HKB := Aside0.mk (show KeepBut w w1.drew g none from ⟨hk1.1, hk1.2⟩); clear hk1; have BG0 := Aside0.mk hb1; have HB0 := Aside0.mk hB1; have BG := Aside0.mk (blk_drew hb1); have HB := Aside0.mk (below_drew hB1); clear hb1 hB1))
 have d2 : w1.drew.cell? ⟨g, 2, none⟩ = some (.bool false) := (blk_cell BG.out 2).trans k2.out
 have d1 : w1.drew.cell? ⟨g, 1, none⟩ = some (.int .i64 (p : Int)) := (blk_cell BG.out 1).trans k1.out
 have d0 : w1.drew.cell? ⟨g, 0, none⟩ = some (.slice A b.length c) := (blk_cell BG.out 0).trans k0.out
 refine start_ (n := 18) (S := fun w' => w'.cell? ⟨g, 2, none⟩ = some (.bool false) ∧ w'.cell? ⟨g, 0, none⟩ = some (.slice A b.length c) ∧ w'.cell? ⟨g, 1, none⟩ = some (.int .i64 (p : Int))) (ds := []) #[false, false, false, false, false, false, false, false, false, false, false, false, false, false, false, false, false, false] (by kernel_rfl) rfl rfl ⟨d2, d0, d1⟩ (fun hHeld => ?_)
 refine rgP 0 6 ?_
 refine rgP 1 7 ?_
 refine rgP 2 8 ?_
 refine rgT3 3 9 hHeld ?_
 refine rgP 4 10 ?_
 refine rgP 5 11 ?_
 refine rgP 6 12 ?_
 refine rgP 7 13 ?_
 refine rgP 8 14 ?_
 refine rgP 11 17 ?_
 refine rgP 12 18 ?_
 refine rgP 13 19 ?_
 refine rgT3 9 15 hHeld ?_
 refine rgP 10 16 ?_
 refine rgT3 14 20 hHeld ?_
 refine rgP 15 21 ?_
 refine rgP 16 22 ?_
 refine rgP 17 23 ?_
 refine done_ (by kernel_rfl) ?_
 have f1 := blk_frozen BG.out 1
 go_upto_region 6 with fail
 have B5 := Aside0.mk (blk_drew (blk_set BG0.out 1 (.int .i64 ((p : Int) + (q : Int)))))
 have H5 := Aside0.mk (below_drew (below_set (j := 1) (v := .int .i64 ((p : Int) + (q : Int))) HB0.out HGE.out))
 have K5 := Aside0.mk (show KeepBut w ((w1.setCell ⟨g, 1, none⟩ (.int .i64 ((p : Int) + (q : Int))))).drew g none from ⟨(HKB.out.set_ 1 _).1, (HKB.out.set_ 1 _).2⟩)
 generalize ((w1.setCell ⟨g, 1, none⟩ (.int .i64 ((p : Int) + (q : Int))))).drew = w5 at *
 have e0 : w5.drew.cell? ⟨g, 0, none⟩ = some (.slice A b.length c) := (blk_cell (blk_drew B5.out) 0).trans (by rw [Array.getElem?_setIfInBounds_ne (by decide)]; exact k0.out)
 have e1 : w5.drew.cell? ⟨g, 1, none⟩ = some (.int .i64 ((p : Int) + (q : Int))) := (blk_cell (blk_drew B5.out) 1).trans (Array.getElem?_setIfInBounds_self_of_lt (Array.getElem?_eq_some_iff.1 k1.out).1)
 refine start_ (n := 16) (S := fun w' => w'.cell? ⟨g, 0, none⟩ = some (.slice A b.length c) ∧ w'.cell? ⟨g, 1, none⟩ = some (.int .i64 ((p : Int) + (q : Int)))) (ds := []) #[false, false, false, false, false, false, false, false, false, false, false, false, false, false, false, false] (by kernel_rfl) rfl rfl ⟨e0, e1⟩ (fun hHeld => ?_)
 refine rgP 0 35 ?_
 refine rgP 1 36 ?_
 refine rgP 2 37 ?_
 refine rgP 4 39 ?_
 refine rgP 5 40 ?_
 refine rgP 6 41 ?_
 refine rgP 8 43 ?_
 refine rgP 10 45 ?_
 refine rgP 11 46 ?_
 refine rgP 12 47 ?_
 refine rgT2 3 38 hHeld ?_
 refine rgT2 7 42 hHeld ?_
 refine rgP 9 44 ?_
 refine rgT2 13 48 hHeld ?_
 refine rgP 14 49 ?_
 refine rgP 15 2 ?_
 refine done_ (by kernel_rfl) ?_
 go_wp2
 all_goals (go_ret; exact ⟨by first | rfl | simp_all, blk_drew B5.out, below_drew H5.out, ⟨K5.out.1, K5.out.2⟩⟩)

end Go.Proofs.Ytfhcolhiolgikaa.T
/- Written by hp.py, this session's own program, out of the translation of this seat: Lean functions for the Go functions, and the proof that each call comes to what its Lean function says. -/
namespace Go.Proofs.Ytfhcolhiolgikaa.T
open Go.RowKit Go.Proofs.YtfhcolhiolgikaaW.PrintWords Go.Proofs.YtfhcolhiolgikaaW.PrintLast Go.Proofs.YtfhcolhiolgikaaW.PrintMore
attribute [local go_sem] max2_int min2_int max_two min_two max_three min_three max_four min_four   -- for this text's walks alone
set_option linter.unusedVariables false
set_option linter.unusedSimpArgs false
/-! ### frame.each at the method value (function 59), frame.Sum (function 40), by hand -/
theorem add_some : ∀ (d k : Nat) (i x : Int), i + d = 8 → 0 ≤ i → d < k → ∃ r, frame_sum_add.l0 k i x = some r
 | 0, k, i, x, h, h0, hk => by
  obtain ⟨k, rfl⟩ : ∃ m, k = m + 1 := ⟨k - 1, by omega⟩
  exact ⟨x, by rw [frame_sum_add.l0, if_neg (by omega)]⟩
 | d + 1, k, i, x, h, h0, hk => by
  obtain ⟨k, rfl⟩ : ∃ m, k = m + 1 := ⟨k - 1, by omega⟩
  have hw : wrap64 (i + 1) = i + 1 := by unfold wrap64; omega
  rw [frame_sum_add.l0, if_pos (by omega), hw]
  split
  ·
   exact add_some d k (i + 1) _ (by omega) (by omega) (by omega)
  ·
   exact add_some d k (i + 1) _ (by omega) (by omega) (by omega)
def addS (s a : Int) : Int := (frame_sum_add.f 20 s a).getD 0
theorem addS_eq (s a : Int) : frame_sum_add.f 20 s a = some (addS s a) := by
 obtain ⟨r, hr⟩ := add_some 8 20 0 (Go.bits .xor .u32 s ((a) % 4294967296)) (by omega) (by omega) (by omega)
 have hf : frame_sum_add.f 20 s a = some r := hr
 unfold addS
 rw [hf]
 rfl
set_option maxHeartbeats 4000000 in
set_option maxRecDepth 100000 in
theorem each_calls (A : Option Addr) (c : Nat) (l : List Int) (g : Nat) (s : Int) (w0 w : World) (hC : Kd.C (Kd.int .u8) w0 A l.length l) (hc : l.length ≤ c) (hI : IsS104 w0 w g s) (hB : Below w0.heap.size w0 w) :
  Calls Try.prog 59 #[.slice A l.length c, .func (.func 60) #[.pointer (some ⟨g, 0, none⟩)] #[]] w fun e w' => e = .returned (.tuple #[]) ∧ IsS104 w0 w' g (l.foldl addS s) ∧ Below w0.heap.size w0 w' := by
 have hlm : l.length ≤ 9223372036854775807 := hC.2.1
 have HR := Aside0.mk hC
 have HI0 := Aside0.mk hI
 have HB0 := Aside0.mk hB
 clear hC hI hB
 go_enter Try.func59, Try.ntmps59
 go_wp2
 go_loopg [8] l.length (fun kq v8 w' => ∃ (i : Nat) (t : Int), v8 = .int .i64 (i : Int) ∧ Aside0 (l.length ≤ kq + i) ∧ Aside0 (i ≤ l.length) ∧ Aside0 ((l.drop i).foldl addS t = l.foldl addS s) ∧ Aside0 (IsS104 w0 w' g t) ∧ Aside0 (Below w0.heap.size w0 w'))
 case atStart => exact ⟨0, s, rfl, ⟨Nat.le_refl _⟩, ⟨Nat.zero_le _⟩, ⟨rfl⟩, HI0, HB0⟩
 case round =>
  obtain ⟨i, t, rfl, HK, HI, HN, HS, HB⟩ := hrel
  obtain ⟨wo, rfl⟩ : ∃ wo : World, wo = wr := ⟨_, rfl⟩
  by_cases hlt : i < l.length
  ·
   obtain ⟨kj, rfl⟩ : ∃ m, gk = m + 1 := ⟨gk - 1, by have := HK.out; omega⟩
   have d1 : decide ((i : Int) < (l.length : Int)) = true := decide_eq_true (by omega)
   obtain ⟨ad, ea, hx⟩ := Kd.at_int (Kd.C_below HR.out HB.out) (i : Int) (by omega) (by omega)
   subst ea
   rw [Int.toNat_natCast] at hx
   have hstep : (l.drop i).foldl addS t = (l.drop (i + 1)).foldl addS (addS t (rd l (i : Int))) := by
    rw [List.drop_eq_getElem_cons hlt, List.foldl_cons]
    unfold rd
    rw [Int.toNat_natCast, List.getD_eq_getElem?_getD, List.getElem?_eq_getElem hlt]
    rfl
   have hn := HN.out
   rw [hstep] at hn
   generalize rd l (i : Int) = x at hx hn
   have HN2 := Aside0.mk hn
   clear hn hstep
   go_wp2_with (first | (go_at_call 60; (refine (frame_sum_add.calls 20 g t x (addS t x) w0 _ HS.out HB.out (addS_eq t x)).mono ?_); rintro e w1 ⟨rfl, hS1, hB1, _⟩; have HS1 := Aside0.mk hS1; have HB1 := Aside0.mk hB1; clear hS1 hB1))
   go_roundg kj
   case measure => omega
   case rel => exact ⟨i + 1, _, congrArg (Value.int .i64) (by omega), ⟨by have := HK.out; omega⟩, ⟨by omega⟩, HN2, HS1, HB1⟩
  ·
   have d1 : decide ((i : Int) < (l.length : Int)) = false := decide_eq_false (by omega)
   have HN2 := Aside0.mk (show IsS104 w0 wo g (l.foldl addS s) by have h := HN.out; rw [List.drop_eq_nil_of_le (by omega)] at h; rw [← h]; exact HS.out)
   go_wp2
   first | go_end0 | ((try simp only [Exit.inBlock, Exit.then]); refine bodyPost_ret (results_none rfl _ _ _) rfl ?_)
   exact ⟨rfl, HN2.out, HB.out⟩
def sumL (l : List Int) : Int := Go.bits BinOp.xor IntKind.u32 IntKind.u32.max (l.foldl addS 4294967295)
def frame_Sum.f (l : List Int) : Option Int := some (sumL l)
set_option maxHeartbeats 4000000 in
set_option maxRecDepth 100000 in
theorem frame_Sum.calls (A : Option Addr) (c : Nat) (l : List Int) (r : Int) (w : World) (hC : Kd.C (Kd.int .u8) w A l.length l) (hc : l.length ≤ c) (h : frame_Sum.f l = some r) : Calls Try.prog 40 #[.slice A l.length c] w fun e w' => e = .returned (.int .u32 r) ∧ Below w.heap.size w w' := by
 obtain rfl := Option.some.inj h
 clear h
 have hu104 := Try.underlying104
 have HR := Aside0.mk hC
 clear hC
 go_enter Try.func40, Try.ntmps40
 go_upto_region 2 with fail
 have hI : IsS104 w (w.alloc (.cells #[.int .u32 4294967295] 104)) w.heap.size 4294967295 := ⟨blk_new _ _, Nat.le_refl _⟩
 have hB := below_alloc (Below.refl w.heap.size w) (.cells #[.int .u32 4294967295] 104)
 generalize (w.alloc (.cells #[.int .u32 4294967295] 104)) = wb at *
 have HI := Aside0.mk hI
 have HB := Aside0.mk hB
 clear hI hB
 generalize w.heap.size = g at HI ⊢
 go_upto_region 3 with (first | (go_at_call 59; (refine (each_calls A c l g 4294967295 w _ HR.out hc HI.out HB.out).mono ?_); rintro e w1 ⟨rfl, hS1, hB1⟩; have HS1 := Aside0.mk hS1; have HB1 := Aside0.mk hB1; have c0 := cellS104_0 hS1.1; clear hS1 hB1))
 go_wp2
 go_ret
 exact ⟨rfl, HB1.out⟩

end Go.Proofs.Ytfhcolhiolgikaa.T
/- Written by hp.py, this session's own program, out of the translation of this seat: Lean functions for the Go functions, and the proof that each call comes to what its Lean function says. -/
namespace Go.Proofs.Ytfhcolhiolgikaa.T
open Go.RowKit Go.Proofs.YtfhcolhiolgikaaW.PrintWords Go.Proofs.YtfhcolhiolgikaaW.PrintLast Go.Proofs.YtfhcolhiolgikaaW.PrintMore
attribute [local go_sem] max2_int min2_int max_two min_two max_three min_three max_four min_four   -- for this text's walks alone
set_option linter.unusedVariables false
set_option linter.unusedSimpArgs false
/-! ### frame.of (function 39), by hand -/
theorem results_c1 {P : Program} {fn : Func} {p : Tmp} {ty : TypeId} (h : fn.results = #[.cell p ty]) (tmps : Array Value) (w : World) (g : Nat) (t : TypeId) (cs : Array Value) (fr : Nat × Nat) (d : TypeDesc)
  (hp : tmps.getD p undef = .pointer (some ⟨g, 0, none⟩)) (hg : w.heap[g]? = some (.cells cs t fr))
  (hu : P.underlying ty = some d) (hd : (match d with | .struct _ | .array _ _ => true | _ => false) = true) (hi : (P.info? ty).map (·.size) = some cs.size) :
  (results fn tmps).run P w = .ok (.agg cs) w := by
 have hp' : tmps[p]?.getD undef = .pointer (some ⟨g, 0, none⟩) := by simpa using hp
 simp [results, h, hp', asAddr, run_loadVar_row w g t ty cs fr d hg hu hd hi]
def ofL (n : Int) : List Int := [n % 256, n / 256 % 256, n / 65536 % 256, n / 16777216 % 256]
def ofA (n : Int) : Array Value := #[.int .u8 (n % 256), .int .u8 (n / 256 % 256), .int .u8 (n / 65536 % 256), .int .u8 (n / 16777216 % 256)]
set_option maxHeartbeats 1000000 in
set_option maxRecDepth 100000 in
theorem of_calls (n : Int) (w : World) : Calls Try.prog 39 #[.int .u32 n] w fun e w' => e = .returned (.agg #[.int .u8 (n % 256), .int .u8 (n / 256 % 256), .int .u8 (n / 65536 % 256), .int .u8 (n / 16777216 % 256)]) ∧ Below w.heap.size w w' := by
 have hu38 := Try.underlying38
 go_enter Try.func39, Try.ntmps39
 go_upto_region 1 with fail
 have b0 := blk_new w (.cells #[.int .u8 0, .int .u8 0, .int .u8 0, .int .u8 0] 38)
 have bb := below_alloc (Below.refl w.heap.size w) (.cells #[.int .u8 0, .int .u8 0, .int .u8 0, .int .u8 0] 38)
 generalize (w.alloc (.cells #[.int .u8 0, .int .u8 0, .int .u8 0, .int .u8 0] 38)) = wb at *
 have HB := Aside0.mk bb
 have HG := Aside0.mk (Nat.le_refl w.heap.size)
 generalize hg : w.heap.size = g at b0 ⊢
 have BG := Aside0.mk b0
 have f0 := blk_frozen BG.out 0
 have f1 := blk_frozen BG.out 1
 have f2 := blk_frozen BG.out 2
 have f3 := blk_frozen BG.out 3
 have c0 : wb.cell? ⟨g, 0, none⟩ = some (.int .u8 0) := (blk_cell BG.out 0).trans rfl
 have c1 : wb.cell? ⟨g, 1, none⟩ = some (.int .u8 0) := (blk_cell BG.out 1).trans rfl
 have c2 : wb.cell? ⟨g, 2, none⟩ = some (.int .u8 0) := (blk_cell BG.out 2).trans rfl
 have c3 : wb.cell? ⟨g, 3, none⟩ = some (.int .u8 0) := (blk_cell BG.out 3).trans rfl
 have HLE := Aside0.mk (show w.heap.size ≤ g by omega)
 clear bb b0 HG hg
 go_wp2
 have hG := blk_set (blk_set (blk_set (blk_set BG.out 0 (.int .u8 (n % 256))) 1 (.int .u8 (n / 256 % 256))) 2 (.int .u8 (n / 65536 % 256))) 3 (.int .u8 (n / 16777216 % 256))
 refine bodyPost_ret (results_c1 rfl _ _ g 38 (ofA n) (0, 0) _ rfl hG Try.underlying38 rfl (by kernel_rfl)) rfl ?_
 exact ⟨rfl, below_set (below_set (below_set (below_set HB.out HLE.out) HLE.out) HLE.out) HLE.out⟩

end Go.Proofs.Ytfhcolhiolgikaa.T
/- Written by hp.py, this session's own program, out of the translation of this seat: Lean functions for the Go functions, and the proof that each call comes to what its Lean function says. -/
namespace Go.Proofs.Ytfhcolhiolgikaa.T
open Go.RowKit Go.Proofs.YtfhcolhiolgikaaW.PrintWords Go.Proofs.YtfhcolhiolgikaaW.PrintLast Go.Proofs.YtfhcolhiolgikaaW.PrintMore
attribute [local go_sem] max2_int min2_int max_two min_two max_three min_three max_four min_four   -- for this text's walks alone
set_option linter.unusedVariables false
set_option linter.unusedSimpArgs false
/-! ### frame.Wrap (function 20), by hand -/
theorem wr_lit {W : World} {k : IntKind} {g : Nat} {t : TypeId} {cs : Array Value} (xs : List Int) (h : W.heap[g]? = some (.cells cs t (0, 0))) (he : cs.toList = xs.map (Value.int k)) (hl : xs.length ≤ 1000) : Kd.C (Kd.int k) W (some ⟨g, 0, none⟩) xs.length xs := by
 refine ⟨rfl, by omega, fun _ => ⟨⟨g, 0, none⟩, rfl, fun j p hp => ⟨[.int k p], rfl, rfl, fun i u hu => ?_⟩⟩⟩
 have hi : i = 0 := by have := (List.getElem?_eq_some_iff.1 hu).1; simpa using this
 subst hi
 have e : (⟨g, 0, none⟩ : Addr).add (j * (Kd.int k).sz + 0) = ⟨g, j, none⟩ := by rw [add_plain]; congr 1; show j * 1 + 0 = j; omega
 rw [e, blk_cell h, ← Array.getElem?_toList, he, List.getElem?_map, hp]
 exact hu
def frame_Wrap.f (k : Nat) (kind : Int) (l : List Int) : Option (List Int) := if (l.length : Int) > 65536 then some [] else (vint_Put.f k (l.length : Int)).bind fun p => if p.length ≤ 1000 then some (([70, kind] ++ p ++ l) ++ ofL (sumL ([70, kind] ++ p ++ l))) else none
set_option maxHeartbeats 8000000 in
set_option maxRecDepth 100000 in
theorem frame_Wrap.calls (k : Nat) (a0 : Int) (A1 : Option Addr) (c1 : Nat) (l1 : List Int) (r : List Int) (w : World) (hr1 : Kd.C (Kd.int .u8) w A1 l1.length l1) (hc1 : l1.length ≤ c1) (h : frame_Wrap.f k a0 l1 = some r) :
  Calls Try.prog 20 #[.int .u8 a0, .slice A1 l1.length c1] w fun e w' => ∃ v0_ : Value, e = .returned (v0_) ∧ Kd.R (Kd.int .u8) 5 w' w.heap.size (fun _ => True) v0_ r ∧ Below w.heap.size w w' := by
 have hu38 := Try.underlying38
 have hu29 := Try.underlying29
 have HR1 := Aside0.mk hr1
 have HC1 := Aside0.mk hc1
 clear hr1 hc1
 have HB := Aside0.mk (Below.refl w.heap.size w)
 unfold frame_Wrap.f at h
 by_cases c3 : (l1.length : Int) > 65536
 ·
  rw [if_pos c3] at h
  obtain rfl := Option.some.inj h
  have d1 : decide (65536 < (l1.length : Int)) = true := decide_eq_true c3
  have d2 : decide (65536 < l1.length) = true := decide_eq_true (by omega)
  clear c3 h
  go_enter Try.func20, Try.ntmps20
  go_wp2
  go_ret
  exact ⟨_, rfl, Kd.R_nil _ _ _ _ _, HB.out⟩
 rw [if_neg c3] at h
 have d1 : decide (65536 < (l1.length : Int)) = false := decide_eq_false c3
 have d2 : decide (65536 < l1.length) = false := decide_eq_false (by omega)
 have HLL := Aside0.mk (show l1.length ≤ 65536 by omega)
 clear c3
 obtain ⟨t269, A4, h⟩ := Option.bind_eq_some_iff.mp h
 by_cases c4 : t269.length ≤ 1000
 ·
  rw [if_pos c4] at h
  have h := Option.some.inj h
  have A4 := Aside0.mk A4
  obtain ⟨y266, hy⟩ : ∃ y_ : List Int, y_ = ([70, a0] : List Int) := ⟨_, rfl⟩
  have Ny266 := Aside0.mk hy
  have LMc5 := Aside0.mk (show y266.length + t269.length < 140737488355328 by rw [hy]; simp; omega)
  obtain ⟨y272, hy1⟩ : ∃ y_ : List Int, y_ = (y266 ++ t269) := ⟨_, rfl⟩
  have Ny272 := Aside0.mk hy1
  have LMc6 := Aside0.mk (show y272.length + l1.length < 140737488355328 by have := HLL.out; rw [hy1, hy]; simp; omega)
  obtain ⟨y275, hy2⟩ : ∃ y_ : List Int, y_ = (y272 ++ l1) := ⟨_, rfl⟩
  have Ny275 := Aside0.mk hy2
  have LMc7 := Aside0.mk (show y275.length + 4 < 140737488355328 by have := HLL.out; rw [hy2, hy1, hy]; simp; omega)
  have HRS := Aside0.mk (show y275 ++ ofL (sumL y275) = r by rw [← h, hy2, hy1, hy])
  clear hy hy1 hy2 h c4
  go_enter Try.func20, Try.ntmps20
  go_upto_region 5 with (first | ((with_reducible refine gate_dst (N := 11) rfl ?_); refine Kd.R_lit (Kd.int .u8) _ 5 ?hg (N := 11) ?hd (xs := ([70, a0] : List Int)) (inner := [.int .u8 70, .int .u8 a0]) (ok := fun _ => True) (okp := fun _ => True) ?hr ?hp (fun _ hk => hk) trivial (Below.refl _ _) (Nat.le_refl _) (by simp) ?_; (case hd => rfl); (case hg => rfl); (case hr => first | (go_simp; done) | (go_simp; rfl)); (case hp => exact (Reps.one (show Kd.M (Kd.int .u8) _ _ _ 70 [.int .u8 70] from rfl) (Reps.one (show Kd.M (Kd.int .u8) _ _ _ a0 [.int .u8 a0] from rfl) (Reps.none _ _)))); intro v267 w8 ho9 hb hg_ hnew_; clear hg_ hnew_; (first | rw [← Ny266.out] at ho9 | (simp only [Int.reduceToNat] at ho9; rw [← Ny266.out] at ho9)); have n0_ := Aside0.mk (Kd.R_lower ho9 (below_size (by repeat (first | (with_reducible first | exact HB.out | apply below_alloc | apply pw_below_drewN | apply below_drew1) | exact HB.out)))); have n1_ := Aside0.mk (below_step (by repeat (first | (with_reducible first | exact HB.out | apply below_alloc | apply pw_below_drewN | apply below_drew1) | exact HB.out)) hb); clear HB; have HO268 := n0_; have HB := n1_; clear n0_ n1_; clear hb ho9) | ((with_reducible refine gate_callee (f := 15) rfl ?_); refine goesL_ (some 14) rfl rfl Try.func15 (by kernel_rfl) rfl #[.int .i64 (l1.length : Int)] rfl (by (try simp only [List.map_toArray, List.map_cons, List.map_nil]); first | done | rfl | (simp only [List.length_drop, List.length_take]; rfl)) ?_; (with_reducible refine (vint_Put.calls k (l1.length : Int) t269 _ A4.out).mono ?_); rintro e w10 ⟨v270, rfl, ho0, hb⟩; refine ⟨_, rfl, ?_⟩; have n0_ := Aside0.mk (Kd.R_elder' (by (with_reducible repeat (first | apply Kd.R_alloc | apply Kd.R_drewN | apply Kd.R_drew)); exact HO268.out) (Kd.R_base ho0) hb); have n1_ := Aside0.mk (Kd.R_lower (Kd.R_new' ho0 (Kd.R_lt (by (with_reducible repeat (first | apply Kd.R_alloc | apply Kd.R_drewN | apply Kd.R_drew)); exact HO268.out))) (below_size (by repeat (first | (with_reducible first | exact HB.out | apply below_alloc | apply pw_below_drewN | apply below_drew1) | exact HB.out)))); have n2_ := Aside0.mk (below_step (by repeat (first | (with_reducible first | exact HB.out | apply below_alloc | apply pw_below_drewN | apply below_drew1) | exact HB.out)) hb); clear HO268; clear HB; have HO268 := n0_; have HO271 := n1_; have HB := n2_; clear n0_ n1_ n2_; (try clear hb); (try clear hb2); (try clear hk); (try clear hi); (try clear ho0); obtain ⟨Ao12, co12, eo12⟩ := Kd.R_slice HO271.out; subst eo12) | ((with_reducible refine gate_builtin (b := .append) (xs := #[.tmp 11, .tmp 14]) rfl ?_); at_builtin; refine Kd.R_append_rows (Kd.int .u8) (w0 := w) w.heap.size rfl (.tmp 11) (.tmp 14) 29 5 (.int .u8 0) 1 rfl Try.underlying29 info5 rfl (by decide) (by omega) v267 y266 t269 _ _ _ (fun k_ => some k_ ≠ (.slice Ao12 t269.length co12 : Value).ownBlock) (fun _ => False) rfl rfl ?aO ?aR (fun _ _ h => h) (fun _ h => h.elim) ?aF ?aB ?aS ?aL ?_; (case aR => repeat (first | exact (Kd.R_reads' HO271.out).2.2 | (with_reducible refine Kd.C_alloc ?_ _) | (with_reducible refine Kd.C_drewN ?_ _) | (with_reducible refine Kd.C_drew ?_))); (case aB => exact (by repeat (first | (with_reducible first | exact HB.out | apply below_alloc | apply pw_below_drewN | apply below_drew1) | exact HB.out))); (case aF => exact (fun k_ hk => Kd.fresh' (Kd.R_lt (by (with_reducible repeat (first | apply Kd.R_alloc | apply Kd.R_drewN | apply Kd.R_drew)); exact HO271.out)) k_ hk)); (case aO => exact (by (with_reducible repeat (first | apply Kd.R_alloc | apply Kd.R_drewN | apply Kd.R_drew)); exact Kd.R_mono HO268.out (fun _ hk => hk.2))); (case aS => exact (below_size (by repeat (first | (with_reducible first | exact HB.out | apply below_alloc | apply pw_below_drewN | apply below_drew1) | exact HB.out)))); (case aL => have := LMc5.out; omega); intro v273 w11 ho hb hg hat; rw [← Ny272.out] at ho; have n0_ := Aside0.mk (Kd.R_after (ok := (fun _ => True)) (by (with_reducible repeat (first | apply Kd.R_alloc | apply Kd.R_drewN | apply Kd.R_drew)); exact HO271.out) hg hat); have n1_ := Aside0.mk (hb); have n2_ := Aside0.mk (ho); clear HO271; clear HB; clear HO268; have HO271 := n0_; have HB := n1_; have HO274 := n2_; clear n0_ n1_ n2_; clear ho hb hg hat) | ((with_reducible refine gate_builtin (b := .append) (xs := #[.tmp 16, .tmp 17]) rfl ?_); at_builtin; refine Kd.R_append_rows (Kd.int .u8) (w0 := w) w.heap.size rfl (.tmp 16) (.tmp 17) 29 5 (.int .u8 0) 1 rfl Try.underlying29 info5 rfl (by decide) (by omega) v273 y272 l1 _ _ _ (fun k_ => some k_ ≠ (.slice Ao12 t269.length co12 : Value).ownBlock) (fun _ => False) rfl rfl ?aO ?aR (fun _ _ h => h) (fun _ h => h.elim) ?aF ?aB ?aS ?aL ?_; (case aR => repeat (first | exact (Kd.C_below HR1.out HB.out) | (with_reducible refine Kd.C_alloc ?_ _) | (with_reducible refine Kd.C_drewN ?_ _) | (with_reducible refine Kd.C_drew ?_))); (case aB => exact (by repeat (first | (with_reducible first | exact HB.out | apply below_alloc | apply pw_below_drewN | apply below_drew1) | exact HB.out))); (case aF => exact (fun k_ hk => Kd.fresh' (Kd.R_lt (by (with_reducible repeat (first | apply Kd.R_alloc | apply Kd.R_drewN | apply Kd.R_drew)); exact HO271.out)) k_ hk)); (case aO => exact (by (with_reducible repeat (first | apply Kd.R_alloc | apply Kd.R_drewN | apply Kd.R_drew)); exact HO274.out)); (case aS => exact (below_size (by repeat (first | (with_reducible first | exact HB.out | apply below_alloc | apply pw_below_drewN | apply below_drew1) | exact HB.out)))); (case aL => have := LMc6.out; omega); intro v276 w13 ho hb hg hat; rw [← Ny275.out] at ho; have n0_ := Aside0.mk (Kd.R_after (ok := (fun _ => True)) (by (with_reducible repeat (first | apply Kd.R_alloc | apply Kd.R_drewN | apply Kd.R_drew)); exact HO271.out) hg hat); have n1_ := Aside0.mk (hb); have n2_ := Aside0.mk (ho); clear HO271; clear HB; clear HO274; have HO271 := n0_; have HB := n1_; have HO277 := n2_; clear n0_ n1_ n2_; clear ho hb hg hat; obtain ⟨Ao14, co14, eo14⟩ := Kd.R_slice HO277.out; subst eo14))
  have m0_ := Aside0.mk (show Kd.R (Kd.int .u8) 5 _ w.heap.size (fun _ => True) (.slice Ao14 y275.length co14) y275 from Kd.R_mono HO277.out (fun _ _ => trivial))
  clear HO277
  have HO277 := m0_
  clear m0_
  go_upto_region 6 with (first | (go_at_call 40; (refine (frame_Sum.calls _ _ y275 (sumL y275) _ (Kd.R_reads' HO277.out).2.2 (Kd.R_reads' HO277.out).2.1 rfl).mono ?_); rintro e_ w20 ⟨rfl, hb⟩; have n0_ := Aside0.mk (Kd.R_below HO277.out hb); have n1_ := Aside0.mk (below_step HB.out hb); clear HO277 HB hb; have HO277 := n0_; have HB := n1_; clear n0_ n1_) | (go_at_call 39; (refine (of_calls (sumL y275) _).mono ?_); rintro e_ w21 ⟨rfl, hb⟩; have n0_ := Aside0.mk (Kd.R_below HO277.out hb); have n1_ := Aside0.mk (below_step HB.out hb); clear HO277 HB hb; have HO277 := n0_; have HB := n1_; clear n0_ n1_))
  have b0 := blk_new w21 (.cells #[.int .u8 (sumL y275 % 256), .int .u8 (sumL y275 / 256 % 256), .int .u8 (sumL y275 / 65536 % 256), .int .u8 (sumL y275 / 16777216 % 256)] 38)
  have hb := below_alloc (Below.refl w21.heap.size w21) (.cells #[.int .u8 (sumL y275 % 256), .int .u8 (sumL y275 / 256 % 256), .int .u8 (sumL y275 / 65536 % 256), .int .u8 (sumL y275 / 16777216 % 256)] 38)
  generalize (w21.alloc (.cells #[.int .u8 (sumL y275 % 256), .int .u8 (sumL y275 / 256 % 256), .int .u8 (sumL y275 / 65536 % 256), .int .u8 (sumL y275 / 16777216 % 256)] 38)) = w22 at *
  have n0_ := Aside0.mk (Kd.R_below HO277.out hb)
  have n1_ := Aside0.mk (below_step HB.out hb)
  have HCA := Aside0.mk (wr_lit (k := .u8) (ofL (sumL y275)) b0 rfl (by simp [ofL]))
  clear HO277 HB hb b0
  have HO277 := n0_
  have HB := n1_
  clear n0_ n1_
  generalize w21.heap.size = g at *
  go_wp2_with (first | ((with_reducible refine gate_builtin (b := .append) (xs := #[.tmp 22, .tmp 23]) rfl ?_); at_builtin; refine Kd.R_append_rows (Kd.int .u8) (w0 := w) w.heap.size rfl (.tmp 22) (.tmp 23) 29 5 (.int .u8 0) 1 rfl Try.underlying29 info5 rfl (by decide) (by omega) (.slice Ao14 y275.length co14) y275 (ofL (sumL y275)) _ _ _ (fun _ => True) (fun _ => False) rfl rfl HO277.out HCA.out (fun _ _ h => h) (fun _ h => h.elim) (fun _ _ => trivial) HB.out (below_size HB.out) (by have := LMc7.out; show (y275.length + 4) * 1 ≤ _; omega) ?_; intro v30 w30 ho hb hg hat; rw [HRS.out] at ho; have HO30 := Aside0.mk ho; have HB30 := Aside0.mk hb; clear ho hb hg hat))
  go_ret
  exact ⟨_, rfl, HO30.out, HB30.out⟩
 ·
  rw [if_neg c4] at h
  exact absurd h (by simp)

end Go.Proofs.Ytfhcolhiolgikaa.T
