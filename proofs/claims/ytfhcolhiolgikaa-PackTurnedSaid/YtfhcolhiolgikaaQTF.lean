import Derived.Test.YtfhcolhiolgikaaQTV
import Derived.Laws.Cover3
import Derived.Test.YtfhcolhiolgikaaProg
import Derived.Below
import Derived.Deep.Draws
import Derived.Deep.AppendLies
import Derived.Maps.AppendAt
import Derived.OwnWalk
import Derived.Laws.BytesArg
import Derived.Laws.MakeOwn
import Derived.Laws.OwnMore
import Derived.Deep.OwnRows
import Derived.Tactics
import Derived.Lib.ConvBytes
import Derived.Laws.Slices
import Derived.WalkKit
import Derived.KernelRfl
import Derived.RowKit3
import Derived.Deep.LoopGhost
import Derived.Deep.QuietTactic
import Derived.BigQuiet
import Derived.WideLaws
import Derived.Deep.DeepCutAuto
import Derived.Deep.CutBlock
import Derived.Deep.RegionHeld3
import Derived.Laws.Rows
import Derived.Lib.AppendStr
import Derived.ArgAppend
import Derived.Laws.IdiomCopy
import Derived.OrdersHeld
import Derived.Laws.BitsLemmas
import Derived.RowKit
import Derived.Test.YtfhcolhiolgikaaQTA
import Derived.Test.YtfhcolhiolgikaaQTD
import Derived.Test.YtfhcolhiolgikaaQTE
/- Texts of this claim, laid together by a program (merge.py): Fo, PA. -/
/- Written by hp.py, this session's own program, out of the translation of this seat: Lean functions for the Go functions, and the proof that each call comes to what its Lean function says. -/
namespace Go.Proofs.Ytfhcolhiolgikaa.T
open Go.RowKit Go.Proofs.YtfhcolhiolgikaaW.PrintWords Go.Proofs.YtfhcolhiolgikaaW.PrintLast Go.Proofs.YtfhcolhiolgikaaW.PrintMore
attribute [local go_sem] max2_int min2_int max_two min_two max_three min_three max_four min_four   -- for this text's walks alone
set_option linter.unusedVariables false
set_option linter.unusedSimpArgs false
/-! ### frame.Open (function 24), by hand -/
theorem arrayAt_38 (a : Addr) (c : Nat) (w : World) : (Instr.arrayAt 38 (.slice (some a) 4 c)).run Try.prog w = .ok (.pointer (some a)) w := run_arrayAt w 38 5 4 (some a) 4 c Try.underlying38 (Nat.le_refl _)
attribute [local go_sem] arrayAt_38 arr_eq
theorem sum_told {A : Option Addr} {c m : Nat} {l : List Int} {w : World} (hC : Kd.C (Kd.int .u8) w A l.length l) (hm : m ≤ l.length) (hc : l.length ≤ c) : Calls Try.prog 40 #[.slice A m c] w fun e w' => e = .returned (.int .u32 (sumL (l.take m))) ∧ Below w.heap.size w w' := by
  have h1 := Kd.C_take hC hm
  have hl : (l.take m).length = m := by rw [List.length_take]; omega
  have h2 := frame_Sum.calls A c (l.take m) (sumL (l.take m)) w h1 (by omega) rfl
  rw [hl] at h2
  exact h2
theorem sum_toldS {A : Option Addr} {c m : Nat} {l : List Int} {S : Int} {w : World} (hC : Kd.C (Kd.int .u8) w A l.length l) (hm : m ≤ l.length) (hc : l.length ≤ c) (hS : sumL (l.take m) = S) : Calls Try.prog 40 #[.slice A m c] w fun e w' => e = .returned (.int .u32 S) ∧ Below w.heap.size w w' := by
  subst hS
  exact sum_told hC hm hc
theorem clone_told {A : Option Addr} {c p q : Nat} {l : List Int} {w : World} {ad : Addr} (hC : Kd.C (Kd.int .u8) w (some ad) l.length l) (hm : p + q < l.length) (hc : l.length ≤ c) (hq : q ≤ 65536) : Calls Try.prog 46 #[.slice (some (ad.add p)) q (c - p)] w fun e w' => ∃ v0_ : Value, e = .returned v0_ ∧ Kd.R (Kd.int .u8) 5 w' w.heap.size (fun _ => True) v0_ ((l.take (p + q)).drop p) ∧ Below w.heap.size w w' := by
  have h1 := Kd.C_mid hC (Nat.le_add_right p q) (Nat.le_of_lt hm) hc
  rw [if_neg (by omega)] at h1
  have hl : ((l.take (p + q)).drop p).length = q := by rw [List.length_drop, List.length_take]; omega
  have h2 := slices_Clone_u8.calls (some (ad.add p)) (c - p) ((l.take (p + q)).drop p) ((l.take (p + q)).drop p) w (by have h3 : Kd.C (Kd.int .u8) w (some (ad.add (p * 1))) ((l.take (p + q)).drop p).length ((l.take (p + q)).drop p) := h1; rw [Nat.mul_one] at h3; exact h3) (by omega) (by unfold slices_Clone_u8.f; exact if_pos (by omega))
  rw [hl] at h2
  exact h2
def frame_Open.f (k : Nat) (l : List Int) (kind : Int) : Option (List Int × Int) :=
  if l.length < 2 ∨ ¬ rd l 0 = 70 ∨ ¬ rd l 1 = kind then some ([], 5) else
  (vint_Get.f k l 2).bind fun g => if 0 ≤ g.1 ∧ g.1 ≤ 1000000000000 ∧ 0 ≤ g.2.1 ∧ g.2.1 ≤ (l.length : Int) then
    (if ¬ g.2.2 = 0 ∨ g.1 > 65536 ∨ ¬ (l.length : Int) = g.2.1 + g.1 + 4 then some ([], 5)
     else if ofL (sumL (l.take (g.2.1 + g.1).toNat)) = l.drop (g.2.1 + g.1).toNat then some ((l.take (g.2.1 + g.1).toNat).drop g.2.1.toNat, 0) else some ([], 6)) else none
set_option maxHeartbeats 8000000 in
set_option maxRecDepth 100000 in
theorem frame_Open.calls (k : Nat) (A : Option Addr) (c : Nat) (l : List Int) (kind : Int) (r1 : List Int) (r2 : Int) (w : World) (hC : Kd.C (Kd.int .u8) w A l.length l) (hc : l.length ≤ c) (h : frame_Open.f k l kind = some (r1, r2)) :
    Calls Try.prog 24 #[.slice A l.length c, .int .u8 kind] w fun e w' => ∃ v0_ : Value, e = .returned (.tuple #[v0_, .int .i64 r2]) ∧ Kd.R (Kd.int .u8) 5 w' w.heap.size (fun _ => True) v0_ r1 ∧ Below w.heap.size w w' := by
  have hu38 := Try.underlying38
  have hu29 := Try.underlying29
  have hlm : l.length ≤ 9223372036854775807 := hC.2.1
  have HC := Aside0.mk hC
  have HCC := Aside0.mk hc
  have HB := Aside0.mk (Below.refl w.heap.size w)
  unfold frame_Open.f at h
  by_cases h1 : l.length < 2
  · rw [if_pos (Or.inl h1)] at h
    obtain ⟨rfl, rfl⟩ := Prod.mk.inj (Option.some.inj h)
    have d1 : decide ((l.length : Int) < 2) = true := decide_eq_true (by omega)
    have d2 : decide (l.length < 2) = true := decide_eq_true h1
    clear h h1 hC hc
    go_enter Try.func24, Try.ntmps24
    go_wp2
    go_ret2
    exact ⟨_, rfl, Kd.R_nil _ _ _ _ _, HB.out⟩
  have d1 : decide ((l.length : Int) < 2) = false := decide_eq_false (by omega)
  have d2 : decide (l.length < 2) = false := decide_eq_false h1
  obtain ⟨ad, ea, x0⟩ := Kd.at_int hC 0 (by omega) (by omega)
  subst ea
  obtain ⟨ad', ea', x1⟩ := Kd.at_int hC 1 (by omega) (by omega)
  obtain rfl := Option.some.inj ea'
  replace x0 : w.cell? ad = some (.int .u8 (rd l 0)) := by have h0 : w.cell? (ad.add 0) = some (.int .u8 (rd l 0)) := x0; rw [Addr.add_zero'] at h0; exact h0
  replace x1 : w.cell? (ad.add 1) = some (.int .u8 (rd l 1)) := x1
  have x1b : w.cell? { block := ad.block, off := ad.off + 1, spot := none } = some (.int .u8 (rd l 1)) := by rw [Addr.add_succ'] at x1; exact x1
  have i0 : (0 : Int) < (l.length : Int) := by omega
  have i1 : (1 : Int) < (l.length : Int) := by omega
  have i0n : 0 < l.length := by omega
  have i1n : 1 < l.length := by omega
  by_cases h2 : rd l 0 = 70
  · have e1 : (rd l 0 == 70) = true := beq_iff_eq.2 h2
    have e2 : (rd l 0 != 70) = false := by rw [bne, e1]; rfl
    by_cases h3 : rd l 1 = kind
    · have e3 : (rd l 1 == kind) = true := beq_iff_eq.2 h3
      have e4 : (rd l 1 != kind) = false := by rw [bne, e3]; rfl
      rw [if_neg (by rintro (h | h | h) <;> simp_all)] at h
      obtain ⟨⟨n, at_, er⟩, hg, h⟩ := Option.bind_eq_some_iff.1 h
      have HG := Aside0.mk hg
      simp only at h
      by_cases h4 : 0 ≤ n ∧ n ≤ 1000000000000 ∧ 0 ≤ at_ ∧ at_ ≤ (l.length : Int)
      · rw [if_pos h4] at h
        have HX0 := Aside0.mk x0
        clear hg h2 h3 h1 hC hc
        by_cases h5 : er = 0
        · subst h5
          obtain ⟨g1, g2, g3, g4⟩ := h4
          obtain ⟨q, rfl⟩ := Int.eq_ofNat_of_zero_le g1
          obtain ⟨p, rfl⟩ := Int.eq_ofNat_of_zero_le g3
          have w1 : wrap64 ((l.length : Int) - (p : Int)) = (l.length : Int) - (p : Int) := by unfold wrap64; omega
          have w2 : wrap64 ((q : Int) + 4) = (q : Int) + 4 := by unfold wrap64; omega
          by_cases h6 : 65536 < q
          · rw [if_pos (Or.inr (Or.inl (by show (q : Int) > 65536; omega)))] at h
            obtain ⟨rfl, rfl⟩ := Prod.mk.inj (Option.some.inj h)
            have k1 : decide ((65536 : Int) < (q : Int)) = true := decide_eq_true (by omega)
            have k2 : decide (65536 < q) = true := decide_eq_true h6
            clear h h6 g1 g2 g3 g4 w1 w2
            go_enter Try.func24, Try.ntmps24
            go_wp2_with (first | (go_at_call 45; (refine (vint_Get.calls k (some ad) c l 2 (q : Int) (p : Int) 0 _ HC.out HCC.out HG.out).mono ?_); rintro e_ w1 ⟨rfl, hb⟩; have n0_ := Aside0.mk (below_step HB.out hb); clear HB; have HB := n0_; clear n0_ hb))
            go_ret2
            exact ⟨_, rfl, Kd.R_nil _ _ _ _ _, HB.out⟩
          have k1 : decide ((65536 : Int) < (q : Int)) = false := decide_eq_false (by omega)
          have k2 : decide (65536 < q) = false := decide_eq_false h6
          by_cases h7 : l.length = p + q + 4
          · have k3 : ((l.length : Int) - (p : Int) == (q : Int) + 4) = true := beq_iff_eq.2 (by omega)
            have k4 : ((l.length : Int) - (p : Int) != (q : Int) + 4) = false := by rw [bne, k3]; rfl
            rw [if_neg (show ¬ (¬ (0 : Int) = 0 ∨ (q : Int) > 65536 ∨ ¬ (l.length : Int) = (p : Int) + (q : Int) + 4) by omega)] at h
            have hm : ((p : Int) + (q : Int)).toNat = p + q := by omega
            simp only [hm, Int.toNat_natCast] at h
            have w3 : wrap64 ((p : Int) + (q : Int)) = (p : Int) + (q : Int) := by unfold wrap64; omega
            have HL := Aside0.mk h7
            have HQ := Aside0.mk (show q ≤ 65536 by omega)
            have cell : ∀ j, j < 4 → w.cell? (ad.add (p + q + j)) = some (.int .u8 (rd l ((p + q + j : Nat) : Int))) := fun j hj => by
              obtain ⟨ad2, e2_, hx⟩ := Kd.at_int HC.out ((p + q + j : Nat) : Int) (by omega) (by omega)
              obtain rfl := Option.some.inj e2_
              rw [Int.toNat_natCast] at hx
              exact hx
            have y0 := cell 0 (by decide)
            have y1 := cell 1 (by decide)
            have y2 := cell 2 (by decide)
            have y3 := cell 3 (by decide)
            have hdrop : l.drop (p + q) = [rd l ((p + q + 0 : Nat) : Int), rd l ((p + q + 1 : Nat) : Int), rd l ((p + q + 2 : Nat) : Int), rd l ((p + q + 3 : Nat) : Int)] := by
              have e_ : ∀ j, (hj : p + q + j < l.length) → rd l ((p + q + j : Nat) : Int) = l[p + q + j]'hj := fun j hj => by
                unfold rd
                rw [Int.toNat_natCast, List.getD_eq_getElem?_getD, List.getElem?_eq_getElem hj]
                rfl
              rw [e_ 0 (by omega), e_ 1 (by omega), e_ 2 (by omega), e_ 3 (by omega), List.drop_eq_getElem_cons (show p + q < l.length by omega), List.drop_eq_getElem_cons (show p + q + 1 < l.length by omega), List.drop_eq_getElem_cons (show p + q + 1 + 1 < l.length by omega), List.drop_eq_getElem_cons (show p + q + 1 + 1 + 1 < l.length by omega), List.drop_eq_nil_of_le (by omega)]
              rfl
            rw [hdrop] at h
            generalize rd l ((p + q + 0 : Nat) : Int) = z0 at y0 h
            generalize rd l ((p + q + 1 : Nat) : Int) = z1 at y1 h
            generalize rd l ((p + q + 2 : Nat) : Int) = z2 at y2 h
            generalize rd l ((p + q + 3 : Nat) : Int) = z3 at y3 h
            have HSM := Aside0.mk h
            have HCEL := Aside0.mk cell
            clear h h6 h7 g1 g2 g3 g4 hdrop hm cell
            go_enter Try.func24, Try.ntmps24
            go_upto_region 6 with (first | (go_at_call 45; (refine (vint_Get.calls k (some ad) c l 2 (q : Int) (p : Int) 0 _ HC.out HCC.out HG.out).mono ?_); rintro e_ w1 ⟨rfl, hb⟩; have n0_ := Aside0.mk (below_step HB.out hb); clear HB; have HB := n0_; clear n0_ hb))
            rw [Nat.add_zero] at y0
            rw [← Addr.add_add, Addr.add_succ'] at y1 y2 y3
            have u0 := pw_cell_below HB.out y0
            have u1 := pw_cell_below HB.out y1
            have u2 := pw_cell_below HB.out y2
            have u3 := pw_cell_below HB.out y3
            clear y0 y1 y2 y3
            obtain ⟨S, hS⟩ : ∃ S, sumL (l.take (p + q)) = S := ⟨_, rfl⟩
            have HS := Aside0.mk hS
            clear hS
            have HW := Aside0.mk (Below.refl w1.heap.size w1)
            have t1 : (0 : Int) ≤ (p : Int) + (q : Int) := by omega
            have t2 : (p : Int) + (q : Int) ≤ (c : Int) := by have := HL.out; have := HCC.out; omega
            have t3 : (p : Int) + (q : Int) ≤ (l.length : Int) := by have := HL.out; omega
            have t4 : ((p : Int) + (q : Int)).toNat = p + q := by omega
            have t5 : ¬ c = p + q := by have := HL.out; have := HCC.out; omega
            have t6 : l.length - (p + q) = 4 := by have := HL.out; omega
            by_cases h8 : ofL S = [z0, z1, z2, z3]
            · have d8 : eqL [S % 256, S / 256 % 256, S / 65536 % 256, S / 16777216 % 256] [z0, z1, z2, z3] = true := decide_eq_true h8
              have hh := HSM.out
              rw [HS.out, if_pos h8] at hh
              obtain ⟨rfl, rfl⟩ := Prod.mk.inj (Option.some.inj hh)
              clear hh h8
              refine start_ (n := 15) (S := fun w' => w'.cell? (ad.add (p + q)) = some (.int .u8 z0) ∧ w'.cell? { block := (ad.add (p + q)).block, off := (ad.add (p + q)).off + 1, spot := none } = some (.int .u8 z1) ∧ w'.cell? { block := (ad.add (p + q)).block, off := (ad.add (p + q)).off + 2, spot := none } = some (.int .u8 z2) ∧ w'.cell? { block := (ad.add (p + q)).block, off := (ad.add (p + q)).off + 3, spot := none } = some (.int .u8 z3)) (ds := []) #[false, false, false, false, false, false, false, false, false, false, false, false, false, false, false] (by kernel_rfl) rfl rfl ⟨(pw_cell_below (below_drew (Below.refl _ _)) u0), (pw_cell_below (below_drew (Below.refl _ _)) u1), (pw_cell_below (below_drew (Below.refl _ _)) u2), (pw_cell_below (below_drew (Below.refl _ _)) u3)⟩ (fun hHeld => ?_)
              refine rgP 0 46 ?_
              refine rgP 1 47 ?_
              refine rgP 2 48 ?_
              refine rgP 3 49 ?_
              refine rgP 4 50 ?_
              refine rgP 7 53 ?_
              refine rgP 8 54 ?_
              refine rgP 9 55 ?_
              refine rgP 10 56 ?_
              refine rgP 11 57 ?_
              refine rgP 12 58 ?_
              refine rgT4 13 59 hHeld ?_
              refine one_ (i := 5) (N := some 51) #[true, true, true, true, true, true, false, true, true, true, true, true, true, true, false] rfl rfl (by kernel_rfl) (by decide) (fun K hK => ?_)
              refine goes_ Try.func40 (by kernel_rfl) rfl #[.slice (some ad) (p + q) c] (by rfl) rfl rfl (by simp only [List.map_toArray, List.map_cons, List.map_nil]; rfl) ?_
              with_reducible refine ((sum_toldS (m := p + q) (S := S) (Kd.C_below HC.out (below_step HB.out (by repeat (first | exact HW.out | (with_reducible refine below_drew ?_))))) (by have := HL.out; omega) HCC.out HS.out)).mono ?_
              rintro e_ w2 ⟨rfl, hb40⟩
              refine ⟨_, rfl, ?_⟩
              have m_ := Aside0.mk (show Below w1.heap.size w1 w2 from below_step (by repeat (first | exact HW.out | (with_reducible refine below_drew ?_))) hb40)
              clear HW
              have HW := m_
              clear m_
              refine hK.out _ _ ⟨pw_cell_below hb40 hHeld.1, pw_cell_below hb40 hHeld.2.1, pw_cell_below hb40 hHeld.2.2.1, pw_cell_below hb40 hHeld.2.2.2⟩ (fun hHeld => ?_)
              clear hK K
              refine norm_ (a' := ?_) ?_ ?_
              rotate_left
              · show Act.put _ (some 51) _ = _
                simp only [Act.put, List.setIfInBounds_toArray, List.set_cons_zero, List.set_cons_succ, i64_w, i32_w]
                rfl
              refine one_ (i := 6) (N := some 52) #[true, true, true, true, true, true, true, true, true, true, true, true, true, true, false] rfl rfl (by kernel_rfl) (by decide) (fun K hK => ?_)
              refine goes_ Try.func39 (by kernel_rfl) rfl #[.int .u32 S] (by rfl) rfl rfl (by simp only [List.map_toArray, List.map_cons, List.map_nil]; rfl) ?_
              with_reducible refine ((of_calls S _)).mono ?_
              rintro e_ w3 ⟨rfl, hb39⟩
              refine ⟨_, rfl, ?_⟩
              have m_ := Aside0.mk (show Below w1.heap.size w1 w3 from below_step (by repeat (first | exact HW.out | (with_reducible refine below_drew ?_))) hb39)
              clear HW
              have HW := m_
              clear m_
              refine hK.out _ _ ⟨pw_cell_below hb39 hHeld.1, pw_cell_below hb39 hHeld.2.1, pw_cell_below hb39 hHeld.2.2.1, pw_cell_below hb39 hHeld.2.2.2⟩ (fun hHeld => ?_)
              clear hK K
              refine norm_ (a' := ?_) ?_ ?_
              rotate_left
              · show Act.put _ (some 52) _ = _
                simp only [Act.put, List.setIfInBounds_toArray, List.set_cons_zero, List.set_cons_succ, i64_w, i32_w]
                rfl
              refine rgP 14 60 ?_
              refine done_ (by kernel_rfl) ?_
              have HB3 := Aside0.mk (below_step HB.out HW.out)
              have t7 : (p : Int) ≤ (p : Int) + (q : Int) := by omega
              clear u0 u1 u2 u3 d8
              go_wp2_with (first | (go_at_call 46; (refine (clone_told (p := p) (q := q) (A := none) (Kd.C_below HC.out HB3.out) (by have := HL.out; omega) HCC.out HQ.out).mono ?_); rintro e_ w9 ⟨v9, rfl, hR, hb⟩; have HR9 := Aside0.mk (Kd.R_lower hR (below_size HB3.out)); have HB9 := Aside0.mk (below_step HB3.out hb); clear hR hb))
              go_ret2
              exact ⟨_, rfl, HR9.out, HB9.out⟩
            · have d8 : eqL [S % 256, S / 256 % 256, S / 65536 % 256, S / 16777216 % 256] [z0, z1, z2, z3] = false := decide_eq_false h8
              have hh := HSM.out
              rw [HS.out, if_neg h8] at hh
              obtain ⟨rfl, rfl⟩ := Prod.mk.inj (Option.some.inj hh)
              clear hh h8
              refine start_ (n := 15) (S := fun w' => w'.cell? (ad.add (p + q)) = some (.int .u8 z0) ∧ w'.cell? { block := (ad.add (p + q)).block, off := (ad.add (p + q)).off + 1, spot := none } = some (.int .u8 z1) ∧ w'.cell? { block := (ad.add (p + q)).block, off := (ad.add (p + q)).off + 2, spot := none } = some (.int .u8 z2) ∧ w'.cell? { block := (ad.add (p + q)).block, off := (ad.add (p + q)).off + 3, spot := none } = some (.int .u8 z3)) (ds := []) #[false, false, false, false, false, false, false, false, false, false, false, false, false, false, false] (by kernel_rfl) rfl rfl ⟨(pw_cell_below (below_drew (Below.refl _ _)) u0), (pw_cell_below (below_drew (Below.refl _ _)) u1), (pw_cell_below (below_drew (Below.refl _ _)) u2), (pw_cell_below (below_drew (Below.refl _ _)) u3)⟩ (fun hHeld => ?_)
              refine rgP 0 46 ?_
              refine rgP 1 47 ?_
              refine rgP 2 48 ?_
              refine rgP 3 49 ?_
              refine rgP 4 50 ?_
              refine rgP 7 53 ?_
              refine rgP 8 54 ?_
              refine rgP 9 55 ?_
              refine rgP 10 56 ?_
              refine rgP 11 57 ?_
              refine rgP 12 58 ?_
              refine rgT4 13 59 hHeld ?_
              refine one_ (i := 5) (N := some 51) #[true, true, true, true, true, true, false, true, true, true, true, true, true, true, false] rfl rfl (by kernel_rfl) (by decide) (fun K hK => ?_)
              refine goes_ Try.func40 (by kernel_rfl) rfl #[.slice (some ad) (p + q) c] (by rfl) rfl rfl (by simp only [List.map_toArray, List.map_cons, List.map_nil]; rfl) ?_
              with_reducible refine ((sum_toldS (m := p + q) (S := S) (Kd.C_below HC.out (below_step HB.out (by repeat (first | exact HW.out | (with_reducible refine below_drew ?_))))) (by have := HL.out; omega) HCC.out HS.out)).mono ?_
              rintro e_ w2 ⟨rfl, hb40⟩
              refine ⟨_, rfl, ?_⟩
              have m_ := Aside0.mk (show Below w1.heap.size w1 w2 from below_step (by repeat (first | exact HW.out | (with_reducible refine below_drew ?_))) hb40)
              clear HW
              have HW := m_
              clear m_
              refine hK.out _ _ ⟨pw_cell_below hb40 hHeld.1, pw_cell_below hb40 hHeld.2.1, pw_cell_below hb40 hHeld.2.2.1, pw_cell_below hb40 hHeld.2.2.2⟩ (fun hHeld => ?_)
              clear hK K
              refine norm_ (a' := ?_) ?_ ?_
              rotate_left
              · show Act.put _ (some 51) _ = _
                simp only [Act.put, List.setIfInBounds_toArray, List.set_cons_zero, List.set_cons_succ, i64_w, i32_w]
                rfl
              refine one_ (i := 6) (N := some 52) #[true, true, true, true, true, true, true, true, true, true, true, true, true, true, false] rfl rfl (by kernel_rfl) (by decide) (fun K hK => ?_)
              refine goes_ Try.func39 (by kernel_rfl) rfl #[.int .u32 S] (by rfl) rfl rfl (by simp only [List.map_toArray, List.map_cons, List.map_nil]; rfl) ?_
              with_reducible refine ((of_calls S _)).mono ?_
              rintro e_ w3 ⟨rfl, hb39⟩
              refine ⟨_, rfl, ?_⟩
              have m_ := Aside0.mk (show Below w1.heap.size w1 w3 from below_step (by repeat (first | exact HW.out | (with_reducible refine below_drew ?_))) hb39)
              clear HW
              have HW := m_
              clear m_
              refine hK.out _ _ ⟨pw_cell_below hb39 hHeld.1, pw_cell_below hb39 hHeld.2.1, pw_cell_below hb39 hHeld.2.2.1, pw_cell_below hb39 hHeld.2.2.2⟩ (fun hHeld => ?_)
              clear hK K
              refine norm_ (a' := ?_) ?_ ?_
              rotate_left
              · show Act.put _ (some 52) _ = _
                simp only [Act.put, List.setIfInBounds_toArray, List.set_cons_zero, List.set_cons_succ, i64_w, i32_w]
                rfl
              refine rgP 14 60 ?_
              refine done_ (by kernel_rfl) ?_
              have HB3 := Aside0.mk (below_step HB.out HW.out)
              clear u0 u1 u2 u3 d8
              go_wp2
              go_ret2
              exact ⟨_, rfl, Kd.R_nil _ _ _ _ _, HB3.out⟩
          · rw [if_pos (Or.inr (Or.inr (by show ¬ (l.length : Int) = (p : Int) + (q : Int) + 4; omega)))] at h
            obtain ⟨rfl, rfl⟩ := Prod.mk.inj (Option.some.inj h)
            have k3 : ((l.length : Int) - (p : Int) == (q : Int) + 4) = false := beq_eq_false_iff_ne.2 (by omega)
            have k4 : ((l.length : Int) - (p : Int) != (q : Int) + 4) = true := by rw [bne, k3]; rfl
            clear h h6 h7 g1 g2 g3 g4
            go_enter Try.func24, Try.ntmps24
            go_wp2_with (first | (go_at_call 45; (refine (vint_Get.calls k (some ad) c l 2 (q : Int) (p : Int) 0 _ HC.out HCC.out HG.out).mono ?_); rintro e_ w1 ⟨rfl, hb⟩; have n0_ := Aside0.mk (below_step HB.out hb); clear HB; have HB := n0_; clear n0_ hb))
            go_ret2
            exact ⟨_, rfl, Kd.R_nil _ _ _ _ _, HB.out⟩
        · rw [if_pos (Or.inl h5)] at h
          obtain ⟨rfl, rfl⟩ := Prod.mk.inj (Option.some.inj h)
          have b1 : (er == 0) = false := beq_eq_false_iff_ne.2 h5
          have b2 : (er != 0) = true := by rw [bne, b1]; rfl
          clear h h4 h5
          go_enter Try.func24, Try.ntmps24
          go_wp2_with (first | (go_at_call 45; (refine (vint_Get.calls k (some ad) c l 2 n at_ er _ HC.out HCC.out HG.out).mono ?_); rintro e_ w1 ⟨rfl, hb⟩; have n0_ := Aside0.mk (below_step HB.out hb); clear HB; have HB := n0_; clear n0_ hb))
          go_ret2
          exact ⟨_, rfl, Kd.R_nil _ _ _ _ _, HB.out⟩
      · rw [if_neg h4] at h
        cases h
    · have e3 : (rd l 1 == kind) = false := beq_eq_false_iff_ne.2 h3
      have e4 : (rd l 1 != kind) = true := by rw [bne, e3]; rfl
      rw [if_pos (Or.inr (Or.inr h3))] at h
      obtain ⟨rfl, rfl⟩ := Prod.mk.inj (Option.some.inj h)
      clear h h1 h2 h3 hC hc
      go_enter Try.func24, Try.ntmps24
      go_wp2
      go_ret2
      exact ⟨_, rfl, Kd.R_nil _ _ _ _ _, HB.out⟩
  · have e1 : (rd l 0 == 70) = false := beq_eq_false_iff_ne.2 h2
    have e2 : (rd l 0 != 70) = true := by rw [bne, e1]; rfl
    rw [if_pos (Or.inr (Or.inl h2))] at h
    obtain ⟨rfl, rfl⟩ := Prod.mk.inj (Option.some.inj h)
    clear h h1 h2 hC hc
    go_enter Try.func24, Try.ntmps24
    go_wp2
    go_ret2
    exact ⟨_, rfl, Kd.R_nil _ _ _ _ _, HB.out⟩

end Go.Proofs.Ytfhcolhiolgikaa.T
/- Plain facts for Pack: numbers that are written. -/
namespace Go.Proofs.Ytfhcolhiolgikaa.Plain
set_option linter.unusedVariables false
set_option linter.unusedSimpArgs false
open Go.RowKit Go.Proofs.Ytfhcolhiolgikaa.T Go.Proofs.YtfhcolhiolgikaaW.PrintWords Go.Proofs.YtfhcolhiolgikaaW.PrintLast Go.Proofs.YtfhcolhiolgikaaW.PrintMore
theorem wid {n : Int} (h1 : -9223372036854775808 ≤ n) (h2 : n ≤ 9223372036854775807) : wrap64 n = n := by unfold wrap64; omega
/-- Bytes. -/
def byt (l : List Int) : Prop := ∀ x ∈ l, 0 ≤ x ∧ x < 256
theorem byt_nil : byt [] := fun x h => by cases h
theorem byt_app {a b : List Int} : byt (a ++ b) ↔ byt a ∧ byt b := by
  constructor
  · exact fun h => ⟨fun x hx => h x (List.mem_append_left _ hx), fun x hx => h x (List.mem_append_right _ hx)⟩
  · rintro ⟨h1, h2⟩ x hx
    rcases List.mem_append.1 hx with h | h
    · exact h1 x h
    · exact h2 x h
theorem byt_cons {a : Int} {b : List Int} : byt (a :: b) ↔ (0 ≤ a ∧ a < 256) ∧ byt b := by
  constructor
  · exact fun h => ⟨h a (by simp), fun x hx => h x (by simp [hx])⟩
  · rintro ⟨h1, h2⟩ x hx
    rcases List.mem_cons.1 hx with h | h
    · exact h ▸ h1
    · exact h2 x h
theorem byt_drop {b : List Int} (h : byt b) (n : Nat) : byt (b.drop n) := fun x hx => h x (List.mem_of_mem_drop hx)
theorem byt_take {b : List Int} (h : byt b) (n : Nat) : byt (b.take n) := fun x hx => h x (List.mem_of_mem_take hx)
/-- A number, written. -/
def vput (n : Nat) : List Int := if n < 128 then [(n : Int)] else ((n % 128 + 128 : Nat) : Int) :: vput (n / 128)
theorem vput_small {n : Nat} (h : n < 128) : vput n = [(n : Int)] := by rw [vput, if_pos h]
theorem vput_great {n : Nat} (h : ¬ n < 128) : vput n = ((n % 128 + 128 : Nat) : Int) :: vput (n / 128) := by rw [vput, if_neg h]
theorem vput_byt (n : Nat) : byt (vput n) := by
  induction n using Nat.strongRecOn with
  | ind n ih =>
    by_cases h : n < 128
    · rw [vput_small h]; exact byt_cons.2 ⟨by omega, byt_nil⟩
    · rw [vput_great h]; exact byt_cons.2 ⟨by omega, ih _ (by omega)⟩
theorem vput_pos (n : Nat) : 0 < (vput n).length := by
  by_cases h : n < 128
  · rw [vput_small h]; simp
  · rw [vput_great h]; simp
theorem vput_len (f n : Nat) (h : n < 128 ^ (f + 1)) : (vput n).length ≤ f + 1 := by
  induction f generalizing n with
  | zero => rw [vput_small (by simpa using h)]; simp
  | succ f ih =>
    by_cases h1 : n < 128
    · rw [vput_small h1]; simp
    · rw [vput_great h1]
      have := ih (n / 128) (by rw [Nat.pow_succ] at h; omega)
      simp; omega
/-- A number, read: and how many bytes it is of. -/
def dec : Nat → Bool → List Int → Option (Nat × Nat)
  | 0, _, _ => none
  | _ + 1, _, [] => none
  | f + 1, first, c :: r => if c ≥ 128 then (dec f false r).map (fun p => ((c % 128).toNat + 128 * p.1, p.2 + 1)) else if c = 0 ∧ first = false then none else some (c.toNat, 1)
theorem dec_put (f n : Nat) (first : Bool) (r : List Int) (h : n < 128 ^ (f + 1)) (h0 : first = true ∨ n ≠ 0) : dec (f + 1) first (vput n ++ r) = some (n, (vput n).length) := by
  have small : ∀ (g : Nat), n < 128 → dec (g + 1) first (vput n ++ r) = some (n, (vput n).length) := by
    intro g h1
    rw [vput_small h1]
    show (if (n : Int) ≥ 128 then _ else if (n : Int) = 0 ∧ first = false then none else some ((n : Int).toNat, 1)) = _
    rw [if_neg (by omega), if_neg ?_]
    · simp
    · rintro ⟨e1, e2⟩
      rcases h0 with h0 | h0
      · rw [h0] at e2; cases e2
      · omega
  induction f generalizing n first with
  | zero => exact small 0 (by simpa using h)
  | succ f ih =>
    by_cases h1 : n < 128
    · exact small _ h1
    · rw [vput_great h1]
      show (if ((n % 128 + 128 : Nat) : Int) ≥ 128 then (dec (f + 1) false (vput (n / 128) ++ r)).map (fun p => ((((n % 128 + 128 : Nat) : Int) % 128).toNat + 128 * p.1, p.2 + 1)) else _) = _
      have hd : n / 128 < 128 ^ (f + 1) := by rw [Nat.pow_succ] at h; omega
      rw [if_pos (by omega), ih (n / 128) false hd (Or.inr (by omega)) ?_]
      · simp only [Option.map_some, List.length_cons]
        congr 2
        omega
      · intro g h2
        rw [vput_small h2]
        show (if ((n / 128 : Nat) : Int) ≥ 128 then _ else if ((n / 128 : Nat) : Int) = 0 ∧ false = false then none else some (((n / 128 : Nat) : Int).toNat, 1)) = _
        rw [if_neg (by omega), if_neg (by omega), Int.toNat_natCast]
        simp
theorem dec_inv (f : Nat) : ∀ (first : Bool) (l : List Int) (n k : Nat), byt l → dec f first l = some (n, k) → l = vput n ++ l.drop k ∧ k = (vput n).length ∧ n < 128 ^ f ∧ (first = false → n ≠ 0) := by
  induction f with
  | zero => intro first l n k _ h; simp [dec] at h
  | succ f ih =>
    intro first l n k hb h
    match l, hb, h with
    | [], _, h => simp [dec] at h
    | c :: r, hb, h =>
      obtain ⟨⟨c0, c1⟩, hb'⟩ := byt_cons.1 hb
      unfold dec at h
      split at h
      · rename_i hc
        obtain ⟨⟨m, j⟩, hm, e⟩ := Option.map_eq_some_iff.1 h
        simp only [Prod.mk.injEq] at e
        obtain ⟨e1, e2⟩ := e
        obtain ⟨i1, i2, i3, i4⟩ := ih false r m j hb' hm
        have hm0 := i4 rfl
        have hn : ¬ n < 128 := by omega
        have hd : n / 128 = m := by omega
        have hmod : ((n % 128 + 128 : Nat) : Int) = c := by omega
        rw [vput_great hn, hd, hmod]
        refine ⟨?_, ?_, ?_, fun _ => by omega⟩
        · subst e2
          rw [List.drop_succ_cons, List.cons_append]
          rw [← i1]
        · simp; omega
        · rw [Nat.pow_succ]; omega
      · rename_i hc
        split at h
        · cases h
        · rename_i hz
          simp only [Option.some.injEq, Prod.mk.injEq] at h
          obtain ⟨e1, e2⟩ := h
          have hn : n < 128 := by omega
          rw [vput_small hn]
          subst e2
          refine ⟨by simp; omega, by simp, ?_, fun hf hn0 => hz ⟨by omega, hf⟩⟩
          have : 0 < 128 ^ f := Nat.pow_pos (by decide)
          rw [Nat.pow_succ]; omega
theorem dec_len (f : Nat) (first : Bool) (l : List Int) (n k : Nat) (h : dec f first l = some (n, k)) : k ≤ l.length := by
  induction f generalizing first l n k with
  | zero => simp [dec] at h
  | succ f ih =>
    match l, h with
    | [], h => simp [dec] at h
    | c :: r, h =>
      unfold dec at h
      split at h
      · obtain ⟨⟨m, j⟩, hm, e⟩ := Option.map_eq_some_iff.1 h
        simp only [Prod.mk.injEq] at e
        have := ih false r m j hm
        simp; omega
      · split at h
        · cases h
        · simp only [Option.some.injEq, Prod.mk.injEq] at h
          simp; omega
theorem dec_step (f : Nat) (first : Bool) (c : Int) (r : List Int) : dec (f + 1) first (c :: r) = if c ≥ 128 then (dec f false r).map (fun p => ((c % 128).toNat + 128 * p.1, p.2 + 1)) else if c = 0 ∧ first = false then none else some (c.toNat, 1) := rfl
theorem dec_empty (f : Nat) (first : Bool) : dec f first [] = none := by cases f <;> rfl
def getV (x y : Int) (at_ : Int) : Option (Nat × Nat) → Int × Int × Int
  | none => (0, 0, 5)
  | some (n, k) => (x + (n : Int) * y, at_ + k, 0)
def getP (b : List Int) (at_ : Int) : Int × Int × Int :=
  if at_ < 0 ∨ at_ > (b.length : Int) then (0, 0, 1) else getV 0 1 at_ (dec 5 true (b.drop at_.toNat))
theorem or7 (i : Nat) (hi : i ≤ 4) (x y : Int) (hx : 0 ≤ x) (hx1 : x < 128 ^ i) (hy : 0 ≤ y) (hy1 : y < 128) : Go.bits .or .i64 x (shl .i64 y ((7 * i : Nat) : Int)) = x + y * 128 ^ i := by
  have hp : (128 : Int) ^ i = 2 ^ (7 * i) := by rw [Int.pow_mul]; rfl
  rw [hp] at hx1
  obtain ⟨a, rfl⟩ := Int.eq_ofNat_of_zero_le hx
  obtain ⟨b, rfl⟩ := Int.eq_ofNat_of_zero_le hy
  have ha : a < 2 ^ (7 * i) := by exact_mod_cast hx1
  have hb : b < 128 := by omega
  have hm : (2 : Nat) ^ (7 * i) ≤ 2 ^ 28 := Nat.pow_le_pow_right (by decide) (by omega)
  have hmul : b * 2 ^ (7 * i) ≤ 127 * 2 ^ 28 := Nat.mul_le_mul (by omega) hm
  have hs : shl .i64 (b : Int) ((7 * i : Nat) : Int) = ((2 ^ (7 * i) * b : Nat) : Int) := by
    unfold shl
    rw [Int.toNat_natCast, Nat.min_eq_left (by show 7 * i ≤ 64; omega), IntKind.wrap_i64]
    have : (b : Int) * 2 ^ (7 * i) = ((2 ^ (7 * i) * b : Nat) : Int) := by push_cast; rw [Int.mul_comm]
    rw [this, Nat.mul_comm]
    omega
  rw [hs, (bits_nat .i64 62 (by decide) (fun n h₀ h₁ => by rw [IntKind.wrap_i64]; omega) a _ (by omega) (by rw [Nat.mul_comm]; omega)).2, Nat.or_comm, ← Nat.two_pow_add_eq_or_of_lt ha b, hp]
  push_cast
  rw [Int.mul_comm, Int.add_comm]
theorem get_wraps (p i L : Nat) (hl : L ≤ 9223372036854775807) (hlt : p + i < L) (hi : i ≤ 5) : wrap64 ((p : Int) + (i : Int)) = ((p + i : Nat) : Int) ∧ wrap64 (7 * (i : Int)) = ((7 * i : Nat) : Int) ∧ wrap64 ((i : Int) + 1) = ((i + 1 : Nat) : Int) ∧ wrap64 (((p + i : Nat) : Int) + 1) = (p : Int) + i + ((1 : Nat) : Int) := by
  refine ⟨?_, ?_, ?_, ?_⟩
  · rw [wid (by omega) (by omega)]; omega
  · rw [wid (by omega) (by omega)]; omega
  · rw [wid (by omega) (by omega)]; omega
  · rw [wid (by omega) (by omega)]; omega
theorem get_loop (b : List Int) (hb : byt b) (hl : b.length ≤ 9223372036854775807) (p : Nat) (hp : p ≤ b.length) : ∀ (f i : Nat) (x y : Int) (k : Nat), f + i = 5 → f < k → 0 ≤ x → x < y → y = 128 ^ i →
    vint_Get.l0 k b (p : Int) x (mn 5 (wrap64 ((b.length : Int) - (p : Int)))) (i : Int) = some (getV x y ((p : Int) + i) (dec f (decide (i = 0)) (b.drop (p + i)))) := by
  have hw : wrap64 ((b.length : Int) - (p : Int)) = (b.length : Int) - p := wid (by omega) (by omega)
  intro f
  induction f with
  | zero =>
    intro i x y k hfi hk hx hx1 hy
    obtain ⟨k, rfl⟩ : ∃ m, k = m + 1 := ⟨k - 1, by omega⟩
    have hi : i = 5 := by omega
    subst hi
    rw [hw]
    simp only [vint_Get.l0]
    rw [if_neg (by unfold mn; split <;> omega)]
    rfl
  | succ f ih =>
    intro i x y k hfi hk hx hx1 hy
    obtain ⟨k, rfl⟩ : ∃ m, k = m + 1 := ⟨k - 1, by omega⟩
    have HY := Aside0.mk hy
    clear hy
    simp only [vint_Get.l0]
    by_cases hlt : p + i < b.length
    · rw [if_pos (by rw [hw]; unfold mn; split <;> omega)]
      obtain ⟨w1, w2, w3, w4⟩ := get_wraps p i b.length hl hlt (by omega)
      have q1 : (0 : Int) ≤ ((p + i : Nat) : Int) := Int.natCast_nonneg _
      have q2 : ((p + i : Nat) : Int) < (b.length : Int) := Int.ofNat_lt.2 hlt
      have q3 : (0 : Int) ≤ ((7 * i : Nat) : Int) := Int.natCast_nonneg _
      rw [w1, if_pos q1, if_pos q2, w2, if_pos q3, w3, w4]
      clear w1 w2 w3 w4 hw
      have hdrop : b.drop (p + i) = b[p + i] :: b.drop (p + i + 1) := List.drop_eq_getElem_cons hlt
      have hrd : rd b ((p + i : Nat) : Int) = b[p + i] := by unfold rd; rw [Int.toNat_natCast, List.getD_eq_getElem?_getD, List.getElem?_eq_getElem hlt]; rfl
      obtain ⟨c0, c1⟩ := hb b[p + i] (List.getElem_mem hlt)
      rw [hrd, hdrop]
      generalize b[p + i] = c at c0 c1
      have tm : Int.tmod c 128 = c % 128 := Int.tmod_eq_emod_of_nonneg c0
      have w5 : wrap64 (c % 128) = c % 128 := wid (by omega) (by omega)
      rw [tm, w5]
      clear w5 tm
      have hor := or7 i (by omega) x (c % 128) hx (HY.out ▸ hx1) (by omega) (by omega)
      rw [← HY.out] at hor
      rw [dec_step]
      by_cases hc : c ≥ 128
      · rw [if_pos hc, if_pos hc, hor]
        have hle : (c % 128) * y ≤ 127 * y := Int.mul_le_mul_of_nonneg_right (by omega) (by omega)
        have hge : 0 ≤ (c % 128) * y := Int.mul_nonneg (by omega) (by omega)
        rw [ih (i + 1) (x + c % 128 * y) (y * 128) k (by omega) (by omega) (by omega) (by omega) (by rw [HY.out, Int.pow_succ])]
        rw [show decide (i + 1 = 0) = false by simp, show p + (i + 1) = p + i + 1 by omega]
        cases hd : dec f false (b.drop (p + i + 1)) with
        | none => rfl
        | some q =>
          obtain ⟨n, m⟩ := q
          simp only [Option.map_some, getV]
          have e1 : (((c % 128).toNat + 128 * n : Nat) : Int) = c % 128 + 128 * n := by omega
          have e2 : x + c % 128 * y + (n : Int) * (y * 128) = x + (c % 128 + 128 * (n : Int)) * y := by
            rw [Int.add_mul, Int.add_assoc, Int.mul_comm y 128, ← Int.mul_assoc, Int.mul_comm (n : Int) 128]
          rw [e1, e2]
          have e3 : (p : Int) + ((i + 1 : Nat) : Int) + (m : Int) = (p : Int) + i + ((m + 1 : Nat) : Int) := by omega
          rw [e3]
      · rw [if_neg hc, if_neg hc, hor]
        have hcm : c % 128 = c := by omega
        by_cases hz : c = 0
        · rw [if_pos hz]
          by_cases hi : i = 0
          · rw [if_neg (by omega), if_neg (by simp [hi]), hcm]
            simp only [getV]
            rw [Int.toNat_of_nonneg c0]
          · rw [if_pos (by omega), if_pos ⟨hz, by simpa using hi⟩]
            rfl
        · rw [if_neg hz, if_neg (fun h => hz h.1), hcm]
          simp only [getV]
          rw [Int.toNat_of_nonneg c0]
    · rw [if_neg (by rw [hw]; unfold mn; split <;> omega)]
      rw [List.drop_eq_nil_of_le (by omega), dec_empty]
      rfl
theorem get_eq (b : List Int) (at_ : Int) (hb : byt b) (hl : b.length ≤ 9223372036854775807) (k : Nat) (hk : 7 ≤ k) : vint_Get.f k b at_ = some (getP b at_) := by
  obtain ⟨k, rfl⟩ : ∃ m, k = m + 1 := ⟨k - 1, by omega⟩
  unfold vint_Get.f getP
  by_cases h1 : at_ < 0
  · rw [if_pos h1, if_pos (Or.inl h1)]
    simp [vint_Get.j0]
  · rw [if_neg h1]
    by_cases h2 : at_ > (b.length : Int)
    · rw [if_pos (Or.inr h2), decide_eq_true h2]
      simp [vint_Get.j0]
    · rw [if_neg (by omega), decide_eq_false h2]
      obtain ⟨p, rfl⟩ := Int.eq_ofNat_of_zero_le (show 0 ≤ at_ by omega)
      simp only [vint_Get.j0]
      have := get_loop b hb hl p (by omega) 5 0 0 1 k rfl (by omega) (by omega) (by omega) rfl
      rw [if_neg (by decide)]
      refine this.trans ?_
      rw [decide_eq_true (show (0 : Nat) = 0 from rfl), Nat.add_zero, Int.toNat_natCast]
      rfl
/-- What a read number is. -/
theorem get_ok {b : List Int} (hb : byt b) {at_ n nx : Int} (h : getP b at_ = (n, nx, 0)) : 0 ≤ at_ ∧ ∃ p m : Nat, at_ = p ∧ n = m ∧ m < 34359738368 ∧ nx = ((p + (vput m).length : Nat) : Int) ∧ p + (vput m).length ≤ b.length ∧ b.drop p = vput m ++ b.drop (p + (vput m).length) := by
  unfold getP at h
  split at h
  · cases h
  · rename_i hc
    obtain ⟨p, rfl⟩ := Int.eq_ofNat_of_zero_le (show 0 ≤ at_ by omega)
    rw [Int.toNat_natCast] at h
    cases hd : dec 5 true (b.drop p) with
    | none => rw [hd] at h; simp [getV] at h
    | some q =>
      obtain ⟨m, j⟩ := q
      rw [hd] at h
      simp only [getV, Prod.mk.injEq] at h
      obtain ⟨i1, i2, i3, _⟩ := dec_inv 5 true _ m j (byt_drop hb p) hd
      have hj := dec_len _ _ _ _ _ hd
      rw [List.length_drop] at hj
      have := vput_pos m
      refine ⟨by omega, p, m, rfl, by omega, i3, by omega, by omega, ?_⟩
      rw [List.drop_drop, i2] at i1
      exact i1
theorem get_put {b r : List Int} {p m : Nat} (hm : m < 34359738368) (hp : p ≤ b.length) (h : b.drop p = vput m ++ r) : getP b (p : Int) = ((m : Int), ((p + (vput m).length : Nat) : Int), 0) := by
  unfold getP
  rw [if_neg (by omega), Int.toNat_natCast, h, dec_put 4 m true r (by simpa using hm) (Or.inl rfl)]
  simp only [getV]
  congr 1
  omega
/-- .. and what comes behind an error. -/
theorem get_bad (b : List Int) (at_ : Int) : (∃ n nx, getP b at_ = (n, nx, 0)) ∨ ∃ e, e ≠ 0 ∧ getP b at_ = (0, 0, e) := by
  unfold getP
  split
  · exact Or.inr ⟨1, by decide, rfl⟩
  · cases dec 5 true (b.drop at_.toNat) with
    | none => exact Or.inr ⟨5, by decide, rfl⟩
    | some q => exact Or.inl ⟨_, _, rfl⟩
end Go.Proofs.Ytfhcolhiolgikaa.Plain
