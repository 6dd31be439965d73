import Derived.Test.YtfhcolhiolgikaaQTV
import Derived.Test.YtfhcolhiolgikaaQTA
import Derived.Test.YtfhcolhiolgikaaQTB
/- Texts of this claim, laid together by a program (merge.py): Tx7. -/
/- Written by hp.py, this session's own program, out of the translation of this seat: Lean functions for the Go functions, and the proof that each call comes to what its Lean function says. -/
namespace Go.Proofs.Ytfhcolhiolgikaa.T
open Go.RowKit Go.Proofs.YtfhcolhiolgikaaW.PrintWords Go.Proofs.YtfhcolhiolgikaaW.PrintLast Go.Proofs.YtfhcolhiolgikaaW.PrintMore
attribute [local go_sem] max2_int min2_int max_two min_two max_three min_three max_four min_four   -- for this text's walks alone
set_option linter.unusedVariables false
set_option linter.unusedSimpArgs false

/-! ### catchwordref08_Same: function 11 -/
mutual
def catchwordref08_Same.j0 : Nat → Bool → List ByteArray → List Int → List Int → List (S44) → Bool → List ByteArray → List Int → List Int → List (S44) → Bool → Option (Bool)
 | 0, _, _, _, _, _, _, _, _, _, _, _ => none
 | k + 1, x50, x248000, x248001, x248002, x248003, x248004, x249000, x249001, x249002, x249003, x249004 => if x50 = true then (some false) else (catchwordref08_Same.l0 k 0 x248000 x248001 x248002 x248003 x248004 x249000 x249001 x249002 x249003 x249004)
def catchwordref08_Same.l0 : Nat → Int → List ByteArray → List Int → List Int → List (S44) → Bool → List ByteArray → List Int → List Int → List (S44) → Bool → Option (Bool)
 | 0, _, _, _, _, _, _, _, _, _, _, _ => none
 | k + 1, x8, x248000, x248001, x248002, x248003, x248004, x249000, x249001, x249002, x249003, x249004 => if x8 < (x248003.length : Int) then (if 0 ≤ x8 then (if x8 < (x249003.length : Int) then ((catchwordref06_Same.f k ((rd_T44 x248003 x8).f1) ((rd_T44 x249003 x8).f1)).bind fun t254 => (if t254 = true then (if ((rd_T44 x248003 x8).f0).toList = ((rd_T44 x249003 x8).f0).toList then (catchwordref08_Same.l0 k (wrap64 (x8 + 1)) x248000 x248001 x248002 x248003 x248004 x249000 x249001 x249002 x249003 x249004) else (some false)) else (some false))) else (none)) else (none)) else (some true)
end
def catchwordref08_Same.f (k : Nat) (l0_0 : List ByteArray) (l0_1 : List Int) (l0_2 : List Int) (l0_3 : List (S44)) (a0_4 : Bool) (l1_0 : List ByteArray) (l1_1 : List Int) (l1_2 : List Int) (l1_3 : List (S44)) (a1_4 : Bool) : Option (Bool) := (catchwordref05_Texts.f k l0_0 l1_0).bind fun t249 => ((catchwordref01_Ints.f k l0_1 l1_1).bind fun t250 => ((catchwordref01_Ints.f k l0_2 l1_2).bind fun t251 => (if t249 = true then (if t250 = true then (if t251 = true then (if (a0_4 != a1_4) = true then (catchwordref08_Same.j0 k true l0_0 l0_1 l0_2 l0_3 a0_4 l1_0 l1_1 l1_2 l1_3 a1_4) else (catchwordref08_Same.j0 k ((l0_3.length : Int) != (l1_3.length : Int)) l0_0 l0_1 l0_2 l0_3 a0_4 l1_0 l1_1 l1_2 l1_3 a1_4)) else (catchwordref08_Same.j0 k true l0_0 l0_1 l0_2 l0_3 a0_4 l1_0 l1_1 l1_2 l1_3 a1_4)) else (catchwordref08_Same.j0 k true l0_0 l0_1 l0_2 l0_3 a0_4 l1_0 l1_1 l1_2 l1_3 a1_4)) else (catchwordref08_Same.j0 k true l0_0 l0_1 l0_2 l0_3 a0_4 l1_0 l1_1 l1_2 l1_3 a1_4))))
set_option maxHeartbeats 8000000 in
set_option maxRecDepth 100000 in
theorem catchwordref08_Same.calls (k : Nat) (A0_0 : Option Addr) (c0_0 : Nat) (l0_0 : List ByteArray) (A0_1 : Option Addr) (c0_1 : Nat) (l0_1 : List Int) (A0_2 : Option Addr) (c0_2 : Nat) (l0_2 : List Int) (A0_3 : Option Addr) (c0_3 : Nat) (l0_3 : List (S44)) (a0_4 : Bool) (A1_0 : Option Addr) (c1_0 : Nat) (l1_0 : List ByteArray) (A1_1 : Option Addr) (c1_1 : Nat) (l1_1 : List Int) (A1_2 : Option Addr) (c1_2 : Nat) (l1_2 : List Int) (A1_3 : Option Addr) (c1_3 : Nat) (l1_3 : List (S44)) (a1_4 : Bool) (r : Bool) (w : World) (hr0_0 : Kd.C Kd.string w A0_0 l0_0.length l0_0) (hc0_0 : l0_0.length ≤ c0_0) (hr0_1 : Kd.C (Kd.int .i64) w A0_1 l0_1.length l0_1) (hc0_1 : l0_1.length ≤ c0_1) (hr0_2 : Kd.C (Kd.int .i64) w A0_2 l0_2.length l0_2) (hc0_2 : l0_2.length ≤ c0_2) (hr0_3 : Kd.C k44 w A0_3 l0_3.length l0_3) (hc0_3 : l0_3.length ≤ c0_3) (hr1_0 : Kd.C Kd.string w A1_0 l1_0.length l1_0) (hc1_0 : l1_0.length ≤ c1_0) (hr1_1 : Kd.C (Kd.int .i64) w A1_1 l1_1.length l1_1) (hc1_1 : l1_1.length ≤ c1_1) (hr1_2 : Kd.C (Kd.int .i64) w A1_2 l1_2.length l1_2) (hc1_2 : l1_2.length ≤ c1_2) (hr1_3 : Kd.C k44 w A1_3 l1_3.length l1_3) (hc1_3 : l1_3.length ≤ c1_3) (h : catchwordref08_Same.f k l0_0 l0_1 l0_2 l0_3 a0_4 l1_0 l1_1 l1_2 l1_3 a1_4 = some r) :
  Calls Try.prog 11 #[.agg #[.slice A0_0 l0_0.length c0_0, .slice A0_1 l0_1.length c0_1, .slice A0_2 l0_2.length c0_2, .slice A0_3 l0_3.length c0_3, .bool a0_4], .agg #[.slice A1_0 l1_0.length c1_0, .slice A1_1 l1_1.length c1_1, .slice A1_2 l1_2.length c1_2, .slice A1_3 l1_3.length c1_3, .bool a1_4]] w fun e w' => e = .returned (.bool r) ∧ Below w.heap.size w w' := by
 have hu26 := Try.underlying26
 have HR0_0 := Aside0.mk hr0_0
 have HC0_0 := Aside0.mk hc0_0
 clear hr0_0 hc0_0
 have HR0_1 := Aside0.mk hr0_1
 have HC0_1 := Aside0.mk hc0_1
 clear hr0_1 hc0_1
 have HR0_2 := Aside0.mk hr0_2
 have HC0_2 := Aside0.mk hc0_2
 clear hr0_2 hc0_2
 have HR0_3 := Aside0.mk hr0_3
 have HC0_3 := Aside0.mk hc0_3
 clear hr0_3 hc0_3
 have HR1_0 := Aside0.mk hr1_0
 have HC1_0 := Aside0.mk hc1_0
 clear hr1_0 hc1_0
 have HR1_1 := Aside0.mk hr1_1
 have HC1_1 := Aside0.mk hc1_1
 clear hr1_1 hc1_1
 have HR1_2 := Aside0.mk hr1_2
 have HC1_2 := Aside0.mk hc1_2
 clear hr1_2 hc1_2
 have HR1_3 := Aside0.mk hr1_3
 have HC1_3 := Aside0.mk hc1_3
 clear hr1_3 hc1_3
 have HB := Aside0.mk (Below.refl w.heap.size w)
 have H : ((catchwordref05_Texts.f k l0_0 l1_0).bind fun t249 => ((catchwordref01_Ints.f k l0_1 l1_1).bind fun t250 => ((catchwordref01_Ints.f k l0_2 l1_2).bind fun t251 => (if t249 = true then (if t250 = true then (if t251 = true then (if (a0_4 != a1_4) = true then (catchwordref08_Same.j0 k true l0_0 l0_1 l0_2 l0_3 a0_4 l1_0 l1_1 l1_2 l1_3 a1_4) else (catchwordref08_Same.j0 k ((l0_3.length : Int) != (l1_3.length : Int)) l0_0 l0_1 l0_2 l0_3 a0_4 l1_0 l1_1 l1_2 l1_3 a1_4)) else (catchwordref08_Same.j0 k true l0_0 l0_1 l0_2 l0_3 a0_4 l1_0 l1_1 l1_2 l1_3 a1_4)) else (catchwordref08_Same.j0 k true l0_0 l0_1 l0_2 l0_3 a0_4 l1_0 l1_1 l1_2 l1_3 a1_4)) else (catchwordref08_Same.j0 k true l0_0 l0_1 l0_2 l0_3 a0_4 l1_0 l1_1 l1_2 l1_3 a1_4))))) = some r := h
 clear h
 replace H := Option.bind_eq_some_iff.mp H
 obtain ⟨t249, A30, H⟩ := H
 replace H : ((catchwordref01_Ints.f k l0_1 l1_1).bind fun t250 => ((catchwordref01_Ints.f k l0_2 l1_2).bind fun t251 => (if t249 = true then (if t250 = true then (if t251 = true then (if (a0_4 != a1_4) = true then (catchwordref08_Same.j0 k true l0_0 l0_1 l0_2 l0_3 a0_4 l1_0 l1_1 l1_2 l1_3 a1_4) else (catchwordref08_Same.j0 k ((l0_3.length : Int) != (l1_3.length : Int)) l0_0 l0_1 l0_2 l0_3 a0_4 l1_0 l1_1 l1_2 l1_3 a1_4)) else (catchwordref08_Same.j0 k true l0_0 l0_1 l0_2 l0_3 a0_4 l1_0 l1_1 l1_2 l1_3 a1_4)) else (catchwordref08_Same.j0 k true l0_0 l0_1 l0_2 l0_3 a0_4 l1_0 l1_1 l1_2 l1_3 a1_4)) else (catchwordref08_Same.j0 k true l0_0 l0_1 l0_2 l0_3 a0_4 l1_0 l1_1 l1_2 l1_3 a1_4)))) = some r := H
 have A3 := Aside0.mk A30
 clear A30
 replace H := Option.bind_eq_some_iff.mp H
 obtain ⟨t250, A40, H⟩ := H
 replace H : ((catchwordref01_Ints.f k l0_2 l1_2).bind fun t251 => (if t249 = true then (if t250 = true then (if t251 = true then (if (a0_4 != a1_4) = true then (catchwordref08_Same.j0 k true l0_0 l0_1 l0_2 l0_3 a0_4 l1_0 l1_1 l1_2 l1_3 a1_4) else (catchwordref08_Same.j0 k ((l0_3.length : Int) != (l1_3.length : Int)) l0_0 l0_1 l0_2 l0_3 a0_4 l1_0 l1_1 l1_2 l1_3 a1_4)) else (catchwordref08_Same.j0 k true l0_0 l0_1 l0_2 l0_3 a0_4 l1_0 l1_1 l1_2 l1_3 a1_4)) else (catchwordref08_Same.j0 k true l0_0 l0_1 l0_2 l0_3 a0_4 l1_0 l1_1 l1_2 l1_3 a1_4)) else (catchwordref08_Same.j0 k true l0_0 l0_1 l0_2 l0_3 a0_4 l1_0 l1_1 l1_2 l1_3 a1_4))) = some r := H
 have A4 := Aside0.mk A40
 clear A40
 replace H := Option.bind_eq_some_iff.mp H
 obtain ⟨t251, A50, H⟩ := H
 replace H : (if t249 = true then (if t250 = true then (if t251 = true then (if (a0_4 != a1_4) = true then (catchwordref08_Same.j0 k true l0_0 l0_1 l0_2 l0_3 a0_4 l1_0 l1_1 l1_2 l1_3 a1_4) else (catchwordref08_Same.j0 k ((l0_3.length : Int) != (l1_3.length : Int)) l0_0 l0_1 l0_2 l0_3 a0_4 l1_0 l1_1 l1_2 l1_3 a1_4)) else (catchwordref08_Same.j0 k true l0_0 l0_1 l0_2 l0_3 a0_4 l1_0 l1_1 l1_2 l1_3 a1_4)) else (catchwordref08_Same.j0 k true l0_0 l0_1 l0_2 l0_3 a0_4 l1_0 l1_1 l1_2 l1_3 a1_4)) else (catchwordref08_Same.j0 k true l0_0 l0_1 l0_2 l0_3 a0_4 l1_0 l1_1 l1_2 l1_3 a1_4)) = some r := H
 have A5 := Aside0.mk A50
 clear A50
 have HC6 := Aside0.mk H
 clear H
 go_enter Try.func11, Try.ntmps11
 go_upto_region 4 with (first | ((with_reducible refine gate_dst (N := 2) rfl ?_); (try (refine gate_guard (by rfl) ?_; dsimp only)); refine box_event ?hg (N := 2) ?hd (cs := #[.slice A0_0 l0_0.length c0_0, .slice A0_1 l0_1.length c0_1, .slice A0_2 l0_2.length c0_2, .slice A0_3 l0_3.length c0_3, .bool a0_4]) (t := 26) ?hr ?_; (case hd => rfl); (case hg => rfl); (case hr => first | (go_simp; done) | (go_simp; rfl)); intro gb247 hg w7 hbox hb; have n0_ := Aside0.mk (below_step (by repeat (first | (with_reducible first | exact HB.out | apply below_alloc | apply pw_below_drewN | apply below_drew1) | exact HB.out)) hb); have n1_ := Aside0.mk (hbox); have n2_ := Aside0.mk ((by rw [hg]; exact (below_size (by repeat (first | (with_reducible first | exact HB.out | apply below_alloc | apply pw_below_drewN | apply below_drew1) | exact HB.out))) : w.heap.size ≤ gb247)); have n3_ := Aside0.mk ((by rw [hg]; exact (below_size (by repeat (first | (with_reducible first | exact HB.out | apply below_alloc | apply pw_below_drewN | apply below_drew1) | exact HB.out))) : w.heap.size ≤ gb247)); clear HB; have HB := n0_; have BK247 := n1_; have GW247 := n2_; have GE247 := n3_; clear n0_ n1_ n2_ n3_; clear hb hbox hg) | ((with_reducible refine gate_dst (N := 3) rfl ?_); (try (refine gate_guard (by rfl) ?_; dsimp only)); refine box_event ?hg (N := 3) ?hd (cs := #[.slice A1_0 l1_0.length c1_0, .slice A1_1 l1_1.length c1_1, .slice A1_2 l1_2.length c1_2, .slice A1_3 l1_3.length c1_3, .bool a1_4]) (t := 26) ?hr ?_; (case hd => rfl); (case hg => rfl); (case hr => first | (go_simp; done) | (go_simp; rfl)); intro gb248 hg w8 hbox hb; have n0_ := Aside0.mk (blk_below (g := gb247) (o := .cells #[.slice A0_0 l0_0.length c0_0, .slice A0_1 l0_1.length c0_1, .slice A0_2 l0_2.length c0_2, .slice A0_3 l0_3.length c0_3, .bool a0_4] 26 (0, 0)) (by (with_reducible repeat (first | refine blk_drewN ?_ _ | refine blk_drew ?_ | refine blk_alloc ?_ _)); exact BK247.out) hb); have n1_ := Aside0.mk (below_step (by repeat (first | (with_reducible first | exact HB.out | apply below_alloc | apply pw_below_drewN | apply below_drew1 | refine below_set ?_ GE247.out) | exact HB.out)) hb); have n2_ := Aside0.mk (hbox); have n3_ := Aside0.mk ((by rw [hg]; exact (below_size (by repeat (first | (with_reducible first | exact HB.out | apply below_alloc | apply pw_below_drewN | apply below_drew1 | refine below_set ?_ GE247.out) | exact HB.out))) : w.heap.size ≤ gb248)); have n4_ := Aside0.mk ((by rw [hg]; exact (below_size (by repeat (first | (with_reducible first | exact HB.out | apply below_alloc | apply pw_below_drewN | apply below_drew1 | refine below_set ?_ GE247.out) | exact HB.out))) : w.heap.size ≤ gb248)); have n5_ := Aside0.mk ((by rw [hg]; exact Nat.ne_of_lt (blk_lt (g := gb247) (o := .cells #[.slice A0_0 l0_0.length c0_0, .slice A0_1 l0_1.length c0_1, .slice A0_2 l0_2.length c0_2, .slice A0_3 l0_3.length c0_3, .bool a0_4] 26 (0, 0)) (by (with_reducible repeat (first | refine blk_drewN ?_ _ | refine blk_drew ?_ | refine blk_alloc ?_ _)); exact BK247.out)) : gb247 ≠ gb248)); have n6_ := Aside0.mk ((by rw [hg]; exact Nat.ne_of_gt (blk_lt (g := gb247) (o := .cells #[.slice A0_0 l0_0.length c0_0, .slice A0_1 l0_1.length c0_1, .slice A0_2 l0_2.length c0_2, .slice A0_3 l0_3.length c0_3, .bool a0_4] 26 (0, 0)) (by (with_reducible repeat (first | refine blk_drewN ?_ _ | refine blk_drew ?_ | refine blk_alloc ?_ _)); exact BK247.out)) : gb248 ≠ gb247)); clear BK247; clear HB; have BK247 := n0_; have HB := n1_; have BK248 := n2_; have GW248 := n3_; have GE248 := n4_; have NB247_248 := n5_; have NB248_247 := n6_; clear n0_ n1_ n2_ n3_ n4_ n5_ n6_; clear hb hbox hg; have hnb9 := NB247_248.out; have hnc9 := NB248_247.out; have hcz10_0 : w8.cell? ⟨gb247, 0, none⟩ = some (.slice A0_0 l0_0.length c0_0) := (blk_cell BK247.out 0).trans rfl; have hcz10_1 : w8.cell? ⟨gb247, 1, none⟩ = some (.slice A0_1 l0_1.length c0_1) := (blk_cell BK247.out 1).trans rfl; have hcz10_2 : w8.cell? ⟨gb247, 2, none⟩ = some (.slice A0_2 l0_2.length c0_2) := (blk_cell BK247.out 2).trans rfl; have hcz10_3 : w8.cell? ⟨gb247, 3, none⟩ = some (.slice A0_3 l0_3.length c0_3) := (blk_cell BK247.out 3).trans rfl; have hcz10_4 : w8.cell? ⟨gb247, 4, none⟩ = some (.bool a0_4) := (blk_cell BK247.out 4).trans rfl; have hfz10_0 := blk_frozen BK247.out 0; have hfz10_1 := blk_frozen BK247.out 1; have hfz10_2 := blk_frozen BK247.out 2; have hfz10_3 := blk_frozen BK247.out 3; have hfz10_4 := blk_frozen BK247.out 4; have hcz11_0 : w8.cell? ⟨gb248, 0, none⟩ = some (.slice A1_0 l1_0.length c1_0) := (blk_cell BK248.out 0).trans rfl; have hcz11_1 : w8.cell? ⟨gb248, 1, none⟩ = some (.slice A1_1 l1_1.length c1_1) := (blk_cell BK248.out 1).trans rfl; have hcz11_2 : w8.cell? ⟨gb248, 2, none⟩ = some (.slice A1_2 l1_2.length c1_2) := (blk_cell BK248.out 2).trans rfl; have hcz11_3 : w8.cell? ⟨gb248, 3, none⟩ = some (.slice A1_3 l1_3.length c1_3) := (blk_cell BK248.out 3).trans rfl; have hcz11_4 : w8.cell? ⟨gb248, 4, none⟩ = some (.bool a1_4) := (blk_cell BK248.out 4).trans rfl; have hfz11_0 := blk_frozen BK248.out 0; have hfz11_1 := blk_frozen BK248.out 1; have hfz11_2 := blk_frozen BK248.out 2; have hfz11_3 := blk_frozen BK248.out 3; have hfz11_4 := blk_frozen BK248.out 4) | (go_at_call 26; (with_reducible refine (catchwordref05_Texts.calls k _ _ l0_0 _ _ l1_0 t249 _ ?side1 ?side2 ?side3 ?side4 A3.out).mono ?_); (case side1 => repeat (first | exact (Kd.C_below HR0_0.out HB.out) | (with_reducible refine Kd.C_alloc ?_ _) | (with_reducible refine Kd.C_drewN ?_ _) | (with_reducible refine Kd.C_drew ?_))); (case side2 => exact HC0_0.out); (case side3 => repeat (first | exact (Kd.C_below HR1_0.out HB.out) | (with_reducible refine Kd.C_alloc ?_ _) | (with_reducible refine Kd.C_drewN ?_ _) | (with_reducible refine Kd.C_drew ?_))); (case side4 => exact HC1_0.out); rintro e w' ⟨rfl, ⟨nd, rfl⟩⟩; (try first | exact ⟨rfl, _, World.drewN_drewN _ _ _⟩ | exact ⟨rfl, _, Eq.trans (World.drewN_drewN _ _ _) (congrArg (World.drewN _) (Nat.add_assoc _ _ _))⟩)) | (go_at_call 27; (with_reducible refine (catchwordref01_Ints.calls k _ _ l0_1 _ _ l1_1 t250 _ ?side1 ?side2 ?side3 ?side4 A4.out).mono ?_); (case side1 => repeat (first | exact (Kd.C_below HR0_1.out (by repeat (first | (with_reducible first | exact HB.out | apply below_alloc | apply pw_below_drewN | apply below_drew1 | refine below_set ?_ GE247.out | refine below_set ?_ GE248.out) | exact HB.out))) | (with_reducible refine Kd.C_alloc ?_ _) | (with_reducible refine Kd.C_drewN ?_ _) | (with_reducible refine Kd.C_drew ?_))); (case side2 => exact HC0_1.out); (case side3 => repeat (first | exact (Kd.C_below HR1_1.out (by repeat (first | (with_reducible first | exact HB.out | apply below_alloc | apply pw_below_drewN | apply below_drew1 | refine below_set ?_ GE247.out | refine below_set ?_ GE248.out) | exact HB.out))) | (with_reducible refine Kd.C_alloc ?_ _) | (with_reducible refine Kd.C_drewN ?_ _) | (with_reducible refine Kd.C_drew ?_))); (case side4 => exact HC1_1.out); rintro e w' ⟨rfl, ⟨nd, rfl⟩⟩; (try first | exact ⟨rfl, _, World.drewN_drewN _ _ _⟩ | exact ⟨rfl, _, Eq.trans (World.drewN_drewN _ _ _) (congrArg (World.drewN _) (Nat.add_assoc _ _ _))⟩)) | (go_at_call 27; (with_reducible refine (catchwordref01_Ints.calls k _ _ l0_2 _ _ l1_2 t251 _ ?side1 ?side2 ?side3 ?side4 A5.out).mono ?_); (case side1 => repeat (first | exact (Kd.C_below HR0_2.out (by repeat (first | (with_reducible first | exact HB.out | apply below_alloc | apply pw_below_drewN | apply below_drew1 | refine below_set ?_ GE247.out | refine below_set ?_ GE248.out) | exact HB.out))) | (with_reducible refine Kd.C_alloc ?_ _) | (with_reducible refine Kd.C_drewN ?_ _) | (with_reducible refine Kd.C_drew ?_))); (case side2 => exact HC0_2.out); (case side3 => repeat (first | exact (Kd.C_below HR1_2.out (by repeat (first | (with_reducible first | exact HB.out | apply below_alloc | apply pw_below_drewN | apply below_drew1 | refine below_set ?_ GE247.out | refine below_set ?_ GE248.out) | exact HB.out))) | (with_reducible refine Kd.C_alloc ?_ _) | (with_reducible refine Kd.C_drewN ?_ _) | (with_reducible refine Kd.C_drew ?_))); (case side4 => exact HC1_2.out); rintro e w' ⟨rfl, ⟨nd, rfl⟩⟩; (try first | exact ⟨rfl, _, World.drewN_drewN _ _ _⟩ | exact ⟨rfl, _, Eq.trans (World.drewN_drewN _ _ _) (congrArg (World.drewN _) (Nat.add_assoc _ _ _))⟩)))
 repeat (go_quiet (first | ((with_reducible refine gate_dst (N := 2) rfl ?_); (try (refine gate_guard (by rfl) ?_; dsimp only)); refine box_event ?hg (N := 2) ?hd (cs := #[.slice A0_0 l0_0.length c0_0, .slice A0_1 l0_1.length c0_1, .slice A0_2 l0_2.length c0_2, .slice A0_3 l0_3.length c0_3, .bool a0_4]) (t := 26) ?hr ?_; (case hd => rfl); (case hg => rfl); (case hr => first | (go_simp; done) | (go_simp; rfl)); intro gb247 hg w7 hbox hb; have n0_ := Aside0.mk (below_step (by repeat (first | (with_reducible first | exact HB.out | apply below_alloc | apply pw_below_drewN | apply below_drew1) | exact HB.out)) hb); have n1_ := Aside0.mk (hbox); have n2_ := Aside0.mk ((by rw [hg]; exact (below_size (by repeat (first | (with_reducible first | exact HB.out | apply below_alloc | apply pw_below_drewN | apply below_drew1) | exact HB.out))) : w.heap.size ≤ gb247)); have n3_ := Aside0.mk ((by rw [hg]; exact (below_size (by repeat (first | (with_reducible first | exact HB.out | apply below_alloc | apply pw_below_drewN | apply below_drew1) | exact HB.out))) : w.heap.size ≤ gb247)); clear HB; have HB := n0_; have BK247 := n1_; have GW247 := n2_; have GE247 := n3_; clear n0_ n1_ n2_ n3_; clear hb hbox hg) | ((with_reducible refine gate_dst (N := 3) rfl ?_); (try (refine gate_guard (by rfl) ?_; dsimp only)); refine box_event ?hg (N := 3) ?hd (cs := #[.slice A1_0 l1_0.length c1_0, .slice A1_1 l1_1.length c1_1, .slice A1_2 l1_2.length c1_2, .slice A1_3 l1_3.length c1_3, .bool a1_4]) (t := 26) ?hr ?_; (case hd => rfl); (case hg => rfl); (case hr => first | (go_simp; done) | (go_simp; rfl)); intro gb248 hg w8 hbox hb; have n0_ := Aside0.mk (blk_below (g := gb247) (o := .cells #[.slice A0_0 l0_0.length c0_0, .slice A0_1 l0_1.length c0_1, .slice A0_2 l0_2.length c0_2, .slice A0_3 l0_3.length c0_3, .bool a0_4] 26 (0, 0)) (by (with_reducible repeat (first | refine blk_drewN ?_ _ | refine blk_drew ?_ | refine blk_alloc ?_ _)); exact BK247.out) hb); have n1_ := Aside0.mk (below_step (by repeat (first | (with_reducible first | exact HB.out | apply below_alloc | apply pw_below_drewN | apply below_drew1 | refine below_set ?_ GE247.out) | exact HB.out)) hb); have n2_ := Aside0.mk (hbox); have n3_ := Aside0.mk ((by rw [hg]; exact (below_size (by repeat (first | (with_reducible first | exact HB.out | apply below_alloc | apply pw_below_drewN | apply below_drew1 | refine below_set ?_ GE247.out) | exact HB.out))) : w.heap.size ≤ gb248)); have n4_ := Aside0.mk ((by rw [hg]; exact (below_size (by repeat (first | (with_reducible first | exact HB.out | apply below_alloc | apply pw_below_drewN | apply below_drew1 | refine below_set ?_ GE247.out) | exact HB.out))) : w.heap.size ≤ gb248)); have n5_ := Aside0.mk ((by rw [hg]; exact Nat.ne_of_lt (blk_lt (g := gb247) (o := .cells #[.slice A0_0 l0_0.length c0_0, .slice A0_1 l0_1.length c0_1, .slice A0_2 l0_2.length c0_2, .slice A0_3 l0_3.length c0_3, .bool a0_4] 26 (0, 0)) (by (with_reducible repeat (first | refine blk_drewN ?_ _ | refine blk_drew ?_ | refine blk_alloc ?_ _)); exact BK247.out)) : gb247 ≠ gb248)); have n6_ := Aside0.mk ((by rw [hg]; exact Nat.ne_of_gt (blk_lt (g := gb247) (o := .cells #[.slice A0_0 l0_0.length c0_0, .slice A0_1 l0_1.length c0_1, .slice A0_2 l0_2.length c0_2, .slice A0_3 l0_3.length c0_3, .bool a0_4] 26 (0, 0)) (by (with_reducible repeat (first | refine blk_drewN ?_ _ | refine blk_drew ?_ | refine blk_alloc ?_ _)); exact BK247.out)) : gb248 ≠ gb247)); clear BK247; clear HB; have BK247 := n0_; have HB := n1_; have BK248 := n2_; have GW248 := n3_; have GE248 := n4_; have NB247_248 := n5_; have NB248_247 := n6_; clear n0_ n1_ n2_ n3_ n4_ n5_ n6_; clear hb hbox hg; have hnb9 := NB247_248.out; have hnc9 := NB248_247.out; have hcz10_0 : w8.cell? ⟨gb247, 0, none⟩ = some (.slice A0_0 l0_0.length c0_0) := (blk_cell BK247.out 0).trans rfl; have hcz10_1 : w8.cell? ⟨gb247, 1, none⟩ = some (.slice A0_1 l0_1.length c0_1) := (blk_cell BK247.out 1).trans rfl; have hcz10_2 : w8.cell? ⟨gb247, 2, none⟩ = some (.slice A0_2 l0_2.length c0_2) := (blk_cell BK247.out 2).trans rfl; have hcz10_3 : w8.cell? ⟨gb247, 3, none⟩ = some (.slice A0_3 l0_3.length c0_3) := (blk_cell BK247.out 3).trans rfl; have hcz10_4 : w8.cell? ⟨gb247, 4, none⟩ = some (.bool a0_4) := (blk_cell BK247.out 4).trans rfl; have hfz10_0 := blk_frozen BK247.out 0; have hfz10_1 := blk_frozen BK247.out 1; have hfz10_2 := blk_frozen BK247.out 2; have hfz10_3 := blk_frozen BK247.out 3; have hfz10_4 := blk_frozen BK247.out 4; have hcz11_0 : w8.cell? ⟨gb248, 0, none⟩ = some (.slice A1_0 l1_0.length c1_0) := (blk_cell BK248.out 0).trans rfl; have hcz11_1 : w8.cell? ⟨gb248, 1, none⟩ = some (.slice A1_1 l1_1.length c1_1) := (blk_cell BK248.out 1).trans rfl; have hcz11_2 : w8.cell? ⟨gb248, 2, none⟩ = some (.slice A1_2 l1_2.length c1_2) := (blk_cell BK248.out 2).trans rfl; have hcz11_3 : w8.cell? ⟨gb248, 3, none⟩ = some (.slice A1_3 l1_3.length c1_3) := (blk_cell BK248.out 3).trans rfl; have hcz11_4 : w8.cell? ⟨gb248, 4, none⟩ = some (.bool a1_4) := (blk_cell BK248.out 4).trans rfl; have hfz11_0 := blk_frozen BK248.out 0; have hfz11_1 := blk_frozen BK248.out 1; have hfz11_2 := blk_frozen BK248.out 2; have hfz11_3 := blk_frozen BK248.out 3; have hfz11_4 := blk_frozen BK248.out 4) | (go_at_call 26; (with_reducible refine (catchwordref05_Texts.calls k _ _ l0_0 _ _ l1_0 t249 _ ?side1 ?side2 ?side3 ?side4 A3.out).mono ?_); (case side1 => repeat (first | exact (Kd.C_below HR0_0.out HB.out) | (with_reducible refine Kd.C_alloc ?_ _) | (with_reducible refine Kd.C_drewN ?_ _) | (with_reducible refine Kd.C_drew ?_))); (case side2 => exact HC0_0.out); (case side3 => repeat (first | exact (Kd.C_below HR1_0.out HB.out) | (with_reducible refine Kd.C_alloc ?_ _) | (with_reducible refine Kd.C_drewN ?_ _) | (with_reducible refine Kd.C_drew ?_))); (case side4 => exact HC1_0.out); rintro e w' ⟨rfl, ⟨nd, rfl⟩⟩; (try first | exact ⟨rfl, _, World.drewN_drewN _ _ _⟩ | exact ⟨rfl, _, Eq.trans (World.drewN_drewN _ _ _) (congrArg (World.drewN _) (Nat.add_assoc _ _ _))⟩)) | (go_at_call 27; (with_reducible refine (catchwordref01_Ints.calls k _ _ l0_1 _ _ l1_1 t250 _ ?side1 ?side2 ?side3 ?side4 A4.out).mono ?_); (case side1 => repeat (first | exact (Kd.C_below HR0_1.out (by repeat (first | (with_reducible first | exact HB.out | apply below_alloc | apply pw_below_drewN | apply below_drew1 | refine below_set ?_ GE247.out | refine below_set ?_ GE248.out) | exact HB.out))) | (with_reducible refine Kd.C_alloc ?_ _) | (with_reducible refine Kd.C_drewN ?_ _) | (with_reducible refine Kd.C_drew ?_))); (case side2 => exact HC0_1.out); (case side3 => repeat (first | exact (Kd.C_below HR1_1.out (by repeat (first | (with_reducible first | exact HB.out | apply below_alloc | apply pw_below_drewN | apply below_drew1 | refine below_set ?_ GE247.out | refine below_set ?_ GE248.out) | exact HB.out))) | (with_reducible refine Kd.C_alloc ?_ _) | (with_reducible refine Kd.C_drewN ?_ _) | (with_reducible refine Kd.C_drew ?_))); (case side4 => exact HC1_1.out); rintro e w' ⟨rfl, ⟨nd, rfl⟩⟩; (try first | exact ⟨rfl, _, World.drewN_drewN _ _ _⟩ | exact ⟨rfl, _, Eq.trans (World.drewN_drewN _ _ _) (congrArg (World.drewN _) (Nat.add_assoc _ _ _))⟩)) | (go_at_call 27; (with_reducible refine (catchwordref01_Ints.calls k _ _ l0_2 _ _ l1_2 t251 _ ?side1 ?side2 ?side3 ?side4 A5.out).mono ?_); (case side1 => repeat (first | exact (Kd.C_below HR0_2.out (by repeat (first | (with_reducible first | exact HB.out | apply below_alloc | apply pw_below_drewN | apply below_drew1 | refine below_set ?_ GE247.out | refine below_set ?_ GE248.out) | exact HB.out))) | (with_reducible refine Kd.C_alloc ?_ _) | (with_reducible refine Kd.C_drewN ?_ _) | (with_reducible refine Kd.C_drew ?_))); (case side2 => exact HC0_2.out); (case side3 => repeat (first | exact (Kd.C_below HR1_2.out (by repeat (first | (with_reducible first | exact HB.out | apply below_alloc | apply pw_below_drewN | apply below_drew1 | refine below_set ?_ GE247.out | refine below_set ?_ GE248.out) | exact HB.out))) | (with_reducible refine Kd.C_alloc ?_ _) | (with_reducible refine Kd.C_drewN ?_ _) | (with_reducible refine Kd.C_drew ?_))); (case side4 => exact HC1_2.out); rintro e w' ⟨rfl, ⟨nd, rfl⟩⟩; (try first | exact ⟨rfl, _, World.drewN_drewN _ _ _⟩ | exact ⟨rfl, _, Eq.trans (World.drewN_drewN _ _ _) (congrArg (World.drewN _) (Nat.add_assoc _ _ _))⟩))); go_upto_region 4 with (first | ((with_reducible refine gate_dst (N := 2) rfl ?_); (try (refine gate_guard (by rfl) ?_; dsimp only)); refine box_event ?hg (N := 2) ?hd (cs := #[.slice A0_0 l0_0.length c0_0, .slice A0_1 l0_1.length c0_1, .slice A0_2 l0_2.length c0_2, .slice A0_3 l0_3.length c0_3, .bool a0_4]) (t := 26) ?hr ?_; (case hd => rfl); (case hg => rfl); (case hr => first | (go_simp; done) | (go_simp; rfl)); intro gb247 hg w7 hbox hb; have n0_ := Aside0.mk (below_step (by repeat (first | (with_reducible first | exact HB.out | apply below_alloc | apply pw_below_drewN | apply below_drew1) | exact HB.out)) hb); have n1_ := Aside0.mk (hbox); have n2_ := Aside0.mk ((by rw [hg]; exact (below_size (by repeat (first | (with_reducible first | exact HB.out | apply below_alloc | apply pw_below_drewN | apply below_drew1) | exact HB.out))) : w.heap.size ≤ gb247)); have n3_ := Aside0.mk ((by rw [hg]; exact (below_size (by repeat (first | (with_reducible first | exact HB.out | apply below_alloc | apply pw_below_drewN | apply below_drew1) | exact HB.out))) : w.heap.size ≤ gb247)); clear HB; have HB := n0_; have BK247 := n1_; have GW247 := n2_; have GE247 := n3_; clear n0_ n1_ n2_ n3_; clear hb hbox hg) | ((with_reducible refine gate_dst (N := 3) rfl ?_); (try (refine gate_guard (by rfl) ?_; dsimp only)); refine box_event ?hg (N := 3) ?hd (cs := #[.slice A1_0 l1_0.length c1_0, .slice A1_1 l1_1.length c1_1, .slice A1_2 l1_2.length c1_2, .slice A1_3 l1_3.length c1_3, .bool a1_4]) (t := 26) ?hr ?_; (case hd => rfl); (case hg => rfl); (case hr => first | (go_simp; done) | (go_simp; rfl)); intro gb248 hg w8 hbox hb; have n0_ := Aside0.mk (blk_below (g := gb247) (o := .cells #[.slice A0_0 l0_0.length c0_0, .slice A0_1 l0_1.length c0_1, .slice A0_2 l0_2.length c0_2, .slice A0_3 l0_3.length c0_3, .bool a0_4] 26 (0, 0)) (by (with_reducible repeat (first | refine blk_drewN ?_ _ | refine blk_drew ?_ | refine blk_alloc ?_ _)); exact BK247.out) hb); have n1_ := Aside0.mk (below_step (by repeat (first | (with_reducible first | exact HB.out | apply below_alloc | apply pw_below_drewN | apply below_drew1 | refine below_set ?_ GE247.out) | exact HB.out)) hb); have n2_ := Aside0.mk (hbox); have n3_ := Aside0.mk ((by rw [hg]; exact (below_size (by repeat (first | (with_reducible first | exact HB.out | apply below_alloc | apply pw_below_drewN | apply below_drew1 | refine below_set ?_ GE247.out) | exact HB.out))) : w.heap.size ≤ gb248)); have n4_ := Aside0.mk ((by rw [hg]; exact (below_size (by repeat (first | (with_reducible first | exact HB.out | apply below_alloc | apply pw_below_drewN | apply below_drew1 | refine below_set ?_ GE247.out) | exact HB.out))) : w.heap.size ≤ gb248)); have n5_ := Aside0.mk ((by rw [hg]; exact Nat.ne_of_lt (blk_lt (g := gb247) (o := .cells #[.slice A0_0 l0_0.length c0_0, .slice A0_1 l0_1.length c0_1, .slice A0_2 l0_2.length c0_2, .slice A0_3 l0_3.length c0_3, .bool a0_4] 26 (0, 0)) (by (with_reducible repeat (first | refine blk_drewN ?_ _ | refine blk_drew ?_ | refine blk_alloc ?_ _)); exact BK247.out)) : gb247 ≠ gb248)); have n6_ := Aside0.mk ((by rw [hg]; exact Nat.ne_of_gt (blk_lt (g := gb247) (o := .cells #[.slice A0_0 l0_0.length c0_0, .slice A0_1 l0_1.length c0_1, .slice A0_2 l0_2.length c0_2, .slice A0_3 l0_3.length c0_3, .bool a0_4] 26 (0, 0)) (by (with_reducible repeat (first | refine blk_drewN ?_ _ | refine blk_drew ?_ | refine blk_alloc ?_ _)); exact BK247.out)) : gb248 ≠ gb247)); clear BK247; clear HB; have BK247 := n0_; have HB := n1_; have BK248 := n2_; have GW248 := n3_; have GE248 := n4_; have NB247_248 := n5_; have NB248_247 := n6_; clear n0_ n1_ n2_ n3_ n4_ n5_ n6_; clear hb hbox hg; have hnb9 := NB247_248.out; have hnc9 := NB248_247.out; have hcz10_0 : w8.cell? ⟨gb247, 0, none⟩ = some (.slice A0_0 l0_0.length c0_0) := (blk_cell BK247.out 0).trans rfl; have hcz10_1 : w8.cell? ⟨gb247, 1, none⟩ = some (.slice A0_1 l0_1.length c0_1) := (blk_cell BK247.out 1).trans rfl; have hcz10_2 : w8.cell? ⟨gb247, 2, none⟩ = some (.slice A0_2 l0_2.length c0_2) := (blk_cell BK247.out 2).trans rfl; have hcz10_3 : w8.cell? ⟨gb247, 3, none⟩ = some (.slice A0_3 l0_3.length c0_3) := (blk_cell BK247.out 3).trans rfl; have hcz10_4 : w8.cell? ⟨gb247, 4, none⟩ = some (.bool a0_4) := (blk_cell BK247.out 4).trans rfl; have hfz10_0 := blk_frozen BK247.out 0; have hfz10_1 := blk_frozen BK247.out 1; have hfz10_2 := blk_frozen BK247.out 2; have hfz10_3 := blk_frozen BK247.out 3; have hfz10_4 := blk_frozen BK247.out 4; have hcz11_0 : w8.cell? ⟨gb248, 0, none⟩ = some (.slice A1_0 l1_0.length c1_0) := (blk_cell BK248.out 0).trans rfl; have hcz11_1 : w8.cell? ⟨gb248, 1, none⟩ = some (.slice A1_1 l1_1.length c1_1) := (blk_cell BK248.out 1).trans rfl; have hcz11_2 : w8.cell? ⟨gb248, 2, none⟩ = some (.slice A1_2 l1_2.length c1_2) := (blk_cell BK248.out 2).trans rfl; have hcz11_3 : w8.cell? ⟨gb248, 3, none⟩ = some (.slice A1_3 l1_3.length c1_3) := (blk_cell BK248.out 3).trans rfl; have hcz11_4 : w8.cell? ⟨gb248, 4, none⟩ = some (.bool a1_4) := (blk_cell BK248.out 4).trans rfl; have hfz11_0 := blk_frozen BK248.out 0; have hfz11_1 := blk_frozen BK248.out 1; have hfz11_2 := blk_frozen BK248.out 2; have hfz11_3 := blk_frozen BK248.out 3; have hfz11_4 := blk_frozen BK248.out 4) | (go_at_call 26; (with_reducible refine (catchwordref05_Texts.calls k _ _ l0_0 _ _ l1_0 t249 _ ?side1 ?side2 ?side3 ?side4 A3.out).mono ?_); (case side1 => repeat (first | exact (Kd.C_below HR0_0.out HB.out) | (with_reducible refine Kd.C_alloc ?_ _) | (with_reducible refine Kd.C_drewN ?_ _) | (with_reducible refine Kd.C_drew ?_))); (case side2 => exact HC0_0.out); (case side3 => repeat (first | exact (Kd.C_below HR1_0.out HB.out) | (with_reducible refine Kd.C_alloc ?_ _) | (with_reducible refine Kd.C_drewN ?_ _) | (with_reducible refine Kd.C_drew ?_))); (case side4 => exact HC1_0.out); rintro e w' ⟨rfl, ⟨nd, rfl⟩⟩; (try first | exact ⟨rfl, _, World.drewN_drewN _ _ _⟩ | exact ⟨rfl, _, Eq.trans (World.drewN_drewN _ _ _) (congrArg (World.drewN _) (Nat.add_assoc _ _ _))⟩)) | (go_at_call 27; (with_reducible refine (catchwordref01_Ints.calls k _ _ l0_1 _ _ l1_1 t250 _ ?side1 ?side2 ?side3 ?side4 A4.out).mono ?_); (case side1 => repeat (first | exact (Kd.C_below HR0_1.out (by repeat (first | (with_reducible first | exact HB.out | apply below_alloc | apply pw_below_drewN | apply below_drew1 | refine below_set ?_ GE247.out | refine below_set ?_ GE248.out) | exact HB.out))) | (with_reducible refine Kd.C_alloc ?_ _) | (with_reducible refine Kd.C_drewN ?_ _) | (with_reducible refine Kd.C_drew ?_))); (case side2 => exact HC0_1.out); (case side3 => repeat (first | exact (Kd.C_below HR1_1.out (by repeat (first | (with_reducible first | exact HB.out | apply below_alloc | apply pw_below_drewN | apply below_drew1 | refine below_set ?_ GE247.out | refine below_set ?_ GE248.out) | exact HB.out))) | (with_reducible refine Kd.C_alloc ?_ _) | (with_reducible refine Kd.C_drewN ?_ _) | (with_reducible refine Kd.C_drew ?_))); (case side4 => exact HC1_1.out); rintro e w' ⟨rfl, ⟨nd, rfl⟩⟩; (try first | exact ⟨rfl, _, World.drewN_drewN _ _ _⟩ | exact ⟨rfl, _, Eq.trans (World.drewN_drewN _ _ _) (congrArg (World.drewN _) (Nat.add_assoc _ _ _))⟩)) | (go_at_call 27; (with_reducible refine (catchwordref01_Ints.calls k _ _ l0_2 _ _ l1_2 t251 _ ?side1 ?side2 ?side3 ?side4 A5.out).mono ?_); (case side1 => repeat (first | exact (Kd.C_below HR0_2.out (by repeat (first | (with_reducible first | exact HB.out | apply below_alloc | apply pw_below_drewN | apply below_drew1 | refine below_set ?_ GE247.out | refine below_set ?_ GE248.out) | exact HB.out))) | (with_reducible refine Kd.C_alloc ?_ _) | (with_reducible refine Kd.C_drewN ?_ _) | (with_reducible refine Kd.C_drew ?_))); (case side2 => exact HC0_2.out); (case side3 => repeat (first | exact (Kd.C_below HR1_2.out (by repeat (first | (with_reducible first | exact HB.out | apply below_alloc | apply pw_below_drewN | apply below_drew1 | refine below_set ?_ GE247.out | refine below_set ?_ GE248.out) | exact HB.out))) | (with_reducible refine Kd.C_alloc ?_ _) | (with_reducible refine Kd.C_drewN ?_ _) | (with_reducible refine Kd.C_drew ?_))); (case side4 => exact HC1_2.out); rintro e w' ⟨rfl, ⟨nd, rfl⟩⟩; (try first | exact ⟨rfl, _, World.drewN_drewN _ _ _⟩ | exact ⟨rfl, _, Eq.trans (World.drewN_drewN _ _ _) (congrArg (World.drewN _) (Nat.add_assoc _ _ _))⟩))))
 (try simp only [Act.put, List.setIfInBounds_toArray, List.set_cons_zero, List.set_cons_succ])
 go_cut [50] (fun v50 wc => ∃ (kq : Nat) (x50_5 : Bool), v50 = .bool x50_5 ∧ Aside0 (catchwordref08_Same.j0 kq x50_5 l0_0 l0_1 l0_2 l0_3 a0_4 l1_0 l1_1 l1_2 l1_3 a1_4 = some r) ∧ Aside0 (kq ≤ k) ∧ Aside0 (wc.heap[gb247]? = some (.cells #[(.slice A0_0 l0_0.length c0_0), (.slice A0_1 l0_1.length c0_1), (.slice A0_2 l0_2.length c0_2), (.slice A0_3 l0_3.length c0_3), .bool a0_4] 26 (0, 0))) ∧ Aside0 (wc.heap[gb248]? = some (.cells #[(.slice A1_0 l1_0.length c1_0), (.slice A1_1 l1_1.length c1_1), (.slice A1_2 l1_2.length c1_2), (.slice A1_3 l1_3.length c1_3), .bool a1_4] 26 (0, 0))) ∧ Aside0 (Below w.heap.size w wc))
 case first =>
  have H := HC6.out
  clear HC6
  by_cases c12 : t249 = true
  ·
   subst c12
   have H1 : (if t250 = true then (if t251 = true then (if (a0_4 != a1_4) = true then (catchwordref08_Same.j0 k true l0_0 l0_1 l0_2 l0_3 a0_4 l1_0 l1_1 l1_2 l1_3 a1_4) else (catchwordref08_Same.j0 k ((l0_3.length : Int) != (l1_3.length : Int)) l0_0 l0_1 l0_2 l0_3 a0_4 l1_0 l1_1 l1_2 l1_3 a1_4)) else (catchwordref08_Same.j0 k true l0_0 l0_1 l0_2 l0_3 a0_4 l1_0 l1_1 l1_2 l1_3 a1_4)) else (catchwordref08_Same.j0 k true l0_0 l0_1 l0_2 l0_3 a0_4 l1_0 l1_1 l1_2 l1_3 a1_4)) = some r := by rw [if_pos rfl] at H; exact H
   clear H
   have H := H1
   clear H1
   by_cases c13 : t250 = true
   ·
    subst c13
    have H1 : (if t251 = true then (if (a0_4 != a1_4) = true then (catchwordref08_Same.j0 k true l0_0 l0_1 l0_2 l0_3 a0_4 l1_0 l1_1 l1_2 l1_3 a1_4) else (catchwordref08_Same.j0 k ((l0_3.length : Int) != (l1_3.length : Int)) l0_0 l0_1 l0_2 l0_3 a0_4 l1_0 l1_1 l1_2 l1_3 a1_4)) else (catchwordref08_Same.j0 k true l0_0 l0_1 l0_2 l0_3 a0_4 l1_0 l1_1 l1_2 l1_3 a1_4)) = some r := by rw [if_pos rfl] at H; exact H
    clear H
    have H := H1
    clear H1
    by_cases c14 : t251 = true
    ·
     subst c14
     have H1 : (if (a0_4 != a1_4) = true then (catchwordref08_Same.j0 k true l0_0 l0_1 l0_2 l0_3 a0_4 l1_0 l1_1 l1_2 l1_3 a1_4) else (catchwordref08_Same.j0 k ((l0_3.length : Int) != (l1_3.length : Int)) l0_0 l0_1 l0_2 l0_3 a0_4 l1_0 l1_1 l1_2 l1_3 a1_4)) = some r := by rw [if_pos rfl] at H; exact H
     clear H
     have H := H1
     clear H1
     by_cases c15 : (a0_4 != a1_4) = true
     ·
      rw [if_pos c15] at H
      have c15b0 : (a0_4 != a1_4) = true := c15
      (try (have c15b1 : decide (a0_4 = a1_4) = false := by simpa using c15))
      (try (have c15b2 : (a0_4 == a1_4) = false := by simpa using c15))
      (try (have c15b3 : ¬ (a0_4 = a1_4) := by simpa using c15))
      clear c15
      (first | rw [c15b0] | (simp only [i64_w, i32_w]; rw [c15b0]) | skip)
      have H' := Aside0.mk H
      clear H
      have hnb16 := NB247_248.out
      have hnc16 := NB248_247.out
      have hcz17_0 : w8.cell? ⟨gb247, 0, none⟩ = some (.slice A0_0 l0_0.length c0_0) := (blk_cell BK247.out 0).trans rfl
      have hcz17_1 : w8.cell? ⟨gb247, 1, none⟩ = some (.slice A0_1 l0_1.length c0_1) := (blk_cell BK247.out 1).trans rfl
      have hcz17_2 : w8.cell? ⟨gb247, 2, none⟩ = some (.slice A0_2 l0_2.length c0_2) := (blk_cell BK247.out 2).trans rfl
      have hcz17_3 : w8.cell? ⟨gb247, 3, none⟩ = some (.slice A0_3 l0_3.length c0_3) := (blk_cell BK247.out 3).trans rfl
      have hcz17_4 : w8.cell? ⟨gb247, 4, none⟩ = some (.bool a0_4) := (blk_cell BK247.out 4).trans rfl
      have hfz17_0 := blk_frozen BK247.out 0
      have hfz17_1 := blk_frozen BK247.out 1
      have hfz17_2 := blk_frozen BK247.out 2
      have hfz17_3 := blk_frozen BK247.out 3
      have hfz17_4 := blk_frozen BK247.out 4
      have hcz18_0 : w8.cell? ⟨gb248, 0, none⟩ = some (.slice A1_0 l1_0.length c1_0) := (blk_cell BK248.out 0).trans rfl
      have hcz18_1 : w8.cell? ⟨gb248, 1, none⟩ = some (.slice A1_1 l1_1.length c1_1) := (blk_cell BK248.out 1).trans rfl
      have hcz18_2 : w8.cell? ⟨gb248, 2, none⟩ = some (.slice A1_2 l1_2.length c1_2) := (blk_cell BK248.out 2).trans rfl
      have hcz18_3 : w8.cell? ⟨gb248, 3, none⟩ = some (.slice A1_3 l1_3.length c1_3) := (blk_cell BK248.out 3).trans rfl
      have hcz18_4 : w8.cell? ⟨gb248, 4, none⟩ = some (.bool a1_4) := (blk_cell BK248.out 4).trans rfl
      have hfz18_0 := blk_frozen BK248.out 0
      have hfz18_1 := blk_frozen BK248.out 1
      have hfz18_2 := blk_frozen BK248.out 2
      have hfz18_3 := blk_frozen BK248.out 3
      have hfz18_4 := blk_frozen BK248.out 4
      go_wp2
      repeat (go_quiet (fail); try go_wp2)
      go_meet
      case rel => exact ⟨_, (true), (by first | rfl | (simp; done) | (simp [*]; done)), H', ⟨by first | omega | exact Nat.le_refl _⟩, ⟨by (with_reducible repeat (first | refine blk_drewN ?_ _ | refine blk_drew ?_ | refine blk_alloc ?_ _)); exact BK247.out⟩, ⟨by (with_reducible repeat (first | refine blk_drewN ?_ _ | refine blk_drew ?_ | refine blk_alloc ?_ _)); exact BK248.out⟩, ⟨by repeat (first | (with_reducible first | exact HB.out | apply below_alloc | apply pw_below_drewN | apply below_drew1 | refine below_set ?_ GE247.out | refine below_set ?_ GE248.out) | exact HB.out)⟩⟩
     ·
      rw [if_neg c15] at H
      have c15b0 : (a0_4 != a1_4) = false := by simpa using c15
      (try (have c15b1 : decide (a0_4 = a1_4) = true := by simpa using c15))
      (try (have c15b2 : (a0_4 == a1_4) = true := by simpa using c15))
      clear c15
      (first | rw [c15b0] | (simp only [i64_w, i32_w]; rw [c15b0]) | skip)
      have H' := Aside0.mk H
      clear H
      have hnb19 := NB247_248.out
      have hnc19 := NB248_247.out
      have hcz20_0 : w8.cell? ⟨gb247, 0, none⟩ = some (.slice A0_0 l0_0.length c0_0) := (blk_cell BK247.out 0).trans rfl
      have hcz20_1 : w8.cell? ⟨gb247, 1, none⟩ = some (.slice A0_1 l0_1.length c0_1) := (blk_cell BK247.out 1).trans rfl
      have hcz20_2 : w8.cell? ⟨gb247, 2, none⟩ = some (.slice A0_2 l0_2.length c0_2) := (blk_cell BK247.out 2).trans rfl
      have hcz20_3 : w8.cell? ⟨gb247, 3, none⟩ = some (.slice A0_3 l0_3.length c0_3) := (blk_cell BK247.out 3).trans rfl
      have hcz20_4 : w8.cell? ⟨gb247, 4, none⟩ = some (.bool a0_4) := (blk_cell BK247.out 4).trans rfl
      have hfz20_0 := blk_frozen BK247.out 0
      have hfz20_1 := blk_frozen BK247.out 1
      have hfz20_2 := blk_frozen BK247.out 2
      have hfz20_3 := blk_frozen BK247.out 3
      have hfz20_4 := blk_frozen BK247.out 4
      have hcz21_0 : w8.cell? ⟨gb248, 0, none⟩ = some (.slice A1_0 l1_0.length c1_0) := (blk_cell BK248.out 0).trans rfl
      have hcz21_1 : w8.cell? ⟨gb248, 1, none⟩ = some (.slice A1_1 l1_1.length c1_1) := (blk_cell BK248.out 1).trans rfl
      have hcz21_2 : w8.cell? ⟨gb248, 2, none⟩ = some (.slice A1_2 l1_2.length c1_2) := (blk_cell BK248.out 2).trans rfl
      have hcz21_3 : w8.cell? ⟨gb248, 3, none⟩ = some (.slice A1_3 l1_3.length c1_3) := (blk_cell BK248.out 3).trans rfl
      have hcz21_4 : w8.cell? ⟨gb248, 4, none⟩ = some (.bool a1_4) := (blk_cell BK248.out 4).trans rfl
      have hfz21_0 := blk_frozen BK248.out 0
      have hfz21_1 := blk_frozen BK248.out 1
      have hfz21_2 := blk_frozen BK248.out 2
      have hfz21_3 := blk_frozen BK248.out 3
      have hfz21_4 := blk_frozen BK248.out 4
      go_wp2
      repeat (go_quiet (fail); try go_wp2)
      go_meet
      case rel => exact ⟨_, (((l0_3.length : Int) != (l1_3.length : Int))), (by first | rfl | (simp; done) | (simp [*]; done)), H', ⟨by first | omega | exact Nat.le_refl _⟩, ⟨by (with_reducible repeat (first | refine blk_drewN ?_ _ | refine blk_drew ?_ | refine blk_alloc ?_ _)); exact BK247.out⟩, ⟨by (with_reducible repeat (first | refine blk_drewN ?_ _ | refine blk_drew ?_ | refine blk_alloc ?_ _)); exact BK248.out⟩, ⟨by repeat (first | (with_reducible first | exact HB.out | apply below_alloc | apply pw_below_drewN | apply below_drew1 | refine below_set ?_ GE247.out | refine below_set ?_ GE248.out) | exact HB.out)⟩⟩
    ·
     replace c14 := Bool.eq_false_iff.mpr c14
     subst c14
     have H1 : (catchwordref08_Same.j0 k true l0_0 l0_1 l0_2 l0_3 a0_4 l1_0 l1_1 l1_2 l1_3 a1_4) = some r := by rw [if_neg (show ¬ (false = true) by decide)] at H; exact H
     clear H
     have H := H1
     clear H1
     have H' := Aside0.mk H
     clear H
     go_wp2
     repeat (go_quiet (fail); try go_wp2)
     go_meet
     case rel => exact ⟨_, (true), (by first | rfl | (simp; done) | (simp [*]; done)), H', ⟨by first | omega | exact Nat.le_refl _⟩, ⟨by (with_reducible repeat (first | refine blk_drewN ?_ _ | refine blk_drew ?_ | refine blk_alloc ?_ _)); exact BK247.out⟩, ⟨by (with_reducible repeat (first | refine blk_drewN ?_ _ | refine blk_drew ?_ | refine blk_alloc ?_ _)); exact BK248.out⟩, ⟨by repeat (first | (with_reducible first | exact HB.out | apply below_alloc | apply pw_below_drewN | apply below_drew1 | refine below_set ?_ GE247.out | refine below_set ?_ GE248.out) | exact HB.out)⟩⟩
   ·
    replace c13 := Bool.eq_false_iff.mpr c13
    subst c13
    have H1 : (catchwordref08_Same.j0 k true l0_0 l0_1 l0_2 l0_3 a0_4 l1_0 l1_1 l1_2 l1_3 a1_4) = some r := by rw [if_neg (show ¬ (false = true) by decide)] at H; exact H
    clear H
    have H := H1
    clear H1
    have H' := Aside0.mk H
    clear H
    go_wp2
    repeat (go_quiet (fail); try go_wp2)
    go_meet
    case rel => exact ⟨_, (true), (by first | rfl | (simp; done) | (simp [*]; done)), H', ⟨by first | omega | exact Nat.le_refl _⟩, ⟨by (with_reducible repeat (first | refine blk_drewN ?_ _ | refine blk_drew ?_ | refine blk_alloc ?_ _)); exact BK247.out⟩, ⟨by (with_reducible repeat (first | refine blk_drewN ?_ _ | refine blk_drew ?_ | refine blk_alloc ?_ _)); exact BK248.out⟩, ⟨by repeat (first | (with_reducible first | exact HB.out | apply below_alloc | apply pw_below_drewN | apply below_drew1 | refine below_set ?_ GE247.out | refine below_set ?_ GE248.out) | exact HB.out)⟩⟩
  ·
   replace c12 := Bool.eq_false_iff.mpr c12
   subst c12
   have H1 : (catchwordref08_Same.j0 k true l0_0 l0_1 l0_2 l0_3 a0_4 l1_0 l1_1 l1_2 l1_3 a1_4) = some r := by rw [if_neg (show ¬ (false = true) by decide)] at H; exact H
   clear H
   have H := H1
   clear H1
   have H' := Aside0.mk H
   clear H
   go_wp2
   repeat (go_quiet (fail); try go_wp2)
   go_meet
   case rel => exact ⟨_, (true), (by first | rfl | (simp; done) | (simp [*]; done)), H', ⟨by first | omega | exact Nat.le_refl _⟩, ⟨by (with_reducible repeat (first | refine blk_drewN ?_ _ | refine blk_drew ?_ | refine blk_alloc ?_ _)); exact BK247.out⟩, ⟨by (with_reducible repeat (first | refine blk_drewN ?_ _ | refine blk_drew ?_ | refine blk_alloc ?_ _)); exact BK248.out⟩, ⟨by repeat (first | (with_reducible first | exact HB.out | apply below_alloc | apply pw_below_drewN | apply below_drew1 | refine below_set ?_ GE247.out | refine below_set ?_ GE248.out) | exact HB.out)⟩⟩
 case rest =>
  clear HC6
  try clear c1
  try clear p2
  try clear c9
  try clear c11
  try clear c12
  try clear c13
  try clear c14
  try clear c15
  try clear c15b0
  try clear c15b1
  try clear c15b2
  try clear c16
  try clear c19
  try clear hcz10_0
  try clear hcz10_1
  try clear hcz10_2
  try clear hcz10_3
  try clear hcz10_4
  try clear hcz11_0
  try clear hcz11_1
  try clear hcz11_2
  try clear hcz11_3
  try clear hcz11_4
  try clear hcz17_0
  try clear hcz17_1
  try clear hcz17_2
  try clear hcz17_3
  try clear hcz17_4
  try clear hcz18_0
  try clear hcz18_1
  try clear hcz18_2
  try clear hcz18_3
  try clear hcz18_4
  try clear hcz20_0
  try clear hcz20_1
  try clear hcz20_2
  try clear hcz20_3
  try clear hcz20_4
  try clear hcz21_0
  try clear hcz21_1
  try clear hcz21_2
  try clear hcz21_3
  try clear hcz21_4
  try clear hfz10_0
  try clear hfz10_1
  try clear hfz10_2
  try clear hfz10_3
  try clear hfz10_4
  try clear hfz11_0
  try clear hfz11_1
  try clear hfz11_2
  try clear hfz11_3
  try clear hfz11_4
  try clear hfz17_0
  try clear hfz17_1
  try clear hfz17_2
  try clear hfz17_3
  try clear hfz17_4
  try clear hfz18_0
  try clear hfz18_1
  try clear hfz18_2
  try clear hfz18_3
  try clear hfz18_4
  try clear hfz20_0
  try clear hfz20_1
  try clear hfz20_2
  try clear hfz20_3
  try clear hfz20_4
  try clear hfz21_0
  try clear hfz21_1
  try clear hfz21_2
  try clear hfz21_3
  try clear hfz21_4
  obtain ⟨kq, x50_5, rfl, HA, HJ5, BK247, BK248, HB⟩ := hcut
  cases kq with
  | zero => exact absurd HA.out (by simp [catchwordref08_Same.j0])
  | succ kj5 =>
   have H := HA.out
   clear HA
   simp only [catchwordref08_Same.j0] at H
   by_cases c22 : x50_5 = true
   ·
    subst c22
    have H1 : (some false) = some r := by rw [if_pos rfl] at H; exact H
    clear H
    have H := H1
    clear H1
    obtain rfl := Option.some.inj H
    go_wp2
    repeat (go_quiet (fail); try go_wp2)
    go_ret
    exact ⟨by first | rfl | (simp [errW_none, errW_some] <;> rfl) | (simp [*, errW_none, errW_some] <;> rfl), by repeat (first | (with_reducible first | exact HB.out | apply below_alloc | apply pw_below_drewN | apply below_drew1 | refine below_set ?_ GE247.out | refine below_set ?_ GE248.out) | exact HB.out)⟩
   ·
    replace c22 := Bool.eq_false_iff.mpr c22
    subst c22
    have H1 : (catchwordref08_Same.l0 kj5 0 l0_0 l0_1 l0_2 l0_3 a0_4 l1_0 l1_1 l1_2 l1_3 a1_4) = some r := by rw [if_neg (show ¬ (false = true) by decide)] at H; exact H
    clear H
    have H := H1
    clear H1
    have H' := Aside0.mk H
    clear H
    go_wp2
    repeat (go_quiet (fail); try go_wp2)
    go_loopg [8] kj5 (fun kq v8 w' => ∃ (x8_2 : Int), v8 = .int .i64 x8_2 ∧ Aside0 (catchwordref08_Same.l0 kq x8_2 l0_0 l0_1 l0_2 l0_3 a0_4 l1_0 l1_1 l1_2 l1_3 a1_4 = some r) ∧ Aside0 (kq ≤ kj5) ∧ Aside0 (w'.heap[gb247]? = some (.cells #[(.slice A0_0 l0_0.length c0_0), (.slice A0_1 l0_1.length c0_1), (.slice A0_2 l0_2.length c0_2), (.slice A0_3 l0_3.length c0_3), .bool a0_4] 26 (0, 0))) ∧ Aside0 (w'.heap[gb248]? = some (.cells #[(.slice A1_0 l1_0.length c1_0), (.slice A1_1 l1_1.length c1_1), (.slice A1_2 l1_2.length c1_2), (.slice A1_3 l1_3.length c1_3), .bool a1_4] 26 (0, 0))) ∧ Aside0 (Below w.heap.size w w'))
    case atStart => exact ⟨(0), (by first | rfl | (simp; done) | (simp [*]; done)), H', ⟨Nat.le_refl _⟩, ⟨by (with_reducible repeat (first | refine blk_drewN ?_ _ | refine blk_drew ?_ | refine blk_alloc ?_ _)); exact BK247.out⟩, ⟨by (with_reducible repeat (first | refine blk_drewN ?_ _ | refine blk_drew ?_ | refine blk_alloc ?_ _)); exact BK248.out⟩, ⟨by repeat (first | (with_reducible first | exact HB.out | apply below_alloc | apply pw_below_drewN | apply below_drew1 | refine below_set ?_ GE247.out | refine below_set ?_ GE248.out) | exact HB.out)⟩⟩
    case round =>
     clear H'
     try clear c1
     try clear c2
     try clear p2
     try clear c9
     try clear c11
     try clear c12
     try clear c13
     try clear c14
     try clear c15
     try clear c15b0
     try clear c15b1
     try clear c15b2
     try clear c16
     try clear c19
     try clear c22
     try clear hcz10_0
     try clear hcz10_1
     try clear hcz10_2
     try clear hcz10_3
     try clear hcz10_4
     try clear hcz11_0
     try clear hcz11_1
     try clear hcz11_2
     try clear hcz11_3
     try clear hcz11_4
     try clear hcz17_0
     try clear hcz17_1
     try clear hcz17_2
     try clear hcz17_3
     try clear hcz17_4
     try clear hcz18_0
     try clear hcz18_1
     try clear hcz18_2
     try clear hcz18_3
     try clear hcz18_4
     try clear hcz20_0
     try clear hcz20_1
     try clear hcz20_2
     try clear hcz20_3
     try clear hcz20_4
     try clear hcz21_0
     try clear hcz21_1
     try clear hcz21_2
     try clear hcz21_3
     try clear hcz21_4
     try clear hfz10_0
     try clear hfz10_1
     try clear hfz10_2
     try clear hfz10_3
     try clear hfz10_4
     try clear hfz11_0
     try clear hfz11_1
     try clear hfz11_2
     try clear hfz11_3
     try clear hfz11_4
     try clear hfz17_0
     try clear hfz17_1
     try clear hfz17_2
     try clear hfz17_3
     try clear hfz17_4
     try clear hfz18_0
     try clear hfz18_1
     try clear hfz18_2
     try clear hfz18_3
     try clear hfz18_4
     try clear hfz20_0
     try clear hfz20_1
     try clear hfz20_2
     try clear hfz20_3
     try clear hfz20_4
     try clear hfz21_0
     try clear hfz21_1
     try clear hfz21_2
     try clear hfz21_3
     try clear hfz21_4
     try clear p2
     obtain ⟨x8_2, rfl, HA, HK2, BK247, BK248, HB⟩ := hrel
     cases gk with
     | zero => exact absurd HA.out (by simp [catchwordref08_Same.l0])
     | succ k2 =>
      have H := HA.out
      clear HA
      simp only [catchwordref08_Same.l0] at H
      by_cases c23 : x8_2 < (l0_3.length : Int)
      ·
       rw [if_pos c23] at H
       have c23b0 : decide (x8_2 < (l0_3.length : Int)) = true := decide_eq_true c23
       clear c23
       by_cases c24 : 0 ≤ x8_2
       ·
        rw [if_pos c24] at H
        have c24b0 : decide (0 ≤ x8_2) = true := decide_eq_true c24
        clear c24
        by_cases c25 : x8_2 < (l1_3.length : Int)
        ·
         rw [if_pos c25] at H
         have c25b0 : decide (x8_2 < (l1_3.length : Int)) = true := decide_eq_true c25
         clear c25
         replace H := Option.bind_eq_some_iff.mp H
         obtain ⟨t254, A260, H⟩ := H
         replace H : (if t254 = true then (if ((rd_T44 l0_3 x8_2).f0).toList = ((rd_T44 l1_3 x8_2).f0).toList then (catchwordref08_Same.l0 k2 (wrap64 (x8_2 + 1)) l0_0 l0_1 l0_2 l0_3 a0_4 l1_0 l1_1 l1_2 l1_3 a1_4) else (some false)) else (some false)) = some r := H
         have A26 := Aside0.mk A260
         clear A260
         by_cases c27 : t254 = true
         ·
          subst c27
          have H1 : (if ((rd_T44 l0_3 x8_2).f0).toList = ((rd_T44 l1_3 x8_2).f0).toList then (catchwordref08_Same.l0 k2 (wrap64 (x8_2 + 1)) l0_0 l0_1 l0_2 l0_3 a0_4 l1_0 l1_1 l1_2 l1_3 a1_4) else (some false)) = some r := by rw [if_pos rfl] at H; exact H
          clear H
          have H := H1
          clear H1
          by_cases c28 : ((rd_T44 l0_3 x8_2).f0).toList = ((rd_T44 l1_3 x8_2).f0).toList
          ·
           rw [if_pos c28] at H
           have c28b0 : (((rd_T44 l0_3 x8_2).f0).toList == ((rd_T44 l1_3 x8_2).f0).toList) = true := beq_iff_eq.mpr c28
           have c28b1 : (((rd_T44 l0_3 x8_2).f0).toList != ((rd_T44 l1_3 x8_2).f0).toList) = false := bne_eq_false_iff_eq.mpr c28
           clear c28
           have H' := Aside0.mk H
           clear H
           have hnb29 := NB247_248.out
           have hnc29 := NB248_247.out
           have hcz30_0 : wr.cell? ⟨gb247, 0, none⟩ = some (.slice A0_0 l0_0.length c0_0) := (blk_cell BK247.out 0).trans rfl
           have hcz30_1 : wr.cell? ⟨gb247, 1, none⟩ = some (.slice A0_1 l0_1.length c0_1) := (blk_cell BK247.out 1).trans rfl
           have hcz30_2 : wr.cell? ⟨gb247, 2, none⟩ = some (.slice A0_2 l0_2.length c0_2) := (blk_cell BK247.out 2).trans rfl
           have hcz30_3 : wr.cell? ⟨gb247, 3, none⟩ = some (.slice A0_3 l0_3.length c0_3) := (blk_cell BK247.out 3).trans rfl
           have hcz30_4 : wr.cell? ⟨gb247, 4, none⟩ = some (.bool a0_4) := (blk_cell BK247.out 4).trans rfl
           have hfz30_0 := blk_frozen BK247.out 0
           have hfz30_1 := blk_frozen BK247.out 1
           have hfz30_2 := blk_frozen BK247.out 2
           have hfz30_3 := blk_frozen BK247.out 3
           have hfz30_4 := blk_frozen BK247.out 4
           have p252 : 0 ≤ (x8_2 : Int) := of_decide_eq_true (by first | (with_reducible assumption) | assumption)
           have q252 : x8_2 < (l0_3.length : Int) := of_decide_eq_true (by first | (with_reducible assumption) | assumption)
           obtain ⟨ad252, A252_1, c252_1, e252, hx252_0, hx252_1, hl252_1, hi252_1⟩ := at_T44 HR0_3.out x8_2 p252 q252
           cases e252
           replace hx252_0 := (HB.out.cell (World.block_lt_of_cell? w _ hx252_0)).trans hx252_0
           replace hx252_1 := (HB.out.cell (World.block_lt_of_cell? w _ hx252_1)).trans hx252_1
           have HR252_1 := Aside0.mk hi252_1
           have HC252_1 := Aside0.mk hl252_1
           clear hi252_1 hl252_1
           replace p252 := eq_true p252
           replace q252 := eq_true q252
           have hcz31_0 : wr.cell? ⟨gb248, 0, none⟩ = some (.slice A1_0 l1_0.length c1_0) := (blk_cell BK248.out 0).trans rfl
           have hcz31_1 : wr.cell? ⟨gb248, 1, none⟩ = some (.slice A1_1 l1_1.length c1_1) := (blk_cell BK248.out 1).trans rfl
           have hcz31_2 : wr.cell? ⟨gb248, 2, none⟩ = some (.slice A1_2 l1_2.length c1_2) := (blk_cell BK248.out 2).trans rfl
           have hcz31_3 : wr.cell? ⟨gb248, 3, none⟩ = some (.slice A1_3 l1_3.length c1_3) := (blk_cell BK248.out 3).trans rfl
           have hcz31_4 : wr.cell? ⟨gb248, 4, none⟩ = some (.bool a1_4) := (blk_cell BK248.out 4).trans rfl
           have hfz31_0 := blk_frozen BK248.out 0
           have hfz31_1 := blk_frozen BK248.out 1
           have hfz31_2 := blk_frozen BK248.out 2
           have hfz31_3 := blk_frozen BK248.out 3
           have hfz31_4 := blk_frozen BK248.out 4
           have p253 : 0 ≤ (x8_2 : Int) := of_decide_eq_true (by first | (with_reducible assumption) | assumption)
           have q253 : x8_2 < (l1_3.length : Int) := of_decide_eq_true (by first | (with_reducible assumption) | assumption)
           obtain ⟨ad253, A253_1, c253_1, e253, hx253_0, hx253_1, hl253_1, hi253_1⟩ := at_T44 HR1_3.out x8_2 p253 q253
           cases e253
           replace hx253_0 := (HB.out.cell (World.block_lt_of_cell? w _ hx253_0)).trans hx253_0
           replace hx253_1 := (HB.out.cell (World.block_lt_of_cell? w _ hx253_1)).trans hx253_1
           have HR253_1 := Aside0.mk hi253_1
           have HC253_1 := Aside0.mk hl253_1
           clear hi253_1 hl253_1
           replace p253 := eq_true p253
           replace q253 := eq_true q253
           go_wp2_with (first | (go_at_call 28; (with_reducible refine (catchwordref06_Same.calls k2 _ _ ((rd_T44 l0_3 x8_2).f1) _ _ ((rd_T44 l1_3 x8_2).f1) true _ ?side1 ?side2 ?side3 ?side4 A26.out).mono ?_); (case side1 => repeat (first | exact (Kd.C_below HR252_1.out HB.out) | (with_reducible refine Kd.C_alloc ?_ _) | (with_reducible refine Kd.C_drewN ?_ _) | (with_reducible refine Kd.C_drew ?_))); (case side2 => exact HC252_1.out); (case side3 => repeat (first | exact (Kd.C_below HR253_1.out HB.out) | (with_reducible refine Kd.C_alloc ?_ _) | (with_reducible refine Kd.C_drewN ?_ _) | (with_reducible refine Kd.C_drew ?_))); (case side4 => exact HC253_1.out); rintro e w' ⟨rfl, ⟨nd, rfl⟩⟩; (try first | exact ⟨rfl, _, World.drewN_drewN _ _ _⟩ | exact ⟨rfl, _, Eq.trans (World.drewN_drewN _ _ _) (congrArg (World.drewN _) (Nat.add_assoc _ _ _))⟩); have p255 : 0 ≤ (x8_2 : Int) := of_decide_eq_true (by first | (with_reducible assumption) | assumption); have q255 : x8_2 < (l0_3.length : Int) := of_decide_eq_true (by first | (with_reducible assumption) | assumption); obtain ⟨ad255, A255_1, c255_1, e255, hx255_0, hx255_1, hl255_1, hi255_1⟩ := at_T44 HR0_3.out x8_2 p255 q255; obtain rfl : ad252 = ad255 := (by injection e255); replace hx255_0 := (HB.out.cell (World.block_lt_of_cell? w _ hx255_0)).trans hx255_0; replace hx255_1 := (HB.out.cell (World.block_lt_of_cell? w _ hx255_1)).trans hx255_1; have HR255_1 := Aside0.mk hi255_1; have HC255_1 := Aside0.mk hl255_1; clear hi255_1 hl255_1; replace p255 := eq_true p255; replace q255 := eq_true q255; have ea_ := Option.some.inj (hx252_1.symm.trans hx255_1); injection ea_ with ea_ en_ ec_; subst ea_; subst ec_; clear en_; have p256 : 0 ≤ (x8_2 : Int) := of_decide_eq_true (by first | (with_reducible assumption) | assumption); have q256 : x8_2 < (l1_3.length : Int) := of_decide_eq_true (by first | (with_reducible assumption) | assumption); obtain ⟨ad256, A256_1, c256_1, e256, hx256_0, hx256_1, hl256_1, hi256_1⟩ := at_T44 HR1_3.out x8_2 p256 q256; obtain rfl : ad253 = ad256 := (by injection e256); replace hx256_0 := (HB.out.cell (World.block_lt_of_cell? w _ hx256_0)).trans hx256_0; replace hx256_1 := (HB.out.cell (World.block_lt_of_cell? w _ hx256_1)).trans hx256_1; have HR256_1 := Aside0.mk hi256_1; have HC256_1 := Aside0.mk hl256_1; clear hi256_1 hl256_1; replace p256 := eq_true p256; replace q256 := eq_true q256; have ea_ := Option.some.inj (hx253_1.symm.trans hx256_1); injection ea_ with ea_ en_ ec_; subst ea_; subst ec_; clear en_))
           repeat (go_quiet (first | (go_at_call 28; (with_reducible refine (catchwordref06_Same.calls k2 _ _ ((rd_T44 l0_3 x8_2).f1) _ _ ((rd_T44 l1_3 x8_2).f1) true _ ?side1 ?side2 ?side3 ?side4 A26.out).mono ?_); (case side1 => repeat (first | exact (Kd.C_below HR252_1.out HB.out) | (with_reducible refine Kd.C_alloc ?_ _) | (with_reducible refine Kd.C_drewN ?_ _) | (with_reducible refine Kd.C_drew ?_))); (case side2 => exact HC252_1.out); (case side3 => repeat (first | exact (Kd.C_below HR253_1.out HB.out) | (with_reducible refine Kd.C_alloc ?_ _) | (with_reducible refine Kd.C_drewN ?_ _) | (with_reducible refine Kd.C_drew ?_))); (case side4 => exact HC253_1.out); rintro e w' ⟨rfl, ⟨nd, rfl⟩⟩; (try first | exact ⟨rfl, _, World.drewN_drewN _ _ _⟩ | exact ⟨rfl, _, Eq.trans (World.drewN_drewN _ _ _) (congrArg (World.drewN _) (Nat.add_assoc _ _ _))⟩); have p255 : 0 ≤ (x8_2 : Int) := of_decide_eq_true (by first | (with_reducible assumption) | assumption); have q255 : x8_2 < (l0_3.length : Int) := of_decide_eq_true (by first | (with_reducible assumption) | assumption); obtain ⟨ad255, A255_1, c255_1, e255, hx255_0, hx255_1, hl255_1, hi255_1⟩ := at_T44 HR0_3.out x8_2 p255 q255; obtain rfl : ad252 = ad255 := (by injection e255); replace hx255_0 := (HB.out.cell (World.block_lt_of_cell? w _ hx255_0)).trans hx255_0; replace hx255_1 := (HB.out.cell (World.block_lt_of_cell? w _ hx255_1)).trans hx255_1; have HR255_1 := Aside0.mk hi255_1; have HC255_1 := Aside0.mk hl255_1; clear hi255_1 hl255_1; replace p255 := eq_true p255; replace q255 := eq_true q255; have ea_ := Option.some.inj (hx252_1.symm.trans hx255_1); injection ea_ with ea_ en_ ec_; subst ea_; subst ec_; clear en_; have p256 : 0 ≤ (x8_2 : Int) := of_decide_eq_true (by first | (with_reducible assumption) | assumption); have q256 : x8_2 < (l1_3.length : Int) := of_decide_eq_true (by first | (with_reducible assumption) | assumption); obtain ⟨ad256, A256_1, c256_1, e256, hx256_0, hx256_1, hl256_1, hi256_1⟩ := at_T44 HR1_3.out x8_2 p256 q256; obtain rfl : ad253 = ad256 := (by injection e256); replace hx256_0 := (HB.out.cell (World.block_lt_of_cell? w _ hx256_0)).trans hx256_0; replace hx256_1 := (HB.out.cell (World.block_lt_of_cell? w _ hx256_1)).trans hx256_1; have HR256_1 := Aside0.mk hi256_1; have HC256_1 := Aside0.mk hl256_1; clear hi256_1 hl256_1; replace p256 := eq_true p256; replace q256 := eq_true q256; have ea_ := Option.some.inj (hx253_1.symm.trans hx256_1); injection ea_ with ea_ en_ ec_; subst ea_; subst ec_; clear en_)); try go_wp2_with (first | (go_at_call 28; (with_reducible refine (catchwordref06_Same.calls k2 _ _ ((rd_T44 l0_3 x8_2).f1) _ _ ((rd_T44 l1_3 x8_2).f1) true _ ?side1 ?side2 ?side3 ?side4 A26.out).mono ?_); (case side1 => repeat (first | exact (Kd.C_below HR252_1.out HB.out) | (with_reducible refine Kd.C_alloc ?_ _) | (with_reducible refine Kd.C_drewN ?_ _) | (with_reducible refine Kd.C_drew ?_))); (case side2 => exact HC252_1.out); (case side3 => repeat (first | exact (Kd.C_below HR253_1.out HB.out) | (with_reducible refine Kd.C_alloc ?_ _) | (with_reducible refine Kd.C_drewN ?_ _) | (with_reducible refine Kd.C_drew ?_))); (case side4 => exact HC253_1.out); rintro e w' ⟨rfl, ⟨nd, rfl⟩⟩; (try first | exact ⟨rfl, _, World.drewN_drewN _ _ _⟩ | exact ⟨rfl, _, Eq.trans (World.drewN_drewN _ _ _) (congrArg (World.drewN _) (Nat.add_assoc _ _ _))⟩); have p255 : 0 ≤ (x8_2 : Int) := of_decide_eq_true (by first | (with_reducible assumption) | assumption); have q255 : x8_2 < (l0_3.length : Int) := of_decide_eq_true (by first | (with_reducible assumption) | assumption); obtain ⟨ad255, A255_1, c255_1, e255, hx255_0, hx255_1, hl255_1, hi255_1⟩ := at_T44 HR0_3.out x8_2 p255 q255; obtain rfl : ad252 = ad255 := (by injection e255); replace hx255_0 := (HB.out.cell (World.block_lt_of_cell? w _ hx255_0)).trans hx255_0; replace hx255_1 := (HB.out.cell (World.block_lt_of_cell? w _ hx255_1)).trans hx255_1; have HR255_1 := Aside0.mk hi255_1; have HC255_1 := Aside0.mk hl255_1; clear hi255_1 hl255_1; replace p255 := eq_true p255; replace q255 := eq_true q255; have ea_ := Option.some.inj (hx252_1.symm.trans hx255_1); injection ea_ with ea_ en_ ec_; subst ea_; subst ec_; clear en_; have p256 : 0 ≤ (x8_2 : Int) := of_decide_eq_true (by first | (with_reducible assumption) | assumption); have q256 : x8_2 < (l1_3.length : Int) := of_decide_eq_true (by first | (with_reducible assumption) | assumption); obtain ⟨ad256, A256_1, c256_1, e256, hx256_0, hx256_1, hl256_1, hi256_1⟩ := at_T44 HR1_3.out x8_2 p256 q256; obtain rfl : ad253 = ad256 := (by injection e256); replace hx256_0 := (HB.out.cell (World.block_lt_of_cell? w _ hx256_0)).trans hx256_0; replace hx256_1 := (HB.out.cell (World.block_lt_of_cell? w _ hx256_1)).trans hx256_1; have HR256_1 := Aside0.mk hi256_1; have HC256_1 := Aside0.mk hl256_1; clear hi256_1 hl256_1; replace p256 := eq_true p256; replace q256 := eq_true q256; have ea_ := Option.some.inj (hx253_1.symm.trans hx256_1); injection ea_ with ea_ en_ ec_; subst ea_; subst ec_; clear en_)))
           go_roundg k2
           case measure => have := HJ5.out; have := HK2.out; omega
           case rel => exact ⟨(wrap64 (x8_2 + 1)), (by first | rfl | (simp; done) | (simp [*]; done)), H', ⟨by have := HJ5.out; have := HK2.out; omega⟩, ⟨by (with_reducible repeat (first | refine blk_drewN ?_ _ | refine blk_drew ?_ | refine blk_alloc ?_ _)); exact BK247.out⟩, ⟨by (with_reducible repeat (first | refine blk_drewN ?_ _ | refine blk_drew ?_ | refine blk_alloc ?_ _)); exact BK248.out⟩, ⟨by repeat (first | (with_reducible first | exact HB.out | apply below_alloc | apply pw_below_drewN | apply below_drew1 | refine below_set ?_ GE247.out | refine below_set ?_ GE248.out) | exact HB.out)⟩⟩
          ·
           rw [if_neg c28] at H
           have c28b0 : (((rd_T44 l0_3 x8_2).f0).toList == ((rd_T44 l1_3 x8_2).f0).toList) = false := beq_eq_false_iff_ne.mpr c28
           have c28b1 : (((rd_T44 l0_3 x8_2).f0).toList != ((rd_T44 l1_3 x8_2).f0).toList) = true := bne_iff_ne.mpr c28
           obtain rfl := Option.some.inj H
           have hnb32 := NB247_248.out
           have hnc32 := NB248_247.out
           have hcz33_0 : wr.cell? ⟨gb247, 0, none⟩ = some (.slice A0_0 l0_0.length c0_0) := (blk_cell BK247.out 0).trans rfl
           have hcz33_1 : wr.cell? ⟨gb247, 1, none⟩ = some (.slice A0_1 l0_1.length c0_1) := (blk_cell BK247.out 1).trans rfl
           have hcz33_2 : wr.cell? ⟨gb247, 2, none⟩ = some (.slice A0_2 l0_2.length c0_2) := (blk_cell BK247.out 2).trans rfl
           have hcz33_3 : wr.cell? ⟨gb247, 3, none⟩ = some (.slice A0_3 l0_3.length c0_3) := (blk_cell BK247.out 3).trans rfl
           have hcz33_4 : wr.cell? ⟨gb247, 4, none⟩ = some (.bool a0_4) := (blk_cell BK247.out 4).trans rfl
           have hfz33_0 := blk_frozen BK247.out 0
           have hfz33_1 := blk_frozen BK247.out 1
           have hfz33_2 := blk_frozen BK247.out 2
           have hfz33_3 := blk_frozen BK247.out 3
           have hfz33_4 := blk_frozen BK247.out 4
           have p252 : 0 ≤ (x8_2 : Int) := of_decide_eq_true (by first | (with_reducible assumption) | assumption)
           have q252 : x8_2 < (l0_3.length : Int) := of_decide_eq_true (by first | (with_reducible assumption) | assumption)
           obtain ⟨ad252, A252_1, c252_1, e252, hx252_0, hx252_1, hl252_1, hi252_1⟩ := at_T44 HR0_3.out x8_2 p252 q252
           cases e252
           replace hx252_0 := (HB.out.cell (World.block_lt_of_cell? w _ hx252_0)).trans hx252_0
           replace hx252_1 := (HB.out.cell (World.block_lt_of_cell? w _ hx252_1)).trans hx252_1
           have HR252_1 := Aside0.mk hi252_1
           have HC252_1 := Aside0.mk hl252_1
           clear hi252_1 hl252_1
           replace p252 := eq_true p252
           replace q252 := eq_true q252
           have hcz34_0 : wr.cell? ⟨gb248, 0, none⟩ = some (.slice A1_0 l1_0.length c1_0) := (blk_cell BK248.out 0).trans rfl
           have hcz34_1 : wr.cell? ⟨gb248, 1, none⟩ = some (.slice A1_1 l1_1.length c1_1) := (blk_cell BK248.out 1).trans rfl
           have hcz34_2 : wr.cell? ⟨gb248, 2, none⟩ = some (.slice A1_2 l1_2.length c1_2) := (blk_cell BK248.out 2).trans rfl
           have hcz34_3 : wr.cell? ⟨gb248, 3, none⟩ = some (.slice A1_3 l1_3.length c1_3) := (blk_cell BK248.out 3).trans rfl
           have hcz34_4 : wr.cell? ⟨gb248, 4, none⟩ = some (.bool a1_4) := (blk_cell BK248.out 4).trans rfl
           have hfz34_0 := blk_frozen BK248.out 0
           have hfz34_1 := blk_frozen BK248.out 1
           have hfz34_2 := blk_frozen BK248.out 2
           have hfz34_3 := blk_frozen BK248.out 3
           have hfz34_4 := blk_frozen BK248.out 4
           have p253 : 0 ≤ (x8_2 : Int) := of_decide_eq_true (by first | (with_reducible assumption) | assumption)
           have q253 : x8_2 < (l1_3.length : Int) := of_decide_eq_true (by first | (with_reducible assumption) | assumption)
           obtain ⟨ad253, A253_1, c253_1, e253, hx253_0, hx253_1, hl253_1, hi253_1⟩ := at_T44 HR1_3.out x8_2 p253 q253
           cases e253
           replace hx253_0 := (HB.out.cell (World.block_lt_of_cell? w _ hx253_0)).trans hx253_0
           replace hx253_1 := (HB.out.cell (World.block_lt_of_cell? w _ hx253_1)).trans hx253_1
           have HR253_1 := Aside0.mk hi253_1
           have HC253_1 := Aside0.mk hl253_1
           clear hi253_1 hl253_1
           replace p253 := eq_true p253
           replace q253 := eq_true q253
           go_wp2_with (first | (go_at_call 28; (with_reducible refine (catchwordref06_Same.calls k2 _ _ ((rd_T44 l0_3 x8_2).f1) _ _ ((rd_T44 l1_3 x8_2).f1) true _ ?side1 ?side2 ?side3 ?side4 A26.out).mono ?_); (case side1 => repeat (first | exact (Kd.C_below HR252_1.out HB.out) | (with_reducible refine Kd.C_alloc ?_ _) | (with_reducible refine Kd.C_drewN ?_ _) | (with_reducible refine Kd.C_drew ?_))); (case side2 => exact HC252_1.out); (case side3 => repeat (first | exact (Kd.C_below HR253_1.out HB.out) | (with_reducible refine Kd.C_alloc ?_ _) | (with_reducible refine Kd.C_drewN ?_ _) | (with_reducible refine Kd.C_drew ?_))); (case side4 => exact HC253_1.out); rintro e w' ⟨rfl, ⟨nd, rfl⟩⟩; (try first | exact ⟨rfl, _, World.drewN_drewN _ _ _⟩ | exact ⟨rfl, _, Eq.trans (World.drewN_drewN _ _ _) (congrArg (World.drewN _) (Nat.add_assoc _ _ _))⟩); have p255 : 0 ≤ (x8_2 : Int) := of_decide_eq_true (by first | (with_reducible assumption) | assumption); have q255 : x8_2 < (l0_3.length : Int) := of_decide_eq_true (by first | (with_reducible assumption) | assumption); obtain ⟨ad255, A255_1, c255_1, e255, hx255_0, hx255_1, hl255_1, hi255_1⟩ := at_T44 HR0_3.out x8_2 p255 q255; obtain rfl : ad252 = ad255 := (by injection e255); replace hx255_0 := (HB.out.cell (World.block_lt_of_cell? w _ hx255_0)).trans hx255_0; replace hx255_1 := (HB.out.cell (World.block_lt_of_cell? w _ hx255_1)).trans hx255_1; have HR255_1 := Aside0.mk hi255_1; have HC255_1 := Aside0.mk hl255_1; clear hi255_1 hl255_1; replace p255 := eq_true p255; replace q255 := eq_true q255; have ea_ := Option.some.inj (hx252_1.symm.trans hx255_1); injection ea_ with ea_ en_ ec_; subst ea_; subst ec_; clear en_; have p256 : 0 ≤ (x8_2 : Int) := of_decide_eq_true (by first | (with_reducible assumption) | assumption); have q256 : x8_2 < (l1_3.length : Int) := of_decide_eq_true (by first | (with_reducible assumption) | assumption); obtain ⟨ad256, A256_1, c256_1, e256, hx256_0, hx256_1, hl256_1, hi256_1⟩ := at_T44 HR1_3.out x8_2 p256 q256; obtain rfl : ad253 = ad256 := (by injection e256); replace hx256_0 := (HB.out.cell (World.block_lt_of_cell? w _ hx256_0)).trans hx256_0; replace hx256_1 := (HB.out.cell (World.block_lt_of_cell? w _ hx256_1)).trans hx256_1; have HR256_1 := Aside0.mk hi256_1; have HC256_1 := Aside0.mk hl256_1; clear hi256_1 hl256_1; replace p256 := eq_true p256; replace q256 := eq_true q256; have ea_ := Option.some.inj (hx253_1.symm.trans hx256_1); injection ea_ with ea_ en_ ec_; subst ea_; subst ec_; clear en_))
           repeat (go_quiet (first | (go_at_call 28; (with_reducible refine (catchwordref06_Same.calls k2 _ _ ((rd_T44 l0_3 x8_2).f1) _ _ ((rd_T44 l1_3 x8_2).f1) true _ ?side1 ?side2 ?side3 ?side4 A26.out).mono ?_); (case side1 => repeat (first | exact (Kd.C_below HR252_1.out HB.out) | (with_reducible refine Kd.C_alloc ?_ _) | (with_reducible refine Kd.C_drewN ?_ _) | (with_reducible refine Kd.C_drew ?_))); (case side2 => exact HC252_1.out); (case side3 => repeat (first | exact (Kd.C_below HR253_1.out HB.out) | (with_reducible refine Kd.C_alloc ?_ _) | (with_reducible refine Kd.C_drewN ?_ _) | (with_reducible refine Kd.C_drew ?_))); (case side4 => exact HC253_1.out); rintro e w' ⟨rfl, ⟨nd, rfl⟩⟩; (try first | exact ⟨rfl, _, World.drewN_drewN _ _ _⟩ | exact ⟨rfl, _, Eq.trans (World.drewN_drewN _ _ _) (congrArg (World.drewN _) (Nat.add_assoc _ _ _))⟩); have p255 : 0 ≤ (x8_2 : Int) := of_decide_eq_true (by first | (with_reducible assumption) | assumption); have q255 : x8_2 < (l0_3.length : Int) := of_decide_eq_true (by first | (with_reducible assumption) | assumption); obtain ⟨ad255, A255_1, c255_1, e255, hx255_0, hx255_1, hl255_1, hi255_1⟩ := at_T44 HR0_3.out x8_2 p255 q255; obtain rfl : ad252 = ad255 := (by injection e255); replace hx255_0 := (HB.out.cell (World.block_lt_of_cell? w _ hx255_0)).trans hx255_0; replace hx255_1 := (HB.out.cell (World.block_lt_of_cell? w _ hx255_1)).trans hx255_1; have HR255_1 := Aside0.mk hi255_1; have HC255_1 := Aside0.mk hl255_1; clear hi255_1 hl255_1; replace p255 := eq_true p255; replace q255 := eq_true q255; have ea_ := Option.some.inj (hx252_1.symm.trans hx255_1); injection ea_ with ea_ en_ ec_; subst ea_; subst ec_; clear en_; have p256 : 0 ≤ (x8_2 : Int) := of_decide_eq_true (by first | (with_reducible assumption) | assumption); have q256 : x8_2 < (l1_3.length : Int) := of_decide_eq_true (by first | (with_reducible assumption) | assumption); obtain ⟨ad256, A256_1, c256_1, e256, hx256_0, hx256_1, hl256_1, hi256_1⟩ := at_T44 HR1_3.out x8_2 p256 q256; obtain rfl : ad253 = ad256 := (by injection e256); replace hx256_0 := (HB.out.cell (World.block_lt_of_cell? w _ hx256_0)).trans hx256_0; replace hx256_1 := (HB.out.cell (World.block_lt_of_cell? w _ hx256_1)).trans hx256_1; have HR256_1 := Aside0.mk hi256_1; have HC256_1 := Aside0.mk hl256_1; clear hi256_1 hl256_1; replace p256 := eq_true p256; replace q256 := eq_true q256; have ea_ := Option.some.inj (hx253_1.symm.trans hx256_1); injection ea_ with ea_ en_ ec_; subst ea_; subst ec_; clear en_)); try go_wp2_with (first | (go_at_call 28; (with_reducible refine (catchwordref06_Same.calls k2 _ _ ((rd_T44 l0_3 x8_2).f1) _ _ ((rd_T44 l1_3 x8_2).f1) true _ ?side1 ?side2 ?side3 ?side4 A26.out).mono ?_); (case side1 => repeat (first | exact (Kd.C_below HR252_1.out HB.out) | (with_reducible refine Kd.C_alloc ?_ _) | (with_reducible refine Kd.C_drewN ?_ _) | (with_reducible refine Kd.C_drew ?_))); (case side2 => exact HC252_1.out); (case side3 => repeat (first | exact (Kd.C_below HR253_1.out HB.out) | (with_reducible refine Kd.C_alloc ?_ _) | (with_reducible refine Kd.C_drewN ?_ _) | (with_reducible refine Kd.C_drew ?_))); (case side4 => exact HC253_1.out); rintro e w' ⟨rfl, ⟨nd, rfl⟩⟩; (try first | exact ⟨rfl, _, World.drewN_drewN _ _ _⟩ | exact ⟨rfl, _, Eq.trans (World.drewN_drewN _ _ _) (congrArg (World.drewN _) (Nat.add_assoc _ _ _))⟩); have p255 : 0 ≤ (x8_2 : Int) := of_decide_eq_true (by first | (with_reducible assumption) | assumption); have q255 : x8_2 < (l0_3.length : Int) := of_decide_eq_true (by first | (with_reducible assumption) | assumption); obtain ⟨ad255, A255_1, c255_1, e255, hx255_0, hx255_1, hl255_1, hi255_1⟩ := at_T44 HR0_3.out x8_2 p255 q255; obtain rfl : ad252 = ad255 := (by injection e255); replace hx255_0 := (HB.out.cell (World.block_lt_of_cell? w _ hx255_0)).trans hx255_0; replace hx255_1 := (HB.out.cell (World.block_lt_of_cell? w _ hx255_1)).trans hx255_1; have HR255_1 := Aside0.mk hi255_1; have HC255_1 := Aside0.mk hl255_1; clear hi255_1 hl255_1; replace p255 := eq_true p255; replace q255 := eq_true q255; have ea_ := Option.some.inj (hx252_1.symm.trans hx255_1); injection ea_ with ea_ en_ ec_; subst ea_; subst ec_; clear en_; have p256 : 0 ≤ (x8_2 : Int) := of_decide_eq_true (by first | (with_reducible assumption) | assumption); have q256 : x8_2 < (l1_3.length : Int) := of_decide_eq_true (by first | (with_reducible assumption) | assumption); obtain ⟨ad256, A256_1, c256_1, e256, hx256_0, hx256_1, hl256_1, hi256_1⟩ := at_T44 HR1_3.out x8_2 p256 q256; obtain rfl : ad253 = ad256 := (by injection e256); replace hx256_0 := (HB.out.cell (World.block_lt_of_cell? w _ hx256_0)).trans hx256_0; replace hx256_1 := (HB.out.cell (World.block_lt_of_cell? w _ hx256_1)).trans hx256_1; have HR256_1 := Aside0.mk hi256_1; have HC256_1 := Aside0.mk hl256_1; clear hi256_1 hl256_1; replace p256 := eq_true p256; replace q256 := eq_true q256; have ea_ := Option.some.inj (hx253_1.symm.trans hx256_1); injection ea_ with ea_ en_ ec_; subst ea_; subst ec_; clear en_)))
           go_ret
           exact ⟨by first | rfl | (simp [errW_none, errW_some] <;> rfl) | (simp [*, errW_none, errW_some] <;> rfl), by repeat (first | (with_reducible first | exact HB.out | apply below_alloc | apply pw_below_drewN | apply below_drew1 | refine below_set ?_ GE247.out | refine below_set ?_ GE248.out) | exact HB.out)⟩
         ·
          replace c27 := Bool.eq_false_iff.mpr c27
          subst c27
          have H1 : (some false) = some r := by rw [if_neg (show ¬ (false = true) by decide)] at H; exact H
          clear H
          have H := H1
          clear H1
          obtain rfl := Option.some.inj H
          have hnb35 := NB247_248.out
          have hnc35 := NB248_247.out
          have hcz36_0 : wr.cell? ⟨gb247, 0, none⟩ = some (.slice A0_0 l0_0.length c0_0) := (blk_cell BK247.out 0).trans rfl
          have hcz36_1 : wr.cell? ⟨gb247, 1, none⟩ = some (.slice A0_1 l0_1.length c0_1) := (blk_cell BK247.out 1).trans rfl
          have hcz36_2 : wr.cell? ⟨gb247, 2, none⟩ = some (.slice A0_2 l0_2.length c0_2) := (blk_cell BK247.out 2).trans rfl
          have hcz36_3 : wr.cell? ⟨gb247, 3, none⟩ = some (.slice A0_3 l0_3.length c0_3) := (blk_cell BK247.out 3).trans rfl
          have hcz36_4 : wr.cell? ⟨gb247, 4, none⟩ = some (.bool a0_4) := (blk_cell BK247.out 4).trans rfl
          have hfz36_0 := blk_frozen BK247.out 0
          have hfz36_1 := blk_frozen BK247.out 1
          have hfz36_2 := blk_frozen BK247.out 2
          have hfz36_3 := blk_frozen BK247.out 3
          have hfz36_4 := blk_frozen BK247.out 4
          have p252 : 0 ≤ (x8_2 : Int) := of_decide_eq_true (by first | (with_reducible assumption) | assumption)
          have q252 : x8_2 < (l0_3.length : Int) := of_decide_eq_true (by first | (with_reducible assumption) | assumption)
          obtain ⟨ad252, A252_1, c252_1, e252, hx252_0, hx252_1, hl252_1, hi252_1⟩ := at_T44 HR0_3.out x8_2 p252 q252
          cases e252
          replace hx252_0 := (HB.out.cell (World.block_lt_of_cell? w _ hx252_0)).trans hx252_0
          replace hx252_1 := (HB.out.cell (World.block_lt_of_cell? w _ hx252_1)).trans hx252_1
          have HR252_1 := Aside0.mk hi252_1
          have HC252_1 := Aside0.mk hl252_1
          clear hi252_1 hl252_1
          replace p252 := eq_true p252
          replace q252 := eq_true q252
          have hcz37_0 : wr.cell? ⟨gb248, 0, none⟩ = some (.slice A1_0 l1_0.length c1_0) := (blk_cell BK248.out 0).trans rfl
          have hcz37_1 : wr.cell? ⟨gb248, 1, none⟩ = some (.slice A1_1 l1_1.length c1_1) := (blk_cell BK248.out 1).trans rfl
          have hcz37_2 : wr.cell? ⟨gb248, 2, none⟩ = some (.slice A1_2 l1_2.length c1_2) := (blk_cell BK248.out 2).trans rfl
          have hcz37_3 : wr.cell? ⟨gb248, 3, none⟩ = some (.slice A1_3 l1_3.length c1_3) := (blk_cell BK248.out 3).trans rfl
          have hcz37_4 : wr.cell? ⟨gb248, 4, none⟩ = some (.bool a1_4) := (blk_cell BK248.out 4).trans rfl
          have hfz37_0 := blk_frozen BK248.out 0
          have hfz37_1 := blk_frozen BK248.out 1
          have hfz37_2 := blk_frozen BK248.out 2
          have hfz37_3 := blk_frozen BK248.out 3
          have hfz37_4 := blk_frozen BK248.out 4
          have p253 : 0 ≤ (x8_2 : Int) := of_decide_eq_true (by first | (with_reducible assumption) | assumption)
          have q253 : x8_2 < (l1_3.length : Int) := of_decide_eq_true (by first | (with_reducible assumption) | assumption)
          obtain ⟨ad253, A253_1, c253_1, e253, hx253_0, hx253_1, hl253_1, hi253_1⟩ := at_T44 HR1_3.out x8_2 p253 q253
          cases e253
          replace hx253_0 := (HB.out.cell (World.block_lt_of_cell? w _ hx253_0)).trans hx253_0
          replace hx253_1 := (HB.out.cell (World.block_lt_of_cell? w _ hx253_1)).trans hx253_1
          have HR253_1 := Aside0.mk hi253_1
          have HC253_1 := Aside0.mk hl253_1
          clear hi253_1 hl253_1
          replace p253 := eq_true p253
          replace q253 := eq_true q253
          go_wp2_with (first | (go_at_call 28; (with_reducible refine (catchwordref06_Same.calls k2 _ _ ((rd_T44 l0_3 x8_2).f1) _ _ ((rd_T44 l1_3 x8_2).f1) false _ ?side1 ?side2 ?side3 ?side4 A26.out).mono ?_); (case side1 => repeat (first | exact (Kd.C_below HR252_1.out HB.out) | (with_reducible refine Kd.C_alloc ?_ _) | (with_reducible refine Kd.C_drewN ?_ _) | (with_reducible refine Kd.C_drew ?_))); (case side2 => exact HC252_1.out); (case side3 => repeat (first | exact (Kd.C_below HR253_1.out HB.out) | (with_reducible refine Kd.C_alloc ?_ _) | (with_reducible refine Kd.C_drewN ?_ _) | (with_reducible refine Kd.C_drew ?_))); (case side4 => exact HC253_1.out); rintro e w' ⟨rfl, ⟨nd, rfl⟩⟩; (try first | exact ⟨rfl, _, World.drewN_drewN _ _ _⟩ | exact ⟨rfl, _, Eq.trans (World.drewN_drewN _ _ _) (congrArg (World.drewN _) (Nat.add_assoc _ _ _))⟩)))
          repeat (go_quiet (first | (go_at_call 28; (with_reducible refine (catchwordref06_Same.calls k2 _ _ ((rd_T44 l0_3 x8_2).f1) _ _ ((rd_T44 l1_3 x8_2).f1) false _ ?side1 ?side2 ?side3 ?side4 A26.out).mono ?_); (case side1 => repeat (first | exact (Kd.C_below HR252_1.out HB.out) | (with_reducible refine Kd.C_alloc ?_ _) | (with_reducible refine Kd.C_drewN ?_ _) | (with_reducible refine Kd.C_drew ?_))); (case side2 => exact HC252_1.out); (case side3 => repeat (first | exact (Kd.C_below HR253_1.out HB.out) | (with_reducible refine Kd.C_alloc ?_ _) | (with_reducible refine Kd.C_drewN ?_ _) | (with_reducible refine Kd.C_drew ?_))); (case side4 => exact HC253_1.out); rintro e w' ⟨rfl, ⟨nd, rfl⟩⟩; (try first | exact ⟨rfl, _, World.drewN_drewN _ _ _⟩ | exact ⟨rfl, _, Eq.trans (World.drewN_drewN _ _ _) (congrArg (World.drewN _) (Nat.add_assoc _ _ _))⟩))); try go_wp2_with (first | (go_at_call 28; (with_reducible refine (catchwordref06_Same.calls k2 _ _ ((rd_T44 l0_3 x8_2).f1) _ _ ((rd_T44 l1_3 x8_2).f1) false _ ?side1 ?side2 ?side3 ?side4 A26.out).mono ?_); (case side1 => repeat (first | exact (Kd.C_below HR252_1.out HB.out) | (with_reducible refine Kd.C_alloc ?_ _) | (with_reducible refine Kd.C_drewN ?_ _) | (with_reducible refine Kd.C_drew ?_))); (case side2 => exact HC252_1.out); (case side3 => repeat (first | exact (Kd.C_below HR253_1.out HB.out) | (with_reducible refine Kd.C_alloc ?_ _) | (with_reducible refine Kd.C_drewN ?_ _) | (with_reducible refine Kd.C_drew ?_))); (case side4 => exact HC253_1.out); rintro e w' ⟨rfl, ⟨nd, rfl⟩⟩; (try first | exact ⟨rfl, _, World.drewN_drewN _ _ _⟩ | exact ⟨rfl, _, Eq.trans (World.drewN_drewN _ _ _) (congrArg (World.drewN _) (Nat.add_assoc _ _ _))⟩))))
          go_ret
          exact ⟨by first | rfl | (simp [errW_none, errW_some] <;> rfl) | (simp [*, errW_none, errW_some] <;> rfl), by repeat (first | (with_reducible first | exact HB.out | apply below_alloc | apply pw_below_drewN | apply below_drew1 | refine below_set ?_ GE247.out | refine below_set ?_ GE248.out) | exact HB.out)⟩
        ·
         rw [if_neg c25] at H
         exact absurd H (by simp)
       ·
        rw [if_neg c24] at H
        exact absurd H (by simp)
      ·
       rw [if_neg c23] at H
       have c23b0 : decide (x8_2 < (l0_3.length : Int)) = false := decide_eq_false c23
       clear c23
       obtain rfl := Option.some.inj H
       have hnb38 := NB247_248.out
       have hnc38 := NB248_247.out
       have hcz39_0 : wr.cell? ⟨gb247, 0, none⟩ = some (.slice A0_0 l0_0.length c0_0) := (blk_cell BK247.out 0).trans rfl
       have hcz39_1 : wr.cell? ⟨gb247, 1, none⟩ = some (.slice A0_1 l0_1.length c0_1) := (blk_cell BK247.out 1).trans rfl
       have hcz39_2 : wr.cell? ⟨gb247, 2, none⟩ = some (.slice A0_2 l0_2.length c0_2) := (blk_cell BK247.out 2).trans rfl
       have hcz39_3 : wr.cell? ⟨gb247, 3, none⟩ = some (.slice A0_3 l0_3.length c0_3) := (blk_cell BK247.out 3).trans rfl
       have hcz39_4 : wr.cell? ⟨gb247, 4, none⟩ = some (.bool a0_4) := (blk_cell BK247.out 4).trans rfl
       have hfz39_0 := blk_frozen BK247.out 0
       have hfz39_1 := blk_frozen BK247.out 1
       have hfz39_2 := blk_frozen BK247.out 2
       have hfz39_3 := blk_frozen BK247.out 3
       have hfz39_4 := blk_frozen BK247.out 4
       go_wp2
       repeat (go_quiet (fail); try go_wp2)
       go_ret
       exact ⟨by first | rfl | (simp [errW_none, errW_some] <;> rfl) | (simp [*, errW_none, errW_some] <;> rfl), by repeat (first | (with_reducible first | exact HB.out | apply below_alloc | apply pw_below_drewN | apply below_drew1 | refine below_set ?_ GE247.out | refine below_set ?_ GE248.out) | exact HB.out)⟩

/-! ### catchwordref01_Bytes: function 12 -/
def catchwordref01_Bytes.l0 : Nat → List Int → List Int → Int → Option (Bool)
 | 0, _, _, _ => none
 | k + 1, x0, x1, x5 => if x5 < (x0.length : Int) then (if 0 ≤ x5 then (if x5 < (x1.length : Int) then (if (rd x0 x5) = (rd x1 x5) then (catchwordref01_Bytes.l0 k x0 x1 (wrap64 (x5 + 1))) else (some false)) else (none)) else (none)) else (some true)
def catchwordref01_Bytes.f (k : Nat) (l0 : List Int) (l1 : List Int) : Option (Bool) := if (l0.length : Int) = (l1.length : Int) then (catchwordref01_Bytes.l0 k l0 l1 0) else (some false)
set_option maxHeartbeats 8000000 in
set_option maxRecDepth 100000 in
theorem catchwordref01_Bytes.calls (k : Nat) (A0 : Option Addr) (c0 : Nat) (l0 : List Int) (A1 : Option Addr) (c1 : Nat) (l1 : List Int) (r : Bool) (w : World) (hr0 : Kd.C (Kd.int .u8) w A0 l0.length l0) (hc0 : l0.length ≤ c0) (hr1 : Kd.C (Kd.int .u8) w A1 l1.length l1) (hc1 : l1.length ≤ c1) (h : catchwordref01_Bytes.f k l0 l1 = some r) :
  Calls Try.prog 12 #[.slice A0 l0.length c0, .slice A1 l1.length c1] w fun e w' => e = .returned (.bool r) ∧ Drawn0 w w' := by
 have HR0 := Aside0.mk hr0
 have HC0 := Aside0.mk hc0
 clear hr0 hc0
 have HR1 := Aside0.mk hr1
 have HC1 := Aside0.mk hc1
 clear hr1 hc1
 have H : (if (l0.length : Int) = (l1.length : Int) then (catchwordref01_Bytes.l0 k l0 l1 0) else (some false)) = some r := h
 clear h
 by_cases c3 : (l0.length : Int) = (l1.length : Int)
 ·
  rw [if_pos c3] at H
  have c3b0 : ((l0.length : Int) == (l1.length : Int)) = true := beq_iff_eq.mpr c3
  have c3b1 : ((l0.length : Int) != (l1.length : Int)) = false := bne_eq_false_iff_eq.mpr c3
  have c3b2 : (l0.length == l1.length) = true := by first | simpa using c3 | (simp at c3 ⊢; omega)
  clear c3
  have H' := Aside0.mk H
  clear H
  go_enter Try.func12, Try.ntmps12
  go_wp2
  repeat (go_quiet (fail); try go_wp2)
  go_loopg [5] k (fun kq v5 w' => ∃ (x5_1 : Int), v5 = .int .i64 x5_1 ∧ Aside0 (catchwordref01_Bytes.l0 kq l0 l1 x5_1 = some r) ∧ Aside0 (kq ≤ k) ∧ Drawn0 w w')
  case atStart => exact ⟨(0), (by first | rfl | (simp; done) | (simp [*]; done)), H', ⟨Nat.le_refl _⟩, by repeat (first | exact Drawn0.refl _ | apply Drawn0.step)⟩
  case round =>
   clear H'
   try clear c1
   try clear p2
   try clear c3
   try clear c3b0
   try clear c3b1
   try clear c3b2
   obtain ⟨x5_1, rfl, HA, HK1, ⟨m1, rfl⟩⟩ := hrel
   cases gk with
   | zero => exact absurd HA.out (by simp [catchwordref01_Bytes.l0])
   | succ k1 =>
    have H := HA.out
    clear HA
    simp only [catchwordref01_Bytes.l0] at H
    by_cases c4 : x5_1 < (l0.length : Int)
    ·
     rw [if_pos c4] at H
     have c4b0 : decide (x5_1 < (l0.length : Int)) = true := decide_eq_true c4
     clear c4
     by_cases c5 : 0 ≤ x5_1
     ·
      rw [if_pos c5] at H
      have c5b0 : decide (0 ≤ x5_1) = true := decide_eq_true c5
      clear c5
      by_cases c6 : x5_1 < (l1.length : Int)
      ·
       rw [if_pos c6] at H
       have c6b0 : decide (x5_1 < (l1.length : Int)) = true := decide_eq_true c6
       clear c6
       by_cases c7 : (rd l0 x5_1) = (rd l1 x5_1)
       ·
        rw [if_pos c7] at H
        have c7b0 : ((rd l0 x5_1) == (rd l1 x5_1)) = true := beq_iff_eq.mpr c7
        have c7b1 : ((rd l0 x5_1) != (rd l1 x5_1)) = false := bne_eq_false_iff_eq.mpr c7
        clear c7
        have H' := Aside0.mk H
        clear H
        have p257 : 0 ≤ (x5_1 : Int) := of_decide_eq_true (by first | (with_reducible assumption) | assumption)
        have q257 : x5_1 < (l0.length : Int) := of_decide_eq_true (by first | (with_reducible assumption) | assumption)
        obtain ⟨ad257, e257, hx257_0⟩ := Kd.at_int HR0.out x5_1 p257 q257
        cases e257
        replace p257 := eq_true p257
        replace q257 := eq_true q257
        have p258 : 0 ≤ (x5_1 : Int) := of_decide_eq_true (by first | (with_reducible assumption) | assumption)
        have q258 : x5_1 < (l1.length : Int) := of_decide_eq_true (by first | (with_reducible assumption) | assumption)
        obtain ⟨ad258, e258, hx258_0⟩ := Kd.at_int HR1.out x5_1 p258 q258
        cases e258
        replace p258 := eq_true p258
        replace q258 := eq_true q258
        go_wp2
        repeat (go_quiet (fail); try go_wp2)
        go_roundg k1
        case measure => have := HK1.out; omega
        case rel => exact ⟨(wrap64 (x5_1 + 1)), (by first | rfl | (simp; done) | (simp [*]; done)), H', ⟨by have := HK1.out; omega⟩, by repeat (first | exact Drawn0.refl _ | apply Drawn0.step)⟩
       ·
        rw [if_neg c7] at H
        have c7b0 : ((rd l0 x5_1) == (rd l1 x5_1)) = false := beq_eq_false_iff_ne.mpr c7
        have c7b1 : ((rd l0 x5_1) != (rd l1 x5_1)) = true := bne_iff_ne.mpr c7
        obtain rfl := Option.some.inj H
        have p257 : 0 ≤ (x5_1 : Int) := of_decide_eq_true (by first | (with_reducible assumption) | assumption)
        have q257 : x5_1 < (l0.length : Int) := of_decide_eq_true (by first | (with_reducible assumption) | assumption)
        obtain ⟨ad257, e257, hx257_0⟩ := Kd.at_int HR0.out x5_1 p257 q257
        cases e257
        replace p257 := eq_true p257
        replace q257 := eq_true q257
        have p258 : 0 ≤ (x5_1 : Int) := of_decide_eq_true (by first | (with_reducible assumption) | assumption)
        have q258 : x5_1 < (l1.length : Int) := of_decide_eq_true (by first | (with_reducible assumption) | assumption)
        obtain ⟨ad258, e258, hx258_0⟩ := Kd.at_int HR1.out x5_1 p258 q258
        cases e258
        replace p258 := eq_true p258
        replace q258 := eq_true q258
        go_wp2
        repeat (go_quiet (fail); try go_wp2)
        go_ret
        exact ⟨by first | rfl | (simp; done) | (simp [*]; done), by repeat (first | exact Drawn0.refl _ | apply Drawn0.step)⟩
      ·
       rw [if_neg c6] at H
       exact absurd H (by simp)
     ·
      rw [if_neg c5] at H
      exact absurd H (by simp)
    ·
     rw [if_neg c4] at H
     have c4b0 : decide (x5_1 < (l0.length : Int)) = false := decide_eq_false c4
     clear c4
     obtain rfl := Option.some.inj H
     go_wp2
     repeat (go_quiet (fail); try go_wp2)
     go_ret
     exact ⟨by first | rfl | (simp; done) | (simp [*]; done), by repeat (first | exact Drawn0.refl _ | apply Drawn0.step)⟩
 ·
  rw [if_neg c3] at H
  have c3b0 : ((l0.length : Int) == (l1.length : Int)) = false := beq_eq_false_iff_ne.mpr c3
  have c3b1 : ((l0.length : Int) != (l1.length : Int)) = true := bne_iff_ne.mpr c3
  have c3b2 : (l0.length == l1.length) = false := by first | simpa using c3 | (simp at c3 ⊢; omega)
  obtain rfl := Option.some.inj H
  go_enter Try.func12, Try.ntmps12
  go_wp2
  repeat (go_quiet (fail); try go_wp2)
  go_ret
  exact ⟨by first | rfl | (simp; done) | (simp [*]; done), by repeat (first | exact Drawn0.refl _ | apply Drawn0.step)⟩

end Go.Proofs.Ytfhcolhiolgikaa.T
