import Derived.Test.YtaldbabkdoabkaaProg
import Derived.Test.YtaldbabkdoabkaaQV
import Derived.Test.YtaldbabkdoabkaaQA
import Derived.Test.YtaldbabkdoabkaaQD
import Derived.Test.YtaldbabkdoabkaaQE
import Derived.Test.YtaldbabkdoabkaaQH
import Derived.Test.YtaldbabkdoabkaaQJ
import Derived.Test.YtaldbabkdoabkaaQK
namespace Go.Proofs.Ytaldbabkdoabkaa.T
open Go.RowKit Go.Proofs.YtaldbabkdoabkaaW.PrintWords Go.Proofs.YtaldbabkdoabkaaW.PrintLast Go.Proofs.YtaldbabkdoabkaaW.PrintMore
attribute [local go_sem] max2_int min2_int max_two min_two max_three min_three max_four min_four   -- for this text's walks alone
set_option linter.unusedVariables false
set_option linter.unusedSimpArgs false
/-! ### the chapter's example: what each call tells -/
def dA : ByteArray := ⟨#[97, 98]⟩
def dB : ByteArray := ⟨#[98]⟩
def dF1 : S48 := ⟨dA, [1, 2, 3], false⟩
def dF2 : S48 := ⟨dA, [1, 2], true⟩
theorem aw_new : disk_New.f 40 5 = some (5, [], true) := by kernel_rfl
theorem aw_do1 : disk_Do.f 40 5 [] 0 dA ⟨#[]⟩ [1, 2, 3] = some (5, [dF1], 0) := by kernel_rfl
theorem aw_do2 : disk_Do.f 40 5 [dF1] 0 dB ⟨#[]⟩ [1, 2, 3] = some (5, [dF1], 4) := by kernel_rfl
theorem aw_crash : disk_Crash.f 40 5 [dF1] [2] = some (5, [dF2]) := by kernel_rfl
theorem aw_read : disk_Read.f 40 5 [dF2] dA = some ([1, 2], 0) := by kernel_rfl
theorem aw_same : disk_Same.f 40 5 [dF1] 5 [dF1] = some true := by kernel_rfl
theorem aw_bytes : catchwordref01_Bytes.f 40 [1, 2] [1, 2] = some true := by kernel_rfl
theorem aw_find : disk_Find.f 40 5 [dF2] dA = some 0 := by kernel_rfl
theorem aw_used : disk_Used.f 40 5 [dF1] = some 3 := by kernel_rfl
theorem aw_may : disk_May.f 40 5 [dF1] = some true := by kernel_rfl
/-! ### catchwordlaw03.awake (function 10), by hand -/
theorem lit_C1 {W : World} {k : IntKind} {g : Nat} {t : TypeId} {cs : Array Value} (xs : List Int) (h : W.heap[g]? = some (.cells cs t (0, 0))) (he : cs.toList = xs.map (Value.int k)) (hl : xs.length ≤ 1000) : Kd.C (Kd.int k) W (some ⟨g, 0, none⟩) xs.length xs := by
  refine ⟨rfl, by omega, fun _ => ⟨⟨g, 0, none⟩, rfl, fun j p hp => ⟨[.int k p], rfl, rfl, fun i u hu => ?_⟩⟩⟩
  have hi : i = 0 := by have := (List.getElem?_eq_some_iff.1 hu).1; simpa using this
  subst hi
  have e : (⟨g, 0, none⟩ : Addr).add (j * (Kd.int k).sz + 0) = ⟨g, j, none⟩ := by rw [add_plain]; congr 1; show j * 1 + 0 = j; omega
  rw [e, blk_cell h, ← Array.getElem?_toList, he, List.getElem?_map, hp]
  exact hu
theorem do1_told (A : Option Addr) (c g : Nat) (W : World) (hC : Kd.C k48 W A 0 []) (hg : W.heap[g]? = some (.cells #[.int .u8 1, .int .u8 2, .int .u8 3] 5 (0, 0))) :
    Calls Try.prog 25 #[.agg #[.int .i64 5, .slice A 0 c], .agg #[.int .i64 0, .string ⟨#[97, 98]⟩, .string ⟨#[]⟩, .slice (some ⟨g, 0, none⟩) 3 3]] W fun e w' => ∃ (A' : Option Addr) (c' : Nat), e = .returned (.tuple #[.agg #[.int .i64 5, .slice A' 1 c'], .int .i64 0]) ∧ Aside0 (1 ≤ c') ∧ Aside0 (Kd.V k48 48 w' 0 (fun k_ => W.heap.size ≤ k_) (.slice A' 1 c') [dF1]) ∧ Below W.heap.size W w' := by
  refine (disk_Do.calls 40 5 A c [] 0 dA ⟨#[]⟩ (some ⟨g, 0, none⟩) 3 [1, 2, 3] _ _ _ W hC (Nat.zero_le _) (lit_C1 [1, 2, 3] hg rfl (by decide)) (Nat.le_refl _) aw_do1).mono ?_
  rintro e w' ⟨v, rfl, hV, hb⟩
  obtain ⟨A', c', rfl⟩ := Kd.V_slice hV
  exact ⟨A', c', rfl, ⟨(Kd.V_reads' hV).2.1⟩, ⟨hV⟩, hb⟩
theorem do2_told (A : Option Addr) (c g : Nat) (W : World) (hC : Kd.C k48 W A 1 [dF1]) (hc : 1 ≤ c) (hg : W.heap[g]? = some (.cells #[.int .u8 1, .int .u8 2, .int .u8 3] 5 (0, 0))) :
    Calls Try.prog 25 #[.agg #[.int .i64 5, .slice A 1 c], .agg #[.int .i64 0, .string ⟨#[98]⟩, .string ⟨#[]⟩, .slice (some ⟨g, 0, none⟩) 3 3]] W fun e w' => ∃ (A' : Option Addr) (c' : Nat), e = .returned (.tuple #[.agg #[.int .i64 5, .slice A' 1 c'], .int .i64 4]) ∧ Aside0 (1 ≤ c') ∧ Aside0 (Kd.V k48 48 w' 0 (fun k_ => W.heap.size ≤ k_) (.slice A' 1 c') [dF1]) ∧ Below W.heap.size W w' := by
  refine (disk_Do.calls 40 5 A c [dF1] 0 dB ⟨#[]⟩ (some ⟨g, 0, none⟩) 3 [1, 2, 3] _ _ _ W hC hc (lit_C1 [1, 2, 3] hg rfl (by decide)) (Nat.le_refl _) aw_do2).mono ?_
  rintro e w' ⟨v, rfl, hV, hb⟩
  obtain ⟨A', c', rfl⟩ := Kd.V_slice hV
  exact ⟨A', c', rfl, ⟨(Kd.V_reads' hV).2.1⟩, ⟨hV⟩, hb⟩
theorem crash_told (A : Option Addr) (c g : Nat) (W : World) (hC : Kd.C k48 W A 1 [dF1]) (hc : 1 ≤ c) (hg : W.heap[g]? = some (.cells #[.int .i64 2] 3 (0, 0))) :
    Calls Try.prog 27 #[.agg #[.int .i64 5, .slice A 1 c], .slice (some ⟨g, 0, none⟩) 1 1] W fun e w' => ∃ (A' : Option Addr) (c' : Nat), e = .returned (.agg #[.int .i64 5, .slice A' 1 c']) ∧ Aside0 (1 ≤ c') ∧ Aside0 (Kd.V k48 48 w' 0 (fun k_ => W.heap.size ≤ k_) (.slice A' 1 c') [dF2]) ∧ Below W.heap.size W w' := by
  refine (disk_Crash.calls 40 5 A c [dF1] (some ⟨g, 0, none⟩) 1 [2] _ _ W hC hc (lit_C1 [2] hg rfl (by decide)) (Nat.le_refl _) aw_crash).mono ?_
  rintro e w' ⟨v, rfl, hV, hb⟩
  obtain ⟨A', c', rfl⟩ := Kd.V_slice hV
  exact ⟨A', c', rfl, ⟨(Kd.V_reads' hV).2.1⟩, ⟨hV⟩, hb⟩
theorem read_told (A : Option Addr) (c : Nat) (W : World) (hC : Kd.C k48 W A 1 [dF2]) (hc : 1 ≤ c) :
    Calls Try.prog 12 #[.agg #[.int .i64 5, .slice A 1 c], .string ⟨#[97, 98]⟩] W fun e w' => ∃ (A' : Option Addr) (c' : Nat), e = .returned (.tuple #[.slice A' 2 c', .int .i64 0]) ∧ Aside0 (2 ≤ c') ∧ Aside0 (Kd.C (Kd.int .u8) w' A' 2 [1, 2]) ∧ Below W.heap.size W w' := by
  refine (disk_Read.calls 40 5 A c [dF2] dA [1, 2] 0 W hC hc aw_read).mono ?_
  rintro e w' ⟨v, rfl, hR, hb⟩
  obtain ⟨A', c', rfl, h1, h2⟩ := Kd.R_reads hR
  exact ⟨A', c', rfl, ⟨h1⟩, ⟨h2⟩, hb⟩
theorem same_told (A B : Option Addr) (c d : Nat) (W : World) (hC : Kd.C k48 W A 1 [dF1]) (hc : 1 ≤ c) (hD : Kd.C k48 W B 1 [dF1]) (hd : 1 ≤ d) :
    Calls Try.prog 23 #[.agg #[.int .i64 5, .slice A 1 c], .agg #[.int .i64 5, .slice B 1 d]] W fun e w' => e = .returned (.bool true) ∧ Below W.heap.size W w' :=
  disk_Same.calls 40 5 A c [dF1] 5 B d [dF1] true W hC hc hD hd aw_same
theorem bytes_told (A : Option Addr) (c g : Nat) (W : World) (hC : Kd.C (Kd.int .u8) W A 2 [1, 2]) (hc : 2 ≤ c) (hg : W.heap[g]? = some (.cells #[.int .u8 1, .int .u8 2] 5 (0, 0))) :
    Calls Try.prog 14 #[.slice A 2 c, .slice (some ⟨g, 0, none⟩) 2 2] W fun e w' => e = .returned (.bool true) ∧ Below W.heap.size W w' := by
  refine (catchwordref01_Bytes.calls 40 A c [1, 2] (some ⟨g, 0, none⟩) 2 [1, 2] true W hC hc (lit_C1 [1, 2] hg rfl (by decide)) (Nat.le_refl _) aw_bytes).mono ?_
  rintro e w' ⟨rfl, hd⟩
  exact ⟨rfl, drawn_below hd⟩
theorem find_told (A : Option Addr) (c : Nat) (W : World) (hC : Kd.C k48 W A 1 [dF2]) (hc : 1 ≤ c) :
    Calls Try.prog 21 #[.agg #[.int .i64 5, .slice A 1 c], .string ⟨#[97, 98]⟩] W fun e w' => e = .returned (.int .i64 0) ∧ Below W.heap.size W w' := disk_Find.calls 40 5 A c [dF2] dA 0 W hC hc aw_find
theorem used_told (A : Option Addr) (c : Nat) (W : World) (hC : Kd.C k48 W A 1 [dF1]) (hc : 1 ≤ c) :
    Calls Try.prog 19 #[.agg #[.int .i64 5, .slice A 1 c]] W fun e w' => e = .returned (.int .i64 3) ∧ Below W.heap.size W w' := disk_Used.calls 40 5 A c [dF1] 3 W hC hc aw_used
theorem may_told (A : Option Addr) (c : Nat) (W : World) (hC : Kd.C k48 W A 1 [dF1]) (hc : 1 ≤ c) :
    Calls Try.prog 18 #[.agg #[.int .i64 5, .slice A 1 c]] W fun e w' => e = .returned (.bool true) ∧ Below W.heap.size W w' := disk_May.calls 40 5 A c [dF1] true W hC hc aw_may
def catchwordlaw03_awake.f : Option Bool := some true
set_option maxHeartbeats 8000000 in
set_option maxRecDepth 100000 in
theorem awake_calls (w : World) : Calls Try.prog 10 #[] w fun e w' => e = .returned (.bool true) ∧ Below w.heap.size w w' := by
  have hu24 := Try.underlying24
  have hu39 := Try.underlying39
  go_enter Try.func10, Try.ntmps10
  go_upto_region 2 with (first | (go_at_call 15; (refine (disk_New.calls 40 5 5 [] true _ aw_new).mono ?_); rintro e w1 ⟨v, rfl, hS, hb⟩; obtain ⟨Av, cv, ev⟩ := Kd.R_slice (Kd.S_R hS); subst ev; have HS := Aside0.mk (show Kd.C k48 w1 Av 0 [] from (Kd.R_reads' (Kd.S_R hS)).2.2); have HB1 := Aside0.mk hb; clear hS hb))
  have BD := Aside0.mk (blk_new w1 (.cells #[.int .i64 5, .slice Av 0 cv] 24))
  have HB2 := Aside0.mk (below_alloc HB1.out (.cells #[.int .i64 5, .slice Av 0 cv] 24))
  have HS2 := Aside0.mk (Kd.C_below HS.out (below_alloc (Below.refl _ _) (.cells #[.int .i64 5, .slice Av 0 cv] 24)))
  have HD0 := Aside0.mk (show w.heap.size ≤ w1.heap.size from below_size HB1.out)
  generalize (w1.alloc (.cells #[.int .i64 5, .slice Av 0 cv] 24)) = w2 at *
  generalize w1.heap.size = D at *
  have p0 : w2.cell? ⟨D, 0, none⟩ = some (.int .i64 5) := (blk_cell BD.out 0).trans rfl
  have p1 : w2.cell? ⟨D, 1, none⟩ = some (.slice Av 0 cv) := (blk_cell BD.out 1).trans rfl
  clear HS HB1
  go_upto_region 3 with (first | (go_at_call 25; (refine (do1_told Av cv _ _ (Kd.C_below HS2.out (below_alloc (Below.refl _ _) _)) (blk_new _ _)).mono ?_); rintro e w3 ⟨A2, c2, rfl, HC2, HV2, hb⟩; have hb2 := below_step (below_alloc (Below.refl w2.heap.size w2) _) hb; have HB3 := Aside0.mk (below_step HB2.out hb2); have BD3 := Aside0.mk (blk_below BD.out hb2); have HDW := Aside0.mk (show D < (w2.alloc (.cells #[.int .u8 1, .int .u8 2, .int .u8 3] 5)).heap.size from blk_lt (blk_alloc BD.out _)); have q0 : w3.cell? ⟨D, 0, none⟩ = some (.int .i64 5) := (blk_cell BD3.out 0).trans rfl; have q1 : w3.cell? ⟨D, 1, none⟩ = some (.slice Av 0 cv) := (blk_cell BD3.out 1).trans rfl; have f0 := blk_frozen BD3.out 0; have f1 := blk_frozen BD3.out 1; clear hb hb2 p0 p1))
  have hV4 := Kd.V_far (p := ⟨D, 1, none⟩) (Kd.V_far (p := ⟨D, 0, none⟩) HV2.out (fun k hk => by have h1 := HDW.out; have h2 : _ ≤ k := hk; show k ≠ D; omega) (.int .i64 5)) (fun k hk => by have h1 := HDW.out; have h2 : _ ≤ k := hk; show k ≠ D; omega) (.slice A2 1 c2)
  have CD := Aside0.mk (Kd.V_reads' hV4).2.2
  have BD4 := Aside0.mk (show ((w3.setCell ⟨D, 0, none⟩ (.int .i64 5)).setCell ⟨D, 1, none⟩ (.slice A2 1 c2)).heap[D]? = some (.cells #[.int .i64 5, .slice A2 1 c2] 24 (0, 0)) from blk_set (blk_set BD3.out 0 _) 1 _)
  have HB4 := Aside0.mk (below_set (j := 1) (v := .slice A2 1 c2) (below_set (j := 0) (v := .int .i64 5) HB3.out HD0.out) HD0.out)
  clear hV4 HV2 BD3 HB3 BD HB2 HS2 q0 q1 f0 f1 HDW
  generalize ((w3.setCell ⟨D, 0, none⟩ (.int .i64 5)).setCell ⟨D, 1, none⟩ (.slice A2 1 c2)) = w4 at *
  have p0 : w4.cell? ⟨D, 0, none⟩ = some (.int .i64 5) := (blk_cell BD4.out 0).trans rfl
  have p1 : w4.cell? ⟨D, 1, none⟩ = some (.slice A2 1 c2) := (blk_cell BD4.out 1).trans rfl
  go_upto_region 4 with (first | (go_at_call 25; (refine (do2_told A2 c2 _ _ (Kd.C_below CD.out (below_alloc (Below.refl _ _) _)) HC2.out (blk_new _ _)).mono ?_); rintro e w5 ⟨A3, c3, rfl, HC3, HV3, hb⟩; have hb2 := below_step (below_alloc (Below.refl w4.heap.size w4) _) hb; have HB5 := Aside0.mk hb2; clear hb hb2 p0 p1))
  have hx := below_step HB5.out (below_alloc (Below.refl w5.heap.size w5) (.cells #[.int .i64 5, .slice A3 1 c3] 24))
  have BX := Aside0.mk (blk_new w5 (.cells #[.int .i64 5, .slice A3 1 c3] 24))
  have CX := Aside0.mk (Kd.C_below (Kd.V_reads' HV3.out).2.2 (below_alloc (Below.refl w5.heap.size w5) (.cells #[.int .i64 5, .slice A3 1 c3] 24)))
  generalize (w5.alloc (.cells #[.int .i64 5, .slice A3 1 c3] 24)) = w6 at *
  have n1_ := Aside0.mk (blk_below BD4.out hx)
  have n2_ := Aside0.mk (Kd.C_below CD.out hx)
  have n3_ := Aside0.mk (below_step HB4.out hx)
  clear BD4 CD HB4 hx HB5 HV3
  have BD := n1_
  have CD := n2_
  have HB := n3_
  clear n1_ n2_ n3_
  generalize w5.heap.size = X at *
  have p0 : w6.cell? ⟨D, 0, none⟩ = some (.int .i64 5) := (blk_cell BD.out 0).trans rfl
  have p1 : w6.cell? ⟨D, 1, none⟩ = some (.slice A2 1 c2) := (blk_cell BD.out 1).trans rfl
  go_upto_region 5 with (first | (go_at_call 27; (refine (crash_told A2 c2 _ _ (Kd.C_below CD.out (below_alloc (Below.refl _ _) _)) HC2.out (blk_new _ _)).mono ?_); rintro e w7 ⟨A4, c4, rfl, HC4, HV4, hb⟩; have hb2 := below_step (below_alloc (Below.refl w6.heap.size w6) _) hb; have HB7 := Aside0.mk hb2; clear hb hb2 p0 p1))
  have hx := below_step HB7.out (below_alloc (Below.refl w7.heap.size w7) (.cells #[.int .i64 5, .slice A4 1 c4] 24))
  have BY := Aside0.mk (blk_new w7 (.cells #[.int .i64 5, .slice A4 1 c4] 24))
  have CY := Aside0.mk (Kd.C_below (Kd.V_reads' HV4.out).2.2 (below_alloc (Below.refl w7.heap.size w7) (.cells #[.int .i64 5, .slice A4 1 c4] 24)))
  generalize (w7.alloc (.cells #[.int .i64 5, .slice A4 1 c4] 24)) = w8 at *
  have n1_ := Aside0.mk (blk_below BD.out hx)
  have n2_ := Aside0.mk (Kd.C_below CD.out hx)
  have n3_ := Aside0.mk (below_step HB.out hx)
  have n4_ := Aside0.mk (blk_below BX.out hx)
  have n5_ := Aside0.mk (Kd.C_below CX.out hx)
  clear BD CD HB BX CX hx HB7 HV4
  have BD := n1_
  have CD := n2_
  have HB := n3_
  have BX := n4_
  have CX := n5_
  clear n1_ n2_ n3_ n4_ n5_
  generalize w7.heap.size = Y at *
  have p0 : w8.cell? ⟨Y, 0, none⟩ = some (.int .i64 5) := (blk_cell BY.out 0).trans rfl
  have p1 : w8.cell? ⟨Y, 1, none⟩ = some (.slice A4 1 c4) := (blk_cell BY.out 1).trans rfl
  go_upto_region 6 with (first | (go_at_call 12; (refine (read_told A4 c4 _ CY.out HC4.out).mono ?_); rintro e w9 ⟨A5, c5, rfl, HC5, HR5, hb⟩; have n1_ := Aside0.mk (blk_below BD.out hb); have n2_ := Aside0.mk (Kd.C_below CD.out hb); have n3_ := Aside0.mk (below_step HB.out hb); have n4_ := Aside0.mk (blk_below BX.out hb); have n5_ := Aside0.mk (Kd.C_below CX.out hb); have n6_ := Aside0.mk (blk_below BY.out hb); have n7_ := Aside0.mk (Kd.C_below CY.out hb); clear BD CD HB BX CX BY CY hb p0 p1))
  have p0 : w9.cell? ⟨D, 0, none⟩ = some (.int .i64 5) := (blk_cell n1_.out 0).trans rfl
  have p1 : w9.cell? ⟨D, 1, none⟩ = some (.slice A2 1 c2) := (blk_cell n1_.out 1).trans rfl
  have x0 : w9.cell? ⟨X, 0, none⟩ = some (.int .i64 5) := (blk_cell n4_.out 0).trans rfl
  have x1 : w9.cell? ⟨X, 1, none⟩ = some (.slice A3 1 c3) := (blk_cell n4_.out 1).trans rfl
  have y0 : w9.cell? ⟨Y, 0, none⟩ = some (.int .i64 5) := (blk_cell n6_.out 0).trans rfl
  have y1 : w9.cell? ⟨Y, 1, none⟩ = some (.slice A4 1 c4) := (blk_cell n6_.out 1).trans rfl
  have HB9 := n3_
  have CD := n2_
  have CX := n5_
  have CY := n7_
  clear n1_ n2_ n3_ n4_ n5_ n6_ n7_
  go_wp2_with (first
    | (go_at_call 23; (refine (same_told A3 A2 c3 c2 _ CX.out HC3.out CD.out HC2.out).mono ?_); rintro e w10 ⟨rfl, hb⟩; have HB10 := Aside0.mk hb; replace p0 := pw_cell_below hb p0; replace p1 := pw_cell_below hb p1; replace y0 := pw_cell_below hb y0; replace y1 := pw_cell_below hb y1; clear hb x0 x1)
    | (go_at_call 14; (refine (bytes_told A5 c5 _ _ (Kd.C_below HR5.out (below_alloc HB10.out _)) HC5.out (blk_new _ _)).mono ?_); rintro e w11 ⟨rfl, hb⟩; have hb2 := below_step (below_alloc (Below.refl w10.heap.size w10) _) hb; have HB11 := Aside0.mk (below_step HB10.out hb2); replace p0 := pw_cell_below hb2 p0; replace p1 := pw_cell_below hb2 p1; replace y0 := pw_cell_below hb2 y0; replace y1 := pw_cell_below hb2 y1; clear hb hb2)
    | (go_at_call 21; (refine (find_told A4 c4 _ (Kd.C_below CY.out HB11.out) HC4.out).mono ?_); rintro e w12 ⟨rfl, hb⟩; have HB12 := Aside0.mk (below_step HB11.out hb); replace p0 := pw_cell_below hb p0; replace p1 := pw_cell_below hb p1; clear hb y0 y1)
    | (go_at_call 19; (refine (used_told A2 c2 _ (Kd.C_below CD.out HB12.out) HC2.out).mono ?_); rintro e w13 ⟨rfl, hb⟩; have HB13 := Aside0.mk (below_step HB12.out hb); replace p0 := pw_cell_below hb p0; replace p1 := pw_cell_below hb p1; clear hb)
    | (go_at_call 18; (refine (may_told A2 c2 _ (Kd.C_below CD.out HB13.out) HC2.out).mono ?_); rintro e w14 ⟨rfl, hb⟩; have HB14 := Aside0.mk (below_step HB13.out hb); clear hb))
  go_ret
  exact ⟨rfl, below_step HB9.out HB14.out⟩
theorem catchwordlaw03_awake.calls (r : Bool) (w : World) (h : catchwordlaw03_awake.f = some r) : Calls Try.prog 10 #[] w fun e w' => e = .returned (.bool r) ∧ Below w.heap.size w w' := by
  obtain rfl := Option.some.inj h
  exact awake_calls w
end Go.Proofs.Ytaldbabkdoabkaa.T
