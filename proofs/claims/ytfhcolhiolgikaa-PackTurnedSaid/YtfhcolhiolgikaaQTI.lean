import Derived.Test.YtfhcolhiolgikaaQTV
import Derived.Test.YtfhcolhiolgikaaProg
import Derived.Below
import Derived.Deep.Draws
import Derived.Deep.AppendLies
import Derived.Maps.AppendAt
import Derived.OwnWalk
import Derived.Laws.BytesArg
import Derived.Laws.MakeOwn
import Derived.Laws.OwnMore
import Derived.Deep.OwnRows
import Derived.Tactics
import Derived.Lib.ConvBytes
import Derived.Laws.Slices
import Derived.WalkKit
import Derived.KernelRfl
import Derived.RowKit3
import Derived.Deep.LoopGhost
import Derived.Deep.QuietTactic
import Derived.BigQuiet
import Derived.WideLaws
import Derived.Deep.DeepCutAuto
import Derived.Deep.CutBlock
import Derived.Deep.RegionHeld3
import Derived.Laws.Rows
import Derived.Lib.AppendStr
import Derived.ArgAppend
import Derived.Laws.IdiomCopy
import Derived.OrdersHeld
import Derived.Laws.BitsLemmas
import Derived.RowKit
import Derived.Test.YtfhcolhiolgikaaQTA
import Derived.Test.YtfhcolhiolgikaaQTB
import Derived.Test.YtfhcolhiolgikaaQTH
import Derived.Test.YtfhcolhiolgikaaQTG
import Derived.Test.YtfhcolhiolgikaaQTF
/- Texts of this claim, laid together by a program (merge.py): Pl, Sm, Wi, Un, Dp. -/
/- Written by hp.py, this session's own program, out of the translation of this seat: Lean functions for the Go functions, and the proof that each call comes to what its Lean function says. -/
namespace Go.Proofs.Ytfhcolhiolgikaa.T
open Go.RowKit Go.Proofs.YtfhcolhiolgikaaW.PrintWords Go.Proofs.YtfhcolhiolgikaaW.PrintLast Go.Proofs.YtfhcolhiolgikaaW.PrintMore
attribute [local go_sem] max2_int min2_int max_two min_two max_three min_three max_four min_four   -- for this text's walks alone
set_option linter.unusedVariables false
set_option linter.unusedSimpArgs false
/-! ### seg.placed (23), by hand -/
open Go.Proofs.Ytfhcolhiolgikaa.Plain
theorem wstepB {i : Nat} (h : i ≤ 4611686018427387904) : wrap64 ((i : Int) + 1) = ((i + 1 : Nat) : Int) := by rw [wid (by omega) (by omega)]; omega
def kvP (x : Int × Int) : Value := .agg #[.int .i64 x.1, .int .i64 x.2]
theorem kvP_inj {x y : Int × Int} (h : kvP x = kvP y) : x = y := by
 unfold kvP at h
 simp at h
 exact Prod.ext h.1 h.2
/-- The places that were seen. -/
def SeenAt (w : World) (M : Nat) (s : List (Int × Int)) : Prop := MapAt kvP 82 w M s.length (fun x => if x ∈ s then 1 else 0) s.length
theorem seen_put {w2 : World} {M : Nat} {s : List (Int × Int)} {x : Int × Int} (hx : x ∉ s) (h : MapAt kvP 82 w2 M (s.length + 1) (fun y => if y = x then 1 else if y ∈ s then 1 else 0) (if (if x ∈ s then (1 : Int) else 0) = 0 then s.length + 1 else s.length)) : SeenAt w2 M (x :: s) := by
 rw [if_neg hx, if_pos rfl] at h
 unfold SeenAt
 rw [List.length_cons]
 have e : (fun y : Int × Int => if y ∈ x :: s then (1 : Int) else 0) = fun y => if y = x then 1 else if y ∈ s then 1 else 0 := by
  funext y
  by_cases h1 : y = x
  ·
   simp [h1]
  ·
   simp [h1]
 rw [e]
 exact h
/-- What a walk of placed keeps. -/
structure PlSt (w : World) (S M : Nat) (cs : Array Value) (seen : List (Int × Int)) (v4 : Value) (names : List ByteArray) (wr : World) : Prop where
 box : wr.heap[S]? = some (.cells cs 26 (0, 0))
 map : SeenAt wr M seen
 row : Kd.R Kd.string 9 wr w.heap.size (fun k => k ≠ M ∧ k ≠ S) v4 names
 bel : Below w.heap.size w wr
 ge : w.heap.size ≤ S ∧ w.heap.size ≤ M ∧ S ≠ M
theorem PlSt.step {w wr w2 : World} {S M : Nat} {cs : Array Value} {seen : List (Int × Int)} {v4 : Value} {names : List ByteArray} (h : PlSt w S M cs seen v4 names wr) (hb : Below wr.heap.size wr w2) : PlSt w S M cs seen v4 names w2 :=
 ⟨blk_below h.box hb, mapAt_below h.map hb, Kd.R_below h.row hb, below_step h.bel hb, h.ge⟩
theorem PlSt.turn {w wr w2 : World} {S M : Nat} {cs : Array Value} {seen seen2 : List (Int × Int)} {v4 : Value} {names : List ByteArray} (h : PlSt w S M cs seen v4 names wr) (ht : wr.mapTurned w2 M) (hm : SeenAt w2 M seen2) : PlSt w S M cs seen2 v4 names w2 :=
 ⟨(ht.grown.block S (blk_lt h.box) (by simp only [ne_eq, Option.some.injEq]; exact h.ge.2.2)).trans h.box, hm, Kd.R_grown h.row ht.grown (fun k hk => by simp only [ne_eq, Option.some.injEq]; exact hk.1), h.bel.grown ht.grown h.bel.size (fun k hk => by cases hk; exact h.ge.2.1), h.ge⟩
theorem PlSt.app {w wr w2 : World} {S M : Nat} {cs : Array Value} {seen : List (Int × Int)} {v4 v5 : Value} {names names2 : List ByteArray} (h : PlSt w S M cs seen v4 names wr) (hr : Kd.R Kd.string 9 w2 w.heap.size (fun k => k ≠ M ∧ k ≠ S) v5 names2) (hg : wr.grownBy w2 v4.ownBlock) (hb : Below w.heap.size w w2) : PlSt w S M cs seen v5 names2 w2 := by
 have h1 : ∀ k, v4.ownBlock = some k → k ≠ M ∧ k ≠ S := h.row.1
 refine ⟨(hg.block S (blk_lt h.box) (fun e => (h1 S e.symm).2 rfl)).trans h.box, ?_, hr, hb, h.ge⟩
 obtain ⟨D, m1, m2, m3⟩ := h.map
 exact ⟨D, m1.kept hg (fun e => (h1 M e.symm).1 rfl), m2, m3⟩
theorem seen_entry {w : World} {M : Nat} {s : List (Int × Int)} {d a : Int} (h : SeenAt w M s) (hd : 0 ≤ d ∧ d < 64) (ha : 0 ≤ a ∧ a < 120) (hn : s.length < maxLen) {F : Int} (hF : (if (d, a) ∈ s then (1 : Int) else 0) = F) :
  ∃ (v0 : Value) (st : Nat) (w1 w2 : World), (Instr.lookup 80 (.map (some M)) (.agg #[.int .i64 d, .int .i64 a]) false).run Try.prog w = .ok (.int .i64 F) w ∧ (Instr.mapEntry 80 (.map (some M)) (.agg #[.int .i64 d, .int .i64 a])).run Try.prog w = .ok (.tuple #[v0, goInt st]) w1 ∧
   (Instr.lookup 80 (.map (some M)) (.agg #[.int .i64 d, .int .i64 a]) false).run Try.prog w1 = .ok (.int .i64 F) w1 ∧ w.mapTurned w1 M ∧ (Instr.entryStore 80 (.map (some M)) (goInt st) (.int .i64 (F + 1))).run Try.prog w1 = .ok () w2 ∧
   (Instr.lookup 80 (.map (some M)) (.agg #[.int .i64 d, .int .i64 a]) false).run Try.prog w2 = .ok (.int .i64 (F + 1)) w2 ∧ w.mapTurned w2 M ∧ ((d, a) ∉ s → SeenAt w2 M ((d, a) :: s)) := by
 have wf : ∀ n : Int, 0 ≤ n → n < 120 → (Lit.int .i64 n).wf = true := by
  intro n h0 h1
  have h := wrap64_wf n
  rw [wid (by omega) (by omega)] at h
  exact h
 obtain ⟨lk, hk⟩ := key82 (wf d hd.1 (by omega)) (wf a ha.1 ha.2)
 have hk' : keyOf Try.prog 82 (kvP (d, a)) = some lk := hk
 have hF1 : F = 0 ∨ F = 1 := by rw [← hF]; split <;> simp
 obtain ⟨v0, st, w1, w2, h1, h2, h3, h4, h5, h6⟩ := mapAt_entry (c := F + 1) h law82 Try.underlying80 hk' hn kvP_inj (by omega) (wf _ (by omega) (by omega))
 have h0 := mapAt_look (w := w) h (Maps.Keyed.of_law law82) Try.underlying80 hk'
 have h7 := mapAt_look h5 (Maps.Keyed.of_law law82) Try.underlying80 hk'
 rw [hF] at h0 h2
 rw [if_pos rfl] at h7
 refine ⟨v0, st, w1, w2, h0, h1, h2, h3, h4, h7, h6, fun hx => ?_⟩
 have hF0 : F = 0 := by rw [if_neg hx] at hF; exact hF.symm
 subst hF0
 exact seen_put hx h5
set_option maxHeartbeats 8000000 in
set_option maxRecDepth 100000 in
theorem placed_calls (A0 : Option Addr) (c0 : Nat) (ids : List ByteArray) (A1 : Option Addr) (c1 : Nat) (keys : List Int) (A2 : Option Addr) (c2 : Nat) (lens : List Int) (A3 : Option Addr) (c3 : Nat) (terms : List S44) (so : Bool) (w : World)
  (hC2 : Kd.C (Kd.int .i64) w A2 lens.length lens) (hC3 : Kd.C k44 w A3 terms.length terms) (hl : lens.length ≤ 64) (hb120 : ∀ n ∈ lens, 0 ≤ n ∧ n ≤ 120) (ht : terms.length ≤ 4398046511104) (hpl : ∀ t ∈ terms, t.f1.length ≤ 4398046511104) :
  Calls Try.prog 23 #[.agg #[.slice A0 ids.length c0, .slice A1 keys.length c1, .slice A2 lens.length c2, .slice A3 terms.length c3, .bool so]] w fun e w' => e = .returned (.bool (placedP terms lens)) ∧ Below w.heap.size w w' := by
 have hu26 := Try.underlying26
 have hu44 := Try.underlying44
 have hu64 := Try.underlying64
 have hu82 := Try.underlying82
 have hu80 := Try.underlying80
 have HC2 := Aside0.mk hC2
 have HC3 := Aside0.mk hC3
 have HL := Aside0.mk hl
 have HBL := Aside0.mk hb120
 have HT := Aside0.mk ht
 have HPL := Aside0.mk hpl
 clear hC2 hC3 hl hb120 ht hpl
 have hmm := @run_makeMap Try.prog
 go_enter Try.func23, Try.ntmps23
 go_upto_region 1 with fail
 have b0 := blk_new w (.cells #[.slice A0 ids.length c0, .slice A1 keys.length c1, .slice A2 lens.length c2, .slice A3 terms.length c3, .bool so] 26)
 have bb := below_alloc (Below.refl w.heap.size w) (.cells #[.slice A0 ids.length c0, .slice A1 keys.length c1, .slice A2 lens.length c2, .slice A3 terms.length c3, .bool so] 26)
 generalize (w.alloc (.cells #[.slice A0 ids.length c0, .slice A1 keys.length c1, .slice A2 lens.length c2, .slice A3 terms.length c3, .bool so] 26)) = wb at *
 go_upto_region 3 with fail
 obtain ⟨S, hS⟩ : ∃ S, S = w.heap.size := ⟨_, rfl⟩
 obtain ⟨M, hM⟩ : ∃ M, M = wb.heap.size := ⟨_, rfl⟩
 have hst : PlSt w S M #[.slice A0 ids.length c0, .slice A1 keys.length c1, .slice A2 lens.length c2, .slice A3 terms.length c3, .bool so] [] (.slice none 0 0) [] (wb.alloc (.map #[] 0)) := by
  have h1 := blk_lt b0
  subst hS hM
  exact ⟨blk_below b0 (below_alloc (Below.refl _ _) _), mapAt_made kvP wb, Kd.R_nil _ _ _ _ _, below_alloc bb _, Nat.le_refl _, by omega, by omega⟩
 rw [← hM, ← hS]
 clear b0 bb hmm hS hM
 generalize (wb.alloc (.map #[] 0)) = w1 at *
 have ST := Aside0.mk hst
 clear hst
 generalize hcs : #[Value.slice A0 ids.length c0, .slice A1 keys.length c1, .slice A2 lens.length c2, .slice A3 terms.length c3, .bool so] = cs at ST
 have d3 : w1.cell? ⟨S, 3, none⟩ = some (.slice A3 terms.length c3) := (blk_cell ST.out.box 3).trans (by rw [← hcs]; rfl)
 have KCS := Aside0.mk hcs
 clear hcs
 go_wp2
 go_loopg [4, 18] (terms.length + 1) (fun kq v4 v18 w' => ∃ (i : Nat) (seen : List (Int × Int)), v18 = .int .i64 (i : Int) ∧ Aside0 (PlSt w S M cs seen v4 ((terms.take i).map (·.f0)) w') ∧ Aside0 (i ≤ terms.length ∧ terms.length - i < kq ∧ kq ≤ terms.length + 1 ∧ seen.length ≤ 7680 * i) ∧ Aside0 (plTerms lens (terms.drop i) seen = plTerms lens terms []))
 case atStart => exact ⟨0, [], rfl, ST, ⟨by omega, by omega, by omega, by simp⟩, ⟨rfl⟩⟩
 case round =>
  clear ST d3
  obtain ⟨i, seen, rfl, ST, HI, HP⟩ := hrel
  cases gk with
  | zero => exact absurd HI.out.2.1 (by omega)
  | succ k1 =>
   by_cases hlt : i < terms.length
   ·
    have c2b0 : decide ((i : Int) < (terms.length : Int)) = true := decide_eq_true (by omega)
    have c2b1 : decide (i < terms.length) = true := decide_eq_true hlt
    obtain ⟨t, ht⟩ : ∃ t, t = rd_T44 terms (i : Int) := ⟨_, rfl⟩
    obtain ⟨ad, A, c, e1, hx0, hx1, hl1, hi1⟩ := at_T44 HC3.out (i : Int) (by omega) (by omega)
    rw [← ht] at hx0 hx1 hl1 hi1
    cases e1
    rw [Int.toNat_natCast] at hx0 hx1
    replace hx0 := pw_cell_below ST.out.bel hx0
    replace hx1 := pw_cell_below ST.out.bel hx1
    have p1 : (0 : Int) ≤ (i : Int) := by omega
    have p2 : (i : Int) < (terms.length : Int) := by omega
    replace p1 := eq_true p1
    replace p2 := eq_true p2
    have HTR := Aside0.mk hi1
    have HTC := Aside0.mk hl1
    clear hi1 hl1
    have HX := Aside0.mk ht
    have hmem : t ∈ terms := by rw [ht]; exact rd44_mem terms i hlt
    have HTL := Aside0.mk (HPL.out t hmem)
    have hP := HP.out
    rw [drop44 terms i hlt, ← ht] at hP
    have HP2 := Aside0.mk hP
    have HLT := Aside0.mk hlt
    have HN := Aside0.mk (take44 terms i hlt)
    rw [← ht] at HN
    clear ht hlt hP hmem HP
    go_upto_region 6 with fail
    have hown := (Kd.R_bound ST.out.row).1
    have hb := below_alloc (Below.refl wr.heap.size wr) (.cells #[.string t.f0, .slice A t.f1.length c] 44)
    have BT := Aside0.mk (blk_new wr (.cells #[.string t.f0, .slice A t.f1.length c] 44))
    have n0_ := Aside0.mk (ST.out.step hb)
    have HTN := Aside0.mk (show some wr.heap.size ≠ u4.ownBlock from fun e => by have := hown _ e.symm; omega)
    have HSN := Aside0.mk (below_size n0_.out.bel)
    clear ST hb hx0 hx1 p1 p2 hown
    have ST := n0_
    clear n0_
    generalize (wr.alloc (.cells #[.string t.f0, .slice A t.f1.length c] 44)) = w2 at *
    generalize wr.heap.size = T at *
    have d0 : w2.cell? ⟨T, 0, none⟩ = some (.string t.f0) := (blk_cell BT.out 0).trans rfl
    have LM := Aside0.mk (show ((terms.take i).map (·.f0)).length ≤ 4398046511104 by rw [List.length_map, List.length_take]; have := HT.out; omega)
    go_upto_region 7 with (first | ((with_reducible refine gate_builtin (b := .append) (xs := #[.tmp 22, .tmp 25]) rfl ?_); at_builtin; refine Kd.R_append Kd.string (w0 := w) w.heap.size rfl (.tmp 22) (.tmp 25) 22 9 (.string ⟨#[]⟩) 16 rfl Try.underlying22 info9 rfl (by decide) (by omega) u4 ((terms.take i).map (·.f0)) t.f0 [.string t.f0] (fun k => k ≠ M ∧ k ≠ S) (fun _ => False) rfl rfl ?aP (fun _ hk => hk.elim) ?aF ?aO ?aB ?aS ?aL ?_; (case aP => exact rfl); (case aF => exact (fun k hk => by have h1 := mapAt_lt ST.out.map; have h2 := blk_lt ST.out.box; omega)); (case aO => exact ST.out.row); (case aB => exact ST.out.bel); (case aS => exact below_size ST.out.bel); (case aL => have := LM.out; omega); intro v5 w3 ho hb hg hat; have n0_ := Aside0.mk (ST.out.app ho hg hb); have n1_ := Aside0.mk ((hg.block T (blk_lt BT.out) HTN.out).trans BT.out); clear ST BT ho hb hg hat; have ST := n0_; have BT := n1_; clear n0_ n1_))
    rw [HN.out] at ST
    clear d0 HN HTN HSN LM
    have d1 : w3.cell? ⟨T, 1, none⟩ = some (.slice A t.f1.length c) := (blk_cell BT.out 1).trans rfl
    clear BT
    by_cases h0 : t.f1.length = 0
    ·
     have z0 : ((t.f1.length : Int) == 0) = true := beq_iff_eq.2 (by omega)
     have HE := Aside0.mk h0
     clear h0
     go_wp2
     go_ret
     exact ⟨by rw [pl_none (HP2.out.symm.trans (if_pos (Or.inl HE.out)))]; rfl, ST.out.bel⟩
    ·
     have z0 : ((t.f1.length : Int) == 0) = false := beq_eq_false_iff_ne.2 (by omega)
     have HE := Aside0.mk h0
     clear h0
     cases hpm : postMayP t.f1 with
     | false =>
      have HM := Aside0.mk (show post_May.f (t.f1.length + 124) t.f1 = some false from (postMay_eq _ (by have := HTL.out; omega) _ (Nat.le_refl _)).trans (by rw [hpm]))
      have HPM := Aside0.mk hpm
      clear hpm
      go_wp2_with (first | (go_at_call 34; (refine (post_May.calls (t.f1.length + 124) A c t.f1 _ _ (Kd.C_below HTR.out ST.out.bel) HTC.out HM.out).mono ?_); rintro e_ w4 ⟨rfl, hb⟩; have n0_ := Aside0.mk (ST.out.step hb); replace d1 := pw_cell_below hb d1; clear ST hb; have ST := n0_; clear n0_))
      go_ret
      exact ⟨by rw [pl_none (HP2.out.symm.trans (if_pos (Or.inr HPM.out)))]; rfl, ST.out.bel⟩
     | true =>
      have HM := Aside0.mk (show post_May.f (t.f1.length + 124) t.f1 = some true from (postMay_eq _ (by have := HTL.out; omega) _ (Nat.le_refl _)).trans (by rw [hpm]))
      have HPM := Aside0.mk (postMay_post hpm)
      have HP3 := Aside0.mk (show (plPosts lens t.f1 seen).bind (plTerms lens (terms.drop (i + 1))) = plTerms lens terms [] from (if_neg (show ¬ (t.f1.length = 0 ∨ postMayP t.f1 = false) by rw [hpm]; simp only [Bool.true_eq_false, or_false]; exact HE.out)).symm.trans HP2.out)
      clear hpm HE HP2
      go_wp2_with (first | (go_at_call 34; (refine (post_May.calls (t.f1.length + 124) A c t.f1 _ _ (Kd.C_below HTR.out ST.out.bel) HTC.out HM.out).mono ?_); rintro e_ w4 ⟨rfl, hb⟩; have n0_ := Aside0.mk (ST.out.step hb); replace d1 := pw_cell_below hb d1; clear ST hb; have ST := n0_; clear n0_))
      clear d1 z0 HM HTL
      go_loopg [40] (t.f1.length + 1) (fun kq v40 w' => ∃ (j : Nat) (sn : List (Int × Int)), v40 = .int .i64 (j : Int) ∧ Aside0 (PlSt w S M cs sn v5 ((terms.take (i + 1)).map (·.f0)) w') ∧ Aside0 (j ≤ t.f1.length ∧ t.f1.length - j < kq ∧ kq ≤ t.f1.length + 1 ∧ sn.length ≤ 7680 * i + 120 * j) ∧ Aside0 ((plPosts lens (t.f1.drop j) sn).bind (plTerms lens (terms.drop (i + 1))) = plTerms lens terms []))
      case atStart => exact ⟨0, seen, rfl, ST, ⟨by omega, by omega, by omega, by have := HI.out.2.2.2; omega⟩, HP3⟩
      case round =>
       clear ST HP3
       obtain ⟨j, sn, rfl, ST, HJ, HP⟩ := hrel
       cases gk with
       | zero => exact absurd HJ.out.2.1 (by omega)
       | succ k2 =>
        by_cases hlt : j < t.f1.length
        ·
         have c3b0 : decide ((j : Int) < (t.f1.length : Int)) = true := decide_eq_true (by omega)
         have c3b1 : decide (j < t.f1.length) = true := decide_eq_true hlt
         obtain ⟨q, hq⟩ : ∃ q, q = rd_T64 t.f1 (j : Int) := ⟨_, rfl⟩
         obtain ⟨ad2, B, cb, e2, hx0, hx1, hl1, hi1⟩ := at_T64 HTR.out (j : Int) (by omega) (by omega)
         rw [← hq] at hx0 hx1 hl1 hi1
         cases e2
         rw [Int.toNat_natCast] at hx0 hx1
         replace hx0 := pw_cell_below ST.out.bel hx0
         replace hx1 := pw_cell_below ST.out.bel hx1
         have p1 : (0 : Int) ≤ (j : Int) := by omega
         have p2 : (j : Int) < (t.f1.length : Int) := by omega
         replace p1 := eq_true p1
         replace p2 := eq_true p2
         have HQR := Aside0.mk hi1
         have HQC := Aside0.mk hl1
         clear hi1 hl1
         have HPQ := Aside0.mk (HPM.out.2 q (by rw [hq]; exact rd64_mem t.f1 j hlt))
         have hP := HP.out
         rw [drop64 t.f1 j hlt, ← hq] at hP
         have HP2 := Aside0.mk (show ((plAts lens q.f0 q.f1 sn).bind (plPosts lens (t.f1.drop (j + 1)))).bind (plTerms lens (terms.drop (i + 1))) = plTerms lens terms [] from hP)
         have HLJ := Aside0.mk hlt
         clear hq hlt hP HP
         go_upto_region 12 with fail
         have hb := below_alloc (Below.refl wr.heap.size wr) (.cells #[.int .i64 q.f0, .slice B q.f1.length cb] 64)
         have BQ := Aside0.mk (blk_new wr (.cells #[.int .i64 q.f0, .slice B q.f1.length cb] 64))
         have n0_ := Aside0.mk (ST.out.step hb)
         have HQM := Aside0.mk (show wr.heap.size ≠ M from by have := mapAt_lt ST.out.map; omega)
         clear ST hb hx0 hx1 p1 p2
         have ST := n0_
         clear n0_
         generalize (wr.alloc (.cells #[.int .i64 q.f0, .slice B q.f1.length cb] 64)) = w5 at *
         generalize wr.heap.size = Q at *
         have d1 : w5.cell? ⟨Q, 1, none⟩ = some (.slice B q.f1.length cb) := (blk_cell BQ.out 1).trans rfl
         have hQL : q.f1.length ≤ 120 := HPQ.out.2.1
         have HQL := Aside0.mk hQL
         clear hQL
         go_wp2
         clear d1
         go_loopg [47] (q.f1.length + 1) (fun kq v47 w' => ∃ (m : Nat) (sm : List (Int × Int)), v47 = .int .i64 (m : Int) ∧ Aside0 (PlSt w S M cs sm v5 ((terms.take (i + 1)).map (·.f0)) w') ∧ Aside0 (w'.heap[Q]? = some (.cells #[.int .i64 q.f0, .slice B q.f1.length cb] 64 (0, 0))) ∧ Aside0 (m ≤ q.f1.length ∧ q.f1.length - m < kq ∧ kq ≤ q.f1.length + 1 ∧ sm.length ≤ 7680 * i + 120 * j + m) ∧ Aside0 (((plAts lens q.f0 (q.f1.drop m) sm).bind (plPosts lens (t.f1.drop (j + 1)))).bind (plTerms lens (terms.drop (i + 1))) = plTerms lens terms []))
         case atStart => exact ⟨0, sn, rfl, ST, BQ, ⟨by omega, by omega, by omega, by have := HJ.out.2.2.2; omega⟩, HP2⟩
         case round =>
          clear ST BQ HP2
          obtain ⟨m, sm, rfl, ST, BQ, HM2, HP⟩ := hrel
          cases gk with
          | zero => exact absurd HM2.out.2.1 (by omega)
          | succ k3 =>
           by_cases hlt : m < q.f1.length
           ·
            have c4b0 : decide ((m : Int) < (q.f1.length : Int)) = true := decide_eq_true (by omega)
            have c4b1 : decide (m < q.f1.length) = true := decide_eq_true hlt
            obtain ⟨a, ha⟩ : ∃ a, a = rd q.f1 (m : Int) := ⟨_, rfl⟩
            obtain ⟨ad3, e3, hx0⟩ := Kd.at_int HQR.out (m : Int) (by omega) (by omega)
            rw [← ha] at hx0
            cases e3
            rw [Int.toNat_natCast] at hx0
            replace hx0 := pw_cell_below ST.out.bel hx0
            have p1 : (0 : Int) ≤ (m : Int) := by omega
            have p2 : (m : Int) < (q.f1.length : Int) := by omega
            replace p1 := eq_true p1
            replace p2 := eq_true p2
            have HA := Aside0.mk (HPQ.out.2.2 a (by rw [ha]; exact rd_mem q.f1 m hlt))
            have hP := HP.out
            rw [dropI q.f1 m hlt, ← ha] at hP
            have HP2 := Aside0.mk hP
            have HLM := Aside0.mk hlt
            clear ha hlt hP HP
            go_upto_region 15 with fail
            have hnl := Aside0.mk (show sm.length < maxLen from by have h1 := HM2.out; have h2 := HI.out; have h3 := HJ.out; have h4 := HT.out; have h5 := HPM.out.1; have h6 := HPQ.out.2.1; have h7 := HLM.out; have h8 := HLJ.out; have h9 := HLT.out; unfold maxLen; omega)
            by_cases hsm : (q.f0, a) ∈ sm
            ·
             obtain ⟨v0, st, w7, w8, hl0, he, hl7, ht7, hes, hl8, ht8, _⟩ := seen_entry (F := 1) (mapAt_below ST.out.map (below_drew (Below.refl wr.heap.size wr))) HPQ.out.1 HA.out hnl.out (if_pos hsm)
             have HSM := Aside0.mk hsm
             clear hsm hnl
             replace hes : (Instr.entryStore 80 (.map (some M)) (.int .i64 (st : Int)) (.int .i64 (wrap64 2))).run Try.prog w7 = .ok () w8 := by rw [show wrap64 2 = 2 from wid (by omega) (by omega)]; exact hes
             replace hl8 : (Instr.lookup 80 (.map (some M)) (.agg #[.int .i64 q.f0, .int .i64 a]) false).run Try.prog w8 = .ok (.int .i64 2) w8 := hl8
             have e0 : wr.drew.cell? ⟨Q, 0, none⟩ = some (.int .i64 q.f0) := (blk_cell (blk_drew BQ.out) 0).trans rfl
             have e7 : w7.cell? ⟨Q, 0, none⟩ = some (.int .i64 q.f0) := (blk_cell ((ht7.grown.block Q (blk_lt (blk_drew BQ.out)) (fun e => HQM.out (by injection e))).trans (blk_drew BQ.out)) 0).trans rfl
             refine start_ (n := 10) (S := fun w' => w'.cell? ⟨Q, 0, none⟩ = some (.int .i64 q.f0) ∧ (Instr.lookup 80 (.map (some M)) (.agg #[.int .i64 q.f0, .int .i64 a]) false).run Try.prog w' = .ok (.int .i64 1) w') (ds := [9]) #[false, false, false, false, false, false, false, false, false, false] (by kernel_rfl) rfl rfl ⟨e0, hl0⟩ (fun hHeld => ?_)
             refine rgP 0 51 ?_
             refine rgP 1 52 ?_
             refine rgP 3 54 ?_
             refine rgT2 2 53 hHeld ?_
             refine rgP 4 55 ?_
             refine rgT2 5 56 hHeld ?_
             refine rgP 6 57 ?_
             refine one_ (i := 7) (N := some 58) #[true, true, true, true, true, true, true, true, false, false] rfl rfl (by kernel_rfl) (by decide) (fun K hK => ?_)
             refine value_ (w1 := ?_) (v := ?_) (by rfl) rfl ?_ ?_
             rotate_left 2
             ·
              go_simp
              constructor
              ·
               rfl
              ·
               rfl
             refine hK.out _ _ ⟨e7, hl7⟩ (fun hHeld => ?_)
             clear hK K
             refine norm_ (a' := ?_) ?_ ?_
             rotate_left
             ·
              show Act.put _ (some 58) _ = _
              simp only [Act.put, List.setIfInBounds_toArray, List.set_cons_zero, List.set_cons_succ, i64_w, i32_w]
              rfl
             refine rgP 8 59 ?_
             refine last_ (i := 9) (N := none) #[true, true, true, true, true, true, true, true, true, true] rfl rfl (by kernel_rfl) (by decide) (fun K hK => ?_)
             refine skip_ (w1 := ?_) (by rfl) rfl ?_ ?_
             rotate_left
             ·
              go_simp
              rfl
             refine hK.out _ _ ?_
             clear hK K
             refine done_ (by kernel_rfl) ?_
             have hb6 := below_drew (Below.refl wr.heap.size wr)
             have BQ8 := Aside0.mk ((ht8.grown.block Q (blk_lt (blk_drew BQ.out)) (fun e => HQM.out (by injection e))).trans (blk_drew BQ.out))
             have BEL8 := Aside0.mk ((ST.out.step hb6).bel.grown ht8.grown (ST.out.step hb6).bel.size (fun k hk => by cases hk; exact ST.out.ge.2.1))
             have BOX8 := Aside0.mk ((ht8.grown.block S (blk_lt (ST.out.step hb6).box) (by simp only [ne_eq, Option.some.injEq]; exact ST.out.ge.2.2)).trans (ST.out.step hb6).box)
             clear e0 e7 hl0 he hl7 ht7 hes ht8 hb6 BQ ST hx0 p1 p2
             have g0 : w8.cell? ⟨Q, 0, none⟩ = some (.int .i64 q.f0) := (blk_cell BQ8.out 0).trans rfl
             have g2 : w8.cell? ⟨S, 2, none⟩ = some (.slice A2 lens.length c2) := (blk_cell BOX8.out 2).trans (by rw [← KCS.out]; rfl)
             by_cases hd : q.f0 < (lens.length : Int)
             ·
              have z1 : decide ((lens.length : Int) ≤ q.f0) = false := decide_eq_false (by omega)
              obtain ⟨ad4, e4, hx4⟩ := Kd.at_int HC2.out q.f0 HPQ.out.1.1 hd
              cases e4
              replace hx4 := pw_cell_below BEL8.out hx4
              have p1 := eq_true HPQ.out.1.1
              have p2 := eq_true hd
              have HD := Aside0.mk hd
              clear hd
              by_cases hal : a < rd lens q.f0
              ·
               have z2 : decide (rd lens q.f0 ≤ a) = false := decide_eq_false (by omega)
               have HAL := Aside0.mk hal
               clear hal
               go_wp2
               go_ret
               exact ⟨by rw [pl_none (HP2.out.symm.trans (by rw [plAts_bad (fun h => h.2.2 HSM.out)]; rfl))]; rfl, BEL8.out⟩
              ·
               have z2 : decide (rd lens q.f0 ≤ a) = true := decide_eq_true (by omega)
               have HAL := Aside0.mk hal
               clear hal
               go_wp2
               go_ret
               exact ⟨by rw [pl_none (HP2.out.symm.trans (by rw [plAts_bad (fun h => by have := HAL.out; have := h.2.1; omega)]; rfl))]; rfl, BEL8.out⟩
             ·
              have z1 : decide ((lens.length : Int) ≤ q.f0) = true := decide_eq_true (by omega)
              have HD := Aside0.mk hd
              clear hd
              go_wp2
              go_ret
              exact ⟨by rw [pl_none (HP2.out.symm.trans (by rw [plAts_bad (fun h => by have := HD.out; have := h.1; omega)]; rfl))]; rfl, BEL8.out⟩
            ·
             obtain ⟨v0, st, w7, w8, hl0, he, hl7, ht7, hes, hl8, ht8, hse⟩ := seen_entry (F := 0) (mapAt_below ST.out.map (below_drew (Below.refl wr.heap.size wr))) HPQ.out.1 HA.out hnl.out (if_neg hsm)
             have HSM := Aside0.mk hsm
             clear hsm hnl
             replace hes : (Instr.entryStore 80 (.map (some M)) (.int .i64 (st : Int)) (.int .i64 (wrap64 1))).run Try.prog w7 = .ok () w8 := by rw [show wrap64 1 = 1 from wid (by omega) (by omega)]; exact hes
             replace hl8 : (Instr.lookup 80 (.map (some M)) (.agg #[.int .i64 q.f0, .int .i64 a]) false).run Try.prog w8 = .ok (.int .i64 1) w8 := hl8
             have e0 : wr.drew.cell? ⟨Q, 0, none⟩ = some (.int .i64 q.f0) := (blk_cell (blk_drew BQ.out) 0).trans rfl
             have e7 : w7.cell? ⟨Q, 0, none⟩ = some (.int .i64 q.f0) := (blk_cell ((ht7.grown.block Q (blk_lt (blk_drew BQ.out)) (fun e => HQM.out (by injection e))).trans (blk_drew BQ.out)) 0).trans rfl
             refine start_ (n := 10) (S := fun w' => w'.cell? ⟨Q, 0, none⟩ = some (.int .i64 q.f0) ∧ (Instr.lookup 80 (.map (some M)) (.agg #[.int .i64 q.f0, .int .i64 a]) false).run Try.prog w' = .ok (.int .i64 0) w') (ds := [9]) #[false, false, false, false, false, false, false, false, false, false] (by kernel_rfl) rfl rfl ⟨e0, hl0⟩ (fun hHeld => ?_)
             refine rgP 0 51 ?_
             refine rgP 1 52 ?_
             refine rgP 3 54 ?_
             refine rgT2 2 53 hHeld ?_
             refine rgP 4 55 ?_
             refine rgT2 5 56 hHeld ?_
             refine rgP 6 57 ?_
             refine one_ (i := 7) (N := some 58) #[true, true, true, true, true, true, true, true, false, false] rfl rfl (by kernel_rfl) (by decide) (fun K hK => ?_)
             refine value_ (w1 := ?_) (v := ?_) (by rfl) rfl ?_ ?_
             rotate_left 2
             ·
              go_simp
              constructor
              ·
               rfl
              ·
               rfl
             refine hK.out _ _ ⟨e7, hl7⟩ (fun hHeld => ?_)
             clear hK K
             refine norm_ (a' := ?_) ?_ ?_
             rotate_left
             ·
              show Act.put _ (some 58) _ = _
              simp only [Act.put, List.setIfInBounds_toArray, List.set_cons_zero, List.set_cons_succ, i64_w, i32_w]
              rfl
             refine rgP 8 59 ?_
             refine last_ (i := 9) (N := none) #[true, true, true, true, true, true, true, true, true, true] rfl rfl (by kernel_rfl) (by decide) (fun K hK => ?_)
             refine skip_ (w1 := ?_) (by rfl) rfl ?_ ?_
             rotate_left
             ·
              go_simp
              rfl
             refine hK.out _ _ ?_
             clear hK K
             refine done_ (by kernel_rfl) ?_
             have hb6 := below_drew (Below.refl wr.heap.size wr)
             have BQ8 := Aside0.mk ((ht8.grown.block Q (blk_lt (blk_drew BQ.out)) (fun e => HQM.out (by injection e))).trans (blk_drew BQ.out))
             have ST8 := Aside0.mk ((ST.out.step hb6).turn ht8 (hse HSM.out))
             have BEL8 := Aside0.mk ((ST.out.step hb6).bel.grown ht8.grown (ST.out.step hb6).bel.size (fun k hk => by cases hk; exact ST.out.ge.2.1))
             have BOX8 := Aside0.mk ((ht8.grown.block S (blk_lt (ST.out.step hb6).box) (by simp only [ne_eq, Option.some.injEq]; exact ST.out.ge.2.2)).trans (ST.out.step hb6).box)
             clear e0 e7 hl0 he hl7 ht7 hes ht8 hb6 BQ ST hx0 p1 p2 hse
             have g0 : w8.cell? ⟨Q, 0, none⟩ = some (.int .i64 q.f0) := (blk_cell BQ8.out 0).trans rfl
             have g2 : w8.cell? ⟨S, 2, none⟩ = some (.slice A2 lens.length c2) := (blk_cell BOX8.out 2).trans (by rw [← KCS.out]; rfl)
             by_cases hd : q.f0 < (lens.length : Int)
             ·
              have z1 : decide ((lens.length : Int) ≤ q.f0) = false := decide_eq_false (by omega)
              obtain ⟨ad4, e4, hx4⟩ := Kd.at_int HC2.out q.f0 HPQ.out.1.1 hd
              cases e4
              replace hx4 := pw_cell_below BEL8.out hx4
              have p1 := eq_true HPQ.out.1.1
              have p2 := eq_true hd
              have HD := Aside0.mk hd
              clear hd
              by_cases hal : a < rd lens q.f0
              ·
               have z2 : decide (rd lens q.f0 ≤ a) = false := decide_eq_false (by omega)
               have HAL := Aside0.mk hal
               clear hal
               go_wp2
               go_roundg k3
               case measure => have := HI.out; have := HJ.out; have := HM2.out; omega
               case rel => exact ⟨m + 1, (q.f0, a) :: sm, (by rw [wstep (by have := HLM.out; have := HPQ.out.2.1; omega)]), ST8, BQ8, ⟨by have := HLM.out; omega, by have := HM2.out; have := HLM.out; omega, by have := HM2.out; omega, by have := HM2.out; simp only [List.length_cons]; omega⟩, ⟨by have h := HP2.out; rw [plAts_good ⟨HD.out, HAL.out, HSM.out⟩] at h; exact h⟩⟩
              ·
               have z2 : decide (rd lens q.f0 ≤ a) = true := decide_eq_true (by omega)
               have HAL := Aside0.mk hal
               clear hal
               go_wp2
               go_ret
               exact ⟨by rw [pl_none (HP2.out.symm.trans (by rw [plAts_bad (fun h => by have := HAL.out; have := h.2.1; omega)]; rfl))]; rfl, BEL8.out⟩
             ·
              have z1 : decide ((lens.length : Int) ≤ q.f0) = true := decide_eq_true (by omega)
              have HD := Aside0.mk hd
              clear hd
              go_wp2
              go_ret
              exact ⟨by rw [pl_none (HP2.out.symm.trans (by rw [plAts_bad (fun h => by have := HD.out; have := h.1; omega)]; rfl))]; rfl, BEL8.out⟩
           ·
            have c4b0 : decide ((m : Int) < (q.f1.length : Int)) = false := decide_eq_false (by omega)
            have c4b1 : decide (m < q.f1.length) = false := decide_eq_false hlt
            go_wp2
            go_roundg k2
            case measure => have := HI.out; have := HJ.out; have := HM2.out; omega
            case rel => exact ⟨j + 1, sm, (by rw [wstep (by have := HLJ.out; have := HPM.out.1; omega)]), ST, ⟨by have := HLJ.out; omega, by have := HJ.out; have := HLJ.out; omega, by have := HJ.out; omega, by have := HM2.out; have := HPQ.out.2.1; omega⟩, ⟨by have h := HP.out; rw [List.drop_eq_nil_of_le (by omega)] at h; exact h⟩⟩
        ·
         have c3b0 : decide ((j : Int) < (t.f1.length : Int)) = false := decide_eq_false (by omega)
         have c3b1 : decide (j < t.f1.length) = false := decide_eq_false hlt
         go_wp2
         go_roundg k1
         case measure => have := HI.out; have := HJ.out; omega
         case rel => exact ⟨i + 1, sn, (by rw [wstepB (by have := HLT.out; have := HT.out; omega)]), ST, ⟨by have := HLT.out; omega, by have := HI.out; have := HLT.out; omega, by have := HI.out; omega, by have := HJ.out; have := HPM.out.1; omega⟩, ⟨by have h := HP.out; rw [List.drop_eq_nil_of_le (by omega)] at h; exact h⟩⟩
   ·
    have c2b0 : decide ((i : Int) < (terms.length : Int)) = false := decide_eq_false (by omega)
    have c2b1 : decide (i < terms.length) = false := decide_eq_false hlt
    have hi : i = terms.length := by have := HI.out.1; omega
    have HPE := Aside0.mk (show plTerms lens terms [] = some seen from by have h := HP.out; rw [List.drop_eq_nil_of_le (by omega)] at h; exact h.symm)
    have HN := Aside0.mk (show (terms.take i).map (·.f0) = terms.map (·.f0) by rw [List.take_of_length_le (by omega)])
    obtain ⟨NL, hNL⟩ : ∃ x, terms.map (·.f0) = x := ⟨_, rfl⟩
    rw [HN.out, hNL] at ST
    have HNL := Aside0.mk hNL
    have HNLL := Aside0.mk (show NL.length = terms.length by rw [← hNL, List.length_map])
    clear HP HN hi hlt hNL
    go_upto_region 22 with fail
    have g2 : wr.cell? ⟨S, 2, none⟩ = some (.slice A2 lens.length c2) := (blk_cell ST.out.box 2).trans (by rw [← KCS.out]; rfl)
    go_wp2
    clear g2
    go_loopg [11, 91] (lens.length + 1) (fun kq v11 v91 w' => ∃ (m : Nat), v11 = .int .i64 (sumP (lens.take m)) ∧ v91 = .int .i64 (m : Int) ∧ Aside0 (PlSt w S M cs seen u4 NL w') ∧ Aside0 (m ≤ lens.length ∧ lens.length - m < kq ∧ kq ≤ lens.length + 1))
    case atStart => exact ⟨0, rfl, rfl, ST, ⟨by omega, by omega, by omega⟩⟩
    case round =>
     clear ST
     obtain ⟨m, rfl, rfl, ST, HM⟩ := hrel
     cases gk with
     | zero => exact absurd HM.out.2.1 (by omega)
     | succ k2 =>
      by_cases hlt : m < lens.length
      ·
       have c5b0 : decide ((m : Int) < (lens.length : Int)) = true := decide_eq_true (by omega)
       have c5b1 : decide (m < lens.length) = true := decide_eq_true hlt
       obtain ⟨ad3, e3, hx0⟩ := Kd.at_int HC2.out (m : Int) (by omega) (by omega)
       cases e3
       rw [Int.toNat_natCast] at hx0
       replace hx0 := pw_cell_below ST.out.bel hx0
       have p1 : (0 : Int) ≤ (m : Int) := by omega
       have p2 : (m : Int) < (lens.length : Int) := by omega
       replace p1 := eq_true p1
       replace p2 := eq_true p2
       have HLM := Aside0.mk hlt
       have HW := Aside0.mk (sum_step lens m HL.out HBL.out hlt)
       clear hlt
       go_wp2
       go_roundg k2
       case measure => have := HI.out; have := HM.out; omega
       case rel => exact ⟨m + 1, (by rw [HW.out]), (by rw [wstep (by have := HLM.out; have := HL.out; omega)]), ST, ⟨by have := HLM.out; omega, by have := HM.out; have := HLM.out; omega, by have := HM.out; omega⟩⟩
      ·
       have c5b0 : decide ((m : Int) < (lens.length : Int)) = false := decide_eq_false (by omega)
       have c5b1 : decide (m < lens.length) = false := decide_eq_false hlt
       have HS := Aside0.mk (show lens.take m = lens by rw [List.take_of_length_le (by omega)])
       clear hlt
       cases hdm : dictMayP NL with
       | false =>
        have HD := Aside0.mk (show dict_May.f (terms.length + 2) NL = some false from (dictMay_eq _ (by have := HT.out; have := HNLL.out; omega) _ (by have := HNLL.out; omega)).trans (by rw [hdm]))
        have HDM := Aside0.mk hdm
        clear hdm
        obtain ⟨Ao, co, eo⟩ := Kd.R_slice ST.out.row
        subst eo
        go_wp2_with (first | (go_at_call 37; (refine (dict_May.calls (terms.length + 2) _ _ NL _ _ (Kd.R_reads' ST.out.row).2.2 (Kd.R_reads' ST.out.row).2.1 HD.out).mono ?_); rintro e_ w4 ⟨rfl, hd⟩; have hb := drawn_below hd; clear hd; have n0_ := Aside0.mk (ST.out.step hb); clear ST hb; have ST := n0_; clear n0_))
        go_ret
        exact ⟨by rw [pl_end HPE.out, HNL.out, HDM.out]; rfl, ST.out.bel⟩
       | true =>
        have HD := Aside0.mk (show dict_May.f (terms.length + 2) NL = some true from (dictMay_eq _ (by have := HT.out; have := HNLL.out; omega) _ (by have := HNLL.out; omega)).trans (by rw [hdm]))
        have HDM := Aside0.mk hdm
        clear hdm
        obtain ⟨Ao, co, eo⟩ := Kd.R_slice ST.out.row
        subst eo
        go_wp2_with (first | (go_at_call 37; (refine (dict_May.calls (terms.length + 2) _ _ NL _ _ (Kd.R_reads' ST.out.row).2.2 (Kd.R_reads' ST.out.row).2.1 HD.out).mono ?_); rintro e_ w4 ⟨rfl, hd⟩; have hb := drawn_below hd; clear hd; have n0_ := Aside0.mk (ST.out.step hb); have hlen := fun ty => mapAt_len n0_.out.map Try.underlying80 ty; clear ST hb; have ST := n0_; clear n0_))
        go_ret
        exact ⟨by rw [pl_end HPE.out, HNL.out, HDM.out, HS.out]; simp only [Bool.true_and]; rfl, ST.out.bel⟩

end Go.Proofs.Ytfhcolhiolgikaa.T
/- Written by hp.py, this session's own program, out of the translation of this seat: Lean functions for the Go functions, and the proof that each call comes to what its Lean function says. -/
namespace Go.Proofs.Ytfhcolhiolgikaa.T
open Go.RowKit Go.Proofs.YtfhcolhiolgikaaW.PrintWords Go.Proofs.YtfhcolhiolgikaaW.PrintLast Go.Proofs.YtfhcolhiolgikaaW.PrintMore
attribute [local go_sem] max2_int min2_int max_two min_two max_three min_three max_four min_four   -- for this text's walks alone
set_option linter.unusedVariables false
set_option linter.unusedSimpArgs false
/-! ### seg.May (9), by hand -/
open Go.Proofs.Ytfhcolhiolgikaa.Plain
def kvS (x : ByteArray) : Value := .string x
theorem kvS_inj {x y : ByteArray} (h : kvS x = kvS y) : x = y := by
 unfold kvS at h
 simpa using h
/-- The ids that were seen. -/
def IdsAt (w : World) (M : Nat) (s : List ByteArray) : Prop := MapAt kvS 9 w M s.length (fun x => if x ∈ s then 1 else 0) s.length
theorem ids_put {w : World} {M : Nat} {s : List ByteArray} {x : ByteArray} (h : IdsAt w M s) (hx : x.size ≤ maxLen) (hn : s.length < maxLen) {F : Int} (hF : (if x ∈ s then (1 : Int) else 0) = F) :
  (Instr.lookup 50 (.map (some M)) (.string x) false).run Try.prog w = .ok (.int .i64 F) w ∧ ∃ w2, (Instr.mapUpdate 50 (.map (some M)) (.string x) (.int .i64 (F + 1))).run Try.prog w = .ok () w2 ∧ (∀ w3, Below w2.heap.size w2 w3 → (Instr.lookup 50 (.map (some M)) (.string x) false).run Try.prog w3 = .ok (.int .i64 (F + 1)) w3) ∧ w.mapTurned w2 M ∧ (x ∉ s → IdsAt w2 M (x :: s)) := by
 obtain ⟨lk, hk⟩ := key9 hx
 have hk' : keyOf Try.prog 9 (kvS x) = some lk := hk
 have hF1 : F = 0 ∨ F = 1 := by rw [← hF]; split <;> simp
 have wf : (Lit.int .i64 (F + 1)).wf = true := by
  have h := wrap64_wf (F + 1)
  rw [wid (by omega) (by omega)] at h
  exact h
 obtain ⟨w2, h1, h2, h3⟩ := mapAt_put h keyed9 Try.underlying50 hk' hn kvS_inj (c := F + 1) (by omega) wf
 have h0 := mapAt_look (w := w) h keyed9 Try.underlying50 hk'
 rw [hF] at h0
 refine ⟨h0, w2, h1, fun w3 hb => ?_, h3, fun hx2 => ?_⟩
 ·
  have h7 := mapAt_look (w := w3) (mapAt_below h2 hb) keyed9 Try.underlying50 hk'
  rw [if_pos rfl] at h7
  exact h7
 ·
  have hF0 : F = 0 := by rw [if_neg hx2] at hF; exact hF.symm
  subst hF0
  rw [if_neg hx2, if_pos rfl] at h2
  unfold IdsAt
  rw [List.length_cons]
  have e : (fun y : ByteArray => if y ∈ x :: s then (1 : Int) else 0) = fun y => if y = x then 1 else if y ∈ s then 1 else 0 := by
   funext y
   by_cases h1 : y = x
   ·
    simp [h1]
   ·
    simp [h1]
  rw [e]
  exact h2
/-- What a walk of May keeps. -/
structure MySt (w : World) (S M G : Nat) (cs : Array Value) (seen : List ByteArray) (pid : ByteArray) (pk : Int) (wr : World) : Prop where
 box : wr.heap[S]? = some (.cells cs 26 (0, 0))
 map : IdsAt wr M seen
 ah : wr.heap[G]? = some (.cells #[.string pid, .int .i64 pk, .slice none 0 0] 52 (0, 0))
 bel : Below w.heap.size w wr
 ge : w.heap.size ≤ S ∧ w.heap.size ≤ M ∧ w.heap.size ≤ G ∧ S ≠ M ∧ G ≠ M ∧ G ≠ S
theorem MySt.step {w wr w2 : World} {S M G : Nat} {cs : Array Value} {seen : List ByteArray} {pid : ByteArray} {pk : Int} (h : MySt w S M G cs seen pid pk wr) (hb : Below wr.heap.size wr w2) : MySt w S M G cs seen pid pk w2 :=
 ⟨blk_below h.box hb, mapAt_below h.map hb, blk_below h.ah hb, below_step h.bel hb, h.ge⟩
/-- .. behind a store into the map, but for the map. -/
structure MyTn (w : World) (S M G : Nat) (cs : Array Value) (pid : ByteArray) (pk : Int) (wr : World) : Prop where
 box : wr.heap[S]? = some (.cells cs 26 (0, 0))
 ah : wr.heap[G]? = some (.cells #[.string pid, .int .i64 pk, .slice none 0 0] 52 (0, 0))
 bel : Below w.heap.size w wr
 ge : w.heap.size ≤ S ∧ w.heap.size ≤ M ∧ w.heap.size ≤ G ∧ S ≠ M ∧ G ≠ M ∧ G ≠ S
theorem MySt.turn {w wr w2 : World} {S M G : Nat} {cs : Array Value} {seen : List ByteArray} {pid : ByteArray} {pk : Int} (h : MySt w S M G cs seen pid pk wr) (ht : wr.mapTurned w2 M) : MyTn w S M G cs pid pk w2 :=
 ⟨(ht.grown.block S (blk_lt h.box) (by simp only [ne_eq, Option.some.injEq]; exact h.ge.2.2.2.1)).trans h.box, (ht.grown.block G (blk_lt h.ah) (by simp only [ne_eq, Option.some.injEq]; exact h.ge.2.2.2.2.1)).trans h.ah, h.bel.grown ht.grown h.bel.size (fun k hk => by cases hk; exact h.ge.2.1), h.ge⟩
theorem MyTn.step {w wr w2 : World} {S M G : Nat} {cs : Array Value} {pid : ByteArray} {pk : Int} (h : MyTn w S M G cs pid pk wr) (hb : Below wr.heap.size wr w2) : MyTn w S M G cs pid pk w2 :=
 ⟨blk_below h.box hb, blk_below h.ah hb, below_step h.bel hb, h.ge⟩
theorem MyTn.set {w wr : World} {S M G : Nat} {cs : Array Value} {seen : List ByteArray} {pid : ByteArray} {pk : Int} (h : MyTn w S M G cs pid pk wr) (hm : IdsAt wr M seen) (id : ByteArray) (key : Int) :
  MySt w S M G cs seen id key (((wr.setCell ⟨G, 0, none⟩ (.string id)).setCell ⟨G, 1, none⟩ (.int .i64 key)).setCell ⟨G, 2, none⟩ (.slice none 0 0)) := by
 obtain ⟨g1, g2, g3, g4, g5, g6⟩ := h.ge
 refine ⟨?_, ?_, ?_, below_set (below_set (below_set h.bel g3) g3) g3, h.ge⟩
 ·
  rw [Below.heap_setCell _ _ _ _ (fun e => g6 e.symm), Below.heap_setCell _ _ _ _ (fun e => g6 e.symm), Below.heap_setCell _ _ _ _ (fun e => g6 e.symm)]
  exact h.box
 ·
  obtain ⟨D, m1, m2, m3⟩ := hm
  exact ⟨D, ((m1.setCell (a := ⟨G, 0, none⟩) (fun e => g5 e.symm) _).setCell (a := ⟨G, 1, none⟩) (fun e => g5 e.symm) _).setCell (a := ⟨G, 2, none⟩) (fun e => g5 e.symm) _, m2, m3⟩
 ·
  exact blk_set (blk_set (blk_set h.ah 0 _) 1 _) 2 _
set_option maxHeartbeats 8000000 in
set_option maxRecDepth 100000 in
theorem segmay_calls (A0 : Option Addr) (c0 : Nat) (ids : List ByteArray) (A1 : Option Addr) (c1 : Nat) (keys : List Int) (A2 : Option Addr) (c2 : Nat) (lens : List Int) (A3 : Option Addr) (c3 : Nat) (terms : List S44) (so : Bool) (w : World)
  (hC0 : Kd.C Kd.string w A0 ids.length ids) (hC1 : Kd.C (Kd.int .i64) w A1 keys.length keys) (hC2 : Kd.C (Kd.int .i64) w A2 lens.length lens) (hC3 : Kd.C k44 w A3 terms.length terms) (hid : ∀ x ∈ ids, x.size ≤ 9223372036854775807) (ht : terms.length ≤ 4398046511104) (hpl : ∀ t ∈ terms, t.f1.length ≤ 4398046511104) :
  Calls Try.prog 9 #[.agg #[.slice A0 ids.length c0, .slice A1 keys.length c1, .slice A2 lens.length c2, .slice A3 terms.length c3, .bool so]] w fun e w' => e = .returned (.bool (segMayP ids keys lens terms so)) ∧ Below w.heap.size w w' := by
 have hu26 := Try.underlying26
 have hu52 := Try.underlying52
 have hu50 := Try.underlying50
 have HC0 := Aside0.mk hC0
 have HC1 := Aside0.mk hC1
 have HC2 := Aside0.mk hC2
 have HC3 := Aside0.mk hC3
 have HID := Aside0.mk hid
 have HT := Aside0.mk ht
 have HPL := Aside0.mk hpl
 clear hC0 hC1 hC2 hC3 hid ht hpl
 have hmm := @run_makeMap Try.prog
 go_enter Try.func9, Try.ntmps9
 go_upto_region 1 with fail
 generalize hcs : #[Value.slice A0 ids.length c0, .slice A1 keys.length c1, .slice A2 lens.length c2, .slice A3 terms.length c3, .bool so] = cs
 have b0 := Aside0.mk (blk_new w (.cells cs 26))
 have bb := Aside0.mk (below_alloc (Below.refl w.heap.size w) (.cells cs 26))
 have SG := Aside0.mk (Nat.le_refl w.heap.size)
 generalize (w.alloc (.cells cs 26)) = wb at *
 have KCS := Aside0.mk hcs
 have d0 : wb.cell? ⟨w.heap.size, 0, none⟩ = some (.slice A0 ids.length c0) := (blk_cell b0.out 0).trans (by rw [← hcs]; rfl)
 have d1 : wb.cell? ⟨w.heap.size, 1, none⟩ = some (.slice A1 keys.length c1) := (blk_cell b0.out 1).trans (by rw [← hcs]; rfl)
 have d2 : wb.cell? ⟨w.heap.size, 2, none⟩ = some (.slice A2 lens.length c2) := (blk_cell b0.out 2).trans (by rw [← hcs]; rfl)
 clear hcs
 by_cases h1 : ids.length ≤ 64
 ·
  have z1 : decide ((64 : Int) < (ids.length : Int)) = false := decide_eq_false (by omega)
  have y1 : decide (64 < ids.length) = false := decide_eq_false (by omega)
  have H1 := Aside0.mk h1
  clear h1
  by_cases h2 : keys.length = ids.length
  ·
   have z2 : ((keys.length : Int) != (ids.length : Int)) = false := bne_eq_false_iff_eq.2 (by omega)
   have H2 := Aside0.mk h2
   clear h2
   by_cases h3 : lens.length = ids.length
   ·
    have z3 : ((lens.length : Int) != (ids.length : Int)) = false := bne_eq_false_iff_eq.2 (by omega)
    have H3 := Aside0.mk h3
    clear h3
    go_upto_region 6 with fail
    have hst : MySt w w.heap.size wb.heap.size (wb.heap.size + 1) cs [] ⟨#[]⟩ 0 ((wb.alloc (.map #[] 0)).alloc (.cells #[.string ⟨#[]⟩, .int .i64 0, .slice none 0 0] 52)) := by
     have h1 := blk_lt b0.out
     have e1 : (wb.alloc (.map #[] 0)).heap.size = wb.heap.size + 1 := Array.size_push ..
     refine ⟨blk_below (blk_below b0.out (below_alloc (Below.refl _ _) _)) (below_alloc (Below.refl _ _) _), mapAt_below (mapAt_made kvS wb) (below_alloc (Below.refl _ _) _), ?_, below_alloc (below_alloc bb.out _) _, Nat.le_refl _, by omega, by omega, by omega, by omega, by omega⟩
     have h := blk_new (wb.alloc (.map #[] 0)) (.cells #[.string ⟨#[]⟩, .int .i64 0, .slice none 0 0] 52)
     rw [e1] at h
     exact h
    have ST := Aside0.mk hst
    clear hst b0 bb SG d0 d1 d2 hmm
    generalize ((wb.alloc (.map #[] 0)).alloc (.cells #[.string ⟨#[]⟩, .int .i64 0, .slice none 0 0] 52)) = w1 at *
    generalize wb.heap.size + 1 = G at *
    generalize wb.heap.size = M at *
    obtain ⟨S, hS⟩ : ∃ S, S = w.heap.size := ⟨_, rfl⟩
    have ST1 := Aside0.mk (show MySt w S M G cs [] ⟨#[]⟩ 0 w1 from by rw [hS]; exact ST.out)
    rw [← hS]
    clear ST hS
    have ST := ST1
    clear ST1 z1 y1 z2 z3
    have d0 : w1.cell? ⟨S, 0, none⟩ = some (.slice A0 ids.length c0) := (blk_cell ST.out.box 0).trans (by rw [← KCS.out]; rfl)
    go_wp2
    clear d0
    go_loopg [33] (ids.length + 1) (fun kq v33 w' => ∃ (i : Nat) (seen : List ByteArray) (pid : ByteArray) (pk : Int), v33 = .int .i64 (i : Int) ∧ Aside0 (MySt w S M G cs seen pid pk w') ∧ Aside0 (i ≤ ids.length ∧ ids.length - i < kq ∧ kq ≤ ids.length + 1 ∧ seen.length = i) ∧ Aside0 (mayGo keys lens so (ids.drop i) i seen pid pk = mayGo keys lens so ids 0 [] ⟨#[]⟩ 0))
    case atStart => exact ⟨0, [], ⟨#[]⟩, 0, rfl, ST, ⟨by omega, by omega, by omega, rfl⟩, ⟨rfl⟩⟩
    case round =>
     clear ST
     obtain ⟨i, seen, pid, pk, rfl, ST, HI, HP⟩ := hrel
     cases gk with
     | zero => exact absurd HI.out.2.1 (by omega)
     | succ k1 =>
      by_cases hlt : i < ids.length
      ·
       have c2b0 : decide ((i : Int) < (ids.length : Int)) = true := decide_eq_true (by omega)
       have c2b1 : decide (i < ids.length) = true := decide_eq_true hlt
       obtain ⟨id, hid⟩ : ∃ id, id = rdOf ByteArray.empty ids (i : Int) := ⟨_, rfl⟩
       obtain ⟨ad0, e0, hx0⟩ := Kd.at_string HC0.out (i : Int) (by omega) (by omega)
       rw [← hid] at hx0
       cases e0
       obtain ⟨key, hkey⟩ : ∃ key, key = rd keys (i : Int) := ⟨_, rfl⟩
       obtain ⟨ad1, e1, hx1⟩ := Kd.at_int HC1.out (i : Int) (by omega) (by have := H2.out; omega)
       rw [← hkey] at hx1
       cases e1
       obtain ⟨ln, hln⟩ : ∃ ln, ln = rd lens (i : Int) := ⟨_, rfl⟩
       obtain ⟨ad2, e2, hx2⟩ := Kd.at_int HC2.out (i : Int) (by omega) (by have := H3.out; omega)
       rw [← hln] at hx2
       cases e2
       rw [Int.toNat_natCast] at hx0 hx1 hx2
       replace hx0 := pw_cell_below ST.out.bel hx0
       replace hx1 := pw_cell_below ST.out.bel hx1
       have HX2 := Aside0.mk hx2
       replace hx2 := pw_cell_below ST.out.bel hx2
       have p1 : (0 : Int) ≤ (i : Int) := by omega
       have p2 : (i : Int) < (ids.length : Int) := by omega
       have p3 : (i : Int) < (keys.length : Int) := by have := H2.out; omega
       have p4 : (i : Int) < (lens.length : Int) := by have := H3.out; omega
       replace p1 := eq_true p1
       replace p2 := eq_true p2
       replace p3 := eq_true p3
       replace p4 := eq_true p4
       have HSZ := Aside0.mk (HID.out id (by rw [hid]; exact rdOf_mem ids i hlt))
       have HLT := Aside0.mk hlt
       have hP := HP.out
       rw [dropS ids i hlt, ← hid] at hP
       have HP2 := Aside0.mk hP
       have HKEY := Aside0.mk hkey
       have HLN := Aside0.mk hln
       have d1 : wr.cell? ⟨S, 1, none⟩ = some (.slice (some ad1) keys.length c1) := (blk_cell ST.out.box 1).trans (by rw [← KCS.out]; rfl)
       clear hid hlt hP HP hkey hln
       go_upto_region 10 with fail
       have hb := below_alloc (Below.refl wr.heap.size wr) (.cells #[.string id, .int .i64 key, .slice none 0 0] 52)
       have BC := Aside0.mk (blk_new wr (.cells #[.string id, .int .i64 key, .slice none 0 0] 52))
       have HCM := Aside0.mk (show wr.heap.size ≠ M from by have := mapAt_lt ST.out.map; omega)
       have n0_ := Aside0.mk (ST.out.step hb)
       replace hx2 := pw_cell_below hb hx2
       clear ST hb hx0 hx1 d1
       have ST := n0_
       clear n0_
       generalize (wr.alloc (.cells #[.string id, .int .i64 key, .slice none 0 0] 52)) = w2 at *
       generalize wr.heap.size = C at *
       have hszm : id.size ≤ maxLen := by have := HSZ.out; unfold maxLen; omega
       have hnm : seen.length < maxLen := by have := HI.out; have := H1.out; have := HLT.out; unfold maxLen; omega
       by_cases hsm : id ∈ seen
       ·
        obtain ⟨hl0, w3, hup, hlk, ht3, _⟩ := ids_put (F := 1) ST.out.map hszm hnm (if_pos hsm)
        have HSM := Aside0.mk hsm
        clear hsm hszm hnm
        replace hup : (Instr.mapUpdate 50 (.map (some M)) (.string id) (.int .i64 2)).run Try.prog w2 = .ok () w3 := hup
        have TN := Aside0.mk (ST.out.turn ht3)
        have BC3 := Aside0.mk ((ht3.grown.block C (blk_lt BC.out) (fun e => HCM.out (by injection e))).trans BC.out)
        have HLK := Aside0.mk hlk
        have CX := Aside0.mk (pw_cell_below (ST.out.turn ht3).bel HX2.out)
        clear BC ST hlk hx2
        go_upto_region 11 with fail
        clear hl0 hup ht3
        have c0_ : w3.cell? ⟨C, 0, none⟩ = some (.string id) := (blk_cell BC3.out 0).trans rfl
        have c1_ : w3.cell? ⟨C, 1, none⟩ = some (.int .i64 key) := (blk_cell BC3.out 1).trans rfl
        have c2_ : w3.cell? ⟨C, 2, none⟩ = some (.slice none 0 0) := (blk_cell BC3.out 2).trans rfl
        cases hco : cardOk id key with
        | false =>
         have HCO := Aside0.mk (show seg_may.f 1 id key [] = some false from (segmay_eq id key 1 (Nat.le_refl _)).trans (congrArg some hco))
         have HC := Aside0.mk hco
         clear hco
         go_wp2_with (first | (go_at_call 21; (refine (seg_may.calls 1 id key none 0 [] false _ (Kd.C_nil _ _) (Nat.le_refl _) HCO.out).mono ?_); rintro e_ w4 ⟨rfl, hb⟩; have hlu := HLK.out w4 hb; have n0_ := Aside0.mk (TN.out.step hb); have n1_ := Aside0.mk (blk_below BC3.out hb); have n2_ := Aside0.mk (pw_cell_below hb CX.out); replace c0_ := pw_cell_below hb c0_; replace c1_ := pw_cell_below hb c1_; replace c2_ := pw_cell_below hb c2_; clear hb TN BC3 CX; have TN := n0_; have BC3 := n1_; have CX := n2_; clear n0_ n1_ n2_; have d2 : w4.cell? ⟨S, 2, none⟩ = some (.slice (some ad2) lens.length c2) := (blk_cell TN.out.box 2).trans (by rw [← KCS.out]; rfl); have d4 : w4.cell? ⟨S, 4, none⟩ = some (.bool so) := (blk_cell TN.out.box 4).trans (by rw [← KCS.out]; rfl); have hx2 := CX.out; have g0_ : w4.cell? ⟨G, 0, none⟩ = some (.string pid) := (blk_cell TN.out.ah 0).trans rfl; have g1_ : w4.cell? ⟨G, 1, none⟩ = some (.int .i64 pk) := (blk_cell TN.out.ah 1).trans rfl; have g2_ : w4.cell? ⟨G, 2, none⟩ = some (.slice none 0 0) := (blk_cell TN.out.ah 2).trans rfl))
         go_ret
         exact ⟨by rw [may_bad4 (HP2.out.symm.trans (mayGo_bad (fun h => by have := h.1; rw [← HKEY.out, HC.out] at this; cases this)))]; rfl, TN.out.bel⟩
        | true =>
         have HCO := Aside0.mk (show seg_may.f 1 id key [] = some true from (segmay_eq id key 1 (Nat.le_refl _)).trans (congrArg some hco))
         have HC := Aside0.mk hco
         clear hco
         go_wp2_with (first | (go_at_call 21; (refine (seg_may.calls 1 id key none 0 [] true _ (Kd.C_nil _ _) (Nat.le_refl _) HCO.out).mono ?_); rintro e_ w4 ⟨rfl, hb⟩; have hlu := HLK.out w4 hb; have n0_ := Aside0.mk (TN.out.step hb); have n1_ := Aside0.mk (blk_below BC3.out hb); have n2_ := Aside0.mk (pw_cell_below hb CX.out); replace c0_ := pw_cell_below hb c0_; replace c1_ := pw_cell_below hb c1_; replace c2_ := pw_cell_below hb c2_; clear hb TN BC3 CX; have TN := n0_; have BC3 := n1_; have CX := n2_; clear n0_ n1_ n2_; have d2 : w4.cell? ⟨S, 2, none⟩ = some (.slice (some ad2) lens.length c2) := (blk_cell TN.out.box 2).trans (by rw [← KCS.out]; rfl); have d4 : w4.cell? ⟨S, 4, none⟩ = some (.bool so) := (blk_cell TN.out.box 4).trans (by rw [← KCS.out]; rfl); have hx2 := CX.out; have g0_ : w4.cell? ⟨G, 0, none⟩ = some (.string pid) := (blk_cell TN.out.ah 0).trans rfl; have g1_ : w4.cell? ⟨G, 1, none⟩ = some (.int .i64 pk) := (blk_cell TN.out.ah 1).trans rfl; have g2_ : w4.cell? ⟨G, 2, none⟩ = some (.slice none 0 0) := (blk_cell TN.out.ah 2).trans rfl))
         go_ret
         exact ⟨by rw [may_bad4 (HP2.out.symm.trans (mayGo_bad (fun h => by exact h.2.1 HSM.out)))]; rfl, TN.out.bel⟩
       ·
        obtain ⟨hl0, w3, hup, hlk, ht3, hids⟩ := ids_put (F := 0) ST.out.map hszm hnm (if_neg hsm)
        have HSM := Aside0.mk hsm
        clear hsm hszm hnm
        replace hup : (Instr.mapUpdate 50 (.map (some M)) (.string id) (.int .i64 1)).run Try.prog w2 = .ok () w3 := hup
        have TN := Aside0.mk (ST.out.turn ht3)
        have BC3 := Aside0.mk ((ht3.grown.block C (blk_lt BC.out) (fun e => HCM.out (by injection e))).trans BC.out)
        have HLK := Aside0.mk hlk
        have CX := Aside0.mk (pw_cell_below (ST.out.turn ht3).bel HX2.out)
        have IDS := Aside0.mk (hids HSM.out)
        clear BC ST hlk hx2 hids
        go_upto_region 11 with fail
        clear hl0 hup ht3
        have c0_ : w3.cell? ⟨C, 0, none⟩ = some (.string id) := (blk_cell BC3.out 0).trans rfl
        have c1_ : w3.cell? ⟨C, 1, none⟩ = some (.int .i64 key) := (blk_cell BC3.out 1).trans rfl
        have c2_ : w3.cell? ⟨C, 2, none⟩ = some (.slice none 0 0) := (blk_cell BC3.out 2).trans rfl
        cases hco : cardOk id key with
        | false =>
         have HCO := Aside0.mk (show seg_may.f 1 id key [] = some false from (segmay_eq id key 1 (Nat.le_refl _)).trans (congrArg some hco))
         have HC := Aside0.mk hco
         clear hco
         go_wp2_with (first | (go_at_call 21; (refine (seg_may.calls 1 id key none 0 [] false _ (Kd.C_nil _ _) (Nat.le_refl _) HCO.out).mono ?_); rintro e_ w4 ⟨rfl, hb⟩; have hlu := HLK.out w4 hb; have n0_ := Aside0.mk (TN.out.step hb); have n1_ := Aside0.mk (blk_below BC3.out hb); have n2_ := Aside0.mk (pw_cell_below hb CX.out); have n3_ := Aside0.mk (show IdsAt w4 M (id :: seen) from mapAt_below IDS.out hb); replace c0_ := pw_cell_below hb c0_; replace c1_ := pw_cell_below hb c1_; replace c2_ := pw_cell_below hb c2_; clear hb TN BC3 CX IDS; have TN := n0_; have BC3 := n1_; have CX := n2_; have IDS := n3_; clear n0_ n1_ n2_ n3_; have d2 : w4.cell? ⟨S, 2, none⟩ = some (.slice (some ad2) lens.length c2) := (blk_cell TN.out.box 2).trans (by rw [← KCS.out]; rfl); have d4 : w4.cell? ⟨S, 4, none⟩ = some (.bool so) := (blk_cell TN.out.box 4).trans (by rw [← KCS.out]; rfl); have hx2 := CX.out; have g0_ : w4.cell? ⟨G, 0, none⟩ = some (.string pid) := (blk_cell TN.out.ah 0).trans rfl; have g1_ : w4.cell? ⟨G, 1, none⟩ = some (.int .i64 pk) := (blk_cell TN.out.ah 1).trans rfl; have g2_ : w4.cell? ⟨G, 2, none⟩ = some (.slice none 0 0) := (blk_cell TN.out.ah 2).trans rfl))
         go_ret
         exact ⟨by rw [may_bad4 (HP2.out.symm.trans (mayGo_bad (fun h => by have := h.1; rw [← HKEY.out, HC.out] at this; cases this)))]; rfl, TN.out.bel⟩
        | true =>
         have HCO := Aside0.mk (show seg_may.f 1 id key [] = some true from (segmay_eq id key 1 (Nat.le_refl _)).trans (congrArg some hco))
         have HC := Aside0.mk hco
         clear hco
         by_cases hl1 : ln < 0
         ·
          have z1 : decide (ln < 0) = true := decide_eq_true hl1
          have HL1 := Aside0.mk hl1
          clear hl1
          go_wp2_with (first | (go_at_call 21; (refine (seg_may.calls 1 id key none 0 [] true _ (Kd.C_nil _ _) (Nat.le_refl _) HCO.out).mono ?_); rintro e_ w4 ⟨rfl, hb⟩; have hlu := HLK.out w4 hb; have n0_ := Aside0.mk (TN.out.step hb); have n1_ := Aside0.mk (blk_below BC3.out hb); have n2_ := Aside0.mk (pw_cell_below hb CX.out); have n3_ := Aside0.mk (show IdsAt w4 M (id :: seen) from mapAt_below IDS.out hb); replace c0_ := pw_cell_below hb c0_; replace c1_ := pw_cell_below hb c1_; replace c2_ := pw_cell_below hb c2_; clear hb TN BC3 CX IDS; have TN := n0_; have BC3 := n1_; have CX := n2_; have IDS := n3_; clear n0_ n1_ n2_ n3_; have d2 : w4.cell? ⟨S, 2, none⟩ = some (.slice (some ad2) lens.length c2) := (blk_cell TN.out.box 2).trans (by rw [← KCS.out]; rfl); have d4 : w4.cell? ⟨S, 4, none⟩ = some (.bool so) := (blk_cell TN.out.box 4).trans (by rw [← KCS.out]; rfl); have hx2 := CX.out; have g0_ : w4.cell? ⟨G, 0, none⟩ = some (.string pid) := (blk_cell TN.out.ah 0).trans rfl; have g1_ : w4.cell? ⟨G, 1, none⟩ = some (.int .i64 pk) := (blk_cell TN.out.ah 1).trans rfl; have g2_ : w4.cell? ⟨G, 2, none⟩ = some (.slice none 0 0) := (blk_cell TN.out.ah 2).trans rfl))
          go_ret
          exact ⟨by rw [may_bad4 (HP2.out.symm.trans (mayGo_bad (fun h => by have := h.2.2.1; rw [← HLN.out] at this; have := HL1.out; omega)))]; rfl, TN.out.bel⟩
         ·
          have z1 : decide (ln < 0) = false := decide_eq_false hl1
          by_cases hl2 : 120 < ln
          ·
           have z2 : decide (120 < ln) = true := decide_eq_true hl2
           have HL1 := Aside0.mk hl2
           clear hl1 hl2
           go_wp2_with (first | (go_at_call 21; (refine (seg_may.calls 1 id key none 0 [] true _ (Kd.C_nil _ _) (Nat.le_refl _) HCO.out).mono ?_); rintro e_ w4 ⟨rfl, hb⟩; have hlu := HLK.out w4 hb; have n0_ := Aside0.mk (TN.out.step hb); have n1_ := Aside0.mk (blk_below BC3.out hb); have n2_ := Aside0.mk (pw_cell_below hb CX.out); have n3_ := Aside0.mk (show IdsAt w4 M (id :: seen) from mapAt_below IDS.out hb); replace c0_ := pw_cell_below hb c0_; replace c1_ := pw_cell_below hb c1_; replace c2_ := pw_cell_below hb c2_; clear hb TN BC3 CX IDS; have TN := n0_; have BC3 := n1_; have CX := n2_; have IDS := n3_; clear n0_ n1_ n2_ n3_; have d2 : w4.cell? ⟨S, 2, none⟩ = some (.slice (some ad2) lens.length c2) := (blk_cell TN.out.box 2).trans (by rw [← KCS.out]; rfl); have d4 : w4.cell? ⟨S, 4, none⟩ = some (.bool so) := (blk_cell TN.out.box 4).trans (by rw [← KCS.out]; rfl); have hx2 := CX.out; have g0_ : w4.cell? ⟨G, 0, none⟩ = some (.string pid) := (blk_cell TN.out.ah 0).trans rfl; have g1_ : w4.cell? ⟨G, 1, none⟩ = some (.int .i64 pk) := (blk_cell TN.out.ah 1).trans rfl; have g2_ : w4.cell? ⟨G, 2, none⟩ = some (.slice none 0 0) := (blk_cell TN.out.ah 2).trans rfl))
           go_ret
           exact ⟨by rw [may_bad4 (HP2.out.symm.trans (mayGo_bad (fun h => by have := h.2.2.2.1; rw [← HLN.out] at this; have := HL1.out; omega)))]; rfl, TN.out.bel⟩
          ·
           have z2 : decide (120 < ln) = false := decide_eq_false hl2
           have HL1 := Aside0.mk (show 0 ≤ ln ∧ ln ≤ 120 by omega)
           clear hl1 hl2
           cases hso : so with
           | false =>
            subst hso
            go_upto_region 13 with (first | (go_at_call 21; (refine (seg_may.calls 1 id key none 0 [] true _ (Kd.C_nil _ _) (Nat.le_refl _) HCO.out).mono ?_); rintro e_ w4 ⟨rfl, hb⟩; have hlu := HLK.out w4 hb; have n0_ := Aside0.mk (TN.out.step hb); have n1_ := Aside0.mk (blk_below BC3.out hb); have n2_ := Aside0.mk (pw_cell_below hb CX.out); have n3_ := Aside0.mk (show IdsAt w4 M (id :: seen) from mapAt_below IDS.out hb); replace c0_ := pw_cell_below hb c0_; replace c1_ := pw_cell_below hb c1_; replace c2_ := pw_cell_below hb c2_; clear hb TN BC3 CX IDS; have TN := n0_; have BC3 := n1_; have CX := n2_; have IDS := n3_; clear n0_ n1_ n2_ n3_; have d2 : w4.cell? ⟨S, 2, none⟩ = some (.slice (some ad2) lens.length c2) := (blk_cell TN.out.box 2).trans (by rw [← KCS.out]; rfl); have d4 : w4.cell? ⟨S, 4, none⟩ = some (.bool false) := (blk_cell TN.out.box 4).trans (by rw [← KCS.out]; rfl); have hx2 := CX.out; have g0_ : w4.cell? ⟨G, 0, none⟩ = some (.string pid) := (blk_cell TN.out.ah 0).trans rfl; have g1_ : w4.cell? ⟨G, 1, none⟩ = some (.int .i64 pk) := (blk_cell TN.out.ah 1).trans rfl; have g2_ : w4.cell? ⟨G, 2, none⟩ = some (.slice none 0 0) := (blk_cell TN.out.ah 2).trans rfl))
            have f0_ := blk_frozen TN.out.ah 0
            have f1_ := blk_frozen TN.out.ah 1
            have f2_ := blk_frozen TN.out.ah 2
            go_wp2
            have n0_ := Aside0.mk (TN.out.set IDS.out id key)
            go_roundg k1
            case measure => have := HI.out; omega
            case rel => exact ⟨i + 1, id :: seen, id, key, (by rw [wstep (by have := HLT.out; have := H1.out; omega)]), n0_, ⟨by have := HLT.out; omega, by have := HI.out; have := HLT.out; omega, by have := HI.out; omega, by have := HI.out; simp only [List.length_cons]; omega⟩, ⟨by have h := HP2.out; rw [mayGo_good ⟨by rw [← HKEY.out]; exact HC.out, HSM.out, by rw [← HLN.out]; exact HL1.out.1, by rw [← HLN.out]; exact HL1.out.2, by rw [← HKEY.out]; rfl⟩, ← HKEY.out] at h; exact h⟩⟩
           | true =>
            subst hso
            by_cases hi0 : 0 < i
            ·
             have z3 : decide ((0 : Int) < (i : Int)) = true := decide_eq_true (by omega)
             have z4 : decide (0 < i) = true := decide_eq_true hi0
             have HI0 := Aside0.mk z4
             clear hi0
             cases hbf : beforeP pid pk id key with
             | false =>
              have HBF := Aside0.mk (show seg_Before.f 4 pid pk [] id key [] = some false from (before_eq _ _ _ _ _ _ 4 (Nat.le_refl _)).trans (congrArg some hbf))
              have HB_ := Aside0.mk hbf
              clear hbf
              go_wp2_with (first | (go_at_call 21; (refine (seg_may.calls 1 id key none 0 [] true _ (Kd.C_nil _ _) (Nat.le_refl _) HCO.out).mono ?_); rintro e_ w4 ⟨rfl, hb⟩; have hlu := HLK.out w4 hb; have n0_ := Aside0.mk (TN.out.step hb); have n1_ := Aside0.mk (blk_below BC3.out hb); have n2_ := Aside0.mk (pw_cell_below hb CX.out); have n3_ := Aside0.mk (show IdsAt w4 M (id :: seen) from mapAt_below IDS.out hb); replace c0_ := pw_cell_below hb c0_; replace c1_ := pw_cell_below hb c1_; replace c2_ := pw_cell_below hb c2_; clear hb TN BC3 CX IDS; have TN := n0_; have BC3 := n1_; have CX := n2_; have IDS := n3_; clear n0_ n1_ n2_ n3_; have d2 : w4.cell? ⟨S, 2, none⟩ = some (.slice (some ad2) lens.length c2) := (blk_cell TN.out.box 2).trans (by rw [← KCS.out]; rfl); have d4 : w4.cell? ⟨S, 4, none⟩ = some (.bool true) := (blk_cell TN.out.box 4).trans (by rw [← KCS.out]; rfl); have hx2 := CX.out; have g0_ : w4.cell? ⟨G, 0, none⟩ = some (.string pid) := (blk_cell TN.out.ah 0).trans rfl; have g1_ : w4.cell? ⟨G, 1, none⟩ = some (.int .i64 pk) := (blk_cell TN.out.ah 1).trans rfl; have g2_ : w4.cell? ⟨G, 2, none⟩ = some (.slice none 0 0) := (blk_cell TN.out.ah 2).trans rfl) | (go_at_call 22; (refine (seg_Before.calls 4 pid pk none 0 [] id key none 0 [] false _ (Kd.C_nil _ _) (Nat.le_refl _) (Kd.C_nil _ _) (Nat.le_refl _) HBF.out).mono ?_); rintro e_ w5 ⟨rfl, hb⟩; have n0_ := Aside0.mk (TN.out.step hb); have n1_ := Aside0.mk (blk_below BC3.out hb); have n2_ := Aside0.mk (pw_cell_below hb CX.out); have n3_ := Aside0.mk (show IdsAt w5 M (id :: seen) from mapAt_below IDS.out hb); replace c0_ := pw_cell_below hb c0_; replace c1_ := pw_cell_below hb c1_; replace c2_ := pw_cell_below hb c2_; replace g0_ := pw_cell_below hb g0_; replace g1_ := pw_cell_below hb g1_; replace g2_ := pw_cell_below hb g2_; clear hb TN BC3 CX IDS; have TN := n0_; have BC3 := n1_; have CX := n2_; have IDS := n3_; clear n0_ n1_ n2_ n3_))
              go_ret
              exact ⟨by rw [may_bad4 (HP2.out.symm.trans (mayGo_bad (fun h => by have := h.2.2.2.2; rw [← HKEY.out, HB_.out, HI0.out] at this; cases this)))]; rfl, TN.out.bel⟩
             | true =>
              have HBF := Aside0.mk (show seg_Before.f 4 pid pk [] id key [] = some true from (before_eq _ _ _ _ _ _ 4 (Nat.le_refl _)).trans (congrArg some hbf))
              have HB_ := Aside0.mk hbf
              clear hbf
              go_upto_region 13 with (first | (go_at_call 21; (refine (seg_may.calls 1 id key none 0 [] true _ (Kd.C_nil _ _) (Nat.le_refl _) HCO.out).mono ?_); rintro e_ w4 ⟨rfl, hb⟩; have hlu := HLK.out w4 hb; have n0_ := Aside0.mk (TN.out.step hb); have n1_ := Aside0.mk (blk_below BC3.out hb); have n2_ := Aside0.mk (pw_cell_below hb CX.out); have n3_ := Aside0.mk (show IdsAt w4 M (id :: seen) from mapAt_below IDS.out hb); replace c0_ := pw_cell_below hb c0_; replace c1_ := pw_cell_below hb c1_; replace c2_ := pw_cell_below hb c2_; clear hb TN BC3 CX IDS; have TN := n0_; have BC3 := n1_; have CX := n2_; have IDS := n3_; clear n0_ n1_ n2_ n3_; have d2 : w4.cell? ⟨S, 2, none⟩ = some (.slice (some ad2) lens.length c2) := (blk_cell TN.out.box 2).trans (by rw [← KCS.out]; rfl); have d4 : w4.cell? ⟨S, 4, none⟩ = some (.bool true) := (blk_cell TN.out.box 4).trans (by rw [← KCS.out]; rfl); have hx2 := CX.out; have g0_ : w4.cell? ⟨G, 0, none⟩ = some (.string pid) := (blk_cell TN.out.ah 0).trans rfl; have g1_ : w4.cell? ⟨G, 1, none⟩ = some (.int .i64 pk) := (blk_cell TN.out.ah 1).trans rfl; have g2_ : w4.cell? ⟨G, 2, none⟩ = some (.slice none 0 0) := (blk_cell TN.out.ah 2).trans rfl) | (go_at_call 22; (refine (seg_Before.calls 4 pid pk none 0 [] id key none 0 [] true _ (Kd.C_nil _ _) (Nat.le_refl _) (Kd.C_nil _ _) (Nat.le_refl _) HBF.out).mono ?_); rintro e_ w5 ⟨rfl, hb⟩; have n0_ := Aside0.mk (TN.out.step hb); have n1_ := Aside0.mk (blk_below BC3.out hb); have n2_ := Aside0.mk (pw_cell_below hb CX.out); have n3_ := Aside0.mk (show IdsAt w5 M (id :: seen) from mapAt_below IDS.out hb); replace c0_ := pw_cell_below hb c0_; replace c1_ := pw_cell_below hb c1_; replace c2_ := pw_cell_below hb c2_; replace g0_ := pw_cell_below hb g0_; replace g1_ := pw_cell_below hb g1_; replace g2_ := pw_cell_below hb g2_; clear hb TN BC3 CX IDS; have TN := n0_; have BC3 := n1_; have CX := n2_; have IDS := n3_; clear n0_ n1_ n2_ n3_))
              have f0_ := blk_frozen TN.out.ah 0
              have f1_ := blk_frozen TN.out.ah 1
              have f2_ := blk_frozen TN.out.ah 2
              go_wp2
              have n0_ := Aside0.mk (TN.out.set IDS.out id key)
              go_roundg k1
              case measure => have := HI.out; omega
              case rel => exact ⟨i + 1, id :: seen, id, key, (by rw [wstep (by have := HLT.out; have := H1.out; omega)]), n0_, ⟨by have := HLT.out; omega, by have := HI.out; have := HLT.out; omega, by have := HI.out; omega, by have := HI.out; simp only [List.length_cons]; omega⟩, ⟨by have h := HP2.out; rw [mayGo_good ⟨by rw [← HKEY.out]; exact HC.out, HSM.out, by rw [← HLN.out]; exact HL1.out.1, by rw [← HLN.out]; exact HL1.out.2, by rw [← HKEY.out]; rw [HB_.out]; cases decide (0 < i) <;> rfl⟩, ← HKEY.out] at h; exact h⟩⟩
            ·
             have z3 : decide ((0 : Int) < (i : Int)) = false := decide_eq_false (by omega)
             have z4 : decide (0 < i) = false := decide_eq_false hi0
             have HI0 := Aside0.mk z4
             clear hi0
             go_upto_region 13 with (first | (go_at_call 21; (refine (seg_may.calls 1 id key none 0 [] true _ (Kd.C_nil _ _) (Nat.le_refl _) HCO.out).mono ?_); rintro e_ w4 ⟨rfl, hb⟩; have hlu := HLK.out w4 hb; have n0_ := Aside0.mk (TN.out.step hb); have n1_ := Aside0.mk (blk_below BC3.out hb); have n2_ := Aside0.mk (pw_cell_below hb CX.out); have n3_ := Aside0.mk (show IdsAt w4 M (id :: seen) from mapAt_below IDS.out hb); replace c0_ := pw_cell_below hb c0_; replace c1_ := pw_cell_below hb c1_; replace c2_ := pw_cell_below hb c2_; clear hb TN BC3 CX IDS; have TN := n0_; have BC3 := n1_; have CX := n2_; have IDS := n3_; clear n0_ n1_ n2_ n3_; have d2 : w4.cell? ⟨S, 2, none⟩ = some (.slice (some ad2) lens.length c2) := (blk_cell TN.out.box 2).trans (by rw [← KCS.out]; rfl); have d4 : w4.cell? ⟨S, 4, none⟩ = some (.bool true) := (blk_cell TN.out.box 4).trans (by rw [← KCS.out]; rfl); have hx2 := CX.out; have g0_ : w4.cell? ⟨G, 0, none⟩ = some (.string pid) := (blk_cell TN.out.ah 0).trans rfl; have g1_ : w4.cell? ⟨G, 1, none⟩ = some (.int .i64 pk) := (blk_cell TN.out.ah 1).trans rfl; have g2_ : w4.cell? ⟨G, 2, none⟩ = some (.slice none 0 0) := (blk_cell TN.out.ah 2).trans rfl))
             have f0_ := blk_frozen TN.out.ah 0
             have f1_ := blk_frozen TN.out.ah 1
             have f2_ := blk_frozen TN.out.ah 2
             go_wp2
             have n0_ := Aside0.mk (TN.out.set IDS.out id key)
             go_roundg k1
             case measure => have := HI.out; omega
             case rel => exact ⟨i + 1, id :: seen, id, key, (by rw [wstep (by have := HLT.out; have := H1.out; omega)]), n0_, ⟨by have := HLT.out; omega, by have := HI.out; have := HLT.out; omega, by have := HI.out; omega, by have := HI.out; simp only [List.length_cons]; omega⟩, ⟨by have h := HP2.out; rw [mayGo_good ⟨by rw [← HKEY.out]; exact HC.out, HSM.out, by rw [← HLN.out]; exact HL1.out.1, by rw [← HLN.out]; exact HL1.out.2, by rw [← HKEY.out]; rw [HI0.out]; rfl⟩, ← HKEY.out] at h; exact h⟩⟩
      ·
       have c2b0 : decide ((i : Int) < (ids.length : Int)) = false := decide_eq_false (by omega)
       have c2b1 : decide (i < ids.length) = false := decide_eq_false hlt
       have hall : mayGo keys lens so ids 0 [] ⟨#[]⟩ 0 = true := by have h := HP.out; rw [List.drop_eq_nil_of_le (by omega)] at h; exact h.symm
       have HALL := Aside0.mk hall
       have HBL := Aside0.mk (mayGo_all hall H3.out)
       have HL64 := Aside0.mk (show lens.length ≤ 64 by have := H1.out; have := H3.out; omega)
       clear hlt hall HP
       go_upto_region 15 with fail
       have d0 : wr.cell? ⟨S, 0, none⟩ = some (.slice A0 ids.length c0) := (blk_cell ST.out.box 0).trans (by rw [← KCS.out]; rfl)
       have d1 : wr.cell? ⟨S, 1, none⟩ = some (.slice A1 keys.length c1) := (blk_cell ST.out.box 1).trans (by rw [← KCS.out]; rfl)
       have d2 : wr.cell? ⟨S, 2, none⟩ = some (.slice A2 lens.length c2) := (blk_cell ST.out.box 2).trans (by rw [← KCS.out]; rfl)
       have d3 : wr.cell? ⟨S, 3, none⟩ = some (.slice A3 terms.length c3) := (blk_cell ST.out.box 3).trans (by rw [← KCS.out]; rfl)
       have d4 : wr.cell? ⟨S, 4, none⟩ = some (.bool so) := (blk_cell ST.out.box 4).trans (by rw [← KCS.out]; rfl)
       go_wp2_with (first | (go_at_call 23; (refine (placed_calls A0 c0 ids A1 c1 keys A2 c2 lens A3 c3 terms so _ (Kd.C_below HC2.out ST.out.bel) (Kd.C_below HC3.out ST.out.bel) HL64.out HBL.out HT.out HPL.out).mono ?_); rintro e_ w4 ⟨rfl, hb⟩; have n0_ := Aside0.mk (ST.out.step hb); clear ST hb; have ST := n0_; clear n0_))
       go_ret
       exact ⟨by rw [may_good H1.out H2.out H3.out HALL.out]; rfl, ST.out.bel⟩
   ·
    have z3 : ((lens.length : Int) != (ids.length : Int)) = true := bne_iff_ne.2 (by omega)
    have H3 := Aside0.mk h3
    clear h3
    go_wp2
    go_ret
    exact ⟨by rw [may_bad3 H3.out]; rfl, bb.out⟩
  ·
   have z2 : ((keys.length : Int) != (ids.length : Int)) = true := bne_iff_ne.2 (by omega)
   have H2 := Aside0.mk h2
   clear h2
   go_wp2
   go_ret
   exact ⟨by rw [may_bad2 H2.out]; rfl, bb.out⟩
 ·
  have z1 : decide ((64 : Int) < (ids.length : Int)) = true := decide_eq_true (by omega)
  have y1 : decide (64 < ids.length) = true := decide_eq_true (by omega)
  have H1 := Aside0.mk h1
  clear h1
  go_wp2
  go_ret
  exact ⟨by rw [may_bad1 H1.out]; rfl, bb.out⟩

end Go.Proofs.Ytfhcolhiolgikaa.T
/- Written by hp.py, this session's own program, out of the translation of this seat: Lean functions for the Go functions, and the proof that each call comes to what its Lean function says. -/
namespace Go.Proofs.Ytfhcolhiolgikaa.T
open Go.RowKit Go.Proofs.YtfhcolhiolgikaaW.PrintWords Go.Proofs.YtfhcolhiolgikaaW.PrintLast Go.Proofs.YtfhcolhiolgikaaW.PrintMore
attribute [local go_sem] max2_int min2_int max_two min_two max_three min_three max_four min_four   -- for this text's walks alone
set_option linter.unusedVariables false
set_option linter.unusedSimpArgs false
/-! ### pack.within (25), by hand -/
open Go.Proofs.Ytfhcolhiolgikaa.Plain
def seg0 : Array Value := #[.slice none 0 0, .slice none 0 0, .slice none 0 0, .slice none 0 0, .bool false]
structure WiLt (w : World) (B S g h s : Nat) : Prop where
 bS : w.heap.size ≤ S
 bg : w.heap.size ≤ g
 bh : w.heap.size ≤ h
 bs : w.heap.size ≤ s
 lS : S < B
 lg : g < B
 lh : h < B
 ls : s < B
 Sg : S ≠ g
 Sh : S ≠ h
 Ss : S ≠ s
 hg : h ≠ g
 sg : s ≠ g
 hs : h ≠ s
/-- What a walk of within keeps. -/
structure WiSt (w : World) (B S g h s c : Nat) (A : Option Addr) (b : List Int) (so : Bool) (pl : Int) (bd : Bool) (v0 : Value) (ids : List ByteArray) (v1 : Value) (keys : List Int) (v2 : Value) (lens : List Int) (v3 : Value) (terms : List S44) (wr : World) : Prop where
 res : wr.heap[S]? = some (.cells seg0 26 (0, 0))
 rd : wr.heap[g]? = some (.cells (rd3 A c b pl bd) 87 (0, 0))
 box : wr.heap[h]? = some (.cells #[.pointer (some ⟨g, 0, none⟩)] 85 (0, 0))
 st : wr.heap[s]? = some (.cells #[v0, v1, v2, v3, .bool so] 26 (0, 0))
 r0 : Kd.R Kd.string 9 wr w.heap.size (fun k => B ≤ k) v0 ids
 r1 : Kd.R (Kd.int .i64) 3 wr w.heap.size (fun k => B ≤ k) v1 keys
 r2 : Kd.R (Kd.int .i64) 3 wr w.heap.size (fun k => B ≤ k) v2 lens
 r3 : Kd.R k44 44 wr w.heap.size (fun k => B ≤ k) v3 terms
 bel : Below w.heap.size w wr
 sz : B ≤ wr.heap.size
section
variable {w : World} {B S g h s c : Nat} {A : Option Addr} {b : List Int} {so : Bool} {pl pl' : Int} {bd bd' : Bool} {v0 v1 v2 v3 : Value} {ids : List ByteArray} {keys lens : List Int} {terms : List S44} {wr w2 : World}
theorem WiSt.keep (H : WiSt w B S g h s c A b so pl bd v0 ids v1 keys v2 lens v3 terms wr) (L : WiLt w B S g h s) (hk : KeepBut wr w2 g none) (hrd : w2.heap[g]? = some (.cells (rd3 A c b pl' bd') 87 (0, 0))) (hb : Below w.heap.size w w2) : WiSt w B S g h s c A b so pl' bd' v0 ids v1 keys v2 lens v3 terms w2 := by
 have hne : ∀ k, B ≤ k → k ≠ g := fun k hk => by have := L.lg; omega
 exact ⟨hk.blk H.res L.Sg (by simp), hrd, hk.blk H.box L.hg (by simp), hk.blk H.st L.sg (by simp), Kd.R_keep H.r0 hk hne, Kd.R_keep H.r1 hk hne, Kd.R_keep H.r2 hk hne, Kd.R_keep H.r3 hk hne, hb, Nat.le_trans H.sz hk.1⟩
theorem WiSt.step (H : WiSt w B S g h s c A b so pl bd v0 ids v1 keys v2 lens v3 terms wr) (hb : Below wr.heap.size wr w2) : WiSt w B S g h s c A b so pl bd v0 ids v1 keys v2 lens v3 terms w2 :=
 ⟨blk_below H.res hb, blk_below H.rd hb, blk_below H.box hb, blk_below H.st hb, Kd.R_below H.r0 hb, Kd.R_below H.r1 hb, Kd.R_below H.r2 hb, Kd.R_below H.r3 hb, below_step H.bel hb, Nat.le_trans H.sz hb.size⟩
theorem setS {α : Type} {d : Kd α} {e : Nat} {xs : List α} {v : Value} (L : WiLt w B S g h s) (hr : Kd.R d e wr w.heap.size (fun k => B ≤ k) v xs) (j : Nat) (u : Value) : Kd.R d e (wr.setCell ⟨s, j, none⟩ u) w.heap.size (fun k => B ≤ k) v xs :=
 Kd.R_keep hr (KeepBut.set_ (KeepBut.refl wr s none) j u) (fun k hk => by have := L.ls; omega)
theorem WiSt.setJ (H : WiSt w B S g h s c A b so pl bd v0 ids v1 keys v2 lens v3 terms wr) (L : WiLt w B S g h s) {v0' v1' v2' v3' : Value} {ids' : List ByteArray} {keys' lens' : List Int} {terms' : List S44} (j : Nat) (u : Value)
  (hst : (#[v0, v1, v2, v3, Value.bool so]).setIfInBounds j u = #[v0', v1', v2', v3', Value.bool so])
  (h0 : Kd.R Kd.string 9 wr w.heap.size (fun k => B ≤ k) v0' ids') (h1 : Kd.R (Kd.int .i64) 3 wr w.heap.size (fun k => B ≤ k) v1' keys') (h2 : Kd.R (Kd.int .i64) 3 wr w.heap.size (fun k => B ≤ k) v2' lens') (h3 : Kd.R k44 44 wr w.heap.size (fun k => B ≤ k) v3' terms') :
  WiSt w B S g h s c A b so pl bd v0' ids' v1' keys' v2' lens' v3' terms' (wr.setCell ⟨s, j, none⟩ u) :=
 ⟨blk_far H.res (p := ⟨s, j, none⟩) L.Ss u, blk_far H.rd (p := ⟨s, j, none⟩) L.sg.symm u, blk_far H.box (p := ⟨s, j, none⟩) L.hs u, (blk_set H.st j u).trans (by rw [hst]), setS L h0 j u, setS L h1 j u, setS L h2 j u, setS L h3 j u, below_set H.bel L.bs, by simpa [World.setCell] using H.sz⟩
theorem apT {α : Type} {d : Kd α} {e : Nat} {v : Value} {xs : List α} (hr : Kd.R d e wr w.heap.size (fun k => B ≤ k) v xs) (hq : ∀ q, q ∈ e :: d.E → q ≠ 44) (h3 : Kd.R k44 44 wr w.heap.size (fun k => B ≤ k) v3 terms) {k : Nat} (hk : v3.ownBlock = some k) (hg : wr.grownBy w2 (some k)) : Kd.R d e w2 w.heap.size (fun k => B ≤ k) v xs :=
 Kd.R_mono (Kd.R_grown (Kd.R_apart' (v := v3) (e' := 44) hr (fun m hm => by
  obtain ⟨_, inner, ho, _⟩ := h3
  rcases ho.2 with ⟨hv, _⟩ | ⟨g', cap', cur, hv, _, hh, _⟩
  ·
   rw [hv] at hm; cases hm
  ·
   rw [hv] at hm
   have : g' = m := by simpa [Value.ownBlock] using hm
   subst this
   exact ⟨cur, hh⟩) hq) hg (fun k hk' => by rw [← hk]; exact hk'.2)) (fun k hk => hk.1)
theorem WiSt.term (H : WiSt w B S g h s c A b so pl bd v0 ids v1 keys v2 lens v3 terms wr) (L : WiLt w B S g h s) {terms' : List S44} {k : Nat} (hk : v3.ownBlock = some k) (hg : wr.grownBy w2 (some k)) (hb : Below w.heap.size w w2) (h3 : Kd.R k44 44 w2 w.heap.size (fun k => B ≤ k) v3 terms') : WiSt w B S g h s c A b so pl bd v0 ids v1 keys v2 lens v3 terms' w2 := by
 have hB : B ≤ k := H.r3.1 k hk
 have hn : ∀ m, m < B → some m ≠ some k := fun m hm e => by injection e; omega
 exact ⟨(hg.block S (blk_lt H.res) (hn _ L.lS)).trans H.res, (hg.block g (blk_lt H.rd) (hn _ L.lg)).trans H.rd, (hg.block h (blk_lt H.box) (hn _ L.lh)).trans H.box, (hg.block s (blk_lt H.st) (hn _ L.ls)).trans H.st, apT H.r0 (by decide) H.r3 hk hg, apT H.r1 (by decide) H.r3 hk hg, apT H.r2 (by decide) H.r3 hk hg, h3, hb, Nat.le_trans H.sz hg.size⟩
end
theorem newR {α : Type} {d : Kd α} {e : Nat} {w wr w2 : World} {B : Nat} {v : Value} {xs : List α} (h : Kd.R d e w2 wr.heap.size (fun k => wr.heap.size ≤ k) v xs) (hb : w.heap.size ≤ wr.heap.size) (hB : B ≤ wr.heap.size) : Kd.R d e w2 w.heap.size (fun k => B ≤ k) v xs :=
 Kd.R_mono (Kd.R_lower h hb) (fun k hk => Nat.le_trans hB hk)
theorem size9 : (Try.prog.info? 9).map (·.size) = some 1 := by kernel_rfl
theorem term_store {ops : Array Oper} {Q : Exit → Act → World → Prop} {rest : List Oper} {o : Oper} {a : Act} {w0 W : World} (p x : Operand) {base gT n cap i : Nat} {ok : Nat → Prop} {xs : List S44} {wd : ByteArray} (ho : o.op = .store 9 p x) (hN : o.dst = none) (hgd : o.guard = none)
  (haddr : a.eval p = .pointer (some ⟨gT, i * 2, none⟩)) (hx : a.eval x = .string wd) (HO : Kd.R k44 44 W base ok (.slice (some ⟨gT, 0, none⟩) n cap) xs) (hi : i < n) (HB : Below base w0 W)
  (h : ∀ w1, Kd.R k44 44 w1 base ok (.slice (some ⟨gT, 0, none⟩) n cap) (xs.set i ⟨wd, (xs.getD i z44).f1⟩) → Below base w0 w1 → W.grownBy w1 (some gT) → wpList Try.prog ops Q rest a w1) : wpList Try.prog ops Q (o :: rest) a W := by
 obtain ⟨cl, hcl, hM, hcc, hfz⟩ := Kd.R_elem HO z44 (i : Int) (by omega) (by omega)
 obtain ⟨vf, rfl, hvf⟩ := k44_openM hM
 refine Kd.R_store k44 (w0 := w0) base hN hgd 9 p x ho 44 (i : Int) 0 xs (⟨wd, (xs.getD i z44).f1⟩ : S44) (.string wd) [.string wd] _ ok (fun k => ok k ∧ k ≠ gT) haddr (by rw [Int.toNat_natCast]; rfl) hx rfl size9 (by intro q hq; rw [List.mem_singleton.1 hq]; rfl) HO (by omega) (by omega) hcl hcc (show 0 + 1 ≤ 2 from by decide) ?_ (fun k hk => hk) HB ?_
 ·
  exact k44_mkM _ _ _ (⟨wd, (xs.getD i z44).f1⟩ : S44) (by rw [Int.toNat_natCast] at hvf; exact hvf)
 ·
  intro w1 h1 h2 h3
  rw [Int.toNat_natCast] at h1
  exact h w1 h1 h2 h3
set_option maxHeartbeats 8000000 in
set_option maxRecDepth 100000 in
theorem within_calls (A : Option Addr) (c : Nat) (b : List Int) (w : World) (hby : byt b) (hC : Kd.C (Kd.int .u8) w A b.length b) (hc : b.length ≤ c) (hl : b.length ≤ 100000) :
  Calls Try.prog 25 #[.slice A b.length c] w fun e w' => ∃ v0 v1 v2 v3, e = .returned (.tuple #[.agg #[v0, v1, v2, v3, .bool (withinP b).1.so], .bool (withinP b).2]) ∧
   Kd.R Kd.string 9 w' w.heap.size (fun _ => True) v0 (withinP b).1.ids ∧ Kd.R (Kd.int .i64) 3 w' w.heap.size (fun _ => True) v1 (withinP b).1.keys ∧ Kd.R (Kd.int .i64) 3 w' w.heap.size (fun _ => True) v2 (withinP b).1.lens ∧ Kd.R k44 44 w' w.heap.size (fun _ => True) v3 (withinP b).1.terms ∧ Below w.heap.size w w' := by
 have hu26 := Try.underlying26
 have hu44 := Try.underlying44
 have hu87 := Try.underlying87
 have HBY := Aside0.mk hby
 have HC := Aside0.mk hC
 have HCC := Aside0.mk hc
 have HL := Aside0.mk hl
 have HL9 := Aside0.mk (show b.length ≤ 1000000000 from by omega)
 clear hby hC hc hl
 go_enter Try.func25, Try.ntmps25
 go_upto_region 1 with fail
 have b0 := Aside0.mk (show (w.alloc (.cells seg0 26)).heap[w.heap.size]? = some (.cells seg0 26 (0, 0)) from blk_new w (.cells seg0 26))
 have bb := Aside0.mk (show Below w.heap.size w (w.alloc (.cells seg0 26)) from below_alloc (Below.refl w.heap.size w) (.cells seg0 26))
 obtain ⟨S, hS⟩ : ∃ S, S = w.heap.size := ⟨_, rfl⟩
 rw [← hS] at b0
 change Code.wp _ _ _ _ (w.alloc (.cells seg0 26))
 generalize (w.alloc (.cells seg0 26)) = wb at *
 rw [← hS]
 have HSW := Aside0.mk (show w.heap.size ≤ S from by omega)
 clear hS
 by_cases hb0 : b.length = 0
 ·
  have HF := Aside0.mk (show withinP b = (segZ, false) from if_pos (Or.inl hb0))
  have k1 : ((b.length : Int) == 0) = true := by simp [hb0]
  clear hb0
  have e0 : wb.cell? ⟨S, 0, none⟩ = some (.slice none 0 0) := (blk_cell b0.out 0).trans rfl
  have e1 : wb.cell? ⟨S, 1, none⟩ = some (.slice none 0 0) := (blk_cell b0.out 1).trans rfl
  have e2 : wb.cell? ⟨S, 2, none⟩ = some (.slice none 0 0) := (blk_cell b0.out 2).trans rfl
  have e3 : wb.cell? ⟨S, 3, none⟩ = some (.slice none 0 0) := (blk_cell b0.out 3).trans rfl
  have e4 : wb.cell? ⟨S, 4, none⟩ = some (.bool false) := (blk_cell b0.out 4).trans rfl
  have f0 := blk_frozen b0.out 0
  have f1 := blk_frozen b0.out 1
  have f2 := blk_frozen b0.out 2
  have f3 := blk_frozen b0.out 3
  have f4 := blk_frozen b0.out 4
  go_wp2
  have hG : (((((wb.setCell ⟨S, 0, none⟩ (.slice none 0 0)).setCell ⟨S, 1, none⟩ (.slice none 0 0)).setCell ⟨S, 2, none⟩ (.slice none 0 0)).setCell ⟨S, 3, none⟩ (.slice none 0 0)).setCell ⟨S, 4, none⟩ (.bool false)).heap[S]? = some (.cells seg0 26 (0, 0)) := (blk_set (blk_set (blk_set (blk_set (blk_set b0.out 0 _) 1 _) 2 _) 3 _) 4 _).trans rfl
  refine bodyPost_ret (results_ct rfl _ _ S 26 seg0 (0, 0) _ rfl hG Try.underlying26 rfl (by kernel_rfl)) rfl ?_
  rw [HF.out]
  exact ⟨.slice none 0 0, .slice none 0 0, .slice none 0 0, .slice none 0 0, rfl, Kd.R_nil _ _ _ _ _, Kd.R_nil _ _ _ _ _, Kd.R_nil _ _ _ _ _, Kd.R_nil _ _ _ _ _, below_set (below_set (below_set (below_set (below_set bb.out HSW.out) HSW.out) HSW.out) HSW.out) HSW.out⟩
 ·
  have k1 : ((b.length : Int) == 0) = false := by simpa using hb0
  obtain ⟨ad, ea, x0⟩ := Kd.at_int HC.out 0 (by omega) (by omega)
  subst ea
  have x0' : w.cell? ad = some (.int .u8 (rd b 0)) := by simpa [Addr.add] using x0
  have x1 : wb.cell? ad = some (.int .u8 (rd b 0)) := pw_cell_below bb.out x0'
  have p1 : (0 : Int) < (b.length : Int) := by omega
  by_cases hgt : rd b 0 > 1
  ·
   have HF := Aside0.mk (show withinP b = (segZ, false) from if_pos (Or.inr hgt))
   have k2 : decide (rd b 0 > 1) = true := decide_eq_true hgt
   clear hb0 hgt
   have e0 : wb.cell? ⟨S, 0, none⟩ = some (.slice none 0 0) := (blk_cell b0.out 0).trans rfl
   have e1 : wb.cell? ⟨S, 1, none⟩ = some (.slice none 0 0) := (blk_cell b0.out 1).trans rfl
   have e2 : wb.cell? ⟨S, 2, none⟩ = some (.slice none 0 0) := (blk_cell b0.out 2).trans rfl
   have e3 : wb.cell? ⟨S, 3, none⟩ = some (.slice none 0 0) := (blk_cell b0.out 3).trans rfl
   have e4 : wb.cell? ⟨S, 4, none⟩ = some (.bool false) := (blk_cell b0.out 4).trans rfl
   have f0 := blk_frozen b0.out 0
   have f1 := blk_frozen b0.out 1
   have f2 := blk_frozen b0.out 2
   have f3 := blk_frozen b0.out 3
   have f4 := blk_frozen b0.out 4
   go_wp2
   have hG : (((((wb.setCell ⟨S, 0, none⟩ (.slice none 0 0)).setCell ⟨S, 1, none⟩ (.slice none 0 0)).setCell ⟨S, 2, none⟩ (.slice none 0 0)).setCell ⟨S, 3, none⟩ (.slice none 0 0)).setCell ⟨S, 4, none⟩ (.bool false)).heap[S]? = some (.cells seg0 26 (0, 0)) := (blk_set (blk_set (blk_set (blk_set (blk_set b0.out 0 _) 1 _) 2 _) 3 _) 4 _).trans rfl
   refine bodyPost_ret (results_ct rfl _ _ S 26 seg0 (0, 0) _ rfl hG Try.underlying26 rfl (by kernel_rfl)) rfl ?_
   rw [HF.out]
   exact ⟨.slice none 0 0, .slice none 0 0, .slice none 0 0, .slice none 0 0, rfl, Kd.R_nil _ _ _ _ _, Kd.R_nil _ _ _ _ _, Kd.R_nil _ _ _ _ _, Kd.R_nil _ _ _ _ _, below_set (below_set (below_set (below_set (below_set bb.out HSW.out) HSW.out) HSW.out) HSW.out) HSW.out⟩
  ·
   have HNF := Aside0.mk (show ¬ (b.length = 0 ∨ rd b 0 > 1) from fun h => h.elim hb0 hgt)
   have k2 : decide (rd b 0 > 1) = false := decide_eq_false hgt
   have HX0 := Aside0.mk x0'
   clear hb0 hgt x0 x0'
   go_upto_region 4 with fail
   have hSlt := blk_lt b0.out
   have g0 := blk_new wb (.cells #[.slice (some ad) b.length c, .int .i64 1, .bool false] 87)
   have gb := below_alloc (Below.refl wb.heap.size wb) (.cells #[.slice (some ad) b.length c, .int .i64 1, .bool false] 87)
   have hz : (wb.alloc (.cells #[.slice (some ad) b.length c, .int .i64 1, .bool false] 87)).heap.size = wb.heap.size + 1 := Array.size_push ..
   have h0 := blk_new (wb.alloc (.cells #[.slice (some ad) b.length c, .int .i64 1, .bool false] 87)) (.cells #[.pointer (some ⟨wb.heap.size, 0, none⟩)] 85)
   have hb2 := below_alloc (Below.refl _ (wb.alloc (.cells #[.slice (some ad) b.length c, .int .i64 1, .bool false] 87))) (.cells #[.pointer (some ⟨wb.heap.size, 0, none⟩)] 85)
   replace g0 := blk_below g0 hb2
   have hbl := Aside0.mk (below_step (below_step bb.out gb) hb2)
   have hbs := Aside0.mk (blk_below (blk_below b0.out gb) hb2)
   rw [hz] at h0
   clear hz hb2 gb x1 bb b0
   generalize ((wb.alloc (.cells #[.slice (some ad) b.length c, .int .i64 1, .bool false] 87)).alloc (.cells #[.pointer (some ⟨wb.heap.size, 0, none⟩)] 85)) = w3 at *
   obtain ⟨g, hg⟩ : ∃ g, g = wb.heap.size := ⟨_, rfl⟩
   obtain ⟨h, hh⟩ : ∃ h, h = wb.heap.size + 1 := ⟨_, rfl⟩
   rw [← hh] at h0
   rw [← hg] at g0 h0
   rw [← hh, ← hg]
   have hSw := HSW.out
   have HGH := Aside0.mk (show S < g ∧ g < h ∧ w.heap.size ≤ g from ⟨by omega, by omega, by omega⟩)
   have G0 := Aside0.mk g0
   have H0 := Aside0.mk h0
   clear hg hh hSlt hSw g0 h0
   have x1 : w3.cell? ad = some (.int .u8 (rd b 0)) := pw_cell_below hbl.out HX0.out
   have HN1 := Aside0.mk (show (1 : Int) ≤ b.length from by omega)
   go_upto_region 5 with fail
   clear x1 p1 k1 k2
   have s0 := blk_new w3 (.cells #[.slice none 0 0, .slice none 0 0, .slice none 0 0, .slice none 0 0, .bool (rd b 0 == 1)] 26)
   have sb := below_alloc (Below.refl w3.heap.size w3) (.cells #[.slice none 0 0, .slice none 0 0, .slice none 0 0, .slice none 0 0, .bool (rd b 0 == 1)] 26)
   have hz : (w3.alloc (.cells #[.slice none 0 0, .slice none 0 0, .slice none 0 0, .slice none 0 0, .bool (rd b 0 == 1)] 26)).heap.size = w3.heap.size + 1 := Array.size_push ..
   obtain ⟨s, hs⟩ : ∃ s, s = w3.heap.size := ⟨_, rfl⟩
   rw [← hs] at s0
   have hh3 := blk_lt H0.out
   have LT := Aside0.mk (show WiLt w (s + 1) S g h s from by
    have h1 := HGH.out
    have h2 := HSW.out
    exact ⟨h2, h1.2.2, by omega, by omega, by omega, by omega, by omega, by omega, by omega, by omega, by omega, by omega, by omega, by omega⟩)
   have ST := Aside0.mk (show WiSt w (s + 1) S g h s c (some ad) b (rd b 0 == 1) 1 false (.slice none 0 0) [] (.slice none 0 0) [] (.slice none 0 0) [] (.slice none 0 0) [] (w3.alloc (.cells #[.slice none 0 0, .slice none 0 0, .slice none 0 0, .slice none 0 0, .bool (rd b 0 == 1)] 26)) from
    ⟨blk_below hbs.out sb, blk_below G0.out sb, blk_below H0.out sb, s0, Kd.R_nil _ _ _ _ _, Kd.R_nil _ _ _ _ _, Kd.R_nil _ _ _ _ _, Kd.R_nil _ _ _ _ _, below_step hbl.out sb, by rw [hz, hs]; exact Nat.le_refl _⟩)
   clear hz sb s0 hh3 hbl hbs G0 H0 HGH
   generalize (w3.alloc (.cells #[.slice none 0 0, .slice none 0 0, .slice none 0 0, .slice none 0 0, .bool (rd b 0 == 1)] 26)) = w4 at *
   rw [← hs]
   clear hs
   obtain ⟨q, hq⟩ := Int.eq_ofNat_of_zero_le (numV_range b 1 HBY.out).1
   have HQ := Aside0.mk hq
   clear hq
   have dh : w4.cell? ⟨h, 0, none⟩ = some (.pointer (some ⟨g, 0, none⟩)) := (blk_cell ST.out.box 0).trans rfl
   go_upto_region 6 with (first | (go_at_call 47; (refine (num47_3 g (some ad) c b 1 false 87 w _ HBY.out HC.out HCC.out ST.out.rd ST.out.bel LT.out.bg).mono ?_); rintro e_ w5 ⟨rfl, hb1, hB1, hk1⟩; have m0_ := Aside0.mk (ST.out.keep LT.out hk1 hb1 hB1); clear ST hb1 hB1 hk1; have ST := m0_; clear m0_))
   rw [HQ.out]
   clear dh
   by_cases hn : (q : Int) > 64
   ·
    have HF := Aside0.mk (show withinP b = (segZ, false) from (if_neg HNF.out).trans (if_pos (show numV b 1 > 64 from by rw [HQ.out]; exact hn)))
    have k3 : decide ((q : Int) > 64) = true := decide_eq_true hn
    clear hn
    have e0 : w5.cell? ⟨S, 0, none⟩ = some (.slice none 0 0) := (blk_cell ST.out.res 0).trans rfl
    have e1 : w5.cell? ⟨S, 1, none⟩ = some (.slice none 0 0) := (blk_cell ST.out.res 1).trans rfl
    have e2 : w5.cell? ⟨S, 2, none⟩ = some (.slice none 0 0) := (blk_cell ST.out.res 2).trans rfl
    have e3 : w5.cell? ⟨S, 3, none⟩ = some (.slice none 0 0) := (blk_cell ST.out.res 3).trans rfl
    have e4 : w5.cell? ⟨S, 4, none⟩ = some (.bool false) := (blk_cell ST.out.res 4).trans rfl
    have f0 := blk_frozen ST.out.res 0
    have f1 := blk_frozen ST.out.res 1
    have f2 := blk_frozen ST.out.res 2
    have f3 := blk_frozen ST.out.res 3
    have f4 := blk_frozen ST.out.res 4
    go_wp2
    have hG : (((((w5.setCell ⟨S, 0, none⟩ (.slice none 0 0)).setCell ⟨S, 1, none⟩ (.slice none 0 0)).setCell ⟨S, 2, none⟩ (.slice none 0 0)).setCell ⟨S, 3, none⟩ (.slice none 0 0)).setCell ⟨S, 4, none⟩ (.bool false)).heap[S]? = some (.cells seg0 26 (0, 0)) := (blk_set (blk_set (blk_set (blk_set (blk_set ST.out.res 0 _) 1 _) 2 _) 3 _) 4 _).trans rfl
    refine bodyPost_ret (results_ct rfl _ _ S 26 seg0 (0, 0) _ rfl hG Try.underlying26 rfl (by kernel_rfl)) rfl ?_
    rw [HF.out]
    exact ⟨.slice none 0 0, .slice none 0 0, .slice none 0 0, .slice none 0 0, rfl, Kd.R_nil _ _ _ _ _, Kd.R_nil _ _ _ _ _, Kd.R_nil _ _ _ _ _, Kd.R_nil _ _ _ _ _, below_set (below_set (below_set (below_set (below_set ST.out.bel HSW.out) HSW.out) HSW.out) HSW.out) HSW.out⟩
   ·
    have HNN := Aside0.mk (show ¬ wiN b > 64 from by show ¬ numV b 1 > 64; rw [HQ.out]; exact hn)
    have k3 : decide ((q : Int) > 64) = false := decide_eq_false hn
    have HQM := Aside0.mk (show q ≤ 1000 from by omega)
    have HTN := Aside0.mk (show (wiN b).toNat = q from by show (numV b 1).toNat = q; rw [HQ.out, Int.toNat_natCast])
    clear hn
    have HIr := Aside0.mk (show 0 ≤ numA b 1 ∧ numA b 1 ≤ b.length from numA_range b 1 HBY.out (by decide) HN1.out)
    have HIr2 := Aside0.mk (show 0 ≤ (wiI b).pl ∧ (wiI b).pl ≤ b.length from smGo_pl _ (fun p => 0 ≤ p ∧ p ≤ b.length) (fun p q hp => rbA_range HBY.out q hp.1 hp.2) _ _ HIr.out)
    have HIr3 := Aside0.mk (show 0 ≤ (wiK b).pl ∧ (wiK b).pl ≤ b.length from smGo_pl _ (fun p => 0 ≤ p ∧ p ≤ b.length) (fun p q hp => numA_range b p HBY.out hp.1 hp.2) _ _ HIr2.out)
    have HIr4 := Aside0.mk (show 0 ≤ (wiL b).pl ∧ (wiL b).pl ≤ b.length from smGo_pl _ (fun p => 0 ≤ p ∧ p ≤ b.length) (fun p q hp => numA_range b p HBY.out hp.1 hp.2) _ _ HIr3.out)
    have HWI := Aside0.mk (show smGo (strOne b) q ⟨[], numA b 1, numB b 1 false⟩ = wiI b from by rw [← HTN.out]; rfl)
    have HWK := Aside0.mk (show smGo (numOne b) q ⟨[], (wiI b).pl, (wiI b).bd⟩ = wiK b from by rw [← HTN.out]; rfl)
    have HWL := Aside0.mk (show smGo (numOne b) q ⟨[], (wiK b).pl, (wiK b).bd⟩ = wiL b from by rw [← HTN.out]; rfl)
    go_upto_region 8 with fail
    clear k3
    have dh : w5.cell? ⟨h, 0, none⟩ = some (.pointer (some ⟨g, 0, none⟩)) := (blk_cell ST.out.box 0).trans rfl
    go_upto_region 9 with (first | (go_at_call 48; have hc := some48_calls g h (some ad) c b (numA b 1) (numB b 1 false) q w _ HBY.out HC.out HCC.out ST.out.rd ST.out.box ST.out.bel LT.out.bg HIr.out.1 HIr.out.2 HL9.out HQM.out; rw [HWI.out] at hc; (refine hc.mono ?_); clear hc; rintro e_ w6 ⟨vn, rfl, hr, hb1, hB1, hk1⟩; obtain ⟨A0_, c0_, rfl⟩ := Kd.R_slice hr; have NR := Aside0.mk (newR hr (below_size ST.out.bel) ST.out.sz); have m0_ := Aside0.mk (ST.out.keep LT.out hk1 hb1 hB1); clear ST dh hr hb1 hB1 hk1; have ST := m0_; clear m0_; have ej : w6.cell? ⟨s, 0, none⟩ = some (.slice none 0 0) := (blk_cell ST.out.st 0).trans rfl; have fj := blk_frozen ST.out.st 0))
    have m0_ := Aside0.mk (ST.out.setJ LT.out 0 (.slice A0_ (wiI b).out.length c0_) rfl NR.out ST.out.r1 ST.out.r2 ST.out.r3)
    clear ST NR ej fj
    have ST := m0_
    clear m0_
    generalize (w6.setCell ⟨s, 0, none⟩ (.slice A0_ (wiI b).out.length c0_)) = w7 at *
    have dh : w7.cell? ⟨h, 0, none⟩ = some (.pointer (some ⟨g, 0, none⟩)) := (blk_cell ST.out.box 0).trans rfl
    go_upto_region 10 with (first | (go_at_call 51; have hc := some51_calls g h (some ad) c b ((wiI b).pl) ((wiI b).bd) q w _ HBY.out HC.out HCC.out ST.out.rd ST.out.box ST.out.bel LT.out.bg HIr2.out.1 HIr2.out.2 HL9.out HQM.out; rw [HWK.out] at hc; (refine hc.mono ?_); clear hc; rintro e_ w8 ⟨vn, rfl, hr, hb1, hB1, hk1⟩; obtain ⟨A1_, c1_, rfl⟩ := Kd.R_slice hr; have NR := Aside0.mk (newR hr (below_size ST.out.bel) ST.out.sz); have m0_ := Aside0.mk (ST.out.keep LT.out hk1 hb1 hB1); clear ST dh hr hb1 hB1 hk1; have ST := m0_; clear m0_; have ej : w8.cell? ⟨s, 1, none⟩ = some (.slice none 0 0) := (blk_cell ST.out.st 1).trans rfl; have fj := blk_frozen ST.out.st 1))
    have m0_ := Aside0.mk (ST.out.setJ LT.out 1 (.slice A1_ (wiK b).out.length c1_) rfl ST.out.r0 NR.out ST.out.r2 ST.out.r3)
    clear ST NR ej fj
    have ST := m0_
    clear m0_
    generalize (w8.setCell ⟨s, 1, none⟩ (.slice A1_ (wiK b).out.length c1_)) = w9 at *
    have dh : w9.cell? ⟨h, 0, none⟩ = some (.pointer (some ⟨g, 0, none⟩)) := (blk_cell ST.out.box 0).trans rfl
    go_upto_region 11 with (first | (go_at_call 51; have hc := some51_calls g h (some ad) c b ((wiK b).pl) ((wiK b).bd) q w _ HBY.out HC.out HCC.out ST.out.rd ST.out.box ST.out.bel LT.out.bg HIr3.out.1 HIr3.out.2 HL9.out HQM.out; rw [HWL.out] at hc; (refine hc.mono ?_); clear hc; rintro e_ w10 ⟨vn, rfl, hr, hb1, hB1, hk1⟩; obtain ⟨A2_, c2_, rfl⟩ := Kd.R_slice hr; have NR := Aside0.mk (newR hr (below_size ST.out.bel) ST.out.sz); have m0_ := Aside0.mk (ST.out.keep LT.out hk1 hb1 hB1); clear ST dh hr hb1 hB1 hk1; have ST := m0_; clear m0_; have ej : w10.cell? ⟨s, 2, none⟩ = some (.slice none 0 0) := (blk_cell ST.out.st 2).trans rfl; have fj := blk_frozen ST.out.st 2))
    have m0_ := Aside0.mk (ST.out.setJ LT.out 2 (.slice A2_ (wiL b).out.length c2_) rfl ST.out.r0 ST.out.r1 NR.out ST.out.r3)
    clear ST NR ej fj
    have ST := m0_
    clear m0_
    generalize (w10.setCell ⟨s, 2, none⟩ (.slice A2_ (wiL b).out.length c2_)) = w11 at *
    have dh : w11.cell? ⟨h, 0, none⟩ = some (.pointer (some ⟨g, 0, none⟩)) := (blk_cell ST.out.box 0).trans rfl
    have HIr5 := Aside0.mk (show 0 ≤ rbA b (wiL b).pl (wiL b).bd ∧ rbA b (wiL b).pl (wiL b).bd ≤ b.length from rbA_range HBY.out _ HIr4.out.1 HIr4.out.2)
    have HRL := Aside0.mk (show (rbV b (wiL b).pl (wiL b).bd).length ≤ 10000000000 from by have := rbV_len b (wiL b).pl (wiL b).bd; have := HL.out; omega)
    have HDW := Aside0.mk (show (wiD b).1.length ≤ 1000 from Nat.le_trans (dictUn_len _) (by decide))
    have HWT := Aside0.mk (show smGo (termOne b) (wiD b).1.length ⟨[], rbA b (wiL b).pl (wiL b).bd, !rbOk b (wiL b).pl (wiL b).bd⟩ = wiT b from rfl)
    go_upto_region 12 with (first | (go_at_call 50; (refine (bytes50_3 g (some ad) c b (wiL b).pl (wiL b).bd 87 w _ HBY.out HC.out HCC.out ST.out.rd ST.out.bel LT.out.bg HIr4.out.1 HIr4.out.2 HL9.out).mono ?_); rintro e_ w12 ⟨Ab, cb, rfl, hcb, hlb, hb1, hB1, hk1⟩; have HCB := Aside0.mk (Kd.C_below hcb hB1); have HLB := Aside0.mk hlb; have m0_ := Aside0.mk (ST.out.keep LT.out hk1 hb1 hB1); clear ST hcb hlb hb1 hB1 hk1; have ST := m0_; clear m0_) | (go_at_call 52; (refine (dict_Unpack.calls (202 * (rbV b (wiL b).pl (wiL b).bd).length + 600) Ab cb (rbV b (wiL b).pl (wiL b).bd) (wiD b).1 (wiD b).2 _ HCB.out HLB.out (dictUn_eq _ (rbV_byt HBY.out _ _) HRL.out _ (Nat.le_refl _))).mono ?_); rintro e_ w13 ⟨vw, rfl, hr, hb⟩; obtain ⟨Aw, cw, rfl⟩ := Kd.R_slice hr; have WR := Aside0.mk (Kd.R_mono (Kd.R_lower (Kd.R_bound hr) (below_size ST.out.bel)) (fun k hk => Nat.le_trans ST.out.sz hk.2.1) : Kd.R Kd.string 9 w13 w.heap.size (fun k => s + 1 ≤ k) (.slice Aw (wiD b).1.length cw) (wiD b).1); have m0_ := Aside0.mk (ST.out.step hb); clear ST HCB HLB hr hb; have ST := m0_; clear m0_))
    clear dh
    have dh : w13.cell? ⟨h, 0, none⟩ = some (.pointer (some ⟨g, 0, none⟩)) := (blk_cell ST.out.box 0).trans rfl
    go_upto_region 13 with (first | (go_at_call 53; have hc := some53_calls g h (some ad) c b (rbA b (wiL b).pl (wiL b).bd) (!rbOk b (wiL b).pl (wiL b).bd) (wiD b).1.length w _ HBY.out HC.out HCC.out ST.out.rd ST.out.box ST.out.bel LT.out.bg HIr5.out.1 HIr5.out.2 HL9.out HDW.out; rw [HWT.out] at hc; (refine hc.mono ?_); clear hc; rintro e_ w14 ⟨vn, rfl, hr, hb1, hB1, hk1⟩; obtain ⟨A3_, c3_, rfl⟩ := Kd.R_slice hr; have NR := Aside0.mk (newR hr (below_size ST.out.bel) ST.out.sz); have m0_ := Aside0.mk (ST.out.keep LT.out hk1 hb1 hB1); have m1_ := Aside0.mk (Kd.R_keep WR.out hk1 (fun k hk => by have := LT.out.lg; omega)); clear ST WR dh hr hb1 hB1 hk1; have ST := m0_; have WR := m1_; clear m0_ m1_; have ej : w14.cell? ⟨s, 3, none⟩ = some (.slice none 0 0) := (blk_cell ST.out.st 3).trans rfl; have fj := blk_frozen ST.out.st 3))
    have m0_ := Aside0.mk (ST.out.setJ LT.out 3 (.slice A3_ (wiT b).out.length c3_) rfl ST.out.r0 ST.out.r1 ST.out.r2 NR.out)
    have m1_ := Aside0.mk (setS LT.out WR.out 3 (.slice A3_ (wiT b).out.length c3_))
    clear ST NR ej fj WR
    have ST := m0_
    have WR := m1_
    clear m0_ m1_
    generalize (w14.setCell ⟨s, 3, none⟩ (.slice A3_ (wiT b).out.length c3_)) = w15 at *
    have dh : w15.cell? ⟨h, 0, none⟩ = some (.pointer (some ⟨g, 0, none⟩)) := (blk_cell ST.out.box 0).trans rfl
    have d1 : w15.cell? ⟨g, 1, none⟩ = some (.int .i64 (wiT b).pl) := (blk_cell ST.out.rd 1).trans rfl
    have d2 : w15.cell? ⟨g, 2, none⟩ = some (.bool (wiT b).bd) := (blk_cell ST.out.rd 2).trans rfl
    cases hbd : (wiT b).bd with
    | true =>
     rw [hbd] at d2
     have HF := Aside0.mk (show withinP b = (segZ, false) from (if_neg HNF.out).trans ((if_neg (Int.not_lt.2 HNN.out)).trans (if_neg (by unfold wiOk; rw [hbd]; simp))))
     clear hbd
     have e0 : w15.cell? ⟨S, 0, none⟩ = some (.slice none 0 0) := (blk_cell ST.out.res 0).trans rfl
     have e1 : w15.cell? ⟨S, 1, none⟩ = some (.slice none 0 0) := (blk_cell ST.out.res 1).trans rfl
     have e2 : w15.cell? ⟨S, 2, none⟩ = some (.slice none 0 0) := (blk_cell ST.out.res 2).trans rfl
     have e3 : w15.cell? ⟨S, 3, none⟩ = some (.slice none 0 0) := (blk_cell ST.out.res 3).trans rfl
     have e4 : w15.cell? ⟨S, 4, none⟩ = some (.bool false) := (blk_cell ST.out.res 4).trans rfl
     have f0 := blk_frozen ST.out.res 0
     have f1 := blk_frozen ST.out.res 1
     have f2 := blk_frozen ST.out.res 2
     have f3 := blk_frozen ST.out.res 3
     have f4 := blk_frozen ST.out.res 4
     go_wp2
     have hG : (((((w15.setCell ⟨S, 0, none⟩ (.slice none 0 0)).setCell ⟨S, 1, none⟩ (.slice none 0 0)).setCell ⟨S, 2, none⟩ (.slice none 0 0)).setCell ⟨S, 3, none⟩ (.slice none 0 0)).setCell ⟨S, 4, none⟩ (.bool false)).heap[S]? = some (.cells seg0 26 (0, 0)) := (blk_set (blk_set (blk_set (blk_set (blk_set ST.out.res 0 _) 1 _) 2 _) 3 _) 4 _).trans rfl
     refine bodyPost_ret (results_ct rfl _ _ S 26 seg0 (0, 0) _ rfl hG Try.underlying26 rfl (by kernel_rfl)) rfl ?_
     rw [HF.out]
     exact ⟨.slice none 0 0, .slice none 0 0, .slice none 0 0, .slice none 0 0, rfl, Kd.R_nil _ _ _ _ _, Kd.R_nil _ _ _ _ _, Kd.R_nil _ _ _ _ _, Kd.R_nil _ _ _ _ _, below_set (below_set (below_set (below_set (below_set ST.out.bel HSW.out) HSW.out) HSW.out) HSW.out) HSW.out⟩
    | false =>
     rw [hbd] at d2
     by_cases he : (wiD b).2 = 0
     ·
      have k4 : ((wiD b).2 != 0) = false := by simp [he]
      by_cases hp : (wiT b).pl = (b.length : Int)
      ·
       have k5 : ((wiT b).pl != (b.length : Int)) = false := by simp [hp]
       have HOK := Aside0.mk (show withinP b = (wiS b, segMayV (wiS b)) from (if_neg HNF.out).trans ((if_neg (Int.not_lt.2 HNN.out)).trans (if_pos (by unfold wiOk; rw [hbd, decide_eq_true he, decide_eq_true hp]; rfl))))
       have HTL := Aside0.mk (show (wiT b).out.length = (wiD b).1.length from (smGo_bd _ _ _ hbd).trans (Nat.zero_add _))
       clear hbd he hp
       go_wp2
       clear d1 d2 k4 k5 dh
       go_loopg [83] ((wiD b).1.length + 1) (fun kq v83 w' => ∃ (i : Nat), v83 = .int .i64 (i : Int) ∧ Aside0 (WiSt w (s + 1) S g h s c (some ad) b (rd b 0 == 1) (wiT b).pl (wiT b).bd (.slice A0_ (wiI b).out.length c0_) (wiI b).out (.slice A1_ (wiK b).out.length c1_) (wiK b).out (.slice A2_ (wiL b).out.length c2_) (wiL b).out (.slice A3_ (wiT b).out.length c3_) (setT ((wiD b).1.take i) (wiT b).out) w') ∧ Aside0 (Kd.R Kd.string 9 w' w.heap.size (fun k => s + 1 ≤ k) (.slice Aw (wiD b).1.length cw) (wiD b).1) ∧ Aside0 (i ≤ (wiD b).1.length ∧ (wiD b).1.length - i < kq ∧ kq ≤ (wiD b).1.length + 1))
       case atStart => exact ⟨0, rfl, ST, WR, ⟨by omega, by omega, by omega⟩⟩
       case round =>
        clear ST WR
        obtain ⟨i, rfl, ST, WR, HI⟩ := hrel
        cases gk with
        | zero => exact absurd HI.out.2.1 (by omega)
        | succ k1 =>
         by_cases hlt : i < (wiD b).1.length
         ·
          have c2b0 : decide ((i : Int) < ((wiD b).1.length : Int)) = true := decide_eq_true (by omega)
          have c2b1 : decide (i < (wiD b).1.length) = true := decide_eq_true hlt
          have HLT := Aside0.mk hlt
          obtain ⟨adw, e1, hx0⟩ := Kd.at_string (Kd.R_reads' WR.out).2.2 (i : Int) (by omega) (by omega)
          cases e1
          rw [Int.toNat_natCast] at hx0
          obtain ⟨wd, hwd⟩ : ∃ x, x = rdOf ByteArray.empty (wiD b).1 (i : Int) := ⟨_, rfl⟩
          rw [← hwd] at hx0
          have hTL := HTL.out
          have hSL := setT_len ((wiD b).1.take i) (wiT b).out
          obtain ⟨adt, A9, c9, e2, _⟩ := at_T44 (Kd.R_reads' ST.out.r3).2.2 (i : Int) (by omega) (by omega)
          cases e2
          obtain ⟨gT, rfl⟩ := Kd.R_head ST.out.r3
          have dt : wr.cell? ⟨s, 3, none⟩ = some (.slice (some ⟨gT, 0, none⟩) (wiT b).out.length c3_) := (blk_cell ST.out.st 3).trans rfl
          have p1 : (0 : Int) ≤ (i : Int) := by omega
          have p2 : (i : Int) < ((wiD b).1.length : Int) := by omega
          have p3 : (i : Int) < ((wiT b).out.length : Int) := by omega
          have HST := Aside0.mk (show (setT ((wiD b).1.take i) (wiT b).out).set i ⟨wd, ((setT ((wiD b).1.take i) (wiT b).out).getD i z44).f1⟩ = setT ((wiD b).1.take (i + 1)) (wiT b).out from by
           rw [← setT_take (wiD b).1 (wiT b).out i hlt (by omega), ← setT_get ((wiD b).1.take i) (wiT b).out i (by omega), hwd, List.getD_eq_getElem?_getD, List.getElem?_eq_getElem (by omega)]
           rfl)
          have HTI := Aside0.mk (show i < (wiT b).out.length from by omega)
          clear hwd hTL hSL hlt
          go_wp2_with (first | ((with_reducible refine gate_ (.store 9 (.tmp 93) (.tmp 91)) rfl ?_); go_loud (refine term_store (w0 := w) (gT := gT) (i := i) (wd := wd) (.tmp 93) (.tmp 91) rfl rfl rfl rfl rfl ST.out.r3 HTI.out ST.out.bel ?_; intro wn ho hb hg; rw [HST.out] at ho; have m0_ := Aside0.mk (ST.out.term LT.out rfl hg hb ho); have m1_ := Aside0.mk (apT WR.out (by decide) ST.out.r3 rfl hg); clear ST WR HST ho hb hg; have ST := m0_; have WR := m1_; clear m0_ m1_)))
          go_roundg k1
          case measure => have := HI.out; omega
          case rel => exact ⟨i + 1, (by rw [wstep (by have := HLT.out; have := HDW.out; omega)]), ST, WR, ⟨by have := HLT.out; omega, by have := HI.out; have := HLT.out; omega, by have := HI.out; omega⟩⟩
         ·
          have c2b0 : decide ((i : Int) < ((wiD b).1.length : Int)) = false := decide_eq_false (by omega)
          have c2b1 : decide (i < (wiD b).1.length) = false := decide_eq_false hlt
          have HIE := Aside0.mk (show (wiD b).1.take i = (wiD b).1 from List.take_of_length_le (by omega))
          rw [HIE.out] at ST
          clear hlt HI HIE
          go_upto_region 20 with fail
          have HSM := Aside0.mk (show ∀ W, Below wr.heap.size wr W → Calls Try.prog 9 #[.agg #[.slice A0_ (wiI b).out.length c0_, .slice A1_ (wiK b).out.length c1_, .slice A2_ (wiL b).out.length c2_, .slice A3_ (wiT b).out.length c3_, .bool (rd b 0 == 1)]] W fun e w' => e = .returned (.bool (segMayV (wiS b))) ∧ Below W.heap.size W w' from fun W hW => by
           have h := segmay_calls A0_ c0_ (wiI b).out A1_ c1_ (wiK b).out A2_ c2_ (wiL b).out A3_ c3_ (setT (wiD b).1 (wiT b).out) (rd b 0 == 1) W (Kd.C_below (Kd.R_reads' ST.out.r0).2.2 hW) (Kd.C_below (Kd.R_reads' ST.out.r1).2.2 hW) (Kd.C_below (Kd.R_reads' ST.out.r2).2.2 hW) (Kd.C_below (Kd.R_reads' ST.out.r3).2.2 hW)
            (fun x hx => Nat.le_trans (wiI_size b x hx) (Nat.le_trans HL.out (by decide)))
            (by rw [setT_len, HTL.out]; exact Nat.le_trans HDW.out (by decide))
            (fun t ht => Nat.le_trans (wiT_len b t ht) (by decide))
           rw [setT_len] at h
           exact h)
          have q0 : wr.drew.cell? ⟨s, 0, none⟩ = some (.slice A0_ (wiI b).out.length c0_) := (blk_cell (blk_drew ST.out.st) 0).trans rfl
          have q1 : wr.drew.cell? ⟨s, 1, none⟩ = some (.slice A1_ (wiK b).out.length c1_) := (blk_cell (blk_drew ST.out.st) 1).trans rfl
          have q2 : wr.drew.cell? ⟨s, 2, none⟩ = some (.slice A2_ (wiL b).out.length c2_) := (blk_cell (blk_drew ST.out.st) 2).trans rfl
          have q3 : wr.drew.cell? ⟨s, 3, none⟩ = some (.slice A3_ (wiT b).out.length c3_) := (blk_cell (blk_drew ST.out.st) 3).trans rfl
          have q4 : wr.drew.cell? ⟨s, 4, none⟩ = some (.bool (rd b 0 == 1)) := (blk_cell (blk_drew ST.out.st) 4).trans rfl
          refine start_ (n := 5) (S := fun w' => w'.cell? ⟨s, 0, none⟩ = some (.slice A0_ (wiI b).out.length c0_) ∧ w'.cell? ⟨s, 1, none⟩ = some (.slice A1_ (wiK b).out.length c1_) ∧ w'.cell? ⟨s, 2, none⟩ = some (.slice A2_ (wiL b).out.length c2_) ∧ w'.cell? ⟨s, 3, none⟩ = some (.slice A3_ (wiT b).out.length c3_) ∧ w'.cell? ⟨s, 4, none⟩ = some (.bool (rd b 0 == 1))) (ds := [3]) #[false, false, false, false, false] (by kernel_rfl) rfl rfl ⟨q0, q1, q2, q3, q4⟩ (fun hHeld => ?_)
          refine rgT5 0 95 hHeld ?_
          refine rgT5 1 96 hHeld ?_
          refine one_ (i := 2) (N := some 97) #[true, true, true, false, false] rfl rfl (by kernel_rfl) (by decide) (fun K hK => ?_)
          refine goes_ Try.func9 (by kernel_rfl) rfl #[.agg #[.slice A0_ (wiI b).out.length c0_, .slice A1_ (wiK b).out.length c1_, .slice A2_ (wiL b).out.length c2_, .slice A3_ (wiT b).out.length c3_, .bool (rd b 0 == 1)]] (by rfl) rfl rfl (by simp only [List.map_toArray, List.map_cons, List.map_nil]; rfl) ?_
          with_reducible refine (HSM.out wr.drew (below_drew (Below.refl _ _))).mono ?_
          rintro e w3 ⟨rfl, hb⟩
          refine ⟨_, rfl, ?_⟩
          have BW := Aside0.mk (below_step (below_drew (Below.refl _ _)) hb : Below wr.heap.size wr w3)
          have ST2 := Aside0.mk (ST.out.step BW.out)
          refine hK.out _ _ ⟨pw_cell_below hb hHeld.1, pw_cell_below hb hHeld.2.1, pw_cell_below hb hHeld.2.2.1, pw_cell_below hb hHeld.2.2.2.1, pw_cell_below hb hHeld.2.2.2.2⟩ (fun hHeld => ?_)
          clear hK K
          refine norm_ (a' := ?_) ?_ ?_
          rotate_left
          ·
           show Act.put _ (some 97) _ = _
           simp only [Act.put, List.setIfInBounds_toArray, List.set_cons_zero, List.set_cons_succ, i64_w, i32_w]
           rfl
          refine last_ (i := 3) (N := none) #[true, true, true, true, false] rfl rfl (by kernel_rfl) (by decide) (fun K hK => ?_)
          have e0 : w3.cell? ⟨S, 0, none⟩ = some (.slice none 0 0) := (blk_cell ST2.out.res 0).trans rfl
          have e1 : w3.cell? ⟨S, 1, none⟩ = some (.slice none 0 0) := (blk_cell ST2.out.res 1).trans rfl
          have e2 : w3.cell? ⟨S, 2, none⟩ = some (.slice none 0 0) := (blk_cell ST2.out.res 2).trans rfl
          have e3 : w3.cell? ⟨S, 3, none⟩ = some (.slice none 0 0) := (blk_cell ST2.out.res 3).trans rfl
          have e4 : w3.cell? ⟨S, 4, none⟩ = some (.bool false) := (blk_cell ST2.out.res 4).trans rfl
          have f0 := blk_frozen ST2.out.res 0
          have f1 := blk_frozen ST2.out.res 1
          have f2 := blk_frozen ST2.out.res 2
          have f3 := blk_frozen ST2.out.res 3
          have f4 := blk_frozen ST2.out.res 4
          refine skip_ (w1 := ?_) (by rfl) rfl ?_ ?_
          rotate_left
          ·
           go_simp
           rfl
          refine hK.out _ _ ?_
          clear hK K
          refine rgP 4 3 ?_
          refine done_ (by kernel_rfl) ?_
          clear q0 q1 q2 q3 q4
          go_wp2
          have K5 := (((((KeepBut.refl w3 S none).set_ 0 (.slice A0_ (wiI b).out.length c0_)).set_ 1 (.slice A1_ (wiK b).out.length c1_)).set_ 2 (.slice A2_ (wiL b).out.length c2_)).set_ 3 (.slice A3_ (wiT b).out.length c3_)).set_ 4 (.bool (rd b 0 == 1))
          have hG : (((((w3.setCell ⟨S, 0, none⟩ (.slice A0_ (wiI b).out.length c0_)).setCell ⟨S, 1, none⟩ (.slice A1_ (wiK b).out.length c1_)).setCell ⟨S, 2, none⟩ (.slice A2_ (wiL b).out.length c2_)).setCell ⟨S, 3, none⟩ (.slice A3_ (wiT b).out.length c3_)).setCell ⟨S, 4, none⟩ (.bool (rd b 0 == 1))).heap[S]? = some (.cells #[.slice A0_ (wiI b).out.length c0_, .slice A1_ (wiK b).out.length c1_, .slice A2_ (wiL b).out.length c2_, .slice A3_ (wiT b).out.length c3_, .bool (rd b 0 == 1)] 26 (0, 0)) := (blk_set (blk_set (blk_set (blk_set (blk_set ST2.out.res 0 _) 1 _) 2 _) 3 _) 4 _).trans rfl
          refine bodyPost_ret (results_ct rfl _ _ S 26 #[.slice A0_ (wiI b).out.length c0_, .slice A1_ (wiK b).out.length c1_, .slice A2_ (wiL b).out.length c2_, .slice A3_ (wiT b).out.length c3_, .bool (rd b 0 == 1)] (0, 0) _ rfl hG Try.underlying26 rfl (by kernel_rfl)) rfl ?_
          have hne : ∀ k, s + 1 ≤ k → k ≠ S := fun k hk => by have := LT.out.lS; omega
          have hr0 := Kd.R_mono (ok' := fun _ => True) (Kd.R_keep ST2.out.r0 K5 hne) (fun _ _ => trivial)
          have hr1 := Kd.R_mono (ok' := fun _ => True) (Kd.R_keep ST2.out.r1 K5 hne) (fun _ _ => trivial)
          have hr2 := Kd.R_mono (ok' := fun _ => True) (Kd.R_keep ST2.out.r2 K5 hne) (fun _ _ => trivial)
          have hr3 := Kd.R_mono (ok' := fun _ => True) (Kd.R_keep ST2.out.r3 K5 hne) (fun _ _ => trivial)
          rw [HOK.out]
          have e3 : (wiT b).out.length = (wiS b).terms.length := (setT_len _ _).symm
          have i0 : (wiI b).out = (wiS b).ids := rfl
          have i1 : (wiK b).out = (wiS b).keys := rfl
          have i2 : (wiL b).out = (wiS b).lens := rfl
          have i3 : setT (wiD b).1 (wiT b).out = (wiS b).terms := rfl
          have i4 : (rd b 0 == 1) = (wiS b).so := rfl
          have hBB := below_set (j := 4) (v := .bool (rd b 0 == 1)) (below_set (j := 3) (v := .slice A3_ (wiT b).out.length c3_) (below_set (j := 2) (v := .slice A2_ (wiL b).out.length c2_) (below_set (j := 1) (v := .slice A1_ (wiK b).out.length c1_) (below_set (j := 0) (v := .slice A0_ (wiI b).out.length c0_) ST2.out.bel HSW.out) HSW.out) HSW.out) HSW.out) HSW.out
          clear hG K5 ST2 ST
          generalize (((((w3.setCell ⟨S, 0, none⟩ (.slice A0_ (wiI b).out.length c0_)).setCell ⟨S, 1, none⟩ (.slice A1_ (wiK b).out.length c1_)).setCell ⟨S, 2, none⟩ (.slice A2_ (wiL b).out.length c2_)).setCell ⟨S, 3, none⟩ (.slice A3_ (wiT b).out.length c3_)).setCell ⟨S, 4, none⟩ (.bool (rd b 0 == 1))) = wz at *
          rw [e3, i3] at hr3
          rw [i0] at hr0 ⊢
          rw [i1] at hr1 ⊢
          rw [i2] at hr2 ⊢
          rw [e3, i4]
          clear e3 i0 i1 i2 i3 i4
          generalize wiS b = sv at *
          exact ⟨_, _, _, _, rfl, hr0, hr1, hr2, hr3, hBB⟩
      ·
       have k5 : ((wiT b).pl != (b.length : Int)) = true := by simp [hp]
       have HF := Aside0.mk (show withinP b = (segZ, false) from (if_neg HNF.out).trans ((if_neg (Int.not_lt.2 HNN.out)).trans (if_neg (by unfold wiOk; rw [hbd, decide_eq_false hp]; simp))))
       clear hbd he hp
       have e0 : w15.cell? ⟨S, 0, none⟩ = some (.slice none 0 0) := (blk_cell ST.out.res 0).trans rfl
       have e1 : w15.cell? ⟨S, 1, none⟩ = some (.slice none 0 0) := (blk_cell ST.out.res 1).trans rfl
       have e2 : w15.cell? ⟨S, 2, none⟩ = some (.slice none 0 0) := (blk_cell ST.out.res 2).trans rfl
       have e3 : w15.cell? ⟨S, 3, none⟩ = some (.slice none 0 0) := (blk_cell ST.out.res 3).trans rfl
       have e4 : w15.cell? ⟨S, 4, none⟩ = some (.bool false) := (blk_cell ST.out.res 4).trans rfl
       have f0 := blk_frozen ST.out.res 0
       have f1 := blk_frozen ST.out.res 1
       have f2 := blk_frozen ST.out.res 2
       have f3 := blk_frozen ST.out.res 3
       have f4 := blk_frozen ST.out.res 4
       go_wp2
       have hG : (((((w15.setCell ⟨S, 0, none⟩ (.slice none 0 0)).setCell ⟨S, 1, none⟩ (.slice none 0 0)).setCell ⟨S, 2, none⟩ (.slice none 0 0)).setCell ⟨S, 3, none⟩ (.slice none 0 0)).setCell ⟨S, 4, none⟩ (.bool false)).heap[S]? = some (.cells seg0 26 (0, 0)) := (blk_set (blk_set (blk_set (blk_set (blk_set ST.out.res 0 _) 1 _) 2 _) 3 _) 4 _).trans rfl
       refine bodyPost_ret (results_ct rfl _ _ S 26 seg0 (0, 0) _ rfl hG Try.underlying26 rfl (by kernel_rfl)) rfl ?_
       rw [HF.out]
       exact ⟨.slice none 0 0, .slice none 0 0, .slice none 0 0, .slice none 0 0, rfl, Kd.R_nil _ _ _ _ _, Kd.R_nil _ _ _ _ _, Kd.R_nil _ _ _ _ _, Kd.R_nil _ _ _ _ _, below_set (below_set (below_set (below_set (below_set ST.out.bel HSW.out) HSW.out) HSW.out) HSW.out) HSW.out⟩
     ·
      have k4 : ((wiD b).2 != 0) = true := by simp [he]
      have HF := Aside0.mk (show withinP b = (segZ, false) from (if_neg HNF.out).trans ((if_neg (Int.not_lt.2 HNN.out)).trans (if_neg (by unfold wiOk; rw [hbd, decide_eq_false he]; simp))))
      clear hbd he
      have e0 : w15.cell? ⟨S, 0, none⟩ = some (.slice none 0 0) := (blk_cell ST.out.res 0).trans rfl
      have e1 : w15.cell? ⟨S, 1, none⟩ = some (.slice none 0 0) := (blk_cell ST.out.res 1).trans rfl
      have e2 : w15.cell? ⟨S, 2, none⟩ = some (.slice none 0 0) := (blk_cell ST.out.res 2).trans rfl
      have e3 : w15.cell? ⟨S, 3, none⟩ = some (.slice none 0 0) := (blk_cell ST.out.res 3).trans rfl
      have e4 : w15.cell? ⟨S, 4, none⟩ = some (.bool false) := (blk_cell ST.out.res 4).trans rfl
      have f0 := blk_frozen ST.out.res 0
      have f1 := blk_frozen ST.out.res 1
      have f2 := blk_frozen ST.out.res 2
      have f3 := blk_frozen ST.out.res 3
      have f4 := blk_frozen ST.out.res 4
      go_wp2
      have hG : (((((w15.setCell ⟨S, 0, none⟩ (.slice none 0 0)).setCell ⟨S, 1, none⟩ (.slice none 0 0)).setCell ⟨S, 2, none⟩ (.slice none 0 0)).setCell ⟨S, 3, none⟩ (.slice none 0 0)).setCell ⟨S, 4, none⟩ (.bool false)).heap[S]? = some (.cells seg0 26 (0, 0)) := (blk_set (blk_set (blk_set (blk_set (blk_set ST.out.res 0 _) 1 _) 2 _) 3 _) 4 _).trans rfl
      refine bodyPost_ret (results_ct rfl _ _ S 26 seg0 (0, 0) _ rfl hG Try.underlying26 rfl (by kernel_rfl)) rfl ?_
      rw [HF.out]
      exact ⟨.slice none 0 0, .slice none 0 0, .slice none 0 0, .slice none 0 0, rfl, Kd.R_nil _ _ _ _ _, Kd.R_nil _ _ _ _ _, Kd.R_nil _ _ _ _ _, Kd.R_nil _ _ _ _ _, below_set (below_set (below_set (below_set (below_set ST.out.bel HSW.out) HSW.out) HSW.out) HSW.out) HSW.out⟩

end Go.Proofs.Ytfhcolhiolgikaa.T
/- Written by hp.py, this session's own program, out of the translation of this seat: Lean functions for the Go functions, and the proof that each call comes to what its Lean function says. -/
namespace Go.Proofs.Ytfhcolhiolgikaa.T
open Go.RowKit Go.Proofs.YtfhcolhiolgikaaW.PrintWords Go.Proofs.YtfhcolhiolgikaaW.PrintLast Go.Proofs.YtfhcolhiolgikaaW.PrintMore
attribute [local go_sem] max2_int min2_int max_two min_two max_three min_three max_four min_four   -- for this text's walks alone
set_option linter.unusedVariables false
set_option linter.unusedSimpArgs false
/-! ### pack.Unpack (10), by hand -/
open Go.Proofs.Ytfhcolhiolgikaa.Plain
/-- Four rows of a segment that are apart from block S. -/
structure SegRs (W : World) (base S : Nat) (v0 : Value) (ids : List ByteArray) (v1 : Value) (keys : List Int) (v2 : Value) (lens : List Int) (v3 : Value) (terms : List S44) : Prop where
 r0 : Kd.R Kd.string 9 W base (fun k => k ≠ S) v0 ids
 r1 : Kd.R (Kd.int .i64) 3 W base (fun k => k ≠ S) v1 keys
 r2 : Kd.R (Kd.int .i64) 3 W base (fun k => k ≠ S) v2 lens
 r3 : Kd.R k44 44 W base (fun k => k ≠ S) v3 terms
section
variable {W W1 W2 : World} {base S : Nat} {v0 v1 v2 v3 : Value} {ids : List ByteArray} {keys lens : List Int} {terms : List S44}
theorem newRs (h0 : Kd.R Kd.string 9 W W1.heap.size (fun _ => True) v0 ids) (h1 : Kd.R (Kd.int .i64) 3 W W1.heap.size (fun _ => True) v1 keys) (h2 : Kd.R (Kd.int .i64) 3 W W1.heap.size (fun _ => True) v2 lens) (h3 : Kd.R k44 44 W W1.heap.size (fun _ => True) v3 terms) (hb : base ≤ W1.heap.size) (hS : S < W1.heap.size) : SegRs W base S v0 ids v1 keys v2 lens v3 terms := by
 have key : ∀ {α : Type} {d : Kd α} {e : Nat} {v : Value} {xs : List α}, Kd.R d e W W1.heap.size (fun _ => True) v xs → Kd.R d e W base (fun k => k ≠ S) v xs := fun h =>
  Kd.R_mono (Kd.R_lower (Kd.R_bound h) hb) (fun k hk e => absurd hS (by rw [← e]; exact Nat.not_lt.2 hk.2.1))
 exact ⟨key h0, key h1, key h2, key h3⟩
theorem newRb (h : SegRs W base S v0 ids v1 keys v2 lens v3 terms) (hb : Below W.heap.size W W2) : SegRs W2 base S v0 ids v1 keys v2 lens v3 terms :=
 ⟨Kd.R_below h.r0 hb, Kd.R_below h.r1 hb, Kd.R_below h.r2 hb, Kd.R_below h.r3 hb⟩
theorem newRk (h : SegRs W base S v0 ids v1 keys v2 lens v3 terms) (hk : KeepBut W W2 S none) : Kd.R Kd.string 9 W2 base (fun _ => True) v0 ids ∧ Kd.R (Kd.int .i64) 3 W2 base (fun _ => True) v1 keys ∧ Kd.R (Kd.int .i64) 3 W2 base (fun _ => True) v2 lens ∧ Kd.R k44 44 W2 base (fun _ => True) v3 terms :=
 ⟨Kd.R_mono (Kd.R_keep h.r0 hk (fun _ hk => hk)) (fun _ _ => trivial), Kd.R_mono (Kd.R_keep h.r1 hk (fun _ hk => hk)) (fun _ _ => trivial), Kd.R_mono (Kd.R_keep h.r2 hk (fun _ hk => hk)) (fun _ _ => trivial), Kd.R_mono (Kd.R_keep h.r3 hk (fun _ hk => hk)) (fun _ _ => trivial)⟩
end
set_option maxHeartbeats 8000000 in
set_option maxRecDepth 100000 in
theorem unpack_calls (A : Option Addr) (c : Nat) (b : List Int) (w : World) (hby : byt b) (hC : Kd.C (Kd.int .u8) w A b.length b) (hc : b.length ≤ c) :
  Calls Try.prog 10 #[.slice A b.length c] w fun e w' => ∃ v0 v1 v2 v3, e = .returned (.tuple #[.agg #[v0, v1, v2, v3, .bool (unSegP b).1.so], .int .i64 (unSegP b).2]) ∧
   Kd.R Kd.string 9 w' w.heap.size (fun _ => True) v0 (unSegP b).1.ids ∧ Kd.R (Kd.int .i64) 3 w' w.heap.size (fun _ => True) v1 (unSegP b).1.keys ∧ Kd.R (Kd.int .i64) 3 w' w.heap.size (fun _ => True) v2 (unSegP b).1.lens ∧ Kd.R k44 44 w' w.heap.size (fun _ => True) v3 (unSegP b).1.terms ∧ Below w.heap.size w w' := by
 have hu26 := Try.underlying26
 have HBY := Aside0.mk hby
 have HC := Aside0.mk hC
 have HCC := Aside0.mk hc
 have HLM := Aside0.mk (show b.length ≤ 9223372036854775807 from hC.2.1)
 clear hby hC hc
 go_enter Try.func10, Try.ntmps10
 go_upto_region 1 with fail
 have b0 := Aside0.mk (show (w.alloc (.cells seg0 26)).heap[w.heap.size]? = some (.cells seg0 26 (0, 0)) from blk_new w (.cells seg0 26))
 have bb := Aside0.mk (show Below w.heap.size w (w.alloc (.cells seg0 26)) from below_alloc (Below.refl w.heap.size w) (.cells seg0 26))
 obtain ⟨S, hS⟩ : ∃ S, S = w.heap.size := ⟨_, rfl⟩
 rw [← hS] at b0
 change Code.wp _ _ _ _ (w.alloc (.cells seg0 26))
 generalize (w.alloc (.cells seg0 26)) = wb at *
 rw [← hS]
 have HSW := Aside0.mk (show w.heap.size ≤ S from by omega)
 clear hS
 go_upto_region 2 with (first | (go_at_call 24; (refine (frame_Open.calls 7 A c b 83 (openP b).1 (openP b).2 _ (Kd.C_below HC.out bb.out) HCC.out (open_eq b HBY.out HLM.out 7 (Nat.le_refl _))).mono ?_); rintro e_ w1 ⟨vi, rfl, hr, hb⟩; obtain ⟨Ai, ci, rfl⟩ := Kd.R_slice hr; have HI := Aside0.mk hr; have m0_ := Aside0.mk (blk_below b0.out hb); have m1_ := Aside0.mk (below_step bb.out hb); clear b0 bb hr hb; have b0 := m0_; have bb := m1_; clear m0_ m1_))
 by_cases he : (openP b).2 = 0
 ·
  have he2 : unSegP b = if (withinP (openP b).1).2 = true then ((withinP (openP b).1).1, 0) else (segZ, 5) := if_pos he
  obtain ⟨p, hp⟩ : ∃ p, p = withinP (openP b).1 := ⟨_, rfl⟩
  rw [← hp] at he2
  have HE := Aside0.mk he2
  have HP := Aside0.mk hp
  have k1 : ((openP b).2 != 0) = false := by simp [he]
  clear he he2 hp
  obtain ⟨sv, is⟩ := p
  go_upto_region 5 with (first | (go_at_call 25; have hc := within_calls Ai ci (openP b).1 _ (open_byt HBY.out) (Kd.R_reads' HI.out).2.2 (Kd.R_reads' HI.out).2.1 (Nat.le_trans (open_len HBY.out) (by decide)); rw [← HP.out] at hc; (refine hc.mono ?_); clear hc; rintro e_ w2 ⟨v0, v1, v2, v3, rfl, h0, h1, h2, h3, hb⟩; obtain ⟨A0, c0, rfl⟩ := Kd.R_slice h0; obtain ⟨A1, c1, rfl⟩ := Kd.R_slice h1; obtain ⟨A2, c2, rfl⟩ := Kd.R_slice h2; obtain ⟨A3, c3, rfl⟩ := Kd.R_slice h3; have HRS := Aside0.mk (newRs h0 h1 h2 h3 (below_size bb.out) (blk_lt b0.out)); have m0_ := Aside0.mk (blk_below b0.out hb); have m1_ := Aside0.mk (below_step bb.out hb); clear b0 bb HI h0 h1 h2 h3 hb; have b0 := m0_; have bb := m1_; clear m0_ m1_))
  have m0_ := Aside0.mk (blk_below b0.out (below_alloc (Below.refl w2.heap.size w2) (.cells #[.slice A0 sv.ids.length c0, .slice A1 sv.keys.length c1, .slice A2 sv.lens.length c2, .slice A3 sv.terms.length c3, .bool sv.so] 26)))
  have m1_ := Aside0.mk (below_alloc bb.out (.cells #[.slice A0 sv.ids.length c0, .slice A1 sv.keys.length c1, .slice A2 sv.lens.length c2, .slice A3 sv.terms.length c3, .bool sv.so] 26))
  have m2_ := Aside0.mk (newRb HRS.out (below_alloc (Below.refl w2.heap.size w2) (.cells #[.slice A0 sv.ids.length c0, .slice A1 sv.keys.length c1, .slice A2 sv.lens.length c2, .slice A3 sv.terms.length c3, .bool sv.so] 26)))
  have BT := Aside0.mk (blk_new w2 (.cells #[.slice A0 sv.ids.length c0, .slice A1 sv.keys.length c1, .slice A2 sv.lens.length c2, .slice A3 sv.terms.length c3, .bool sv.so] 26))
  clear b0 bb HRS
  have b0 := m0_
  have bb := m1_
  have HRS := m2_
  clear m0_ m1_ m2_
  generalize (w2.alloc (.cells #[.slice A0 sv.ids.length c0, .slice A1 sv.keys.length c1, .slice A2 sv.lens.length c2, .slice A3 sv.terms.length c3, .bool sv.so] 26)) = w3 at *
  generalize w2.heap.size = T at *
  cases is with
  | false =>
   have HF := Aside0.mk (show unSegP b = (segZ, 5) from HE.out)
   have e0 : w3.cell? ⟨S, 0, none⟩ = some (.slice none 0 0) := (blk_cell b0.out 0).trans rfl
   have e1 : w3.cell? ⟨S, 1, none⟩ = some (.slice none 0 0) := (blk_cell b0.out 1).trans rfl
   have e2 : w3.cell? ⟨S, 2, none⟩ = some (.slice none 0 0) := (blk_cell b0.out 2).trans rfl
   have e3 : w3.cell? ⟨S, 3, none⟩ = some (.slice none 0 0) := (blk_cell b0.out 3).trans rfl
   have e4 : w3.cell? ⟨S, 4, none⟩ = some (.bool false) := (blk_cell b0.out 4).trans rfl
   have f0 := blk_frozen b0.out 0
   have f1 := blk_frozen b0.out 1
   have f2 := blk_frozen b0.out 2
   have f3 := blk_frozen b0.out 3
   have f4 := blk_frozen b0.out 4
   go_wp2
   have hG : (((((w3.setCell ⟨S, 0, none⟩ (.slice none 0 0)).setCell ⟨S, 1, none⟩ (.slice none 0 0)).setCell ⟨S, 2, none⟩ (.slice none 0 0)).setCell ⟨S, 3, none⟩ (.slice none 0 0)).setCell ⟨S, 4, none⟩ (.bool false)).heap[S]? = some (.cells seg0 26 (0, 0)) := (blk_set (blk_set (blk_set (blk_set (blk_set b0.out 0 _) 1 _) 2 _) 3 _) 4 _).trans rfl
   refine bodyPost_ret (results_ct rfl _ _ S 26 seg0 (0, 0) _ rfl hG Try.underlying26 rfl (by kernel_rfl)) rfl ?_
   rw [HF.out]
   exact ⟨.slice none 0 0, .slice none 0 0, .slice none 0 0, .slice none 0 0, rfl, Kd.R_nil _ _ _ _ _, Kd.R_nil _ _ _ _ _, Kd.R_nil _ _ _ _ _, Kd.R_nil _ _ _ _ _, below_set (below_set (below_set (below_set (below_set bb.out HSW.out) HSW.out) HSW.out) HSW.out) HSW.out⟩
  | true =>
   have HF := Aside0.mk (show unSegP b = (sv, 0) from HE.out)
   have t0 : w3.cell? ⟨T, 0, none⟩ = some (.slice A0 sv.ids.length c0) := (blk_cell BT.out 0).trans rfl
   have t1 : w3.cell? ⟨T, 1, none⟩ = some (.slice A1 sv.keys.length c1) := (blk_cell BT.out 1).trans rfl
   have t2 : w3.cell? ⟨T, 2, none⟩ = some (.slice A2 sv.lens.length c2) := (blk_cell BT.out 2).trans rfl
   have t3 : w3.cell? ⟨T, 3, none⟩ = some (.slice A3 sv.terms.length c3) := (blk_cell BT.out 3).trans rfl
   have t4 : w3.cell? ⟨T, 4, none⟩ = some (.bool sv.so) := (blk_cell BT.out 4).trans rfl
   have e0 : w3.cell? ⟨S, 0, none⟩ = some (.slice none 0 0) := (blk_cell b0.out 0).trans rfl
   have e1 : w3.cell? ⟨S, 1, none⟩ = some (.slice none 0 0) := (blk_cell b0.out 1).trans rfl
   have e2 : w3.cell? ⟨S, 2, none⟩ = some (.slice none 0 0) := (blk_cell b0.out 2).trans rfl
   have e3 : w3.cell? ⟨S, 3, none⟩ = some (.slice none 0 0) := (blk_cell b0.out 3).trans rfl
   have e4 : w3.cell? ⟨S, 4, none⟩ = some (.bool false) := (blk_cell b0.out 4).trans rfl
   have f0 := blk_frozen b0.out 0
   have f1 := blk_frozen b0.out 1
   have f2 := blk_frozen b0.out 2
   have f3 := blk_frozen b0.out 3
   have f4 := blk_frozen b0.out 4
   go_wp2
   have K5 := (((((KeepBut.refl w3 S none).set_ 0 (.slice A0 sv.ids.length c0)).set_ 1 (.slice A1 sv.keys.length c1)).set_ 2 (.slice A2 sv.lens.length c2)).set_ 3 (.slice A3 sv.terms.length c3)).set_ 4 (.bool sv.so)
   have hG : (((((w3.setCell ⟨S, 0, none⟩ (.slice A0 sv.ids.length c0)).setCell ⟨S, 1, none⟩ (.slice A1 sv.keys.length c1)).setCell ⟨S, 2, none⟩ (.slice A2 sv.lens.length c2)).setCell ⟨S, 3, none⟩ (.slice A3 sv.terms.length c3)).setCell ⟨S, 4, none⟩ (.bool sv.so)).heap[S]? = some (.cells #[.slice A0 sv.ids.length c0, .slice A1 sv.keys.length c1, .slice A2 sv.lens.length c2, .slice A3 sv.terms.length c3, .bool sv.so] 26 (0, 0)) := (blk_set (blk_set (blk_set (blk_set (blk_set b0.out 0 _) 1 _) 2 _) 3 _) 4 _).trans rfl
   refine bodyPost_ret (results_ct rfl _ _ S 26 #[.slice A0 sv.ids.length c0, .slice A1 sv.keys.length c1, .slice A2 sv.lens.length c2, .slice A3 sv.terms.length c3, .bool sv.so] (0, 0) _ rfl hG Try.underlying26 rfl (by kernel_rfl)) rfl ?_
   rw [HF.out]
   obtain ⟨h0, h1, h2, h3⟩ := newRk HRS.out K5
   exact ⟨_, _, _, _, rfl, h0, h1, h2, h3, below_set (below_set (below_set (below_set (below_set bb.out HSW.out) HSW.out) HSW.out) HSW.out) HSW.out⟩
 ·
  have HF := Aside0.mk (show unSegP b = (segZ, (openP b).2) from if_neg he)
  have k1 : ((openP b).2 != 0) = true := by simp [he]
  clear he
  have e0 : w1.cell? ⟨S, 0, none⟩ = some (.slice none 0 0) := (blk_cell b0.out 0).trans rfl
  have e1 : w1.cell? ⟨S, 1, none⟩ = some (.slice none 0 0) := (blk_cell b0.out 1).trans rfl
  have e2 : w1.cell? ⟨S, 2, none⟩ = some (.slice none 0 0) := (blk_cell b0.out 2).trans rfl
  have e3 : w1.cell? ⟨S, 3, none⟩ = some (.slice none 0 0) := (blk_cell b0.out 3).trans rfl
  have e4 : w1.cell? ⟨S, 4, none⟩ = some (.bool false) := (blk_cell b0.out 4).trans rfl
  have f0 := blk_frozen b0.out 0
  have f1 := blk_frozen b0.out 1
  have f2 := blk_frozen b0.out 2
  have f3 := blk_frozen b0.out 3
  have f4 := blk_frozen b0.out 4
  go_wp2
  have hG : (((((w1.setCell ⟨S, 0, none⟩ (.slice none 0 0)).setCell ⟨S, 1, none⟩ (.slice none 0 0)).setCell ⟨S, 2, none⟩ (.slice none 0 0)).setCell ⟨S, 3, none⟩ (.slice none 0 0)).setCell ⟨S, 4, none⟩ (.bool false)).heap[S]? = some (.cells seg0 26 (0, 0)) := (blk_set (blk_set (blk_set (blk_set (blk_set b0.out 0 _) 1 _) 2 _) 3 _) 4 _).trans rfl
  refine bodyPost_ret (results_ct rfl _ _ S 26 seg0 (0, 0) _ rfl hG Try.underlying26 rfl (by kernel_rfl)) rfl ?_
  rw [HF.out]
  exact ⟨.slice none 0 0, .slice none 0 0, .slice none 0 0, .slice none 0 0, rfl, Kd.R_nil _ _ _ _ _, Kd.R_nil _ _ _ _ _, Kd.R_nil _ _ _ _ _, Kd.R_nil _ _ _ _ _, below_set (below_set (below_set (below_set (below_set bb.out HSW.out) HSW.out) HSW.out) HSW.out) HSW.out⟩

end Go.Proofs.Ytfhcolhiolgikaa.T
/- Written by hp.py, this session's own program, out of the translation of this seat: Lean functions for the Go functions, and the proof that each call comes to what its Lean function says. -/
namespace Go.Proofs.Ytfhcolhiolgikaa.T
open Go.RowKit Go.Proofs.YtfhcolhiolgikaaW.PrintWords Go.Proofs.YtfhcolhiolgikaaW.PrintLast Go.Proofs.YtfhcolhiolgikaaW.PrintMore
attribute [local go_sem] max2_int min2_int max_two min_two max_three min_three max_four min_four   -- for this text's walks alone
set_option linter.unusedVariables false
set_option linter.unusedSimpArgs false
/-! ### dict.Pack (19), by hand -/
open Go.Proofs.Ytfhcolhiolgikaa.Plain
set_option maxHeartbeats 8000000 in
set_option maxRecDepth 100000 in
theorem dictPack_calls (A0 : Option Addr) (c0 : Nat) (l : List ByteArray) (w : World) (hC : Kd.C Kd.string w A0 l.length l) (hc : l.length ≤ c0) (hl : l.length ≤ 100000) :
  Calls Try.prog 19 #[.slice A0 l.length c0] w fun e w' => ∃ v : Value, e = .returned v ∧ Kd.R (Kd.int .u8) 5 w' w.heap.size (fun _ => True) v (dictPackR l) ∧ Below w.heap.size w w' := by
 have HC := Aside0.mk hC
 have HCC := Aside0.mk hc
 have HB := Aside0.mk (Below.refl w.heap.size w)
 cases hm : dictMayP l with
 | false =>
  have HD := Aside0.mk (show dict_May.f (l.length + 2) l = some false from (dictMay_eq l (by omega) _ (by omega)).trans (congrArg some hm))
  have HM := Aside0.mk (show dictPackR l = [] from by unfold dictPackR; rw [hm]; rfl)
  clear hC hc hl hm
  go_enter Try.func19, Try.ntmps19
  go_wp2_with (first | (go_at_call 37; (refine (dict_May.calls (l.length + 2) A0 c0 l false _ HC.out HCC.out HD.out).mono ?_); rintro e_ w1 ⟨rfl, hd⟩; have hb := drawn_below hd; clear hd; have s0_ := Aside0.mk (below_step HB.out hb); clear hb HB; have HB := s0_; clear s0_))
  go_ret
  exact ⟨_, rfl, by rw [HM.out]; exact Kd.R_nil _ _ _ _ _, HB.out⟩
 | true =>
  have HD := Aside0.mk (show dict_May.f (l.length + 2) l = some true from (dictMay_eq l (by omega) _ (by omega)).trans (congrArg some hm))
  have HM := Aside0.mk (show dictPackR l = dictPackP l from by unfold dictPackR; rw [hm]; rfl)
  have HOK := Aside0.mk (dictMay_ok hm)
  clear hC hc hl hm
  go_enter Try.func19, Try.ntmps19
  go_wp2_with (first | (go_at_call 37; (refine (dict_May.calls (l.length + 2) A0 c0 l true _ HC.out HCC.out HD.out).mono ?_); rintro e_ w1 ⟨rfl, hd⟩; have hb := drawn_below hd; clear hd; have s0_ := Aside0.mk (below_step HB.out hb); clear hb HB; have HB := s0_; clear s0_) | (go_at_call 15; (refine (vint_Put.calls 8 (l.length : Int) _ _ (put_eq _ 8 (Nat.le_refl _))).mono ?_); rintro e_ w1 ⟨v0_, rfl, ho, hb⟩; have HO := Aside0.mk (Kd.R_lower ho (below_size HB.out)); clear ho; have s0_ := Aside0.mk (below_step HB.out hb); clear hb HB; have HB := s0_; clear s0_))
  go_loopg [3, 4, 16] (l.length + 1) (fun kq v3 v4 v16 w' => ∃ (i : Nat) (ah : ByteArray) (xs : List Int), v16 = .int .i64 (i : Int) ∧ v4 = .string ah ∧ Aside0 (Kd.R (Kd.int .u8) 5 w' w.heap.size (fun _ => True) v3 xs) ∧ Aside0 (Below w.heap.size w w') ∧ Aside0 (i ≤ l.length ∧ l.length - i < kq ∧ kq ≤ l.length + 1 ∧ xs.length ≤ 5 + 42 * i ∧ ah.size ≤ 32) ∧ Aside0 (xs ++ dpk ah (l.drop i) = dictPackP l))
  case atStart => exact ⟨0, ⟨#[]⟩, putP (l.length : Int), rfl, rfl, HO, HB, ⟨by omega, by omega, by omega, by have := putP_len (l.length : Int); omega, Nat.zero_le _⟩, ⟨rfl⟩⟩
  case round =>
   clear HO HB
   obtain ⟨i, ah, xs, rfl, rfl, HO, HB, HI, HP⟩ := hrel
   cases gk with
   | zero => exact absurd HI.out.2.1 (by omega)
   | succ k1 =>
    by_cases hlt : i < l.length
    ·
     have c2b0 : decide ((i : Int) < (l.length : Int)) = true := decide_eq_true (by omega)
     have c2b1 : decide (i < l.length) = true := decide_eq_true hlt
     obtain ⟨t, ht⟩ : ∃ t, t = rdOf ByteArray.empty l (i : Int) := ⟨_, rfl⟩
     obtain ⟨ad, e1, hx0⟩ := Kd.at_string HC.out (i : Int) (by omega) (by omega)
     rw [← ht] at hx0
     cases e1
     rw [Int.toNat_natCast] at hx0
     replace hx0 := pw_cell_below HB.out hx0
     have p1 : (0 : Int) ≤ (i : Int) := by omega
     have p2 : (i : Int) < (l.length : Int) := by omega
     replace p1 := eq_true p1
     replace p2 := eq_true p2
     have HTS := Aside0.mk (show t.size ≤ 32 from (HOK.out.2 t (by rw [ht]; exact rdOf_mem l i hlt)).2)
     have HL := Aside0.mk (show xs.length ≤ 10000 by have := HI.out; have := HOK.out.1; omega)
     have hP := HP.out
     rw [dropS l i hlt, ← ht] at hP
     have HP2 := Aside0.mk hP
     have HLT := Aside0.mk hlt
     have HS := Aside0.mk (show dict_shared.f (t.size + 100) ah t = some ((sharedP ah t : Nat) : Int) from shared_eq _ _ (by have := HI.out; omega) _ (by have := HI.out; omega))
     have hsl := (shared_le ah t).2
     have q1 : (0 : Int) ≤ ((sharedP ah t : Nat) : Int) := by omega
     have q2 : ((sharedP ah t : Nat) : Int) ≤ (t.size : Int) := by omega
     have hw : wrap64 ((t.size : Int) - ((sharedP ah t : Nat) : Int)) = (t.size : Int) - ((sharedP ah t : Nat) : Int) := wid (by omega) (by have := HTS.out; omega)
     have HSL := Aside0.mk hsl
     have HW := Aside0.mk hw
     clear ht hlt hP HP hsl
     go_upto_region 9 with (first | (go_at_call 38; (refine (dict_shared.calls (t.size + 100) ah t _ _ HS.out).mono ?_); rintro e_ w1 ⟨rfl, hb⟩; have s0_ := Aside0.mk (below_step HB.out hb); have s1_ := Aside0.mk (Kd.R_below HO.out hb); clear hb HB HO; have HB := s0_; have HO := s1_; clear s0_ s1_))
     clear hx0
     obtain ⟨mid, hmid⟩ : ∃ x, wrap64 ((t.size : Int) - ((sharedP ah t : Nat) : Int)) = x := ⟨_, rfl⟩
     have HMID := Aside0.mk (hmid.symm.trans HW.out)
     clear hw
     go_upto_region 10 with (first | (go_at_call 15; (refine (vint_Put.calls 8 (((sharedP ah t : Nat) : Int)) _ _ (put_eq _ 8 (Nat.le_refl _))).mono ?_); rintro e_ w1 ⟨v0_, rfl, ho, hb⟩; obtain ⟨An, cn, rfl⟩ := Kd.R_slice ho; have HN := Aside0.mk (Kd.R_reads' ho).2.2; clear ho; have s0_ := Aside0.mk (below_step HB.out hb); have s1_ := Aside0.mk (Kd.R_below HO.out hb); clear hb HB HO; have HB := s0_; have HO := s1_; clear s0_ s1_) | ((with_reducible refine gate_builtin (b := .append) (xs := #[.tmp 23, .tmp 25]) rfl ?_); at_builtin; refine Kd.R_append_rows (Kd.int .u8) (w0 := w) w.heap.size rfl (.tmp 23) (.tmp 25) 29 5 (.int .u8 0) 1 rfl Try.underlying29 info5 rfl (by decide) (by omega) u3 xs (putP ((sharedP ah t : Nat) : Int)) _ _ _ (fun _ => True) (fun _ => False) rfl rfl ?aO ?aR (fun _ _ h => h) (fun _ h => h.elim) (fun _ _ => trivial) ?aB ?aS ?aL ?_; (case aO => exact HO.out); (case aR => exact HN.out); (case aB => exact HB.out); (case aS => exact below_size HB.out); (case aL => (try clear hmid); have h1_ := HL.out; have h2_ := putP_len (sharedP ah t : Nat); have h3_ := putP_len mid; have h4_ := HTS.out; (try simp only [List.length_append, bytesOf_length]); omega); intro vo w1 ho hb hg hat; clear HB HO HN; have HB := Aside0.mk hb; have HO := Aside0.mk ho; clear ho hb hg hat) | (go_at_call 15; (refine (vint_Put.calls 8 (mid) _ _ (put_eq _ 8 (Nat.le_refl _))).mono ?_); rintro e_ w1 ⟨v0_, rfl, ho, hb⟩; obtain ⟨An, cn, rfl⟩ := Kd.R_slice ho; have HN := Aside0.mk (Kd.R_reads' ho).2.2; clear ho; have s0_ := Aside0.mk (below_step HB.out hb); have s1_ := Aside0.mk (Kd.R_below HO.out hb); clear hb HB HO; have HB := s0_; have HO := s1_; clear s0_ s1_) | ((with_reducible refine gate_builtin (b := .append) (xs := #[.tmp 26, .tmp 31]) rfl ?_); at_builtin; refine Kd.R_append_rows (Kd.int .u8) (w0 := w) w.heap.size rfl (.tmp 26) (.tmp 31) 29 5 (.int .u8 0) 1 rfl Try.underlying29 info5 rfl (by decide) (by omega) vo (xs ++ putP ((sharedP ah t : Nat) : Int)) (putP mid) _ _ _ (fun _ => True) (fun _ => False) rfl rfl ?aO ?aR (fun _ _ h => h) (fun _ h => h.elim) (fun _ _ => trivial) ?aB ?aS ?aL ?_; (case aO => exact HO.out); (case aR => exact HN.out); (case aB => exact HB.out); (case aS => exact below_size HB.out); (case aL => (try clear hmid); have h1_ := HL.out; have h2_ := putP_len (sharedP ah t : Nat); have h3_ := putP_len mid; have h4_ := HTS.out; (try simp only [List.length_append, bytesOf_length]); omega); intro vo w1 ho hb hg hat; clear HB HO HN; have HB := Aside0.mk hb; have HO := Aside0.mk ho; clear ho hb hg hat))
     clear hmid
     go_wp2_with (first | (at_builtin; refine print_append_str (w0 := w) w.heap.size rfl (.tmp 33) (.tmp 36) 29 9 5 rfl Try.underlying29 Try.underlying9 info5 _ _ (t.extract (sharedP ah t) t.size) rfl rfl (Kd.own_of_R HO.out) HB.out (below_size HB.out) ?aL ?_; (case aL => have h1_ := HL.out; have h2_ := putP_len (sharedP ah t : Nat); have h3_ := putP_len mid; have h4_ := HTS.out; rw [ByteArray.size_extract]; (try simp only [List.length_append]); omega); intro vo w1 ho hb hg; clear HB HO; have HB := Aside0.mk hb; have HO := Aside0.mk (show Kd.R (Kd.int .u8) 5 w1 w.heap.size (fun _ => True) vo _ from Kd.R_of_own ho (fun _ _ => trivial)); clear ho hb hg))
     go_roundg k1
     case measure => have := HI.out; omega
     case rel => exact ⟨i + 1, t, _, (by rw [wstep (by have := HLT.out; have := HOK.out.1; omega)]), rfl, HO, HB, ⟨by have := HLT.out; omega, by have := HI.out; have := HLT.out; omega, by have := HI.out; omega, by have h1_ := HI.out; have h2_ := putP_len (sharedP ah t : Nat); have h3_ := putP_len mid; have h4_ := HTS.out; simp only [List.length_append, bytesOf_extract, List.length_drop, bytesOf_length]; omega, HTS.out⟩, ⟨by have h := HP2.out; rw [HMID.out, bytesOf_extract]; simp only [dpk, List.append_assoc] at h ⊢; exact h⟩⟩
    ·
     have c2b0 : decide ((i : Int) < (l.length : Int)) = false := decide_eq_false (by omega)
     have c2b1 : decide (i < l.length) = false := decide_eq_false hlt
     have HF := Aside0.mk (show xs = dictPackP l from by have h := HP.out; rw [List.drop_eq_nil_of_le (by omega)] at h; simpa [dpk] using h)
     clear hlt
     go_wp2
     go_ret
     exact ⟨_, rfl, by rw [HM.out, ← HF.out]; exact HO.out, HB.out⟩

end Go.Proofs.Ytfhcolhiolgikaa.T
