import Derived.Test.YtbbmdakdghefnaaGreatDoorQPM
import Derived.Test.YtbbmdakdghefnaaGreatDoorQPC
/- Texts of this claim, laid together by a program (merge.py): Pl, Sm. -/
set_option maxHeartbeats 8000000
set_option maxRecDepth 100000
namespace Go.Proofs.YtbbmdakdghefnaaGreatDoor.T
open Go.RowKit Go.Proofs.YtbbmdakdghefnaaGreatDoorW.PrintWords Go.Proofs.YtbbmdakdghefnaaGreatDoorW.PrintLast Go.Proofs.YtbbmdakdghefnaaGreatDoorW.PrintMore
attribute [local go_sem] max2_int min2_int max_two min_two max_three min_three max_four min_four
set_option linter.unusedVariables false
set_option linter.unusedSimpArgs false
open Go.Proofs.YtbbmdakdghefnaaGreatDoor.Plain
theorem wstepB {i : Nat} (h : i ≤ 4611686018427387904) : wrap64 ((i : Int) + 1) = ((i + 1 : Nat) : Int) := by rw [wid z161_ z161_]; omega
def kvP (x : Int × Int) : Value := .agg #[.int .i64 x.1, .int .i64 x.2]
theorem kvP_inj {x y : Int × Int} (h : kvP x = kvP y) : x = y := by
 unfold kvP at h
 simp at h
 exact Prod.ext h.1 h.2
/-- The places that were seen. -/
def SeenAt (w : World) (M : Nat) (s : List (Int × Int)) : Prop := MapAt kvP 103 w M s.length (fun x => if x ∈ s then 1 else 0) s.length
theorem seen_put {w2 : World} {M : Nat} {s : List (Int × Int)} {x : Int × Int} (hx : x ∉ s) (h : MapAt kvP 103 w2 M (s.length + 1) (fun y => if y = x then 1 else if y ∈ s then 1 else 0) (if (if x ∈ s then (1 : Int) else 0) = 0 then s.length + 1 else s.length)) : SeenAt w2 M (x :: s) := by
 rw [if_neg hx, if_pos rfl] at h; unfold SeenAt; rw [List.length_cons]
 have e : (fun y : Int × Int => if y ∈ x :: s then (1 : Int) else 0) = fun y => if y = x then 1 else if y ∈ s then 1 else 0 := by
  funext y
  by_cases h1 : y = x
  · simp [h1]
  · simp [h1]
 rw [e]; exact h
/-- What a walk of placed keeps. -/
structure PlSt (w : World) (S M : Nat) (cs : Array Value) (seen : List (Int × Int)) (v4 : Value) (names : List ByteArray) (wr : World) : Prop where
 box : wr.heap[S]? = some (.cells cs 45 (0, 0))
 map : SeenAt wr M seen
 row : Kd.R Kd.string 9 wr w.heap.size (fun k => k ≠ M ∧ k ≠ S) v4 names
 bel : Below w.heap.size w wr
 ge : w.heap.size ≤ S ∧ w.heap.size ≤ M ∧ S ≠ M
theorem PlSt.step {w wr w2 : World} {S M : Nat} {cs : Array Value} {seen : List (Int × Int)} {v4 : Value} {names : List ByteArray} (h : PlSt w S M cs seen v4 names wr) (hb : Below wr.heap.size wr w2) : PlSt w S M cs seen v4 names w2 :=
 ⟨blk_below h.box hb, mapAt_below h.map hb, Kd.R_below h.row hb, below_step h.bel hb, h.ge⟩
theorem PlSt.turn {w wr w2 : World} {S M : Nat} {cs : Array Value} {seen seen2 : List (Int × Int)} {v4 : Value} {names : List ByteArray} (h : PlSt w S M cs seen v4 names wr) (ht : wr.mapTurned w2 M) (hm : SeenAt w2 M seen2) : PlSt w S M cs seen2 v4 names w2 :=
 ⟨(ht.grown.block S (blk_lt h.box) (by simp only [ne_eq, Option.some.injEq]; exact h.ge.2.2)).trans h.box, hm, Kd.R_grown h.row ht.grown (fun k hk => by simp only [ne_eq, Option.some.injEq]; exact hk.1), h.bel.grown ht.grown h.bel.size (fun k hk => by cases hk; exact h.ge.2.1), h.ge⟩
theorem PlSt.app {w wr w2 : World} {S M : Nat} {cs : Array Value} {seen : List (Int × Int)} {v4 v5 : Value} {names names2 : List ByteArray} (h : PlSt w S M cs seen v4 names wr) (hr : Kd.R Kd.string 9 w2 w.heap.size (fun k => k ≠ M ∧ k ≠ S) v5 names2) (hg : wr.grownBy w2 v4.ownBlock) (hb : Below w.heap.size w w2) : PlSt w S M cs seen v5 names2 w2 := by
 have h1 : ∀ k, v4.ownBlock = some k → k ≠ M ∧ k ≠ S := h.row.1; refine ⟨(hg.block S (blk_lt h.box) (fun e => (h1 S e.symm).2 rfl)).trans h.box, ?_, hr, hb, h.ge⟩; obtain ⟨D, m1, m2, m3⟩ := h.map; exact ⟨D, m1.kept hg (fun e => (h1 M e.symm).1 rfl), m2, m3⟩
theorem seen_entry {w : World} {M : Nat} {s : List (Int × Int)} {d a : Int} (h : SeenAt w M s) (hd : 0 ≤ d ∧ d < 64) (ha : 0 ≤ a ∧ a < 120) (hn : s.length < maxLen) {F : Int} (hF : (if (d, a) ∈ s then (1 : Int) else 0) = F) :
  ∃ (v0 : Value) (st : Nat) (w1 w2 : World), (Instr.lookup 101 (.map (some M)) (.agg #[.int .i64 d, .int .i64 a]) false).run Tryz.prog w = .ok (.int .i64 F) w ∧ (Instr.mapEntry 101 (.map (some M)) (.agg #[.int .i64 d, .int .i64 a])).run Tryz.prog w = .ok (.tuple #[v0, goInt st]) w1 ∧
   (Instr.lookup 101 (.map (some M)) (.agg #[.int .i64 d, .int .i64 a]) false).run Tryz.prog w1 = .ok (.int .i64 F) w1 ∧ w.mapTurned w1 M ∧ (Instr.entryStore 101 (.map (some M)) (goInt st) (.int .i64 (F + 1))).run Tryz.prog w1 = .ok () w2 ∧
   (Instr.lookup 101 (.map (some M)) (.agg #[.int .i64 d, .int .i64 a]) false).run Tryz.prog w2 = .ok (.int .i64 (F + 1)) w2 ∧ w.mapTurned w2 M ∧ ((d, a) ∉ s → SeenAt w2 M ((d, a) :: s)) := by
 have wf : ∀ n : Int, 0 ≤ n → n < 120 → (Lit.int .i64 n).wf = true := by
  intro n h0 h1; have h := wrap64_wf n; rw [wid z161_ z161_] at h; exact h
 obtain ⟨lk, hk⟩ := key82 (wf d hd.1 z161_) (wf a ha.1 ha.2); have hk' : keyOf Tryz.prog 103 (kvP (d, a)) = some lk := hk
 have hF1 : F = 0 ∨ F = 1 := by rw [← hF]; split <;> simp
 obtain ⟨v0, st, w1, w2, h1, h2, h3, h4, h5, h6⟩ := mapAt_entry (c := F + 1) h law82 Tryz.underlying101 hk' hn kvP_inj z161_ (wf _ z161_ z161_); have h0 := mapAt_look (w := w) h (Maps.Keyed.of_law law82) Tryz.underlying101 hk'; have h7 := mapAt_look h5 (Maps.Keyed.of_law law82) Tryz.underlying101 hk'; rw [hF] at h0 h2; rw [if_pos rfl] at h7; refine ⟨v0, st, w1, w2, h0, h1, h2, h3, h4, h7, h6, fun hx => ?_⟩
 have hF0 : F = 0 := by rw [if_neg hx] at hF; exact hF.symm
 subst hF0; exact seen_put hx h5
theorem placed_calls (A0 : Option Addr) (c0 : Nat) (ids : List ByteArray) (A1 : Option Addr) (c1 : Nat) (keys : List Int) (A2 : Option Addr) (c2 : Nat) (lens : List Int) (A3 : Option Addr) (c3 : Nat) (terms : List S71) (so : Bool) (w : World)
  (hC2 : Kd.C (Kd.int .i64) w A2 lens.length lens) (hC3 : Kd.C k71 w A3 terms.length terms) (hl : lens.length ≤ 64) (hb10 : ∀ n ∈ lens, 0 ≤ n ∧ n ≤ 120) (ht : terms.length ≤ 4398046511104) (hpl : ∀ t ∈ terms, t.f1.length ≤ 4398046511104) :
  Calls Tryz.prog 45 #[.agg #[.slice A0 ids.length c0, .slice A1 keys.length c1, .slice A2 lens.length c2, .slice A3 terms.length c3, .bool so]] w fun e w' => e = .returned (.bool (placedP terms lens)) ∧ Below w.heap.size w w' := by
 have hu26 := Tryz.underlying45; have hu44 := Tryz.underlying71; have hu64 := Tryz.underlying99; have hu82 := Tryz.underlying103; have hu80 := Tryz.underlying101; have HC2 := A_ hC2; have HC3 := A_ hC3; have HL := A_ hl; have HBL := A_ hb10; have HT := A_ ht; have HPL := A_ hpl; clear hC2 hC3 hl hb10 ht hpl; have hmm := @run_makeMap Tryz.prog; go_enter Tryz.func45, Tryz.ntmps45
 go_upto_region 1 with fail
 have b0 := blk_new w (.cells #[.slice A0 ids.length c0, .slice A1 keys.length c1, .slice A2 lens.length c2, .slice A3 terms.length c3, .bool so] 45); have bb := below_alloc (Below.refl w.heap.size w) (.cells #[.slice A0 ids.length c0, .slice A1 keys.length c1, .slice A2 lens.length c2, .slice A3 terms.length c3, .bool so] 45); generalize (w.alloc (.cells #[.slice A0 ids.length c0, .slice A1 keys.length c1, .slice A2 lens.length c2, .slice A3 terms.length c3, .bool so] 45)) = wb at *
 go_upto_region 3 with fail
 obtain ⟨S, hS⟩ : ∃ S, S = w.heap.size := ⟨_, rfl⟩; obtain ⟨M, hM⟩ : ∃ M, M = wb.heap.size := ⟨_, rfl⟩
 have hst : PlSt w S M #[.slice A0 ids.length c0, .slice A1 keys.length c1, .slice A2 lens.length c2, .slice A3 terms.length c3, .bool so] [] (.slice none 0 0) [] (wb.alloc (.map #[] 0)) := by
  have h1 := blk_lt b0; subst hS hM; exact ⟨blk_below b0 (below_alloc (Below.refl _ _) _), mapAt_made kvP wb, Kd.R_nil _ _ _ _ _, below_alloc bb _, Nat.le_refl _, z161_, z161_⟩
 rw [← hM, ← hS]; clear b0 bb hmm hS hM; generalize (wb.alloc (.map #[] 0)) = w1 at *; have ST := A_ hst; clear hst; generalize hcs : #[Value.slice A0 ids.length c0, .slice A1 keys.length c1, .slice A2 lens.length c2, .slice A3 terms.length c3, .bool so] = cs at ST; have d3 : w1.cell? ⟨S, 3, none⟩ = some (.slice A3 terms.length c3) := (blk_cell ST.out.box 3).trans (by rw [← hcs]; rfl); have KCS := A_ hcs; clear hcs; go_wp2
 go_loopg [4, 18] (terms.length + 1) (fun kq v4 v18 w' => ∃ (i : Nat) (seen : List (Int × Int)), v18 = .int .i64 (i : Int) ∧ Aside0 (PlSt w S M cs seen v4 ((terms.take i).map (·.f0)) w') ∧ Aside0 (i ≤ terms.length ∧ terms.length - i < kq ∧ kq ≤ terms.length + 1 ∧ seen.length ≤ 7680 * i) ∧ Aside0 (plTerms lens (terms.drop i) seen = plTerms lens terms []))
 case atStart => exact ⟨0, [], rfl, ST, ⟨z161_, z161_, z161_, z219_⟩, ⟨rfl⟩⟩
 case round =>
  clear ST d3; obtain ⟨i, seen, rfl, ST, HI, HP⟩ := hrel
  cases gk with
  | zero => exact absurd HI.out.2.1 z161_
  | succ k1 =>
  by_cases hlt : i < terms.length
  ·
   have c2b0 : decide ((i : Int) < (terms.length : Int)) = true := decide_eq_true z161_; have c2b1 : decide (i < terms.length) = true := decide_eq_true hlt; obtain ⟨t, ht⟩ : ∃ t, t = rd_T71 terms (i : Int) := ⟨_, rfl⟩; obtain ⟨ad, A, c, e1, hx0, hx1, hl1, hi1⟩ := at_T71 HC3.out (i : Int) z161_ z161_; rw [← ht] at hx0 hx1 hl1 hi1; cases e1; rw [Int.toNat_natCast] at hx0 hx1; replace hx0 := pw_cell_below ST.out.bel hx0; replace hx1 := pw_cell_below ST.out.bel hx1; have p1 : (0 : Int) ≤ (i : Int) := z161_; have p2 : (i : Int) < (terms.length : Int) := z161_; replace p1 := eq_true p1; replace p2 := eq_true p2; have HTR := A_ hi1; have HTC := A_ hl1; clear hi1 hl1; have HX := A_ ht
   have hmem : t ∈ terms := by rw [ht]; exact rd44_mem terms i hlt
   have HTL := A_ (HPL.out t hmem); have hP := HP.out; rw [drop44 terms i hlt, ← ht] at hP; have HP2 := A_ hP; have HLT := A_ hlt; have HN := A_ (take44 terms i hlt); rw [← ht] at HN; clear ht hlt hP hmem HP
   go_upto_region 6 with fail
   have hown := (Kd.R_bound ST.out.row).1; have hb := below_alloc (Below.refl wr.heap.size wr) (.cells #[.string t.f0, .slice A t.f1.length c] 71); have BT := A_ (blk_new wr (.cells #[.string t.f0, .slice A t.f1.length c] 71)); have n0_ := A_ (ST.out.step hb); have HTN := A_ (show some wr.heap.size ≠ u4.ownBlock from fun e => by have := hown _ e.symm; omega); have HSN := A_ (below_size n0_.out.bel); clear ST hb hx0 hx1 p1 p2 hown; have ST := n0_; clear n0_; generalize (wr.alloc (.cells #[.string t.f0, .slice A t.f1.length c] 71)) = w2 at *; generalize wr.heap.size = T at *; have d0 : w2.cell? ⟨T, 0, none⟩ = some (.string t.f0) := (blk_cell BT.out 0).trans rfl; have LM := A_ (show ((terms.take i).map (·.f0)).length ≤ 4398046511104 by rw [List.length_map, List.length_take]; have := HT.out; omega)
   go_upto_region 7 with (first | ((with_reducible refine gate_builtin (b := .append) (xs := #[.tmp 22, .tmp 25]) rfl ?_); at_builtin; refine Kd.R_append Kd.string (w0 := w) w.heap.size rfl (.tmp 22) (.tmp 25) 23 9 (.string ⟨#[]⟩) 16 rfl Tryz.underlying23 info9 rfl z106_ z161_ u4 ((terms.take i).map (·.f0)) t.f0 [.string t.f0] (fun k => k ≠ M ∧ k ≠ S) (fun _ => False) rfl rfl ?aP (fun _ hk => hk.elim) ?aF ?aO ?aB ?aS ?aL ?_; (case aP => exact rfl); (case aF => exact (fun k hk => by have h1 := mapAt_lt ST.out.map; have h2 := blk_lt ST.out.box; omega)); (case aO => exact ST.out.row); (case aB => exact ST.out.bel); (case aS => exact below_size ST.out.bel); (case aL => have := LM.out; omega); intro v5 w3 ho hb hg hat; have n_ := a2_ (ST.out.app ho hg hb) ((hg.block T (blk_lt BT.out) HTN.out).trans BT.out); clear ST BT ho hb hg hat; obtain ⟨ST, BT⟩ := n_))
   rw [HN.out] at ST; clear d0 HN HTN HSN LM; have d1 : w3.cell? ⟨T, 1, none⟩ = some (.slice A t.f1.length c) := (blk_cell BT.out 1).trans rfl; clear BT
   by_cases h0 : t.f1.length = 0
   ·
    have z0 : ((t.f1.length : Int) == 0) = true := beq_iff_eq.2 z161_; have HE := A_ h0; clear h0; go_wp2; go_ret; exact ⟨by rw [pl_none (HP2.out.symm.trans (if_pos (Or.inl HE.out)))]; rfl, ST.out.bel⟩
   ·
    have z0 : ((t.f1.length : Int) == 0) = false := beq_eq_false_iff_ne.2 z161_; have HE := A_ h0; clear h0
    cases hpm : postMayP t.f1 with
    | false =>
     have HM := A_ (show f51.f (t.f1.length + 124) t.f1 = some false from (postMay_eq _ (by have := HTL.out; omega) _ (Nat.le_refl _)).trans (by rw [hpm])); have HPM := A_ hpm; clear hpm
     go_wp2_with (first | (go_at_call 75; (refine (f51.calls (t.f1.length + 124) A c t.f1 _ _ (Kd.C_below HTR.out ST.out.bel) HTC.out HM.out).mono ?_); rintro e_ w4 ⟨rfl, hb⟩; have n0_ := A_ (ST.out.step hb); replace d1 := pw_cell_below hb d1; clear ST hb; have ST := n0_; clear n0_))
     go_ret; exact ⟨by rw [pl_none (HP2.out.symm.trans (if_pos (Or.inr HPM.out)))]; rfl, ST.out.bel⟩
    | true =>
     have HM := A_ (show f51.f (t.f1.length + 124) t.f1 = some true from (postMay_eq _ (by have := HTL.out; omega) _ (Nat.le_refl _)).trans (by rw [hpm])); have HPM := A_ (postMay_post hpm); have HP3 := A_ (show (plPosts lens t.f1 seen).bind (plTerms lens (terms.drop (i + 1))) = plTerms lens terms [] from (if_neg (show ¬ (t.f1.length = 0 ∨ postMayP t.f1 = false) by rw [hpm]; simp only [Bool.true_eq_false, or_false]; exact HE.out)).symm.trans HP2.out); clear hpm HE HP2
     go_wp2_with (first | (go_at_call 75; (refine (f51.calls (t.f1.length + 124) A c t.f1 _ _ (Kd.C_below HTR.out ST.out.bel) HTC.out HM.out).mono ?_); rintro e_ w4 ⟨rfl, hb⟩; have n0_ := A_ (ST.out.step hb); replace d1 := pw_cell_below hb d1; clear ST hb; have ST := n0_; clear n0_))
     clear d1 z0 HM HTL
     go_loopg [40] (t.f1.length + 1) (fun kq v40 w' => ∃ (j : Nat) (sn : List (Int × Int)), v40 = .int .i64 (j : Int) ∧ Aside0 (PlSt w S M cs sn v5 ((terms.take (i + 1)).map (·.f0)) w') ∧ Aside0 (j ≤ t.f1.length ∧ t.f1.length - j < kq ∧ kq ≤ t.f1.length + 1 ∧ sn.length ≤ 7680 * i + 120 * j) ∧ Aside0 ((plPosts lens (t.f1.drop j) sn).bind (plTerms lens (terms.drop (i + 1))) = plTerms lens terms []))
     case atStart => exact ⟨0, seen, rfl, ST, ⟨z161_, z161_, z161_, by have := HI.out.2.2.2; omega⟩, HP3⟩
     case round =>
      clear ST HP3; obtain ⟨j, sn, rfl, ST, HJ, HP⟩ := hrel
      cases gk with
      | zero => exact absurd HJ.out.2.1 z161_
      | succ k2 =>
      by_cases hlt : j < t.f1.length
      ·
       have c3b0 : decide ((j : Int) < (t.f1.length : Int)) = true := decide_eq_true z161_; have c3b1 : decide (j < t.f1.length) = true := decide_eq_true hlt; obtain ⟨q, hq⟩ : ∃ q, q = rd_T99 t.f1 (j : Int) := ⟨_, rfl⟩; obtain ⟨ad2, B, cb, e2, hx0, hx1, hl1, hi1⟩ := at_T99 HTR.out (j : Int) z161_ z161_; rw [← hq] at hx0 hx1 hl1 hi1; cases e2; rw [Int.toNat_natCast] at hx0 hx1; replace hx0 := pw_cell_below ST.out.bel hx0; replace hx1 := pw_cell_below ST.out.bel hx1; have p1 : (0 : Int) ≤ (j : Int) := z161_; have p2 : (j : Int) < (t.f1.length : Int) := z161_; replace p1 := eq_true p1; replace p2 := eq_true p2; have HQR := A_ hi1; have HQC := A_ hl1; clear hi1 hl1; have HPQ := A_ (HPM.out.2 q (by rw [hq]; exact rd64_mem t.f1 j hlt)); have hP := HP.out; rw [drop64 t.f1 j hlt, ← hq] at hP; have HP2 := A_ (show ((plAts lens q.f0 q.f1 sn).bind (plPosts lens (t.f1.drop (j + 1)))).bind (plTerms lens (terms.drop (i + 1))) = plTerms lens terms [] from hP); have HLJ := A_ hlt; clear hq hlt hP HP
       go_upto_region 12 with fail
       have hb := below_alloc (Below.refl wr.heap.size wr) (.cells #[.int .i64 q.f0, .slice B q.f1.length cb] 99); have BQ := A_ (blk_new wr (.cells #[.int .i64 q.f0, .slice B q.f1.length cb] 99)); have n0_ := A_ (ST.out.step hb); have HQM := A_ (show wr.heap.size ≠ M from by have := mapAt_lt ST.out.map; omega); clear ST hb hx0 hx1 p1 p2; have ST := n0_; clear n0_; generalize (wr.alloc (.cells #[.int .i64 q.f0, .slice B q.f1.length cb] 99)) = w5 at *; generalize wr.heap.size = Q at *; have d1 : w5.cell? ⟨Q, 1, none⟩ = some (.slice B q.f1.length cb) := (blk_cell BQ.out 1).trans rfl; have hQL : q.f1.length ≤ 120 := HPQ.out.2.1; have HQL := A_ hQL; clear hQL; go_wp2; clear d1
       go_loopg [47] (q.f1.length + 1) (fun kq v47 w' => ∃ (m : Nat) (sm : List (Int × Int)), v47 = .int .i64 (m : Int) ∧ Aside0 (PlSt w S M cs sm v5 ((terms.take (i + 1)).map (·.f0)) w') ∧ Aside0 (w'.heap[Q]? = some (.cells #[.int .i64 q.f0, .slice B q.f1.length cb] 99 (0, 0))) ∧ Aside0 (m ≤ q.f1.length ∧ q.f1.length - m < kq ∧ kq ≤ q.f1.length + 1 ∧ sm.length ≤ 7680 * i + 120 * j + m) ∧ Aside0 (((plAts lens q.f0 (q.f1.drop m) sm).bind (plPosts lens (t.f1.drop (j + 1)))).bind (plTerms lens (terms.drop (i + 1))) = plTerms lens terms []))
       case atStart => exact ⟨0, sn, rfl, ST, BQ, ⟨z161_, z161_, z161_, by have := HJ.out.2.2.2; omega⟩, HP2⟩
       case round =>
        clear ST BQ HP2; obtain ⟨m, sm, rfl, ST, BQ, HM2, HP⟩ := hrel
        cases gk with
        | zero => exact absurd HM2.out.2.1 z161_
        | succ k3 =>
        by_cases hlt : m < q.f1.length
        ·
         have c4b0 : decide ((m : Int) < (q.f1.length : Int)) = true := decide_eq_true z161_; have c4b1 : decide (m < q.f1.length) = true := decide_eq_true hlt; obtain ⟨a, ha⟩ : ∃ a, a = rd q.f1 (m : Int) := ⟨_, rfl⟩; obtain ⟨ad3, e3, hx0⟩ := Kd.at_int HQR.out (m : Int) z161_ z161_; rw [← ha] at hx0; cases e3; rw [Int.toNat_natCast] at hx0; replace hx0 := pw_cell_below ST.out.bel hx0; have p1 : (0 : Int) ≤ (m : Int) := z161_; have p2 : (m : Int) < (q.f1.length : Int) := z161_; replace p1 := eq_true p1; replace p2 := eq_true p2; have HA := A_ (HPQ.out.2.2 a (by rw [ha]; exact rd_mem q.f1 m hlt)); have hP := HP.out; rw [dropI q.f1 m hlt, ← ha] at hP; have HP2 := A_ hP; have HLM := A_ hlt; clear ha hlt hP HP
         go_upto_region 15 with fail
         have hnl := A_ (show sm.length < maxLen from by have h1 := HM2.out; have h2 := HI.out; have h3 := HJ.out; have h4 := HT.out; have h5 := HPM.out.1; have h6 := HPQ.out.2.1; have h7 := HLM.out; have h8 := HLJ.out; have h9 := HLT.out; unfold maxLen; omega)
         by_cases hsm : (q.f0, a) ∈ sm
         ·
          obtain ⟨v0, st, w7, w8, hl0, he, hl7, ht7, hes, hl8, ht8, _⟩ := seen_entry (F := 1) (mapAt_below ST.out.map (below_drew (Below.refl wr.heap.size wr))) HPQ.out.1 HA.out hnl.out (if_pos hsm); have HSM := A_ hsm; clear hsm hnl
          replace hes : (Instr.entryStore 101 (.map (some M)) (.int .i64 (st : Int)) (.int .i64 (wrap64 2))).run Tryz.prog w7 = .ok () w8 := by rw [show wrap64 2 = 2 from wid z161_ z161_]; exact hes
          replace hl8 : (Instr.lookup 101 (.map (some M)) (.agg #[.int .i64 q.f0, .int .i64 a]) false).run Tryz.prog w8 = .ok (.int .i64 2) w8 := hl8; have e0 : wr.drew.cell? ⟨Q, 0, none⟩ = some (.int .i64 q.f0) := (blk_cell (blk_drew BQ.out) 0).trans rfl; have e7 : w7.cell? ⟨Q, 0, none⟩ = some (.int .i64 q.f0) := (blk_cell ((ht7.grown.block Q (blk_lt (blk_drew BQ.out)) (fun e => HQM.out (by injection e))).trans (blk_drew BQ.out)) 0).trans rfl; refine start_ (n := 10) (S := fun w' => w'.cell? ⟨Q, 0, none⟩ = some (.int .i64 q.f0) ∧ (Instr.lookup 101 (.map (some M)) (.agg #[.int .i64 q.f0, .int .i64 a]) false).run Tryz.prog w' = .ok (.int .i64 1) w') (ds := [9]) #[false, false, false, false, false, false, false, false, false, false] z159_ rfl rfl ⟨e0, hl0⟩ (fun hHeld => ?_); refine rgP 0 51 ?_; refine rgP 1 52 ?_; refine rgP 3 54 ?_; refine rgT2 2 53 hHeld ?_; refine rgP 4 55 ?_; refine rgT2 5 56 hHeld ?_; refine rgP 6 57 ?_; refine one_ (i := 7) (N := some 58) #[true, true, true, true, true, true, true, true, false, false] rfl rfl z159_ z106_ (fun K hK => ?_); refine value_ (w1 := ?_) (v := ?_) z214_ rfl ?_ ?_; rotate_left 2
          ·
           go_simp
           constructor
           · rfl
           · rfl
          refine hK.out _ _ ⟨e7, hl7⟩ (fun hHeld => ?_); clear hK K; refine nA_ ?_; refine rgP 8 59 ?_; refine last_ (i := 9) (N := none) #[true, true, true, true, true, true, true, true, true, true] rfl rfl z159_ z106_ (fun K hK => ?_); refine skip_ (w1 := ?_) z214_ rfl ?_ ?_; rotate_left
          ·
           go_simp
           rfl
          refine hK.out _ _ ?_; clear hK K; refine done_ z159_ ?_; have hb6 := below_drew (Below.refl wr.heap.size wr); have BQ8 := A_ ((ht8.grown.block Q (blk_lt (blk_drew BQ.out)) (fun e => HQM.out (by injection e))).trans (blk_drew BQ.out)); have BEL8 := A_ ((ST.out.step hb6).bel.grown ht8.grown (ST.out.step hb6).bel.size (fun k hk => by cases hk; exact ST.out.ge.2.1)); have BOX8 := A_ ((ht8.grown.block S (blk_lt (ST.out.step hb6).box) (by simp only [ne_eq, Option.some.injEq]; exact ST.out.ge.2.2)).trans (ST.out.step hb6).box); clear e0 e7 hl0 he hl7 ht7 hes ht8 hb6 BQ ST hx0 p1 p2; have g0 : w8.cell? ⟨Q, 0, none⟩ = some (.int .i64 q.f0) := (blk_cell BQ8.out 0).trans rfl; have g2 : w8.cell? ⟨S, 2, none⟩ = some (.slice A2 lens.length c2) := (blk_cell BOX8.out 2).trans z218_
          by_cases hd : q.f0 < (lens.length : Int)
          ·
           have z1 : decide ((lens.length : Int) ≤ q.f0) = false := decide_eq_false z161_; obtain ⟨ad4, e4, hx4⟩ := Kd.at_int HC2.out q.f0 HPQ.out.1.1 hd; cases e4; replace hx4 := pw_cell_below BEL8.out hx4; have p1 := eq_true HPQ.out.1.1; have p2 := eq_true hd; have HD := A_ hd; clear hd
           by_cases hal : a < rd lens q.f0
           ·
            have z2 : decide (rd lens q.f0 ≤ a) = false := decide_eq_false z161_; have HAL := A_ hal; clear hal; go_wp2; go_ret; exact ⟨by rw [pl_none (HP2.out.symm.trans (by rw [plAts_bad (fun h => h.2.2 HSM.out)]; rfl))]; rfl, BEL8.out⟩
           ·
            have z2 : decide (rd lens q.f0 ≤ a) = true := decide_eq_true z161_; have HAL := A_ hal; clear hal; go_wp2; go_ret; exact ⟨z242_, BEL8.out⟩
          ·
           have z1 : decide ((lens.length : Int) ≤ q.f0) = true := decide_eq_true z161_; have HD := A_ hd; clear hd; go_wp2; go_ret; exact ⟨z243_, BEL8.out⟩
         ·
          obtain ⟨v0, st, w7, w8, hl0, he, hl7, ht7, hes, hl8, ht8, hse⟩ := seen_entry (F := 0) (mapAt_below ST.out.map (below_drew (Below.refl wr.heap.size wr))) HPQ.out.1 HA.out hnl.out (if_neg hsm); have HSM := A_ hsm; clear hsm hnl
          replace hes : (Instr.entryStore 101 (.map (some M)) (.int .i64 (st : Int)) (.int .i64 (wrap64 1))).run Tryz.prog w7 = .ok () w8 := by rw [show wrap64 1 = 1 from wid z161_ z161_]; exact hes
          replace hl8 : (Instr.lookup 101 (.map (some M)) (.agg #[.int .i64 q.f0, .int .i64 a]) false).run Tryz.prog w8 = .ok (.int .i64 1) w8 := hl8; have e0 : wr.drew.cell? ⟨Q, 0, none⟩ = some (.int .i64 q.f0) := (blk_cell (blk_drew BQ.out) 0).trans rfl; have e7 : w7.cell? ⟨Q, 0, none⟩ = some (.int .i64 q.f0) := (blk_cell ((ht7.grown.block Q (blk_lt (blk_drew BQ.out)) (fun e => HQM.out (by injection e))).trans (blk_drew BQ.out)) 0).trans rfl; refine start_ (n := 10) (S := fun w' => w'.cell? ⟨Q, 0, none⟩ = some (.int .i64 q.f0) ∧ (Instr.lookup 101 (.map (some M)) (.agg #[.int .i64 q.f0, .int .i64 a]) false).run Tryz.prog w' = .ok (.int .i64 0) w') (ds := [9]) #[false, false, false, false, false, false, false, false, false, false] z159_ rfl rfl ⟨e0, hl0⟩ (fun hHeld => ?_); refine rgP 0 51 ?_; refine rgP 1 52 ?_; refine rgP 3 54 ?_; refine rgT2 2 53 hHeld ?_; refine rgP 4 55 ?_; refine rgT2 5 56 hHeld ?_; refine rgP 6 57 ?_; refine one_ (i := 7) (N := some 58) #[true, true, true, true, true, true, true, true, false, false] rfl rfl z159_ z106_ (fun K hK => ?_); refine value_ (w1 := ?_) (v := ?_) z214_ rfl ?_ ?_; rotate_left 2
          ·
           go_simp
           constructor
           · rfl
           · rfl
          refine hK.out _ _ ⟨e7, hl7⟩ (fun hHeld => ?_); clear hK K; refine nA_ ?_; refine rgP 8 59 ?_; refine last_ (i := 9) (N := none) #[true, true, true, true, true, true, true, true, true, true] rfl rfl z159_ z106_ (fun K hK => ?_); refine skip_ (w1 := ?_) z214_ rfl ?_ ?_; rotate_left
          ·
           go_simp
           rfl
          refine hK.out _ _ ?_; clear hK K; refine done_ z159_ ?_; have hb6 := below_drew (Below.refl wr.heap.size wr); have BQ8 := A_ ((ht8.grown.block Q (blk_lt (blk_drew BQ.out)) (fun e => HQM.out (by injection e))).trans (blk_drew BQ.out)); have ST8 := A_ ((ST.out.step hb6).turn ht8 (hse HSM.out)); have BEL8 := A_ ((ST.out.step hb6).bel.grown ht8.grown (ST.out.step hb6).bel.size (fun k hk => by cases hk; exact ST.out.ge.2.1)); have BOX8 := A_ ((ht8.grown.block S (blk_lt (ST.out.step hb6).box) (by simp only [ne_eq, Option.some.injEq]; exact ST.out.ge.2.2)).trans (ST.out.step hb6).box); clear e0 e7 hl0 he hl7 ht7 hes ht8 hb6 BQ ST hx0 p1 p2 hse; have g0 : w8.cell? ⟨Q, 0, none⟩ = some (.int .i64 q.f0) := (blk_cell BQ8.out 0).trans rfl; have g2 : w8.cell? ⟨S, 2, none⟩ = some (.slice A2 lens.length c2) := (blk_cell BOX8.out 2).trans z218_
          by_cases hd : q.f0 < (lens.length : Int)
          ·
           have z1 : decide ((lens.length : Int) ≤ q.f0) = false := decide_eq_false z161_; obtain ⟨ad4, e4, hx4⟩ := Kd.at_int HC2.out q.f0 HPQ.out.1.1 hd; cases e4; replace hx4 := pw_cell_below BEL8.out hx4; have p1 := eq_true HPQ.out.1.1; have p2 := eq_true hd; have HD := A_ hd; clear hd
           by_cases hal : a < rd lens q.f0
           ·
            have z2 : decide (rd lens q.f0 ≤ a) = false := decide_eq_false z161_; have HAL := A_ hal; clear hal; go_wp2
            go_roundg k3
            case measure => have := HI.out; have := HJ.out; have := HM2.out; omega
            case rel => exact ⟨m + 1, (q.f0, a) :: sm, (by rw [wstep (by have := HLM.out; have := HPQ.out.2.1; omega)]), ST8, BQ8, ⟨by have := HLM.out; omega, by have := HM2.out; have := HLM.out; omega, by have := HM2.out; omega, by have := HM2.out; simp only [List.length_cons]; omega⟩, ⟨by have h := HP2.out; rw [plAts_good ⟨HD.out, HAL.out, HSM.out⟩] at h; exact h⟩⟩
           ·
            have z2 : decide (rd lens q.f0 ≤ a) = true := decide_eq_true z161_; have HAL := A_ hal; clear hal; go_wp2; go_ret; exact ⟨z242_, BEL8.out⟩
          ·
           have z1 : decide ((lens.length : Int) ≤ q.f0) = true := decide_eq_true z161_; have HD := A_ hd; clear hd; go_wp2; go_ret; exact ⟨z243_, BEL8.out⟩
        ·
         have c4b0 : decide ((m : Int) < (q.f1.length : Int)) = false := decide_eq_false z161_; have c4b1 : decide (m < q.f1.length) = false := decide_eq_false hlt; go_wp2
         go_roundg k2
         case measure => have := HI.out; have := HJ.out; have := HM2.out; omega
         case rel => exact ⟨j + 1, sm, (by rw [wstep (by have := HLJ.out; have := HPM.out.1; omega)]), ST, ⟨by have := HLJ.out; omega, by have := HJ.out; have := HLJ.out; omega, by have := HJ.out; omega, by have := HM2.out; have := HPQ.out.2.1; omega⟩, ⟨by have h := HP.out; rw [List.drop_eq_nil_of_le z161_] at h; exact h⟩⟩
      ·
       have c3b0 : decide ((j : Int) < (t.f1.length : Int)) = false := decide_eq_false z161_; have c3b1 : decide (j < t.f1.length) = false := decide_eq_false hlt; go_wp2
       go_roundg k1
       case measure => have := HI.out; have := HJ.out; omega
       case rel => exact ⟨i + 1, sn, (by rw [wstepB (by have := HLT.out; have := HT.out; omega)]), ST, ⟨by have := HLT.out; omega, z143_, by have := HI.out; omega, by have := HJ.out; have := HPM.out.1; omega⟩, ⟨by have h := HP.out; rw [List.drop_eq_nil_of_le z161_] at h; exact h⟩⟩
  ·
   have c2b0 : decide ((i : Int) < (terms.length : Int)) = false := decide_eq_false z161_; have c2b1 : decide (i < terms.length) = false := decide_eq_false hlt
   have hi : i = terms.length := by have := HI.out.1; omega
   have HPE := A_ (show plTerms lens terms [] = some seen from by have h := HP.out; rw [List.drop_eq_nil_of_le z161_] at h; exact h.symm); have HN := A_ (show (terms.take i).map (·.f0) = terms.map (·.f0) by rw [List.take_of_length_le z161_]); obtain ⟨NL, hNL⟩ : ∃ x, terms.map (·.f0) = x := ⟨_, rfl⟩; rw [HN.out, hNL] at ST; have HNL := A_ hNL; have HNLL := A_ (show NL.length = terms.length by rw [← hNL, List.length_map]); clear HP HN hi hlt hNL
   go_upto_region 22 with fail
   have g2 : wr.cell? ⟨S, 2, none⟩ = some (.slice A2 lens.length c2) := (blk_cell ST.out.box 2).trans z218_; go_wp2; clear g2
   go_loopg [11, 91] (lens.length + 1) (fun kq v11 v91 w' => ∃ (m : Nat), v11 = .int .i64 (sumP (lens.take m)) ∧ v91 = .int .i64 (m : Int) ∧ Aside0 (PlSt w S M cs seen u4 NL w') ∧ Aside0 (m ≤ lens.length ∧ lens.length - m < kq ∧ kq ≤ lens.length + 1))
   case atStart => exact ⟨0, rfl, rfl, ST, ⟨z161_, z161_, z161_⟩⟩
   case round =>
    clear ST; obtain ⟨m, rfl, rfl, ST, HM⟩ := hrel
    cases gk with
    | zero => exact absurd HM.out.2.1 z161_
    | succ k2 =>
    by_cases hlt : m < lens.length
    ·
     have c5b0 : decide ((m : Int) < (lens.length : Int)) = true := decide_eq_true z161_; have c5b1 : decide (m < lens.length) = true := decide_eq_true hlt; obtain ⟨ad3, e3, hx0⟩ := Kd.at_int HC2.out (m : Int) z161_ z161_; cases e3; rw [Int.toNat_natCast] at hx0; replace hx0 := pw_cell_below ST.out.bel hx0; have p1 : (0 : Int) ≤ (m : Int) := z161_; have p2 : (m : Int) < (lens.length : Int) := z161_; replace p1 := eq_true p1; replace p2 := eq_true p2; have HLM := A_ hlt; have HW := A_ (sum_step lens m HL.out HBL.out hlt); clear hlt; go_wp2
     go_roundg k2
     case measure => have := HI.out; have := HM.out; omega
     case rel => exact ⟨m + 1, (by rw [HW.out]), (by rw [wstep (by have := HLM.out; have := HL.out; omega)]), ST, ⟨by have := HLM.out; omega, by have := HM.out; have := HLM.out; omega, by have := HM.out; omega⟩⟩
    ·
     have c5b0 : decide ((m : Int) < (lens.length : Int)) = false := decide_eq_false z161_; have c5b1 : decide (m < lens.length) = false := decide_eq_false hlt; have HS := A_ (show lens.take m = lens by rw [List.take_of_length_le z161_]); clear hlt
     cases hdm : dictMayP NL with
     | false =>
      have HD := A_ (show f45.f (terms.length + 2) NL = some false from (dictMay_eq _ (by have := HT.out; have := HNLL.out; omega) _ (by have := HNLL.out; omega)).trans (by rw [hdm])); have HDM := A_ hdm; clear hdm; obtain ⟨Ao, co, eo⟩ := Kd.R_slice ST.out.row; subst eo
      go_wp2_with (first | (go_at_call 76; (refine (f45.calls (terms.length + 2) _ _ NL _ _ (Kd.R_reads' ST.out.row).2.2 (Kd.R_reads' ST.out.row).2.1 HD.out).mono ?_); rintro e_ w4 ⟨rfl, hd⟩; have hb := drawn_below hd; clear hd; have n0_ := A_ (ST.out.step hb); clear ST hb; have ST := n0_; clear n0_))
      go_ret; exact ⟨by rw [pl_end HPE.out, HNL.out, HDM.out]; rfl, ST.out.bel⟩
     | true =>
      have HD := A_ (show f45.f (terms.length + 2) NL = some true from (dictMay_eq _ (by have := HT.out; have := HNLL.out; omega) _ (by have := HNLL.out; omega)).trans (by rw [hdm])); have HDM := A_ hdm; clear hdm; obtain ⟨Ao, co, eo⟩ := Kd.R_slice ST.out.row; subst eo
      go_wp2_with (first | (go_at_call 76; (refine (f45.calls (terms.length + 2) _ _ NL _ _ (Kd.R_reads' ST.out.row).2.2 (Kd.R_reads' ST.out.row).2.1 HD.out).mono ?_); rintro e_ w4 ⟨rfl, hd⟩; have hb := drawn_below hd; clear hd; have n0_ := A_ (ST.out.step hb); have hlen := fun ty => mapAt_len n0_.out.map Tryz.underlying101 ty; clear ST hb; have ST := n0_; clear n0_))
      go_ret; exact ⟨by rw [pl_end HPE.out, HNL.out, HDM.out, HS.out]; simp only [Bool.true_and]; rfl, ST.out.bel⟩
def kvS (x : ByteArray) : Value := .string x
theorem kvS_inj {x y : ByteArray} (h : kvS x = kvS y) : x = y := by
 unfold kvS at h
 simpa using h
/-- The ids that were seen. -/
def IdsAt (w : World) (M : Nat) (s : List ByteArray) : Prop := MapAt kvS 9 w M s.length (fun x => if x ∈ s then 1 else 0) s.length
theorem ids_put {w : World} {M : Nat} {s : List ByteArray} {x : ByteArray} (h : IdsAt w M s) (hx : x.size ≤ maxLen) (hn : s.length < maxLen) {F : Int} (hF : (if x ∈ s then (1 : Int) else 0) = F) :
  (Instr.lookup 61 (.map (some M)) (.string x) false).run Tryz.prog w = .ok (.int .i64 F) w ∧ ∃ w2, (Instr.mapUpdate 61 (.map (some M)) (.string x) (.int .i64 (F + 1))).run Tryz.prog w = .ok () w2 ∧ (∀ w3, Below w2.heap.size w2 w3 → (Instr.lookup 61 (.map (some M)) (.string x) false).run Tryz.prog w3 = .ok (.int .i64 (F + 1)) w3) ∧ w.mapTurned w2 M ∧ (x ∉ s → IdsAt w2 M (x :: s)) := by
 obtain ⟨lk, hk⟩ := key9 hx; have hk' : keyOf Tryz.prog 9 (kvS x) = some lk := hk
 have hF1 : F = 0 ∨ F = 1 := by rw [← hF]; split <;> simp
 have wf : (Lit.int .i64 (F + 1)).wf = true := by
  have h := wrap64_wf (F + 1); rw [wid z161_ z161_] at h; exact h
 obtain ⟨w2, h1, h2, h3⟩ := mapAt_put h keyed9 Tryz.underlying61 hk' hn kvS_inj (c := F + 1) z161_ wf; have h0 := mapAt_look (w := w) h keyed9 Tryz.underlying61 hk'; rw [hF] at h0; refine ⟨h0, w2, h1, fun w3 hb => ?_, h3, fun hx2 => ?_⟩
 ·
  have h7 := mapAt_look (w := w3) (mapAt_below h2 hb) keyed9 Tryz.underlying61 hk'; rw [if_pos rfl] at h7; exact h7
 ·
  have hF0 : F = 0 := by rw [if_neg hx2] at hF; exact hF.symm
  subst hF0; rw [if_neg hx2, if_pos rfl] at h2; unfold IdsAt; rw [List.length_cons]
  have e : (fun y : ByteArray => if y ∈ x :: s then (1 : Int) else 0) = fun y => if y = x then 1 else if y ∈ s then 1 else 0 := by
   funext y
   by_cases h1 : y = x
   · simp [h1]
   · simp [h1]
  rw [e]; exact h2
/-- What a walk of May keeps. -/
structure MySt (w : World) (S M G : Nat) (cs : Array Value) (seen : List ByteArray) (pid : ByteArray) (pk : Int) (wr : World) : Prop where
 box : wr.heap[S]? = some (.cells cs 45 (0, 0))
 map : IdsAt wr M seen
 ah : wr.heap[G]? = some (.cells #[.string pid, .int .i64 pk, .slice none 0 0] 55 (0, 0))
 bel : Below w.heap.size w wr
 ge : w.heap.size ≤ S ∧ w.heap.size ≤ M ∧ w.heap.size ≤ G ∧ S ≠ M ∧ G ≠ M ∧ G ≠ S
theorem MySt.step {w wr w2 : World} {S M G : Nat} {cs : Array Value} {seen : List ByteArray} {pid : ByteArray} {pk : Int} (h : MySt w S M G cs seen pid pk wr) (hb : Below wr.heap.size wr w2) : MySt w S M G cs seen pid pk w2 :=
 ⟨blk_below h.box hb, mapAt_below h.map hb, blk_below h.ah hb, below_step h.bel hb, h.ge⟩
/-- .. behind a store into the map, but for the map. -/
structure MyTn (w : World) (S M G : Nat) (cs : Array Value) (pid : ByteArray) (pk : Int) (wr : World) : Prop where
 box : wr.heap[S]? = some (.cells cs 45 (0, 0))
 ah : wr.heap[G]? = some (.cells #[.string pid, .int .i64 pk, .slice none 0 0] 55 (0, 0))
 bel : Below w.heap.size w wr
 ge : w.heap.size ≤ S ∧ w.heap.size ≤ M ∧ w.heap.size ≤ G ∧ S ≠ M ∧ G ≠ M ∧ G ≠ S
theorem MySt.turn {w wr w2 : World} {S M G : Nat} {cs : Array Value} {seen : List ByteArray} {pid : ByteArray} {pk : Int} (h : MySt w S M G cs seen pid pk wr) (ht : wr.mapTurned w2 M) : MyTn w S M G cs pid pk w2 :=
 ⟨(ht.grown.block S (blk_lt h.box) (by simp only [ne_eq, Option.some.injEq]; exact h.ge.2.2.2.1)).trans h.box, (ht.grown.block G (blk_lt h.ah) (by simp only [ne_eq, Option.some.injEq]; exact h.ge.2.2.2.2.1)).trans h.ah, h.bel.grown ht.grown h.bel.size (fun k hk => by cases hk; exact h.ge.2.1), h.ge⟩
theorem MyTn.step {w wr w2 : World} {S M G : Nat} {cs : Array Value} {pid : ByteArray} {pk : Int} (h : MyTn w S M G cs pid pk wr) (hb : Below wr.heap.size wr w2) : MyTn w S M G cs pid pk w2 :=
 ⟨blk_below h.box hb, blk_below h.ah hb, below_step h.bel hb, h.ge⟩
theorem MyTn.set {w wr : World} {S M G : Nat} {cs : Array Value} {seen : List ByteArray} {pid : ByteArray} {pk : Int} (h : MyTn w S M G cs pid pk wr) (hm : IdsAt wr M seen) (id : ByteArray) (key : Int) :
  MySt w S M G cs seen id key (((wr.setCell ⟨G, 0, none⟩ (.string id)).setCell ⟨G, 1, none⟩ (.int .i64 key)).setCell ⟨G, 2, none⟩ (.slice none 0 0)) := by
 obtain ⟨g1, g2, g3, g4, g5, g6⟩ := h.ge; refine ⟨?_, ?_, ?_, below_set (below_set (below_set h.bel g3) g3) g3, h.ge⟩
 ·
  rw [Below.heap_setCell _ _ _ _ (fun e => g6 e.symm), Below.heap_setCell _ _ _ _ (fun e => g6 e.symm), Below.heap_setCell _ _ _ _ (fun e => g6 e.symm)]; exact h.box
 ·
  obtain ⟨D, m1, m2, m3⟩ := hm; exact ⟨D, ((m1.setCell (a := ⟨G, 0, none⟩) (fun e => g5 e.symm) _).setCell (a := ⟨G, 1, none⟩) (fun e => g5 e.symm) _).setCell (a := ⟨G, 2, none⟩) (fun e => g5 e.symm) _, m2, m3⟩
 · exact blk_set (blk_set (blk_set h.ah 0 _) 1 _) 2 _
theorem segmay_calls (A0 : Option Addr) (c0 : Nat) (ids : List ByteArray) (A1 : Option Addr) (c1 : Nat) (keys : List Int) (A2 : Option Addr) (c2 : Nat) (lens : List Int) (A3 : Option Addr) (c3 : Nat) (terms : List S71) (so : Bool) (w : World)
  (hC0 : Kd.C Kd.string w A0 ids.length ids) (hC1 : Kd.C (Kd.int .i64) w A1 keys.length keys) (hC2 : Kd.C (Kd.int .i64) w A2 lens.length lens) (hC3 : Kd.C k71 w A3 terms.length terms) (hid : ∀ x ∈ ids, x.size ≤ 9223372036854775807) (ht : terms.length ≤ 4398046511104) (hpl : ∀ t ∈ terms, t.f1.length ≤ 4398046511104) :
  Calls Tryz.prog 25 #[.agg #[.slice A0 ids.length c0, .slice A1 keys.length c1, .slice A2 lens.length c2, .slice A3 terms.length c3, .bool so]] w fun e w' => e = .returned (.bool (segMayP ids keys lens terms so)) ∧ Below w.heap.size w w' := by
 have hu26 := Tryz.underlying45; have hu52 := Tryz.underlying55; have hu50 := Tryz.underlying61; have HC0 := A_ hC0; have HC1 := A_ hC1; have HC2 := A_ hC2; have HC3 := A_ hC3; have HID := A_ hid; have HT := A_ ht; have HPL := A_ hpl; clear hC0 hC1 hC2 hC3 hid ht hpl; have hmm := @run_makeMap Tryz.prog; go_enter Tryz.func25, Tryz.ntmps25
 go_upto_region 1 with fail
 generalize hcs : #[Value.slice A0 ids.length c0, .slice A1 keys.length c1, .slice A2 lens.length c2, .slice A3 terms.length c3, .bool so] = cs; have b0 := A_ (blk_new w (.cells cs 45)); have bb := A_ (below_alloc (Below.refl w.heap.size w) (.cells cs 45)); have SG := A_ (Nat.le_refl w.heap.size); generalize (w.alloc (.cells cs 45)) = wb at *; have KCS := A_ hcs; have d0 : wb.cell? ⟨w.heap.size, 0, none⟩ = some (.slice A0 ids.length c0) := (blk_cell b0.out 0).trans (by rw [← hcs]; rfl); have d1 : wb.cell? ⟨w.heap.size, 1, none⟩ = some (.slice A1 keys.length c1) := (blk_cell b0.out 1).trans (by rw [← hcs]; rfl); have d2 : wb.cell? ⟨w.heap.size, 2, none⟩ = some (.slice A2 lens.length c2) := (blk_cell b0.out 2).trans (by rw [← hcs]; rfl); clear hcs
 by_cases h1 : ids.length ≤ 64
 ·
  have z1 : decide ((64 : Int) < (ids.length : Int)) = false := decide_eq_false z161_; have y1 : decide (64 < ids.length) = false := decide_eq_false z161_; have H1 := A_ h1; clear h1
  by_cases h2 : keys.length = ids.length
  ·
   have z2 : ((keys.length : Int) != (ids.length : Int)) = false := bne_eq_false_iff_eq.2 z161_; have H2 := A_ h2; clear h2
   by_cases h3 : lens.length = ids.length
   ·
    have z3 : ((lens.length : Int) != (ids.length : Int)) = false := bne_eq_false_iff_eq.2 z161_; have H3 := A_ h3; clear h3
    go_upto_region 6 with fail
    have hst : MySt w w.heap.size wb.heap.size (wb.heap.size + 1) cs [] ⟨#[]⟩ 0 ((wb.alloc (.map #[] 0)).alloc (.cells #[.string ⟨#[]⟩, .int .i64 0, .slice none 0 0] 55)) := by
     have h1 := blk_lt b0.out; have e1 : (wb.alloc (.map #[] 0)).heap.size = wb.heap.size + 1 := Array.size_push ..; refine ⟨blk_below (blk_below b0.out (below_alloc (Below.refl _ _) _)) (below_alloc (Below.refl _ _) _), mapAt_below (mapAt_made kvS wb) (below_alloc (Below.refl _ _) _), ?_, below_alloc (below_alloc bb.out _) _, Nat.le_refl _, z161_, z161_, z161_, z161_, z161_⟩; have h := blk_new (wb.alloc (.map #[] 0)) (.cells #[.string ⟨#[]⟩, .int .i64 0, .slice none 0 0] 55); rw [e1] at h; exact h
    have ST := A_ hst; clear hst b0 bb SG d0 d1 d2 hmm; generalize ((wb.alloc (.map #[] 0)).alloc (.cells #[.string ⟨#[]⟩, .int .i64 0, .slice none 0 0] 55)) = w1 at *; generalize wb.heap.size + 1 = G at *; generalize wb.heap.size = M at *; obtain ⟨S, hS⟩ : ∃ S, S = w.heap.size := ⟨_, rfl⟩; have ST1 := A_ (show MySt w S M G cs [] ⟨#[]⟩ 0 w1 from by rw [hS]; exact ST.out); rw [← hS]; clear ST hS; have ST := ST1; clear ST1 z1 y1 z2 z3; have d0 : w1.cell? ⟨S, 0, none⟩ = some (.slice A0 ids.length c0) := (blk_cell ST.out.box 0).trans z218_; go_wp2; clear d0
    go_loopg [33] (ids.length + 1) (fun kq v33 w' => ∃ (i : Nat) (seen : List ByteArray) (pid : ByteArray) (pk : Int), v33 = .int .i64 (i : Int) ∧ Aside0 (MySt w S M G cs seen pid pk w') ∧ Aside0 (i ≤ ids.length ∧ ids.length - i < kq ∧ kq ≤ ids.length + 1 ∧ seen.length = i) ∧ Aside0 (mayGo keys lens so (ids.drop i) i seen pid pk = mayGo keys lens so ids 0 [] ⟨#[]⟩ 0))
    case atStart => exact ⟨0, [], ⟨#[]⟩, 0, rfl, ST, ⟨z161_, z161_, z161_, rfl⟩, ⟨rfl⟩⟩
    case round =>
     clear ST; obtain ⟨i, seen, pid, pk, rfl, ST, HI, HP⟩ := hrel
     cases gk with
     | zero => exact absurd HI.out.2.1 z161_
     | succ k1 =>
     by_cases hlt : i < ids.length
     ·
      have c2b0 : decide ((i : Int) < (ids.length : Int)) = true := decide_eq_true z161_; have c2b1 : decide (i < ids.length) = true := decide_eq_true hlt; obtain ⟨id, hid⟩ : ∃ id, id = rdOf ByteArray.empty ids (i : Int) := ⟨_, rfl⟩; obtain ⟨ad0, e0, hx0⟩ := Kd.at_string HC0.out (i : Int) z161_ z161_; rw [← hid] at hx0; cases e0; obtain ⟨key, hkey⟩ : ∃ key, key = rd keys (i : Int) := ⟨_, rfl⟩; obtain ⟨ad1, e1, hx1⟩ := Kd.at_int HC1.out (i : Int) z161_ (by have := H2.out; omega); rw [← hkey] at hx1; cases e1; obtain ⟨ln, hln⟩ : ∃ ln, ln = rd lens (i : Int) := ⟨_, rfl⟩; obtain ⟨ad2, e2, hx2⟩ := Kd.at_int HC2.out (i : Int) z161_ (by have := H3.out; omega); rw [← hln] at hx2; cases e2; rw [Int.toNat_natCast] at hx0 hx1 hx2; replace hx0 := pw_cell_below ST.out.bel hx0; replace hx1 := pw_cell_below ST.out.bel hx1; have HX2 := A_ hx2; replace hx2 := pw_cell_below ST.out.bel hx2; have p1 : (0 : Int) ≤ (i : Int) := z161_; have p2 : (i : Int) < (ids.length : Int) := z161_
      have p3 : (i : Int) < (keys.length : Int) := by have := H2.out; omega
      have p4 : (i : Int) < (lens.length : Int) := by have := H3.out; omega
      replace p1 := eq_true p1; replace p2 := eq_true p2; replace p3 := eq_true p3; replace p4 := eq_true p4; have HSZ := A_ (HID.out id (by rw [hid]; exact rdOf_mem ids i hlt)); have HLT := A_ hlt; have hP := HP.out; rw [dropS ids i hlt, ← hid] at hP; have HP2 := A_ hP; have HKEY := A_ hkey; have HLN := A_ hln; have d1 : wr.cell? ⟨S, 1, none⟩ = some (.slice (some ad1) keys.length c1) := (blk_cell ST.out.box 1).trans z218_; clear hid hlt hP HP hkey hln
      go_upto_region 10 with fail
      have hb := below_alloc (Below.refl wr.heap.size wr) (.cells #[.string id, .int .i64 key, .slice none 0 0] 55); have BC := A_ (blk_new wr (.cells #[.string id, .int .i64 key, .slice none 0 0] 55)); have HCM := A_ (show wr.heap.size ≠ M from by have := mapAt_lt ST.out.map; omega); have n0_ := A_ (ST.out.step hb); replace hx2 := pw_cell_below hb hx2; clear ST hb hx0 hx1 d1; have ST := n0_; clear n0_; generalize (wr.alloc (.cells #[.string id, .int .i64 key, .slice none 0 0] 55)) = w2 at *; generalize wr.heap.size = C at *
      have hszm : id.size ≤ maxLen := by have := HSZ.out; unfold maxLen; omega
      have hnm : seen.length < maxLen := by have := HI.out; have := H1.out; have := HLT.out; unfold maxLen; omega
      by_cases hsm : id ∈ seen
      ·
       obtain ⟨hl0, w3, hup, hlk, ht3, _⟩ := ids_put (F := 1) ST.out.map hszm hnm (if_pos hsm); have HSM := A_ hsm; clear hsm hszm hnm; replace hup : (Instr.mapUpdate 61 (.map (some M)) (.string id) (.int .i64 2)).run Tryz.prog w2 = .ok () w3 := hup; have TN := A_ (ST.out.turn ht3); have BC3 := A_ ((ht3.grown.block C (blk_lt BC.out) (fun e => HCM.out (by injection e))).trans BC.out); have HLK := A_ hlk; have CX := A_ (pw_cell_below (ST.out.turn ht3).bel HX2.out); clear BC ST hlk hx2
       go_upto_region 11 with fail
       clear hl0 hup ht3; have c0_ : w3.cell? ⟨C, 0, none⟩ = some (.string id) := (blk_cell BC3.out 0).trans rfl; have c1_ : w3.cell? ⟨C, 1, none⟩ = some (.int .i64 key) := (blk_cell BC3.out 1).trans rfl; have c2_ : w3.cell? ⟨C, 2, none⟩ = some (.slice none 0 0) := (blk_cell BC3.out 2).trans rfl
       cases hco : cardOk id key with
       | false =>
        have HCO := A_ (show f60.f 1 id key [] = some false from (segmay_eq id key 1 (Nat.le_refl _)).trans (congrArg some hco)); have HC := A_ hco; clear hco
        go_wp2_with (first | (go_at_call 43; (refine (f60.calls 1 id key none 0 [] false _ (Kd.C_nil _ _) (Nat.le_refl _) HCO.out).mono ?_); rintro e_ w4 ⟨rfl, hb⟩; have hlu := HLK.out w4 hb; have n0_ := A_ (TN.out.step hb); have n1_ := A_ (blk_below BC3.out hb); have n2_ := A_ (pw_cell_below hb CX.out); replace c0_ := pw_cell_below hb c0_; replace c1_ := pw_cell_below hb c1_; replace c2_ := pw_cell_below hb c2_; clear hb TN BC3 CX; have TN := n0_; have BC3 := n1_; have CX := n2_; clear n0_ n1_ n2_; have d2 : w4.cell? ⟨S, 2, none⟩ = some (.slice (some ad2) lens.length c2) := (blk_cell TN.out.box 2).trans z218_; have d4 : w4.cell? ⟨S, 4, none⟩ = some (.bool so) := (blk_cell TN.out.box 4).trans z218_; have hx2 := CX.out; have g0_ : w4.cell? ⟨G, 0, none⟩ = some (.string pid) := (blk_cell TN.out.ah 0).trans rfl; have g1_ : w4.cell? ⟨G, 1, none⟩ = some (.int .i64 pk) := (blk_cell TN.out.ah 1).trans rfl; have g2_ : w4.cell? ⟨G, 2, none⟩ = some (.slice none 0 0) := (blk_cell TN.out.ah 2).trans rfl))
        go_ret; exact ⟨z241_, TN.out.bel⟩
       | true =>
        have HCO := A_ (show f60.f 1 id key [] = some true from (segmay_eq id key 1 (Nat.le_refl _)).trans (congrArg some hco)); have HC := A_ hco; clear hco
        go_wp2_with (first | (go_at_call 43; (refine (f60.calls 1 id key none 0 [] true _ (Kd.C_nil _ _) (Nat.le_refl _) HCO.out).mono ?_); rintro e_ w4 ⟨rfl, hb⟩; have hlu := HLK.out w4 hb; have n0_ := A_ (TN.out.step hb); have n1_ := A_ (blk_below BC3.out hb); have n2_ := A_ (pw_cell_below hb CX.out); replace c0_ := pw_cell_below hb c0_; replace c1_ := pw_cell_below hb c1_; replace c2_ := pw_cell_below hb c2_; clear hb TN BC3 CX; have TN := n0_; have BC3 := n1_; have CX := n2_; clear n0_ n1_ n2_; have d2 : w4.cell? ⟨S, 2, none⟩ = some (.slice (some ad2) lens.length c2) := (blk_cell TN.out.box 2).trans z218_; have d4 : w4.cell? ⟨S, 4, none⟩ = some (.bool so) := (blk_cell TN.out.box 4).trans z218_; have hx2 := CX.out; have g0_ : w4.cell? ⟨G, 0, none⟩ = some (.string pid) := (blk_cell TN.out.ah 0).trans rfl; have g1_ : w4.cell? ⟨G, 1, none⟩ = some (.int .i64 pk) := (blk_cell TN.out.ah 1).trans rfl; have g2_ : w4.cell? ⟨G, 2, none⟩ = some (.slice none 0 0) := (blk_cell TN.out.ah 2).trans rfl))
        go_ret; exact ⟨by rw [may_bad4 (HP2.out.symm.trans (mayGo_bad (fun h => by exact h.2.1 HSM.out)))]; rfl, TN.out.bel⟩
      ·
       obtain ⟨hl0, w3, hup, hlk, ht3, hids⟩ := ids_put (F := 0) ST.out.map hszm hnm (if_neg hsm); have HSM := A_ hsm; clear hsm hszm hnm; replace hup : (Instr.mapUpdate 61 (.map (some M)) (.string id) (.int .i64 1)).run Tryz.prog w2 = .ok () w3 := hup; have TN := A_ (ST.out.turn ht3); have BC3 := A_ ((ht3.grown.block C (blk_lt BC.out) (fun e => HCM.out (by injection e))).trans BC.out); have HLK := A_ hlk; have CX := A_ (pw_cell_below (ST.out.turn ht3).bel HX2.out); have IDS := A_ (hids HSM.out); clear BC ST hlk hx2 hids
       go_upto_region 11 with fail
       clear hl0 hup ht3; have c0_ : w3.cell? ⟨C, 0, none⟩ = some (.string id) := (blk_cell BC3.out 0).trans rfl; have c1_ : w3.cell? ⟨C, 1, none⟩ = some (.int .i64 key) := (blk_cell BC3.out 1).trans rfl; have c2_ : w3.cell? ⟨C, 2, none⟩ = some (.slice none 0 0) := (blk_cell BC3.out 2).trans rfl
       cases hco : cardOk id key with
       | false =>
        have HCO := A_ (show f60.f 1 id key [] = some false from (segmay_eq id key 1 (Nat.le_refl _)).trans (congrArg some hco)); have HC := A_ hco; clear hco
        go_wp2_with (first | (go_at_call 43; (refine (f60.calls 1 id key none 0 [] false _ (Kd.C_nil _ _) (Nat.le_refl _) HCO.out).mono ?_); rintro e_ w4 ⟨rfl, hb⟩; have hlu := HLK.out w4 hb; have n0_ := A_ (TN.out.step hb); have n1_ := A_ (blk_below BC3.out hb); have n2_ := A_ (pw_cell_below hb CX.out); have n3_ := A_ (show IdsAt w4 M (id :: seen) from mapAt_below IDS.out hb); replace c0_ := pw_cell_below hb c0_; replace c1_ := pw_cell_below hb c1_; replace c2_ := pw_cell_below hb c2_; clear hb TN BC3 CX IDS; have TN := n0_; have BC3 := n1_; have CX := n2_; have IDS := n3_; clear n0_ n1_ n2_ n3_; have d2 : w4.cell? ⟨S, 2, none⟩ = some (.slice (some ad2) lens.length c2) := (blk_cell TN.out.box 2).trans z218_; have d4 : w4.cell? ⟨S, 4, none⟩ = some (.bool so) := (blk_cell TN.out.box 4).trans z218_; have hx2 := CX.out; have g0_ : w4.cell? ⟨G, 0, none⟩ = some (.string pid) := (blk_cell TN.out.ah 0).trans rfl; have g1_ : w4.cell? ⟨G, 1, none⟩ = some (.int .i64 pk) := (blk_cell TN.out.ah 1).trans rfl; have g2_ : w4.cell? ⟨G, 2, none⟩ = some (.slice none 0 0) := (blk_cell TN.out.ah 2).trans rfl))
        go_ret; exact ⟨z241_, TN.out.bel⟩
       | true =>
        have HCO := A_ (show f60.f 1 id key [] = some true from (segmay_eq id key 1 (Nat.le_refl _)).trans (congrArg some hco)); have HC := A_ hco; clear hco
        by_cases hl1 : ln < 0
        ·
         have z1 : decide (ln < 0) = true := decide_eq_true hl1; have HL1 := A_ hl1; clear hl1
         go_wp2_with (first | (go_at_call 43; (refine (f60.calls 1 id key none 0 [] true _ (Kd.C_nil _ _) (Nat.le_refl _) HCO.out).mono ?_); rintro e_ w4 ⟨rfl, hb⟩; have hlu := HLK.out w4 hb; have n0_ := A_ (TN.out.step hb); have n1_ := A_ (blk_below BC3.out hb); have n2_ := A_ (pw_cell_below hb CX.out); have n3_ := A_ (show IdsAt w4 M (id :: seen) from mapAt_below IDS.out hb); replace c0_ := pw_cell_below hb c0_; replace c1_ := pw_cell_below hb c1_; replace c2_ := pw_cell_below hb c2_; clear hb TN BC3 CX IDS; have TN := n0_; have BC3 := n1_; have CX := n2_; have IDS := n3_; clear n0_ n1_ n2_ n3_; have d2 : w4.cell? ⟨S, 2, none⟩ = some (.slice (some ad2) lens.length c2) := (blk_cell TN.out.box 2).trans z218_; have d4 : w4.cell? ⟨S, 4, none⟩ = some (.bool so) := (blk_cell TN.out.box 4).trans z218_; have hx2 := CX.out; have g0_ : w4.cell? ⟨G, 0, none⟩ = some (.string pid) := (blk_cell TN.out.ah 0).trans rfl; have g1_ : w4.cell? ⟨G, 1, none⟩ = some (.int .i64 pk) := (blk_cell TN.out.ah 1).trans rfl; have g2_ : w4.cell? ⟨G, 2, none⟩ = some (.slice none 0 0) := (blk_cell TN.out.ah 2).trans rfl))
         go_ret; exact ⟨by rw [may_bad4 (HP2.out.symm.trans (mayGo_bad (fun h => by have := h.2.2.1; rw [← HLN.out] at this; have := HL1.out; omega)))]; rfl, TN.out.bel⟩
        ·
         have z1 : decide (ln < 0) = false := decide_eq_false hl1
         by_cases hl2 : 120 < ln
         ·
          have z2 : decide (120 < ln) = true := decide_eq_true hl2; have HL1 := A_ hl2; clear hl1 hl2
          go_wp2_with (first | (go_at_call 43; (refine (f60.calls 1 id key none 0 [] true _ (Kd.C_nil _ _) (Nat.le_refl _) HCO.out).mono ?_); rintro e_ w4 ⟨rfl, hb⟩; have hlu := HLK.out w4 hb; have n0_ := A_ (TN.out.step hb); have n1_ := A_ (blk_below BC3.out hb); have n2_ := A_ (pw_cell_below hb CX.out); have n3_ := A_ (show IdsAt w4 M (id :: seen) from mapAt_below IDS.out hb); replace c0_ := pw_cell_below hb c0_; replace c1_ := pw_cell_below hb c1_; replace c2_ := pw_cell_below hb c2_; clear hb TN BC3 CX IDS; have TN := n0_; have BC3 := n1_; have CX := n2_; have IDS := n3_; clear n0_ n1_ n2_ n3_; have d2 : w4.cell? ⟨S, 2, none⟩ = some (.slice (some ad2) lens.length c2) := (blk_cell TN.out.box 2).trans z218_; have d4 : w4.cell? ⟨S, 4, none⟩ = some (.bool so) := (blk_cell TN.out.box 4).trans z218_; have hx2 := CX.out; have g0_ : w4.cell? ⟨G, 0, none⟩ = some (.string pid) := (blk_cell TN.out.ah 0).trans rfl; have g1_ : w4.cell? ⟨G, 1, none⟩ = some (.int .i64 pk) := (blk_cell TN.out.ah 1).trans rfl; have g2_ : w4.cell? ⟨G, 2, none⟩ = some (.slice none 0 0) := (blk_cell TN.out.ah 2).trans rfl))
          go_ret; exact ⟨by rw [may_bad4 (HP2.out.symm.trans (mayGo_bad (fun h => by have := h.2.2.2.1; rw [← HLN.out] at this; have := HL1.out; omega)))]; rfl, TN.out.bel⟩
         ·
          have z2 : decide (120 < ln) = false := decide_eq_false hl2; have HL1 := A_ (show 0 ≤ ln ∧ ln ≤ 120 from z161_); clear hl1 hl2
          cases hso : so with
          | false =>
           subst hso
           go_upto_region 13 with (first | (go_at_call 43; (refine (f60.calls 1 id key none 0 [] true _ (Kd.C_nil _ _) (Nat.le_refl _) HCO.out).mono ?_); rintro e_ w4 ⟨rfl, hb⟩; have hlu := HLK.out w4 hb; have n0_ := A_ (TN.out.step hb); have n1_ := A_ (blk_below BC3.out hb); have n2_ := A_ (pw_cell_below hb CX.out); have n3_ := A_ (show IdsAt w4 M (id :: seen) from mapAt_below IDS.out hb); replace c0_ := pw_cell_below hb c0_; replace c1_ := pw_cell_below hb c1_; replace c2_ := pw_cell_below hb c2_; clear hb TN BC3 CX IDS; have TN := n0_; have BC3 := n1_; have CX := n2_; have IDS := n3_; clear n0_ n1_ n2_ n3_; have d2 : w4.cell? ⟨S, 2, none⟩ = some (.slice (some ad2) lens.length c2) := (blk_cell TN.out.box 2).trans z218_; have d4 : w4.cell? ⟨S, 4, none⟩ = some (.bool false) := (blk_cell TN.out.box 4).trans z218_; have hx2 := CX.out; have g0_ : w4.cell? ⟨G, 0, none⟩ = some (.string pid) := (blk_cell TN.out.ah 0).trans rfl; have g1_ : w4.cell? ⟨G, 1, none⟩ = some (.int .i64 pk) := (blk_cell TN.out.ah 1).trans rfl; have g2_ : w4.cell? ⟨G, 2, none⟩ = some (.slice none 0 0) := (blk_cell TN.out.ah 2).trans rfl))
           have f0_ := blk_frozen TN.out.ah 0; have f1_ := blk_frozen TN.out.ah 1; have f2_ := blk_frozen TN.out.ah 2; go_wp2; have n0_ := A_ (TN.out.set IDS.out id key)
           go_roundg k1
           case measure => have := HI.out; omega
           case rel => exact ⟨i + 1, id :: seen, id, key, (by rw [wstep z150_]), n0_, ⟨by have := HLT.out; omega, z143_, by have := HI.out; omega, z144_⟩, ⟨by have h := HP2.out; rw [mayGo_good ⟨by rw [← HKEY.out]; exact HC.out, HSM.out, by rw [← HLN.out]; exact HL1.out.1, by rw [← HLN.out]; exact HL1.out.2, by rw [← HKEY.out]; rfl⟩, ← HKEY.out] at h; exact h⟩⟩
          | true =>
           subst hso
           by_cases hi0 : 0 < i
           ·
            have z3 : decide ((0 : Int) < (i : Int)) = true := decide_eq_true z161_; have z4 : decide (0 < i) = true := decide_eq_true hi0; have HI0 := A_ z4; clear hi0
            cases hbf : beforeP pid pk id key with
            | false =>
             have HBF := A_ (show f90.f 4 pid pk [] id key [] = some false from (before_eq _ _ _ _ _ _ 4 (Nat.le_refl _)).trans (congrArg some hbf)); have HB_ := A_ hbf; clear hbf
             go_wp2_with (first | (go_at_call 43; (refine (f60.calls 1 id key none 0 [] true _ (Kd.C_nil _ _) (Nat.le_refl _) HCO.out).mono ?_); rintro e_ w4 ⟨rfl, hb⟩; have hlu := HLK.out w4 hb; have n0_ := A_ (TN.out.step hb); have n1_ := A_ (blk_below BC3.out hb); have n2_ := A_ (pw_cell_below hb CX.out); have n3_ := A_ (show IdsAt w4 M (id :: seen) from mapAt_below IDS.out hb); replace c0_ := pw_cell_below hb c0_; replace c1_ := pw_cell_below hb c1_; replace c2_ := pw_cell_below hb c2_; clear hb TN BC3 CX IDS; have TN := n0_; have BC3 := n1_; have CX := n2_; have IDS := n3_; clear n0_ n1_ n2_ n3_; have d2 : w4.cell? ⟨S, 2, none⟩ = some (.slice (some ad2) lens.length c2) := (blk_cell TN.out.box 2).trans z218_; have d4 : w4.cell? ⟨S, 4, none⟩ = some (.bool true) := (blk_cell TN.out.box 4).trans z218_; have hx2 := CX.out; have g0_ : w4.cell? ⟨G, 0, none⟩ = some (.string pid) := (blk_cell TN.out.ah 0).trans rfl; have g1_ : w4.cell? ⟨G, 1, none⟩ = some (.int .i64 pk) := (blk_cell TN.out.ah 1).trans rfl; have g2_ : w4.cell? ⟨G, 2, none⟩ = some (.slice none 0 0) := (blk_cell TN.out.ah 2).trans rfl) | (go_at_call 44; (refine (f90.calls 4 pid pk none 0 [] id key none 0 [] false _ (Kd.C_nil _ _) (Nat.le_refl _) (Kd.C_nil _ _) (Nat.le_refl _) HBF.out).mono ?_); rintro e_ w5 ⟨rfl, hb⟩; have n0_ := A_ (TN.out.step hb); have n1_ := A_ (blk_below BC3.out hb); have n2_ := A_ (pw_cell_below hb CX.out); have n3_ := A_ (show IdsAt w5 M (id :: seen) from mapAt_below IDS.out hb); replace c0_ := pw_cell_below hb c0_; replace c1_ := pw_cell_below hb c1_; replace c2_ := pw_cell_below hb c2_; replace g0_ := pw_cell_below hb g0_; replace g1_ := pw_cell_below hb g1_; replace g2_ := pw_cell_below hb g2_; clear hb TN BC3 CX IDS; have TN := n0_; have BC3 := n1_; have CX := n2_; have IDS := n3_; clear n0_ n1_ n2_ n3_))
             go_ret; exact ⟨by rw [may_bad4 (HP2.out.symm.trans (mayGo_bad (fun h => by have := h.2.2.2.2; rw [← HKEY.out, HB_.out, HI0.out] at this; cases this)))]; rfl, TN.out.bel⟩
            | true =>
             have HBF := A_ (show f90.f 4 pid pk [] id key [] = some true from (before_eq _ _ _ _ _ _ 4 (Nat.le_refl _)).trans (congrArg some hbf)); have HB_ := A_ hbf; clear hbf
             go_upto_region 13 with (first | (go_at_call 43; (refine (f60.calls 1 id key none 0 [] true _ (Kd.C_nil _ _) (Nat.le_refl _) HCO.out).mono ?_); rintro e_ w4 ⟨rfl, hb⟩; have hlu := HLK.out w4 hb; have n0_ := A_ (TN.out.step hb); have n1_ := A_ (blk_below BC3.out hb); have n2_ := A_ (pw_cell_below hb CX.out); have n3_ := A_ (show IdsAt w4 M (id :: seen) from mapAt_below IDS.out hb); replace c0_ := pw_cell_below hb c0_; replace c1_ := pw_cell_below hb c1_; replace c2_ := pw_cell_below hb c2_; clear hb TN BC3 CX IDS; have TN := n0_; have BC3 := n1_; have CX := n2_; have IDS := n3_; clear n0_ n1_ n2_ n3_; have d2 : w4.cell? ⟨S, 2, none⟩ = some (.slice (some ad2) lens.length c2) := (blk_cell TN.out.box 2).trans z218_; have d4 : w4.cell? ⟨S, 4, none⟩ = some (.bool true) := (blk_cell TN.out.box 4).trans z218_; have hx2 := CX.out; have g0_ : w4.cell? ⟨G, 0, none⟩ = some (.string pid) := (blk_cell TN.out.ah 0).trans rfl; have g1_ : w4.cell? ⟨G, 1, none⟩ = some (.int .i64 pk) := (blk_cell TN.out.ah 1).trans rfl; have g2_ : w4.cell? ⟨G, 2, none⟩ = some (.slice none 0 0) := (blk_cell TN.out.ah 2).trans rfl) | (go_at_call 44; (refine (f90.calls 4 pid pk none 0 [] id key none 0 [] true _ (Kd.C_nil _ _) (Nat.le_refl _) (Kd.C_nil _ _) (Nat.le_refl _) HBF.out).mono ?_); rintro e_ w5 ⟨rfl, hb⟩; have n0_ := A_ (TN.out.step hb); have n1_ := A_ (blk_below BC3.out hb); have n2_ := A_ (pw_cell_below hb CX.out); have n3_ := A_ (show IdsAt w5 M (id :: seen) from mapAt_below IDS.out hb); replace c0_ := pw_cell_below hb c0_; replace c1_ := pw_cell_below hb c1_; replace c2_ := pw_cell_below hb c2_; replace g0_ := pw_cell_below hb g0_; replace g1_ := pw_cell_below hb g1_; replace g2_ := pw_cell_below hb g2_; clear hb TN BC3 CX IDS; have TN := n0_; have BC3 := n1_; have CX := n2_; have IDS := n3_; clear n0_ n1_ n2_ n3_))
             have f0_ := blk_frozen TN.out.ah 0; have f1_ := blk_frozen TN.out.ah 1; have f2_ := blk_frozen TN.out.ah 2; go_wp2; have n0_ := A_ (TN.out.set IDS.out id key)
             go_roundg k1
             case measure => have := HI.out; omega
             case rel => exact ⟨i + 1, id :: seen, id, key, (by rw [wstep z150_]), n0_, ⟨by have := HLT.out; omega, z143_, by have := HI.out; omega, z144_⟩, ⟨by have h := HP2.out; rw [mayGo_good ⟨by rw [← HKEY.out]; exact HC.out, HSM.out, by rw [← HLN.out]; exact HL1.out.1, by rw [← HLN.out]; exact HL1.out.2, by rw [← HKEY.out]; rw [HB_.out]; cases decide (0 < i) <;> rfl⟩, ← HKEY.out] at h; exact h⟩⟩
           ·
            have z3 : decide ((0 : Int) < (i : Int)) = false := decide_eq_false z161_; have z4 : decide (0 < i) = false := decide_eq_false hi0; have HI0 := A_ z4; clear hi0
            go_upto_region 13 with (first | (go_at_call 43; (refine (f60.calls 1 id key none 0 [] true _ (Kd.C_nil _ _) (Nat.le_refl _) HCO.out).mono ?_); rintro e_ w4 ⟨rfl, hb⟩; have hlu := HLK.out w4 hb; have n0_ := A_ (TN.out.step hb); have n1_ := A_ (blk_below BC3.out hb); have n2_ := A_ (pw_cell_below hb CX.out); have n3_ := A_ (show IdsAt w4 M (id :: seen) from mapAt_below IDS.out hb); replace c0_ := pw_cell_below hb c0_; replace c1_ := pw_cell_below hb c1_; replace c2_ := pw_cell_below hb c2_; clear hb TN BC3 CX IDS; have TN := n0_; have BC3 := n1_; have CX := n2_; have IDS := n3_; clear n0_ n1_ n2_ n3_; have d2 : w4.cell? ⟨S, 2, none⟩ = some (.slice (some ad2) lens.length c2) := (blk_cell TN.out.box 2).trans z218_; have d4 : w4.cell? ⟨S, 4, none⟩ = some (.bool true) := (blk_cell TN.out.box 4).trans z218_; have hx2 := CX.out; have g0_ : w4.cell? ⟨G, 0, none⟩ = some (.string pid) := (blk_cell TN.out.ah 0).trans rfl; have g1_ : w4.cell? ⟨G, 1, none⟩ = some (.int .i64 pk) := (blk_cell TN.out.ah 1).trans rfl; have g2_ : w4.cell? ⟨G, 2, none⟩ = some (.slice none 0 0) := (blk_cell TN.out.ah 2).trans rfl))
            have f0_ := blk_frozen TN.out.ah 0; have f1_ := blk_frozen TN.out.ah 1; have f2_ := blk_frozen TN.out.ah 2; go_wp2; have n0_ := A_ (TN.out.set IDS.out id key)
            go_roundg k1
            case measure => have := HI.out; omega
            case rel => exact ⟨i + 1, id :: seen, id, key, (by rw [wstep z150_]), n0_, ⟨by have := HLT.out; omega, z143_, by have := HI.out; omega, z144_⟩, ⟨by have h := HP2.out; rw [mayGo_good ⟨by rw [← HKEY.out]; exact HC.out, HSM.out, by rw [← HLN.out]; exact HL1.out.1, by rw [← HLN.out]; exact HL1.out.2, by rw [← HKEY.out]; rw [HI0.out]; rfl⟩, ← HKEY.out] at h; exact h⟩⟩
     ·
      have c2b0 : decide ((i : Int) < (ids.length : Int)) = false := decide_eq_false z161_; have c2b1 : decide (i < ids.length) = false := decide_eq_false hlt
      have hall : mayGo keys lens so ids 0 [] ⟨#[]⟩ 0 = true := by have h := HP.out; rw [List.drop_eq_nil_of_le z161_] at h; exact h.symm
      have HALL := A_ hall; have HBL := A_ (mayGo_all hall H3.out); have HL64 := A_ (show lens.length ≤ 64 by have := H1.out; have := H3.out; omega); clear hlt hall HP
      go_upto_region 15 with fail
      have d0 : wr.cell? ⟨S, 0, none⟩ = some (.slice A0 ids.length c0) := (blk_cell ST.out.box 0).trans z218_; have d1 : wr.cell? ⟨S, 1, none⟩ = some (.slice A1 keys.length c1) := (blk_cell ST.out.box 1).trans z218_; have d2 : wr.cell? ⟨S, 2, none⟩ = some (.slice A2 lens.length c2) := (blk_cell ST.out.box 2).trans z218_; have d3 : wr.cell? ⟨S, 3, none⟩ = some (.slice A3 terms.length c3) := (blk_cell ST.out.box 3).trans z218_; have d4 : wr.cell? ⟨S, 4, none⟩ = some (.bool so) := (blk_cell ST.out.box 4).trans z218_
      go_wp2_with (first | (go_at_call 45; (refine (placed_calls A0 c0 ids A1 c1 keys A2 c2 lens A3 c3 terms so _ (Kd.C_below HC2.out ST.out.bel) (Kd.C_below HC3.out ST.out.bel) HL64.out HBL.out HT.out HPL.out).mono ?_); rintro e_ w4 ⟨rfl, hb⟩; have n0_ := A_ (ST.out.step hb); clear ST hb; have ST := n0_; clear n0_))
      go_ret; exact ⟨by rw [may_good H1.out H2.out H3.out HALL.out]; rfl, ST.out.bel⟩
   ·
    have z3 : ((lens.length : Int) != (ids.length : Int)) = true := bne_iff_ne.2 z161_; have H3 := A_ h3; clear h3; go_wp2; go_ret; exact ⟨by rw [may_bad3 H3.out]; rfl, bb.out⟩
  ·
   have z2 : ((keys.length : Int) != (ids.length : Int)) = true := bne_iff_ne.2 z161_; have H2 := A_ h2; clear h2; go_wp2; go_ret; exact ⟨by rw [may_bad2 H2.out]; rfl, bb.out⟩
 ·
  have z1 : decide ((64 : Int) < (ids.length : Int)) = true := decide_eq_true z161_; have y1 : decide (64 < ids.length) = true := decide_eq_true z161_; have H1 := A_ h1; clear h1; go_wp2; go_ret; exact ⟨by rw [may_bad1 H1.out]; rfl, bb.out⟩
def f98.f (ids : List ByteArray) (keys lens : List Int) (terms : List S71) (so : Bool) : Option Bool := if (∀ x ∈ ids, x.size ≤ 9223372036854775807) ∧ terms.length ≤ 4398046511104 ∧ (∀ t ∈ terms, t.f1.length ≤ 4398046511104) then some (segMayP ids keys lens terms so) else none
theorem f98.calls (A0 : Option Addr) (c0 : Nat) (ids : List ByteArray) (A1 : Option Addr) (c1 : Nat) (keys : List Int) (A2 : Option Addr) (c2 : Nat) (lens : List Int) (A3 : Option Addr) (c3 : Nat) (terms : List S71) (so : Bool) (r : Bool) (w : World) (hr0 : Kd.C Kd.string w A0 ids.length ids) (hc0 : ids.length ≤ c0) (hr1 : Kd.C (Kd.int .i64) w A1 keys.length keys) (hc1 : keys.length ≤ c1) (hr2 : Kd.C (Kd.int .i64) w A2 lens.length lens) (hc2 : lens.length ≤ c2) (hr3 : Kd.C k71 w A3 terms.length terms) (hc3 : terms.length ≤ c3) (h : f98.f ids keys lens terms so = some r) :
  Calls Tryz.prog 25 #[.agg #[.slice A0 ids.length c0, .slice A1 keys.length c1, .slice A2 lens.length c2, .slice A3 terms.length c3, .bool so]] w fun e w' => e = .returned (.bool r) ∧ Below w.heap.size w w' := by
 unfold f98.f at h
 split at h
 ·
  rename_i hc
  obtain rfl := Option.some.inj h; exact segmay_calls A0 c0 ids A1 c1 keys A2 c2 lens A3 c3 terms so w hr0 hr1 hr2 hr3 hc.1 hc.2.1 hc.2.2
 · cases h
end Go.Proofs.YtbbmdakdghefnaaGreatDoor.T
