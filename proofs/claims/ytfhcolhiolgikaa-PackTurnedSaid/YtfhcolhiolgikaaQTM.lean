import Derived.Test.YtfhcolhiolgikaaQTV
import Derived.Test.YtfhcolhiolgikaaProg
import Derived.Below
import Derived.Deep.Draws
import Derived.Deep.AppendLies
import Derived.Maps.AppendAt
import Derived.OwnWalk
import Derived.Laws.BytesArg
import Derived.Laws.MakeOwn
import Derived.Laws.OwnMore
import Derived.Deep.OwnRows
import Derived.Tactics
import Derived.Lib.ConvBytes
import Derived.Laws.Slices
import Derived.WalkKit
import Derived.KernelRfl
import Derived.RowKit3
import Derived.Deep.LoopGhost
import Derived.Deep.QuietTactic
import Derived.BigQuiet
import Derived.WideLaws
import Derived.Deep.DeepCutAuto
import Derived.Deep.CutBlock
import Derived.Deep.RegionHeld3
import Derived.Laws.Rows
import Derived.Lib.AppendStr
import Derived.ArgAppend
import Derived.Laws.IdiomCopy
import Derived.OrdersHeld
import Derived.Laws.BitsLemmas
import Derived.RowKit
import Derived.Test.YtfhcolhiolgikaaQTA
import Derived.Test.YtfhcolhiolgikaaQTJ
import Derived.Test.YtfhcolhiolgikaaQTI
import Derived.Test.YtfhcolhiolgikaaQTL
import Derived.Test.YtfhcolhiolgikaaQTG
import Derived.Test.YtfhcolhiolgikaaQTC
/- Texts of this claim, laid together by a program (merge.py): Pp, Aw. -/
/- Written by hp.py, this session's own program, out of the translation of this seat: Lean functions for the Go functions, and the proof that each call comes to what its Lean function says. -/
namespace Go.Proofs.Ytfhcolhiolgikaa.T
open Go.RowKit Go.Proofs.YtfhcolhiolgikaaW.PrintWords Go.Proofs.YtfhcolhiolgikaaW.PrintLast Go.Proofs.YtfhcolhiolgikaaW.PrintMore
attribute [local go_sem] max2_int min2_int max_two min_two max_three min_three max_four min_four   -- for this text's walks alone
set_option linter.unusedVariables false
set_option linter.unusedSimpArgs false
/-! ### pack.Pack (8), by hand -/
open Go.Proofs.Ytfhcolhiolgikaa.Plain
/-- What a walk of Pack keeps: the box; the bytes; the words; the postings' bytes. -/
structure PpSt (w : World) (S : Nat) (cs : Array Value) (v4 : Value) (xs : List Int) (v9 : Value) (ws : List ByteArray) (v10 : Value) (ys : List Int) (wr : World) : Prop where
  box : wr.heap[S]? = some (.cells cs 26 (0, 0))
  row : Kd.R (Kd.int .u8) 5 wr w.heap.size (fun k => some k ≠ v10.ownBlock) v4 xs
  wds : Kd.R Kd.string 9 wr w.heap.size (fun _ => True) v9 ws
  pst : Kd.R (Kd.int .u8) 5 wr w.heap.size (fun k => some k ≠ v4.ownBlock) v10 ys
  bel : Below w.heap.size w wr
theorem rowT {α : Type} {d : Kd α} {e : Nat} (hE : d.E = []) {w : World} {base : Nat} {ok : Nat → Prop} {v : Value} {xs : List α} (h : d.R e w base ok v xs) (k : Nat) (hk : v.ownBlock = some k) : ∃ cells, w.heap[k]? = some (.cells cells e (0, 0)) := by
  obtain ⟨_, _, _, q, hq, cells, hc⟩ := (Kd.R_bound h).1 k hk
  rw [hE] at hq
  have : q = e := by simpa using hq
  subst this
  exact ⟨cells, hc⟩
theorem rowT_ne {α : Type} {d : Kd α} {e : Nat} (hE : d.E = []) {w : World} {base : Nat} {ok : Nat → Prop} {v : Value} {xs : List α} (h : d.R e w base ok v xs) {O t : Nat} {cs : Array Value} (ho : w.heap[O]? = some (.cells cs t (0, 0))) (ht : t ≠ e) : some O ≠ v.ownBlock := by
  intro e1
  obtain ⟨cells, hc⟩ := rowT hE h O e1.symm
  rw [ho] at hc
  simp only [Option.some.injEq, Obj.cells.injEq] at hc
  exact ht hc.2.1
theorem PpSt.step {w wr w2 : World} {S : Nat} {cs : Array Value} {v4 v9 v10 : Value} {xs ys : List Int} {ws : List ByteArray} (h : PpSt w S cs v4 xs v9 ws v10 ys wr) (hb : Below wr.heap.size wr w2) : PpSt w S cs v4 xs v9 ws v10 ys w2 :=
  ⟨blk_below h.box hb, Kd.R_below h.row hb, Kd.R_below h.wds hb, Kd.R_below h.pst hb, below_step h.bel hb⟩
theorem PpSt.app4 {w wr w2 : World} {S : Nat} {cs : Array Value} {v4 v4' v9 v10 : Value} {xs xs' ys : List Int} {ws : List ByteArray} (h : PpSt w S cs v4 xs v9 ws v10 ys wr) (ho : Kd.R (Kd.int .u8) 5 w2 w.heap.size (fun k => some k ≠ v10.ownBlock) v4' xs') (hg : wr.grownBy w2 v4.ownBlock) (hat : v4'.ownBlock = v4.ownBlock ∨ ∃ b, v4'.ownBlock = some b ∧ wr.heap.size ≤ b) (hb : Below w.heap.size w w2) : PpSt w S cs v4' xs' v9 ws v10 ys w2 :=
  ⟨(hg.block S (blk_lt h.box) (rowT_ne rfl h.row h.box (by decide))).trans h.box, ho, Kd.R_mono (Kd.R_grown (Kd.R_apartR h.wds h.row (by decide)) hg (fun k hk => hk.2)) (fun _ _ => trivial),
    Kd.R_mono (Kd.R_after (ok := fun _ => True) (Kd.R_mono h.pst (fun k hk => ⟨trivial, hk⟩)) hg hat) (fun k hk => hk.2), hb⟩
theorem PpSt.app10 {w wr w2 : World} {S : Nat} {cs : Array Value} {v4 v9 v10 v10' : Value} {xs ys ys' : List Int} {ws : List ByteArray} (h : PpSt w S cs v4 xs v9 ws v10 ys wr) (ho : Kd.R (Kd.int .u8) 5 w2 w.heap.size (fun k => some k ≠ v4.ownBlock) v10' ys') (hg : wr.grownBy w2 v10.ownBlock) (hat : v10'.ownBlock = v10.ownBlock ∨ ∃ b, v10'.ownBlock = some b ∧ wr.heap.size ≤ b) (hb : Below w.heap.size w w2) : PpSt w S cs v4 xs v9 ws v10' ys' w2 :=
  ⟨(hg.block S (blk_lt h.box) (rowT_ne rfl h.pst h.box (by decide))).trans h.box, Kd.R_mono (Kd.R_after (ok := fun _ => True) (Kd.R_mono h.row (fun k hk => ⟨trivial, hk⟩)) hg hat) (fun k hk => hk.2), Kd.R_mono (Kd.R_grown (Kd.R_apartR h.wds h.pst (by decide)) hg (fun k hk => hk.2)) (fun _ _ => trivial), ho, hb⟩
theorem PpSt.app9 {w wr w2 : World} {S : Nat} {cs : Array Value} {v4 v9 v9' v10 : Value} {xs ys : List Int} {ws ws' : List ByteArray} (h : PpSt w S cs v4 xs v9 ws v10 ys wr) (ho : Kd.R Kd.string 9 w2 w.heap.size (fun _ => True) v9' ws') (hg : wr.grownBy w2 v9.ownBlock) (hb : Below w.heap.size w w2) : PpSt w S cs v4 xs v9' ws' v10 ys w2 :=
  ⟨(hg.block S (blk_lt h.box) (rowT_ne rfl h.wds h.box (by decide))).trans h.box, Kd.R_mono (Kd.R_grown (Kd.R_apartR h.row h.wds (by decide)) hg (fun k hk => hk.2)) (fun _ hk => hk.1), ho, Kd.R_mono (Kd.R_grown (Kd.R_apartR h.pst h.wds (by decide)) hg (fun k hk => hk.2)) (fun _ hk => hk.1), hb⟩
theorem row1 {w W : World} {g : Nat} {n : Int} (hg : W.heap[g]? = some (.cells #[.int .u8 n] 5 (0, 0))) (hb : w.heap.size ≤ g) (ok : Nat → Prop) (hok : ok g) : Kd.R (Kd.int .u8) 5 W w.heap.size ok (.slice (some ⟨g, 0, none⟩) 1 1) [n] := by
  refine Kd.R_of_own ⟨rfl, .inr ⟨g, 1, _, rfl, hb, hg, Nat.le_refl _, by unfold maxLen; omega, rfl, rfl⟩⟩ (fun k hk => ?_)
  have : g = k := by simpa [Value.ownBlock] using hk
  exact this ▸ hok
theorem C_two {w : World} {g : Nat} {A1 A2 : Option Addr} {c1 c2 : Nat} {l1 l2 : List Int} {t : TypeId} (hg : w.heap[g]? = some (.cells #[.slice A1 l1.length c1, .slice A2 l2.length c2] t (0, 0))) (h1 : Kd.C (Kd.int .i64) w A1 l1.length l1) (hc1 : l1.length ≤ c1) (h2 : Kd.C (Kd.int .i64) w A2 l2.length l2) (hc2 : l2.length ≤ c2) :
    Kd.C (Kd.slice 3 (Kd.int .i64)) w (some ⟨g, 0, none⟩) 2 [l1, l2] := by
  refine ⟨rfl, by omega, fun _ => ⟨_, rfl, fun j p hp => ?_⟩⟩
  match j, hp with
  | 0, hp =>
    cases hp
    refine ⟨[.slice A1 l1.length c1], rfl, ⟨A1, c1, rfl, hc1, h1⟩, fun i u hu => ?_⟩
    match i, hu with
    | 0, hu => cases hu; exact (blk_cell hg 0).trans rfl
  | 1, hp =>
    cases hp
    refine ⟨[.slice A2 l2.length c2], rfl, ⟨A2, c2, rfl, hc2, h2⟩, fun i u hu => ?_⟩
    match i, hu with
    | 0, hu => cases hu; exact (blk_cell hg 1).trans rfl
theorem sized_str {w : World} (id : ByteArray) (hid : id.size ≤ 100000) : Calls Try.prog 16 #[.slice (some ⟨w.heap.size, 0, none⟩) id.size (grownCap w id.size 0 5)] (Lib.bytesWorld w 5 id) fun e w' => ∃ v0_ : Value, e = .returned v0_ ∧ Kd.R (Kd.int .u8) 5 w' (Lib.bytesWorld w 5 id).heap.size (fun _ => True) v0_ (sizedP (bytesOf id)) ∧ Below (Lib.bytesWorld w 5 id).heap.size (Lib.bytesWorld w 5 id) w' := by
  have hC : Kd.C (Kd.int .u8) (Lib.bytesWorld w 5 id) (some ⟨w.heap.size, 0, none⟩) (bytesOf id).length (bytesOf id) := by
    rw [bytesOf_length]
    exact Kd.C_of_reads (enc := Value.int .u8) (d := (0 : Int)) (bytes_reads w 5 id (by omega))
  have hc : (bytesOf id).length ≤ grownCap w id.size 0 5 := by rw [bytesOf_length]; exact grownCap_ge w _ _ _
  have h := pack_sized.calls 8 _ _ (bytesOf id) (sizedP (bytesOf id)) (Lib.bytesWorld w 5 id) hC hc (sized_eq _ (by rw [bytesOf_length]; omega) 8 (Nat.le_refl _))
  rw [bytesOf_length] at h
  exact h
theorem idsE_take (ids : List ByteArray) (i : Nat) (h : i < ids.length) : idsE (ids.take i) ++ sizedP (bytesOf (rdOf ByteArray.empty ids (i : Int))) = idsE (ids.take (i + 1)) := by
  rw [rdOf_nat ids i h, List.take_succ_eq_append_getElem h, idsE_app]
  simp [idsE]
theorem numsE_take (l : List Int) (i : Nat) (h : i < l.length) : numsE (l.take i) ++ putP (rd l (i : Int)) = numsE (l.take (i + 1)) := by
  rw [rd_nat l i h, List.take_succ_eq_append_getElem h, numsE_app]
  simp [numsE]
theorem postsE_take (l : List S44) (i : Nat) (h : i < l.length) : postsE (l.take i) ++ sizedP (postPackR (rd_T44 l (i : Int)).f1) = postsE (l.take (i + 1)) := by
  rw [rd44_nat l i h, List.take_succ_eq_append_getElem h, postsE_app]
  simp [postsE]
set_option maxHeartbeats 8000000 in
set_option maxRecDepth 100000 in
theorem pack_calls (A0 : Option Addr) (c0 : Nat) (ids : List ByteArray) (A1 : Option Addr) (c1 : Nat) (keys : List Int) (A2 : Option Addr) (c2 : Nat) (lens : List Int) (A3 : Option Addr) (c3 : Nat) (terms : List S44) (so : Bool) (w : World)
    (hC0 : Kd.C Kd.string w A0 ids.length ids) (hC1 : Kd.C (Kd.int .i64) w A1 keys.length keys) (hC2 : Kd.C (Kd.int .i64) w A2 lens.length lens) (hC3 : Kd.C k44 w A3 terms.length terms) (hc1 : keys.length ≤ c1) (hc2 : lens.length ≤ c2) (hid : ∀ x ∈ ids, x.size ≤ 9223372036854775807) (ht : terms.length ≤ 4398046511104) (hpl : ∀ t ∈ terms, t.f1.length ≤ 4398046511104) :
    Calls Try.prog 8 #[.agg #[.slice A0 ids.length c0, .slice A1 keys.length c1, .slice A2 lens.length c2, .slice A3 terms.length c3, .bool so]] w fun e w' => ∃ v : Value, e = .returned (.tuple #[v, .int .i64 (packE ids keys lens terms so)]) ∧ Kd.R (Kd.int .u8) 5 w' w.heap.size (fun _ => True) v (packR ids keys lens terms so) ∧ Below w.heap.size w w' := by
  have hu26 := Try.underlying26
  have hu44 := Try.underlying44
  have HC0 := Aside0.mk hC0
  have HC1 := Aside0.mk hC1
  have HC2 := Aside0.mk hC2
  have HC3 := Aside0.mk hC3
  have HCC1 := Aside0.mk hc1
  have HCC2 := Aside0.mk hc2
  have HID := Aside0.mk hid
  have HT := Aside0.mk ht
  have HPL := Aside0.mk hpl
  clear hC0 hC1 hC2 hC3 hc1 hc2 hid ht hpl
  go_enter Try.func8, Try.ntmps8
  go_upto_region 1 with fail
  generalize hcs : #[Value.slice A0 ids.length c0, .slice A1 keys.length c1, .slice A2 lens.length c2, .slice A3 terms.length c3, .bool so] = cs
  have b0 := Aside0.mk (blk_new w (.cells cs 26))
  have bb := Aside0.mk (below_alloc (Below.refl w.heap.size w) (.cells cs 26))
  obtain ⟨S, hS⟩ : ∃ S, S = w.heap.size := ⟨_, rfl⟩
  rw [← hS] at b0
  generalize (w.alloc (.cells cs 26)) = wb at *
  rw [← hS]
  have HS := Aside0.mk (show w.heap.size ≤ S from by omega)
  clear hS
  have KCS := Aside0.mk hcs
  have d0 : wb.cell? ⟨S, 0, none⟩ = some (.slice A0 ids.length c0) := (blk_cell b0.out 0).trans (by rw [← hcs]; rfl)
  have d1 : wb.cell? ⟨S, 1, none⟩ = some (.slice A1 keys.length c1) := (blk_cell b0.out 1).trans (by rw [← hcs]; rfl)
  have d2 : wb.cell? ⟨S, 2, none⟩ = some (.slice A2 lens.length c2) := (blk_cell b0.out 2).trans (by rw [← hcs]; rfl)
  have d3 : wb.cell? ⟨S, 3, none⟩ = some (.slice A3 terms.length c3) := (blk_cell b0.out 3).trans (by rw [← hcs]; rfl)
  have d4 : wb.cell? ⟨S, 4, none⟩ = some (.bool so) := (blk_cell b0.out 4).trans (by rw [← hcs]; rfl)
  clear hcs
  cases hmay : segMayP ids keys lens terms so with
  | false =>
    have HM := Aside0.mk hmay
    have HR := Aside0.mk (show packR ids keys lens terms so = [] ∧ packE ids keys lens terms so = 1 from by unfold packR packE; rw [hmay]; exact ⟨rfl, rfl⟩)
    clear hmay
    go_wp2_with (first | (go_at_call 9; (refine (segmay_calls A0 c0 ids A1 c1 keys A2 c2 lens A3 c3 terms so wb (Kd.C_below HC0.out bb.out) (Kd.C_below HC1.out bb.out) (Kd.C_below HC2.out bb.out) (Kd.C_below HC3.out bb.out) HID.out HT.out HPL.out).mono ?_); rintro e_ w1 ⟨he, hb⟩; rw [HM.out] at he; subst he; have n0_ := Aside0.mk (below_step bb.out hb); have n1_ := Aside0.mk (blk_below b0.out hb); replace d0 := pw_cell_below hb d0; replace d1 := pw_cell_below hb d1; replace d2 := pw_cell_below hb d2; replace d3 := pw_cell_below hb d3; replace d4 := pw_cell_below hb d4; clear bb b0 hb; have bb := n0_; have b0 := n1_; clear n0_ n1_))
    refine bodyPost_ret (results_tmp2 rfl _ _ _) rfl ?_
    exact ⟨.slice none 0 0, by rw [HR.out.2]; rfl, by rw [HR.out.1]; exact Kd.R_nil _ _ _ _ _, bb.out⟩
  | true =>
    have HM := Aside0.mk hmay
    have HR := Aside0.mk (show packR ids keys lens terms so = wrapP (packIn ids keys lens terms so) ∧ packE ids keys lens terms so = 0 from ⟨if_pos hmay, if_pos hmay⟩)
    have OK := Aside0.mk (segOk hmay)
    clear hmay
    go_upto_region 3 with (first | (go_at_call 9; (refine (segmay_calls A0 c0 ids A1 c1 keys A2 c2 lens A3 c3 terms so wb (Kd.C_below HC0.out bb.out) (Kd.C_below HC1.out bb.out) (Kd.C_below HC2.out bb.out) (Kd.C_below HC3.out bb.out) HID.out HT.out HPL.out).mono ?_); rintro e_ w1 ⟨he, hb⟩; rw [HM.out] at he; subst he; have n0_ := Aside0.mk (below_step bb.out hb); have n1_ := Aside0.mk (blk_below b0.out hb); replace d0 := pw_cell_below hb d0; replace d1 := pw_cell_below hb d1; replace d2 := pw_cell_below hb d2; replace d3 := pw_cell_below hb d3; replace d4 := pw_cell_below hb d4; clear bb b0 hb; have bb := n0_; have b0 := n1_; clear n0_ n1_))
    have hsz := below_size bb.out
    have HSG := Aside0.mk (show S ≠ w1.heap.size from by have := blk_lt b0.out; omega)
    have HG := Aside0.mk hsz
    have B1 := b0
    have BL1 := bb
    clear hsz b0 bb d0 d1 d2 d3
    generalize hGe : w1.heap.size = G at *
    go_cut [4] (fun v4 wc => v4 = .slice (some ⟨G, 0, none⟩) 1 1 ∧ Aside0 (wc.heap[S]? = some (.cells cs 26 (0, 0)) ∧ Below w.heap.size w wc ∧ wc.heap[G]? = some (.cells #[.int .u8 0] 5 (0, 0))))
    case first =>
      have g0 := blk_new w1 (.cells #[.int .u8 0] 5)
      have hbx := blk_below B1.out (below_alloc (Below.refl w1.heap.size w1) (.cells #[.int .u8 0] 5))
      have hbl := below_alloc BL1.out (.cells #[.int .u8 0] 5)
      go_wp2
      go_meet
      case rel => exact ⟨rfl, ⟨hbx, hbl, by rw [← hGe]; exact g0⟩⟩
    case rest =>
      rename_i hk1 hk0 hk2
      obtain ⟨rfl, HW⟩ := hcut
      refine hk2 _ _ ?_
      clear hk2 B1 BL1 d4
      clear hk0
      have d4 : wc.cell? ⟨S, 4, none⟩ = some (.bool so) := (blk_cell HW.out.1 4).trans (by rw [← KCS.out]; rfl)
      refine wp_seq_k (fun K hK => ?_)
      go_cut [4] (fun v4 wd => v4 = .slice (some ⟨G, 0, none⟩) 1 1 ∧ Aside0 (PpSt w S cs (.slice (some ⟨G, 0, none⟩) 1 1) [if so = true then 1 else 0] (.slice none 0 0) [] (.slice none 0 0) [] wd))
      case first =>
        cases so with
        | false =>
          go_wp2
          go_meet
          case rel => exact ⟨rfl, ⟨⟨HW.out.1, row1 HW.out.2.2 HG.out _ (by simp [Value.ownBlock]), Kd.R_nil _ _ _ _ _, Kd.R_nil _ _ _ _ _, HW.out.2.1⟩⟩⟩
        | true =>
          have g1 := (blk_cell HW.out.2.2 0).trans (show (#[Value.int .u8 0])[0]? = some (.int .u8 0) from rfl)
          have f1 := blk_frozen HW.out.2.2 0
          go_wp2
          go_meet
          case rel => exact ⟨rfl, ⟨⟨by rw [Below.heap_setCell _ _ _ _ (fun e => HSG.out e)]; exact HW.out.1, row1 (blk_set HW.out.2.2 0 _) HG.out _ (by simp [Value.ownBlock]), Kd.R_nil _ _ _ _ _, Kd.R_nil _ _ _ _ _, below_set HW.out.2.1 HG.out⟩⟩⟩
      case rest =>
        obtain ⟨rfl, ST⟩ := hcut
        refine hK _ _ ?_
        clear hK HW d4
        have d0 : wc.cell? ⟨S, 0, none⟩ = some (.slice A0 ids.length c0) := (blk_cell ST.out.box 0).trans (by rw [← KCS.out]; rfl)
        have HIL := Aside0.mk (show ids.length ≤ 64 from OK.out.n64)
        go_upto_region 7 with (first | (go_at_call 15; (refine (vint_Put.calls 8 ((ids.length : Int)) _ _ (put_eq _ 8 (Nat.le_refl _))).mono ?_); rintro e_ w6 ⟨v0_, rfl, ho, hb⟩; obtain ⟨An, cn, rfl⟩ := Kd.R_slice ho; have HN := Aside0.mk (Kd.R_reads' ho).2.2; clear ho; have n0_ := Aside0.mk (ST.out.step hb); clear ST hb; have ST := n0_; clear n0_) | ((with_reducible refine gate_builtin (b := .append) (xs := #[.tmp 23, .tmp 27]) rfl ?_); at_builtin; refine Kd.R_append_rows (Kd.int .u8) (w0 := w) w.heap.size rfl (.tmp 23) (.tmp 27) 29 5 (.int .u8 0) 1 rfl Try.underlying29 info5 rfl (by decide) (by omega) (.slice (some ⟨G, 0, none⟩) 1 1) [if so = true then 1 else 0] (putP (ids.length : Int)) _ _ _ (fun k => some k ≠ (Value.slice none 0 0).ownBlock) (fun _ => False) rfl rfl ?aO ?aR (fun _ _ h => h) (fun _ h => h.elim) ?aF ?aB ?aS ?aL ?_; (case aO => exact ST.out.row); (case aR => exact HN.out); (case aF => exact fun k hk => Kd.fresh' (Kd.R_lt ST.out.pst) k hk); (case aB => exact ST.out.bel); (case aS => exact below_size ST.out.bel); (case aL => have h1_ := putP_len (ids.length : Int); simp only [List.length_cons, List.length_nil]; omega); intro vo w7 ho hb hg hat; have n0_ := Aside0.mk (ST.out.app4 ho hg hat hb); clear ho hb hg hat ST HN; have ST := n0_; clear n0_))
        have d0 : w7.cell? ⟨S, 0, none⟩ = some (.slice A0 ids.length c0) := (blk_cell ST.out.box 0).trans (by rw [← KCS.out]; rfl)
        have ST0 := Aside0.mk (show PpSt w S cs vo (packHead ids so ++ idsE (ids.take 0)) (.slice none 0 0) [] (.slice none 0 0) [] w7 from by
          have h := ST.out
          rw [show packHead ids so ++ idsE (ids.take 0) = [if so = true then 1 else 0] ++ putP (ids.length : Int) from by simp [packHead, idsE]]
          exact h)
        clear ST
        have HHL := Aside0.mk (packHead_len ids so)
        go_wp2
        clear d0
        go_loopg [4, 32] (ids.length + 1) (fun kq v4 v32 w' => ∃ (i : Nat), v32 = .int .i64 (i : Int) ∧ Aside0 (PpSt w S cs v4 (packHead ids so ++ idsE (ids.take i)) (.slice none 0 0) [] (.slice none 0 0) [] w') ∧ Aside0 (i ≤ ids.length ∧ ids.length - i < kq ∧ kq ≤ ids.length + 1))
        case atStart => exact ⟨0, rfl, ST0, ⟨by omega, by omega, by omega⟩⟩
        case round =>
          clear ST0
          obtain ⟨i, rfl, ST, HI⟩ := hrel
          cases gk with
          | zero => exact absurd HI.out.2.1 (by omega)
          | succ k1 =>
            by_cases hlt : i < ids.length
            · have c2b0 : decide ((i : Int) < (ids.length : Int)) = true := decide_eq_true (by omega)
              have c2b1 : decide (i < ids.length) = true := decide_eq_true hlt
              obtain ⟨id, hid⟩ : ∃ id, id = rdOf ByteArray.empty ids (i : Int) := ⟨_, rfl⟩
              obtain ⟨ad0, e0, hx0⟩ := Kd.at_string HC0.out (i : Int) (by omega) (by omega)
              rw [← hid] at hx0
              cases e0
              rw [Int.toNat_natCast] at hx0
              replace hx0 := pw_cell_below ST.out.bel hx0
              have p1 : (0 : Int) ≤ (i : Int) := by omega
              have p2 : (i : Int) < (ids.length : Int) := by omega
              replace p1 := eq_true p1
              replace p2 := eq_true p2
              have HIS := Aside0.mk (OK.out.ids16 id (by rw [hid]; exact rdOf_mem ids i hlt))
              have HTK := Aside0.mk (idsE_take ids i hlt)
              rw [← hid] at HTK
              have HLE := Aside0.mk (show (idsE (ids.take i)).length ≤ 21 * 64 from by
                have h := idsE_len (ids.take i) (fun y hy => (OK.out.ids16 y (List.mem_of_mem_take hy)).2)
                rw [List.length_take] at h
                have := HIL.out
                omega)
              have HLT := Aside0.mk hlt
              have kb := fun W => print_bytes (P := Try.prog) 9 29 5 Try.underlying9 Try.underlying29 Try.underlying5 id W
              clear hid hlt
              go_wp2_with (first | (go_at_call 16; have hbw := bytes_below (Below.refl wr.heap.size wr) (Nat.le_refl _) 5 id; (refine (sized_str id (by have := HIS.out; omega)).mono ?_); rintro e_ w6 ⟨v0_, rfl, ho, hb⟩; obtain ⟨An, cn, rfl⟩ := Kd.R_slice ho; have HN := Aside0.mk (Kd.R_reads' ho).2.2; clear ho; have n0_ := Aside0.mk ((ST.out.step hbw).step hb); clear ST hb hbw kb hx0; have ST := n0_; clear n0_) | ((with_reducible refine gate_builtin (b := .append) (xs := #[.tmp 36, .tmp 39]) rfl ?_); at_builtin; refine Kd.R_append_rows (Kd.int .u8) (w0 := w) w.heap.size rfl (.tmp 36) (.tmp 39) 29 5 (.int .u8 0) 1 rfl Try.underlying29 info5 rfl (by decide) (by omega) u4 (packHead ids so ++ idsE (ids.take i)) (sizedP (bytesOf id)) _ _ _ (fun k => some k ≠ (Value.slice none 0 0).ownBlock) (fun _ => False) rfl rfl ?aO ?aR (fun _ _ h => h) (fun _ h => h.elim) ?aF ?aB ?aS ?aL ?_; (case aO => exact ST.out.row); (case aR => exact HN.out); (case aF => exact fun k hk => Kd.fresh' (Kd.R_lt ST.out.pst) k hk); (case aB => exact ST.out.bel); (case aS => exact below_size ST.out.bel); (case aL => have h1_ := HHL.out; have h2_ := HLE.out; have h3_ := sizedP_len (bytesOf id) (by rw [bytesOf_length]; have := HIS.out; omega); rw [bytesOf_length] at h3_; have h4_ := HIS.out; simp only [List.length_append]; omega); intro vo w7 ho hb hg hat; have n0_ := Aside0.mk (ST.out.app4 ho hg hat hb); clear ho hb hg hat ST HN; have ST := n0_; clear n0_))
              rw [List.append_assoc, HTK.out] at ST
              go_roundg k1
              case measure => have := HI.out; omega
              case rel => exact ⟨i + 1, (by rw [wstep (by have := HLT.out; have := HIL.out; omega)]), ST, ⟨by have := HLT.out; omega, by have := HI.out; have := HLT.out; omega, by have := HI.out; omega⟩⟩
            · have c2b0 : decide ((i : Int) < (ids.length : Int)) = false := decide_eq_false (by omega)
              have c2b1 : decide (i < ids.length) = false := decide_eq_false hlt
              have HIE := Aside0.mk (show ids.take i = ids from List.take_of_length_le (by omega))
              rw [HIE.out] at ST
              clear hlt HI HIE
              go_upto_region 12 with fail
              have d1 : wr.cell? ⟨S, 1, none⟩ = some (.slice A1 keys.length c1) := (blk_cell ST.out.box 1).trans (by rw [← KCS.out]; rfl)
              have d2 : wr.cell? ⟨S, 2, none⟩ = some (.slice A2 lens.length c2) := (blk_cell ST.out.box 2).trans (by rw [← KCS.out]; rfl)
              obtain ⟨nl, hnl⟩ : ∃ x, keys ++ lens = x := ⟨_, rfl⟩
              have hnll : nl.length ≤ 128 := by
                rw [← hnl, List.length_append]
                have h1 := OK.out.nk
                have h2 := OK.out.nl
                have h3 := OK.out.n64
                omega
              have HCAT := Aside0.mk (show slices_Concat_int.f [keys, lens] = some nl from by
                have e : [keys, lens].flatten = nl := by rw [← hnl]; simp
                unfold slices_Concat_int.f
                rw [e, if_pos (by omega)])
              have HNL := Aside0.mk hnl
              have HNLL := Aside0.mk hnll
              obtain ⟨X, hX⟩ : ∃ X, packHead ids so ++ idsE ids = X := ⟨_, rfl⟩
              have hXL : X.length ≤ 2000 := by
                rw [← hX, List.length_append]
                have h1 := HHL.out
                have h2 := idsE_len ids (fun y hy => (OK.out.ids16 y hy).2)
                have h3 := OK.out.n64
                omega
              rw [hX] at ST
              have HX := Aside0.mk hX
              have HXL := Aside0.mk hXL
              clear hnl hnll hX hXL HHL
              go_upto_block 2 with (first | (go_at_call 17; have hb0 := below_alloc (Below.refl wr.heap.size wr) (.cells #[.slice A1 keys.length c1, .slice A2 lens.length c2] 23); have hg0 := blk_new wr (.cells #[.slice A1 keys.length c1, .slice A2 lens.length c2] 23); have hs0 := ST.out.step hb0; (refine (slices_Concat_int.calls (some ⟨wr.heap.size, 0, none⟩) 2 [keys, lens] nl _ (C_two hg0 (Kd.C_below HC1.out hs0.bel) HCC1.out (Kd.C_below HC2.out hs0.bel) HCC2.out) (Nat.le_refl _) HCAT.out).mono ?_); rintro e_ w9 ⟨v0_, rfl, ho, hb⟩; have HK := Aside0.mk (Kd.R_lower ho (below_size hs0.bel)); clear ho; obtain ⟨Ak, ck, rfl⟩ := Kd.R_slice HK.out; have n0_ := Aside0.mk (hs0.step hb); clear ST hb hs0 hg0 hb0; have ST := n0_; clear n0_))
              have ST0 := Aside0.mk (show PpSt w S cs u4 (X ++ numsE (nl.take 0)) (.slice none 0 0) [] (.slice none 0 0) [] w9 from by
                rw [show X ++ numsE (nl.take 0) = X from by simp [numsE]]
                exact ST.out)
              clear ST d1 d2
              go_wp2
              go_loopg [4, 49] (nl.length + 1) (fun kq v4 v49 w' => ∃ (i : Nat), v49 = .int .i64 (i : Int) ∧ Aside0 (PpSt w S cs v4 (X ++ numsE (nl.take i)) (.slice none 0 0) [] (.slice none 0 0) [] w') ∧ Aside0 (Kd.R (Kd.int .i64) 3 w' w.heap.size (fun _ => True) (.slice Ak nl.length ck) nl) ∧ Aside0 (i ≤ nl.length ∧ nl.length - i < kq ∧ kq ≤ nl.length + 1))
              case atStart => exact ⟨0, rfl, ST0, HK, ⟨by omega, by omega, by omega⟩⟩
              case round =>
                clear ST0 HK
                obtain ⟨i, rfl, ST, HK, HI⟩ := hrel
                cases gk with
                | zero => exact absurd HI.out.2.1 (by omega)
                | succ k1 =>
                  by_cases hlt : i < nl.length
                  · have c2b0 : decide ((i : Int) < (nl.length : Int)) = true := decide_eq_true (by omega)
                    have c2b1 : decide (i < nl.length) = true := decide_eq_true hlt
                    obtain ⟨n, hn⟩ : ∃ n, n = rd nl (i : Int) := ⟨_, rfl⟩
                    obtain ⟨ad0, e0, hx0⟩ := Kd.at_int (Kd.R_reads' HK.out).2.2 (i : Int) (by omega) (by omega)
                    rw [← hn] at hx0
                    cases e0
                    rw [Int.toNat_natCast] at hx0
                    have p1 : (0 : Int) ≤ (i : Int) := by omega
                    have p2 : (i : Int) < (nl.length : Int) := by omega
                    replace p1 := eq_true p1
                    replace p2 := eq_true p2
                    have HTK := Aside0.mk (numsE_take nl i hlt)
                    rw [← hn] at HTK
                    have HLE := Aside0.mk (show (numsE (nl.take i)).length ≤ 5 * 128 from by
                      have h := numsE_len (nl.take i)
                      rw [List.length_take] at h
                      have := HNLL.out
                      omega)
                    have HLT := Aside0.mk hlt
                    clear hn hlt
                    go_wp2_with (first | (go_at_call 15; (refine (vint_Put.calls 8 (n) _ _ (put_eq _ 8 (Nat.le_refl _))).mono ?_); rintro e_ w6 ⟨v0_, rfl, ho, hb⟩; obtain ⟨An, cn, rfl⟩ := Kd.R_slice ho; have HN := Aside0.mk (Kd.R_reads' ho).2.2; clear ho; have n0_ := Aside0.mk (ST.out.step hb); have n1_ := Aside0.mk (Kd.R_below HK.out hb); clear ST HK hb hx0; have ST := n0_; have HK := n1_; clear n0_ n1_) | ((with_reducible refine gate_builtin (b := .append) (xs := #[.tmp 53, .tmp 55]) rfl ?_); at_builtin; refine Kd.R_append_rows (Kd.int .u8) (w0 := w) w.heap.size rfl (.tmp 53) (.tmp 55) 29 5 (.int .u8 0) 1 rfl Try.underlying29 info5 rfl (by decide) (by omega) u4 (X ++ numsE (nl.take i)) (putP n) _ _ _ (fun k => some k ≠ (Value.slice none 0 0).ownBlock) (fun _ => False) rfl rfl ?aO ?aR (fun _ _ h => h) (fun _ h => h.elim) ?aF ?aB ?aS ?aL ?_; (case aO => exact ST.out.row); (case aR => exact HN.out); (case aF => exact fun k hk => Kd.fresh' (Kd.R_lt ST.out.pst) k hk); (case aB => exact ST.out.bel); (case aS => exact below_size ST.out.bel); (case aL => have h1_ := HXL.out; have h2_ := HLE.out; have h3_ := putP_len n; simp only [List.length_append]; omega); intro vo w7 ho hb hg hat; have n1_ := Aside0.mk (Kd.R_mono (Kd.R_grown (Kd.R_apartR HK.out ST.out.row (by decide)) hg (fun k hk => hk.2)) (fun _ _ => trivial)); clear HK; have HK := n1_; clear n1_; have n0_ := Aside0.mk (ST.out.app4 ho hg hat hb); clear ho hb hg hat ST HN; have ST := n0_; clear n0_))
                    rw [List.append_assoc, HTK.out] at ST
                    go_roundg k1
                    case measure => have := HI.out; omega
                    case rel => exact ⟨i + 1, (by rw [wstep (by have := HLT.out; have := HNLL.out; omega)]), ST, HK, ⟨by have := HLT.out; omega, by have := HI.out; have := HLT.out; omega, by have := HI.out; omega⟩⟩
                  · have c2b0 : decide ((i : Int) < (nl.length : Int)) = false := decide_eq_false (by omega)
                    have c2b1 : decide (i < nl.length) = false := decide_eq_false hlt
                    have HIE := Aside0.mk (show nl.take i = nl from List.take_of_length_le (by omega))
                    rw [HIE.out] at ST
                    obtain ⟨Y, hY⟩ : ∃ Y, X ++ numsE nl = Y := ⟨_, rfl⟩
                    have hYL : Y.length ≤ 3000 := by
                      rw [← hY, List.length_append]
                      have h1 := HXL.out
                      have h2 := numsE_len nl
                      have h3 := HNLL.out
                      omega
                    rw [hY] at ST
                    have HY := Aside0.mk hY
                    have HYL := Aside0.mk hYL
                    clear hlt HI HIE HK hY hYL
                    go_upto_region 19 with fail
                    have d3 : wr.cell? ⟨S, 3, none⟩ = some (.slice A3 terms.length c3) := (blk_cell ST.out.box 3).trans (by rw [← KCS.out]; rfl)
                    have HTL := Aside0.mk (show terms.length ≤ 200 from OK.out.t200)
                    go_wp2
                    clear d3
                    go_loopg [9, 10, 61] (terms.length + 1) (fun kq v9 v10 v61 w' => ∃ (i : Nat), v61 = .int .i64 (i : Int) ∧ Aside0 (PpSt w S cs u4 Y v9 ((terms.take i).map (·.f0)) v10 (postsE (terms.take i)) w') ∧ Aside0 (i ≤ terms.length ∧ terms.length - i < kq ∧ kq ≤ terms.length + 1))
                    case atStart => exact ⟨0, rfl, ST, ⟨by omega, by omega, by omega⟩⟩
                    case round =>
                      clear ST
                      obtain ⟨i, rfl, ST, HI⟩ := hrel
                      cases gk with
                      | zero => exact absurd HI.out.2.1 (by omega)
                      | succ k1 =>
                        by_cases hlt : i < terms.length
                        · have c2b0 : decide ((i : Int) < (terms.length : Int)) = true := decide_eq_true (by omega)
                          have c2b1 : decide (i < terms.length) = true := decide_eq_true hlt
                          obtain ⟨t, ht⟩ : ∃ t, t = rd_T44 terms (i : Int) := ⟨_, rfl⟩
                          obtain ⟨ad, A, c, e1, hx0, hx1, hl1, hi1⟩ := at_T44 HC3.out (i : Int) (by omega) (by omega)
                          rw [← ht] at hx0 hx1 hl1 hi1
                          cases e1
                          rw [Int.toNat_natCast] at hx0 hx1
                          replace hx0 := pw_cell_below ST.out.bel hx0
                          replace hx1 := pw_cell_below ST.out.bel hx1
                          have p1 : (0 : Int) ≤ (i : Int) := by omega
                          have p2 : (i : Int) < (terms.length : Int) := by omega
                          replace p1 := eq_true p1
                          replace p2 := eq_true p2
                          have HTR := Aside0.mk hi1
                          have HTC := Aside0.mk hl1
                          have HTLE := Aside0.mk (show t.f1.length ≤ 1000 from Nat.le_trans (postMay_post (OK.out.post t (by rw [ht]; exact rd44_mem terms i hlt)).2).1 (by decide))
                          have HTK := Aside0.mk (postsE_take terms i hlt)
                          have HTW := Aside0.mk (take44 terms i hlt)
                          rw [← ht] at HTK HTW
                          have HLE := Aside0.mk (show (postsE (terms.take i)).length ≤ 50005 * 200 from by
                            have h := postsE_len (terms.take i)
                            rw [List.length_take] at h
                            have := HTL.out
                            omega)
                          have HLT := Aside0.mk hlt
                          clear hi1 hl1 ht hlt
                          go_upto_region 22 with fail
                          have hb := below_alloc (Below.refl wr.heap.size wr) (.cells #[.string t.f0, .slice A t.f1.length c] 44)
                          have BT := Aside0.mk (blk_new wr (.cells #[.string t.f0, .slice A t.f1.length c] 44))
                          have n0_ := Aside0.mk (ST.out.step hb)
                          clear ST hb hx0 hx1 p1 p2
                          have ST := n0_
                          clear n0_
                          generalize (wr.alloc (.cells #[.string t.f0, .slice A t.f1.length c] 44)) = w10 at *
                          generalize wr.heap.size = T at *
                          have d1 : w10.cell? ⟨T, 1, none⟩ = some (.slice A t.f1.length c) := (blk_cell BT.out 1).trans rfl
                          go_upto_region 23 with (first | (go_at_call 18; (refine (postPack_calls A c t.f1 w10 (Kd.C_below HTR.out ST.out.bel) HTC.out (by have := HTLE.out; omega)).mono ?_); rintro e_ w11 ⟨v0_, er, rfl, ho, hb⟩; have HP := Aside0.mk (Kd.R_lower ho (below_size ST.out.bel)); clear ho; obtain ⟨Ap, cp, rfl⟩ := Kd.R_slice HP.out; have n0_ := Aside0.mk (ST.out.step hb); have n1_ := Aside0.mk (blk_below BT.out hb); clear ST BT hb d1; have ST := n0_; have BT := n1_; clear n0_ n1_))
                          have d0 : w11.cell? ⟨T, 0, none⟩ = some (.string t.f0) := (blk_cell BT.out 0).trans rfl
                          have HWL := Aside0.mk (show ((terms.take i).map (·.f0)).length ≤ 200 from by rw [List.length_map, List.length_take]; have := HTL.out; omega)
                          go_wp2_with (first | ((with_reducible refine gate_builtin (b := .append) (xs := #[.tmp 71, .tmp 74]) rfl ?_); at_builtin; refine Kd.R_append Kd.string (w0 := w) w.heap.size rfl (.tmp 71) (.tmp 74) 22 9 (.string ⟨#[]⟩) 16 rfl Try.underlying22 info9 rfl (by decide) (by omega) u9 ((terms.take i).map (·.f0)) t.f0 [.string t.f0] (fun _ => True) (fun _ => False) rfl rfl ?aP (fun _ hk => hk.elim) ?aF ?aO ?aB ?aS ?aL ?_; (case aP => exact rfl); (case aF => exact (fun _ _ => trivial)); (case aO => exact ST.out.wds); (case aB => exact ST.out.bel); (case aS => exact below_size ST.out.bel); (case aL => have := HWL.out; omega); intro v5 w12 ho hb hg hat; have n1_ := Aside0.mk (Kd.R_mono (Kd.R_grown (Kd.R_apartR HP.out ST.out.wds (by decide)) hg (fun k hk => hk.2)) (fun _ _ => trivial)); have n0_ := Aside0.mk (ST.out.app9 ho hg hb); clear ST HP ho hb hg hat BT d0; have ST := n0_; have HP := n1_; clear n0_ n1_) | (go_at_call 16; (refine (pack_sized.calls 8 Ap cp (postPackR t.f1) (sizedP (postPackR t.f1)) _ (Kd.R_reads' HP.out).2.2 (Kd.R_reads' HP.out).2.1 (sized_eq _ (by have := postPackR_len t.f1; omega) 8 (Nat.le_refl _))).mono ?_); rintro e_ w13 ⟨v0_, rfl, ho, hb⟩; obtain ⟨An, cn, rfl⟩ := Kd.R_slice ho; have HN := Aside0.mk (Kd.R_reads' ho).2.2; clear ho; have n0_ := Aside0.mk (ST.out.step hb); clear ST hb HP; have ST := n0_; clear n0_) | ((with_reducible refine gate_builtin (b := .append) (xs := #[.tmp 76, .tmp 78]) rfl ?_); at_builtin; refine Kd.R_append_rows (Kd.int .u8) (w0 := w) w.heap.size rfl (.tmp 76) (.tmp 78) 29 5 (.int .u8 0) 1 rfl Try.underlying29 info5 rfl (by decide) (by omega) u10 (postsE (terms.take i)) (sizedP (postPackR t.f1)) _ _ _ (fun k => some k ≠ (u4).ownBlock) (fun _ => False) rfl rfl ?aO ?aR (fun _ _ h => h) (fun _ h => h.elim) ?aF ?aB ?aS ?aL ?_; (case aO => exact ST.out.pst); (case aR => exact HN.out); (case aF => exact fun k hk => Kd.fresh' (Kd.R_lt ST.out.row) k hk); (case aB => exact ST.out.bel); (case aS => exact below_size ST.out.bel); (case aL => have h1_ := HLE.out; have h2_ := postPackR_len t.f1; have h3_ := sizedP_len (postPackR t.f1) (by omega); omega); intro vo w14 ho hb hg hat; have n0_ := Aside0.mk (ST.out.app10 ho hg hat hb); clear ho hb hg hat ST HN; have ST := n0_; clear n0_))
                          rw [HTW.out, HTK.out] at ST
                          go_roundg k1
                          case measure => have := HI.out; omega
                          case rel => exact ⟨i + 1, (by rw [wstep (by have := HLT.out; have := HTL.out; omega)]), ST, ⟨by have := HLT.out; omega, by have := HI.out; have := HLT.out; omega, by have := HI.out; omega⟩⟩
                        · have c2b0 : decide ((i : Int) < (terms.length : Int)) = false := decide_eq_false (by omega)
                          have c2b1 : decide (i < terms.length) = false := decide_eq_false hlt
                          have HIE := Aside0.mk (show terms.take i = terms from List.take_of_length_le (by omega))
                          rw [HIE.out] at ST
                          obtain ⟨ws, hws⟩ : ∃ x, terms.map (·.f0) = x := ⟨_, rfl⟩
                          obtain ⟨ps, hps⟩ : ∃ x, postsE terms = x := ⟨_, rfl⟩
                          have hpsl : ps.length ≤ 50005 * 200 := by
                            rw [← hps]
                            have h := postsE_len terms
                            have := HTL.out
                            omega
                          have hwsl : ws.length ≤ 200 := by rw [← hws, List.length_map]; exact HTL.out
                          rw [hws, hps] at ST
                          have HWS := Aside0.mk hws
                          have HPS := Aside0.mk hps
                          have HPSL := Aside0.mk hpsl
                          have HWSL := Aside0.mk hwsl
                          clear hlt HI HIE hws hps hpsl hwsl
                          obtain ⟨A9, c9, e9⟩ := Kd.R_slice ST.out.wds
                          subst e9
                          obtain ⟨AX, cX, eX⟩ := Kd.R_slice ST.out.pst
                          subst eX
                          obtain ⟨ds, hds⟩ : ∃ x, dictPackR ws = x := ⟨_, rfl⟩
                          have hdl : ds.length ≤ 10000 := by rw [← hds]; exact dictPackR_len ws
                          have HDS := Aside0.mk hds
                          have HDL := Aside0.mk hdl
                          clear hds hdl
                          go_upto_region 26 with (first | (go_at_call 19; (refine (dictPack_calls A9 c9 ws _ (Kd.R_reads' ST.out.wds).2.2 (Kd.R_reads' ST.out.wds).2.1 (by have := HWSL.out; omega)).mono ?_); rintro e_ w10 ⟨v0_, rfl, ho, hb⟩; rw [HDS.out] at ho; obtain ⟨Ad, cd, rfl⟩ := Kd.R_slice ho; have HD := Aside0.mk (Kd.R_reads' ho).2.2; have HDC := Aside0.mk (Kd.R_reads' ho).2.1; clear ho; have n0_ := Aside0.mk (ST.out.step hb); clear ST hb; have ST := n0_; clear n0_) | (go_at_call 16; (refine (pack_sized.calls 8 Ad cd ds (sizedP ds) _ HD.out HDC.out (sized_eq _ (by have := HDL.out; omega) 8 (Nat.le_refl _))).mono ?_); rintro e_ w11 ⟨v0_, rfl, ho, hb⟩; obtain ⟨An, cn, rfl⟩ := Kd.R_slice ho; have HN := Aside0.mk (Kd.R_reads' ho).2.2; clear ho; have n0_ := Aside0.mk (ST.out.step hb); clear ST hb HD HDC; have ST := n0_; clear n0_) | ((with_reducible refine gate_builtin (b := .append) (xs := #[.tmp 81, .tmp 84]) rfl ?_); at_builtin; refine Kd.R_append_rows (Kd.int .u8) (w0 := w) w.heap.size rfl (.tmp 81) (.tmp 84) 29 5 (.int .u8 0) 1 rfl Try.underlying29 info5 rfl (by decide) (by omega) u4 Y (sizedP ds) _ _ _ (fun k => some k ≠ (Value.slice AX ps.length cX).ownBlock) (fun _ => False) rfl rfl ?aO ?aR (fun _ _ h => h) (fun _ h => h.elim) ?aF ?aB ?aS ?aL ?_; (case aO => exact ST.out.row); (case aR => exact HN.out); (case aF => exact fun k hk => Kd.fresh' (Kd.R_lt ST.out.pst) k hk); (case aB => exact ST.out.bel); (case aS => exact below_size ST.out.bel); (case aL => have h1_ := HYL.out; have h2_ := HDL.out; have h3_ := sizedP_len ds (by omega); omega); intro vo w7 ho hb hg hat; have n0_ := Aside0.mk (ST.out.app4 ho hg hat hb); clear ho hb hg hat ST HN; have ST := n0_; clear n0_) | ((with_reducible refine gate_builtin (b := .append) (xs := #[.tmp 85, .tmp 86]) rfl ?_); at_builtin; refine Kd.R_append_rows (Kd.int .u8) (w0 := w) w.heap.size rfl (.tmp 85) (.tmp 86) 29 5 (.int .u8 0) 1 rfl Try.underlying29 info5 rfl (by decide) (by omega) vo (Y ++ sizedP ds) ps _ _ _ (fun k => some k ≠ (Value.slice AX ps.length cX).ownBlock) (fun _ => False) rfl rfl ?aO ?aR (fun _ _ h => h) (fun _ h => h.elim) ?aF ?aB ?aS ?aL ?_; (case aO => exact ST.out.row); (case aR => exact (Kd.R_reads' ST.out.pst).2.2); (case aF => exact fun k hk => Kd.fresh' (Kd.R_lt ST.out.pst) k hk); (case aB => exact ST.out.bel); (case aS => exact below_size ST.out.bel); (case aL => have h1_ := HYL.out; have h2_ := HDL.out; have h3_ := sizedP_len ds (by omega); have h4_ := HPSL.out; simp only [List.length_append]; omega); intro vo w7 ho hb hg hat; have n0_ := Aside0.mk (ST.out.app4 ho hg hat hb); clear ho hb hg hat ST; have ST := n0_; clear n0_))
                          have hfull : Y ++ sizedP ds ++ ps = packIn ids keys lens terms so := by
                            unfold packIn
                            rw [← HY.out, ← HX.out, ← HNL.out, ← HDS.out, ← HWS.out, ← HPS.out]
                          obtain ⟨Z, hZ⟩ : ∃ Z, Y ++ sizedP ds ++ ps = Z := ⟨_, rfl⟩
                          have hZL : Z.length ≤ 100000000 := by
                            rw [← hZ]
                            simp only [List.length_append]
                            have h1 := HYL.out
                            have h2 := HPSL.out
                            have h3 := sizedP_len ds (by have := HDL.out; omega)
                            have h4 := HDL.out
                            omega
                          rw [hZ] at ST hfull
                          have HZ := Aside0.mk hfull
                          have HZW := Aside0.mk (show frame_Wrap.f 8 83 Z = some (wrapP Z) from wrap_eq Z (by omega) 8 (Nat.le_refl _))
                          clear hZ hZL hfull
                          obtain ⟨AZ, cZ, eZ⟩ := Kd.R_slice ST.out.row
                          subst eZ
                          go_wp2_with (first | (go_at_call 20; (refine (frame_Wrap.calls 8 83 AZ cZ Z (wrapP Z) _ (Kd.R_reads' ST.out.row).2.2 (Kd.R_reads' ST.out.row).2.1 HZW.out).mono ?_); rintro e_ w13 ⟨v0_, rfl, ho, hb⟩; have HFIN := Aside0.mk (Kd.R_lower ho (below_size ST.out.bel)); have HBF := Aside0.mk (below_step ST.out.bel hb); clear ho hb))
                          refine bodyPost_ret (results_tmp2 rfl _ _ _) rfl ?_
                          exact ⟨_, by rw [HR.out.2]; rfl, by rw [HR.out.1, ← HZ.out]; exact HFIN.out, HBF.out⟩

end Go.Proofs.Ytfhcolhiolgikaa.T
/- Written by hp.py, this session's own program, out of the translation of this seat: Lean functions for the Go functions, and the proof that each call comes to what its Lean function says. -/
namespace Go.Proofs.Ytfhcolhiolgikaa.T
open Go.RowKit Go.Proofs.YtfhcolhiolgikaaW.PrintWords Go.Proofs.YtfhcolhiolgikaaW.PrintLast Go.Proofs.YtfhcolhiolgikaaW.PrintMore
attribute [local go_sem] max2_int min2_int max_two min_two max_three min_three max_four min_four   -- for this text's walks alone
set_option linter.unusedVariables false
set_option linter.unusedSimpArgs false
/-! ### awake (6), by hand -/
open Go.Proofs.Ytfhcolhiolgikaa.Plain
set_option maxHeartbeats 8000000 in
set_option maxRecDepth 100000 in
theorem awake_calls (w : World) : Calls Try.prog 6 #[] w fun e w' => e = .returned (.bool true) ∧ Below w.heap.size w w' := by
  have hu26 := Try.underlying26
  go_enter Try.func6, Try.ntmps6
  go_upto_region 3 with (first | (go_at_call 8; have hc := pack_calls none 0 [] none 0 [] none 0 [] none 0 [] false w (Kd.C_nil _ _) (Kd.C_nil _ _) (Kd.C_nil _ _) (Kd.C_nil _ _) (Nat.le_refl _) (Nat.le_refl _) (fun x h => by cases h) (by decide) (fun x h => by cases h); rw [aw_pack, aw_packE] at hc; (refine hc.mono ?_); clear hc; rintro e_ w1 ⟨vb, rfl, hr, hb⟩; obtain ⟨A, c, rfl⟩ := Kd.R_slice hr; have HB := Aside0.mk hb; have BB := Aside0.mk (Kd.R_reads' hr).2.2; have LB := Aside0.mk (Kd.R_reads' hr).2.1; clear hr hb) | (go_at_call 10; have hc := unpack_calls A c awB w1 aw_byt BB.out LB.out; rw [aw_un] at hc; (refine hc.mono ?_); clear hc; rintro e_ w2 ⟨v0, v1, v2, v3, rfl, h0, h1, h2, h3, hb⟩; obtain ⟨A0, c0, rfl⟩ := Kd.R_slice (show Kd.R Kd.string 9 w2 w1.heap.size (fun _ => True) v0 [] from h0); obtain ⟨A1, c1, rfl⟩ := Kd.R_slice (show Kd.R (Kd.int .i64) 3 w2 w1.heap.size (fun _ => True) v1 [] from h1); obtain ⟨A2, c2, rfl⟩ := Kd.R_slice (show Kd.R (Kd.int .i64) 3 w2 w1.heap.size (fun _ => True) v2 [] from h2); obtain ⟨A3, c3, rfl⟩ := Kd.R_slice (show Kd.R k44 44 w2 w1.heap.size (fun _ => True) v3 [] from h3); have H0 := Aside0.mk (show Kd.R Kd.string 9 w2 w1.heap.size (fun _ => True) (.slice A0 0 c0) [] from h0); have H1 := Aside0.mk (show Kd.R (Kd.int .i64) 3 w2 w1.heap.size (fun _ => True) (.slice A1 0 c1) [] from h1); have H2 := Aside0.mk (show Kd.R (Kd.int .i64) 3 w2 w1.heap.size (fun _ => True) (.slice A2 0 c2) [] from h2); have H3 := Aside0.mk (show Kd.R k44 44 w2 w1.heap.size (fun _ => True) (.slice A3 0 c3) [] from h3); have m0_ := Aside0.mk (below_step HB.out hb); have m1_ := Aside0.mk (Kd.C_below BB.out hb); clear HB BB; have HB := m0_; have BB := m1_; clear m0_ m1_; clear h0 h1 h2 h3 hb))
  have m0_ := Aside0.mk (below_alloc HB.out (.cells #[.slice A0 0 c0, .slice A1 0 c1, .slice A2 0 c2, .slice A3 0 c3, .bool false] 26))
  have hal := below_alloc (Below.refl w2.heap.size w2) (.cells #[.slice A0 0 c0, .slice A1 0 c1, .slice A2 0 c2, .slice A3 0 c3, .bool false] 26)
  have m1_ := Aside0.mk (Kd.C_below BB.out hal)
  have m2_ := Aside0.mk (Kd.R_below H0.out hal)
  have m3_ := Aside0.mk (Kd.R_below H1.out hal)
  have m4_ := Aside0.mk (Kd.R_below H2.out hal)
  have m5_ := Aside0.mk (Kd.R_below H3.out hal)
  have BT := Aside0.mk (blk_new w2 (.cells #[.slice A0 0 c0, .slice A1 0 c1, .slice A2 0 c2, .slice A3 0 c3, .bool false] 26))
  clear HB BB H0 H1 H2 H3 hal
  have HB := m0_
  have BB := m1_
  have H0 := m2_
  have H1 := m3_
  have H2 := m4_
  have H3 := m5_
  clear m0_ m1_ m2_ m3_ m4_ m5_
  change Code.wp _ _ _ _ (w2.alloc (.cells #[.slice A0 0 c0, .slice A1 0 c1, .slice A2 0 c2, .slice A3 0 c3, .bool false] 26))
  generalize (w2.alloc (.cells #[.slice A0 0 c0, .slice A1 0 c1, .slice A2 0 c2, .slice A3 0 c3, .bool false] 26)) = w3 at *
  generalize w2.heap.size = T at *
  have t0 : w3.cell? ⟨T, 0, none⟩ = some (.slice A0 0 c0) := (blk_cell BT.out 0).trans rfl
  have t1 : w3.cell? ⟨T, 1, none⟩ = some (.slice A1 0 c1) := (blk_cell BT.out 1).trans rfl
  have t2 : w3.cell? ⟨T, 2, none⟩ = some (.slice A2 0 c2) := (blk_cell BT.out 2).trans rfl
  have t3 : w3.cell? ⟨T, 3, none⟩ = some (.slice A3 0 c3) := (blk_cell BT.out 3).trans rfl
  have t4 : w3.cell? ⟨T, 4, none⟩ = some (.bool false) := (blk_cell BT.out 4).trans rfl
  go_wp2_with (first | (go_at_call 11; (refine (catchwordref08_Same.calls 100 A0 c0 [] A1 c1 [] A2 c2 [] A3 c3 [] false none 0 [] none 0 [] none 0 [] none 0 [] false true _ (Kd.R_reads' H0.out).2.2 (Nat.zero_le _) (Kd.R_reads' H1.out).2.2 (Nat.zero_le _) (Kd.R_reads' H2.out).2.2 (Nat.zero_le _) (Kd.R_reads' H3.out).2.2 (Nat.zero_le _) (Kd.C_nil _ _) (Nat.le_refl _) (Kd.C_nil _ _) (Nat.le_refl _) (Kd.C_nil _ _) (Nat.le_refl _) (Kd.C_nil _ _) (Nat.le_refl _) aw_same).mono ?_); rintro e_ w4 ⟨rfl, hb⟩; have m0_ := Aside0.mk (below_step HB.out hb); have m1_ := Aside0.mk (Kd.C_below BB.out hb); have m2_ := Aside0.mk (blk_below BT.out hb); have m3_ := Aside0.mk (Kd.R_below H0.out hb); have m4_ := Aside0.mk (Kd.R_below H1.out hb); have m5_ := Aside0.mk (Kd.R_below H2.out hb); have m6_ := Aside0.mk (Kd.R_below H3.out hb); clear HB BB BT H0 H1 H2 H3; have HB := m0_; have BB := m1_; have BT := m2_; have H0 := m3_; have H1 := m4_; have H2 := m5_; have H3 := m6_; clear m0_ m1_ m2_ m3_ m4_ m5_ m6_; clear t0 t1 t2 t3 t4 hb; have t0 : w4.cell? ⟨T, 0, none⟩ = some (.slice A0 0 c0) := (blk_cell BT.out 0).trans rfl; have t1 : w4.cell? ⟨T, 1, none⟩ = some (.slice A1 0 c1) := (blk_cell BT.out 1).trans rfl; have t2 : w4.cell? ⟨T, 2, none⟩ = some (.slice A2 0 c2) := (blk_cell BT.out 2).trans rfl; have t3 : w4.cell? ⟨T, 3, none⟩ = some (.slice A3 0 c3) := (blk_cell BT.out 3).trans rfl; have t4 : w4.cell? ⟨T, 4, none⟩ = some (.bool false) := (blk_cell BT.out 4).trans rfl) | (go_at_call 13; have hal := below_alloc (Below.refl w4.heap.size w4) (.cells #[.int .u8 0, .int .u8 0, .int .u8 1, .int .u8 0] 5); (refine (catchwordref02_Wrap.calls 100 83 (some ⟨w4.heap.size, 0, none⟩) 4 [0, 0, 1, 0] awB (w4.alloc (.cells #[.int .u8 0, .int .u8 0, .int .u8 1, .int .u8 0] 5)) (wr_lit [0, 0, 1, 0] (blk_new w4 (.cells #[.int .u8 0, .int .u8 0, .int .u8 1, .int .u8 0] 5)) rfl (by decide)) (by decide) aw_ref).mono ?_); rintro e_ w5 ⟨vx, rfl, hr, hb⟩; obtain ⟨Ax, cx, rfl⟩ := Kd.R_slice hr; have hbb := below_step hal hb; have m0_ := Aside0.mk (below_step HB.out hbb); have m1_ := Aside0.mk (Kd.C_below BB.out hbb); have m2_ := Aside0.mk (blk_below BT.out hbb); have m3_ := Aside0.mk (Kd.R_below H0.out hbb); have m4_ := Aside0.mk (Kd.R_below H1.out hbb); have m5_ := Aside0.mk (Kd.R_below H2.out hbb); have m6_ := Aside0.mk (Kd.R_below H3.out hbb); clear HB BB BT H0 H1 H2 H3; have HB := m0_; have BB := m1_; have BT := m2_; have H0 := m3_; have H1 := m4_; have H2 := m5_; have H3 := m6_; clear m0_ m1_ m2_ m3_ m4_ m5_ m6_; have BX := Aside0.mk (Kd.R_reads' hr).2.2; have LX := Aside0.mk (Kd.R_reads' hr).2.1; clear t0 t1 t2 t3 t4 hr hb hal hbb; have t0 : w5.cell? ⟨T, 0, none⟩ = some (.slice A0 0 c0) := (blk_cell BT.out 0).trans rfl; have t1 : w5.cell? ⟨T, 1, none⟩ = some (.slice A1 0 c1) := (blk_cell BT.out 1).trans rfl; have t2 : w5.cell? ⟨T, 2, none⟩ = some (.slice A2 0 c2) := (blk_cell BT.out 2).trans rfl; have t3 : w5.cell? ⟨T, 3, none⟩ = some (.slice A3 0 c3) := (blk_cell BT.out 3).trans rfl; have t4 : w5.cell? ⟨T, 4, none⟩ = some (.bool false) := (blk_cell BT.out 4).trans rfl) | (go_at_call 12; (refine (catchwordref01_Bytes.calls 100 A c awB Ax cx awB true _ BB.out LB.out BX.out LX.out aw_bytes).mono ?_); rintro e_ w6 ⟨rfl, hd⟩; have hb := drawn_below hd; have m0_ := Aside0.mk (below_step HB.out hb); have m1_ := Aside0.mk (Kd.C_below BB.out hb); have m2_ := Aside0.mk (blk_below BT.out hb); have m3_ := Aside0.mk (Kd.R_below H0.out hb); have m4_ := Aside0.mk (Kd.R_below H1.out hb); have m5_ := Aside0.mk (Kd.R_below H2.out hb); have m6_ := Aside0.mk (Kd.R_below H3.out hb); clear HB BB BT H0 H1 H2 H3; have HB := m0_; have BB := m1_; have BT := m2_; have H0 := m3_; have H1 := m4_; have H2 := m5_; have H3 := m6_; clear m0_ m1_ m2_ m3_ m4_ m5_ m6_; clear t0 t1 t2 t3 t4 hd hb; have t0 : w6.cell? ⟨T, 0, none⟩ = some (.slice A0 0 c0) := (blk_cell BT.out 0).trans rfl; have t1 : w6.cell? ⟨T, 1, none⟩ = some (.slice A1 0 c1) := (blk_cell BT.out 1).trans rfl; have t2 : w6.cell? ⟨T, 2, none⟩ = some (.slice A2 0 c2) := (blk_cell BT.out 2).trans rfl; have t3 : w6.cell? ⟨T, 3, none⟩ = some (.slice A3 0 c3) := (blk_cell BT.out 3).trans rfl; have t4 : w6.cell? ⟨T, 4, none⟩ = some (.bool false) := (blk_cell BT.out 4).trans rfl) | (go_at_call 9; have hc := segmay_calls A0 c0 [] A1 c1 [] A2 c2 [] A3 c3 [] false w6 (Kd.R_reads' H0.out).2.2 (Kd.R_reads' H1.out).2.2 (Kd.R_reads' H2.out).2.2 (Kd.R_reads' H3.out).2.2 (fun x h => by cases h) (by decide) (fun x h => by cases h); rw [aw_may] at hc; (refine hc.mono ?_); clear hc; rintro e_ w7 ⟨rfl, hb⟩; have m0_ := Aside0.mk (below_step HB.out hb); clear HB hb; have HB := m0_; clear m0_))
  go_ret
  exact ⟨rfl, HB.out⟩

end Go.Proofs.Ytfhcolhiolgikaa.T
