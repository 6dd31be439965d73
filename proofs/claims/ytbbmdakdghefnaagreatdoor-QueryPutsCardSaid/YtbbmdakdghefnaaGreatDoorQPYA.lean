import Derived.Test.YtbbmdakdghefnaaGreatDoorQPM
import Derived.Test.YtbbmdakdghefnaaGreatDoorQPU
/- Texts of this claim, laid together by a program (merge.py): Tm. -/
namespace Go.Proofs.YtbbmdakdghefnaaGreatDoor.T
open Go.RowKit Go.Proofs.YtbbmdakdghefnaaGreatDoorW.PrintWords Go.Proofs.YtbbmdakdghefnaaGreatDoorW.PrintLast Go.Proofs.YtbbmdakdghefnaaGreatDoorW.PrintMore
attribute [local go_sem] max2_int min2_int max_two min_two max_three min_three max_four min_four
set_option linter.unusedVariables false
set_option linter.unusedSimpArgs false
theorem info71w : (Tryz.prog.info? 71).map (fun i => (i.zero, i.size, i.bytes)) = some (some (.agg #[(.string ⟨#[]⟩), (.slice none 0 0)]), 2, 40) := by kernel_rfl
def posN : List ByteArray → ByteArray → Option Nat
 | [], _ => none
 | x :: l, v => if x = v then some 0 else (posN l v).map (· + 1)
theorem posN_append (v x : ByteArray) : ∀ names : List ByteArray, posN (names ++ [v]) x = match posN names x with | some i => some i | none => if v = x then some names.length else none
 | [] => by
  simp only [List.nil_append, posN, List.length_nil]
  split <;> rfl
 | y :: l => by
  simp only [List.cons_append, posN, posN_append v x l, List.length_cons]
  split
  · rfl
  ·
   cases posN l x with
   | some i => rfl
   | none =>
    simp only [Option.map_none]
    split <;> rfl
theorem posN_lt (v : ByteArray) : ∀ (names : List ByteArray) (i : Nat), posN names v = some i → i < names.length
 | [], _, h => by cases h
 | y :: l, i, h => by
  simp only [posN] at h
  split at h
  ·
   cases h
   simp
  ·
   obtain ⟨j, hj, rfl⟩ := Option.map_eq_some_iff.1 h; have := posN_lt v l j hj; simp only [List.length_cons]; omega
def ixOf (names : List ByteArray) (v : ByteArray) : Int := ((posN names v).getD 0 : Nat)
def NamesAt (w : World) (b : Nat) (names : List ByteArray) : Prop := ∃ D : DataW Unit, w.ownsMap Tryz.prog 9 (plainElem Tryz.prog 3) b names.length D ∧
 ∀ v l, keyOf Tryz.prog 9 (.string v) = some l → D.atKey l (.lit (.int .i64 0)) = .lit (.int .i64 (ixOf names v)) ∧ Maps.has D l = (posN names v).isSome
theorem namesAt_made (w : World) : NamesAt (w.alloc (.map #[] 0)) w.heap.size [] := ⟨.map [], World.ownsMap_made w _ _ _, fun v l _ => ⟨rfl, rfl⟩⟩
theorem namesAt_lt {w : World} {b : Nat} {names : List ByteArray} (h : NamesAt w b names) : b < w.heap.size := by
 obtain ⟨D, h1, _⟩ := h; exact h1.lt
theorem namesAt_map {w : World} {b : Nat} {names : List ByteArray} (h : NamesAt w b names) : ∃ es clk, w.heap[b]? = some (.map es clk) := by
 obtain ⟨D, ⟨es, clk, he, _⟩, _⟩ := h; exact ⟨es, clk, he⟩
theorem namesAt_keep {w w1 : World} {b : Nat} {names : List ByteArray} (h : NamesAt w b names) (hb : w1.heap[b]? = w.heap[b]?) : NamesAt w1 b names := by
 obtain ⟨D, ⟨es, clk, he, F, hs, hD⟩, h2⟩ := h; exact ⟨D, ⟨es, clk, hb.trans he, F, hs, hD⟩, h2⟩
theorem namesAt_below {w w1 : World} {b : Nat} {names : List ByteArray} (h : NamesAt w b names) (hb : Below w.heap.size w w1) : NamesAt w1 b names := namesAt_keep h (hb.block b (namesAt_lt h))
theorem kvN_inj {x y : ByteArray} (h : (Value.string x) = .string y) : x = y := by injection h
theorem namesAt_look {w : World} {b : Nat} {names : List ByteArray} (h : NamesAt w b names) {v : ByteArray} (hv : v.size ≤ maxLen) :
  (Instr.lookup 61 (.map (some b)) (.string v) true).run Tryz.prog w = .ok (.tuple #[.int .i64 (ixOf names v), .bool (posN names v).isSome]) w := by
 obtain ⟨D, own, h2⟩ := h; obtain ⟨l, hk⟩ := key9 (s := v) hv; obtain ⟨u, ps, hrun, hv⟩ := own.look_ok keyed9 Tryz.underlying61 (zero3_ w) (plainElem_int Tryz.underlying3 z106_) hk; obtain ⟨c, rfl, hc, hwc⟩ := plainElem_int_inv Tryz.underlying3 hv; have hc1 := congrArg Prod.fst hc; have := (h2 v l hk).1.symm.trans hc1; simp only [DataW.lit.injEq, Lit.int.injEq, true_and] at this; rw [hrun, ← this, (h2 v l hk).2]
theorem namesAt_put {w : World} {b : Nat} {names : List ByteArray} (h : NamesAt w b names) {v : ByteArray} (hv : v.size ≤ maxLen) (hn : names.length < 4398046511104) (hnew : posN names v = none) :
  ∃ w', (Instr.mapUpdate 61 (.map (some b)) (.string v) (.int .i64 (names.length : Int))).run Tryz.prog w = .ok () w' ∧ NamesAt w' b (names ++ [v]) ∧ w.mapTurned w' b := by
 obtain ⟨D, h1, h2⟩ := h; obtain ⟨l, hk⟩ := key9 (s := v) hv
 have hw : (Lit.int .i64 (names.length : Int)).wf = true := by simp [Lit.wf, IntKind.min, IntKind.max, IntKind.bits, IntKind.signed]; omega
 obtain ⟨w', hrun, hown, hturn⟩ := h1.store keyed9 Tryz.underlying61 (by simp only [maxLen]; omega) hk (plainElem_int Tryz.underlying3 hw); refine ⟨w', hrun, ⟨_, by rw [List.length_append, List.length_singleton]; exact hown, ?_⟩, hturn⟩; intro x lx hx
 by_cases hxl : lx = l
 ·
  subst hxl; have hxv : x = v := kvN_inj (keyed9.inj hx hk); subst hxv; rw [Maps.atKey_put_same h1.isMap (keyed9.key hk), Maps.has_put_same h1.isMap (keyed9.key hk)]
  have hp : posN (names ++ [x]) x = some names.length := by rw [posN_append, hnew]; exact if_pos rfl
  unfold ixOf; rw [hp]; exact ⟨rfl, rfl⟩
 ·
  have hxv : x ≠ v := fun e => by subst e; exact hxl (Option.some.inj (hx.symm.trans hk))
  rw [Maps.atKey_put_other hxl, Maps.has_put_other hxl]; have h3 := h2 x lx hx
  have hp : posN (names ++ [v]) x = posN names x := by
   rw [posN_append]
   cases posN names x with
   | some i => rfl
   | none => exact if_neg (fun e => hxv e.symm)
  unfold ixOf at h3 ⊢; rw [hp]; exact h3
def post1 (doc k : Int) : S99 := ⟨doc, [k]⟩
def f71.l1 : Nat → Int → List ByteArray → Int → List S71 → Option (List S71)
  | 0, _, _, _, _ => none
  | n + 1, doc, ws, k, out => if k < (ws.length : Int) then (if 0 ≤ k then (if (rdOf ByteArray.empty ws k).size ≤ 9223372036854775807 ∧ out.length < 3518437208883 then
      (if (posN (out.map S71.f0) (rdOf ByteArray.empty ws k)).isSome = true then
        (if 0 < (rd_T71 out (ixOf (out.map S71.f0) (rdOf ByteArray.empty ws k))).f1.length ∧ (rd_T71 out (ixOf (out.map S71.f0) (rdOf ByteArray.empty ws k))).f1.length < 4398046511104 ∧ (rd_T99 (rd_T71 out (ixOf (out.map S71.f0) (rdOf ByteArray.empty ws k))).f1 (((rd_T71 out (ixOf (out.map S71.f0) (rdOf ByteArray.empty ws k))).f1.length : Int) - 1)).f0 ≠ doc then
          f71.l1 n doc ws (wrap64 (k + 1)) (out.set (ixOf (out.map S71.f0) (rdOf ByteArray.empty ws k)).toNat ⟨(rd_T71 out (ixOf (out.map S71.f0) (rdOf ByteArray.empty ws k))).f0, (rd_T71 out (ixOf (out.map S71.f0) (rdOf ByteArray.empty ws k))).f1 ++ [post1 doc k]⟩) else none)
       else f71.l1 n doc ws (wrap64 (k + 1)) ((out ++ [(⟨rdOf ByteArray.empty ws k, []⟩ : S71)]).set out.length (⟨rdOf ByteArray.empty ws k, [] ++ [post1 doc k]⟩ : S71))) else none) else none) else some out
def f71.l0 : Nat → List S55 → Int → List S71 → Option (List S71)
 | 0, _, _, _ => none
 | n + 1, cards, doc, out => if doc < (cards.length : Int) then (if 0 ≤ doc then ((f71.l1 n doc (rd_T55 cards doc).f2 0 out).bind fun out2 => f71.l0 n cards (wrap64 (doc + 1)) out2) else none) else some out
theorem size69w : (Tryz.prog.info? 69).map (·.size) = some 1 := by kernel_rfl
theorem R_new1 (W : World) (base : Nat) (k : Int) (hb : base ≤ W.heap.size) : Kd.R (Kd.int .i64) 3 (W.alloc (.cells #[.int .i64 k] 3)) base (fun q => q = W.heap.size) (.slice (some ⟨W.heap.size, 0, none⟩) 1 1) [k] := by
 refine ⟨fun q hq => by simpa [Value.ownBlock] using hq.symm, [.int .i64 k], ⟨rfl, .inr ⟨W.heap.size, 1, #[.int .i64 k], rfl, hb, blk_new _ _, Nat.le_refl _, z106_, rfl, rfl⟩⟩, rfl, fun j p hj => ?_⟩; obtain ⟨hl, hp⟩ := List.getElem?_eq_some_iff.1 hj
 obtain rfl : j = 0 := by simpa using hl
 simp at hp
 subst hp
 rfl
theorem map_set_same (X : List S71) (j : Nat) (y : S71) (hj : j < X.length) (h : (rd_T71 X (j : Int)).f0 = y.f0) : (X.set j y).map S71.f0 = X.map S71.f0 := by
 apply List.ext_getElem z219_; intro i h1 h2; simp only [List.getElem_map, List.getElem_set]
 split
 ·
  rename_i e
  subst e; rw [← h]; simp [rd_T71, List.getD_eq_getElem?_getD, List.getElem?_eq_getElem hj]
 · rfl
theorem rd_last (X : List S71) (y : S71) : rd_T71 (X ++ [y]) ((X.length : Nat) : Int) = y := by simp [rd_T71, List.getD_eq_getElem?_getD]
set_option maxHeartbeats 8000000 in
set_option maxRecDepth 100000 in
theorem f71.calls (n : Nat) (A : Option Addr) (c : Nat) (cards : List S55) (out : List S71) (w : World) (hr : Kd.C k55 w A cards.length cards) (hc : cards.length ≤ c) (h : f71.l0 n cards 0 [] = some out)
  (hn : (out.map S71.f0).Nodup) (hp : 0 < out.length) (hfew : out.length < 4611686018427387904) :
  Calls Tryz.prog 58 #[.slice A cards.length c] w fun e w' => ∃ A c s, e = .returned (.slice A out.length c) ∧ out.length ≤ c ∧ s.Perm out ∧ s.Pairwise (fun x y => cmpN x.f0 y.f0 < 0) ∧ (∀ W', Kept w' W' (fun k => k < w.heap.size) → Kd.C k71 W' A out.length s) ∧ Below w.heap.size w w' := by
 have HC := A_ hr; have H' := A_ h; have HND := A_ hn; have HPO := A_ hp; have HFE := A_ hfew; have hu71 := Tryz.underlying71; have hu55 := Tryz.underlying55; have hu99 := Tryz.underlying99; have hmm : (Instr.makeMap 61 none).run Tryz.prog w = .ok (.map (some w.heap.size)) (w.alloc (.map #[] 0)) := run_makeMap ..; clear hr hc h hn hp hfew; have HN0 := A_ (namesAt_made w); have HB0 := A_ (below_alloc (Below.refl w.heap.size w) (.map #[] 0)); go_enter Tryz.func58, Tryz.ntmps58; go_wp2; clear hmm; obtain ⟨gm, hgm⟩ : ∃ gm, gm = w.heap.size := ⟨_, rfl⟩; rw [← hgm]; have HGM := A_ hgm; have HN := A_ (show NamesAt (w.alloc (.map #[] 0)) gm [] by rw [hgm]; exact HN0.out); clear hgm HN0
 go_loopg [4, 16] n (fun kq v4 v16 w' => ∃ (doc : Int) (o1 : List S71), v16 = .int .i64 doc ∧ Aside0 (f71.l0 kq cards doc o1 = some out) ∧ Aside0 (Kd.S k71 71 w' w.heap.size (fun q => q ≠ gm) v4 o1) ∧ Aside0 (NamesAt w' gm (o1.map S71.f0)) ∧ Aside0 (Below w.heap.size w w'))
 case atStart => exact ⟨0, [], rfl, H', ⟨Kd.S_nil _ _ _ _ _⟩, HN, HB0⟩
 case round =>
  clear H' HN HB0; obtain ⟨doc, o1, rfl, HA, HS, HN, HB⟩ := hrel
  cases gk with
  | zero => exact absurd HA.out (by simp [f71.l0])
  | succ n1 =>
  have H := HA.out; clear HA; simp only [f71.l0] at H
  by_cases h1 : doc < (cards.length : Int)
  ·
   rw [if_pos h1] at H; have d1 : decide (doc < (cards.length : Int)) = true := decide_eq_true h1
   by_cases h0 : 0 ≤ doc
   ·
    rw [if_pos h0] at H; obtain ⟨o2, hl1, H⟩ := bm_ H; have H0 := A_ H; have HL1 := A_ hl1; obtain ⟨ad, Aw, cw, ea, hx0, hx1, hx2, hcw, hrw⟩ := at_T55 HC.out doc h0 h1; cases ea; have hx0 := (HB.out.cell (World.block_lt_of_cell? w _ hx0)).trans hx0; have hx1 := (HB.out.cell (World.block_lt_of_cell? w _ hx1)).trans hx1; have hx2 := (HB.out.cell (World.block_lt_of_cell? w _ hx2)).trans hx2; have HRW := A_ hrw; have p0 := eq_true h0; have q0 := eq_true h1; clear H h0 h1 hl1 hrw hcw; go_wp2
    go_loopg [4, 24] n1 (fun kq v4 v24 w' => ∃ (k : Int) (o : List S71), v24 = .int .i64 k ∧ Aside0 (f71.l1 kq doc (rd_T55 cards doc).f2 k o = some o2) ∧ Aside0 (Kd.S k71 71 w' w.heap.size (fun q => q ≠ gm) v4 o) ∧ Aside0 (NamesAt w' gm (o.map S71.f0)) ∧ Aside0 (Below w.heap.size w w'))
    case atStart => exact ⟨0, o1, rfl, HL1, ⟨Kd.S_alloc HS.out _⟩, ⟨namesAt_below HN.out (below_alloc (Below.refl _ _) _)⟩, ⟨below_alloc HB.out _⟩⟩
    case round =>
     clear HL1 HS HN HB hx0 hx1 hx2; obtain ⟨k, o, rfl, HA, HS, HN, HB⟩ := hrel; obtain ⟨A4, c4, rfl⟩ := Kd.S_slice HS.out
     cases gk with
     | zero => exact absurd HA.out (by simp [f71.l1])
     | succ n2 =>
     have H := HA.out; clear HA; simp only [f71.l1] at H
     by_cases h1 : k < ((rd_T55 cards doc).f2.length : Int)
     ·
      rw [if_pos h1] at H; have c1_ : decide (k < ((rd_T55 cards doc).f2.length : Int)) = true := decide_eq_true h1
      by_cases h0 : 0 ≤ k
      ·
       rw [if_pos h0] at H; obtain ⟨adw, ea, hxw⟩ := Kd.at_string HRW.out k h0 h1; cases ea; have hxw := (HB.out.cell (World.block_lt_of_cell? w _ hxw)).trans hxw; have r0 := eq_true h0; have r1 := eq_true h1; generalize rdOf ByteArray.empty (rd_T55 cards doc).f2 k = wd at *
       by_cases hsz : wd.size ≤ 9223372036854775807 ∧ o.length < 3518437208883
       ·
        rw [if_pos hsz] at H; have HSZ := A_ hsz
        cases hp : posN (o.map S71.f0) wd with
        | none =>
         rw [hp] at H; simp only [Option.isSome_none, Bool.false_eq_true, if_false] at H; have H' := A_ H; have hlook := namesAt_look HN.out (v := wd) (by simp only [maxLen]; omega); unfold ixOf at hlook; rw [hp] at hlook; simp only [Option.isSome_none, Option.getD_none] at hlook; obtain ⟨w2, hput, hn2, hturn⟩ := namesAt_put HN.out (v := wd) (by simp only [maxLen]; omega) (by rw [List.length_map]; omega) hp; rw [List.length_map] at hput; have HN2 := A_ (show NamesAt w2 gm ((o ++ [(⟨wd, []⟩ : S71)]).map S71.f0) by rw [List.map_append]; exact hn2); have HS2 := A_ (Kd.S_grown HS.out hturn.grown (fun q hq e => hq (Option.some.inj e))); have HB2 := A_ (HB.out.grown hturn.grown (below_size HB.out) (fun q e => by cases e; rw [HGM.out]; exact Nat.le_refl _)); have hxj := rd_last o (⟨wd, []⟩ : S71); have HXJ := A_ hxj; have hjl : o.length < (o ++ [(⟨wd, []⟩ : S71)]).length := z219_; have HJL := A_ hjl; clear H h0 h1 hsz hp hn2 hturn hxj hjl HS HN HB; have j0 : (0 : Int) ≤ ((o.length : Nat) : Int) := z161_; have j1 : ((o.length : Nat) : Int) < ((o ++ [(⟨wd, []⟩ : S71)]).length : Int) := z223_; replace j0 := eq_true j0; replace j1 := eq_true j1
         go_wp2_with (first | ((with_reducible refine gate_builtin (b := .append) (xs := #[.tmp 42, .tmp 45]) rfl ?_); at_builtin; refine Kd.S_append k71 (w0 := w) w.heap.size rfl (.tmp 42) (.tmp 45) 43 71 (.agg #[(.string ⟨#[]⟩), (.slice none 0 0)]) 40 rfl Tryz.underlying43 info71w rfl z106_ z161_ _ o (⟨wd, []⟩ : S71) [.string wd, .slice none 0 0] (fun q => q ≠ gm) (fun _ => False) rfl z107_ (k71_mkM _ _ _ (⟨wd, []⟩ : S71) (Kd.R_nil _ _ _ _ _)) (fun _ h => h.elim) (fun q hq => by have := namesAt_lt HN2.out; omega) (Kd.S_mono HS2.out (fun q hq => ⟨hq, fun h => h⟩)) HB2.out (below_size HB2.out) (by have := HSZ.out.2; omega) ?_; intro v5 w5 ho hb hg hat; have HSX := A_ ho; have HBX := A_ hb; have HNX := A_ (namesAt_keep HN2.out (hg.block gm (namesAt_lt HN2.out) (fun e => (Kd.S_R HS2.out).1 gm e.symm rfl))); clear ho hb hg hat HS2 HB2 HN2 hlook hput; obtain ⟨g, cap, evX, hgb, hgl, _⟩ := Kd.S_form HSX.out (Nat.lt_of_le_of_lt (Nat.zero_le _) HJL.out); (first | subst evX | cases evX); have HGG := A_ ((Kd.S_R HSX.out).1 g z221_); obtain ⟨oki, cc, hcl, hM, hcc, hfr, hoki, hH⟩ := Kd.S_elem HSX.out z71 (o.length : Int) z161_ (by have := HJL.out; omega); replace hM : k71.M _ w.heap.size oki (rd_T71 (o ++ [(⟨wd, []⟩ : S71)]) (o.length : Int)) cc := hM; rw [HXJ.out] at hM; obtain ⟨vp, ecc, hRp⟩ := k71_openM hM; subst ecc; obtain ⟨Ap, cp, evp⟩ := Kd.R_slice hRp; subst evp; replace hRp : k99.R 99 _ w.heap.size oki (.slice Ap 0 cp) ([] : List S99) := hRp; have hcp : World.cell? _ ⟨g, (o.length : Int).toNat * 2 + 1, none⟩ = some (.slice Ap _ cp) := hcc 1 _ rfl; have hfp : World.frozen? _ ⟨g, (o.length : Int).toNat * 2 + 1, none⟩ = false := hfr 1; (try rw [Int.toNat_natCast] at hcp hfp); have HH := A_ (Kd.H_widen hH); have HRP := A_ hRp; have HWX := A_ (below_size HBX.out); clear hM hcc hfr hoki hH hcl hRp hgb hgl) | ((with_reducible refine gate_builtin (b := .append) (xs := #[.tmp 82, .tmp 87]) rfl ?_); at_builtin; refine Kd.R_append k99 (w0 := w) (W := w5.alloc (.cells #[.int .i64 k] 3)) w.heap.size rfl (.tmp 82) (.tmp 87) 69 99 (.agg #[(.int .i64 0), (.slice none 0 0)]) 32 rfl Tryz.underlying69 info99 rfl z106_ z161_ (.slice Ap 0 cp) ([] : List S99) (post1 doc k) [.int .i64 doc, .slice (some ⟨w5.heap.size, 0, none⟩) 1 1] (fun q => oki q ∨ q ≠ gm ∧ w5.heap.size ≤ q) (fun q => q = w5.heap.size) rfl z107_ (k99_mkM _ _ _ (post1 doc k) (R_new1 w5 w.heap.size k HWX.out)) (fun q hq => z244_) (fun q hq => .inr ⟨by have := namesAt_lt HNX.out; rw [World.size_alloc] at hq; omega, by rw [World.size_alloc] at hq; omega⟩) (Kd.R_alloc (Kd.R_mono HRP.out (fun q h => .inl h)) _) (below_alloc HBX.out _) (by rw [World.size_alloc]; have := HWX.out; omega) z219_ ?_; intro v6 w6 ho hb hg hat; obtain ⟨A6, c6, ev6⟩ := Kd.R_slice ho; subst ev6; have HR6 := A_ ho; have HB6 := A_ hb; have HH6 := A_ (Kd.H_grown (Kd.H_alloc HH.out (.cells #[.int .i64 k] 3)) hg (fun q e => .inl (HRP.out.1 q e))); have HN6 := A_ (namesAt_keep (namesAt_below HNX.out (below_alloc (Below.refl _ _) (.cells #[.int .i64 k] 3))) (hg.block gm (by rw [World.size_alloc]; have := namesAt_lt HNX.out; omega) (fun e => z160_))); clear ho hb hg hat) | ((with_reducible refine gate_store (t := 69) (p := 90) rfl ?_); refine Kd.H_store k71 (w0 := w) w.heap.size rfl rfl 69 (.tmp 90) (.tmp 88) rfl 71 (o.length : Int) 1 (o ++ [(⟨wd, []⟩ : S71)]) (⟨wd, ([] : List S99) ++ [post1 doc k]⟩ : S71) _ [_] _ (fun q => q ≠ gm) _ _ rfl ?hoff rfl rfl size69w ?hone HH6.out z161_ (by have := HJL.out; omega) (show 1 + 1 ≤ 2 from z161_) (k71_mkM _ _ _ (⟨wd, ([] : List S99) ++ [post1 doc k]⟩ : S71) HR6.out) (fun _ h => h) HB6.out ?_; (case hoff => first | rfl | (simp; done) | (simp; rfl)); (case hone => intro q hq; rw [List.mem_singleton.1 hq]; rfl); intro w7 ho7 hb7 hg7; have HS7 := A_ ho7; have HB7 := A_ hb7; have HN7 := A_ (show NamesAt w7 gm (((o ++ [(⟨wd, []⟩ : S71)]).set o.length (⟨wd, ([] : List S99) ++ [post1 doc k]⟩ : S71)).map S71.f0) by rw [map_set_same (o ++ [(⟨wd, []⟩ : S71)]) o.length _ HJL.out (by rw [HXJ.out])]; exact namesAt_keep HN6.out (hg7.block gm (namesAt_lt HN6.out) (fun e => HGG.out (Option.some.inj e).symm))); clear ho7 hb7 hg7))
         have HS8 : Aside0 (Kd.S k71 71 w7 w.heap.size (fun q => q ≠ gm) (.slice (some ⟨g, 0, none⟩) (o.length + 1) cap) ((o ++ [(⟨wd, []⟩ : S71)]).set o.length (⟨wd, [] ++ [post1 doc k]⟩ : S71))) := by
          have h := HS7.out; rw [List.length_append, List.length_singleton, Int.toNat_natCast] at h; exact ⟨h⟩
         go_roundg n2
         case measure => omega
         case rel => exact ⟨_, _, rfl, H', HS8, HN7, HB7⟩
        | some j =>
         have hix : ixOf (o.map S71.f0) wd = (j : Int) := by unfold ixOf; rw [hp]; rfl
         rw [hp, hix] at H; simp only [Option.isSome_some, if_true] at H; obtain ⟨x, hx⟩ : ∃ x, rd_T71 o (j : Int) = x := ⟨_, rfl⟩; rw [hx] at H
         by_cases hcnd : 0 < x.f1.length ∧ x.f1.length < 4398046511104 ∧ (rd_T99 x.f1 ((x.f1.length : Int) - 1)).f0 ≠ doc
         ·
          rw [if_pos hcnd, Int.toNat_natCast] at H; have H' := A_ H; have hjl := posN_lt wd _ _ hp; rw [List.length_map] at hjl; have HJL := A_ hjl; have hlook := namesAt_look HN.out (v := wd) (by simp only [maxLen]; omega); rw [hp, hix] at hlook; simp only [Option.isSome_some] at hlook; have HXJ := A_ hx; have HSX := HS; have HNX := HN; have HBX := HB; have HPL := A_ hcnd.2.1; have g1 : decide (0 < (x.f1.length : Int)) = true := decide_eq_true z161_; have g1' : decide (0 < x.f1.length) = true := decide_eq_true z161_; have hw1 : wrap64 ((x.f1.length : Int) - 1) = (x.f1.length : Int) - 1 := z225_
          have g2 : ((rd_T99 x.f1 ((x.f1.length : Int) - 1)).f0 == doc) = false := by simpa using hcnd.2.2
          obtain ⟨jn, hjn⟩ : ∃ jn : Int, (x.f1.length : Int) - 1 = jn := ⟨_, rfl⟩; rw [hjn] at g2 hw1; have hw2 : IntKind.i64.wrap ((x.f1.length : Int) - 1) = jn := (i64_w _).trans (by rw [← hw1, hjn]); have j0 : (0 : Int) ≤ (j : Int) := z161_; have j1 : (j : Int) < (o.length : Int) := z161_; have l0 : (0 : Int) ≤ jn := z161_; have l1 : jn < (x.f1.length : Int) := z161_; obtain ⟨g, cap, evX, hgb, hgl, _⟩ := Kd.S_form HSX.out (Nat.lt_of_le_of_lt (Nat.zero_le _) HJL.out); (first | subst evX | cases evX); have HGG := A_ ((Kd.S_R HSX.out).1 g z221_); obtain ⟨oki, cc, hcl, hM, hcc, hfr, hoki, hH⟩ := Kd.S_elem HSX.out z71 (j : Int) z161_ (by have := HJL.out; omega); replace hM : k71.M _ w.heap.size oki (rd_T71 o (j : Int)) cc := hM; rw [HXJ.out] at hM; obtain ⟨vp, ecc, hRp⟩ := k71_openM hM; subst ecc; obtain ⟨Ap, cp, evp⟩ := Kd.R_slice hRp; subst evp; have hcp : World.cell? _ ⟨g, (j : Int).toNat * 2 + 1, none⟩ = some (.slice Ap _ cp) := hcc 1 _ rfl; have hfp : World.frozen? _ ⟨g, (j : Int).toNat * 2 + 1, none⟩ = false := hfr 1
          (try rw [Int.toNat_natCast] at hcp hfp)
          have HH := A_ (Kd.H_widen hH); have HRP := A_ hRp; have HWX := A_ (below_size HBX.out); clear hM hcc hfr hoki hH hcl hRp hgb hgl; obtain ⟨adp, Al, cl, eap, hq0, _, _, _⟩ := at_T99 (Kd.R_reads' HRP.out).2.2 jn l0 l1; cases eap; replace j0 := eq_true j0; replace j1 := eq_true j1; replace l0 := eq_true l0; replace l1 := eq_true l1; clear H h0 h1 hsz hp hix hx hcnd hjl hjn HS HN HB
          go_wp2_with (first | fail | ((with_reducible refine gate_builtin (b := .append) (xs := #[.tmp 82, .tmp 87]) rfl ?_); at_builtin; refine Kd.R_append k99 (w0 := w) (W := wr.alloc (.cells #[.int .i64 k] 3)) w.heap.size rfl (.tmp 82) (.tmp 87) 69 99 (.agg #[(.int .i64 0), (.slice none 0 0)]) 32 rfl Tryz.underlying69 info99 rfl z106_ z161_ (.slice (some adp) x.f1.length cp) x.f1 (post1 doc k) [.int .i64 doc, .slice (some ⟨wr.heap.size, 0, none⟩) 1 1] (fun q => oki q ∨ q ≠ gm ∧ wr.heap.size ≤ q) (fun q => q = wr.heap.size) rfl z107_ (k99_mkM _ _ _ (post1 doc k) (R_new1 wr w.heap.size k HWX.out)) (fun q hq => z244_) (fun q hq => .inr ⟨by have := namesAt_lt HNX.out; rw [World.size_alloc] at hq; omega, by rw [World.size_alloc] at hq; omega⟩) (Kd.R_alloc (Kd.R_mono HRP.out (fun q h => .inl h)) _) (below_alloc HBX.out _) (by rw [World.size_alloc]; have := HWX.out; omega) (by have := HPL.out; omega) ?_; intro v6 w6 ho hb hg hat; obtain ⟨A6, c6, ev6⟩ := Kd.R_slice ho; rw [List.length_append, List.length_singleton] at ev6; subst ev6; have HR6 := A_ ho; have HB6 := A_ hb; have HH6 := A_ (Kd.H_grown (Kd.H_alloc HH.out (.cells #[.int .i64 k] 3)) hg (fun q e => .inl (HRP.out.1 q e))); have HN6 := A_ (namesAt_keep (namesAt_below HNX.out (below_alloc (Below.refl _ _) (.cells #[.int .i64 k] 3))) (hg.block gm (by rw [World.size_alloc]; have := namesAt_lt HNX.out; omega) (fun e => z160_))); clear ho hb hg hat) | ((with_reducible refine gate_store (t := 69) (p := 90) rfl ?_); refine Kd.H_store k71 (w0 := w) w.heap.size rfl rfl 69 (.tmp 90) (.tmp 88) rfl 71 (j : Int) 1 o (⟨x.f0, x.f1 ++ [post1 doc k]⟩ : S71) _ [_] _ (fun q => q ≠ gm) _ _ rfl ?hoff rfl rfl size69w ?hone HH6.out z161_ (by have := HJL.out; omega) (show 1 + 1 ≤ 2 from z161_) (k71_mkM _ _ _ (⟨x.f0, x.f1 ++ [post1 doc k]⟩ : S71) HR6.out) (fun _ h => h) HB6.out ?_; (case hoff => first | rfl | (simp; done) | (simp; rfl)); (case hone => intro q hq; rw [List.mem_singleton.1 hq]; rfl); intro w7 ho7 hb7 hg7; have HS7 := A_ ho7; have HB7 := A_ hb7; have HN7 := A_ (show NamesAt w7 gm ((o.set j (⟨x.f0, x.f1 ++ [post1 doc k]⟩ : S71)).map S71.f0) by rw [map_set_same o j _ HJL.out (by rw [HXJ.out])]; exact namesAt_keep HN6.out (hg7.block gm (namesAt_lt HN6.out) (fun e => HGG.out (Option.some.inj e).symm))); clear ho7 hb7 hg7))
          go_roundg n2
          case measure => omega
          case rel => exact ⟨_, _, rfl, H', HS7, HN7, HB7⟩
         ·
          rw [if_neg hcnd] at H; cases H
       ·
        rw [if_neg hsz] at H; cases H
      ·
       rw [if_neg h0] at H; cases H
     ·
      rw [if_neg h1] at H; have c1_ : decide (k < ((rd_T55 cards doc).f2.length : Int)) = false := decide_eq_false h1; obtain rfl := sj_ H; clear h1; go_wp2
      go_roundg n1
      case measure => omega
      case rel => exact ⟨_, o, rfl, H0, HS, HN, HB⟩
   ·
    rw [if_neg h0] at H; cases H
  ·
   rw [if_neg h1] at H; have d1 : decide (doc < (cards.length : Int)) = false := decide_eq_false h1; obtain rfl := sj_ H; clear h1
   go_wp2_with (go_at_call 91; (refine (sort91 w _ _ _ (Kd.S_mono HS.out (fun _ _ => trivial)) HB.out HND.out HPO.out HFE.out).mono ?_); rintro e w2 ⟨rfl, A9, c9, s9, ev9, hc9, hp9, hq9, hC9, hB9⟩; (first | subst ev9 | cases ev9); have HC9 := A_ (⟨hc9, hp9, hq9, hC9, hB9⟩ : _ ∧ _ ∧ _ ∧ _ ∧ _); clear hC9 hc9 hB9 hp9 hq9)
   go_ret; exact ⟨_, _, s9, rfl, HC9.out⟩
end Go.Proofs.YtbbmdakdghefnaaGreatDoor.T
