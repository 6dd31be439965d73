import Derived.DeepKeys4
import Derived.Maps.OwnSet
import Derived.WideKeyEntry
import Derived.Test.YtbbmdakdghefnaaGreatDoorQPA
/- Texts of this claim, laid together by a program (merge.py): Mp, Rd. -/
namespace Go.Proofs.YtbbmdakdghefnaaGreatDoor.T
open Go.RowKit Go.Proofs.YtbbmdakdghefnaaGreatDoorW.PrintWords Go.Proofs.YtbbmdakdghefnaaGreatDoorW.PrintLast Go.Proofs.YtbbmdakdghefnaaGreatDoorW.PrintMore
attribute [local go_sem] max2_int min2_int max_two min_two max_three min_three max_four min_four
set_option linter.unusedVariables false
set_option linter.unusedSimpArgs false
theorem drawn_below {w w1 : World} (h : Drawn0 w w1) : Below w.heap.size w w1 := by
 obtain ⟨n, rfl⟩ := h; exact pw_below_drewN (Below.refl _ _) n
/-- Block b is a map (keys of type K) of s entries (n: no fewer) that counts f. -/
def MapAt {α : Type} (kv : α → Value) (K : TypeId) (w : World) (b n : Nat) (f : α → Int) (s : Nat) : Prop :=
 ∃ D : DataW Unit, w.ownsMap Tryz.prog K (plainElem Tryz.prog 3) b n D ∧ (∀ v l, keyOf Tryz.prog K (kv v) = some l → D.atKey l (.lit (.int .i64 0)) = .lit (.int .i64 (f v)) ∧ Maps.has D l = decide (f v ≠ 0)) ∧ Maps.size D = s
theorem zero3_ (w : World) : (zeroValue 3).run Tryz.prog w = .ok (.int .i64 0) w := by kernel_rfl
theorem mapAt_made {α : Type} (kv : α → Value) {K : TypeId} (w : World) : MapAt kv K (w.alloc (.map #[] 0)) w.heap.size 0 (fun _ => 0) 0 :=
 ⟨.map [], World.ownsMap_made w _ _ _, fun v l _ => ⟨rfl, rfl⟩, rfl⟩
theorem mapAt_lt {α : Type} {kv : α → Value} {K : TypeId} {w : World} {b n s : Nat} {f : α → Int} (h : MapAt kv K w b n f s) : b < w.heap.size := by
 obtain ⟨D, h1, _⟩ := h; exact h1.lt
theorem mapAt_below {α : Type} {kv : α → Value} {K : TypeId} {w w1 : World} {b n s : Nat} {f : α → Int} (h : MapAt kv K w b n f s) (hb : Below w.heap.size w w1) : MapAt kv K w1 b n f s := by
 obtain ⟨D, h1, h2, h3⟩ := h; refine ⟨D, ?_, h2, h3⟩; have hlt := h1.lt; obtain ⟨es, clock, he, F, hs, hD⟩ := h1; exact ⟨es, clock, (hb.block b hlt).trans he, F, hs, hD⟩
theorem mapAt_look {α : Type} [DecidableEq α] {kv : α → Value} {K T : TypeId} {w : World} {b n s : Nat} {f : α → Int} (h : MapAt kv K w b n f s) (KL : Maps.Keyed Tryz.prog K) (ht : Tryz.prog.underlying T = some (.map K 3)) {v : α} {l : Lit} (hk : keyOf Tryz.prog K (kv v) = some l) :
  (Instr.lookup T (.map (some b)) (kv v) false).run Tryz.prog w = .ok (.int .i64 (f v)) w := by
 obtain ⟨D, h1, h2, h3⟩ := h; obtain ⟨c, hrun, hat, _⟩ := h1.lookup_int KL ht Tryz.underlying3 (zero3_ w) hk; have := (h2 v l hk).1.symm.trans hat; simp only [DataW.lit.injEq, Lit.int.injEq, true_and] at this; rw [this]; exact hrun
theorem mapAt_put {α : Type} [DecidableEq α] {kv : α → Value} {K T : TypeId} {w : World} {b n s : Nat} {f : α → Int} (h : MapAt kv K w b n f s) (KL : Maps.Keyed Tryz.prog K) (ht : Tryz.prog.underlying T = some (.map K 3)) {v : α} {l : Lit} (hk : keyOf Tryz.prog K (kv v) = some l) (hn : n < maxLen) (hinj : ∀ {x y : α}, kv x = kv y → x = y) {c : Int} (hc : c ≠ 0) (hw : (Lit.int .i64 c).wf = true) :
  ∃ w', (Instr.mapUpdate T (.map (some b)) (kv v) (.int .i64 c)).run Tryz.prog w = .ok () w' ∧ MapAt kv K w' b (n + 1) (fun x => if x = v then c else f x) (if f v = 0 then s + 1 else s) ∧ w.mapTurned w' b := by
 obtain ⟨D, h1, h2, h3⟩ := h; obtain ⟨w', hrun, hown, hturn⟩ := h1.store KL ht hn hk (plainElem_int Tryz.underlying3 hw); refine ⟨w', hrun, ⟨_, hown, ?_, ?_⟩, hturn⟩
 ·
  intro x lx hx
  by_cases hxl : lx = l
  ·
   subst hxl; have hxv : x = v := hinj (KL.inj hx hk); subst hxv; show _ = DataW.lit (Lit.int .i64 (if x = x then c else f x)) ∧ _ = decide ((if x = x then c else f x) ≠ 0); rw [if_pos rfl, Maps.atKey_put_same h1.isMap (KL.key hk), Maps.has_put_same h1.isMap (KL.key hk)]; exact ⟨rfl, (decide_eq_true hc).symm⟩
  ·
   have hxv : x ≠ v := fun e => by subst e; exact hxl (Option.some.inj (hx.symm.trans hk))
   show _ = DataW.lit (Lit.int .i64 (if x = v then c else f x)) ∧ _ = decide ((if x = v then c else f x) ≠ 0); rw [if_neg hxv, Maps.atKey_put_other hxl, Maps.has_put_other hxl]; exact h2 x lx hx
 ·
  rw [Maps.size_put (h1.tidy KL), (h2 v l hk).2, h3]
  by_cases hf : f v = 0
  · rw [if_pos hf, if_neg (by simp [hf])]
  · rw [if_neg hf, if_pos (by simp [hf])]
theorem mapAt_len {α : Type} [DecidableEq α] {kv : α → Value} {K T : TypeId} {w : World} {b n s : Nat} {f : α → Int} (h : MapAt kv K w b n f s) (ht : Tryz.prog.underlying T = some (.map K 3)) (ty : TypeId) : (Builtin.len_ #[T] ty #[.map (some b)]).run Tryz.prog w = .ok (.int .i64 s) w := by
 obtain ⟨D, h1, _, h3⟩ := h; rw [← h3]; exact h1.len ht ty
/-- 'm[k] op= v' by its two halves: the entry, and the store into it. -/
theorem mapAt_entry {α : Type} [DecidableEq α] {kv : α → Value} {K T : TypeId} {w : World} {b n s : Nat} {f : α → Int} (h : MapAt kv K w b n f s) (KL : WideMaps.KeyLaw Tryz.prog K) (ht : Tryz.prog.underlying T = some (.map K 3)) {v : α} {l : Lit} (hk : keyOf Tryz.prog K (kv v) = some l) (hn : n < maxLen) (hinj : ∀ {x y : α}, kv x = kv y → x = y) {c : Int} (hc : c ≠ 0) (hw : (Lit.int .i64 c).wf = true) :
  ∃ (v0 : Value) (st : Nat) (w1 w2 : World), (Instr.mapEntry T (.map (some b)) (kv v)).run Tryz.prog w = .ok (.tuple #[v0, goInt st]) w1 ∧ (Instr.lookup T (.map (some b)) (kv v) false).run Tryz.prog w1 = .ok (.int .i64 (f v)) w1 ∧ w.mapTurned w1 b ∧
   (Instr.entryStore T (.map (some b)) (goInt st) (.int .i64 c)).run Tryz.prog w1 = .ok () w2 ∧ MapAt kv K w2 b (n + 1) (fun x => if x = v then c else f x) (if f v = 0 then s + 1 else s) ∧ w.mapTurned w2 b := by
 have hlook := mapAt_look h (Maps.Keyed.of_law KL) ht hk; obtain ⟨wu, hu, hat, _⟩ := mapAt_put h (Maps.Keyed.of_law KL) ht hk hn hinj hc hw; obtain ⟨D, h1, h2, h3⟩ := h; obtain ⟨es, clock, hb, F, hs, hD⟩ := h1; obtain ⟨v0, st, es1, clock1, hrun, hv0, hst⟩ := WideElems.entry_then_store KL ht (fun u => zero3_ u) hb F hk; have hb1 : (ChangeMaps.setBlock w b (.map es1 clock1)).heap[b]? = some (.map es1 clock1) := ChangeMaps.heap_setBlock_same hb _; obtain ⟨es', clock', hes, hup⟩ := hst (ChangeMaps.setBlock w b (.map es1 clock1)) (.int .i64 c) hb1; obtain ⟨es0, clock0, hes0, hup0⟩ := hst (ChangeMaps.setBlock w b (.map es1 clock1)) v0 hb1
 have e2 : ChangeMaps.setBlock (ChangeMaps.setBlock w b (.map es1 clock1)) b (.map es' clock') = ChangeMaps.setBlock w b (.map es' clock') := by
  simp [ChangeMaps.setBlock]
 have ewu : wu = ChangeMaps.setBlock w b (.map es' clock') := by
  rw [hu] at hup
  injection hup
 refine ⟨v0, st, ChangeMaps.setBlock w b (.map es1 clock1), ChangeMaps.setBlock w b (.map es' clock'), hrun, ?_, ⟨es, clock, es1, clock1, hb, rfl⟩, by rw [hes, e2], by rw [← ewu]; exact hat, ⟨es, clock, es', clock', hb, rfl⟩⟩
 rcases KL.find w hk es.toList F.keys with ⟨f1, f2⟩ | ⟨j, e0, f1, f3, f4⟩
 ·
  have hr : (Instr.mapEntry T (.map (some b)) (kv v)).run Tryz.prog w = .ok (.tuple #[.int .i64 0, goInt clock]) (ChangeMaps.setBlock w b (.map (es.push ⟨kv v, .int .i64 0, clock⟩) (clock + 1))) := by
   simp [Instr.mapEntry, run_underlying ht, MapKept.run_getObj_map hb, KL.check w false hk, f1, zero3_, MapKept.run_setObj_map _ hb, Result.andThen, ChangeMaps.setBlock]
  rw [hr] at hrun; simp only [Result.ok.injEq] at hrun; obtain ⟨_, hw1⟩ := hrun
  have hl0 : (Instr.lookup T (.map (some b)) (kv v) false).run Tryz.prog w = .ok (.int .i64 0) w := by
   simp [Instr.lookup, run_underlying ht, MapKept.run_getObj_map hb, KL.check w _ hk, f1, zero3_, Result.andThen]
  have hf0 : f v = 0 := by
   rw [hlook] at hl0
   simpa using hl0
  rw [← hw1, hf0]; have hb2 : (ChangeMaps.setBlock w b (.map (es.push ⟨kv v, .int .i64 0, clock⟩) (clock + 1))).heap[b]? = some (.map (es.push ⟨kv v, .int .i64 0, clock⟩) (clock + 1)) := ChangeMaps.heap_setBlock_same hb _
  have hkeys : ∀ e ∈ (es.push ⟨kv v, .int .i64 0, clock⟩).toList, ∃ l, keyOf Tryz.prog K e.key = some l := by
   intro e he; simp only [Array.toList_push, List.mem_append, List.mem_singleton] at he
   rcases he with he | rfl
   · exact F.keys e he
   · exact ⟨l, hk⟩
  rcases KL.find (ChangeMaps.setBlock w b (.map (es.push ⟨kv v, .int .i64 0, clock⟩) (clock + 1))) hk _ hkeys with ⟨g1, g2⟩ | ⟨j, e0, g1, g3, g4⟩
  · exact absurd rfl (g2 ⟨kv v, .int .i64 0, clock⟩ z219_)
  ·
   have he0 : e0.val = .int .i64 0 := by
    have hm := List.mem_of_getElem? g3; simp only [Array.toList_push, List.mem_append, List.mem_singleton] at hm
    rcases hm with hm | rfl
    · exact absurd g4 (f2 e0 hm)
    · rfl
   rw [he0, Array.toList_push] at g1; simp [Instr.lookup, run_underlying ht, MapKept.run_getObj_map hb2, KL.check _ _ hk, g1, Result.andThen]
 ·
  have hj : es[j]? = some e0 := by simpa using f3
  have hsame : es.modify j (fun e => { e with key := kv v }) = es := by
   apply Array.ext'; rw [Array.toList_modify, ChangeMaps.modify_eq_set _ _ _ _ f3]
   have : ({ e0 with key := kv v } : MapEntry) = e0 := by rw [← f4]
   rw [this]; exact WideElems.set_self _ _ _ f3
  have hr : (Instr.mapEntry T (.map (some b)) (kv v)).run Tryz.prog w = .ok (.tuple #[e0.val, goInt e0.born]) (ChangeMaps.setBlock w b (.map es clock)) := by
   simp [Instr.mapEntry, run_underlying ht, MapKept.run_getObj_map hb, KL.check w false hk, f1, hj, f4, KL.stays w hk, hsame, MapKept.run_setObj_map _ hb, Result.andThen, ChangeMaps.setBlock]
  rw [hr] at hrun; simp only [Result.ok.injEq] at hrun; obtain ⟨_, hw1⟩ := hrun
  have hself : ChangeMaps.setBlock w b (.map es clock) = w := by
   have e : w.heap.setIfInBounds b (.map es clock) = w.heap := by
    apply Array.ext_getElem?; intro i
    by_cases hi : i = b
    ·
     subst hi; exact (ChangeMaps.heap_setBlock_same hb _).trans hb.symm
    · exact ChangeMaps.heap_setBlock_other hb _ hi
   unfold ChangeMaps.setBlock; rw [e]
  rw [← hw1, hself]; exact hlook
theorem keyed9 : Maps.Keyed Tryz.prog 9 := Maps.string_keyed Tryz.underlying9
theorem law82 : WideMaps.KeyLaw Tryz.prog 103 := deep_law (m := 3) z161_ z159_ z159_ z159_
theorem key9 {s : ByteArray} (h : s.size ≤ maxLen) : ∃ l, keyOf Tryz.prog 9 (.string s) = some l := ⟨_, WideMaps.keyOf_string_mk Tryz.underlying9 h⟩
theorem keyT82 : Tryz.prog.keyType 103 = true := by kernel_rfl
theorem cells82 : Tryz.prog.cellsOf 103 = 2 := by kernel_rfl
theorem cells3 : Tryz.prog.cellsOf 3 = 1 := by kernel_rfl
theorem key82 {a b : Int} (wa : (Lit.int .i64 a).wf = true) (wb : (Lit.int .i64 b).wf = true) : ∃ l, keyOf Tryz.prog 103 (.agg #[.int .i64 a, .int .i64 b]) = some l := by
 have hu := Tryz.underlying103
 have hf : (Value.agg #[.int .i64 a, .int .i64 b]).formed Tryz.prog 103 = true := by
  simp only [Value.formed, hu]; rw [cells82]
  rfl
 unfold keyOf; simp only [hu]; rw [if_pos (by rw [keyT82, hf]; rfl)]; have hs : Tryz.prog.types.size + 1 = (Tryz.prog.types.size - 1 + 1) + 1 := z159_; rw [hs]; unfold Program.keyLits; simp only [hu, Value.cells]
 have h3 : ∀ (d : Nat) (n : Int), (Lit.int .i64 n).wf = true → Tryz.prog.keyLits (d + 1) 3 [.int .i64 n] = some [.int .i64 n] := by
  intro d n hn; unfold Program.keyLits; simp only [Tryz.underlying3]; rw [if_pos ⟨trivial, hn⟩]
 rw [if_pos ⟨by rw [cells82]; rfl, by decide +kernel⟩]; generalize Tryz.prog.types.size - 1 = d; simp [List.mapM_cons, cells3, h3 d a wa, h3 d b wb]
def kvR (s : ByteArray) : Value := .string s
def signF (s : ByteArray) : Int := if s = ⟨#[33]⟩ then 4 else if s = ⟨#[124]⟩ then 3 else if s = ⟨#[38]⟩ then 2 else 0
def f106.f (s : ByteArray) : Option (Int × Bool) := if s.size ≤ maxLen then some (signF s, decide (signF s ≠ 0)) else none
def LooksAt (g : Nat) (es : Array MapEntry) (clk : Nat) : Prop := ∀ (W' : World) (s : ByteArray), W'.heap[g]? = some (.map es clk) → s.size ≤ maxLen →
 (Instr.lookup 61 (.map (some g)) (.string s) true).run Tryz.prog W' = .ok (.tuple #[.int .i64 (signF s), .bool (decide (signF s ≠ 0))]) W'
theorem kvR_inj {x y : ByteArray} (h : kvR x = kvR y) : x = y := by injection h
theorem turned_below {w0 w w' : World} {b B : Nat} (h : Below B w0 w) (ht : w.mapTurned w' b) (hb : B ≤ b) (hB : B ≤ w.heap.size) : Below B w0 w' :=
 h.grown ht.grown hB (fun k e => by injection e with e; omega)
theorem signs_run (W : World) : ∃ w2 w3 w4 es clk,
  (Instr.mapUpdate 61 (.map (some W.heap.size)) (.string ⟨#[38]⟩) (.int .i64 2)).run Tryz.prog (W.alloc (.map #[] 0)) = .ok () w2 ∧
  (Instr.mapUpdate 61 (.map (some W.heap.size)) (.string ⟨#[124]⟩) (.int .i64 3)).run Tryz.prog w2 = .ok () w3 ∧
  (Instr.mapUpdate 61 (.map (some W.heap.size)) (.string ⟨#[33]⟩) (.int .i64 4)).run Tryz.prog w3 = .ok () w4 ∧
  w4.heap[W.heap.size]? = some (.map es clk) ∧ LooksAt W.heap.size es clk ∧ Below W.heap.size W w4 := by
 have h0 := mapAt_made kvR (K := 9) W; obtain ⟨l1, hk1⟩ := key9 (s := ⟨#[38]⟩) z106_; obtain ⟨l2, hk2⟩ := key9 (s := ⟨#[124]⟩) z106_; obtain ⟨l3, hk3⟩ := key9 (s := ⟨#[33]⟩) z106_; obtain ⟨w2, r2, m2, t2⟩ := mapAt_put h0 keyed9 Tryz.underlying61 (v := ⟨#[38]⟩) hk1 z106_ kvR_inj (c := 2) z106_ z106_; obtain ⟨w3, r3, m3, t3⟩ := mapAt_put m2 keyed9 Tryz.underlying61 (v := ⟨#[124]⟩) hk2 z106_ kvR_inj (c := 3) z106_ z106_; obtain ⟨w4, r4, m4, t4⟩ := mapAt_put m3 keyed9 Tryz.underlying61 (v := ⟨#[33]⟩) hk3 z106_ kvR_inj (c := 4) z106_ z106_; have b1 := below_alloc (Below.refl W.heap.size W) (.map #[] 0); have b2 := turned_below b1 t2 (Nat.le_refl _) (by rw [World.size_alloc]; omega); have b3 := turned_below b2 t3 (Nat.le_refl _) (below_size b2); have b4 := turned_below b3 t4 (Nat.le_refl _) (below_size b3); obtain ⟨D, ⟨es, clk, he, F, hs, hD⟩, h2, h3⟩ := m4; refine ⟨w2, w3, w4, es, clk, r2, r3, r4, he, ?_, b4⟩; intro W' s hW hsz; obtain ⟨l, hk⟩ := key9 (s := s) hsz; have own : W'.ownsMap Tryz.prog 9 (plainElem Tryz.prog 3) W.heap.size _ D := ⟨es, clk, hW, F, hs, hD⟩; obtain ⟨v, ps, hrun, hv⟩ := own.look_ok keyed9 Tryz.underlying61 (zero3_ W') (plainElem_int Tryz.underlying3 z106_) hk; obtain ⟨c, rfl, hc, hwc⟩ := plainElem_int_inv Tryz.underlying3 hv; have hc1 := congrArg Prod.fst hc; have := (h2 s l hk).1.symm.trans hc1; simp only [DataW.lit.injEq, Lit.int.injEq, true_and] at this; rw [hrun, ← this, (h2 s l hk).2]
 rfl
theorem signs_event {ops : Array Oper} {rest : List Oper} {o : Oper} {a : Act} {Q : Exit → Act → World → Prop} {W : World} (hgd : o.guard = none) (ho : o.op = .makeMap 61 none)
  (h : ∀ g, g = W.heap.size → ∀ wA w2 w3 w4 es clk, (Instr.mapUpdate 61 (.map (some g)) (.string ⟨#[38]⟩) (.int .i64 2)).run Tryz.prog wA = .ok () w2 →
   (Instr.mapUpdate 61 (.map (some g)) (.string ⟨#[124]⟩) (.int .i64 3)).run Tryz.prog w2 = .ok () w3 →
   (Instr.mapUpdate 61 (.map (some g)) (.string ⟨#[33]⟩) (.int .i64 4)).run Tryz.prog w3 = .ok () w4 →
   w4.heap[g]? = some (.map es clk) → LooksAt g es clk → Below W.heap.size W w4 → wpList Tryz.prog ops Q rest (a.put o.dst (.map (some g))) wA) : wpList Tryz.prog ops Q (o :: rest) a W := by
 obtain ⟨w2, w3, w4, es, clk, r2, r3, r4, he, hl, hb⟩ := signs_run W; refine Kd.event_run hgd ?_ (h _ rfl _ w2 w3 w4 es clk r2 r3 r4 he hl hb); simp [execOp, ho, run_makeMap, Result.andThen]
 done
theorem sign_event {ops : Array Oper} {rest : List Oper} {o : Oper} {a : Act} {Q : Exit → Act → World → Prop} {W : World} {g : Nat} {es : Array MapEntry} {clk : Nat} {s : ByteArray} {t : Int} {b : Bool} (m x : Operand) (hgd : o.guard = none) (ho : o.op = .lookup 61 m x true)
  (hm : a.eval m = .map (some g)) (hx : a.eval x = .string s) (hb : W.heap[g]? = some (.map es clk)) (hl : LooksAt g es clk) (hf : f106.f s = some (t, b))
  (h : wpList Tryz.prog ops Q rest (a.put o.dst (.tuple #[.int .i64 t, .bool b])) W) : wpList Tryz.prog ops Q (o :: rest) a W := by
 have hsz : s.size ≤ maxLen ∧ (signF s, decide (signF s ≠ 0)) = (t, b) := by
  unfold f106.f at hf
  by_cases hs : s.size ≤ maxLen
  ·
   rw [if_pos hs] at hf; exact ⟨hs, Option.some.inj hf⟩
  ·
   rw [if_neg hs] at hf; cases hf
 obtain ⟨hs, he⟩ := hsz; cases he; refine Kd.event_run hgd ?_ h; simp [execOp, ho, hm, hx, hl W s hb hs, Result.andThen]
 done
theorem R_typesM {α : Type} {d : Kd α} {e : Nat} {w : World} {base : Nat} {ok : Nat → Prop} {v : Value} {xs : List α} (h : d.R e w base ok v xs) {g : Nat} {es : Array MapEntry} {clk : Nat} (hb : w.heap[g]? = some (.map es clk)) : d.R e w base (fun k => ok k ∧ k ≠ g) v xs :=
 Kd.R_mono (Kd.R_bound h) (fun k hk => ⟨hk.1, by
  obtain ⟨_, _, _, q, hq, cells', hc⟩ := hk; rintro rfl; rw [hc] at hb
  cases hb⟩)
theorem R_neM {α : Type} {d : Kd α} {e : Nat} {w : World} {base : Nat} {ok : Nat → Prop} {v : Value} {xs : List α} (h : d.R e w base ok v xs) {g : Nat} {es : Array MapEntry} {clk : Nat} (hb : w.heap[g]? = some (.map es clk)) : some g ≠ v.ownBlock := fun e => (R_typesM h hb).1 g e.symm |>.2 rfl
theorem blk_farM {w : World} {g : Nat} {o : Obj} (h : w.heap[g]? = some o) {p : Addr} (hp : g ≠ p.block) (u : Value) : (w.setCell p u).heap[g]? = some o := (Below.heap_setCell w p u g hp).trans h
theorem blk_far4M {w : World} {g b : Nat} {o : Obj} (h : w.heap[g]? = some o) (hp : g ≠ b) {i j k l : Nat} {u1 u2 u3 u4 : Value} : ((((w.setCell ⟨b, i, none⟩ u1).setCell ⟨b, j, none⟩ u2).setCell ⟨b, k, none⟩ u3).setCell ⟨b, l, none⟩ u4).heap[g]? = some o := blk_farM (blk_farM (blk_farM (blk_farM h hp _) hp _) hp _) hp _
end Go.Proofs.YtbbmdakdghefnaaGreatDoor.T
