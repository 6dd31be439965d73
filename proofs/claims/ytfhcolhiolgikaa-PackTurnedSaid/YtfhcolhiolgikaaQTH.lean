import Derived.Test.YtfhcolhiolgikaaQTV
import Derived.DeepKeys4
import Derived.Maps.OwnSet
import Derived.WideKeyEntry
import Derived.Test.YtfhcolhiolgikaaProg
import Derived.Below
import Derived.Deep.Draws
import Derived.Deep.AppendLies
import Derived.Maps.AppendAt
import Derived.OwnWalk
import Derived.Laws.BytesArg
import Derived.Laws.MakeOwn
import Derived.Laws.OwnMore
import Derived.Deep.OwnRows
import Derived.Tactics
import Derived.Lib.ConvBytes
import Derived.Laws.Slices
import Derived.WalkKit
import Derived.KernelRfl
import Derived.RowKit3
import Derived.Deep.LoopGhost
import Derived.Deep.QuietTactic
import Derived.BigQuiet
import Derived.WideLaws
import Derived.Deep.DeepCutAuto
import Derived.Deep.CutBlock
import Derived.Deep.RegionHeld3
import Derived.Laws.Rows
import Derived.Lib.AppendStr
import Derived.ArgAppend
import Derived.Laws.IdiomCopy
import Derived.OrdersHeld
import Derived.Laws.BitsLemmas
import Derived.RowKit
import Derived.Test.YtfhcolhiolgikaaQTA
/- Texts of this claim, laid together by a program (merge.py): Mp. -/
/- Written by hp.py, this session's own program, out of the translation of this seat: Lean functions for the Go functions, and the proof that each call comes to what its Lean function says. -/
namespace Go.Proofs.Ytfhcolhiolgikaa.T
open Go.RowKit Go.Proofs.YtfhcolhiolgikaaW.PrintWords Go.Proofs.YtfhcolhiolgikaaW.PrintLast Go.Proofs.YtfhcolhiolgikaaW.PrintMore
attribute [local go_sem] max2_int min2_int max_two min_two max_three min_three max_four min_four   -- for this text's walks alone
set_option linter.unusedVariables false
set_option linter.unusedSimpArgs false
theorem drawn_below {w w1 : World} (h : Drawn0 w w1) : Below w.heap.size w w1 := by
 obtain ⟨n, rfl⟩ := h
 exact pw_below_drewN (Below.refl _ _) n
/-! ### maps of counts -/
/-- Block b is a map (keys of type K) of s entries (n: no fewer) that counts f. -/
def MapAt {α : Type} (kv : α → Value) (K : TypeId) (w : World) (b n : Nat) (f : α → Int) (s : Nat) : Prop :=
 ∃ D : DataW Unit, w.ownsMap Try.prog K (plainElem Try.prog 3) b n D ∧ (∀ v l, keyOf Try.prog K (kv v) = some l → D.atKey l (.lit (.int .i64 0)) = .lit (.int .i64 (f v)) ∧ Maps.has D l = decide (f v ≠ 0)) ∧ Maps.size D = s
theorem zero3_ (w : World) : (zeroValue 3).run Try.prog w = .ok (.int .i64 0) w := by kernel_rfl
theorem mapAt_made {α : Type} (kv : α → Value) {K : TypeId} (w : World) : MapAt kv K (w.alloc (.map #[] 0)) w.heap.size 0 (fun _ => 0) 0 :=
 ⟨.map [], World.ownsMap_made w _ _ _, fun v l _ => ⟨rfl, rfl⟩, rfl⟩
theorem mapAt_lt {α : Type} {kv : α → Value} {K : TypeId} {w : World} {b n s : Nat} {f : α → Int} (h : MapAt kv K w b n f s) : b < w.heap.size := by
 obtain ⟨D, h1, _⟩ := h
 exact h1.lt
theorem mapAt_below {α : Type} {kv : α → Value} {K : TypeId} {w w1 : World} {b n s : Nat} {f : α → Int} (h : MapAt kv K w b n f s) (hb : Below w.heap.size w w1) : MapAt kv K w1 b n f s := by
 obtain ⟨D, h1, h2, h3⟩ := h
 refine ⟨D, ?_, h2, h3⟩
 have hlt := h1.lt
 obtain ⟨es, clock, he, F, hs, hD⟩ := h1
 exact ⟨es, clock, (hb.block b hlt).trans he, F, hs, hD⟩
theorem mapAt_look {α : Type} [DecidableEq α] {kv : α → Value} {K T : TypeId} {w : World} {b n s : Nat} {f : α → Int} (h : MapAt kv K w b n f s) (KL : Maps.Keyed Try.prog K) (ht : Try.prog.underlying T = some (.map K 3)) {v : α} {l : Lit} (hk : keyOf Try.prog K (kv v) = some l) :
  (Instr.lookup T (.map (some b)) (kv v) false).run Try.prog w = .ok (.int .i64 (f v)) w := by
 obtain ⟨D, h1, h2, h3⟩ := h
 obtain ⟨c, hrun, hat, _⟩ := h1.lookup_int KL ht Try.underlying3 (zero3_ w) hk
 have := (h2 v l hk).1.symm.trans hat
 simp only [DataW.lit.injEq, Lit.int.injEq, true_and] at this
 rw [this]
 exact hrun
theorem mapAt_put {α : Type} [DecidableEq α] {kv : α → Value} {K T : TypeId} {w : World} {b n s : Nat} {f : α → Int} (h : MapAt kv K w b n f s) (KL : Maps.Keyed Try.prog K) (ht : Try.prog.underlying T = some (.map K 3)) {v : α} {l : Lit} (hk : keyOf Try.prog K (kv v) = some l) (hn : n < maxLen) (hinj : ∀ {x y : α}, kv x = kv y → x = y) {c : Int} (hc : c ≠ 0) (hw : (Lit.int .i64 c).wf = true) :
  ∃ w', (Instr.mapUpdate T (.map (some b)) (kv v) (.int .i64 c)).run Try.prog w = .ok () w' ∧ MapAt kv K w' b (n + 1) (fun x => if x = v then c else f x) (if f v = 0 then s + 1 else s) ∧ w.mapTurned w' b := by
 obtain ⟨D, h1, h2, h3⟩ := h
 obtain ⟨w', hrun, hown, hturn⟩ := h1.store KL ht hn hk (plainElem_int Try.underlying3 hw)
 refine ⟨w', hrun, ⟨_, hown, ?_, ?_⟩, hturn⟩
 ·
  intro x lx hx
  by_cases hxl : lx = l
  ·
   subst hxl
   have hxv : x = v := hinj (KL.inj hx hk)
   subst hxv
   show _ = DataW.lit (Lit.int .i64 (if x = x then c else f x)) ∧ _ = decide ((if x = x then c else f x) ≠ 0)
   rw [if_pos rfl, Maps.atKey_put_same h1.isMap (KL.key hk), Maps.has_put_same h1.isMap (KL.key hk)]
   exact ⟨rfl, (decide_eq_true hc).symm⟩
  ·
   have hxv : x ≠ v := fun e => by subst e; exact hxl (Option.some.inj (hx.symm.trans hk))
   show _ = DataW.lit (Lit.int .i64 (if x = v then c else f x)) ∧ _ = decide ((if x = v then c else f x) ≠ 0)
   rw [if_neg hxv, Maps.atKey_put_other hxl, Maps.has_put_other hxl]
   exact h2 x lx hx
 ·
  rw [Maps.size_put (h1.tidy KL), (h2 v l hk).2, h3]
  by_cases hf : f v = 0
  ·
   rw [if_pos hf, if_neg (by simp [hf])]
  ·
   rw [if_neg hf, if_pos (by simp [hf])]
theorem mapAt_len {α : Type} [DecidableEq α] {kv : α → Value} {K T : TypeId} {w : World} {b n s : Nat} {f : α → Int} (h : MapAt kv K w b n f s) (ht : Try.prog.underlying T = some (.map K 3)) (ty : TypeId) : (Builtin.len_ #[T] ty #[.map (some b)]).run Try.prog w = .ok (.int .i64 s) w := by
 obtain ⟨D, h1, _, h3⟩ := h
 rw [← h3]
 exact h1.len ht ty
/-- 'm[k] op= v' by its two halves: the entry, and the store into it. -/
theorem mapAt_entry {α : Type} [DecidableEq α] {kv : α → Value} {K T : TypeId} {w : World} {b n s : Nat} {f : α → Int} (h : MapAt kv K w b n f s) (KL : WideMaps.KeyLaw Try.prog K) (ht : Try.prog.underlying T = some (.map K 3)) {v : α} {l : Lit} (hk : keyOf Try.prog K (kv v) = some l) (hn : n < maxLen) (hinj : ∀ {x y : α}, kv x = kv y → x = y) {c : Int} (hc : c ≠ 0) (hw : (Lit.int .i64 c).wf = true) :
  ∃ (v0 : Value) (st : Nat) (w1 w2 : World), (Instr.mapEntry T (.map (some b)) (kv v)).run Try.prog w = .ok (.tuple #[v0, goInt st]) w1 ∧ (Instr.lookup T (.map (some b)) (kv v) false).run Try.prog w1 = .ok (.int .i64 (f v)) w1 ∧ w.mapTurned w1 b ∧
   (Instr.entryStore T (.map (some b)) (goInt st) (.int .i64 c)).run Try.prog w1 = .ok () w2 ∧ MapAt kv K w2 b (n + 1) (fun x => if x = v then c else f x) (if f v = 0 then s + 1 else s) ∧ w.mapTurned w2 b := by
 have hlook := mapAt_look h (Maps.Keyed.of_law KL) ht hk
 obtain ⟨wu, hu, hat, _⟩ := mapAt_put h (Maps.Keyed.of_law KL) ht hk hn hinj hc hw
 obtain ⟨D, h1, h2, h3⟩ := h
 obtain ⟨es, clock, hb, F, hs, hD⟩ := h1
 obtain ⟨v0, st, es1, clock1, hrun, hv0, hst⟩ := WideElems.entry_then_store KL ht (fun u => zero3_ u) hb F hk
 have hb1 : (ChangeMaps.setBlock w b (.map es1 clock1)).heap[b]? = some (.map es1 clock1) := ChangeMaps.heap_setBlock_same hb _
 obtain ⟨es', clock', hes, hup⟩ := hst (ChangeMaps.setBlock w b (.map es1 clock1)) (.int .i64 c) hb1
 obtain ⟨es0, clock0, hes0, hup0⟩ := hst (ChangeMaps.setBlock w b (.map es1 clock1)) v0 hb1
 have e2 : ChangeMaps.setBlock (ChangeMaps.setBlock w b (.map es1 clock1)) b (.map es' clock') = ChangeMaps.setBlock w b (.map es' clock') := by
  simp [ChangeMaps.setBlock]
 have ewu : wu = ChangeMaps.setBlock w b (.map es' clock') := by
  rw [hu] at hup
  injection hup
 refine ⟨v0, st, ChangeMaps.setBlock w b (.map es1 clock1), ChangeMaps.setBlock w b (.map es' clock'), hrun, ?_, ⟨es, clock, es1, clock1, hb, rfl⟩, by rw [hes, e2], by rw [← ewu]; exact hat, ⟨es, clock, es', clock', hb, rfl⟩⟩
 rcases KL.find w hk es.toList F.keys with ⟨f1, f2⟩ | ⟨j, e0, f1, f3, f4⟩
 ·
  have hr : (Instr.mapEntry T (.map (some b)) (kv v)).run Try.prog w = .ok (.tuple #[.int .i64 0, goInt clock]) (ChangeMaps.setBlock w b (.map (es.push ⟨kv v, .int .i64 0, clock⟩) (clock + 1))) := by
   simp [Instr.mapEntry, run_underlying ht, MapKept.run_getObj_map hb, KL.check w false hk, f1, zero3_, MapKept.run_setObj_map _ hb, Result.andThen, ChangeMaps.setBlock]
  rw [hr] at hrun
  simp only [Result.ok.injEq] at hrun
  obtain ⟨_, hw1⟩ := hrun
  have hl0 : (Instr.lookup T (.map (some b)) (kv v) false).run Try.prog w = .ok (.int .i64 0) w := by
   simp [Instr.lookup, run_underlying ht, MapKept.run_getObj_map hb, KL.check w _ hk, f1, zero3_, Result.andThen]
  have hf0 : f v = 0 := by
   rw [hlook] at hl0
   simpa using hl0
  rw [← hw1, hf0]
  have hb2 : (ChangeMaps.setBlock w b (.map (es.push ⟨kv v, .int .i64 0, clock⟩) (clock + 1))).heap[b]? = some (.map (es.push ⟨kv v, .int .i64 0, clock⟩) (clock + 1)) := ChangeMaps.heap_setBlock_same hb _
  have hkeys : ∀ e ∈ (es.push ⟨kv v, .int .i64 0, clock⟩).toList, ∃ l, keyOf Try.prog K e.key = some l := by
   intro e he
   simp only [Array.toList_push, List.mem_append, List.mem_singleton] at he
   rcases he with he | rfl
   ·
    exact F.keys e he
   ·
    exact ⟨l, hk⟩
  rcases KL.find (ChangeMaps.setBlock w b (.map (es.push ⟨kv v, .int .i64 0, clock⟩) (clock + 1))) hk _ hkeys with ⟨g1, g2⟩ | ⟨j, e0, g1, g3, g4⟩
  ·
   exact absurd rfl (g2 ⟨kv v, .int .i64 0, clock⟩ (by simp))
  ·
   have he0 : e0.val = .int .i64 0 := by
    have hm := List.mem_of_getElem? g3
    simp only [Array.toList_push, List.mem_append, List.mem_singleton] at hm
    rcases hm with hm | rfl
    ·
     exact absurd g4 (f2 e0 hm)
    ·
     rfl
   rw [he0, Array.toList_push] at g1
   simp [Instr.lookup, run_underlying ht, MapKept.run_getObj_map hb2, KL.check _ _ hk, g1, Result.andThen]
 ·
  have hj : es[j]? = some e0 := by simpa using f3
  have hsame : es.modify j (fun e => { e with key := kv v }) = es := by
   apply Array.ext'
   rw [Array.toList_modify, ChangeMaps.modify_eq_set _ _ _ _ f3]
   have : ({ e0 with key := kv v } : MapEntry) = e0 := by rw [← f4]
   rw [this]
   exact WideElems.set_self _ _ _ f3
  have hr : (Instr.mapEntry T (.map (some b)) (kv v)).run Try.prog w = .ok (.tuple #[e0.val, goInt e0.born]) (ChangeMaps.setBlock w b (.map es clock)) := by
   simp [Instr.mapEntry, run_underlying ht, MapKept.run_getObj_map hb, KL.check w false hk, f1, hj, f4, KL.stays w hk, hsame, MapKept.run_setObj_map _ hb, Result.andThen, ChangeMaps.setBlock]
  rw [hr] at hrun
  simp only [Result.ok.injEq] at hrun
  obtain ⟨_, hw1⟩ := hrun
  have hself : ChangeMaps.setBlock w b (.map es clock) = w := by
   have e : w.heap.setIfInBounds b (.map es clock) = w.heap := by
    apply Array.ext_getElem?
    intro i
    by_cases hi : i = b
    ·
     subst hi
     exact (ChangeMaps.heap_setBlock_same hb _).trans hb.symm
    ·
     exact ChangeMaps.heap_setBlock_other hb _ hi
   unfold ChangeMaps.setBlock
   rw [e]
  rw [← hw1, hself]
  exact hlook
theorem keyed9 : Maps.Keyed Try.prog 9 := Maps.string_keyed Try.underlying9
theorem law82 : WideMaps.KeyLaw Try.prog 82 := deep_law (m := 3) (by omega) (by kernel_rfl) (by kernel_rfl) (by kernel_rfl)
theorem key9 {s : ByteArray} (h : s.size ≤ maxLen) : ∃ l, keyOf Try.prog 9 (.string s) = some l := ⟨_, WideMaps.keyOf_string_mk Try.underlying9 h⟩
theorem keyT82 : Try.prog.keyType 82 = true := by kernel_rfl
theorem cells82 : Try.prog.cellsOf 82 = 2 := by kernel_rfl
theorem cells3 : Try.prog.cellsOf 3 = 1 := by kernel_rfl
theorem key82 {a b : Int} (wa : (Lit.int .i64 a).wf = true) (wb : (Lit.int .i64 b).wf = true) : ∃ l, keyOf Try.prog 82 (.agg #[.int .i64 a, .int .i64 b]) = some l := by
 have hu := Try.underlying82
 have hf : (Value.agg #[.int .i64 a, .int .i64 b]).formed Try.prog 82 = true := by
  simp only [Value.formed, hu]
  rw [cells82]
  rfl
 unfold keyOf
 simp only [hu]
 rw [if_pos (by rw [keyT82, hf]; rfl)]
 have hs : Try.prog.types.size + 1 = (Try.prog.types.size - 1 + 1) + 1 := by kernel_rfl
 rw [hs]
 unfold Program.keyLits
 simp only [hu, Value.cells]
 have h3 : ∀ (d : Nat) (n : Int), (Lit.int .i64 n).wf = true → Try.prog.keyLits (d + 1) 3 [.int .i64 n] = some [.int .i64 n] := by
  intro d n hn
  unfold Program.keyLits
  simp only [Try.underlying3]
  rw [if_pos ⟨trivial, hn⟩]
 rw [if_pos ⟨by rw [cells82]; rfl, by decide +kernel⟩]
 generalize Try.prog.types.size - 1 = d
 simp [List.mapM_cons, cells3, h3 d a wa, h3 d b wb]

end Go.Proofs.Ytfhcolhiolgikaa.T
