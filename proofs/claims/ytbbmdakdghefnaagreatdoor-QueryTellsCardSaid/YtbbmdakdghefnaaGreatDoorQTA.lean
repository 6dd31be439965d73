import Derived.Test.YtbbmdakdghefnaaGreatDoorQTV
import Derived.Test.YtbbmdakdghefnaaGreatDoorProg
import Derived.Lib.OthersKept
/- Texts of this claim, laid together by a program (merge.py): Tx0, Sl, Tx1, Tx2, Tx11, Wd. -/
set_option maxHeartbeats 8000000
set_option maxRecDepth 100000
namespace Go.Proofs.YtbbmdakdghefnaaGreatDoor.T
open Go.RowKit Go.Proofs.YtbbmdakdghefnaaGreatDoorW.PrintWords Go.Proofs.YtbbmdakdghefnaaGreatDoorW.PrintLast Go.Proofs.YtbbmdakdghefnaaGreatDoorW.PrintMore
attribute [local go_sem] max2_int min2_int max_two min_two max_three min_three max_four min_four
set_option linter.unusedVariables false
set_option linter.unusedSimpArgs false
def errW : Option Int → Value
 | none => .nilIface
 | some c => .iface 0 (.int .i64 c)
theorem errW_none : errW none = .nilIface := rfl
theorem errW_some (c : Int) : errW (some c) = .iface 0 (.int .i64 c) := rfl
theorem info3 : (Tryz.prog.info? 3).map (fun i => (i.zero, i.size, i.bytes)) = some (some (.int .i64 0), 1, 8) := by kernel_rfl
theorem info4 : (Tryz.prog.info? 4).map (fun i => (i.zero, i.size, i.bytes)) = some (some (.bool false), 1, 1) := by kernel_rfl
theorem info5 : (Tryz.prog.info? 5).map (fun i => (i.zero, i.size, i.bytes)) = some (some (.int .u8 0), 1, 1) := by kernel_rfl
theorem info9 : (Tryz.prog.info? 9).map (fun i => (i.zero, i.size, i.bytes)) = some (some (.string ⟨#[]⟩), 1, 16) := by kernel_rfl
theorem info23 : (Tryz.prog.info? 23).map (fun i => (i.zero, i.size, i.bytes)) = some (some (.slice none 0 0), 1, 24) := by kernel_rfl
theorem info37 : (Tryz.prog.info? 37).map (fun i => (i.zero, i.size, i.bytes)) = some (some (.agg #[(.int .i64 0), (.slice none 0 0), (.int .i64 0), (.int .i64 0)]), 4, 48) := by kernel_rfl
theorem info42 : (Tryz.prog.info? 42).map (fun i => (i.zero, i.size, i.bytes)) = some (some (.slice none 0 0), 1, 24) := by kernel_rfl
theorem info55 : (Tryz.prog.info? 55).map (fun i => (i.zero, i.size, i.bytes)) = some (some (.agg #[(.string ⟨#[]⟩), (.int .i64 0), (.slice none 0 0)]), 3, 48) := by kernel_rfl
theorem info99 : (Tryz.prog.info? 99).map (fun i => (i.zero, i.size, i.bytes)) = some (some (.agg #[(.int .i64 0), (.slice none 0 0)]), 2, 32) := by kernel_rfl
-- the values' own types
def rd_L3 (xs : List (List ByteArray)) (i : Int) : (List ByteArray) := xs.getD i.toNat ([] : List ByteArray)
theorem at_L3 {w : World} {A : Option Addr} {n : Nat} {xs : List (List ByteArray)} (h : Kd.C (Kd.slice 9 Kd.string) w A n xs) (i : Int) (h0 : 0 ≤ i) (h1 : i < n) : ∃ ad A0 c0, A = some ad ∧ w.cell? (ad.add i.toNat) = some (.slice A0 (rd_L3 xs i).length c0) ∧ (rd_L3 xs i).length ≤ c0 ∧ Kd.string.C w A0 (rd_L3 xs i).length (rd_L3 xs i) := by
 obtain ⟨ad, c, e, _, hK, hc0⟩ := Kd.C_get h ([] : List ByteArray) i h0 h1; have hc : ∀ j u, c[j]? = some u → w.cell? (ad.add (i.toNat * 1 + j)) = some u := hc0; obtain ⟨A0, c0, rfl, l0, g0⟩ := hK; exact ⟨ad, A0, c0, e, z139_, l0, g0⟩
def rd_L5 (xs : List (List Int)) (i : Int) : (List Int) := xs.getD i.toNat ([] : List Int)
theorem at_L5 {w : World} {A : Option Addr} {n : Nat} {xs : List (List Int)} (h : Kd.C (Kd.slice 3 (Kd.int .i64)) w A n xs) (i : Int) (h0 : 0 ≤ i) (h1 : i < n) : ∃ ad A0 c0, A = some ad ∧ w.cell? (ad.add i.toNat) = some (.slice A0 (rd_L5 xs i).length c0) ∧ (rd_L5 xs i).length ≤ c0 ∧ (Kd.int .i64).C w A0 (rd_L5 xs i).length (rd_L5 xs i) := by
 obtain ⟨ad, c, e, _, hK, hc0⟩ := Kd.C_get h ([] : List Int) i h0 h1; have hc : ∀ j u, c[j]? = some u → w.cell? (ad.add (i.toNat * 1 + j)) = some u := hc0; obtain ⟨A0, c0, rfl, l0, g0⟩ := hK; exact ⟨ad, A0, c0, e, z139_, l0, g0⟩
structure S99 where
 f0 : Int
 f1 : (List Int)
def z99 : S99 := ⟨(0 : Int), ([] : List Int)⟩
def k99 : Kd S99 := Kd.iso (Kd.pair (Kd.int .i64) (Kd.slice 3 (Kd.int .i64))) (fun x : S99 => (x.f0, x.f1))
theorem k99_open {w : World} {x : S99} {cs : List Value} (h : k99.K w x cs) : ∃ A1 c1, cs = [.int .i64 x.f0, .slice A1 x.f1.length c1] ∧ x.f1.length ≤ c1 ∧ (Kd.int .i64).C w A1 x.f1.length x.f1 := by
 obtain ⟨_, _, rfl, rfl, ⟨A1, c1, rfl, l1, g1⟩⟩ := h; exact ⟨A1, c1, rfl, l1, g1⟩
theorem k99_mkM (w : World) (base : Nat) (ok : Nat → Prop) (x : S99) {v1 : Value} (g1 : (Kd.int .i64).R 3 w base ok v1 x.f1) : k99.M w base ok x [.int .i64 x.f0, v1] := ⟨[.int .i64 x.f0], [v1], rfl, rfl, ⟨v1, rfl, g1⟩⟩
def rd_T99 (xs : List S99) (i : Int) : S99 := xs.getD i.toNat z99
theorem at_T99 {w : World} {A : Option Addr} {n : Nat} {xs : List S99} (h : Kd.C k99 w A n xs) (i : Int) (h0 : 0 ≤ i) (h1 : i < n) : ∃ ad A1 c1, A = some ad ∧ w.cell? (ad.add (i.toNat * 2)) = some (.int .i64 (rd_T99 xs i).f0) ∧ w.cell? ⟨(ad.add (i.toNat * 2)).block, (ad.add (i.toNat * 2)).off + 1, none⟩ = some (.slice A1 (rd_T99 xs i).f1.length c1) ∧ (rd_T99 xs i).f1.length ≤ c1 ∧ (Kd.int .i64).C w A1 (rd_T99 xs i).f1.length (rd_T99 xs i).f1 := by
 obtain ⟨ad, c, e, _, hK, hc0⟩ := Kd.C_get h z99 i h0 h1; have hc : ∀ j u, c[j]? = some u → w.cell? (ad.add (i.toNat * 2 + j)) = some u := hc0; obtain ⟨A1, c1, rfl, l1, g1⟩ := k99_open hK; exact ⟨ad, A1, c1, e, hc 0 _ rfl, z220_, l1, g1⟩
structure S37 where
 f0 : Int
 f1 : (List ByteArray)
 f2 : Int
 f3 : Int
def z37 : S37 := ⟨(0 : Int), ([] : List ByteArray), (0 : Int), (0 : Int)⟩
def k37 : Kd S37 := Kd.iso (Kd.pair (Kd.int .i64) (Kd.pair (Kd.slice 9 Kd.string) (Kd.pair (Kd.int .i64) (Kd.int .i64)))) (fun x : S37 => (x.f0, x.f1, x.f2, x.f3))
theorem k37_open {w : World} {x : S37} {cs : List Value} (h : k37.K w x cs) : ∃ A1 c1, cs = [.int .i64 x.f0, .slice A1 x.f1.length c1, .int .i64 x.f2, .int .i64 x.f3] ∧ x.f1.length ≤ c1 ∧ Kd.string.C w A1 x.f1.length x.f1 := by
 obtain ⟨_, _, rfl, rfl, ⟨_, _, rfl, ⟨A1, c1, rfl, l1, g1⟩, ⟨_, _, rfl, rfl, rfl⟩⟩⟩ := h; exact ⟨A1, c1, rfl, l1, g1⟩
theorem k37_mkM (w : World) (base : Nat) (ok : Nat → Prop) (x : S37) {v1 : Value} (g1 : Kd.string.R 9 w base ok v1 x.f1) : k37.M w base ok x [.int .i64 x.f0, v1, .int .i64 x.f2, .int .i64 x.f3] := ⟨[.int .i64 x.f0], [v1, .int .i64 x.f2, .int .i64 x.f3], rfl, rfl, ⟨[v1], [.int .i64 x.f2, .int .i64 x.f3], rfl, ⟨v1, rfl, g1⟩, ⟨[.int .i64 x.f2], [.int .i64 x.f3], rfl, rfl, rfl⟩⟩⟩
def rd_T37 (xs : List S37) (i : Int) : S37 := xs.getD i.toNat z37
theorem at_T37 {w : World} {A : Option Addr} {n : Nat} {xs : List S37} (h : Kd.C k37 w A n xs) (i : Int) (h0 : 0 ≤ i) (h1 : i < n) : ∃ ad A1 c1, A = some ad ∧ w.cell? (ad.add (i.toNat * 4)) = some (.int .i64 (rd_T37 xs i).f0) ∧ w.cell? ⟨(ad.add (i.toNat * 4)).block, (ad.add (i.toNat * 4)).off + 1, none⟩ = some (.slice A1 (rd_T37 xs i).f1.length c1) ∧ w.cell? ⟨(ad.add (i.toNat * 4)).block, (ad.add (i.toNat * 4)).off + 2, none⟩ = some (.int .i64 (rd_T37 xs i).f2) ∧ w.cell? ⟨(ad.add (i.toNat * 4)).block, (ad.add (i.toNat * 4)).off + 3, none⟩ = some (.int .i64 (rd_T37 xs i).f3) ∧ (rd_T37 xs i).f1.length ≤ c1 ∧ Kd.string.C w A1 (rd_T37 xs i).f1.length (rd_T37 xs i).f1 := by
 obtain ⟨ad, c, e, _, hK, hc0⟩ := Kd.C_get h z37 i h0 h1; have hc : ∀ j u, c[j]? = some u → w.cell? (ad.add (i.toNat * 4 + j)) = some u := hc0; obtain ⟨A1, c1, rfl, l1, g1⟩ := k37_open hK; exact ⟨ad, A1, c1, e, hc 0 _ rfl, z220_, by rw [← add_field _ _ 2 z143_]; exact hc 2 _ rfl, by rw [← add_field _ _ 3 z143_]; exact hc 3 _ rfl, l1, g1⟩
def rd_L8 (xs : List (List S99)) (i : Int) : (List S99) := xs.getD i.toNat ([] : List S99)
theorem at_L8 {w : World} {A : Option Addr} {n : Nat} {xs : List (List S99)} (h : Kd.C (Kd.slice 99 k99) w A n xs) (i : Int) (h0 : 0 ≤ i) (h1 : i < n) : ∃ ad A0 c0, A = some ad ∧ w.cell? (ad.add i.toNat) = some (.slice A0 (rd_L8 xs i).length c0) ∧ (rd_L8 xs i).length ≤ c0 ∧ k99.C w A0 (rd_L8 xs i).length (rd_L8 xs i) := by
 obtain ⟨ad, c, e, _, hK, hc0⟩ := Kd.C_get h ([] : List S99) i h0 h1; have hc : ∀ j u, c[j]? = some u → w.cell? (ad.add (i.toNat * 1 + j)) = some u := hc0; obtain ⟨A0, c0, rfl, l0, g0⟩ := hK; exact ⟨ad, A0, c0, e, z139_, l0, g0⟩
structure S71 where
 f0 : ByteArray
 f1 : (List S99)
def z71 : S71 := ⟨(⟨#[]⟩ : ByteArray), ([] : List S99)⟩
def k71 : Kd S71 := Kd.iso (Kd.pair Kd.string (Kd.slice 99 k99)) (fun x : S71 => (x.f0, x.f1))
theorem k71_open {w : World} {x : S71} {cs : List Value} (h : k71.K w x cs) : ∃ A1 c1, cs = [.string x.f0, .slice A1 x.f1.length c1] ∧ x.f1.length ≤ c1 ∧ k99.C w A1 x.f1.length x.f1 := by
 obtain ⟨_, _, rfl, rfl, ⟨A1, c1, rfl, l1, g1⟩⟩ := h; exact ⟨A1, c1, rfl, l1, g1⟩
theorem k71_openM {w : World} {base : Nat} {ok : Nat → Prop} {x : S71} {cs : List Value} (h : k71.M w base ok x cs) : ∃ v1, cs = [.string x.f0, v1] ∧ k99.R 99 w base ok v1 x.f1 := by
 obtain ⟨_, _, rfl, rfl, ⟨v1, rfl, g1⟩⟩ := h; exact ⟨v1, rfl, g1⟩
theorem k71_mk (w : World) (x : S71) {A1 : Option Addr} {c1 : Nat} (l1 : x.f1.length ≤ c1) (g1 : k99.C w A1 x.f1.length x.f1) : k71.K w x [.string x.f0, .slice A1 x.f1.length c1] := ⟨[.string x.f0], [.slice A1 x.f1.length c1], rfl, rfl, ⟨A1, c1, rfl, l1, g1⟩⟩
theorem k71_mkM (w : World) (base : Nat) (ok : Nat → Prop) (x : S71) {v1 : Value} (g1 : k99.R 99 w base ok v1 x.f1) : k71.M w base ok x [.string x.f0, v1] := ⟨[.string x.f0], [v1], rfl, rfl, ⟨v1, rfl, g1⟩⟩
def rd_T71 (xs : List S71) (i : Int) : S71 := xs.getD i.toNat z71
theorem at_T71 {w : World} {A : Option Addr} {n : Nat} {xs : List S71} (h : Kd.C k71 w A n xs) (i : Int) (h0 : 0 ≤ i) (h1 : i < n) : ∃ ad A1 c1, A = some ad ∧ w.cell? (ad.add (i.toNat * 2)) = some (.string (rd_T71 xs i).f0) ∧ w.cell? ⟨(ad.add (i.toNat * 2)).block, (ad.add (i.toNat * 2)).off + 1, none⟩ = some (.slice A1 (rd_T71 xs i).f1.length c1) ∧ (rd_T71 xs i).f1.length ≤ c1 ∧ k99.C w A1 (rd_T71 xs i).f1.length (rd_T71 xs i).f1 := by
 obtain ⟨ad, c, e, _, hK, hc0⟩ := Kd.C_get h z71 i h0 h1; have hc : ∀ j u, c[j]? = some u → w.cell? (ad.add (i.toNat * 2 + j)) = some u := hc0; obtain ⟨A1, c1, rfl, l1, g1⟩ := k71_open hK; exact ⟨ad, A1, c1, e, hc 0 _ rfl, z220_, l1, g1⟩
structure S45 where
 f0 : (List ByteArray)
 f1 : (List Int)
 f2 : (List Int)
 f3 : (List S71)
 f4 : Bool
def z45 : S45 := ⟨([] : List ByteArray), ([] : List Int), ([] : List Int), ([] : List S71), false⟩
structure S55 where
 f0 : ByteArray
 f1 : Int
 f2 : (List ByteArray)
def z55 : S55 := ⟨(⟨#[]⟩ : ByteArray), (0 : Int), ([] : List ByteArray)⟩
def k55 : Kd S55 := Kd.iso (Kd.pair Kd.string (Kd.pair (Kd.int .i64) (Kd.slice 9 Kd.string))) (fun x : S55 => (x.f0, x.f1, x.f2))
theorem k55_open {w : World} {x : S55} {cs : List Value} (h : k55.K w x cs) : ∃ A2 c2, cs = [.string x.f0, .int .i64 x.f1, .slice A2 x.f2.length c2] ∧ x.f2.length ≤ c2 ∧ Kd.string.C w A2 x.f2.length x.f2 := by
 obtain ⟨_, _, rfl, rfl, ⟨_, _, rfl, rfl, ⟨A2, c2, rfl, l2, g2⟩⟩⟩ := h; exact ⟨A2, c2, rfl, l2, g2⟩
theorem k55_mk (w : World) (x : S55) {A2 : Option Addr} {c2 : Nat} (l2 : x.f2.length ≤ c2) (g2 : Kd.string.C w A2 x.f2.length x.f2) : k55.K w x [.string x.f0, .int .i64 x.f1, .slice A2 x.f2.length c2] := ⟨[.string x.f0], [.int .i64 x.f1, .slice A2 x.f2.length c2], rfl, rfl, ⟨[.int .i64 x.f1], [.slice A2 x.f2.length c2], rfl, rfl, ⟨A2, c2, rfl, l2, g2⟩⟩⟩
def rd_T55 (xs : List S55) (i : Int) : S55 := xs.getD i.toNat z55
theorem at_T55 {w : World} {A : Option Addr} {n : Nat} {xs : List S55} (h : Kd.C k55 w A n xs) (i : Int) (h0 : 0 ≤ i) (h1 : i < n) : ∃ ad A2 c2, A = some ad ∧ w.cell? (ad.add (i.toNat * 3)) = some (.string (rd_T55 xs i).f0) ∧ w.cell? ⟨(ad.add (i.toNat * 3)).block, (ad.add (i.toNat * 3)).off + 1, none⟩ = some (.int .i64 (rd_T55 xs i).f1) ∧ w.cell? ⟨(ad.add (i.toNat * 3)).block, (ad.add (i.toNat * 3)).off + 2, none⟩ = some (.slice A2 (rd_T55 xs i).f2.length c2) ∧ (rd_T55 xs i).f2.length ≤ c2 ∧ Kd.string.C w A2 (rd_T55 xs i).f2.length (rd_T55 xs i).f2 := by
 obtain ⟨ad, c, e, _, hK, hc0⟩ := Kd.C_get h z55 i h0 h1; have hc : ∀ j u, c[j]? = some u → w.cell? (ad.add (i.toNat * 3 + j)) = some u := hc0; obtain ⟨A2, c2, rfl, l2, g2⟩ := k55_open hK; exact ⟨ad, A2, c2, e, hc 0 _ rfl, z220_, by rw [← add_field _ _ 2 z143_]; exact hc 2 _ rfl, l2, g2⟩
theorem bytesLess_swap : ∀ a b : List UInt8, (!(Op.bytesLess a b || a == b)) = Op.bytesLess b a
 | [], [] => rfl
 | [], _ :: _ => rfl
 | _ :: _, [] => rfl
 | x :: r, y :: s => by
  have ih := bytesLess_swap r s; simp only [Op.bytesLess]
  by_cases h1 : x < y
  ·
   have h2 : ¬ y < x := by rw [UInt8.lt_iff_toNat_lt] at *; omega
   have h3 : (y == x) = false := by
    rw [beq_eq_false_iff_ne]; intro he; subst he; exact h2 h1
   simp [h1, h2, h3]
  ·
   by_cases h2 : y < x
   ·
    have h3 : (x == y) = false := by
     rw [beq_eq_false_iff_ne]; intro he; subst he; exact h1 h2
    have h4 : ((x :: r) == (y :: s)) = false := by
     rw [beq_eq_false_iff_ne]; intro he
     injection he with he _
     rw [he] at h3
     simp at h3
    simp [h1, h2, h3, h4]
   ·
    have he : x = y := by
     rw [UInt8.lt_iff_toNat_lt] at *; exact UInt8.toNat_inj.1 z143_
    subst he; have h4 : ((x :: r) == (x :: s)) = (r == s) := z198_; rw [h4]; simp only [h1, decide_false, Bool.false_or, beq_self_eq_true, Bool.true_and]; exact ih
theorem string_leq_ (t : TypeId) (a b : ByteArray) : binOp .leq t (.string a) (.string b) = pure (.bool (!(Op.bytesLess b.toList a.toList))) := by
 rw [← bytesLess_swap, Bool.not_not]; simp [binOp, Op.stringOp]
def f95.f (k : Nat) (l0 : List Int) (a1 : Int) : Option (List Int) := if ((a1) % 4294967296) ≤ 127 then (if l0.length < 140737488355328 then (some (l0 ++ [(a1) % 256])) else (none)) else (none)
theorem f95.calls (k : Nat) (P0_ : Nat → Prop) (u9000_ : Value) (l0 : List Int) (a1 : Int) (r : List Int) (w0 w : World) (hB : Below w0.heap.size w0 w) (ho0 : Kd.R (Kd.int .u8) 5 w w0.heap.size P0_ u9000_ l0) (h : f95.f k l0 a1 = some r) :
  Calls Tryz.prog 179 #[u9000_, .int .i32 a1] w fun e w' => ∃ v0_ : Value, e = .returned (v0_) ∧ Kd.R (Kd.int .u8) 5 w' w0.heap.size (fun k_ => (P0_ k_ ∨ w.heap.size ≤ k_)) v0_ r ∧ Below w0.heap.size w0 w' ∧ Kept w w' (fun k_ => P0_ k_) := by
 have HO0 := A_ (show Kd.R (Kd.int .u8) 5 w w0.heap.size (fun k_ => (P0_ k_ ∨ w.heap.size ≤ k_)) u9000_ l0 from Kd.R_mono ho0 (fun k_ hk => (.inl hk))); have HK := A_ (Kept.refl w (fun k_ => P0_ k_)); have HW0 := A_ hB.size; have HB := A_ hB; clear hB; unfold f95.f at h; have H := h; clear h; revert H; refine i3_ fun c3b0 H => ?_; revert H; refine i4_ fun c4 H => ?_; have LMc4 := A_ c4; clear c4; obtain ⟨y10, hy10⟩ : ∃ y_ : List Int, y_ = (l0 ++ [(a1) % 256]) := ⟨_, rfl⟩; replace H : (some y10) = some r := z98_; have Ny10 := A_ hy10; clear hy10; obtain rfl := sj_ H; go_enter Tryz.func179, Tryz.ntmps179
 go_wp2_with (first | ((with_reducible refine gate_builtin (b := .append) (xs := #[.tmp 8, .tmp 11]) rfl ?_); at_builtin; refine Kd.R_append (Kd.int .u8) (w0 := w0) w0.heap.size rfl (.tmp 8) (.tmp 11) 152 5 (.int .u8 0) 1 rfl Tryz.underlying152 info5 rfl z81_ z143_ u9000_ l0 ((a1) % 256) [.int .u8 ((a1) % 256)] (fun k_ => (P0_ k_ ∨ w.heap.size ≤ k_)) (fun _ => False) rfl rfl ?aP (fun _ hk => hk.elim) ?aF ?aO ?aB ?aS ?aL ?_; (case aP => exact rfl); (case aB => exact z167_); (case aF => exact (fun k_ hk => (.inr (Nat.le_trans z210_ hk)))); (case aO => exact (by (with_reducible repeat (first | apply Kd.R_alloc | apply Kd.R_drewN | apply Kd.R_drew)); exact HO0.out)); (case aS => exact (below_size z167_)); (case aL => have := LMc4.out; omega); intro v11 w5 ho hb hg hat; rw [← Ny10.out] at ho; have n_ := a3_ (hb) (Kept.of_grown (S := (fun k_ => P0_ k_)) hg z168_ (fun k_ e_ => (HO0.out.1 k_ e_))) (ho); clear HB HK HO0; obtain ⟨HB, HK, HO12⟩ := n_; clear ho hb hg hat))
 go_ret; exact ⟨_, z118_, by (with_reducible repeat (first | apply Kd.R_alloc | apply Kd.R_drewN | apply Kd.R_drew)); exact HO12.out, z167_, z168_⟩
def f94.f (a0 : Int) : Option (Bool) := if a0 ≥ 97 then (if a0 ≤ 122 then (some true) else (if a0 ≥ 65 then (if a0 ≤ 90 then (some true) else (if a0 ≥ 48 then (if a0 ≤ 57 then (some true) else (some (decide (a0 ≥ 128)))) else (some (decide (a0 ≥ 128))))) else (if a0 ≥ 48 then (if a0 ≤ 57 then (some true) else (some (decide (a0 ≥ 128)))) else (some (decide (a0 ≥ 128)))))) else (if a0 ≥ 65 then (if a0 ≤ 90 then (some true) else (if a0 ≥ 48 then (if a0 ≤ 57 then (some true) else (some (decide (a0 ≥ 128)))) else (some (decide (a0 ≥ 128))))) else (if a0 ≥ 48 then (if a0 ≤ 57 then (some true) else (some (decide (a0 ≥ 128)))) else (some (decide (a0 ≥ 128)))))
theorem f94.calls (a0 : Int) (r : Bool) (w : World) (h : f94.f a0 = some r) :
  Calls Tryz.prog 178 #[.int .i32 a0] w fun e w' => e = .returned (.bool r) ∧ Drawn0 w w' := by
 unfold f94.f at h; have H := h; clear h; revert H; refine i1_ (fun c2b0 H => ?_) fun c2b0 H => ?_; rotate_left
 ·
  revert H; refine i1_ (fun c10b0 H => ?_) fun c10b0 H => ?_; rotate_left
  ·
   revert H; refine i1_ (fun c14b0 H => ?_) fun c14b0 H => ?_; rotate_left
   ·
    obtain rfl := sj_ H; go_enter Tryz.func178, Tryz.ntmps178; go_wp2; go_ret; exact ⟨z119_, z188_⟩
   revert H; refine i1_ (fun c15b0 H => ?_) fun c15b0 H => ?_; rotate_left
   ·
    obtain rfl := sj_ H; go_enter Tryz.func178, Tryz.ntmps178; go_wp2; go_ret; exact ⟨z119_, z188_⟩
   obtain rfl := sj_ H; go_enter Tryz.func178, Tryz.ntmps178; go_wp2; go_ret; exact ⟨z119_, z188_⟩
  revert H; refine i1_ (fun c11b0 H => ?_) fun c11b0 H => ?_
  ·
   obtain rfl := sj_ H; go_enter Tryz.func178, Tryz.ntmps178; go_wp2; go_ret; exact ⟨z119_, z188_⟩
  revert H; refine i1_ (fun c12b0 H => ?_) fun c12b0 H => ?_; rotate_left
  ·
   obtain rfl := sj_ H; go_enter Tryz.func178, Tryz.ntmps178; go_wp2; go_ret; exact ⟨z119_, z188_⟩
  revert H; refine i1_ (fun c13b0 H => ?_) fun c13b0 H => ?_; rotate_left
  ·
   obtain rfl := sj_ H; go_enter Tryz.func178, Tryz.ntmps178; go_wp2; go_ret; exact ⟨z119_, z188_⟩
  obtain rfl := sj_ H; go_enter Tryz.func178, Tryz.ntmps178; go_wp2; go_ret; exact ⟨z119_, z188_⟩
 revert H; refine i1_ (fun c3b0 H => ?_) fun c3b0 H => ?_
 ·
  obtain rfl := sj_ H; go_enter Tryz.func178, Tryz.ntmps178; go_wp2; go_ret; exact ⟨z119_, z188_⟩
 revert H; refine i1_ (fun c4b0 H => ?_) fun c4b0 H => ?_; rotate_left
 ·
  revert H; refine i1_ (fun c8b0 H => ?_) fun c8b0 H => ?_; rotate_left
  ·
   obtain rfl := sj_ H; go_enter Tryz.func178, Tryz.ntmps178; go_wp2; go_ret; exact ⟨z119_, z188_⟩
  revert H; refine i1_ (fun c9b0 H => ?_) fun c9b0 H => ?_; rotate_left
  ·
   obtain rfl := sj_ H; go_enter Tryz.func178, Tryz.ntmps178; go_wp2; go_ret; exact ⟨z119_, z188_⟩
  obtain rfl := sj_ H; go_enter Tryz.func178, Tryz.ntmps178; go_wp2; go_ret; exact ⟨z119_, z188_⟩
 revert H; refine i1_ (fun c5b0 H => ?_) fun c5b0 H => ?_
 ·
  obtain rfl := sj_ H; go_enter Tryz.func178, Tryz.ntmps178; go_wp2; go_ret; exact ⟨z119_, z188_⟩
 revert H; refine i1_ (fun c6b0 H => ?_) fun c6b0 H => ?_; rotate_left
 ·
  obtain rfl := sj_ H; go_enter Tryz.func178, Tryz.ntmps178; go_wp2; go_ret; exact ⟨z119_, z188_⟩
 revert H; refine i1_ (fun c7b0 H => ?_) fun c7b0 H => ?_; rotate_left
 ·
  obtain rfl := sj_ H; go_enter Tryz.func178, Tryz.ntmps178; go_wp2; go_ret; exact ⟨z119_, z188_⟩
 obtain rfl := sj_ H; go_enter Tryz.func178, Tryz.ntmps178; go_wp2; go_ret; exact ⟨z119_, z188_⟩
def f109.f (a0 : Int) : Option (Int) := if a0 ≥ 65 then (if a0 ≤ 90 then (some (wrap32 ((wrap32 (a0 - 65)) + 97))) else (some a0)) else (some a0)
theorem f109.calls (a0 : Int) (r : Int) (w : World) (h : f109.f a0 = some r) :
  Calls Tryz.prog 180 #[.int .i32 a0] w fun e w' => e = .returned (.int .i32 r) ∧ Drawn0 w w' := by
 unfold f109.f at h; have H := h; clear h; revert H; refine i1_ (fun c2b0 H => ?_) fun c2b0 H => ?_; rotate_left
 ·
  obtain rfl := sj_ H; go_enter Tryz.func180, Tryz.ntmps180; go_wp2; go_ret; exact ⟨z119_, z188_⟩
 revert H; refine i1_ (fun c3b0 H => ?_) fun c3b0 H => ?_; rotate_left
 ·
  obtain rfl := sj_ H; go_enter Tryz.func180, Tryz.ntmps180; go_wp2; go_ret; exact ⟨z119_, z188_⟩
 obtain rfl := sj_ H; go_enter Tryz.func180, Tryz.ntmps180; go_wp2; go_ret; exact ⟨z119_, z188_⟩
def f96.f (a0 : ByteArray) : Option (Bool) := some (decide ((a0.size : Int) > 32))
theorem f96.calls (a0 : ByteArray) (r : Bool) (w : World) (h : f96.f a0 = some r) :
  Calls Tryz.prog 138 #[.string a0] w fun e w' => e = .returned (.bool r) ∧ Drawn0 w w' := by
 unfold f96.f at h; have H := h; clear h; obtain rfl := sj_ H; go_enter Tryz.func138, Tryz.ntmps138; go_wp2; go_ret; exact ⟨z119_, z188_⟩
def f33.l0 : Nat → List ByteArray → Int → Int → Option (Int)
 | 0, _, _, _ => none
 | k + 1, x0, x7, x8 => if x8 < x7 then (if 0 ≤ x8 then (if x8 < (x0.length : Int) then ((f96.f (rdOf ByteArray.empty x0 x8)).bind fun t10 => (if t10 = true then (some x8) else (f33.l0 k x0 x7 (wrap64 (x8 + 1))))) else (none)) else (none)) else (some (-1))
def f33.f (k : Nat) (l0 : List ByteArray)  : Option (Int) := f33.l0 k l0 (l0.length : Int) 0
theorem f33.calls (k : Nat) (A0 : Option Addr) (c0 : Nat) (l0 : List ByteArray)  (r : Int) (w : World) (hr0 : Kd.C Kd.string w A0 l0.length l0) (hc0 : l0.length ≤ c0) (h : f33.f k l0 = some r) :
  Calls Tryz.prog 97 #[.slice A0 l0.length c0, (.func (.func 138) #[] #[])] w fun e w' => e = .returned (.int .i64 r) ∧ Drawn0 w w' := by
 have HR0 := A_ hr0; have HC0 := A_ hc0; clear hr0 hc0; unfold f33.f at h; have H := h; clear h; have H' := A_ H; clear H; go_enter Tryz.func97, Tryz.ntmps97; go_wp2
 go_loopg [8] k (fun kq v8 w' => ∃ (x8_1 : Int), v8 = .int .i64 x8_1 ∧ Aside0 (f33.l0 kq l0 (l0.length : Int) x8_1 = some r) ∧ Aside0 (kq ≤ k) ∧ Drawn0 w w')
 case atStart => exact ⟨(0), z119_, H', ⟨Nat.le_refl _⟩, z188_⟩
 case round =>
  clear H'; obtain ⟨x8_1, rfl, HA, HK1, ⟨m1, rfl⟩⟩ := hrel
  cases gk with
  | zero => exact absurd HA.out (by simp [f33.l0])
  | succ k1 =>
  have H := HA.out; clear HA; simp only [f33.l0] at H; revert H; refine i1_ (fun c3b0 H => ?_) fun c3b0 H => ?_; rotate_left
  ·
   obtain rfl := sj_ H; go_wp2; go_ret; exact ⟨z119_, z188_⟩
  revert H; refine i3_ fun c4b0 H => ?_; revert H; refine i3_ fun c5b0 H => ?_; replace H := bm_ H; obtain ⟨t10, A60, H⟩ := H; have A6 := A_ A60; clear A60
  by_cases c7 : t10 = true
  ·
   subst c7; have H1 := tt_ H; clear H; have H := H1; clear H1; obtain rfl := sj_ H; obtain ⟨p11, q11, ad11, e11, hx11_0⟩ := pq_ (Kd.at_string HR0.out x8_1); cases e11
   go_wp2_with (first | (go_at_call 138; (with_reducible refine (f96.calls (rdOf ByteArray.empty l0 x8_1) true _ A6.out).mono ?_); rintro e w' ⟨rfl, ⟨nd, rfl⟩⟩))
   go_ret; exact ⟨z119_, z188_⟩
  ·
   replace c7 := Bool.eq_false_iff.mpr c7; subst c7; have H1 := ff_ H; clear H; have H := H1; clear H1; have H' := A_ H; clear H; obtain ⟨p11, q11, ad11, e11, hx11_0⟩ := pq_ (Kd.at_string HR0.out x8_1); cases e11
   go_wp2_with (first | (go_at_call 138; (with_reducible refine (f96.calls (rdOf ByteArray.empty l0 x8_1) false _ A6.out).mono ?_); rintro e w' ⟨rfl, ⟨nd, rfl⟩⟩))
   go_roundg k1
   case measure => have := HK1.out; omega
   case rel => exact ⟨(wrap64 (x8_1 + 1)), z119_, H', ⟨z132_⟩, z188_⟩
def f45.f (k : Nat) (l0 : List ByteArray)  : Option (Bool) := (f33.f k l0).bind fun t10 => (some (decide (t10 ≥ 0)))
theorem f45.calls (k : Nat) (A0 : Option Addr) (c0 : Nat) (l0 : List ByteArray)  (r : Bool) (w : World) (hr0 : Kd.C Kd.string w A0 l0.length l0) (hc0 : l0.length ≤ c0) (h : f45.f k l0 = some r) :
  Calls Tryz.prog 65 #[.slice A0 l0.length c0, (.func (.func 138) #[] #[])] w fun e w' => e = .returned (.bool r) ∧ Drawn0 w w' := by
 have HR0 := A_ hr0; have HC0 := A_ hc0; clear hr0 hc0; unfold f45.f at h; have H := h; clear h; replace H := bm_ H; obtain ⟨t10, A30, H⟩ := H; have A3 := A_ A30; clear A30; obtain rfl := sj_ H; go_enter Tryz.func65, Tryz.ntmps65
 go_wp2_with (first | ((with_reducible refine gate_callee (f := 97) rfl ?_); refine gl_ (some 7) Tryz.func97 #[.slice A0 l0.length c0, (.func (.func 138) #[] #[])] ?_; (with_reducible refine (f33.calls k _ _ l0  t10 _ ?side1 HC0.out A3.out).mono ?_); (case side1 => exact z189_); rintro e w' ⟨rfl, ⟨nd, rfl⟩⟩; refine ⟨_, rfl, ?_⟩))
 go_ret; exact ⟨z119_, z188_⟩
def f60.l0 : Nat → Int → Int → List Int → Int → Int → Option (Bool)
 | 0, _, _, _, _, _ => none
 | k + 1, x1, x5, x8, x9, x10 => if x10 < x9 then (if 0 ≤ x10 then (if x10 < (x8.length : Int) then (if (rd x8 x10) ≤ x5 then (some false) else (if (rd x8 x10) ≥ x1 then (some false) else (f60.l0 k x1 (rd x8 x10) x8 x9 (wrap64 (x10 + 1))))) else (none)) else (none)) else (some true)
def f60.f (k : Nat) (l0 : List Int) (a1 : Int) : Option (Bool) := f60.l0 k a1 (-1) l0 (l0.length : Int) 0
theorem f60.calls (k : Nat) (A0 : Option Addr) (c0 : Nat) (l0 : List Int) (a1 : Int) (r : Bool) (w : World) (hr0 : Kd.C (Kd.int .i64) w A0 l0.length l0) (hc0 : l0.length ≤ c0) (h : f60.f k l0 a1 = some r) :
  Calls Tryz.prog 103 #[.slice A0 l0.length c0, .int .i64 a1] w fun e w' => e = .returned (.bool r) ∧ Drawn0 w w' := by
 have HR0 := A_ hr0; have HC0 := A_ hc0; clear hr0 hc0; unfold f60.f at h; have H := h; clear h; have H' := A_ H; clear H; go_enter Tryz.func103, Tryz.ntmps103; go_wp2
 go_loopg [5, 10] k (fun kq v5 v10 w' => ∃ (x5_1 : Int) (x10_1 : Int), v5 = .int .i64 x5_1 ∧ v10 = .int .i64 x10_1 ∧ Aside0 (f60.l0 kq a1 x5_1 l0 (l0.length : Int) x10_1 = some r) ∧ Aside0 (kq ≤ k) ∧ Drawn0 w w')
 case atStart => exact ⟨((-1)), (0), z119_, z119_, H', ⟨Nat.le_refl _⟩, z188_⟩
 case round =>
  clear H'; obtain ⟨x5_1, x10_1, rfl, rfl, HA, HK1, ⟨m1, rfl⟩⟩ := hrel
  cases gk with
  | zero => exact absurd HA.out (by simp [f60.l0])
  | succ k1 =>
  have H := HA.out; clear HA; simp only [f60.l0] at H; revert H; refine i1_ (fun c3b0 H => ?_) fun c3b0 H => ?_; rotate_left
  ·
   obtain rfl := sj_ H; go_wp2; go_ret; exact ⟨z119_, z188_⟩
  revert H; refine i3_ fun c4b0 H => ?_; revert H; refine i3_ fun c5b0 H => ?_; revert H; refine i1_ (fun c6b0 H => ?_) fun c6b0 H => ?_
  ·
   obtain rfl := sj_ H; obtain ⟨p11, q11, ad11, e11, hx11_0⟩ := pq_ (Kd.at_int HR0.out x10_1); cases e11; go_wp2; go_ret; exact ⟨z119_, z188_⟩
  revert H; refine i1_ (fun c7b0 H => ?_) fun c7b0 H => ?_
  ·
   obtain rfl := sj_ H; obtain ⟨p11, q11, ad11, e11, hx11_0⟩ := pq_ (Kd.at_int HR0.out x10_1); cases e11; go_wp2; go_ret; exact ⟨z119_, z188_⟩
  have H' := A_ H; clear H; obtain ⟨p11, q11, ad11, e11, hx11_0⟩ := pq_ (Kd.at_int HR0.out x10_1); cases e11; go_wp2
  go_roundg k1
  case measure => have := HK1.out; omega
  case rel => exact ⟨(rd l0 x10_1), (wrap64 (x10_1 + 1)), z119_, z119_, H', ⟨z132_⟩, z188_⟩
end Go.Proofs.YtbbmdakdghefnaaGreatDoor.T
namespace Go.Proofs.YtbbmdakdghefnaaGreatDoor.T
open Go.RowKit Go.Proofs.YtbbmdakdghefnaaGreatDoorW.PrintWords Go.Proofs.YtbbmdakdghefnaaGreatDoorW.PrintLast Go.Proofs.YtbbmdakdghefnaaGreatDoorW.PrintMore
attribute [local go_sem] string_leq_ max2_int min2_int max_two min_two max_three min_three max_four min_four
set_option linter.unusedVariables false
set_option linter.unusedSimpArgs false
def f55.l0 : Nat → List (S99) → List Int → List (S99) → Int → Int → Option (Bool)
 | 0, _, _, _, _, _ => none
 | k + 1, x0, x3, x6, x7, x8 => if x8 < x7 then (if 0 ≤ x8 then (if x8 < (x6.length : Int) then (if (((rd_T99 x6 x8).f1).length : Int) = 0 then (some false) else (if (((rd_T99 x6 x8).f1).length : Int) > 120 then (some false) else ((f60.f k ((rd_T99 x6 x8).f1) 120).bind fun t10 => (if t10 = true then (if x3.length < 17592186044416 then (f55.l0 k x0 (x3 ++ [(rd_T99 x6 x8).f0]) x6 x7 (wrap64 (x8 + 1))) else (none)) else (some false))))) else (none)) else (none)) else (if (x0.length : Int) ≤ 64 then ((f60.f k x3 64).bind fun t11 => (some t11)) else (some false))
def f55.f (k : Nat) (l0 : List (S99)) : Option (Bool) := f55.l0 k l0 ([] : List Int) l0 (l0.length : Int) 0
theorem f55.calls (k : Nat) (A0 : Option Addr) (c0 : Nat) (l0 : List (S99)) (r : Bool) (w : World) (hr0 : Kd.C k99 w A0 l0.length l0) (hc0 : l0.length ≤ c0) (h : f55.f k l0 = some r) :
  Calls Tryz.prog 75 #[.slice A0 l0.length c0] w fun e w' => e = .returned (.bool r) ∧ Below w.heap.size w w' := by
 have hu99 := Tryz.underlying99; have HR0 := A_ hr0; have HC0 := A_ hc0; clear hr0 hc0; have HB := A_ (Below.refl w.heap.size w); unfold f55.f at h; have H := h; clear h; have H' := A_ H; clear H; go_enter Tryz.func75, Tryz.ntmps75; go_wp2
 go_loopg [3, 8] k (fun kq v3 v8 w' => ∃ (x3_1 : List Int) (x8_1 : Int), v8 = .int .i64 x8_1 ∧ Aside0 (f55.l0 kq l0 x3_1 l0 (l0.length : Int) x8_1 = some r) ∧ Aside0 (kq ≤ k) ∧ Aside0 (Kd.R (Kd.int .i64) 3 w' w.heap.size (fun _ => True) v3 x3_1) ∧ Aside0 (Below w.heap.size w w'))
 case atStart => exact ⟨(([] : List Int)), (0), z119_, H', ⟨Nat.le_refl _⟩, ⟨z114_⟩, ⟨z167_⟩⟩
 case round =>
  clear H'; obtain ⟨x3_1, x8_1, rfl, HA, HK1, HO_3, HB⟩ := hrel
  cases gk with
  | zero => exact absurd HA.out (by simp [f55.l0])
  | succ k1 =>
  have H := HA.out; clear HA; simp only [f55.l0] at H; revert H; refine i1_ (fun c2b0 H => ?_) fun c2b0 H => ?_; rotate_left
  ·
   revert H; refine i2_ (fun c19 H => ?_) fun c19 H => ?_; rotate_left
   ·
    have c19b0 := decide_eq_false c19; have c19b1 : decide (l0.length ≤ 64) = false := decide_eq_false z143_; clear c19; obtain rfl := sj_ H; go_wp2; go_ret; exact ⟨z118_, z167_⟩
   have c19b0 := decide_eq_true c19; have c19b1 : decide (l0.length ≤ 64) = true := decide_eq_true z143_; clear c19; replace H := bm_ H; obtain ⟨t29, A30, H⟩ := H; have A20 := A_ A30; clear A30; obtain rfl := sj_ H; obtain ⟨Ao21, co21, eo21⟩ := Kd.R_slice HO_3.out; subst eo21
   go_wp2_with (first | (go_at_call 103; (with_reducible refine (f60.calls k1 _ _ x3_1 64 t29 _ ?side1 ?side2 A20.out).mono ?_); (case side1 => repeat (first | exact (Kd.R_reads' HO_3.out).2.2 | (with_reducible refine Kd.C_alloc ?_ _) | (with_reducible refine Kd.C_drewN ?_ _) | (with_reducible refine Kd.C_drew ?_))); (case side2 => exact (Kd.R_reads' HO_3.out).2.1); rintro e w' ⟨rfl, ⟨nd, rfl⟩⟩))
   go_ret; exact ⟨z118_, z167_⟩
  revert H; refine i3_ fun c3b0 H => ?_; revert H; refine i3_ fun c4b0 H => ?_; revert H; refine i2_ (fun c5 H => ?_) fun c5 H => ?_
  ·
   have c5b0 := beq_iff_eq.mpr c5; have c5b1 := bne_eq_false_iff_eq.mpr c5; clear c5; obtain rfl := sj_ H; obtain ⟨p22, q22, ad22, A22_1, c22_1, e22, hx22_0, hx22_1, hl22_1, hi22_1⟩ := pq_ (at_T99 HR0.out x8_1); cases e22; replace hx22_0 := hc_ HB.out hx22_0; replace hx22_1 := hc_ HB.out hx22_1; have HR22_1 := A_ hi22_1; have HC22_1 := A_ hl22_1; clear hi22_1 hl22_1
   go_wp2_with (first | ((with_reducible refine gate_dst (N := 5) rfl ?_); (try (refine gate_guard (by rfl) ?_; dsimp only)); refine box_event ?hg (N := 5) ?hd (cs := #[.int .i64 0, .slice none 0 0]) (t := 99) ?hr ?_; (case hd => rfl); (case hg => rfl); (case hr => exact z82_); intro gb23 hg w6 hbox hb; have n_ := a5_ (Kd.R_below z32_ hb) (below_step z167_ hb) (hbox) ((z216_ : w.heap.size ≤ gb23)) ((z216_ : w.heap.size ≤ gb23)); clear HO_3 HB; obtain ⟨HO_3, HB, BK23, GW23, GE23⟩ := n_; clear hb hbox hg; obtain ⟨hcz7_0, hcz7_1, hfz7_0, hfz7_1⟩ := b2_ BK23.out))
   go_ret; exact ⟨z118_, z155_⟩
  have c5b0 := beq_eq_false_iff_ne.mpr c5; have c5b1 := bne_iff_ne.mpr c5; have c5b2 : ¬ (((rd_T99 l0 x8_1).f1) = []) := fun h_ => c5 (by rw [h_]; rfl); revert H; refine i2_ (fun c8 H => ?_) fun c8 H => ?_
  ·
   have c8b0 := decide_eq_true c8; have c8b1 : decide (120 < ((rd_T99 l0 x8_1).f1).length) = true := decide_eq_true z143_; clear c8; obtain rfl := sj_ H; obtain ⟨p22, q22, ad22, A22_1, c22_1, e22, hx22_0, hx22_1, hl22_1, hi22_1⟩ := pq_ (at_T99 HR0.out x8_1); cases e22; replace hx22_0 := hc_ HB.out hx22_0; replace hx22_1 := hc_ HB.out hx22_1; have HR22_1 := A_ hi22_1; have HC22_1 := A_ hl22_1; clear hi22_1 hl22_1
   go_wp2_with (first | ((with_reducible refine gate_dst (N := 5) rfl ?_); (try (refine gate_guard (by rfl) ?_; dsimp only)); refine box_event ?hg (N := 5) ?hd (cs := #[.int .i64 0, .slice none 0 0]) (t := 99) ?hr ?_; (case hd => rfl); (case hg => rfl); (case hr => exact z82_); intro gb23 hg w9 hbox hb; have n_ := a5_ (Kd.R_below z32_ hb) (below_step z167_ hb) (hbox) ((z216_ : w.heap.size ≤ gb23)) ((z216_ : w.heap.size ≤ gb23)); clear HO_3 HB; obtain ⟨HO_3, HB, BK23, GW23, GE23⟩ := n_; clear hb hbox hg; obtain ⟨hcz10_0, hcz10_1, hfz10_0, hfz10_1⟩ := b2_ BK23.out))
   go_ret; exact ⟨z118_, z155_⟩
  have c8b0 := decide_eq_false c8; have c8b1 : decide (120 < ((rd_T99 l0 x8_1).f1).length) = false := decide_eq_false z143_; clear c8; replace H := bm_ H; obtain ⟨t24, A25, H⟩ := H; have A11 := A_ A25; clear A25
  by_cases c12 : t24 = true
  ·
   subst c12; have H1 := tt_ H; clear H; have H := H1; clear H1; revert H; refine i4_ fun c13 H => ?_; have LMc13 := A_ c13; clear c13; obtain ⟨y26, hy26⟩ : ∃ y_ : List Int, y_ = (x3_1 ++ [(rd_T99 l0 x8_1).f0]) := ⟨_, rfl⟩; replace H : (f55.l0 k1 l0 y26 l0 (l0.length : Int) (wrap64 (x8_1 + 1))) = some r := z99_; have Ny26 := A_ hy26; clear hy26; have H' := A_ H; clear H; obtain ⟨p22, q22, ad22, A22_1, c22_1, e22, hx22_0, hx22_1, hl22_1, hi22_1⟩ := pq_ (at_T99 HR0.out x8_1); cases e22; replace hx22_0 := hc_ HB.out hx22_0; replace hx22_1 := hc_ HB.out hx22_1; have HR22_1 := A_ hi22_1; have HC22_1 := A_ hl22_1; clear hi22_1 hl22_1
   go_wp2_with (first | ((with_reducible refine gate_dst (N := 5) rfl ?_); (try (refine gate_guard (by rfl) ?_; dsimp only)); refine box_event ?hg (N := 5) ?hd (cs := #[.int .i64 0, .slice none 0 0]) (t := 99) ?hr ?_; (case hd => rfl); (case hg => rfl); (case hr => exact z82_); intro gb23 hg w14 hbox hb; have n_ := a5_ (Kd.R_below z32_ hb) (below_step z167_ hb) (hbox) ((z216_ : w.heap.size ≤ gb23)) ((z216_ : w.heap.size ≤ gb23)); clear HO_3 HB; obtain ⟨HO_3, HB, BK23, GW23, GE23⟩ := n_; clear hb hbox hg; obtain ⟨hcz15_0, hcz15_1, hfz15_0, hfz15_1⟩ := b2_ BK23.out) | (go_at_call 103; (with_reducible refine (f60.calls k1 _ _ ((rd_T99 l0 x8_1).f1) 120 true _ ?side1 HC22_1.out A11.out).mono ?_); (case side1 => exact Kd.C_below HR22_1.out z155_); rintro e w' ⟨rfl, ⟨nd, rfl⟩⟩) | ((with_reducible refine gate_builtin (b := .append) (xs := #[.tmp 28, .tmp 31]) rfl ?_); (try (refine gate_guard (by rfl) ?_; dsimp only)); at_builtin; refine Kd.R_append (Kd.int .i64) (w0 := w) w.heap.size rfl (.tmp 28) (.tmp 31) 42 3 (.int .i64 0) 8 rfl Tryz.underlying42 info3 rfl z81_ z143_ u3 x3_1 ((rd_T99 l0 x8_1).f0) [.int .i64 ((rd_T99 l0 x8_1).f0)] (fun _ => True) (fun _ => False) rfl z82_ ?aP (fun _ hk => hk.elim) ?aF ?aO ?aB ?aS ?aL ?_; (case aP => exact rfl); (case aB => exact z155_); (case aF => exact (fun _ _ => trivial)); (case aO => exact (by (with_reducible repeat (first | apply Kd.R_alloc | apply Kd.R_drewN | apply Kd.R_drew)); exact Kd.R_mono (Kd.R_far (p := ⟨gb23, 1, none⟩) (Kd.R_far (p := ⟨gb23, 0, none⟩) (Kd.R_types HO_3.out BK23.out z81_) (fun _ hk => hk.2) (.int .i64 ((rd_T99 l0 x8_1).f0))) (fun _ hk => hk.2) (.slice A22_1 ((rd_T99 l0 x8_1).f1).length c22_1)) (fun _ hk => trivial))); (case aS => exact (below_size z155_)); (case aL => have := LMc13.out; omega); intro v27 w16 ho hb hg hat; rw [← Ny26.out] at ho; have n_ := a3_ (blk_grown (g := gb23) (o := .cells #[.int .i64 ((rd_T99 l0 x8_1).f0), .slice A22_1 ((rd_T99 l0 x8_1).f1).length c22_1] 99 (0, 0)) (by (with_reducible repeat (first | refine blk_drewN ?_ _ | refine blk_drew ?_ | refine blk_alloc ?_ _)); refine blk_put (cs := #[.int .i64 ((rd_T99 l0 x8_1).f0), .slice none 0 0]) ?_ 1 _ rfl; (with_reducible repeat (first | refine blk_drewN ?_ _ | refine blk_drew ?_ | refine blk_alloc ?_ _)); refine blk_put (cs := #[.int .i64 0, .slice none 0 0]) ?_ 0 _ rfl; (with_reducible repeat (first | refine blk_drewN ?_ _ | refine blk_drew ?_ | refine blk_alloc ?_ _)); exact BK23.out) hg (Kd.R_ne HO_3.out BK23.out z81_)) (hb) (ho); clear BK23 HB HO_3; obtain ⟨BK23, HB, HO28⟩ := n_; clear ho hb hg hat))
   go_roundg k1
   case measure => have := HK1.out; omega
   case rel => exact ⟨(y26), (wrap64 (x8_1 + 1)), z119_, H', ⟨z132_⟩, ⟨by (with_reducible repeat (first | apply Kd.R_alloc | apply Kd.R_drewN | apply Kd.R_drew)); exact HO28.out⟩, ⟨z155_⟩⟩
  ·
   replace c12 := Bool.eq_false_iff.mpr c12; subst c12; have H1 := ff_ H; clear H; have H := H1; clear H1; obtain rfl := sj_ H; obtain ⟨p22, q22, ad22, A22_1, c22_1, e22, hx22_0, hx22_1, hl22_1, hi22_1⟩ := pq_ (at_T99 HR0.out x8_1); cases e22; replace hx22_0 := hc_ HB.out hx22_0; replace hx22_1 := hc_ HB.out hx22_1; have HR22_1 := A_ hi22_1; have HC22_1 := A_ hl22_1; clear hi22_1 hl22_1
   go_wp2_with (first | ((with_reducible refine gate_dst (N := 5) rfl ?_); (try (refine gate_guard (by rfl) ?_; dsimp only)); refine box_event ?hg (N := 5) ?hd (cs := #[.int .i64 0, .slice none 0 0]) (t := 99) ?hr ?_; (case hd => rfl); (case hg => rfl); (case hr => exact z82_); intro gb23 hg w17 hbox hb; have n_ := a5_ (Kd.R_below z32_ hb) (below_step z167_ hb) (hbox) ((z216_ : w.heap.size ≤ gb23)) ((z216_ : w.heap.size ≤ gb23)); clear HO_3 HB; obtain ⟨HO_3, HB, BK23, GW23, GE23⟩ := n_; clear hb hbox hg; obtain ⟨hcz18_0, hcz18_1, hfz18_0, hfz18_1⟩ := b2_ BK23.out) | (go_at_call 103; (with_reducible refine (f60.calls k1 _ _ ((rd_T99 l0 x8_1).f1) 120 false _ ?side1 HC22_1.out A11.out).mono ?_); (case side1 => exact Kd.C_below HR22_1.out z155_); rintro e w' ⟨rfl, ⟨nd, rfl⟩⟩))
   go_ret; exact ⟨z118_, z155_⟩
def f89.f (a0 : ByteArray) (a1 : Int) : Option (Bool) := if (a0.size : Int) > 0 then (some (decide ((a0.size : Int) ≤ a1))) else (some false)
theorem f89.calls (a0 : ByteArray) (a1 : Int) (r : Bool) (w : World) (h : f89.f a0 a1 = some r) :
  Calls Tryz.prog 74 #[.string a0, .int .i64 a1] w fun e w' => e = .returned (.bool r) ∧ Drawn0 w w' := by
 unfold f89.f at h; have H := h; clear h; revert H; refine i2_ (fun c3 H => ?_) fun c3 H => ?_
 ·
  have c3b0 := decide_eq_true c3; have c3b1 : decide (0 < a0.size) = true := decide_eq_true z143_; clear c3; obtain rfl := sj_ H; go_enter Tryz.func74, Tryz.ntmps74; go_wp2; go_ret; exact ⟨z119_, z188_⟩
 have c3b0 := decide_eq_false c3; have c3b1 : decide (0 < a0.size) = false := decide_eq_false z143_; clear c3; obtain rfl := sj_ H; go_enter Tryz.func74, Tryz.ntmps74; go_wp2; go_ret; exact ⟨z119_, z188_⟩
def f88.l0 : Nat → List Int → Int → List Int → Int → Int → Option (Bool)
 | 0, _, _, _, _, _ => none
 | k + 1, x0, x3, x6, x7, x8 => if x8 < x7 then (if 0 ≤ x8 then (if x8 < (x6.length : Int) then (if (rd x6 x8) ≤ x3 then (some false) else (f88.l0 k x0 (rd x6 x8) x6 x7 (wrap64 (x8 + 1)))) else (none)) else (none)) else (some (decide ((x0.length : Int) ≤ 2000)))
def f88.f (k : Nat) (l0 : List Int) : Option (Bool) := f88.l0 k l0 (-1) l0 (l0.length : Int) 0
theorem f88.calls (k : Nat) (A0 : Option Addr) (c0 : Nat) (l0 : List Int) (r : Bool) (w : World) (hr0 : Kd.C (Kd.int .i64) w A0 l0.length l0) (hc0 : l0.length ≤ c0) (h : f88.f k l0 = some r) :
  Calls Tryz.prog 145 #[.slice A0 l0.length c0] w fun e w' => e = .returned (.bool r) ∧ Drawn0 w w' := by
 have HR0 := A_ hr0; have HC0 := A_ hc0; clear hr0 hc0; unfold f88.f at h; have H := h; clear h; have H' := A_ H; clear H; go_enter Tryz.func145, Tryz.ntmps145; go_wp2
 go_loopg [3, 8] k (fun kq v3 v8 w' => ∃ (x3_1 : Int) (x8_1 : Int), v3 = .int .i64 x3_1 ∧ v8 = .int .i64 x8_1 ∧ Aside0 (f88.l0 kq l0 x3_1 l0 (l0.length : Int) x8_1 = some r) ∧ Aside0 (kq ≤ k) ∧ Drawn0 w w')
 case atStart => exact ⟨((-1)), (0), z119_, z119_, H', ⟨Nat.le_refl _⟩, z188_⟩
 case round =>
  clear H'; obtain ⟨x3_1, x8_1, rfl, rfl, HA, HK1, ⟨m1, rfl⟩⟩ := hrel
  cases gk with
  | zero => exact absurd HA.out (by simp [f88.l0])
  | succ k1 =>
  have H := HA.out; clear HA; simp only [f88.l0] at H; revert H; refine i1_ (fun c2b0 H => ?_) fun c2b0 H => ?_; rotate_left
  ·
   obtain rfl := sj_ H; go_wp2; go_ret; exact ⟨z119_, z188_⟩
  revert H; refine i3_ fun c3b0 H => ?_; revert H; refine i3_ fun c4b0 H => ?_; revert H; refine i1_ (fun c5b0 H => ?_) fun c5b0 H => ?_
  ·
   obtain rfl := sj_ H; obtain ⟨p10, q10, ad10, e10, hx10_0⟩ := pq_ (Kd.at_int HR0.out x8_1); cases e10; go_wp2; go_ret; exact ⟨z119_, z188_⟩
  have H' := A_ H; clear H; obtain ⟨p10, q10, ad10, e10, hx10_0⟩ := pq_ (Kd.at_int HR0.out x8_1); cases e10; go_wp2
  go_roundg k1
  case measure => have := HK1.out; omega
  case rel => exact ⟨(rd l0 x8_1), (wrap64 (x8_1 + 1)), z119_, z119_, H', ⟨z132_⟩, z188_⟩
def f66.l0 : Nat → List Int → List (S99) → Int → Int → Option (List Int)
 | 0, _, _, _, _ => none
 | k + 1, x3, x6, x7, x8 => if x8 < x7 then (if 0 ≤ x8 then (if x8 < (x6.length : Int) then (if x3.length < 17592186044416 then (f66.l0 k (x3 ++ [(rd_T99 x6 x8).f0]) x6 x7 (wrap64 (x8 + 1))) else (none)) else (none)) else (none)) else (some x3)
def f66.f (k : Nat) (l0 : List (S99)) : Option (List Int) := f66.l0 k ([] : List Int) l0 (l0.length : Int) 0
theorem f66.calls (k : Nat) (A0 : Option Addr) (c0 : Nat) (l0 : List (S99)) (r : List Int) (w : World) (hr0 : Kd.C k99 w A0 l0.length l0) (hc0 : l0.length ≤ c0) (h : f66.f k l0 = some r) :
  Calls Tryz.prog 106 #[.slice A0 l0.length c0] w fun e w' => ∃ v0_ : Value, e = .returned (v0_) ∧ Kd.R (Kd.int .i64) 3 w' w.heap.size (fun _ => True) v0_ r ∧ Below w.heap.size w w' := by
 have hu99 := Tryz.underlying99; have HR0 := A_ hr0; have HC0 := A_ hc0; clear hr0 hc0; have HB := A_ (Below.refl w.heap.size w); unfold f66.f at h; have H := h; clear h; have H' := A_ H; clear H; go_enter Tryz.func106, Tryz.ntmps106; go_wp2
 go_loopg [3, 8] k (fun kq v3 v8 w' => ∃ (x3_1 : List Int) (x8_1 : Int), v8 = .int .i64 x8_1 ∧ Aside0 (f66.l0 kq x3_1 l0 (l0.length : Int) x8_1 = some r) ∧ Aside0 (kq ≤ k) ∧ Aside0 (Kd.R (Kd.int .i64) 3 w' w.heap.size (fun _ => True) v3 x3_1) ∧ Aside0 (Below w.heap.size w w'))
 case atStart => exact ⟨(([] : List Int)), (0), z119_, H', ⟨Nat.le_refl _⟩, ⟨z114_⟩, ⟨z167_⟩⟩
 case round =>
  clear H'; obtain ⟨x3_1, x8_1, rfl, HA, HK1, HO_3, HB⟩ := hrel
  cases gk with
  | zero => exact absurd HA.out (by simp [f66.l0])
  | succ k1 =>
  have H := HA.out; clear HA; simp only [f66.l0] at H; revert H; refine i1_ (fun c2b0 H => ?_) fun c2b0 H => ?_; rotate_left
  ·
   obtain rfl := sj_ H; go_wp2; go_ret; exact ⟨_, z118_, z32_, z167_⟩
  revert H; refine i3_ fun c3b0 H => ?_; revert H; refine i3_ fun c4b0 H => ?_; revert H; refine i4_ fun c5 H => ?_; have LMc5 := A_ c5; clear c5; obtain ⟨y10, hy10⟩ : ∃ y_ : List Int, y_ = (x3_1 ++ [(rd_T99 l0 x8_1).f0]) := ⟨_, rfl⟩; replace H : (f66.l0 k1 y10 l0 (l0.length : Int) (wrap64 (x8_1 + 1))) = some r := z98_; have Ny10 := A_ hy10; clear hy10; have H' := A_ H; clear H; obtain ⟨p11, q11, ad11, A11_1, c11_1, e11, hx11_0, hx11_1, hl11_1, hi11_1⟩ := pq_ (at_T99 HR0.out x8_1); cases e11; replace hx11_0 := hc_ HB.out hx11_0; replace hx11_1 := hc_ HB.out hx11_1; have HR11_1 := A_ hi11_1; have HC11_1 := A_ hl11_1; clear hi11_1 hl11_1
  go_wp2_with (first | ((with_reducible refine gate_dst (N := 5) rfl ?_); refine box_event ?hg (N := 5) ?hd (cs := #[.int .i64 0, .slice none 0 0]) (t := 99) ?hr ?_; (case hd => rfl); (case hg => rfl); (case hr => exact z82_); intro gb12 hg w6 hbox hb; have n_ := a5_ (Kd.R_below z32_ hb) (below_step z167_ hb) (hbox) ((z216_ : w.heap.size ≤ gb12)) ((z216_ : w.heap.size ≤ gb12)); clear HO_3 HB; obtain ⟨HO_3, HB, BK12, GW12, GE12⟩ := n_; clear hb hbox hg; obtain ⟨hcz7_0, hcz7_1, hfz7_0, hfz7_1⟩ := b2_ BK12.out) | ((with_reducible refine gate_builtin (b := .append) (xs := #[.tmp 12, .tmp 15]) rfl ?_); at_builtin; refine Kd.R_append (Kd.int .i64) (w0 := w) w.heap.size rfl (.tmp 12) (.tmp 15) 42 3 (.int .i64 0) 8 rfl Tryz.underlying42 info3 rfl z81_ z143_ u3 x3_1 ((rd_T99 l0 x8_1).f0) [.int .i64 ((rd_T99 l0 x8_1).f0)] (fun _ => True) (fun _ => False) rfl z82_ ?aP (fun _ hk => hk.elim) ?aF ?aO ?aB ?aS ?aL ?_; (case aP => exact rfl); (case aB => exact z149_); (case aF => exact (fun _ _ => trivial)); (case aO => exact (by (with_reducible repeat (first | apply Kd.R_alloc | apply Kd.R_drewN | apply Kd.R_drew)); exact Kd.R_mono (Kd.R_far (p := ⟨gb12, 1, none⟩) (Kd.R_far (p := ⟨gb12, 0, none⟩) (Kd.R_types HO_3.out BK12.out z81_) (fun _ hk => hk.2) (.int .i64 ((rd_T99 l0 x8_1).f0))) (fun _ hk => hk.2) (.slice A11_1 ((rd_T99 l0 x8_1).f1).length c11_1)) (fun _ hk => trivial))); (case aS => exact (below_size z149_)); (case aL => have := LMc5.out; omega); intro v13 w8 ho hb hg hat; rw [← Ny10.out] at ho; have n_ := a3_ (blk_grown (g := gb12) (o := .cells #[.int .i64 ((rd_T99 l0 x8_1).f0), .slice A11_1 ((rd_T99 l0 x8_1).f1).length c11_1] 99 (0, 0)) (by (with_reducible repeat (first | refine blk_drewN ?_ _ | refine blk_drew ?_ | refine blk_alloc ?_ _)); refine blk_put (cs := #[.int .i64 ((rd_T99 l0 x8_1).f0), .slice none 0 0]) ?_ 1 _ rfl; (with_reducible repeat (first | refine blk_drewN ?_ _ | refine blk_drew ?_ | refine blk_alloc ?_ _)); refine blk_put (cs := #[.int .i64 0, .slice none 0 0]) ?_ 0 _ rfl; (with_reducible repeat (first | refine blk_drewN ?_ _ | refine blk_drew ?_ | refine blk_alloc ?_ _)); exact BK12.out) hg (Kd.R_ne HO_3.out BK12.out z81_)) (hb) (ho); clear BK12 HB HO_3; obtain ⟨BK12, HB, HO14⟩ := n_; clear ho hb hg hat))
  go_roundg k1
  case measure => have := HK1.out; omega
  case rel => exact ⟨(y10), (wrap64 (x8_1 + 1)), z119_, H', ⟨z132_⟩, ⟨by (with_reducible repeat (first | apply Kd.R_alloc | apply Kd.R_drewN | apply Kd.R_drew)); exact HO14.out⟩, ⟨z149_⟩⟩
def f108.f (k : Nat) (l0 : List (S99)) : Option (List Int) := (f55.f k l0).bind fun t10 => (if t10 = true then ((f66.f k l0).bind fun t11 => (some t11)) else (some ([] : List Int)))
theorem f108.calls (k : Nat) (A0 : Option Addr) (c0 : Nat) (l0 : List (S99)) (r : List Int) (w : World) (hr0 : Kd.C k99 w A0 l0.length l0) (hc0 : l0.length ≤ c0) (h : f108.f k l0 = some r) :
  Calls Tryz.prog 78 #[.slice A0 l0.length c0] w fun e w' => ∃ v0_ : Value, e = .returned (v0_) ∧ Kd.R (Kd.int .i64) 3 w' w.heap.size (fun _ => True) v0_ r ∧ Below w.heap.size w w' := by
 have HR0 := A_ hr0; have HC0 := A_ hc0; clear hr0 hc0; have HB := A_ (Below.refl w.heap.size w); unfold f108.f at h; have H := h; clear h; replace H := bm_ H; obtain ⟨t10, A20, H⟩ := H; have A2 := A_ A20; clear A20
 by_cases c3 : t10 = true
 ·
  subst c3; have H1 := tt_ H; clear H; have H := H1; clear H1; replace H := bm_ H; obtain ⟨t11, A40, H⟩ := H; have A4 := A_ A40; clear A40; obtain rfl := sj_ H; go_enter Tryz.func78, Tryz.ntmps78
  go_wp2_with (first | ((with_reducible refine gate_callee (f := 75) rfl ?_); refine gl_ (some 4) Tryz.func75 #[.slice A0 l0.length c0] ?_; (with_reducible refine (f55.calls k _ _ l0 true _ ?side1 HC0.out A2.out).mono ?_); (case side1 => exact z189_); rintro e w5 ⟨rfl, hb⟩; refine ⟨_, rfl, ?_⟩; replace HB := A_ (below_step z167_ hb); (try clear hb)) | ((with_reducible refine gate_callee (f := 106) rfl ?_); refine gl_ (some 7) Tryz.func106 #[.slice A0 l0.length c0] ?_; (with_reducible refine (f66.calls k _ _ l0 t11 _ ?side1 HC0.out A4.out).mono ?_); (case side1 => exact z171_); rintro e w6 ⟨v12, rfl, ho0, hb⟩; refine ⟨_, rfl, ?_⟩; have n_ := a2_ (Kd.R_lower ho0 (below_size z167_)) (below_step z167_ hb); clear HB; obtain ⟨HO13, HB⟩ := n_; (try clear hb); (try clear ho0)))
  go_ret; exact ⟨_, z118_, z8_, z167_⟩
 ·
  replace c3 := Bool.eq_false_iff.mpr c3; subst c3; have H1 := ff_ H; clear H; have H := H1; clear H1; obtain rfl := sj_ H; go_enter Tryz.func78, Tryz.ntmps78
  go_wp2_with (first | ((with_reducible refine gate_callee (f := 75) rfl ?_); refine gl_ (some 4) Tryz.func75 #[.slice A0 l0.length c0] ?_; (with_reducible refine (f55.calls k _ _ l0 false _ ?side1 HC0.out A2.out).mono ?_); (case side1 => exact z189_); rintro e w7 ⟨rfl, hb⟩; refine ⟨_, rfl, ?_⟩; replace HB := A_ (below_step z167_ hb); (try clear hb)))
  go_ret; exact ⟨_, z118_, z114_, z167_⟩
def f16.l0 : Nat → List ByteArray → List ByteArray → Int → Option (Bool)
 | 0, _, _, _ => none
 | k + 1, x0, x1, x5 => if x5 < (x0.length : Int) then (if 0 ≤ x5 then (if x5 < (x1.length : Int) then (if (rdOf ByteArray.empty x0 x5).toList = (rdOf ByteArray.empty x1 x5).toList then (f16.l0 k x0 x1 (wrap64 (x5 + 1))) else (some false)) else (none)) else (none)) else (some true)
def f16.f (k : Nat) (l0 : List ByteArray) (l1 : List ByteArray) : Option (Bool) := if (l0.length : Int) = (l1.length : Int) then (f16.l0 k l0 l1 0) else (some false)
theorem f16.calls (k : Nat) (A0 : Option Addr) (c0 : Nat) (l0 : List ByteArray) (A1 : Option Addr) (c1 : Nat) (l1 : List ByteArray) (r : Bool) (w : World) (hr0 : Kd.C Kd.string w A0 l0.length l0) (hc0 : l0.length ≤ c0) (hr1 : Kd.C Kd.string w A1 l1.length l1) (hc1 : l1.length ≤ c1) (h : f16.f k l0 l1 = some r) :
  Calls Tryz.prog 12 #[.slice A0 l0.length c0, .slice A1 l1.length c1] w fun e w' => e = .returned (.bool r) ∧ Drawn0 w w' := by
 have HR0 := A_ hr0; have HC0 := A_ hc0; clear hr0 hc0; have HR1 := A_ hr1; have HC1 := A_ hc1; clear hr1 hc1; unfold f16.f at h; have H := h; clear h; revert H; refine i2_ (fun c3 H => ?_) fun c3 H => ?_; rotate_left
 ·
  have c3b0 := beq_eq_false_iff_ne.mpr c3; have c3b1 := bne_iff_ne.mpr c3; have c3b2 : (l0.length == l1.length) = false := z122_; obtain rfl := sj_ H; go_enter Tryz.func12, Tryz.ntmps12; go_wp2
  repeat (go_quiet (fail); try go_wp2)
  go_ret; exact ⟨z119_, z188_⟩
 have c3b0 := beq_iff_eq.mpr c3; have c3b1 := bne_eq_false_iff_eq.mpr c3; have c3b2 : (l0.length == l1.length) = true := z122_; clear c3; have H' := A_ H; clear H; go_enter Tryz.func12, Tryz.ntmps12; go_wp2
 repeat (go_quiet (fail); try go_wp2)
 go_loopg [5] k (fun kq v5 w' => ∃ (x5_1 : Int), v5 = .int .i64 x5_1 ∧ Aside0 (f16.l0 kq l0 l1 x5_1 = some r) ∧ Aside0 (kq ≤ k) ∧ Drawn0 w w')
 case atStart => exact ⟨(0), z119_, H', ⟨Nat.le_refl _⟩, z188_⟩
 case round =>
  clear H'; (try clear c1); (try clear c3); (try clear c3b0); (try clear c3b1); (try clear c3b2); obtain ⟨x5_1, rfl, HA, HK1, ⟨m1, rfl⟩⟩ := hrel
  cases gk with
  | zero => exact absurd HA.out (by simp [f16.l0])
  | succ k1 =>
  have H := HA.out; clear HA; simp only [f16.l0] at H; revert H; refine i1_ (fun c4b0 H => ?_) fun c4b0 H => ?_; rotate_left
  ·
   obtain rfl := sj_ H; go_wp2
   repeat (go_quiet (fail); try go_wp2)
   go_ret; exact ⟨z119_, z188_⟩
  revert H; refine i3_ fun c5b0 H => ?_; revert H; refine i3_ fun c6b0 H => ?_; revert H; refine i2_ (fun c7 H => ?_) fun c7 H => ?_; rotate_left
  ·
   have c7b0 := beq_eq_false_iff_ne.mpr c7; have c7b1 := bne_iff_ne.mpr c7; obtain rfl := sj_ H; obtain ⟨p10, q10, ad10, e10, hx10_0⟩ := pq_ (Kd.at_string HR0.out x5_1); cases e10; obtain ⟨p11, q11, ad11, e11, hx11_0⟩ := pq_ (Kd.at_string HR1.out x5_1); cases e11; go_wp2
   repeat (go_quiet (fail); try go_wp2)
   go_ret; exact ⟨z119_, z188_⟩
  have c7b0 := beq_iff_eq.mpr c7; have c7b1 := bne_eq_false_iff_eq.mpr c7; clear c7; have H' := A_ H; clear H; obtain ⟨p10, q10, ad10, e10, hx10_0⟩ := pq_ (Kd.at_string HR0.out x5_1); cases e10; obtain ⟨p11, q11, ad11, e11, hx11_0⟩ := pq_ (Kd.at_string HR1.out x5_1); cases e11; go_wp2
  repeat (go_quiet (fail); try go_wp2)
  go_roundg k1
  case measure => have := HK1.out; omega
  case rel => exact ⟨(wrap64 (x5_1 + 1)), z119_, H', ⟨z132_⟩, z188_⟩
def f54.l0 : Nat → List ByteArray → List ByteArray → Int → Int → Option (Bool)
 | 0, _, _, _, _ => none
 | k + 1, x0, x5, x6, x7 => if x7 < x6 then (if 0 ≤ x7 then (if x7 < (x5.length : Int) then (if ((rdOf ByteArray.empty x5 x7).size : Int) < 1 then (some false) else (if ((rdOf ByteArray.empty x5 x7).size : Int) > 32 then (some false) else (if x7 > 0 then (if 0 ≤ (wrap64 (x7 - 1)) then (if (wrap64 (x7 - 1)) < (x0.length : Int) then (if ((Op.bytesLess ((rdOf ByteArray.empty x0 (wrap64 (x7 - 1))).toList) ((rdOf ByteArray.empty x5 x7).toList)) = true) then (f54.l0 k x0 x5 x6 (wrap64 (x7 + 1))) else (some false)) else (none)) else (none)) else (f54.l0 k x0 x5 x6 (wrap64 (x7 + 1)))))) else (none)) else (none)) else (some (decide ((x0.length : Int) ≤ 200)))
def f54.f (k : Nat) (l0 : List ByteArray) : Option (Bool) := f54.l0 k l0 l0 (l0.length : Int) 0
theorem f54.calls (k : Nat) (A0 : Option Addr) (c0 : Nat) (l0 : List ByteArray) (r : Bool) (w : World) (hr0 : Kd.C Kd.string w A0 l0.length l0) (hc0 : l0.length ≤ c0) (h : f54.f k l0 = some r) :
  Calls Tryz.prog 76 #[.slice A0 l0.length c0] w fun e w' => e = .returned (.bool r) ∧ Drawn0 w w' := by
 have HR0 := A_ hr0; have HC0 := A_ hc0; clear hr0 hc0; unfold f54.f at h; have H := h; clear h; have H' := A_ H; clear H; go_enter Tryz.func76, Tryz.ntmps76; go_wp2
 go_loopg [7] k (fun kq v7 w' => ∃ (x7_1 : Int), v7 = .int .i64 x7_1 ∧ Aside0 (f54.l0 kq l0 l0 (l0.length : Int) x7_1 = some r) ∧ Aside0 (kq ≤ k) ∧ Drawn0 w w')
 case atStart => exact ⟨(0), z119_, H', ⟨Nat.le_refl _⟩, z188_⟩
 case round =>
  clear H'; obtain ⟨x7_1, rfl, HA, HK1, ⟨m1, rfl⟩⟩ := hrel
  cases gk with
  | zero => exact absurd HA.out (by simp [f54.l0])
  | succ k1 =>
  have H := HA.out; clear HA; simp only [f54.l0] at H; revert H; refine i1_ (fun c2b0 H => ?_) fun c2b0 H => ?_; rotate_left
  ·
   obtain rfl := sj_ H; go_wp2; go_ret; exact ⟨z119_, z188_⟩
  revert H; refine i3_ fun c3b0 H => ?_; revert H; refine i3_ fun c4b0 H => ?_; revert H; refine i2_ (fun c5 H => ?_) fun c5 H => ?_
  ·
   have c5b0 := decide_eq_true c5; have c5b1 : decide ((rdOf ByteArray.empty l0 x7_1).size < 1) = true := decide_eq_true z143_; clear c5; obtain rfl := sj_ H; obtain ⟨p12, q12, ad12, e12, hx12_0⟩ := pq_ (Kd.at_string HR0.out x7_1); cases e12; go_wp2; go_ret; exact ⟨z119_, z188_⟩
  have c5b0 := decide_eq_false c5; have c5b1 : decide ((rdOf ByteArray.empty l0 x7_1).size < 1) = false := decide_eq_false z143_; clear c5; revert H; refine i2_ (fun c6 H => ?_) fun c6 H => ?_
  ·
   have c6b0 := decide_eq_true c6; have c6b1 : decide (32 < (rdOf ByteArray.empty l0 x7_1).size) = true := decide_eq_true z143_; clear c6; obtain rfl := sj_ H; obtain ⟨p12, q12, ad12, e12, hx12_0⟩ := pq_ (Kd.at_string HR0.out x7_1); cases e12; go_wp2; go_ret; exact ⟨z119_, z188_⟩
  have c6b0 := decide_eq_false c6; have c6b1 : decide (32 < (rdOf ByteArray.empty l0 x7_1).size) = false := decide_eq_false z143_; clear c6; revert H; refine i1_ (fun c7b0 H => ?_) fun c7b0 H => ?_; rotate_left
  ·
   have H' := A_ H; clear H; obtain ⟨p12, q12, ad12, e12, hx12_0⟩ := pq_ (Kd.at_string HR0.out x7_1); cases e12; go_wp2
   go_roundg k1
   case measure => have := HK1.out; omega
   case rel => exact ⟨(wrap64 (x7_1 + 1)), z119_, H', ⟨z132_⟩, z188_⟩
  obtain ⟨ji8, hji8⟩ : ∃ j_ : Int, (wrap64 (x7_1 - 1)) = j_ := ⟨_, rfl⟩
  replace H : (if 0 ≤ (ji8) then (if (ji8) < (l0.length : Int) then (if ((Op.bytesLess ((rdOf ByteArray.empty l0 (ji8)).toList) ((rdOf ByteArray.empty l0 x7_1).toList)) = true) then (f54.l0 k1 l0 l0 (l0.length : Int) (wrap64 (x7_1 + 1))) else (some false)) else (none)) else (none)) = some r := by first | (rw [hji8] at H; exact H) | (simp only [hji8] at H ⊢; exact H)
  have hji8w : (IntKind.i64.wrap (x7_1 - 1)) = ji8 := (i64_w _).trans hji8; revert H; refine i3_ fun c9b0 H => ?_; revert H; refine i3_ fun c10b0 H => ?_; revert H; refine i2_ (fun c11 H => ?_) fun c11 H => ?_; rotate_left
  ·
   have c11b0 : (Op.bytesLess ((rdOf ByteArray.empty l0 (ji8)).toList) ((rdOf ByteArray.empty l0 x7_1).toList)) = false := by simpa using c11
   clear c11; obtain rfl := sj_ H; obtain ⟨p12, q12, ad12, e12, hx12_0⟩ := pq_ (Kd.at_string HR0.out x7_1); cases e12; obtain ⟨p13, q13, ad13, e13, hx13_0⟩ := pq_ (Kd.at_string HR0.out (ji8)); obtain rfl : ad12 = ad13 := (by injection e13); go_wp2; go_ret; exact ⟨by first | rfl | (simp; done) | (simp only [← hji8] <;> (first | rfl | simp)) | (simp [*]; done), z188_⟩
  have c11b0 : (Op.bytesLess ((rdOf ByteArray.empty l0 (ji8)).toList) ((rdOf ByteArray.empty l0 x7_1).toList)) = true := c11; clear c11; have H' := A_ H; clear H; obtain ⟨p12, q12, ad12, e12, hx12_0⟩ := pq_ (Kd.at_string HR0.out x7_1); cases e12; obtain ⟨p13, q13, ad13, e13, hx13_0⟩ := pq_ (Kd.at_string HR0.out (ji8)); obtain rfl : ad12 = ad13 := (by injection e13); go_wp2
  go_roundg k1
  case measure => have := HK1.out; omega
  case rel => exact ⟨(wrap64 (x7_1 + 1)), z119_, H', ⟨z132_⟩, z188_⟩
def f110.f (a0 : ByteArray) : Option (Bool) := (f89.f a0 32).bind fun t10 => (some (!t10))
theorem f110.calls (a0 : ByteArray) (r : Bool) (w : World) (h : f110.f a0 = some r) :
  Calls Tryz.prog 73 #[.string a0] w fun e w' => e = .returned (.bool r) ∧ Drawn0 w w' := by
 unfold f110.f at h; have H := h; clear h; replace H := bm_ H; obtain ⟨t10, A20, H⟩ := H; have A2 := A_ A20; clear A20; obtain rfl := sj_ H; go_enter Tryz.func73, Tryz.ntmps73
 go_wp2_with (first | ((with_reducible refine gate_callee (f := 74) rfl ?_); refine gl_ (some 4) Tryz.func74 #[.string a0, .int .i64 32] ?_; (with_reducible refine (f89.calls a0 32 t10 _ A2.out).mono ?_); rintro e w' ⟨rfl, ⟨nd, rfl⟩⟩; refine ⟨_, rfl, ?_⟩))
 go_ret; exact ⟨z119_, z188_⟩
end Go.Proofs.YtbbmdakdghefnaaGreatDoor.T
namespace Go.Proofs.YtbbmdakdghefnaaGreatDoor.T
open Go.RowKit Go.Proofs.YtbbmdakdghefnaaGreatDoorW.PrintWords Go.Proofs.YtbbmdakdghefnaaGreatDoorW.PrintLast Go.Proofs.YtbbmdakdghefnaaGreatDoorW.PrintMore
attribute [local go_sem] max2_int min2_int max_two min_two max_three min_three max_four min_four
set_option linter.unusedVariables false
set_option linter.unusedSimpArgs false
mutual
def f30.l0 : Nat → List (S37) → Int → Option (Bool)
 | 0, _, _ => none
 | k + 1, x0, x3 => if x3 < (x0.length : Int) then (if 0 ≤ x3 then (if (((rd_T37 x0 x3).f1).length : Int) > 8 then (some false) else (f30.l1 k x0 x3 0)) else (none)) else (some true)
def f30.l1 : Nat → List (S37) → Int → Int → Option (Bool)
 | 0, _, _, _ => none
 | k + 1, x0, x3, x4 => if 0 ≤ x3 then (if x3 < (x0.length : Int) then (if x4 < (((rd_T37 x0 x3).f1).length : Int) then (if 0 ≤ x4 then (if ((rdOf ByteArray.empty ((rd_T37 x0 x3).f1) x4).size : Int) > 40 then (some false) else (f30.l1 k x0 x3 (wrap64 (x4 + 1)))) else (none)) else (f30.l0 k x0 (wrap64 (x3 + 1)))) else (none)) else (none)
end
def f30.f (k : Nat) (l0 : List (S37)) : Option (Bool) := if (l0.length : Int) > 14 then (some false) else (f30.l0 k l0 0)
theorem f30.calls (k : Nat) (A0 : Option Addr) (c0 : Nat) (l0 : List (S37)) (r : Bool) (w : World) (hr0 : Kd.C k37 w A0 l0.length l0) (hc0 : l0.length ≤ c0) (h : f30.f k l0 = some r) :
  Calls Tryz.prog 10 #[.slice A0 l0.length c0] w fun e w' => e = .returned (.bool r) ∧ Drawn0 w w' := by
 have HR0 := A_ hr0; have HC0 := A_ hc0; clear hr0 hc0; unfold f30.f at h; have H := h; clear h; revert H; refine i2_ (fun c2 H => ?_) fun c2 H => ?_
 ·
  have c2b0 := decide_eq_true c2; have c2b1 : decide (14 < l0.length) = true := decide_eq_true z143_; clear c2; obtain rfl := sj_ H; go_enter Tryz.func10, Tryz.ntmps10; go_wp2; go_ret; exact ⟨z119_, z188_⟩
 have c2b0 := decide_eq_false c2; have c2b1 : decide (14 < l0.length) = false := decide_eq_false z143_; clear c2; have H' := A_ H; clear H; go_enter Tryz.func10, Tryz.ntmps10; go_wp2
 go_loopg [3] k (fun kq v3 w' => ∃ (x3_1 : Int), v3 = .int .i64 x3_1 ∧ Aside0 (f30.l0 kq l0 x3_1 = some r) ∧ Aside0 (kq ≤ k) ∧ Drawn0 w w')
 case atStart => exact ⟨(0), z119_, H', ⟨Nat.le_refl _⟩, z188_⟩
 case round =>
  clear H'; (try clear c2); (try clear c2b0); (try clear c2b1); obtain ⟨x3_1, rfl, HA, HK1, ⟨m1, rfl⟩⟩ := hrel
  cases gk with
  | zero => exact absurd HA.out (by simp [f30.l0])
  | succ k1 =>
  have H := HA.out; clear HA; simp only [f30.l0] at H; revert H; refine i1_ (fun c3b0 H => ?_) fun c3b0 H => ?_; rotate_left
  ·
   obtain rfl := sj_ H; go_wp2; go_ret; exact ⟨z119_, z188_⟩
  revert H; refine i3_ fun c4b0 H => ?_; revert H; refine i2_ (fun c5 H => ?_) fun c5 H => ?_
  ·
   have c5b0 := decide_eq_true c5; have c5b1 : decide (8 < ((rd_T37 l0 x3_1).f1).length) = true := decide_eq_true z143_; clear c5; obtain rfl := sj_ H; obtain ⟨p11, q11, ad11, A11_1, c11_1, e11, hx11_0, hx11_1, hx11_2, hx11_3, hl11_1, hi11_1⟩ := pq_ (at_T37 HR0.out x3_1); cases e11; have HR11_1 := A_ hi11_1; have HC11_1 := A_ hl11_1; clear hi11_1 hl11_1; go_wp2; go_ret; exact ⟨z119_, z188_⟩
  have c5b0 := decide_eq_false c5; have c5b1 : decide (8 < ((rd_T37 l0 x3_1).f1).length) = false := decide_eq_false z143_; clear c5; have H' := A_ H; clear H; obtain ⟨p11, q11, ad11, A11_1, c11_1, e11, hx11_0, hx11_1, hx11_2, hx11_3, hl11_1, hi11_1⟩ := pq_ (at_T37 HR0.out x3_1); cases e11; have HR11_1 := A_ hi11_1; have HC11_1 := A_ hl11_1; clear hi11_1 hl11_1; go_wp2
  go_loopg [4] k1 (fun kq v4 w' => ∃ (x4_2 : Int), v4 = .int .i64 x4_2 ∧ Aside0 (f30.l1 kq l0 x3_1 x4_2 = some r) ∧ Aside0 (kq ≤ k1) ∧ Drawn0 w w')
  case atStart => exact ⟨(0), z119_, H', ⟨Nat.le_refl _⟩, z188_⟩
  case round =>
   clear H'; (try clear c2); (try clear c2b0); (try clear c2b1); (try clear c3); (try clear c3b0); (try clear c4); (try clear c4b0); (try clear c5); (try clear c5b0); (try clear c5b1); (try clear hx11_0); (try clear hx11_1); (try clear hx11_2); (try clear hx11_3); (try clear p11); (try clear q11); obtain ⟨x4_2, rfl, HA, HK2, ⟨m2, rfl⟩⟩ := hrel
   cases gk with
   | zero => exact absurd HA.out (by simp [f30.l1])
   | succ k2 =>
   have H := HA.out; clear HA; simp only [f30.l1] at H; revert H; refine i3_ fun c6b0 H => ?_; revert H; refine i3_ fun c7b0 H => ?_; revert H; refine i1_ (fun c8b0 H => ?_) fun c8b0 H => ?_; rotate_left
   ·
    have H' := A_ H; clear H; obtain ⟨p12, q12, ad12, A12_1, c12_1, e12, hx12_0, hx12_1, hx12_2, hx12_3, hl12_1, hi12_1⟩ := pq_ (at_T37 HR0.out x3_1); obtain rfl : ad11 = ad12 := (by injection e12); have HR12_1 := A_ hi12_1; have HC12_1 := A_ hl12_1; clear hi12_1 hl12_1; go_wp2
    go_roundg k2
    case measure => have := HK1.out; have := HK2.out; omega
    case rel => exact ⟨(wrap64 (x3_1 + 1)), z119_, H', ⟨z131_⟩, z188_⟩
   revert H; refine i3_ fun c9b0 H => ?_; revert H; refine i2_ (fun c10 H => ?_) fun c10 H => ?_
   ·
    have c10b0 := decide_eq_true c10; have c10b1 : decide (40 < (rdOf ByteArray.empty ((rd_T37 l0 x3_1).f1) x4_2).size) = true := decide_eq_true z143_; clear c10; obtain rfl := sj_ H; obtain ⟨p12, q12, ad12, A12_1, c12_1, e12, hx12_0, hx12_1, hx12_2, hx12_3, hl12_1, hi12_1⟩ := pq_ (at_T37 HR0.out x3_1); obtain rfl : ad11 = ad12 := (by injection e12); have HR12_1 := A_ hi12_1; have HC12_1 := A_ hl12_1; clear hi12_1 hl12_1; obtain ⟨p13, q13, ad13, A13_1, c13_1, e13, hx13_0, hx13_1, hx13_2, hx13_3, hl13_1, hi13_1⟩ := pq_ (at_T37 HR0.out x3_1); obtain rfl : ad11 = ad13 := (by injection e13); have HR13_1 := A_ hi13_1; have HC13_1 := A_ hl13_1; clear hi13_1 hl13_1; have ea_ := Option.some.inj (hx12_1.symm.trans hx13_1)
    injection ea_ with ea_ en_ ec_
    subst ea_; subst ec_; clear en_; obtain ⟨p14, q14, ad14, e14, hx14_0⟩ := pq_ (Kd.at_string HR13_1.out x4_2); cases e14; go_wp2; go_ret; exact ⟨z119_, z188_⟩
   have c10b0 := decide_eq_false c10; have c10b1 : decide (40 < (rdOf ByteArray.empty ((rd_T37 l0 x3_1).f1) x4_2).size) = false := decide_eq_false z143_; clear c10; have H' := A_ H; clear H; obtain ⟨p12, q12, ad12, A12_1, c12_1, e12, hx12_0, hx12_1, hx12_2, hx12_3, hl12_1, hi12_1⟩ := pq_ (at_T37 HR0.out x3_1); obtain rfl : ad11 = ad12 := (by injection e12); have HR12_1 := A_ hi12_1; have HC12_1 := A_ hl12_1; clear hi12_1 hl12_1; obtain ⟨p13, q13, ad13, A13_1, c13_1, e13, hx13_0, hx13_1, hx13_2, hx13_3, hl13_1, hi13_1⟩ := pq_ (at_T37 HR0.out x3_1); obtain rfl : ad11 = ad13 := (by injection e13); have HR13_1 := A_ hi13_1; have HC13_1 := A_ hl13_1; clear hi13_1 hl13_1; have ea_ := Option.some.inj (hx12_1.symm.trans hx13_1)
   injection ea_ with ea_ en_ ec_
   subst ea_; subst ec_; clear en_; obtain ⟨p14, q14, ad14, e14, hx14_0⟩ := pq_ (Kd.at_string HR13_1.out x4_2); cases e14; go_wp2
   go_roundg k2
   case measure => have := HK1.out; have := HK2.out; omega
   case rel => exact ⟨(wrap64 (x4_2 + 1)), z119_, H', ⟨z131_⟩, z188_⟩
def f39.l0 : Nat → List ByteArray → Int → Option (Bool)
 | 0, _, _ => none
 | k + 1, x0, x3 => if x3 < (x0.length : Int) then (if 0 ≤ x3 then (if ((rdOf ByteArray.empty x0 x3).size : Int) > 40 then (some false) else (f39.l0 k x0 (wrap64 (x3 + 1)))) else (none)) else (some true)
def f39.f (k : Nat) (l0 : List ByteArray) : Option (Bool) := if (l0.length : Int) > 130 then (some false) else (f39.l0 k l0 0)
theorem f39.calls (k : Nat) (A0 : Option Addr) (c0 : Nat) (l0 : List ByteArray) (r : Bool) (w : World) (hr0 : Kd.C Kd.string w A0 l0.length l0) (hc0 : l0.length ≤ c0) (h : f39.f k l0 = some r) :
  Calls Tryz.prog 11 #[.slice A0 l0.length c0] w fun e w' => e = .returned (.bool r) ∧ Drawn0 w w' := by
 have HR0 := A_ hr0; have HC0 := A_ hc0; clear hr0 hc0; unfold f39.f at h; have H := h; clear h; revert H; refine i2_ (fun c2 H => ?_) fun c2 H => ?_
 ·
  have c2b0 := decide_eq_true c2; have c2b1 : decide (130 < l0.length) = true := decide_eq_true z143_; clear c2; obtain rfl := sj_ H; go_enter Tryz.func11, Tryz.ntmps11; go_wp2; go_ret; exact ⟨z119_, z188_⟩
 have c2b0 := decide_eq_false c2; have c2b1 : decide (130 < l0.length) = false := decide_eq_false z143_; clear c2; have H' := A_ H; clear H; go_enter Tryz.func11, Tryz.ntmps11; go_wp2
 go_loopg [3] k (fun kq v3 w' => ∃ (x3_1 : Int), v3 = .int .i64 x3_1 ∧ Aside0 (f39.l0 kq l0 x3_1 = some r) ∧ Aside0 (kq ≤ k) ∧ Drawn0 w w')
 case atStart => exact ⟨(0), z119_, H', ⟨Nat.le_refl _⟩, z188_⟩
 case round =>
  clear H'; (try clear c2); (try clear c2b0); (try clear c2b1); obtain ⟨x3_1, rfl, HA, HK1, ⟨m1, rfl⟩⟩ := hrel
  cases gk with
  | zero => exact absurd HA.out (by simp [f39.l0])
  | succ k1 =>
  have H := HA.out; clear HA; simp only [f39.l0] at H; revert H; refine i1_ (fun c3b0 H => ?_) fun c3b0 H => ?_; rotate_left
  ·
   obtain rfl := sj_ H; go_wp2; go_ret; exact ⟨z119_, z188_⟩
  revert H; refine i3_ fun c4b0 H => ?_; revert H; refine i2_ (fun c5 H => ?_) fun c5 H => ?_
  ·
   have c5b0 := decide_eq_true c5; have c5b1 : decide (40 < (rdOf ByteArray.empty l0 x3_1).size) = true := decide_eq_true z143_; clear c5; obtain rfl := sj_ H; obtain ⟨p10, q10, ad10, e10, hx10_0⟩ := pq_ (Kd.at_string HR0.out x3_1); cases e10; go_wp2; go_ret; exact ⟨z119_, z188_⟩
  have c5b0 := decide_eq_false c5; have c5b1 : decide (40 < (rdOf ByteArray.empty l0 x3_1).size) = false := decide_eq_false z143_; clear c5; have H' := A_ H; clear H; obtain ⟨p10, q10, ad10, e10, hx10_0⟩ := pq_ (Kd.at_string HR0.out x3_1); cases e10; go_wp2
  go_roundg k1
  case measure => have := HK1.out; omega
  case rel => exact ⟨(wrap64 (x3_1 + 1)), z119_, H', ⟨z132_⟩, z188_⟩
mutual
def f11.l0 : Nat → ByteArray → ByteArray → Int → Option (Bool)
 | 0, _, _, _ => none
 | k + 1, x0, x1, x5 => if x5 < (x0.size : Int) then (f11.j1 k x0 x1 x5 (decide (x5 < (x1.size : Int)))) else (f11.j1 k x0 x1 x5 false)
def f11.j1 : Nat → ByteArray → ByteArray → Int → Bool → Option (Bool)
 | 0, _, _, _, _ => none
 | k + 1, x0, x1, x5, x15 => if x15 = true then (if 0 ≤ x5 then (if x5 < (x0.size : Int) then (if x5 < (x1.size : Int) then (if (bt x0 x5) = (bt x1 x5) then (f11.l0 k x0 x1 (wrap64 (x5 + 1))) else (some (decide ((bt x0 x5) < (bt x1 x5))))) else (none)) else (none)) else (none)) else (some (decide ((x0.size : Int) < (x1.size : Int))))
end
def f11.f (k : Nat) (a0 : ByteArray) (a1 : ByteArray) : Option (Bool) := f11.l0 k a0 a1 0
theorem f11.calls (k : Nat) (a0 : ByteArray) (a1 : ByteArray) (r : Bool) (w : World) (h : f11.f k a0 a1 = some r) :
  Calls Tryz.prog 96 #[.string a0, .string a1] w fun e w' => e = .returned (.bool r) ∧ Drawn0 w w' := by
 unfold f11.f at h; have H := h; clear h; have H' := A_ H; clear H; go_enter Tryz.func96, Tryz.ntmps96; go_wp2
 repeat (go_quiet (fail); try go_wp2)
 go_loopg [5] k (fun kq v5 w' => ∃ (x5_1 : Int), v5 = .int .i64 x5_1 ∧ Aside0 (f11.l0 kq a0 a1 x5_1 = some r) ∧ Aside0 (kq ≤ k) ∧ Drawn0 w w')
 case atStart => exact ⟨(0), z119_, H', ⟨Nat.le_refl _⟩, z188_⟩
 case round =>
  clear H'; obtain ⟨x5_1, rfl, HA, HK1, ⟨m1, rfl⟩⟩ := hrel
  cases gk with
  | zero => exact absurd HA.out (by simp [f11.l0])
  | succ k1 =>
  have H := HA.out; clear HA; simp only [f11.l0] at H; have HC3 := A_ H; clear H
  go_upto_region 2 with (fail)
  repeat (go_quiet (fail); go_upto_region 2 with (fail))
  go_cut [15] (fun v15 wc => ∃ (kq : Nat) (x15_2 : Bool), v15 = .bool x15_2 ∧ Aside0 (f11.j1 kq a0 a1 x5_1 x15_2 = some r) ∧ Aside0 (kq ≤ k1) ∧ Drawn0 w wc)
  case first =>
   have H := HC3.out; clear HC3; revert H; refine i1_ (fun c4b0 H => ?_) fun c4b0 H => ?_; rotate_left
   ·
    (first | rw [c4b0] | (simp only [i64_w, i32_w]; rw [c4b0]) | skip); have H' := A_ H; clear H; go_wp2
    repeat (go_quiet (fail); try go_wp2)
    go_meet
    case rel => exact ⟨_, (false), z119_, H', ⟨z125_⟩, z188_⟩
   (first | rw [c4b0] | (simp only [i64_w, i32_w]; rw [c4b0]) | skip); have H' := A_ H; clear H; go_wp2
   repeat (go_quiet (fail); try go_wp2)
   go_meet
   case rel => exact ⟨_, (decide (x5_1 < (a1.size : Int))), z119_, H', ⟨z125_⟩, z188_⟩
  case rest =>
   clear HC3; (try clear c4); (try clear c4b0); obtain ⟨kq, x15_2, rfl, HA, HJ2, ⟨mc2, rfl⟩⟩ := hcut
   cases kq with
   | zero => exact absurd HA.out (by simp [f11.j1])
   | succ kj2 =>
   have H := HA.out; clear HA; simp only [f11.j1] at H
   by_cases c5 : x15_2 = true
   ·
    subst c5; have H1 := tt_ H; clear H; have H := H1; clear H1; revert H; refine i3_ fun c6b0 H => ?_; revert H; refine i3_ fun c7b0 H => ?_; revert H; refine i3_ fun c9b0 H => ?_; revert H; refine i2_ (fun c11 H => ?_) fun c11 H => ?_
    ·
     have c11b0 := beq_iff_eq.mpr c11; have c11b1 := bne_eq_false_iff_eq.mpr c11; clear c11; have H' := A_ H; clear H; have p8 : 0 ≤ (x5_1 : Int) := of_decide_eq_true z113_; have q8 : x5_1 < (a0.size : Int) := of_decide_eq_true z113_; have hx8 := bt_at a0 x5_1; replace p8 := eq_true p8; replace q8 := eq_true q8; have p10 : 0 ≤ (x5_1 : Int) := of_decide_eq_true z113_; have q10 : x5_1 < (a1.size : Int) := of_decide_eq_true z113_; have hx10 := bt_at a1 x5_1; replace p10 := eq_true p10; replace q10 := eq_true q10; go_wp2
     repeat (go_quiet (fail); try go_wp2)
     go_roundg kj2
     case measure => have := HK1.out; have := HJ2.out; omega
     case rel => exact ⟨(wrap64 (x5_1 + 1)), z119_, H', ⟨by have := HK1.out; have := HJ2.out; omega⟩, z188_⟩
    have c11b0 := beq_eq_false_iff_ne.mpr c11; have c11b1 := bne_iff_ne.mpr c11; obtain rfl := sj_ H; have p8 : 0 ≤ (x5_1 : Int) := of_decide_eq_true z113_; have q8 : x5_1 < (a0.size : Int) := of_decide_eq_true z113_; have hx8 := bt_at a0 x5_1; replace p8 := eq_true p8; replace q8 := eq_true q8; have p10 : 0 ≤ (x5_1 : Int) := of_decide_eq_true z113_; have q10 : x5_1 < (a1.size : Int) := of_decide_eq_true z113_; have hx10 := bt_at a1 x5_1; replace p10 := eq_true p10; replace q10 := eq_true q10; have p12 : 0 ≤ (x5_1 : Int) := of_decide_eq_true z113_; have q12 : x5_1 < (a0.size : Int) := of_decide_eq_true z113_; have hx12 := bt_at a0 x5_1; replace p12 := eq_true p12; replace q12 := eq_true q12; have p13 : 0 ≤ (x5_1 : Int) := of_decide_eq_true z113_; have q13 : x5_1 < (a1.size : Int) := of_decide_eq_true z113_; have hx13 := bt_at a1 x5_1; replace p13 := eq_true p13; replace q13 := eq_true q13; go_wp2
    repeat (go_quiet (fail); try go_wp2)
    go_ret; exact ⟨z119_, z188_⟩
   ·
    replace c5 := Bool.eq_false_iff.mpr c5; subst c5; have H1 := ff_ H; clear H; have H := H1; clear H1; obtain rfl := sj_ H; go_wp2
    repeat (go_quiet (fail); try go_wp2)
    go_ret; exact ⟨z119_, z188_⟩
def f43.l0 : Nat → List ByteArray → ByteArray → List ByteArray → Int → Option (List ByteArray)
 | 0, _, _, _, _ => none
 | k + 1, x0, x1, x5, x6 => if x6 < (x0.length : Int) then (if 0 ≤ x6 then ((f11.f k (rdOf ByteArray.empty x0 x6) x1).bind fun t10 => (if t10 = true then (if x5.length < 8796093022208 then (f43.l0 k x0 x1 (x5 ++ [rdOf ByteArray.empty x0 x6]) (wrap64 (x6 + 1))) else (none)) else (if (rdOf ByteArray.empty x0 x6).toList = x1.toList then (some x0) else (if x5.length < 8796093022208 then ((some (x5 ++ [x1] : List ByteArray)).bind fun y11 => (if x6 ≤ (x0.length : Int) then ((some (x0.drop (x6 : Int).toNat : List ByteArray)).bind fun y12 => (if y11.length + y12.length < 8796093022208 then (some (y11 ++ y12)) else (none))) else (none))) else (none))))) else (none)) else (if x5.length < 8796093022208 then ((some (x5 ++ [x1] : List ByteArray)).bind fun y13 => (if 0 ≤ x6 then (if x6 ≤ (x0.length : Int) then ((some (x0.drop (x6 : Int).toNat : List ByteArray)).bind fun y14 => (if y13.length + y14.length < 8796093022208 then (some (y13 ++ y14)) else (none))) else (none)) else (none))) else (none))
def f43.f (k : Nat) (l0 : List ByteArray) (a1 : ByteArray) : Option (List ByteArray) := f43.l0 k l0 a1 ([] : List ByteArray) 0
theorem f43.calls (k : Nat) (P0_ : Nat → Prop) (u9000_ : Value) (l0 : List ByteArray) (a1 : ByteArray) (r : List ByteArray) (w0 w : World) (hB : Below w0.heap.size w0 w) (ho0 : Kd.R Kd.string 9 w w0.heap.size P0_ u9000_ l0) (h : f43.f k l0 a1 = some r) :
  Calls Tryz.prog 64 #[u9000_, .string a1] w fun e w' => ∃ v0_ : Value, e = .returned (v0_) ∧ Kd.R Kd.string 9 w' w0.heap.size (fun k_ => (P0_ k_ ∨ w.heap.size ≤ k_)) v0_ r ∧ Below w0.heap.size w0 w' ∧ Kept w w' (fun k_ => P0_ k_) := by
 have HO0 := A_ (show Kd.R Kd.string 9 w w0.heap.size (fun k_ => (P0_ k_ ∨ w.heap.size ≤ k_)) u9000_ l0 from Kd.R_mono ho0 (fun k_ hk => (.inl hk))); have HK := A_ (Kept.refl w (fun k_ => P0_ k_)); have HW0 := A_ hB.size; have HB := A_ hB; clear hB; unfold f43.f at h; have H := h; clear h; have H' := A_ H; clear H; go_enter Tryz.func64, Tryz.ntmps64; go_wp2
 go_loopg [5, 6] k (fun kq v5 v6 w' => ∃ (x5_1 : List ByteArray) (x6_1 : Int), v6 = .int .i64 x6_1 ∧ Aside0 (f43.l0 kq l0 a1 x5_1 x6_1 = some r) ∧ Aside0 (kq ≤ k) ∧ Aside0 (Kd.R Kd.string 9 w' w0.heap.size (fun k_ => (P0_ k_ ∨ w.heap.size ≤ k_) ∧ some k_ ≠ (v5 : Value).ownBlock) u9000_ l0) ∧ Aside0 (Kd.R Kd.string 9 w' w0.heap.size (fun k_ => (P0_ k_ ∨ w.heap.size ≤ k_) ∧ some k_ ≠ (u9000_ : Value).ownBlock) v5 x5_1) ∧ Aside0 (Kept w w' (fun k_ => P0_ k_)) ∧ Aside0 (Below w0.heap.size w0 w'))
 case atStart => exact ⟨(([] : List ByteArray)), (0), z119_, H', ⟨Nat.le_refl _⟩, ⟨by (with_reducible repeat (first | apply Kd.R_alloc | apply Kd.R_drewN | apply Kd.R_drew)); exact Kd.R_mono HO0.out (fun _ hk => ⟨hk, z200_⟩)⟩, ⟨z114_⟩, ⟨z168_⟩, ⟨z167_⟩⟩
 case round =>
  clear H'; obtain ⟨x5_1, x6_1, rfl, HA, HK1, HO_0, HO_5, HK, HB⟩ := hrel
  cases gk with
  | zero => exact absurd HA.out (by simp [f43.l0])
  | succ k1 =>
  have H := HA.out; clear HA; simp only [f43.l0] at H; revert H; refine i1_ (fun c3b0 H => ?_) fun c3b0 H => ?_; rotate_left
  ·
   revert H; refine i2_ (fun c20 H => ?_) fun c20 H => ?_; rotate_left
   · exact absurd H z198_
   have LMc20 := A_ c20; clear c20; obtain ⟨y42, hy42⟩ : ∃ y_ : List ByteArray, y_ = (x5_1 ++ [a1]) := ⟨_, rfl⟩; replace H : (if 0 ≤ x6_1 then (if x6_1 ≤ (l0.length : Int) then ((some (l0.drop (x6_1 : Int).toNat : List ByteArray)).bind fun y43 => (if y42.length + y43.length < 8796093022208 then (some (y42 ++ y43)) else (none))) else (none)) else (none)) = some r := z104_; have Ny42 := A_ hy42; clear hy42; revert H; refine i4_ fun c21 H => ?_; have c21b0 := eq_true c21; have c21b1 := decide_eq_true c21; clear c21; revert H; refine i4_ fun c22 H => ?_; have c22b0 := eq_true c22; have c22b1 := decide_eq_true c22; clear c22; obtain ⟨y43, hy43⟩ : ∃ y_ : List ByteArray, y_ = (l0.drop (x6_1 : Int).toNat) := ⟨_, rfl⟩; replace H : (if y42.length + y43.length < 8796093022208 then (some (y42 ++ y43)) else (none)) = some r := z105_; have Ny43 := A_ hy43; clear hy43; revert H; refine i4_ fun c23 H => ?_; have LMc23 := A_ c23; clear c23; obtain ⟨y44, hy44⟩ : ∃ y_ : List ByteArray, y_ = (y42 ++ y43) := ⟨_, rfl⟩; replace H : (some y44) = some r := z106_; have Ny44 := A_ hy44; clear hy44; obtain rfl := sj_ H; obtain ⟨Ao24, co24, eo24⟩ := Kd.R_slice HO_0.out; subst eo24
   go_wp2_with (first | ((with_reducible refine gate_builtin (b := .append) (xs := #[.tmp 41, .tmp 43]) rfl ?_); at_builtin; refine Kd.R_append Kd.string (w0 := w0) w0.heap.size rfl (.tmp 41) (.tmp 43) 23 9 (.string ⟨#[]⟩) 16 rfl Tryz.underlying23 info9 rfl z81_ z143_ u5 x5_1 a1 [.string a1] (fun k_ => (P0_ k_ ∨ w.heap.size ≤ k_) ∧ some k_ ≠ (.slice Ao24 l0.length co24 : Value).ownBlock) (fun _ => False) rfl rfl ?aP (fun _ hk => hk.elim) ?aF ?aO ?aB ?aS ?aL ?_; (case aP => exact rfl); (case aB => exact z167_); (case aF => exact (fun k_ hk => ⟨(.inr (Nat.le_trans z210_ hk)), Kd.fresh' (Kd.R_lt z29_) k_ hk⟩)); (case aO => exact z37_); (case aS => exact (below_size z167_)); (case aL => have := LMc20.out; omega); intro v45 w25 ho hb hg hat; rw [← Ny42.out] at ho; have n_ := a4_ (Kd.R_after (ok := (fun k_ => (P0_ k_ ∨ w.heap.size ≤ k_))) z29_ hg hat) (hb) (Kept.of_grown (S := (fun k_ => P0_ k_)) hg z168_ (fun k_ e_ => (HO_5.out.1 k_ e_).1)) (ho); clear HO_0 HB HK HO_5; obtain ⟨HO_0, HB, HK, HO46⟩ := n_; clear ho hb hg hat; have q26 : (x6_1 : Int) ≤ ((l0.length : Int) : Int) := of_decide_eq_true z113_; obtain ⟨i026, hi026, _, hsz26, _⟩ := info_parts info9; have hroom26 : l0.length ≤ co24 := (Kd.R_reads' HO_0.out).2.1; have hC26 : Kd.C Kd.string _ Ao24 l0.length l0 := (Kd.R_reads' HO_0.out).2.2; have q026 : (0 : Int) ≤ (x6_1 : Int) := of_decide_eq_true z113_; have hcut26 := cut_from (P := Tryz.prog) 23 9 .i64 Tryz.underlying23 hi026 1 hsz26 Ao24 l0.length co24 x6_1 q026 q26; have hr26 := Kd.C_drop (m := (x6_1 : Int).toNat) (c := co24) hC26 z143_ hroom26; obtain ⟨A26, hA26⟩ : ∃ A1, A1 = (if co24 = (x6_1 : Int).toNat then Ao24 else (Ao24 : Option Addr).map (·.add ((x6_1 : Int).toNat * 1))) := ⟨_, rfl⟩; obtain ⟨c26, hc26⟩ : ∃ c1, c1 = co24 - (x6_1 : Int).toNat := ⟨_, rfl⟩; have hy26 : y43.length = l0.length - (x6_1 : Int).toNat := (by rw [Ny43.out, List.length_drop] <;> omega); rw [show (l0).drop (x6_1 : Int).toNat = y43 from Ny43.out.symm] at hr26; replace hr26 : Kd.C Kd.string _ A26 y43.length y43 := (by rw [hA26]; exact hr26); rw [← hy26, ← hA26, ← hc26] at hcut26; have HR47 := A_ hr26; have HC47 := A_ (show y43.length ≤ c26 from by rw [hy26, hc26]; exact Nat.sub_le_sub_right hroom26 _); clear hr26 hC26 hroom26 hi026 hsz26 hc26; have KY26 := A_ hy26; have KA26 := A_ hA26; clear hy26 hA26; have KL26 := A_ (show (x6_1 : Int).toNat ≤ l0.length from z143_); replace q26 := eq_true q26) | ((with_reducible refine gate_builtin (b := .append) (xs := #[.tmp 45, .tmp 48]) rfl ?_); at_builtin; refine Kd.R_append_rows Kd.string (w0 := w0) w0.heap.size rfl (.tmp 45) (.tmp 48) 23 9 (.string ⟨#[]⟩) 16 rfl Tryz.underlying23 info9 rfl z81_ z143_ v45 y42 y43 _ _ _ (fun k_ => (P0_ k_ ∨ w.heap.size ≤ k_) ∧ some k_ ≠ (.slice Ao24 l0.length co24 : Value).ownBlock) (fun _ => False) rfl rfl ?aO ?aR (fun _ _ h => h) (fun _ h => h.elim) ?aF ?aB ?aS ?aL ?_; (case aR => repeat (first | exact (by repeat (first | (with_reducible exact HR47.out) | (with_reducible refine Kd.C_alloc ?_ _) | (with_reducible refine Kd.C_drewN ?_ _) | (with_reducible refine Kd.C_drew ?_) | exact HR47.out)) | (with_reducible refine Kd.C_alloc ?_ _) | (with_reducible refine Kd.C_drewN ?_ _) | (with_reducible refine Kd.C_drew ?_))); (case aB => exact z167_); (case aF => exact (fun k_ hk => ⟨(.inr (Nat.le_trans z210_ hk)), Kd.fresh' (Kd.R_lt z29_) k_ hk⟩)); (case aO => exact (by (with_reducible repeat (first | apply Kd.R_alloc | apply Kd.R_drewN | apply Kd.R_drew)); exact HO46.out)); (case aS => exact (below_size z167_)); (case aL => have := LMc23.out; omega); intro v48 w27 ho hb hg hat; rw [← Ny44.out] at ho; have n_ := a5_ (Kd.R_after (ok := (fun k_ => (P0_ k_ ∨ w.heap.size ≤ k_))) z29_ hg hat) (hb) (Kept.of_grown (S := (fun k_ => P0_ k_)) hg z168_ (fun k_ e_ => (HO46.out.1 k_ e_).1)) ((show Kd.C Kd.string w27 A26 y43.length y43 from by rw [Ny43.out, KA26.out]; exact Kd.C_drop (m := (x6_1 : Int).toNat) (c := co24) ((Kd.R_reads' (Kd.R_after (ok := (fun k_ => (P0_ k_ ∨ w.heap.size ≤ k_))) z29_ hg hat)).2.2) KL26.out ((Kd.R_reads' (Kd.R_after (ok := (fun k_ => (P0_ k_ ∨ w.heap.size ≤ k_))) z29_ hg hat)).2.1))) (ho); clear HO_0 HB HK HR47 HO46; obtain ⟨HO_0, HB, HK, HR47, HO49⟩ := n_; clear ho hb hg hat))
   go_ret; exact ⟨_, z118_, by (with_reducible repeat (first | apply Kd.R_alloc | apply Kd.R_drewN | apply Kd.R_drew)); exact Kd.R_mono HO49.out (fun _ hk => hk.1), z167_, z168_⟩
  revert H; refine i3_ fun c4b0 H => ?_; replace H := bm_ H; obtain ⟨t13, A50, H⟩ := H; have A5 := A_ A50; clear A50
  by_cases c6 : t13 = true
  ·
   subst c6; have H1 := tt_ H; clear H; have H := H1; clear H1; revert H; refine i4_ fun c7 H => ?_; have LMc7 := A_ c7; clear c7; obtain ⟨y30, hy30⟩ : ∃ y_ : List ByteArray, y_ = (x5_1 ++ [rdOf ByteArray.empty l0 x6_1]) := ⟨_, rfl⟩; replace H : (f43.l0 k1 l0 a1 y30 (wrap64 (x6_1 + 1))) = some r := z101_; have Ny30 := A_ hy30; clear hy30; have H' := A_ H; clear H; obtain ⟨Ao8, co8, eo8⟩ := Kd.R_slice HO_0.out; subst eo8; obtain ⟨p31, q31, ad31, e31, hx31_0⟩ := pq_ (Kd.at_string (Kd.R_reads' HO_0.out).2.2 x6_1); cases e31
   go_wp2_with (first | (go_at_call 96; (with_reducible refine (f11.calls k1 (rdOf ByteArray.empty l0 x6_1) a1 true _ A5.out).mono ?_); rintro e w' ⟨rfl, ⟨nd, rfl⟩⟩; have p32 : 0 ≤ (x6_1 : Int) := of_decide_eq_true z113_; have q32 : x6_1 < (l0.length : Int) := of_decide_eq_true z113_; obtain ⟨ad32, e32, hx32_0⟩ := Kd.at_string (Kd.R_reads' HO_0.out).2.2 x6_1 p32 q32; obtain rfl : ad31 = ad32 := (by injection e32); replace p32 := eq_true p32; replace q32 := eq_true q32) | ((with_reducible refine gate_builtin (b := .append) (xs := #[.tmp 19, .tmp 24]) rfl ?_); at_builtin; refine Kd.R_append Kd.string (w0 := w0) w0.heap.size rfl (.tmp 19) (.tmp 24) 23 9 (.string ⟨#[]⟩) 16 rfl Tryz.underlying23 info9 rfl z81_ z143_ u5 x5_1 (rdOf ByteArray.empty l0 x6_1) [.string (rdOf ByteArray.empty l0 x6_1)] (fun k_ => (P0_ k_ ∨ w.heap.size ≤ k_) ∧ some k_ ≠ (.slice (some ad31) l0.length co8 : Value).ownBlock) (fun _ => False) rfl rfl ?aP (fun _ hk => hk.elim) ?aF ?aO ?aB ?aS ?aL ?_; (case aP => exact rfl); (case aB => exact z167_); (case aF => exact (fun k_ hk => ⟨(.inr (Nat.le_trans z210_ hk)), Kd.fresh' (Kd.R_lt z29_) k_ hk⟩)); (case aO => exact z37_); (case aS => exact (below_size z167_)); (case aL => have := LMc7.out; omega); intro v33 w9 ho hb hg hat; rw [← Ny30.out] at ho; have n_ := a4_ (Kd.R_after (ok := (fun k_ => (P0_ k_ ∨ w.heap.size ≤ k_))) z29_ hg hat) (hb) (Kept.of_grown (S := (fun k_ => P0_ k_)) hg z168_ (fun k_ e_ => (HO_5.out.1 k_ e_).1)) (ho); clear HO_0 HB HK HO_5; obtain ⟨HO_0, HB, HK, HO34⟩ := n_; clear ho hb hg hat))
   go_roundg k1
   case measure => have := HK1.out; omega
   case rel => exact ⟨(y30), (wrap64 (x6_1 + 1)), z119_, H', ⟨z132_⟩, ⟨z29_⟩, ⟨by (with_reducible repeat (first | apply Kd.R_alloc | apply Kd.R_drewN | apply Kd.R_drew)); exact HO34.out⟩, ⟨z168_⟩, ⟨z167_⟩⟩
  ·
   replace c6 := Bool.eq_false_iff.mpr c6; subst c6; have H1 := ff_ H; clear H; have H := H1; clear H1; revert H; refine i2_ (fun c10 H => ?_) fun c10 H => ?_
   ·
    have c10b0 := beq_iff_eq.mpr c10; have c10b1 := bne_eq_false_iff_eq.mpr c10; clear c10; obtain rfl := sj_ H; obtain ⟨Ao11, co11, eo11⟩ := Kd.R_slice HO_0.out; subst eo11; obtain ⟨p31, q31, ad31, e31, hx31_0⟩ := pq_ (Kd.at_string (Kd.R_reads' HO_0.out).2.2 x6_1); cases e31
    go_wp2_with (first | (go_at_call 96; (with_reducible refine (f11.calls k1 (rdOf ByteArray.empty l0 x6_1) a1 false _ A5.out).mono ?_); rintro e w' ⟨rfl, ⟨nd, rfl⟩⟩; have p35 : 0 ≤ (x6_1 : Int) := of_decide_eq_true z113_; have q35 : x6_1 < (l0.length : Int) := of_decide_eq_true z113_; obtain ⟨ad35, e35, hx35_0⟩ := Kd.at_string (Kd.R_reads' HO_0.out).2.2 x6_1 p35 q35; obtain rfl : ad31 = ad35 := (by injection e35); replace p35 := eq_true p35; replace q35 := eq_true q35))
    go_ret; exact ⟨_, z118_, by (with_reducible repeat (first | apply Kd.R_alloc | apply Kd.R_drewN | apply Kd.R_drew)); exact Kd.R_mono HO_0.out (fun _ hk => hk.1), z167_, z168_⟩
   have c10b0 := beq_eq_false_iff_ne.mpr c10; have c10b1 := bne_iff_ne.mpr c10; revert H; refine i4_ fun c12 H => ?_; have LMc12 := A_ c12; clear c12; obtain ⟨y28, hy28⟩ : ∃ y_ : List ByteArray, y_ = (x5_1 ++ [a1]) := ⟨_, rfl⟩; replace H : (if x6_1 ≤ (l0.length : Int) then ((some (l0.drop (x6_1 : Int).toNat : List ByteArray)).bind fun y29 => (if y28.length + y29.length < 8796093022208 then (some (y28 ++ y29)) else (none))) else (none)) = some r := z100_; have Ny28 := A_ hy28; clear hy28; have c13b0 := eq_true (of_decide_eq_true z113_ : 0 ≤ x6_1); revert H; refine i4_ fun c14 H => ?_; have c14b0 := eq_true c14; have c14b1 := decide_eq_true c14; clear c14; obtain ⟨y29, hy29⟩ : ∃ y_ : List ByteArray, y_ = (l0.drop (x6_1 : Int).toNat) := ⟨_, rfl⟩
   replace H : (if y28.length + y29.length < 8796093022208 then (some (y28 ++ y29)) else (none)) = some r := by first | (rw [hy29]; with_reducible exact H) | (have H2_ := (Option.bind_some _ _).symm.trans H; rw [hy29]; with_reducible exact H2_) | (have H2_ := (Option.bind_some _ _).symm.trans H; with_reducible exact H2_) | with_reducible exact H | (rw [hy29]; exact H) | exact H
   have Ny29 := A_ hy29; clear hy29; revert H; refine i4_ fun c15 H => ?_; have LMc15 := A_ c15; clear c15; obtain ⟨y36, hy36⟩ : ∃ y_ : List ByteArray, y_ = (y28 ++ y29) := ⟨_, rfl⟩; replace H : (some y36) = some r := z103_; have Ny36 := A_ hy36; clear hy36; obtain rfl := sj_ H; obtain ⟨Ao16, co16, eo16⟩ := Kd.R_slice HO_0.out; subst eo16; obtain ⟨p31, q31, ad31, e31, hx31_0⟩ := pq_ (Kd.at_string (Kd.R_reads' HO_0.out).2.2 x6_1); cases e31
   go_wp2_with (first | (go_at_call 96; (with_reducible refine (f11.calls k1 (rdOf ByteArray.empty l0 x6_1) a1 false _ A5.out).mono ?_); rintro e w' ⟨rfl, ⟨nd, rfl⟩⟩; have p35 : 0 ≤ (x6_1 : Int) := of_decide_eq_true z113_; have q35 : x6_1 < (l0.length : Int) := of_decide_eq_true z113_; obtain ⟨ad35, e35, hx35_0⟩ := Kd.at_string (Kd.R_reads' HO_0.out).2.2 x6_1 p35 q35; obtain rfl : ad31 = ad35 := (by injection e35); replace p35 := eq_true p35; replace q35 := eq_true q35) | ((with_reducible refine gate_builtin (b := .append) (xs := #[.tmp 41, .tmp 43]) rfl ?_); at_builtin; refine Kd.R_append Kd.string (w0 := w0) w0.heap.size rfl (.tmp 41) (.tmp 43) 23 9 (.string ⟨#[]⟩) 16 rfl Tryz.underlying23 info9 rfl z81_ z143_ u5 x5_1 a1 [.string a1] (fun k_ => (P0_ k_ ∨ w.heap.size ≤ k_) ∧ some k_ ≠ (.slice (some ad31) l0.length co16 : Value).ownBlock) (fun _ => False) rfl rfl ?aP (fun _ hk => hk.elim) ?aF ?aO ?aB ?aS ?aL ?_; (case aP => exact rfl); (case aB => exact z167_); (case aF => exact (fun k_ hk => ⟨(.inr (Nat.le_trans z210_ hk)), Kd.fresh' (Kd.R_lt z29_) k_ hk⟩)); (case aO => exact z37_); (case aS => exact (below_size z167_)); (case aL => have := LMc12.out; omega); intro v37 w17 ho hb hg hat; rw [← Ny28.out] at ho; have n_ := a4_ (Kd.R_after (ok := (fun k_ => (P0_ k_ ∨ w.heap.size ≤ k_))) z29_ hg hat) (hb) (Kept.of_grown (S := (fun k_ => P0_ k_)) hg z168_ (fun k_ e_ => (HO_5.out.1 k_ e_).1)) (ho); clear HO_0 HB HK HO_5; obtain ⟨HO_0, HB, HK, HO38⟩ := n_; clear ho hb hg hat; have q18 : (x6_1 : Int) ≤ ((l0.length : Int) : Int) := of_decide_eq_true z113_; obtain ⟨i018, hi018, _, hsz18, _⟩ := info_parts info9; have hroom18 : l0.length ≤ co16 := (Kd.R_reads' HO_0.out).2.1; have hC18 : Kd.C Kd.string _ (some ad31) l0.length l0 := (Kd.R_reads' HO_0.out).2.2; have q018 : (0 : Int) ≤ (x6_1 : Int) := of_decide_eq_true z113_; have hcut18 := cut_from (P := Tryz.prog) 23 9 .i64 Tryz.underlying23 hi018 1 hsz18 (some ad31) l0.length co16 x6_1 q018 q18; have hr18 := Kd.C_drop (m := (x6_1 : Int).toNat) (c := co16) hC18 z143_ hroom18; obtain ⟨A18, hA18⟩ : ∃ A1, A1 = (if co16 = (x6_1 : Int).toNat then (some ad31) else ((some ad31) : Option Addr).map (·.add ((x6_1 : Int).toNat * 1))) := ⟨_, rfl⟩; obtain ⟨c18, hc18⟩ : ∃ c1, c1 = co16 - (x6_1 : Int).toNat := ⟨_, rfl⟩; have hy18 : y29.length = l0.length - (x6_1 : Int).toNat := (by rw [Ny29.out, List.length_drop] <;> omega); rw [show (l0).drop (x6_1 : Int).toNat = y29 from Ny29.out.symm] at hr18; replace hr18 : Kd.C Kd.string _ A18 y29.length y29 := (by rw [hA18]; exact hr18); rw [← hy18, ← hA18, ← hc18] at hcut18; have HR39 := A_ hr18; have HC39 := A_ (show y29.length ≤ c18 from by rw [hy18, hc18]; exact Nat.sub_le_sub_right hroom18 _); clear hr18 hC18 hroom18 hi018 hsz18 hc18; have KY18 := A_ hy18; have KA18 := A_ hA18; clear hy18 hA18; have KL18 := A_ (show (x6_1 : Int).toNat ≤ l0.length from z143_); replace q18 := eq_true q18) | ((with_reducible refine gate_builtin (b := .append) (xs := #[.tmp 45, .tmp 48]) rfl ?_); at_builtin; refine Kd.R_append_rows Kd.string (w0 := w0) w0.heap.size rfl (.tmp 45) (.tmp 48) 23 9 (.string ⟨#[]⟩) 16 rfl Tryz.underlying23 info9 rfl z81_ z143_ v37 y28 y29 _ _ _ (fun k_ => (P0_ k_ ∨ w.heap.size ≤ k_) ∧ some k_ ≠ (.slice (some ad31) l0.length co16 : Value).ownBlock) (fun _ => False) rfl rfl ?aO ?aR (fun _ _ h => h) (fun _ h => h.elim) ?aF ?aB ?aS ?aL ?_; (case aR => repeat (first | exact (by repeat (first | (with_reducible exact HR39.out) | (with_reducible refine Kd.C_alloc ?_ _) | (with_reducible refine Kd.C_drewN ?_ _) | (with_reducible refine Kd.C_drew ?_) | exact HR39.out)) | (with_reducible refine Kd.C_alloc ?_ _) | (with_reducible refine Kd.C_drewN ?_ _) | (with_reducible refine Kd.C_drew ?_))); (case aB => exact z167_); (case aF => exact (fun k_ hk => ⟨(.inr (Nat.le_trans z210_ hk)), Kd.fresh' (Kd.R_lt z29_) k_ hk⟩)); (case aO => exact (by (with_reducible repeat (first | apply Kd.R_alloc | apply Kd.R_drewN | apply Kd.R_drew)); exact HO38.out)); (case aS => exact (below_size z167_)); (case aL => have := LMc15.out; omega); intro v40 w19 ho hb hg hat; rw [← Ny36.out] at ho; have n_ := a5_ (Kd.R_after (ok := (fun k_ => (P0_ k_ ∨ w.heap.size ≤ k_))) z29_ hg hat) (hb) (Kept.of_grown (S := (fun k_ => P0_ k_)) hg z168_ (fun k_ e_ => (HO38.out.1 k_ e_).1)) ((show Kd.C Kd.string w19 A18 y29.length y29 from by rw [Ny29.out, KA18.out]; exact Kd.C_drop (m := (x6_1 : Int).toNat) (c := co16) ((Kd.R_reads' (Kd.R_after (ok := (fun k_ => (P0_ k_ ∨ w.heap.size ≤ k_))) z29_ hg hat)).2.2) KL18.out ((Kd.R_reads' (Kd.R_after (ok := (fun k_ => (P0_ k_ ∨ w.heap.size ≤ k_))) z29_ hg hat)).2.1))) (ho); clear HO_0 HB HK HR39 HO38; obtain ⟨HO_0, HB, HK, HR39, HO41⟩ := n_; clear ho hb hg hat))
   go_ret; exact ⟨_, z118_, by (with_reducible repeat (first | apply Kd.R_alloc | apply Kd.R_drewN | apply Kd.R_drew)); exact Kd.R_mono HO41.out (fun _ hk => hk.1), z167_, z168_⟩
theorem R_noIter {α : Type} {d : Kd α} {e : Nat} {w : World} {base : Nat} {ok : Nat → Prop} {v : Value} {xs : List α} (h : d.R e w base ok v xs) {it : Nat} {s : ByteArray} {p : Nat} (hk : w.heap[it]? = some (.stringIter s p)) : d.R e w base (fun k => ok k ∧ k ≠ it) v xs :=
 Kd.R_mono (Kd.R_bound h) (fun k hj => ⟨hj.1, by
  obtain ⟨_, _, _, q, hq, cells', hc⟩ := hj; rintro rfl; rw [hc] at hk
  cases hk⟩)
theorem R_iterAt {α : Type} {d : Kd α} {e : Nat} {w : World} {base : Nat} {ok : Nat → Prop} {v : Value} {xs : List α} (h : d.R e w base ok v xs) {it : Nat} {s : ByteArray} {p : Nat} (hk : w.heap[it]? = some (.stringIter s p)) (p' : Nat) : d.R e (w.iterAt it s p') base ok v xs :=
 Kd.R_mono (Kd.R_step (R_noIter h hk) (fun j hj _ => Lib.iterAt_other w it j s p' hj.2)) (fun _ h => h.1)
def f64.l0 : Nat → ByteArray → List ByteArray → List Int → Nat → Option (List ByteArray)
 | 0, _, _, _, _ => none
 | k + 1, s, x3, x4, p => if p < s.size then ((f94.f ((Utf8.decode s p).1 : Int)).bind fun t => if t = true then ((f109.f ((Utf8.decode s p).1 : Int)).bind fun c => (f95.f k x4 c).bind fun y => f64.l0 k s x3 y (p + (Utf8.decode s p).2)) else (if (x4.length : Int) > 0 then (if x3.length < 8796093022208 then f64.l0 k s (x3 ++ [strOfNums x4]) ([] : List Int) (p + (Utf8.decode s p).2) else none) else f64.l0 k s x3 x4 (p + (Utf8.decode s p).2))) else some x3
def f64.f (k : Nat) (a0 : ByteArray) : Option (List ByteArray) := if a0.size + 1 ≤ 9223372036854775807 then f64.l0 k (a0 ++ (⟨#[32]⟩ : ByteArray)) ([] : List ByteArray) ([] : List Int) 0 else none
theorem Below.iterAt_ {B : Nat} {a w : World} (h : Below B a w) {it : Nat} (hk : B ≤ it) (s : ByteArray) (p : Nat) : Below B a (w.iterAt it s p) := Lib.below_iterAt h hk s p
set_option maxHeartbeats 1000000 in
theorem f64.calls (k : Nat) (a0 : ByteArray) (r : List ByteArray) (w : World) (h : f64.f k a0 = some r) :
  Calls Tryz.prog 137 #[.string a0] w fun e w' => ∃ v0_ : Value, e = .returned (v0_) ∧ Kd.R Kd.string 9 w' w.heap.size (fun _ => True) v0_ r ∧ Below w.heap.size w w' := by
 unfold f64.f at h
 by_cases hs : a0.size + 1 ≤ 9223372036854775807
 ·
  rw [if_pos hs] at h; have hs1 : decide (a0.size + 1 ≤ 9223372036854775807) = true := decide_eq_true hs; have hs2 : a0.size < 9223372036854775807 := z143_; have H' := A_ h; clear h; go_enter Tryz.func137, Tryz.ntmps137; go_wp2
  go_loopg [3, 4] k (fun kq v3 v4 w' => ∃ (x3 : List ByteArray) (x4 : List Int) (p : Nat), Aside0 (f64.l0 kq (a0 ++ (⟨#[32]⟩ : ByteArray)) x3 x4 p = some r) ∧ Aside0 (w'.heap[w.heap.size]? = some (.stringIter (a0 ++ (⟨#[32]⟩ : ByteArray)) p)) ∧ Aside0 (Kd.R Kd.string 9 w' w.heap.size (fun _ => True) v3 x3) ∧ Aside0 (Kd.R (Kd.int .u8) 5 w' w.heap.size (fun _ => True) v4 x4) ∧ Aside0 (Below w.heap.size w w'))
  case atStart => exact ⟨[], [], 0, H', ⟨heap_alloc_new w (.stringIter (a0 ++ (⟨#[32]⟩ : ByteArray)) 0)⟩, ⟨Kd.R_nil _ _ _ _ _⟩, ⟨Kd.R_nil _ _ _ _ _⟩, ⟨below_alloc (Below.refl _ _) _⟩⟩
  case round =>
   clear H'; obtain ⟨x3, x4, p, HA, HI, HO3, HO4, HB⟩ := hrel
   cases gk with
   | zero => exact absurd HA.out (by simp [f64.l0])
   | succ k1 =>
   have H := HA.out; clear HA; simp only [f64.l0] at H; revert H; refine i2_ (fun c5 H => ?_) fun c5 H => ?_; rotate_left
   ·
    obtain rfl := sj_ H; have hnx : ∀ ty, (Instr.next (.pointer (some ⟨w.heap.size, 0, none⟩)) true ty).run Tryz.prog wr = _ := fun ty => Lib.run_next_end_at wr w.heap.size _ p ty HI.out c5; go_wp2; go_ret; exact ⟨_, rfl, HO3.out, HB.out⟩
   have hnx : ∀ ty, (Instr.next (.pointer (some ⟨w.heap.size, 0, none⟩)) true ty).run Tryz.prog wr = _ := fun ty => Lib.run_next_any_at wr w.heap.size _ p ty HI.out c5; have n0_ := A_ (R_iterAt HO3.out HI.out (p + (Utf8.decode (a0 ++ (⟨#[32]⟩ : ByteArray)) p).2)); have n1_ := A_ (R_iterAt HO4.out HI.out (p + (Utf8.decode (a0 ++ (⟨#[32]⟩ : ByteArray)) p).2)); have n2_ := A_ (Below.iterAt_ HB.out (Nat.le_refl _) (a0 ++ (⟨#[32]⟩ : ByteArray)) (p + (Utf8.decode (a0 ++ (⟨#[32]⟩ : ByteArray)) p).2)); have n3_ := A_ (Lib.iterAt_heap wr w.heap.size _ p (p + (Utf8.decode (a0 ++ (⟨#[32]⟩ : ByteArray)) p).2) HI.out); clear HO3 HO4 HB HI; have HO3 := n0_; have HO4 := n1_; have HB := n2_; have HI := n3_; clear n0_ n1_ n2_ n3_; generalize (wr.iterAt w.heap.size (a0 ++ (⟨#[32]⟩ : ByteArray)) (p + (Utf8.decode (a0 ++ (⟨#[32]⟩ : ByteArray)) p).2)) = w1 at *; generalize p + (Utf8.decode (a0 ++ (⟨#[32]⟩ : ByteArray)) p).2 = p1 at *; generalize (Utf8.decode (a0 ++ (⟨#[32]⟩ : ByteArray)) p).1 = cc at *; clear c5; replace H := bm_ H; obtain ⟨t, A10, H⟩ := H; have A1 := A_ A10; clear A10; obtain ⟨Ao3, co3, eo3⟩ := Kd.R_slice HO3.out; subst eo3; obtain ⟨Ao4, co4, eo4⟩ := Kd.R_slice HO4.out; subst eo4
   cases t with
   | true =>
    replace H := bm_ H; obtain ⟨c, A20, H⟩ := H; replace H := bm_ H; obtain ⟨y, A30, H⟩ := H; have A2 := A_ A20; clear A20; have A3 := A_ A30; clear A30; have H' := A_ H; clear H
    go_wp2_with (first
     | (go_at_call 178; (with_reducible refine (f94.calls _ true _ A1.out).mono ?_); rintro e w' ⟨rfl, ⟨nd, rfl⟩⟩)
     | (go_at_call 180; (with_reducible refine (f109.calls _ c _ A2.out).mono ?_); rintro e w' ⟨rfl, ⟨nd, rfl⟩⟩))
    (with_reducible refine (f95.calls k1 (fun k_ => some k_ = (.slice Ao4 x4.length co4 : Value).ownBlock) (.slice Ao4 x4.length co4) x4 c y w _ ?side1 ?side2 A3.out).mono ?_); (case side1 => repeat (with_reducible first | exact HB.out | apply pw_below_drewN | apply below_drew1)); (case side2 => exact Kd.R_tight rfl (Kd.R_drewN HO4.out _)); rintro e w2 ⟨v2, rfl, ho, hb, hkp⟩; have n0_ := A_ (Kd.R_mono ho (fun _ _ => trivial)); have n1_ := A_ hb; have n2_ := A_ (blk_kept (blk_drewN HI.out _) hkp (fun e_ => by have h_ := (Kd.R_bound HO4.out).1 _ e_.symm; obtain ⟨_, _, _, q_, _, cs_, hc_⟩ := h_; have h2_ := HI.out; rw [hc_] at h2_; cases h2_)); have n3_ := A_ (Kd.R_mono (Kd.R_kept (S := fun k_ => some k_ = (.slice Ao4 x4.length co4 : Value).ownBlock) (Kd.R_drewN (Kd.R_apartR HO3.out HO4.out z81_) _) hkp (fun k_ h_ e_ => h_.2 e_)) (fun _ h_ => h_.1)); clear HO3 HO4 HB HI; have HO3 := n3_; have HO4 := n0_; have HB := n1_; have HI := n2_; clear n0_ n1_ n2_ n3_ ho hb hkp; go_wp2
    go_roundg k1
    case measure => omega
    case rel => exact ⟨x3, y, p1, H', HI, HO3, HO4, HB⟩
   | false =>
    simp only [Bool.false_eq_true, if_false] at H; revert H; refine i2_ (fun c6 H => ?_) fun c6 H => ?_; rotate_left
    ·
     have c6b0 := decide_eq_false c6; have c6b1 : decide (0 < x4.length) = false := decide_eq_false z143_; clear c6; have H' := A_ H; clear H
     go_wp2_with (go_at_call 178; (with_reducible refine (f94.calls _ false _ A1.out).mono ?_); rintro e w' ⟨rfl, ⟨nd, rfl⟩⟩)
     go_roundg k1
     case measure => omega
     case rel => exact ⟨x3, x4, p1, H', HI, ⟨Kd.R_drewN HO3.out _⟩, ⟨Kd.R_drewN HO4.out _⟩, ⟨pw_below_drewN HB.out _⟩⟩
    have c6b0 := decide_eq_true c6; have c6b1 : decide (0 < x4.length) = true := decide_eq_true z143_; clear c6; revert H; refine i4_ fun c7 H => ?_; have LM := A_ c7; clear c7; have H' := A_ H; clear H; have hcv := own_string (P := Tryz.prog) Tryz.underlying152 Tryz.underlying5 Tryz.underlying9 (Kd.own_of_R HO4.out)
    go_wp2_with (first
     | (go_at_call 178; (with_reducible refine (f94.calls _ false _ A1.out).mono ?_); rintro e w' ⟨rfl, ⟨nd, rfl⟩⟩; have hcv := own_string (P := Tryz.prog) (w := w1.drewN nd) Tryz.underlying152 Tryz.underlying5 Tryz.underlying9 (Kd.own_of_R (Kd.R_drewN HO4.out nd)))
     | ((with_reducible refine gate_builtin (b := .append) (xs := #[.tmp 22, .tmp 25]) rfl ?_); at_builtin; refine Kd.R_append Kd.string (w0 := w) w.heap.size rfl (.tmp 22) (.tmp 25) 23 9 (.string ⟨#[]⟩) 16 rfl Tryz.underlying23 info9 rfl z81_ z143_ (.slice Ao3 x3.length co3) x3 (strOfNums x4) [.string (strOfNums x4)] (fun _ => True) (fun _ => False) rfl rfl ?aP (fun _ hk => hk.elim) ?aF ?aO ?aB ?aS ?aL ?_; (case aP => exact rfl); (case aB => exact z192_); (case aF => exact (fun _ _ => trivial)); (case aO => exact (by (with_reducible repeat (first | apply Kd.R_alloc | apply Kd.R_drewN | apply Kd.R_drew)); with_reducible exact HO3.out)); (case aS => exact (below_size z192_)); (case aL => have := LM.out; omega); intro v11 w32 ho hb hg hat; have n0_ := A_ hb; have n1_ := A_ ho; have n2_ := A_ (hg.block w.heap.size (by have := (Array.getElem?_eq_some_iff.1 HI.out).1; simp; omega) (fun e_ => by have h_ := (Kd.R_bound HO3.out).1 _ e_.symm; obtain ⟨_, _, _, q_, _, cs_, hc_⟩ := h_; have h2_ := HI.out; rw [hc_] at h2_; cases h2_)); clear HB HO3; have HB := n0_; have HO3 := n1_; clear n0_ n1_ ho hb hg hat))
    go_roundg k1
    case measure => omega
    case rel => exact ⟨_, _, p1, H', ⟨n2_.out.trans (by first | exact HI.out | (simp only [World.heap_drewN]; exact HI.out) | (rw [alloc_old] <;> first | exact HI.out | (have := (Array.getElem?_eq_some_iff.1 HI.out).1; simpa using this)))⟩, HO3, ⟨Kd.R_nil _ _ _ _ _⟩, HB⟩
 ·
  rw [if_neg hs] at h; exact absurd h z198_
end Go.Proofs.YtbbmdakdghefnaaGreatDoor.T
