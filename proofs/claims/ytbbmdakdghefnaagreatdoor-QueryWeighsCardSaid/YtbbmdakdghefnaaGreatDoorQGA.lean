import Derived.Test.YtbbmdakdghefnaaGreatDoorQGV
import Derived.Test.YtbbmdakdghefnaaGreatDoorProg
import Derived.Lib.OthersKept
/- Texts of this claim, laid together by a program (merge.py): Tx0, Sl, Tx1, Tx2, Tx11, Tx12, Tx13, Tx14, Tx15, Wd, Tx19. -/
set_option maxHeartbeats 8000000
set_option maxRecDepth 100000
namespace Go.Proofs.YtbbmdakdghefnaaGreatDoor.T
open Go.RowKit Go.Proofs.YtbbmdakdghefnaaGreatDoorW.PrintWords Go.Proofs.YtbbmdakdghefnaaGreatDoorW.PrintLast Go.Proofs.YtbbmdakdghefnaaGreatDoorW.PrintMore
attribute [local go_sem] max2_int min2_int max_two min_two max_three min_three max_four min_four
set_option linter.unusedVariables false
set_option linter.unusedSimpArgs false
theorem info3 : (Tryz.prog.info? 3).map (fun i => (i.zero, i.size, i.bytes)) = some (some (.int .i64 0), 1, 8) := by kernel_rfl
theorem info4 : (Tryz.prog.info? 4).map (fun i => (i.zero, i.size, i.bytes)) = some (some (.bool false), 1, 1) := by kernel_rfl
theorem info5 : (Tryz.prog.info? 5).map (fun i => (i.zero, i.size, i.bytes)) = some (some (.int .u8 0), 1, 1) := by kernel_rfl
theorem info9 : (Tryz.prog.info? 9).map (fun i => (i.zero, i.size, i.bytes)) = some (some (.string ⟨#[]⟩), 1, 16) := by kernel_rfl
theorem info23 : (Tryz.prog.info? 23).map (fun i => (i.zero, i.size, i.bytes)) = some (some (.slice none 0 0), 1, 24) := by kernel_rfl
theorem info37 : (Tryz.prog.info? 37).map (fun i => (i.zero, i.size, i.bytes)) = some (some (.agg #[(.int .i64 0), (.slice none 0 0), (.int .i64 0), (.int .i64 0)]), 4, 48) := by kernel_rfl
theorem info42 : (Tryz.prog.info? 42).map (fun i => (i.zero, i.size, i.bytes)) = some (some (.slice none 0 0), 1, 24) := by kernel_rfl
theorem info55 : (Tryz.prog.info? 55).map (fun i => (i.zero, i.size, i.bytes)) = some (some (.agg #[(.string ⟨#[]⟩), (.int .i64 0), (.slice none 0 0)]), 3, 48) := by kernel_rfl
theorem info99 : (Tryz.prog.info? 99).map (fun i => (i.zero, i.size, i.bytes)) = some (some (.agg #[(.int .i64 0), (.slice none 0 0)]), 2, 32) := by kernel_rfl
-- the values' own types
def rd_L3 (xs : List (List ByteArray)) (i : Int) : (List ByteArray) := xs.getD i.toNat ([] : List ByteArray)
theorem at_L3 {w : World} {A : Option Addr} {n : Nat} {xs : List (List ByteArray)} (h : Kd.C (Kd.slice 9 Kd.string) w A n xs) (i : Int) (h0 : 0 ≤ i) (h1 : i < n) : ∃ ad A0 c0, A = some ad ∧ w.cell? (ad.add i.toNat) = some (.slice A0 (rd_L3 xs i).length c0) ∧ (rd_L3 xs i).length ≤ c0 ∧ Kd.string.C w A0 (rd_L3 xs i).length (rd_L3 xs i) := by
 obtain ⟨ad, c, e, _, hK, hc0⟩ := Kd.C_get h ([] : List ByteArray) i h0 h1; have hc : ∀ j u, c[j]? = some u → w.cell? (ad.add (i.toNat * 1 + j)) = some u := hc0; obtain ⟨A0, c0, rfl, l0, g0⟩ := hK; exact ⟨ad, A0, c0, e, z127_, l0, g0⟩
def rd_L5 (xs : List (List Int)) (i : Int) : (List Int) := xs.getD i.toNat ([] : List Int)
theorem at_L5 {w : World} {A : Option Addr} {n : Nat} {xs : List (List Int)} (h : Kd.C (Kd.slice 3 (Kd.int .i64)) w A n xs) (i : Int) (h0 : 0 ≤ i) (h1 : i < n) : ∃ ad A0 c0, A = some ad ∧ w.cell? (ad.add i.toNat) = some (.slice A0 (rd_L5 xs i).length c0) ∧ (rd_L5 xs i).length ≤ c0 ∧ (Kd.int .i64).C w A0 (rd_L5 xs i).length (rd_L5 xs i) := by
 obtain ⟨ad, c, e, _, hK, hc0⟩ := Kd.C_get h ([] : List Int) i h0 h1; have hc : ∀ j u, c[j]? = some u → w.cell? (ad.add (i.toNat * 1 + j)) = some u := hc0; obtain ⟨A0, c0, rfl, l0, g0⟩ := hK; exact ⟨ad, A0, c0, e, z127_, l0, g0⟩
structure S99 where
 f0 : Int
 f1 : (List Int)
def z99 : S99 := ⟨(0 : Int), ([] : List Int)⟩
def k99 : Kd S99 := Kd.iso (Kd.pair (Kd.int .i64) (Kd.slice 3 (Kd.int .i64))) (fun x : S99 => (x.f0, x.f1))
theorem k99_open {w : World} {x : S99} {cs : List Value} (h : k99.K w x cs) : ∃ A1 c1, cs = [.int .i64 x.f0, .slice A1 x.f1.length c1] ∧ x.f1.length ≤ c1 ∧ (Kd.int .i64).C w A1 x.f1.length x.f1 := by
 obtain ⟨_, _, rfl, rfl, ⟨A1, c1, rfl, l1, g1⟩⟩ := h; exact ⟨A1, c1, rfl, l1, g1⟩
theorem k99_mkM (w : World) (base : Nat) (ok : Nat → Prop) (x : S99) {v1 : Value} (g1 : (Kd.int .i64).R 3 w base ok v1 x.f1) : k99.M w base ok x [.int .i64 x.f0, v1] := ⟨[.int .i64 x.f0], [v1], rfl, rfl, ⟨v1, rfl, g1⟩⟩
def rd_T99 (xs : List S99) (i : Int) : S99 := xs.getD i.toNat z99
theorem at_T99 {w : World} {A : Option Addr} {n : Nat} {xs : List S99} (h : Kd.C k99 w A n xs) (i : Int) (h0 : 0 ≤ i) (h1 : i < n) : ∃ ad A1 c1, A = some ad ∧ w.cell? (ad.add (i.toNat * 2)) = some (.int .i64 (rd_T99 xs i).f0) ∧ w.cell? ⟨(ad.add (i.toNat * 2)).block, (ad.add (i.toNat * 2)).off + 1, none⟩ = some (.slice A1 (rd_T99 xs i).f1.length c1) ∧ (rd_T99 xs i).f1.length ≤ c1 ∧ (Kd.int .i64).C w A1 (rd_T99 xs i).f1.length (rd_T99 xs i).f1 := by
 obtain ⟨ad, c, e, _, hK, hc0⟩ := Kd.C_get h z99 i h0 h1; have hc : ∀ j u, c[j]? = some u → w.cell? (ad.add (i.toNat * 2 + j)) = some u := hc0; obtain ⟨A1, c1, rfl, l1, g1⟩ := k99_open hK; exact ⟨ad, A1, c1, e, hc 0 _ rfl, z199_, l1, g1⟩
structure S37 where
 f0 : Int
 f1 : (List ByteArray)
 f2 : Int
 f3 : Int
def z37 : S37 := ⟨(0 : Int), ([] : List ByteArray), (0 : Int), (0 : Int)⟩
def k37 : Kd S37 := Kd.iso (Kd.pair (Kd.int .i64) (Kd.pair (Kd.slice 9 Kd.string) (Kd.pair (Kd.int .i64) (Kd.int .i64)))) (fun x : S37 => (x.f0, x.f1, x.f2, x.f3))
theorem k37_open {w : World} {x : S37} {cs : List Value} (h : k37.K w x cs) : ∃ A1 c1, cs = [.int .i64 x.f0, .slice A1 x.f1.length c1, .int .i64 x.f2, .int .i64 x.f3] ∧ x.f1.length ≤ c1 ∧ Kd.string.C w A1 x.f1.length x.f1 := by
 obtain ⟨_, _, rfl, rfl, ⟨_, _, rfl, ⟨A1, c1, rfl, l1, g1⟩, ⟨_, _, rfl, rfl, rfl⟩⟩⟩ := h; exact ⟨A1, c1, rfl, l1, g1⟩
theorem k37_mkM (w : World) (base : Nat) (ok : Nat → Prop) (x : S37) {v1 : Value} (g1 : Kd.string.R 9 w base ok v1 x.f1) : k37.M w base ok x [.int .i64 x.f0, v1, .int .i64 x.f2, .int .i64 x.f3] := ⟨[.int .i64 x.f0], [v1, .int .i64 x.f2, .int .i64 x.f3], rfl, rfl, ⟨[v1], [.int .i64 x.f2, .int .i64 x.f3], rfl, ⟨v1, rfl, g1⟩, ⟨[.int .i64 x.f2], [.int .i64 x.f3], rfl, rfl, rfl⟩⟩⟩
def rd_T37 (xs : List S37) (i : Int) : S37 := xs.getD i.toNat z37
theorem at_T37 {w : World} {A : Option Addr} {n : Nat} {xs : List S37} (h : Kd.C k37 w A n xs) (i : Int) (h0 : 0 ≤ i) (h1 : i < n) : ∃ ad A1 c1, A = some ad ∧ w.cell? (ad.add (i.toNat * 4)) = some (.int .i64 (rd_T37 xs i).f0) ∧ w.cell? ⟨(ad.add (i.toNat * 4)).block, (ad.add (i.toNat * 4)).off + 1, none⟩ = some (.slice A1 (rd_T37 xs i).f1.length c1) ∧ w.cell? ⟨(ad.add (i.toNat * 4)).block, (ad.add (i.toNat * 4)).off + 2, none⟩ = some (.int .i64 (rd_T37 xs i).f2) ∧ w.cell? ⟨(ad.add (i.toNat * 4)).block, (ad.add (i.toNat * 4)).off + 3, none⟩ = some (.int .i64 (rd_T37 xs i).f3) ∧ (rd_T37 xs i).f1.length ≤ c1 ∧ Kd.string.C w A1 (rd_T37 xs i).f1.length (rd_T37 xs i).f1 := by
 obtain ⟨ad, c, e, _, hK, hc0⟩ := Kd.C_get h z37 i h0 h1; have hc : ∀ j u, c[j]? = some u → w.cell? (ad.add (i.toNat * 4 + j)) = some u := hc0; obtain ⟨A1, c1, rfl, l1, g1⟩ := k37_open hK; exact ⟨ad, A1, c1, e, hc 0 _ rfl, z199_, by rw [← add_field _ _ 2 z131_]; exact hc 2 _ rfl, by rw [← add_field _ _ 3 z131_]; exact hc 3 _ rfl, l1, g1⟩
def rd_L8 (xs : List (List S99)) (i : Int) : (List S99) := xs.getD i.toNat ([] : List S99)
theorem at_L8 {w : World} {A : Option Addr} {n : Nat} {xs : List (List S99)} (h : Kd.C (Kd.slice 99 k99) w A n xs) (i : Int) (h0 : 0 ≤ i) (h1 : i < n) : ∃ ad A0 c0, A = some ad ∧ w.cell? (ad.add i.toNat) = some (.slice A0 (rd_L8 xs i).length c0) ∧ (rd_L8 xs i).length ≤ c0 ∧ k99.C w A0 (rd_L8 xs i).length (rd_L8 xs i) := by
 obtain ⟨ad, c, e, _, hK, hc0⟩ := Kd.C_get h ([] : List S99) i h0 h1; have hc : ∀ j u, c[j]? = some u → w.cell? (ad.add (i.toNat * 1 + j)) = some u := hc0; obtain ⟨A0, c0, rfl, l0, g0⟩ := hK; exact ⟨ad, A0, c0, e, z127_, l0, g0⟩
structure S71 where
 f0 : ByteArray
 f1 : (List S99)
def z71 : S71 := ⟨(⟨#[]⟩ : ByteArray), ([] : List S99)⟩
def k71 : Kd S71 := Kd.iso (Kd.pair Kd.string (Kd.slice 99 k99)) (fun x : S71 => (x.f0, x.f1))
theorem k71_open {w : World} {x : S71} {cs : List Value} (h : k71.K w x cs) : ∃ A1 c1, cs = [.string x.f0, .slice A1 x.f1.length c1] ∧ x.f1.length ≤ c1 ∧ k99.C w A1 x.f1.length x.f1 := by
 obtain ⟨_, _, rfl, rfl, ⟨A1, c1, rfl, l1, g1⟩⟩ := h; exact ⟨A1, c1, rfl, l1, g1⟩
theorem k71_openM {w : World} {base : Nat} {ok : Nat → Prop} {x : S71} {cs : List Value} (h : k71.M w base ok x cs) : ∃ v1, cs = [.string x.f0, v1] ∧ k99.R 99 w base ok v1 x.f1 := by
 obtain ⟨_, _, rfl, rfl, ⟨v1, rfl, g1⟩⟩ := h; exact ⟨v1, rfl, g1⟩
theorem k71_mk (w : World) (x : S71) {A1 : Option Addr} {c1 : Nat} (l1 : x.f1.length ≤ c1) (g1 : k99.C w A1 x.f1.length x.f1) : k71.K w x [.string x.f0, .slice A1 x.f1.length c1] := ⟨[.string x.f0], [.slice A1 x.f1.length c1], rfl, rfl, ⟨A1, c1, rfl, l1, g1⟩⟩
theorem k71_mkM (w : World) (base : Nat) (ok : Nat → Prop) (x : S71) {v1 : Value} (g1 : k99.R 99 w base ok v1 x.f1) : k71.M w base ok x [.string x.f0, v1] := ⟨[.string x.f0], [v1], rfl, rfl, ⟨v1, rfl, g1⟩⟩
def rd_T71 (xs : List S71) (i : Int) : S71 := xs.getD i.toNat z71
theorem at_T71 {w : World} {A : Option Addr} {n : Nat} {xs : List S71} (h : Kd.C k71 w A n xs) (i : Int) (h0 : 0 ≤ i) (h1 : i < n) : ∃ ad A1 c1, A = some ad ∧ w.cell? (ad.add (i.toNat * 2)) = some (.string (rd_T71 xs i).f0) ∧ w.cell? ⟨(ad.add (i.toNat * 2)).block, (ad.add (i.toNat * 2)).off + 1, none⟩ = some (.slice A1 (rd_T71 xs i).f1.length c1) ∧ (rd_T71 xs i).f1.length ≤ c1 ∧ k99.C w A1 (rd_T71 xs i).f1.length (rd_T71 xs i).f1 := by
 obtain ⟨ad, c, e, _, hK, hc0⟩ := Kd.C_get h z71 i h0 h1; have hc : ∀ j u, c[j]? = some u → w.cell? (ad.add (i.toNat * 2 + j)) = some u := hc0; obtain ⟨A1, c1, rfl, l1, g1⟩ := k71_open hK; exact ⟨ad, A1, c1, e, hc 0 _ rfl, z199_, l1, g1⟩
structure S45 where
 f0 : (List ByteArray)
 f1 : (List Int)
 f2 : (List Int)
 f3 : (List S71)
 f4 : Bool
structure S55 where
 f0 : ByteArray
 f1 : Int
 f2 : (List ByteArray)
def z55 : S55 := ⟨(⟨#[]⟩ : ByteArray), (0 : Int), ([] : List ByteArray)⟩
def k55 : Kd S55 := Kd.iso (Kd.pair Kd.string (Kd.pair (Kd.int .i64) (Kd.slice 9 Kd.string))) (fun x : S55 => (x.f0, x.f1, x.f2))
theorem k55_open {w : World} {x : S55} {cs : List Value} (h : k55.K w x cs) : ∃ A2 c2, cs = [.string x.f0, .int .i64 x.f1, .slice A2 x.f2.length c2] ∧ x.f2.length ≤ c2 ∧ Kd.string.C w A2 x.f2.length x.f2 := by
 obtain ⟨_, _, rfl, rfl, ⟨_, _, rfl, rfl, ⟨A2, c2, rfl, l2, g2⟩⟩⟩ := h; exact ⟨A2, c2, rfl, l2, g2⟩
theorem k55_mk (w : World) (x : S55) {A2 : Option Addr} {c2 : Nat} (l2 : x.f2.length ≤ c2) (g2 : Kd.string.C w A2 x.f2.length x.f2) : k55.K w x [.string x.f0, .int .i64 x.f1, .slice A2 x.f2.length c2] := ⟨[.string x.f0], [.int .i64 x.f1, .slice A2 x.f2.length c2], rfl, rfl, ⟨[.int .i64 x.f1], [.slice A2 x.f2.length c2], rfl, rfl, ⟨A2, c2, rfl, l2, g2⟩⟩⟩
def rd_T55 (xs : List S55) (i : Int) : S55 := xs.getD i.toNat z55
theorem at_T55 {w : World} {A : Option Addr} {n : Nat} {xs : List S55} (h : Kd.C k55 w A n xs) (i : Int) (h0 : 0 ≤ i) (h1 : i < n) : ∃ ad A2 c2, A = some ad ∧ w.cell? (ad.add (i.toNat * 3)) = some (.string (rd_T55 xs i).f0) ∧ w.cell? ⟨(ad.add (i.toNat * 3)).block, (ad.add (i.toNat * 3)).off + 1, none⟩ = some (.int .i64 (rd_T55 xs i).f1) ∧ w.cell? ⟨(ad.add (i.toNat * 3)).block, (ad.add (i.toNat * 3)).off + 2, none⟩ = some (.slice A2 (rd_T55 xs i).f2.length c2) ∧ (rd_T55 xs i).f2.length ≤ c2 ∧ Kd.string.C w A2 (rd_T55 xs i).f2.length (rd_T55 xs i).f2 := by
 obtain ⟨ad, c, e, _, hK, hc0⟩ := Kd.C_get h z55 i h0 h1; have hc : ∀ j u, c[j]? = some u → w.cell? (ad.add (i.toNat * 3 + j)) = some u := hc0; obtain ⟨A2, c2, rfl, l2, g2⟩ := k55_open hK; exact ⟨ad, A2, c2, e, hc 0 _ rfl, z199_, by rw [← add_field _ _ 2 z131_]; exact hc 2 _ rfl, l2, g2⟩
theorem bytesLess_swap : ∀ a b : List UInt8, (!(Op.bytesLess a b || a == b)) = Op.bytesLess b a
 | [], [] => rfl
 | [], _ :: _ => rfl
 | _ :: _, [] => rfl
 | x :: r, y :: s => by
  have ih := bytesLess_swap r s; simp only [Op.bytesLess]
  by_cases h1 : x < y
  ·
   have h2 : ¬ y < x := by rw [UInt8.lt_iff_toNat_lt] at *; omega
   have h3 : (y == x) = false := by
    rw [beq_eq_false_iff_ne]; intro he; subst he; exact h2 h1
   simp [h1, h2, h3]
  ·
   by_cases h2 : y < x
   ·
    have h3 : (x == y) = false := by
     rw [beq_eq_false_iff_ne]; intro he; subst he; exact h1 h2
    have h4 : ((x :: r) == (y :: s)) = false := by
     rw [beq_eq_false_iff_ne]; intro he
     injection he with he _
     rw [he] at h3
     simp at h3
    simp [h1, h2, h3, h4]
   ·
    have he : x = y := by
     rw [UInt8.lt_iff_toNat_lt] at *; exact UInt8.toNat_inj.1 z131_
    subst he; have h4 : ((x :: r) == (x :: s)) = (r == s) := z183_; rw [h4]; simp only [h1, decide_false, Bool.false_or, beq_self_eq_true, Bool.true_and]; exact ih
theorem string_leq_ (t : TypeId) (a b : ByteArray) : binOp .leq t (.string a) (.string b) = pure (.bool (!(Op.bytesLess b.toList a.toList))) := by
 rw [← bytesLess_swap, Bool.not_not]; simp [binOp, Op.stringOp]
def f88.f (k : Nat) (l0 : List Int) (a1 : Int) : Option (List Int) := if ((a1) % 4294967296) ≤ 127 then (if l0.length < 140737488355328 then (some (l0 ++ [(a1) % 256])) else (none)) else (none)
theorem f88.calls (k : Nat) (P0_ : Nat → Prop) (u9000_ : Value) (l0 : List Int) (a1 : Int) (r : List Int) (w0 w : World) (hB : Below w0.heap.size w0 w) (ho0 : Kd.R (Kd.int .u8) 5 w w0.heap.size P0_ u9000_ l0) (h : f88.f k l0 a1 = some r) :
  Calls Tryz.prog 179 #[u9000_, .int .i32 a1] w fun e w' => ∃ v0_ : Value, e = .returned (v0_) ∧ Kd.R (Kd.int .u8) 5 w' w0.heap.size (fun k_ => (P0_ k_ ∨ w.heap.size ≤ k_)) v0_ r ∧ Below w0.heap.size w0 w' ∧ Kept w w' (fun k_ => P0_ k_) := by
 have HO0 := A_ (show Kd.R (Kd.int .u8) 5 w w0.heap.size (fun k_ => (P0_ k_ ∨ w.heap.size ≤ k_)) u9000_ l0 from Kd.R_mono ho0 (fun k_ hk => (.inl hk))); have HK := A_ (Kept.refl w (fun k_ => P0_ k_)); have HW0 := A_ hB.size; have HB := A_ hB; clear hB; unfold f88.f at h; have H := h; clear h; revert H; refine i3_ fun c3b0 H => ?_; revert H; refine i4_ fun c4 H => ?_; have LMc4 := A_ c4; clear c4; obtain ⟨y10, hy10⟩ : ∃ y_ : List Int, y_ = (l0 ++ [(a1) % 256]) := ⟨_, rfl⟩; replace H : (some y10) = some r := z94_; have Ny10 := A_ hy10; clear hy10; obtain rfl := sj_ H; go_enter Tryz.func179, Tryz.ntmps179
 go_wp2_with (first | ((with_reducible refine gate_builtin (b := .append) (xs := #[.tmp 8, .tmp 11]) rfl ?_); at_builtin; refine Kd.R_append (Kd.int .u8) (w0 := w0) w0.heap.size rfl (.tmp 8) (.tmp 11) 152 5 (.int .u8 0) 1 rfl Tryz.underlying152 info5 rfl z77_ z131_ u9000_ l0 ((a1) % 256) [.int .u8 ((a1) % 256)] (fun k_ => (P0_ k_ ∨ w.heap.size ≤ k_)) (fun _ => False) rfl rfl ?aP (fun _ hk => hk.elim) ?aF ?aO ?aB ?aS ?aL ?_; (case aP => exact rfl); (case aB => exact z154_); (case aF => exact (fun k_ hk => (.inr (Nat.le_trans (by first | exact HK.out.1 | exact (show Kept w _ (fun k_ => P0_ k_) from z155_).1) hk)))); (case aO => exact (by (with_reducible repeat (first | apply Kd.R_alloc | apply Kd.R_drewN | apply Kd.R_drew)); exact HO0.out)); (case aS => exact (below_size z154_)); (case aL => have := LMc4.out; omega); intro v11 w5 ho hb hg hat; rw [← Ny10.out] at ho; have n_ := a3_ (hb) (Kept.of_grown (S := (fun k_ => P0_ k_)) hg z155_ (fun k_ e_ => (HO0.out.1 k_ e_))) (ho); clear HB HK HO0; obtain ⟨HB, HK, HO12⟩ := n_; clear ho hb hg hat))
 go_ret; exact ⟨_, z109_, by (with_reducible repeat (first | apply Kd.R_alloc | apply Kd.R_drewN | apply Kd.R_drew)); exact HO12.out, z154_, z155_⟩
def f87.f (a0 : Int) : Option (Bool) := if a0 ≥ 97 then (if a0 ≤ 122 then (some true) else (if a0 ≥ 65 then (if a0 ≤ 90 then (some true) else (if a0 ≥ 48 then (if a0 ≤ 57 then (some true) else (some (decide (a0 ≥ 128)))) else (some (decide (a0 ≥ 128))))) else (if a0 ≥ 48 then (if a0 ≤ 57 then (some true) else (some (decide (a0 ≥ 128)))) else (some (decide (a0 ≥ 128)))))) else (if a0 ≥ 65 then (if a0 ≤ 90 then (some true) else (if a0 ≥ 48 then (if a0 ≤ 57 then (some true) else (some (decide (a0 ≥ 128)))) else (some (decide (a0 ≥ 128))))) else (if a0 ≥ 48 then (if a0 ≤ 57 then (some true) else (some (decide (a0 ≥ 128)))) else (some (decide (a0 ≥ 128)))))
theorem f87.calls (a0 : Int) (r : Bool) (w : World) (h : f87.f a0 = some r) :
  Calls Tryz.prog 178 #[.int .i32 a0] w fun e w' => e = .returned (.bool r) ∧ Drawn0 w w' := by
 unfold f87.f at h; have H := h; clear h; revert H; refine i1_ (fun c2b0 H => ?_) fun c2b0 H => ?_; rotate_left
 ·
  revert H; refine i1_ (fun c10b0 H => ?_) fun c10b0 H => ?_; rotate_left
  ·
   revert H; refine i1_ (fun c14b0 H => ?_) fun c14b0 H => ?_; rotate_left
   ·
    obtain rfl := sj_ H; go_enter Tryz.func178, Tryz.ntmps178; go_wp2; go_ret; exact ⟨z110_, z175_⟩
   revert H; refine i1_ (fun c15b0 H => ?_) fun c15b0 H => ?_; rotate_left
   ·
    obtain rfl := sj_ H; go_enter Tryz.func178, Tryz.ntmps178; go_wp2; go_ret; exact ⟨z110_, z175_⟩
   obtain rfl := sj_ H; go_enter Tryz.func178, Tryz.ntmps178; go_wp2; go_ret; exact ⟨z110_, z175_⟩
  revert H; refine i1_ (fun c11b0 H => ?_) fun c11b0 H => ?_
  ·
   obtain rfl := sj_ H; go_enter Tryz.func178, Tryz.ntmps178; go_wp2; go_ret; exact ⟨z110_, z175_⟩
  revert H; refine i1_ (fun c12b0 H => ?_) fun c12b0 H => ?_; rotate_left
  ·
   obtain rfl := sj_ H; go_enter Tryz.func178, Tryz.ntmps178; go_wp2; go_ret; exact ⟨z110_, z175_⟩
  revert H; refine i1_ (fun c13b0 H => ?_) fun c13b0 H => ?_; rotate_left
  ·
   obtain rfl := sj_ H; go_enter Tryz.func178, Tryz.ntmps178; go_wp2; go_ret; exact ⟨z110_, z175_⟩
  obtain rfl := sj_ H; go_enter Tryz.func178, Tryz.ntmps178; go_wp2; go_ret; exact ⟨z110_, z175_⟩
 revert H; refine i1_ (fun c3b0 H => ?_) fun c3b0 H => ?_
 ·
  obtain rfl := sj_ H; go_enter Tryz.func178, Tryz.ntmps178; go_wp2; go_ret; exact ⟨z110_, z175_⟩
 revert H; refine i1_ (fun c4b0 H => ?_) fun c4b0 H => ?_; rotate_left
 ·
  revert H; refine i1_ (fun c8b0 H => ?_) fun c8b0 H => ?_; rotate_left
  ·
   obtain rfl := sj_ H; go_enter Tryz.func178, Tryz.ntmps178; go_wp2; go_ret; exact ⟨z110_, z175_⟩
  revert H; refine i1_ (fun c9b0 H => ?_) fun c9b0 H => ?_; rotate_left
  ·
   obtain rfl := sj_ H; go_enter Tryz.func178, Tryz.ntmps178; go_wp2; go_ret; exact ⟨z110_, z175_⟩
  obtain rfl := sj_ H; go_enter Tryz.func178, Tryz.ntmps178; go_wp2; go_ret; exact ⟨z110_, z175_⟩
 revert H; refine i1_ (fun c5b0 H => ?_) fun c5b0 H => ?_
 ·
  obtain rfl := sj_ H; go_enter Tryz.func178, Tryz.ntmps178; go_wp2; go_ret; exact ⟨z110_, z175_⟩
 revert H; refine i1_ (fun c6b0 H => ?_) fun c6b0 H => ?_; rotate_left
 ·
  obtain rfl := sj_ H; go_enter Tryz.func178, Tryz.ntmps178; go_wp2; go_ret; exact ⟨z110_, z175_⟩
 revert H; refine i1_ (fun c7b0 H => ?_) fun c7b0 H => ?_; rotate_left
 ·
  obtain rfl := sj_ H; go_enter Tryz.func178, Tryz.ntmps178; go_wp2; go_ret; exact ⟨z110_, z175_⟩
 obtain rfl := sj_ H; go_enter Tryz.func178, Tryz.ntmps178; go_wp2; go_ret; exact ⟨z110_, z175_⟩
def f101.f (a0 : Int) : Option (Int) := if a0 ≥ 65 then (if a0 ≤ 90 then (some (wrap32 ((wrap32 (a0 - 65)) + 97))) else (some a0)) else (some a0)
theorem f101.calls (a0 : Int) (r : Int) (w : World) (h : f101.f a0 = some r) :
  Calls Tryz.prog 180 #[.int .i32 a0] w fun e w' => e = .returned (.int .i32 r) ∧ Drawn0 w w' := by
 unfold f101.f at h; have H := h; clear h; revert H; refine i1_ (fun c2b0 H => ?_) fun c2b0 H => ?_; rotate_left
 ·
  obtain rfl := sj_ H; go_enter Tryz.func180, Tryz.ntmps180; go_wp2; go_ret; exact ⟨z110_, z175_⟩
 revert H; refine i1_ (fun c3b0 H => ?_) fun c3b0 H => ?_; rotate_left
 ·
  obtain rfl := sj_ H; go_enter Tryz.func180, Tryz.ntmps180; go_wp2; go_ret; exact ⟨z110_, z175_⟩
 obtain rfl := sj_ H; go_enter Tryz.func180, Tryz.ntmps180; go_wp2; go_ret; exact ⟨z110_, z175_⟩
def f89.f (a0 : ByteArray) : Option (Bool) := some (decide ((a0.size : Int) > 32))
theorem f89.calls (a0 : ByteArray) (r : Bool) (w : World) (h : f89.f a0 = some r) :
  Calls Tryz.prog 138 #[.string a0] w fun e w' => e = .returned (.bool r) ∧ Drawn0 w w' := by
 unfold f89.f at h; have H := h; clear h; obtain rfl := sj_ H; go_enter Tryz.func138, Tryz.ntmps138; go_wp2; go_ret; exact ⟨z110_, z175_⟩
def f18.l0 : Nat → List ByteArray → Int → Int → Option (Int)
 | 0, _, _, _ => none
 | k + 1, x0, x7, x8 => if x8 < x7 then (if 0 ≤ x8 then (if x8 < (x0.length : Int) then ((f89.f (rdOf ByteArray.empty x0 x8)).bind fun t10 => (if t10 = true then (some x8) else (f18.l0 k x0 x7 (wrap64 (x8 + 1))))) else (none)) else (none)) else (some (-1))
def f18.f (k : Nat) (l0 : List ByteArray)  : Option (Int) := f18.l0 k l0 (l0.length : Int) 0
theorem f18.calls (k : Nat) (A0 : Option Addr) (c0 : Nat) (l0 : List ByteArray)  (r : Int) (w : World) (hr0 : Kd.C Kd.string w A0 l0.length l0) (hc0 : l0.length ≤ c0) (h : f18.f k l0 = some r) :
  Calls Tryz.prog 97 #[.slice A0 l0.length c0, (.func (.func 138) #[] #[])] w fun e w' => e = .returned (.int .i64 r) ∧ Drawn0 w w' := by
 have HR0 := A_ hr0; have HC0 := A_ hc0; clear hr0 hc0; unfold f18.f at h; have H := h; clear h; have H' := A_ H; clear H; go_enter Tryz.func97, Tryz.ntmps97; go_wp2
 go_loopg [8] k (fun kq v8 w' => ∃ (x8_1 : Int), v8 = .int .i64 x8_1 ∧ Aside0 (f18.l0 kq l0 (l0.length : Int) x8_1 = some r) ∧ Aside0 (kq ≤ k) ∧ Drawn0 w w')
 case atStart => exact ⟨(0), z110_, H', ⟨Nat.le_refl _⟩, z175_⟩
 case round =>
  clear H'; obtain ⟨x8_1, rfl, HA, HK1, ⟨m1, rfl⟩⟩ := hrel
  cases gk with
  | zero => exact absurd HA.out (by simp [f18.l0])
  | succ k1 =>
  have H := HA.out; clear HA; simp only [f18.l0] at H; revert H; refine i1_ (fun c3b0 H => ?_) fun c3b0 H => ?_; rotate_left
  ·
   obtain rfl := sj_ H; go_wp2; go_ret; exact ⟨z110_, z175_⟩
  revert H; refine i3_ fun c4b0 H => ?_; revert H; refine i3_ fun c5b0 H => ?_; replace H := bm_ H; obtain ⟨t10, A60, H⟩ := H; have A6 := A_ A60; clear A60
  by_cases c7 : t10 = true
  ·
   subst c7; have H1 := tt_ H; clear H; have H := H1; clear H1; obtain rfl := sj_ H; obtain ⟨p11, q11, ad11, e11, hx11_0⟩ := pq_ (Kd.at_string HR0.out x8_1); cases e11
   go_wp2_with (first | (go_at_call 138; (with_reducible refine (f89.calls (rdOf ByteArray.empty l0 x8_1) true _ A6.out).mono ?_); rintro e w' ⟨rfl, ⟨nd, rfl⟩⟩))
   go_ret; exact ⟨z110_, z175_⟩
  ·
   replace c7 := Bool.eq_false_iff.mpr c7; subst c7; have H1 := ff_ H; clear H; have H := H1; clear H1; have H' := A_ H; clear H; obtain ⟨p11, q11, ad11, e11, hx11_0⟩ := pq_ (Kd.at_string HR0.out x8_1); cases e11
   go_wp2_with (first | (go_at_call 138; (with_reducible refine (f89.calls (rdOf ByteArray.empty l0 x8_1) false _ A6.out).mono ?_); rintro e w' ⟨rfl, ⟨nd, rfl⟩⟩))
   go_roundg k1
   case measure => have := HK1.out; omega
   case rel => exact ⟨(wrap64 (x8_1 + 1)), z110_, H', ⟨z120_⟩, z175_⟩
def f37.f (k : Nat) (l0 : List ByteArray)  : Option (Bool) := (f18.f k l0).bind fun t10 => (some (decide (t10 ≥ 0)))
theorem f37.calls (k : Nat) (A0 : Option Addr) (c0 : Nat) (l0 : List ByteArray)  (r : Bool) (w : World) (hr0 : Kd.C Kd.string w A0 l0.length l0) (hc0 : l0.length ≤ c0) (h : f37.f k l0 = some r) :
  Calls Tryz.prog 65 #[.slice A0 l0.length c0, (.func (.func 138) #[] #[])] w fun e w' => e = .returned (.bool r) ∧ Drawn0 w w' := by
 have HR0 := A_ hr0; have HC0 := A_ hc0; clear hr0 hc0; unfold f37.f at h; have H := h; clear h; replace H := bm_ H; obtain ⟨t10, A30, H⟩ := H; have A3 := A_ A30; clear A30; obtain rfl := sj_ H; go_enter Tryz.func65, Tryz.ntmps65
 go_wp2_with (first | ((with_reducible refine gate_callee (f := 97) rfl ?_); refine gl_ (some 7) Tryz.func97 #[.slice A0 l0.length c0, (.func (.func 138) #[] #[])] ?_; (with_reducible refine (f18.calls k _ _ l0  t10 _ ?side1 HC0.out A3.out).mono ?_); (case side1 => exact z176_); rintro e w' ⟨rfl, ⟨nd, rfl⟩⟩; refine ⟨_, rfl, ?_⟩))
 go_ret; exact ⟨z110_, z175_⟩
def f52.l0 : Nat → Int → Int → List Int → Int → Int → Option (Bool)
 | 0, _, _, _, _, _ => none
 | k + 1, x1, x5, x8, x9, x10 => if x10 < x9 then (if 0 ≤ x10 then (if x10 < (x8.length : Int) then (if (rd x8 x10) ≤ x5 then (some false) else (if (rd x8 x10) ≥ x1 then (some false) else (f52.l0 k x1 (rd x8 x10) x8 x9 (wrap64 (x10 + 1))))) else (none)) else (none)) else (some true)
def f52.f (k : Nat) (l0 : List Int) (a1 : Int) : Option (Bool) := f52.l0 k a1 (-1) l0 (l0.length : Int) 0
theorem f52.calls (k : Nat) (A0 : Option Addr) (c0 : Nat) (l0 : List Int) (a1 : Int) (r : Bool) (w : World) (hr0 : Kd.C (Kd.int .i64) w A0 l0.length l0) (hc0 : l0.length ≤ c0) (h : f52.f k l0 a1 = some r) :
  Calls Tryz.prog 103 #[.slice A0 l0.length c0, .int .i64 a1] w fun e w' => e = .returned (.bool r) ∧ Drawn0 w w' := by
 have HR0 := A_ hr0; have HC0 := A_ hc0; clear hr0 hc0; unfold f52.f at h; have H := h; clear h; have H' := A_ H; clear H; go_enter Tryz.func103, Tryz.ntmps103; go_wp2
 go_loopg [5, 10] k (fun kq v5 v10 w' => ∃ (x5_1 : Int) (x10_1 : Int), v5 = .int .i64 x5_1 ∧ v10 = .int .i64 x10_1 ∧ Aside0 (f52.l0 kq a1 x5_1 l0 (l0.length : Int) x10_1 = some r) ∧ Aside0 (kq ≤ k) ∧ Drawn0 w w')
 case atStart => exact ⟨((-1)), (0), z110_, z110_, H', ⟨Nat.le_refl _⟩, z175_⟩
 case round =>
  clear H'; obtain ⟨x5_1, x10_1, rfl, rfl, HA, HK1, ⟨m1, rfl⟩⟩ := hrel
  cases gk with
  | zero => exact absurd HA.out (by simp [f52.l0])
  | succ k1 =>
  have H := HA.out; clear HA; simp only [f52.l0] at H; revert H; refine i1_ (fun c3b0 H => ?_) fun c3b0 H => ?_; rotate_left
  ·
   obtain rfl := sj_ H; go_wp2; go_ret; exact ⟨z110_, z175_⟩
  revert H; refine i3_ fun c4b0 H => ?_; revert H; refine i3_ fun c5b0 H => ?_; revert H; refine i1_ (fun c6b0 H => ?_) fun c6b0 H => ?_
  ·
   obtain rfl := sj_ H; obtain ⟨p11, q11, ad11, e11, hx11_0⟩ := pq_ (Kd.at_int HR0.out x10_1); cases e11; go_wp2; go_ret; exact ⟨z110_, z175_⟩
  revert H; refine i1_ (fun c7b0 H => ?_) fun c7b0 H => ?_
  ·
   obtain rfl := sj_ H; obtain ⟨p11, q11, ad11, e11, hx11_0⟩ := pq_ (Kd.at_int HR0.out x10_1); cases e11; go_wp2; go_ret; exact ⟨z110_, z175_⟩
  have H' := A_ H; clear H; obtain ⟨p11, q11, ad11, e11, hx11_0⟩ := pq_ (Kd.at_int HR0.out x10_1); cases e11; go_wp2
  go_roundg k1
  case measure => have := HK1.out; omega
  case rel => exact ⟨(rd l0 x10_1), (wrap64 (x10_1 + 1)), z110_, z110_, H', ⟨z120_⟩, z175_⟩
end Go.Proofs.YtbbmdakdghefnaaGreatDoor.T
namespace Go.Proofs.YtbbmdakdghefnaaGreatDoor.T
open Go.RowKit Go.Proofs.YtbbmdakdghefnaaGreatDoorW.PrintWords Go.Proofs.YtbbmdakdghefnaaGreatDoorW.PrintLast Go.Proofs.YtbbmdakdghefnaaGreatDoorW.PrintMore
attribute [local go_sem] string_leq_ max2_int min2_int max_two min_two max_three min_three max_four min_four
set_option linter.unusedVariables false
set_option linter.unusedSimpArgs false
def f44.l0 : Nat → List (S99) → List Int → List (S99) → Int → Int → Option (Bool)
 | 0, _, _, _, _, _ => none
 | k + 1, x0, x3, x6, x7, x8 => if x8 < x7 then (if 0 ≤ x8 then (if x8 < (x6.length : Int) then (if (((rd_T99 x6 x8).f1).length : Int) = 0 then (some false) else (if (((rd_T99 x6 x8).f1).length : Int) > 120 then (some false) else ((f52.f k ((rd_T99 x6 x8).f1) 120).bind fun t10 => (if t10 = true then (if x3.length < 17592186044416 then (f44.l0 k x0 (x3 ++ [(rd_T99 x6 x8).f0]) x6 x7 (wrap64 (x8 + 1))) else (none)) else (some false))))) else (none)) else (none)) else (if (x0.length : Int) ≤ 64 then ((f52.f k x3 64).bind fun t11 => (some t11)) else (some false))
def f44.f (k : Nat) (l0 : List (S99)) : Option (Bool) := f44.l0 k l0 ([] : List Int) l0 (l0.length : Int) 0
theorem f44.calls (k : Nat) (A0 : Option Addr) (c0 : Nat) (l0 : List (S99)) (r : Bool) (w : World) (hr0 : Kd.C k99 w A0 l0.length l0) (hc0 : l0.length ≤ c0) (h : f44.f k l0 = some r) :
  Calls Tryz.prog 75 #[.slice A0 l0.length c0] w fun e w' => e = .returned (.bool r) ∧ Below w.heap.size w w' := by
 have hu99 := Tryz.underlying99; have HR0 := A_ hr0; have HC0 := A_ hc0; clear hr0 hc0; have HB := A_ (Below.refl w.heap.size w); unfold f44.f at h; have H := h; clear h; have H' := A_ H; clear H; go_enter Tryz.func75, Tryz.ntmps75; go_wp2
 go_loopg [3, 8] k (fun kq v3 v8 w' => ∃ (x3_1 : List Int) (x8_1 : Int), v8 = .int .i64 x8_1 ∧ Aside0 (f44.l0 kq l0 x3_1 l0 (l0.length : Int) x8_1 = some r) ∧ Aside0 (kq ≤ k) ∧ Aside0 (Kd.R (Kd.int .i64) 3 w' w.heap.size (fun _ => True) v3 x3_1) ∧ Aside0 (Below w.heap.size w w'))
 case atStart => exact ⟨(([] : List Int)), (0), z110_, H', ⟨Nat.le_refl _⟩, ⟨z105_⟩, ⟨z154_⟩⟩
 case round =>
  clear H'; obtain ⟨x3_1, x8_1, rfl, HA, HK1, HO_3, HB⟩ := hrel
  cases gk with
  | zero => exact absurd HA.out (by simp [f44.l0])
  | succ k1 =>
  have H := HA.out; clear HA; simp only [f44.l0] at H; revert H; refine i1_ (fun c2b0 H => ?_) fun c2b0 H => ?_; rotate_left
  ·
   revert H; refine i2_ (fun c19 H => ?_) fun c19 H => ?_; rotate_left
   ·
    have c19b0 := decide_eq_false c19; have c19b1 : decide (l0.length ≤ 64) = false := decide_eq_false z131_; clear c19; obtain rfl := sj_ H; go_wp2; go_ret; exact ⟨z109_, z154_⟩
   have c19b0 := decide_eq_true c19; have c19b1 : decide (l0.length ≤ 64) = true := decide_eq_true z131_; clear c19; replace H := bm_ H; obtain ⟨t29, A30, H⟩ := H; have A20 := A_ A30; clear A30; obtain rfl := sj_ H; obtain ⟨Ao21, co21, eo21⟩ := Kd.R_slice HO_3.out; subst eo21
   go_wp2_with (first | (go_at_call 103; (with_reducible refine (f52.calls k1 _ _ x3_1 64 t29 _ ?side1 ?side2 A20.out).mono ?_); (case side1 => repeat (first | exact (Kd.R_reads' HO_3.out).2.2 | (with_reducible refine Kd.C_alloc ?_ _) | (with_reducible refine Kd.C_drewN ?_ _) | (with_reducible refine Kd.C_drew ?_))); (case side2 => exact (Kd.R_reads' HO_3.out).2.1); rintro e w' ⟨rfl, ⟨nd, rfl⟩⟩))
   go_ret; exact ⟨z109_, z154_⟩
  revert H; refine i3_ fun c3b0 H => ?_; revert H; refine i3_ fun c4b0 H => ?_; revert H; refine i2_ (fun c5 H => ?_) fun c5 H => ?_
  ·
   have c5b0 := beq_iff_eq.mpr c5; have c5b1 := bne_eq_false_iff_eq.mpr c5; clear c5; obtain rfl := sj_ H; obtain ⟨p22, q22, ad22, A22_1, c22_1, e22, hx22_0, hx22_1, hl22_1, hi22_1⟩ := pq_ (at_T99 HR0.out x8_1); cases e22; replace hx22_0 := hc_ HB.out hx22_0; replace hx22_1 := hc_ HB.out hx22_1; have HR22_1 := A_ hi22_1; have HC22_1 := A_ hl22_1; clear hi22_1 hl22_1
   go_wp2_with (first | ((with_reducible refine gate_dst (N := 5) rfl ?_); (try (refine gate_guard (by rfl) ?_; dsimp only)); refine box_event ?hg (N := 5) ?hd (cs := #[.int .i64 0, .slice none 0 0]) (t := 99) ?hr ?_; (case hd => rfl); (case hg => rfl); (case hr => exact z78_); intro gb23 hg w6 hbox hb; have n_ := a5_ (Kd.R_below z29_ hb) (below_step z154_ hb) (hbox) ((z195_ : w.heap.size ≤ gb23)) ((z195_ : w.heap.size ≤ gb23)); clear HO_3 HB; obtain ⟨HO_3, HB, BK23, GW23, GE23⟩ := n_; clear hb hbox hg; obtain ⟨hcz7_0, hcz7_1, hfz7_0, hfz7_1⟩ := b2_ BK23.out))
   go_ret; exact ⟨z109_, z143_⟩
  have c5b0 := beq_eq_false_iff_ne.mpr c5; have c5b1 := bne_iff_ne.mpr c5; have c5b2 : ¬ (((rd_T99 l0 x8_1).f1) = []) := fun h_ => c5 (by rw [h_]; rfl); revert H; refine i2_ (fun c8 H => ?_) fun c8 H => ?_
  ·
   have c8b0 := decide_eq_true c8; have c8b1 : decide (120 < ((rd_T99 l0 x8_1).f1).length) = true := decide_eq_true z131_; clear c8; obtain rfl := sj_ H; obtain ⟨p22, q22, ad22, A22_1, c22_1, e22, hx22_0, hx22_1, hl22_1, hi22_1⟩ := pq_ (at_T99 HR0.out x8_1); cases e22; replace hx22_0 := hc_ HB.out hx22_0; replace hx22_1 := hc_ HB.out hx22_1; have HR22_1 := A_ hi22_1; have HC22_1 := A_ hl22_1; clear hi22_1 hl22_1
   go_wp2_with (first | ((with_reducible refine gate_dst (N := 5) rfl ?_); (try (refine gate_guard (by rfl) ?_; dsimp only)); refine box_event ?hg (N := 5) ?hd (cs := #[.int .i64 0, .slice none 0 0]) (t := 99) ?hr ?_; (case hd => rfl); (case hg => rfl); (case hr => exact z78_); intro gb23 hg w9 hbox hb; have n_ := a5_ (Kd.R_below z29_ hb) (below_step z154_ hb) (hbox) ((z195_ : w.heap.size ≤ gb23)) ((z195_ : w.heap.size ≤ gb23)); clear HO_3 HB; obtain ⟨HO_3, HB, BK23, GW23, GE23⟩ := n_; clear hb hbox hg; obtain ⟨hcz10_0, hcz10_1, hfz10_0, hfz10_1⟩ := b2_ BK23.out))
   go_ret; exact ⟨z109_, z143_⟩
  have c8b0 := decide_eq_false c8; have c8b1 : decide (120 < ((rd_T99 l0 x8_1).f1).length) = false := decide_eq_false z131_; clear c8; replace H := bm_ H; obtain ⟨t24, A25, H⟩ := H; have A11 := A_ A25; clear A25
  by_cases c12 : t24 = true
  ·
   subst c12; have H1 := tt_ H; clear H; have H := H1; clear H1; revert H; refine i4_ fun c13 H => ?_; have LMc13 := A_ c13; clear c13; obtain ⟨y26, hy26⟩ : ∃ y_ : List Int, y_ = (x3_1 ++ [(rd_T99 l0 x8_1).f0]) := ⟨_, rfl⟩; replace H : (f44.l0 k1 l0 y26 l0 (l0.length : Int) (wrap64 (x8_1 + 1))) = some r := z95_; have Ny26 := A_ hy26; clear hy26; have H' := A_ H; clear H; obtain ⟨p22, q22, ad22, A22_1, c22_1, e22, hx22_0, hx22_1, hl22_1, hi22_1⟩ := pq_ (at_T99 HR0.out x8_1); cases e22; replace hx22_0 := hc_ HB.out hx22_0; replace hx22_1 := hc_ HB.out hx22_1; have HR22_1 := A_ hi22_1; have HC22_1 := A_ hl22_1; clear hi22_1 hl22_1
   go_wp2_with (first | ((with_reducible refine gate_dst (N := 5) rfl ?_); (try (refine gate_guard (by rfl) ?_; dsimp only)); refine box_event ?hg (N := 5) ?hd (cs := #[.int .i64 0, .slice none 0 0]) (t := 99) ?hr ?_; (case hd => rfl); (case hg => rfl); (case hr => exact z78_); intro gb23 hg w14 hbox hb; have n_ := a5_ (Kd.R_below z29_ hb) (below_step z154_ hb) (hbox) ((z195_ : w.heap.size ≤ gb23)) ((z195_ : w.heap.size ≤ gb23)); clear HO_3 HB; obtain ⟨HO_3, HB, BK23, GW23, GE23⟩ := n_; clear hb hbox hg; obtain ⟨hcz15_0, hcz15_1, hfz15_0, hfz15_1⟩ := b2_ BK23.out) | (go_at_call 103; (with_reducible refine (f52.calls k1 _ _ ((rd_T99 l0 x8_1).f1) 120 true _ ?side1 HC22_1.out A11.out).mono ?_); (case side1 => exact Kd.C_below HR22_1.out z143_); rintro e w' ⟨rfl, ⟨nd, rfl⟩⟩) | ((with_reducible refine gate_builtin (b := .append) (xs := #[.tmp 28, .tmp 31]) rfl ?_); (try (refine gate_guard (by rfl) ?_; dsimp only)); at_builtin; refine Kd.R_append (Kd.int .i64) (w0 := w) w.heap.size rfl (.tmp 28) (.tmp 31) 42 3 (.int .i64 0) 8 rfl Tryz.underlying42 info3 rfl z77_ z131_ u3 x3_1 ((rd_T99 l0 x8_1).f0) [.int .i64 ((rd_T99 l0 x8_1).f0)] (fun _ => True) (fun _ => False) rfl z78_ ?aP (fun _ hk => hk.elim) ?aF ?aO ?aB ?aS ?aL ?_; (case aP => exact rfl); (case aB => exact z143_); (case aF => exact (fun _ _ => trivial)); (case aO => exact (by (with_reducible repeat (first | apply Kd.R_alloc | apply Kd.R_drewN | apply Kd.R_drew)); exact Kd.R_mono (Kd.R_far (p := ⟨gb23, 1, none⟩) (Kd.R_far (p := ⟨gb23, 0, none⟩) (Kd.R_types HO_3.out BK23.out z77_) (fun _ hk => hk.2) (.int .i64 ((rd_T99 l0 x8_1).f0))) (fun _ hk => hk.2) (.slice A22_1 ((rd_T99 l0 x8_1).f1).length c22_1)) (fun _ hk => trivial))); (case aS => exact (below_size z143_)); (case aL => have := LMc13.out; omega); intro v27 w16 ho hb hg hat; rw [← Ny26.out] at ho; have n_ := a3_ (blk_grown (g := gb23) (o := .cells #[.int .i64 ((rd_T99 l0 x8_1).f0), .slice A22_1 ((rd_T99 l0 x8_1).f1).length c22_1] 99 (0, 0)) (by (with_reducible repeat (first | refine blk_drewN ?_ _ | refine blk_drew ?_ | refine blk_alloc ?_ _)); refine blk_put (cs := #[.int .i64 ((rd_T99 l0 x8_1).f0), .slice none 0 0]) ?_ 1 _ rfl; (with_reducible repeat (first | refine blk_drewN ?_ _ | refine blk_drew ?_ | refine blk_alloc ?_ _)); refine blk_put (cs := #[.int .i64 0, .slice none 0 0]) ?_ 0 _ rfl; (with_reducible repeat (first | refine blk_drewN ?_ _ | refine blk_drew ?_ | refine blk_alloc ?_ _)); exact BK23.out) hg (Kd.R_ne HO_3.out BK23.out z77_)) (hb) (ho); clear BK23 HB HO_3; obtain ⟨BK23, HB, HO28⟩ := n_; clear ho hb hg hat))
   go_roundg k1
   case measure => have := HK1.out; omega
   case rel => exact ⟨(y26), (wrap64 (x8_1 + 1)), z110_, H', ⟨z120_⟩, ⟨by (with_reducible repeat (first | apply Kd.R_alloc | apply Kd.R_drewN | apply Kd.R_drew)); exact HO28.out⟩, ⟨z143_⟩⟩
  ·
   replace c12 := Bool.eq_false_iff.mpr c12; subst c12; have H1 := ff_ H; clear H; have H := H1; clear H1; obtain rfl := sj_ H; obtain ⟨p22, q22, ad22, A22_1, c22_1, e22, hx22_0, hx22_1, hl22_1, hi22_1⟩ := pq_ (at_T99 HR0.out x8_1); cases e22; replace hx22_0 := hc_ HB.out hx22_0; replace hx22_1 := hc_ HB.out hx22_1; have HR22_1 := A_ hi22_1; have HC22_1 := A_ hl22_1; clear hi22_1 hl22_1
   go_wp2_with (first | ((with_reducible refine gate_dst (N := 5) rfl ?_); (try (refine gate_guard (by rfl) ?_; dsimp only)); refine box_event ?hg (N := 5) ?hd (cs := #[.int .i64 0, .slice none 0 0]) (t := 99) ?hr ?_; (case hd => rfl); (case hg => rfl); (case hr => exact z78_); intro gb23 hg w17 hbox hb; have n_ := a5_ (Kd.R_below z29_ hb) (below_step z154_ hb) (hbox) ((z195_ : w.heap.size ≤ gb23)) ((z195_ : w.heap.size ≤ gb23)); clear HO_3 HB; obtain ⟨HO_3, HB, BK23, GW23, GE23⟩ := n_; clear hb hbox hg; obtain ⟨hcz18_0, hcz18_1, hfz18_0, hfz18_1⟩ := b2_ BK23.out) | (go_at_call 103; (with_reducible refine (f52.calls k1 _ _ ((rd_T99 l0 x8_1).f1) 120 false _ ?side1 HC22_1.out A11.out).mono ?_); (case side1 => exact Kd.C_below HR22_1.out z143_); rintro e w' ⟨rfl, ⟨nd, rfl⟩⟩))
   go_ret; exact ⟨z109_, z143_⟩
def f82.f (a0 : ByteArray) (a1 : Int) : Option (Bool) := if (a0.size : Int) > 0 then (some (decide ((a0.size : Int) ≤ a1))) else (some false)
theorem f82.calls (a0 : ByteArray) (a1 : Int) (r : Bool) (w : World) (h : f82.f a0 a1 = some r) :
  Calls Tryz.prog 74 #[.string a0, .int .i64 a1] w fun e w' => e = .returned (.bool r) ∧ Drawn0 w w' := by
 unfold f82.f at h; have H := h; clear h; revert H; refine i2_ (fun c3 H => ?_) fun c3 H => ?_
 ·
  have c3b0 := decide_eq_true c3; have c3b1 : decide (0 < a0.size) = true := decide_eq_true z131_; clear c3; obtain rfl := sj_ H; go_enter Tryz.func74, Tryz.ntmps74; go_wp2; go_ret; exact ⟨z110_, z175_⟩
 have c3b0 := decide_eq_false c3; have c3b1 : decide (0 < a0.size) = false := decide_eq_false z131_; clear c3; obtain rfl := sj_ H; go_enter Tryz.func74, Tryz.ntmps74; go_wp2; go_ret; exact ⟨z110_, z175_⟩
def f81.l0 : Nat → List Int → Int → List Int → Int → Int → Option (Bool)
 | 0, _, _, _, _, _ => none
 | k + 1, x0, x3, x6, x7, x8 => if x8 < x7 then (if 0 ≤ x8 then (if x8 < (x6.length : Int) then (if (rd x6 x8) ≤ x3 then (some false) else (f81.l0 k x0 (rd x6 x8) x6 x7 (wrap64 (x8 + 1)))) else (none)) else (none)) else (some (decide ((x0.length : Int) ≤ 2000)))
def f81.f (k : Nat) (l0 : List Int) : Option (Bool) := f81.l0 k l0 (-1) l0 (l0.length : Int) 0
theorem f81.calls (k : Nat) (A0 : Option Addr) (c0 : Nat) (l0 : List Int) (r : Bool) (w : World) (hr0 : Kd.C (Kd.int .i64) w A0 l0.length l0) (hc0 : l0.length ≤ c0) (h : f81.f k l0 = some r) :
  Calls Tryz.prog 145 #[.slice A0 l0.length c0] w fun e w' => e = .returned (.bool r) ∧ Drawn0 w w' := by
 have HR0 := A_ hr0; have HC0 := A_ hc0; clear hr0 hc0; unfold f81.f at h; have H := h; clear h; have H' := A_ H; clear H; go_enter Tryz.func145, Tryz.ntmps145; go_wp2
 go_loopg [3, 8] k (fun kq v3 v8 w' => ∃ (x3_1 : Int) (x8_1 : Int), v3 = .int .i64 x3_1 ∧ v8 = .int .i64 x8_1 ∧ Aside0 (f81.l0 kq l0 x3_1 l0 (l0.length : Int) x8_1 = some r) ∧ Aside0 (kq ≤ k) ∧ Drawn0 w w')
 case atStart => exact ⟨((-1)), (0), z110_, z110_, H', ⟨Nat.le_refl _⟩, z175_⟩
 case round =>
  clear H'; obtain ⟨x3_1, x8_1, rfl, rfl, HA, HK1, ⟨m1, rfl⟩⟩ := hrel
  cases gk with
  | zero => exact absurd HA.out (by simp [f81.l0])
  | succ k1 =>
  have H := HA.out; clear HA; simp only [f81.l0] at H; revert H; refine i1_ (fun c2b0 H => ?_) fun c2b0 H => ?_; rotate_left
  ·
   obtain rfl := sj_ H; go_wp2; go_ret; exact ⟨z110_, z175_⟩
  revert H; refine i3_ fun c3b0 H => ?_; revert H; refine i3_ fun c4b0 H => ?_; revert H; refine i1_ (fun c5b0 H => ?_) fun c5b0 H => ?_
  ·
   obtain rfl := sj_ H; obtain ⟨p10, q10, ad10, e10, hx10_0⟩ := pq_ (Kd.at_int HR0.out x8_1); cases e10; go_wp2; go_ret; exact ⟨z110_, z175_⟩
  have H' := A_ H; clear H; obtain ⟨p10, q10, ad10, e10, hx10_0⟩ := pq_ (Kd.at_int HR0.out x8_1); cases e10; go_wp2
  go_roundg k1
  case measure => have := HK1.out; omega
  case rel => exact ⟨(rd l0 x8_1), (wrap64 (x8_1 + 1)), z110_, z110_, H', ⟨z120_⟩, z175_⟩
def f59.l0 : Nat → List Int → List (S99) → Int → Int → Option (List Int)
 | 0, _, _, _, _ => none
 | k + 1, x3, x6, x7, x8 => if x8 < x7 then (if 0 ≤ x8 then (if x8 < (x6.length : Int) then (if x3.length < 17592186044416 then (f59.l0 k (x3 ++ [(rd_T99 x6 x8).f0]) x6 x7 (wrap64 (x8 + 1))) else (none)) else (none)) else (none)) else (some x3)
def f59.f (k : Nat) (l0 : List (S99)) : Option (List Int) := f59.l0 k ([] : List Int) l0 (l0.length : Int) 0
theorem f59.calls (k : Nat) (A0 : Option Addr) (c0 : Nat) (l0 : List (S99)) (r : List Int) (w : World) (hr0 : Kd.C k99 w A0 l0.length l0) (hc0 : l0.length ≤ c0) (h : f59.f k l0 = some r) :
  Calls Tryz.prog 106 #[.slice A0 l0.length c0] w fun e w' => ∃ v0_ : Value, e = .returned (v0_) ∧ Kd.R (Kd.int .i64) 3 w' w.heap.size (fun _ => True) v0_ r ∧ Below w.heap.size w w' := by
 have hu99 := Tryz.underlying99; have HR0 := A_ hr0; have HC0 := A_ hc0; clear hr0 hc0; have HB := A_ (Below.refl w.heap.size w); unfold f59.f at h; have H := h; clear h; have H' := A_ H; clear H; go_enter Tryz.func106, Tryz.ntmps106; go_wp2
 go_loopg [3, 8] k (fun kq v3 v8 w' => ∃ (x3_1 : List Int) (x8_1 : Int), v8 = .int .i64 x8_1 ∧ Aside0 (f59.l0 kq x3_1 l0 (l0.length : Int) x8_1 = some r) ∧ Aside0 (kq ≤ k) ∧ Aside0 (Kd.R (Kd.int .i64) 3 w' w.heap.size (fun _ => True) v3 x3_1) ∧ Aside0 (Below w.heap.size w w'))
 case atStart => exact ⟨(([] : List Int)), (0), z110_, H', ⟨Nat.le_refl _⟩, ⟨z105_⟩, ⟨z154_⟩⟩
 case round =>
  clear H'; obtain ⟨x3_1, x8_1, rfl, HA, HK1, HO_3, HB⟩ := hrel
  cases gk with
  | zero => exact absurd HA.out (by simp [f59.l0])
  | succ k1 =>
  have H := HA.out; clear HA; simp only [f59.l0] at H; revert H; refine i1_ (fun c2b0 H => ?_) fun c2b0 H => ?_; rotate_left
  ·
   obtain rfl := sj_ H; go_wp2; go_ret; exact ⟨_, z109_, z29_, z154_⟩
  revert H; refine i3_ fun c3b0 H => ?_; revert H; refine i3_ fun c4b0 H => ?_; revert H; refine i4_ fun c5 H => ?_; have LMc5 := A_ c5; clear c5; obtain ⟨y10, hy10⟩ : ∃ y_ : List Int, y_ = (x3_1 ++ [(rd_T99 l0 x8_1).f0]) := ⟨_, rfl⟩; replace H : (f59.l0 k1 y10 l0 (l0.length : Int) (wrap64 (x8_1 + 1))) = some r := z94_; have Ny10 := A_ hy10; clear hy10; have H' := A_ H; clear H; obtain ⟨p11, q11, ad11, A11_1, c11_1, e11, hx11_0, hx11_1, hl11_1, hi11_1⟩ := pq_ (at_T99 HR0.out x8_1); cases e11; replace hx11_0 := hc_ HB.out hx11_0; replace hx11_1 := hc_ HB.out hx11_1; have HR11_1 := A_ hi11_1; have HC11_1 := A_ hl11_1; clear hi11_1 hl11_1
  go_wp2_with (first | ((with_reducible refine gate_dst (N := 5) rfl ?_); refine box_event ?hg (N := 5) ?hd (cs := #[.int .i64 0, .slice none 0 0]) (t := 99) ?hr ?_; (case hd => rfl); (case hg => rfl); (case hr => exact z78_); intro gb12 hg w6 hbox hb; have n_ := a5_ (Kd.R_below z29_ hb) (below_step z154_ hb) (hbox) ((z195_ : w.heap.size ≤ gb12)) ((z195_ : w.heap.size ≤ gb12)); clear HO_3 HB; obtain ⟨HO_3, HB, BK12, GW12, GE12⟩ := n_; clear hb hbox hg; obtain ⟨hcz7_0, hcz7_1, hfz7_0, hfz7_1⟩ := b2_ BK12.out) | ((with_reducible refine gate_builtin (b := .append) (xs := #[.tmp 12, .tmp 15]) rfl ?_); at_builtin; refine Kd.R_append (Kd.int .i64) (w0 := w) w.heap.size rfl (.tmp 12) (.tmp 15) 42 3 (.int .i64 0) 8 rfl Tryz.underlying42 info3 rfl z77_ z131_ u3 x3_1 ((rd_T99 l0 x8_1).f0) [.int .i64 ((rd_T99 l0 x8_1).f0)] (fun _ => True) (fun _ => False) rfl z78_ ?aP (fun _ hk => hk.elim) ?aF ?aO ?aB ?aS ?aL ?_; (case aP => exact rfl); (case aB => exact z137_); (case aF => exact (fun _ _ => trivial)); (case aO => exact (by (with_reducible repeat (first | apply Kd.R_alloc | apply Kd.R_drewN | apply Kd.R_drew)); exact Kd.R_mono (Kd.R_far (p := ⟨gb12, 1, none⟩) (Kd.R_far (p := ⟨gb12, 0, none⟩) (Kd.R_types HO_3.out BK12.out z77_) (fun _ hk => hk.2) (.int .i64 ((rd_T99 l0 x8_1).f0))) (fun _ hk => hk.2) (.slice A11_1 ((rd_T99 l0 x8_1).f1).length c11_1)) (fun _ hk => trivial))); (case aS => exact (below_size z137_)); (case aL => have := LMc5.out; omega); intro v13 w8 ho hb hg hat; rw [← Ny10.out] at ho; have n_ := a3_ (blk_grown (g := gb12) (o := .cells #[.int .i64 ((rd_T99 l0 x8_1).f0), .slice A11_1 ((rd_T99 l0 x8_1).f1).length c11_1] 99 (0, 0)) (by (with_reducible repeat (first | refine blk_drewN ?_ _ | refine blk_drew ?_ | refine blk_alloc ?_ _)); refine blk_put (cs := #[.int .i64 ((rd_T99 l0 x8_1).f0), .slice none 0 0]) ?_ 1 _ rfl; (with_reducible repeat (first | refine blk_drewN ?_ _ | refine blk_drew ?_ | refine blk_alloc ?_ _)); refine blk_put (cs := #[.int .i64 0, .slice none 0 0]) ?_ 0 _ rfl; (with_reducible repeat (first | refine blk_drewN ?_ _ | refine blk_drew ?_ | refine blk_alloc ?_ _)); exact BK12.out) hg (Kd.R_ne HO_3.out BK12.out z77_)) (hb) (ho); clear BK12 HB HO_3; obtain ⟨BK12, HB, HO14⟩ := n_; clear ho hb hg hat))
  go_roundg k1
  case measure => have := HK1.out; omega
  case rel => exact ⟨(y10), (wrap64 (x8_1 + 1)), z110_, H', ⟨z120_⟩, ⟨by (with_reducible repeat (first | apply Kd.R_alloc | apply Kd.R_drewN | apply Kd.R_drew)); exact HO14.out⟩, ⟨z137_⟩⟩
def f102.f (k : Nat) (l0 : List (S99)) : Option (List Int) := (f44.f k l0).bind fun t10 => (if t10 = true then ((f59.f k l0).bind fun t11 => (some t11)) else (some ([] : List Int)))
theorem f102.calls (k : Nat) (A0 : Option Addr) (c0 : Nat) (l0 : List (S99)) (r : List Int) (w : World) (hr0 : Kd.C k99 w A0 l0.length l0) (hc0 : l0.length ≤ c0) (h : f102.f k l0 = some r) :
  Calls Tryz.prog 78 #[.slice A0 l0.length c0] w fun e w' => ∃ v0_ : Value, e = .returned (v0_) ∧ Kd.R (Kd.int .i64) 3 w' w.heap.size (fun _ => True) v0_ r ∧ Below w.heap.size w w' := by
 have HR0 := A_ hr0; have HC0 := A_ hc0; clear hr0 hc0; have HB := A_ (Below.refl w.heap.size w); unfold f102.f at h; have H := h; clear h; replace H := bm_ H; obtain ⟨t10, A20, H⟩ := H; have A2 := A_ A20; clear A20
 by_cases c3 : t10 = true
 ·
  subst c3; have H1 := tt_ H; clear H; have H := H1; clear H1; replace H := bm_ H; obtain ⟨t11, A40, H⟩ := H; have A4 := A_ A40; clear A40; obtain rfl := sj_ H; go_enter Tryz.func78, Tryz.ntmps78
  go_wp2_with (first | ((with_reducible refine gate_callee (f := 75) rfl ?_); refine gl_ (some 4) Tryz.func75 #[.slice A0 l0.length c0] ?_; (with_reducible refine (f44.calls k _ _ l0 true _ ?side1 HC0.out A2.out).mono ?_); (case side1 => exact z176_); rintro e w5 ⟨rfl, hb⟩; refine ⟨_, rfl, ?_⟩; replace HB := A_ (below_step z154_ hb); (try clear hb)) | ((with_reducible refine gate_callee (f := 106) rfl ?_); refine gl_ (some 7) Tryz.func106 #[.slice A0 l0.length c0] ?_; (with_reducible refine (f59.calls k _ _ l0 t11 _ ?side1 HC0.out A4.out).mono ?_); (case side1 => exact z158_); rintro e w6 ⟨v12, rfl, ho0, hb⟩; refine ⟨_, rfl, ?_⟩; have n_ := a2_ (Kd.R_lower ho0 (below_size z154_)) (below_step z154_ hb); clear HB; obtain ⟨HO13, HB⟩ := n_; (try clear hb); (try clear ho0)))
  go_ret; exact ⟨_, z109_, z8_, z154_⟩
 ·
  replace c3 := Bool.eq_false_iff.mpr c3; subst c3; have H1 := ff_ H; clear H; have H := H1; clear H1; obtain rfl := sj_ H; go_enter Tryz.func78, Tryz.ntmps78
  go_wp2_with (first | ((with_reducible refine gate_callee (f := 75) rfl ?_); refine gl_ (some 4) Tryz.func75 #[.slice A0 l0.length c0] ?_; (with_reducible refine (f44.calls k _ _ l0 false _ ?side1 HC0.out A2.out).mono ?_); (case side1 => exact z176_); rintro e w7 ⟨rfl, hb⟩; refine ⟨_, rfl, ?_⟩; replace HB := A_ (below_step z154_ hb); (try clear hb)))
  go_ret; exact ⟨_, z109_, z105_, z154_⟩
def f41.l0 : Nat → List ByteArray → List ByteArray → Int → Option (Bool)
 | 0, _, _, _ => none
 | k + 1, x0, x1, x5 => if x5 < (x0.length : Int) then (if 0 ≤ x5 then (if x5 < (x1.length : Int) then (if (rdOf ByteArray.empty x0 x5).toList = (rdOf ByteArray.empty x1 x5).toList then (f41.l0 k x0 x1 (wrap64 (x5 + 1))) else (some false)) else (none)) else (none)) else (some true)
def f41.f (k : Nat) (l0 : List ByteArray) (l1 : List ByteArray) : Option (Bool) := if (l0.length : Int) = (l1.length : Int) then (f41.l0 k l0 l1 0) else (some false)
theorem f41.calls (k : Nat) (A0 : Option Addr) (c0 : Nat) (l0 : List ByteArray) (A1 : Option Addr) (c1 : Nat) (l1 : List ByteArray) (r : Bool) (w : World) (hr0 : Kd.C Kd.string w A0 l0.length l0) (hc0 : l0.length ≤ c0) (hr1 : Kd.C Kd.string w A1 l1.length l1) (hc1 : l1.length ≤ c1) (h : f41.f k l0 l1 = some r) :
  Calls Tryz.prog 12 #[.slice A0 l0.length c0, .slice A1 l1.length c1] w fun e w' => e = .returned (.bool r) ∧ Drawn0 w w' := by
 have HR0 := A_ hr0; have HC0 := A_ hc0; clear hr0 hc0; have HR1 := A_ hr1; have HC1 := A_ hc1; clear hr1 hc1; unfold f41.f at h; have H := h; clear h; revert H; refine i2_ (fun c3 H => ?_) fun c3 H => ?_; rotate_left
 ·
  have c3b0 := beq_eq_false_iff_ne.mpr c3; have c3b1 := bne_iff_ne.mpr c3; have c3b2 : (l0.length == l1.length) = false := z113_; obtain rfl := sj_ H; go_enter Tryz.func12, Tryz.ntmps12; go_wp2
  repeat (go_quiet (fail); try go_wp2)
  go_ret; exact ⟨z110_, z175_⟩
 have c3b0 := beq_iff_eq.mpr c3; have c3b1 := bne_eq_false_iff_eq.mpr c3; have c3b2 : (l0.length == l1.length) = true := z113_; clear c3; have H' := A_ H; clear H; go_enter Tryz.func12, Tryz.ntmps12; go_wp2
 repeat (go_quiet (fail); try go_wp2)
 go_loopg [5] k (fun kq v5 w' => ∃ (x5_1 : Int), v5 = .int .i64 x5_1 ∧ Aside0 (f41.l0 kq l0 l1 x5_1 = some r) ∧ Aside0 (kq ≤ k) ∧ Drawn0 w w')
 case atStart => exact ⟨(0), z110_, H', ⟨Nat.le_refl _⟩, z175_⟩
 case round =>
  clear H'; (try clear c1); (try clear c3); (try clear c3b0); (try clear c3b1); (try clear c3b2); obtain ⟨x5_1, rfl, HA, HK1, ⟨m1, rfl⟩⟩ := hrel
  cases gk with
  | zero => exact absurd HA.out (by simp [f41.l0])
  | succ k1 =>
  have H := HA.out; clear HA; simp only [f41.l0] at H; revert H; refine i1_ (fun c4b0 H => ?_) fun c4b0 H => ?_; rotate_left
  ·
   obtain rfl := sj_ H; go_wp2
   repeat (go_quiet (fail); try go_wp2)
   go_ret; exact ⟨z110_, z175_⟩
  revert H; refine i3_ fun c5b0 H => ?_; revert H; refine i3_ fun c6b0 H => ?_; revert H; refine i2_ (fun c7 H => ?_) fun c7 H => ?_; rotate_left
  ·
   have c7b0 := beq_eq_false_iff_ne.mpr c7; have c7b1 := bne_iff_ne.mpr c7; obtain rfl := sj_ H; obtain ⟨p10, q10, ad10, e10, hx10_0⟩ := pq_ (Kd.at_string HR0.out x5_1); cases e10; obtain ⟨p11, q11, ad11, e11, hx11_0⟩ := pq_ (Kd.at_string HR1.out x5_1); cases e11; go_wp2
   repeat (go_quiet (fail); try go_wp2)
   go_ret; exact ⟨z110_, z175_⟩
  have c7b0 := beq_iff_eq.mpr c7; have c7b1 := bne_eq_false_iff_eq.mpr c7; clear c7; have H' := A_ H; clear H; obtain ⟨p10, q10, ad10, e10, hx10_0⟩ := pq_ (Kd.at_string HR0.out x5_1); cases e10; obtain ⟨p11, q11, ad11, e11, hx11_0⟩ := pq_ (Kd.at_string HR1.out x5_1); cases e11; go_wp2
  repeat (go_quiet (fail); try go_wp2)
  go_roundg k1
  case measure => have := HK1.out; omega
  case rel => exact ⟨(wrap64 (x5_1 + 1)), z110_, H', ⟨z120_⟩, z175_⟩
def f43.l0 : Nat → List ByteArray → List ByteArray → Int → Int → Option (Bool)
 | 0, _, _, _, _ => none
 | k + 1, x0, x5, x6, x7 => if x7 < x6 then (if 0 ≤ x7 then (if x7 < (x5.length : Int) then (if ((rdOf ByteArray.empty x5 x7).size : Int) < 1 then (some false) else (if ((rdOf ByteArray.empty x5 x7).size : Int) > 32 then (some false) else (if x7 > 0 then (if 0 ≤ (wrap64 (x7 - 1)) then (if (wrap64 (x7 - 1)) < (x0.length : Int) then (if ((Op.bytesLess ((rdOf ByteArray.empty x0 (wrap64 (x7 - 1))).toList) ((rdOf ByteArray.empty x5 x7).toList)) = true) then (f43.l0 k x0 x5 x6 (wrap64 (x7 + 1))) else (some false)) else (none)) else (none)) else (f43.l0 k x0 x5 x6 (wrap64 (x7 + 1)))))) else (none)) else (none)) else (some (decide ((x0.length : Int) ≤ 200)))
def f43.f (k : Nat) (l0 : List ByteArray) : Option (Bool) := f43.l0 k l0 l0 (l0.length : Int) 0
theorem f43.calls (k : Nat) (A0 : Option Addr) (c0 : Nat) (l0 : List ByteArray) (r : Bool) (w : World) (hr0 : Kd.C Kd.string w A0 l0.length l0) (hc0 : l0.length ≤ c0) (h : f43.f k l0 = some r) :
  Calls Tryz.prog 76 #[.slice A0 l0.length c0] w fun e w' => e = .returned (.bool r) ∧ Drawn0 w w' := by
 have HR0 := A_ hr0; have HC0 := A_ hc0; clear hr0 hc0; unfold f43.f at h; have H := h; clear h; have H' := A_ H; clear H; go_enter Tryz.func76, Tryz.ntmps76; go_wp2
 go_loopg [7] k (fun kq v7 w' => ∃ (x7_1 : Int), v7 = .int .i64 x7_1 ∧ Aside0 (f43.l0 kq l0 l0 (l0.length : Int) x7_1 = some r) ∧ Aside0 (kq ≤ k) ∧ Drawn0 w w')
 case atStart => exact ⟨(0), z110_, H', ⟨Nat.le_refl _⟩, z175_⟩
 case round =>
  clear H'; obtain ⟨x7_1, rfl, HA, HK1, ⟨m1, rfl⟩⟩ := hrel
  cases gk with
  | zero => exact absurd HA.out (by simp [f43.l0])
  | succ k1 =>
  have H := HA.out; clear HA; simp only [f43.l0] at H; revert H; refine i1_ (fun c2b0 H => ?_) fun c2b0 H => ?_; rotate_left
  ·
   obtain rfl := sj_ H; go_wp2; go_ret; exact ⟨z110_, z175_⟩
  revert H; refine i3_ fun c3b0 H => ?_; revert H; refine i3_ fun c4b0 H => ?_; revert H; refine i2_ (fun c5 H => ?_) fun c5 H => ?_
  ·
   have c5b0 := decide_eq_true c5; have c5b1 : decide ((rdOf ByteArray.empty l0 x7_1).size < 1) = true := decide_eq_true z131_; clear c5; obtain rfl := sj_ H; obtain ⟨p12, q12, ad12, e12, hx12_0⟩ := pq_ (Kd.at_string HR0.out x7_1); cases e12; go_wp2; go_ret; exact ⟨z110_, z175_⟩
  have c5b0 := decide_eq_false c5; have c5b1 : decide ((rdOf ByteArray.empty l0 x7_1).size < 1) = false := decide_eq_false z131_; clear c5; revert H; refine i2_ (fun c6 H => ?_) fun c6 H => ?_
  ·
   have c6b0 := decide_eq_true c6; have c6b1 : decide (32 < (rdOf ByteArray.empty l0 x7_1).size) = true := decide_eq_true z131_; clear c6; obtain rfl := sj_ H; obtain ⟨p12, q12, ad12, e12, hx12_0⟩ := pq_ (Kd.at_string HR0.out x7_1); cases e12; go_wp2; go_ret; exact ⟨z110_, z175_⟩
  have c6b0 := decide_eq_false c6; have c6b1 : decide (32 < (rdOf ByteArray.empty l0 x7_1).size) = false := decide_eq_false z131_; clear c6; revert H; refine i1_ (fun c7b0 H => ?_) fun c7b0 H => ?_; rotate_left
  ·
   have H' := A_ H; clear H; obtain ⟨p12, q12, ad12, e12, hx12_0⟩ := pq_ (Kd.at_string HR0.out x7_1); cases e12; go_wp2
   go_roundg k1
   case measure => have := HK1.out; omega
   case rel => exact ⟨(wrap64 (x7_1 + 1)), z110_, H', ⟨z120_⟩, z175_⟩
  obtain ⟨ji8, hji8⟩ : ∃ j_ : Int, (wrap64 (x7_1 - 1)) = j_ := ⟨_, rfl⟩
  replace H : (if 0 ≤ (ji8) then (if (ji8) < (l0.length : Int) then (if ((Op.bytesLess ((rdOf ByteArray.empty l0 (ji8)).toList) ((rdOf ByteArray.empty l0 x7_1).toList)) = true) then (f43.l0 k1 l0 l0 (l0.length : Int) (wrap64 (x7_1 + 1))) else (some false)) else (none)) else (none)) = some r := by first | (rw [hji8] at H; exact H) | (simp only [hji8] at H ⊢; exact H)
  have hji8w : (IntKind.i64.wrap (x7_1 - 1)) = ji8 := (i64_w _).trans hji8; revert H; refine i3_ fun c9b0 H => ?_; revert H; refine i3_ fun c10b0 H => ?_; revert H; refine i2_ (fun c11 H => ?_) fun c11 H => ?_; rotate_left
  ·
   have c11b0 : (Op.bytesLess ((rdOf ByteArray.empty l0 (ji8)).toList) ((rdOf ByteArray.empty l0 x7_1).toList)) = false := by simpa using c11
   clear c11; obtain rfl := sj_ H; obtain ⟨p12, q12, ad12, e12, hx12_0⟩ := pq_ (Kd.at_string HR0.out x7_1); cases e12; obtain ⟨p13, q13, ad13, e13, hx13_0⟩ := pq_ (Kd.at_string HR0.out (ji8)); obtain rfl : ad12 = ad13 := (by injection e13); go_wp2; go_ret; exact ⟨by first | rfl | (simp; done) | (simp only [← hji8] <;> (first | rfl | simp)) | (simp [*]; done), z175_⟩
  have c11b0 : (Op.bytesLess ((rdOf ByteArray.empty l0 (ji8)).toList) ((rdOf ByteArray.empty l0 x7_1).toList)) = true := c11; clear c11; have H' := A_ H; clear H; obtain ⟨p12, q12, ad12, e12, hx12_0⟩ := pq_ (Kd.at_string HR0.out x7_1); cases e12; obtain ⟨p13, q13, ad13, e13, hx13_0⟩ := pq_ (Kd.at_string HR0.out (ji8)); obtain rfl : ad12 = ad13 := (by injection e13); go_wp2
  go_roundg k1
  case measure => have := HK1.out; omega
  case rel => exact ⟨(wrap64 (x7_1 + 1)), z110_, H', ⟨z120_⟩, z175_⟩
def f103.f (a0 : ByteArray) : Option (Bool) := (f82.f a0 32).bind fun t10 => (some (!t10))
theorem f103.calls (a0 : ByteArray) (r : Bool) (w : World) (h : f103.f a0 = some r) :
  Calls Tryz.prog 73 #[.string a0] w fun e w' => e = .returned (.bool r) ∧ Drawn0 w w' := by
 unfold f103.f at h; have H := h; clear h; replace H := bm_ H; obtain ⟨t10, A20, H⟩ := H; have A2 := A_ A20; clear A20; obtain rfl := sj_ H; go_enter Tryz.func73, Tryz.ntmps73
 go_wp2_with (first | ((with_reducible refine gate_callee (f := 74) rfl ?_); refine gl_ (some 4) Tryz.func74 #[.string a0, .int .i64 32] ?_; (with_reducible refine (f82.calls a0 32 t10 _ A2.out).mono ?_); rintro e w' ⟨rfl, ⟨nd, rfl⟩⟩; refine ⟨_, rfl, ?_⟩))
 go_ret; exact ⟨z110_, z175_⟩
end Go.Proofs.YtbbmdakdghefnaaGreatDoor.T
namespace Go.Proofs.YtbbmdakdghefnaaGreatDoor.T
open Go.RowKit Go.Proofs.YtbbmdakdghefnaaGreatDoorW.PrintWords Go.Proofs.YtbbmdakdghefnaaGreatDoorW.PrintLast Go.Proofs.YtbbmdakdghefnaaGreatDoorW.PrintMore
attribute [local go_sem] max2_int min2_int max_two min_two max_three min_three max_four min_four
set_option linter.unusedVariables false
set_option linter.unusedSimpArgs false
mutual
def f13.l0 : Nat → List (S37) → Int → Option (Bool)
 | 0, _, _ => none
 | k + 1, x0, x3 => if x3 < (x0.length : Int) then (if 0 ≤ x3 then (if (((rd_T37 x0 x3).f1).length : Int) > 8 then (some false) else (f13.l1 k x0 x3 0)) else (none)) else (some true)
def f13.l1 : Nat → List (S37) → Int → Int → Option (Bool)
 | 0, _, _, _ => none
 | k + 1, x0, x3, x4 => if 0 ≤ x3 then (if x3 < (x0.length : Int) then (if x4 < (((rd_T37 x0 x3).f1).length : Int) then (if 0 ≤ x4 then (if ((rdOf ByteArray.empty ((rd_T37 x0 x3).f1) x4).size : Int) > 40 then (some false) else (f13.l1 k x0 x3 (wrap64 (x4 + 1)))) else (none)) else (f13.l0 k x0 (wrap64 (x3 + 1)))) else (none)) else (none)
end
def f13.f (k : Nat) (l0 : List (S37)) : Option (Bool) := if (l0.length : Int) > 14 then (some false) else (f13.l0 k l0 0)
theorem f13.calls (k : Nat) (A0 : Option Addr) (c0 : Nat) (l0 : List (S37)) (r : Bool) (w : World) (hr0 : Kd.C k37 w A0 l0.length l0) (hc0 : l0.length ≤ c0) (h : f13.f k l0 = some r) :
  Calls Tryz.prog 10 #[.slice A0 l0.length c0] w fun e w' => e = .returned (.bool r) ∧ Drawn0 w w' := by
 have HR0 := A_ hr0; have HC0 := A_ hc0; clear hr0 hc0; unfold f13.f at h; have H := h; clear h; revert H; refine i2_ (fun c2 H => ?_) fun c2 H => ?_
 ·
  have c2b0 := decide_eq_true c2; have c2b1 : decide (14 < l0.length) = true := decide_eq_true z131_; clear c2; obtain rfl := sj_ H; go_enter Tryz.func10, Tryz.ntmps10; go_wp2; go_ret; exact ⟨z110_, z175_⟩
 have c2b0 := decide_eq_false c2; have c2b1 : decide (14 < l0.length) = false := decide_eq_false z131_; clear c2; have H' := A_ H; clear H; go_enter Tryz.func10, Tryz.ntmps10; go_wp2
 go_loopg [3] k (fun kq v3 w' => ∃ (x3_1 : Int), v3 = .int .i64 x3_1 ∧ Aside0 (f13.l0 kq l0 x3_1 = some r) ∧ Aside0 (kq ≤ k) ∧ Drawn0 w w')
 case atStart => exact ⟨(0), z110_, H', ⟨Nat.le_refl _⟩, z175_⟩
 case round =>
  clear H'; (try clear c2); (try clear c2b0); (try clear c2b1); obtain ⟨x3_1, rfl, HA, HK1, ⟨m1, rfl⟩⟩ := hrel
  cases gk with
  | zero => exact absurd HA.out (by simp [f13.l0])
  | succ k1 =>
  have H := HA.out; clear HA; simp only [f13.l0] at H; revert H; refine i1_ (fun c3b0 H => ?_) fun c3b0 H => ?_; rotate_left
  ·
   obtain rfl := sj_ H; go_wp2; go_ret; exact ⟨z110_, z175_⟩
  revert H; refine i3_ fun c4b0 H => ?_; revert H; refine i2_ (fun c5 H => ?_) fun c5 H => ?_
  ·
   have c5b0 := decide_eq_true c5; have c5b1 : decide (8 < ((rd_T37 l0 x3_1).f1).length) = true := decide_eq_true z131_; clear c5; obtain rfl := sj_ H; obtain ⟨p11, q11, ad11, A11_1, c11_1, e11, hx11_0, hx11_1, hx11_2, hx11_3, hl11_1, hi11_1⟩ := pq_ (at_T37 HR0.out x3_1); cases e11; have HR11_1 := A_ hi11_1; have HC11_1 := A_ hl11_1; clear hi11_1 hl11_1; go_wp2; go_ret; exact ⟨z110_, z175_⟩
  have c5b0 := decide_eq_false c5; have c5b1 : decide (8 < ((rd_T37 l0 x3_1).f1).length) = false := decide_eq_false z131_; clear c5; have H' := A_ H; clear H; obtain ⟨p11, q11, ad11, A11_1, c11_1, e11, hx11_0, hx11_1, hx11_2, hx11_3, hl11_1, hi11_1⟩ := pq_ (at_T37 HR0.out x3_1); cases e11; have HR11_1 := A_ hi11_1; have HC11_1 := A_ hl11_1; clear hi11_1 hl11_1; go_wp2
  go_loopg [4] k1 (fun kq v4 w' => ∃ (x4_2 : Int), v4 = .int .i64 x4_2 ∧ Aside0 (f13.l1 kq l0 x3_1 x4_2 = some r) ∧ Aside0 (kq ≤ k1) ∧ Drawn0 w w')
  case atStart => exact ⟨(0), z110_, H', ⟨Nat.le_refl _⟩, z175_⟩
  case round =>
   clear H'; (try clear c2); (try clear c2b0); (try clear c2b1); (try clear c3); (try clear c3b0); (try clear c4); (try clear c4b0); (try clear c5); (try clear c5b0); (try clear c5b1); (try clear hx11_0); (try clear hx11_1); (try clear hx11_2); (try clear hx11_3); (try clear p11); (try clear q11); obtain ⟨x4_2, rfl, HA, HK2, ⟨m2, rfl⟩⟩ := hrel
   cases gk with
   | zero => exact absurd HA.out (by simp [f13.l1])
   | succ k2 =>
   have H := HA.out; clear HA; simp only [f13.l1] at H; revert H; refine i3_ fun c6b0 H => ?_; revert H; refine i3_ fun c7b0 H => ?_; revert H; refine i1_ (fun c8b0 H => ?_) fun c8b0 H => ?_; rotate_left
   ·
    have H' := A_ H; clear H; obtain ⟨p12, q12, ad12, A12_1, c12_1, e12, hx12_0, hx12_1, hx12_2, hx12_3, hl12_1, hi12_1⟩ := pq_ (at_T37 HR0.out x3_1); obtain rfl : ad11 = ad12 := (by injection e12); have HR12_1 := A_ hi12_1; have HC12_1 := A_ hl12_1; clear hi12_1 hl12_1; go_wp2
    go_roundg k2
    case measure => have := HK1.out; have := HK2.out; omega
    case rel => exact ⟨(wrap64 (x3_1 + 1)), z110_, H', ⟨z119_⟩, z175_⟩
   revert H; refine i3_ fun c9b0 H => ?_; revert H; refine i2_ (fun c10 H => ?_) fun c10 H => ?_
   ·
    have c10b0 := decide_eq_true c10; have c10b1 : decide (40 < (rdOf ByteArray.empty ((rd_T37 l0 x3_1).f1) x4_2).size) = true := decide_eq_true z131_; clear c10; obtain rfl := sj_ H; obtain ⟨p12, q12, ad12, A12_1, c12_1, e12, hx12_0, hx12_1, hx12_2, hx12_3, hl12_1, hi12_1⟩ := pq_ (at_T37 HR0.out x3_1); obtain rfl : ad11 = ad12 := (by injection e12); have HR12_1 := A_ hi12_1; have HC12_1 := A_ hl12_1; clear hi12_1 hl12_1; obtain ⟨p13, q13, ad13, A13_1, c13_1, e13, hx13_0, hx13_1, hx13_2, hx13_3, hl13_1, hi13_1⟩ := pq_ (at_T37 HR0.out x3_1); obtain rfl : ad11 = ad13 := (by injection e13); have HR13_1 := A_ hi13_1; have HC13_1 := A_ hl13_1; clear hi13_1 hl13_1; have ea_ := Option.some.inj (hx12_1.symm.trans hx13_1)
    injection ea_ with ea_ en_ ec_
    subst ea_; subst ec_; clear en_; obtain ⟨p14, q14, ad14, e14, hx14_0⟩ := pq_ (Kd.at_string HR13_1.out x4_2); cases e14; go_wp2; go_ret; exact ⟨z110_, z175_⟩
   have c10b0 := decide_eq_false c10; have c10b1 : decide (40 < (rdOf ByteArray.empty ((rd_T37 l0 x3_1).f1) x4_2).size) = false := decide_eq_false z131_; clear c10; have H' := A_ H; clear H; obtain ⟨p12, q12, ad12, A12_1, c12_1, e12, hx12_0, hx12_1, hx12_2, hx12_3, hl12_1, hi12_1⟩ := pq_ (at_T37 HR0.out x3_1); obtain rfl : ad11 = ad12 := (by injection e12); have HR12_1 := A_ hi12_1; have HC12_1 := A_ hl12_1; clear hi12_1 hl12_1; obtain ⟨p13, q13, ad13, A13_1, c13_1, e13, hx13_0, hx13_1, hx13_2, hx13_3, hl13_1, hi13_1⟩ := pq_ (at_T37 HR0.out x3_1); obtain rfl : ad11 = ad13 := (by injection e13); have HR13_1 := A_ hi13_1; have HC13_1 := A_ hl13_1; clear hi13_1 hl13_1; have ea_ := Option.some.inj (hx12_1.symm.trans hx13_1)
   injection ea_ with ea_ en_ ec_
   subst ea_; subst ec_; clear en_; obtain ⟨p14, q14, ad14, e14, hx14_0⟩ := pq_ (Kd.at_string HR13_1.out x4_2); cases e14; go_wp2
   go_roundg k2
   case measure => have := HK1.out; have := HK2.out; omega
   case rel => exact ⟨(wrap64 (x4_2 + 1)), z110_, H', ⟨z119_⟩, z175_⟩
def f30.l0 : Nat → List ByteArray → Int → Option (Bool)
 | 0, _, _ => none
 | k + 1, x0, x3 => if x3 < (x0.length : Int) then (if 0 ≤ x3 then (if ((rdOf ByteArray.empty x0 x3).size : Int) > 40 then (some false) else (f30.l0 k x0 (wrap64 (x3 + 1)))) else (none)) else (some true)
def f30.f (k : Nat) (l0 : List ByteArray) : Option (Bool) := if (l0.length : Int) > 130 then (some false) else (f30.l0 k l0 0)
theorem f30.calls (k : Nat) (A0 : Option Addr) (c0 : Nat) (l0 : List ByteArray) (r : Bool) (w : World) (hr0 : Kd.C Kd.string w A0 l0.length l0) (hc0 : l0.length ≤ c0) (h : f30.f k l0 = some r) :
  Calls Tryz.prog 11 #[.slice A0 l0.length c0] w fun e w' => e = .returned (.bool r) ∧ Drawn0 w w' := by
 have HR0 := A_ hr0; have HC0 := A_ hc0; clear hr0 hc0; unfold f30.f at h; have H := h; clear h; revert H; refine i2_ (fun c2 H => ?_) fun c2 H => ?_
 ·
  have c2b0 := decide_eq_true c2; have c2b1 : decide (130 < l0.length) = true := decide_eq_true z131_; clear c2; obtain rfl := sj_ H; go_enter Tryz.func11, Tryz.ntmps11; go_wp2; go_ret; exact ⟨z110_, z175_⟩
 have c2b0 := decide_eq_false c2; have c2b1 : decide (130 < l0.length) = false := decide_eq_false z131_; clear c2; have H' := A_ H; clear H; go_enter Tryz.func11, Tryz.ntmps11; go_wp2
 go_loopg [3] k (fun kq v3 w' => ∃ (x3_1 : Int), v3 = .int .i64 x3_1 ∧ Aside0 (f30.l0 kq l0 x3_1 = some r) ∧ Aside0 (kq ≤ k) ∧ Drawn0 w w')
 case atStart => exact ⟨(0), z110_, H', ⟨Nat.le_refl _⟩, z175_⟩
 case round =>
  clear H'; (try clear c2); (try clear c2b0); (try clear c2b1); obtain ⟨x3_1, rfl, HA, HK1, ⟨m1, rfl⟩⟩ := hrel
  cases gk with
  | zero => exact absurd HA.out (by simp [f30.l0])
  | succ k1 =>
  have H := HA.out; clear HA; simp only [f30.l0] at H; revert H; refine i1_ (fun c3b0 H => ?_) fun c3b0 H => ?_; rotate_left
  ·
   obtain rfl := sj_ H; go_wp2; go_ret; exact ⟨z110_, z175_⟩
  revert H; refine i3_ fun c4b0 H => ?_; revert H; refine i2_ (fun c5 H => ?_) fun c5 H => ?_
  ·
   have c5b0 := decide_eq_true c5; have c5b1 : decide (40 < (rdOf ByteArray.empty l0 x3_1).size) = true := decide_eq_true z131_; clear c5; obtain rfl := sj_ H; obtain ⟨p10, q10, ad10, e10, hx10_0⟩ := pq_ (Kd.at_string HR0.out x3_1); cases e10; go_wp2; go_ret; exact ⟨z110_, z175_⟩
  have c5b0 := decide_eq_false c5; have c5b1 : decide (40 < (rdOf ByteArray.empty l0 x3_1).size) = false := decide_eq_false z131_; clear c5; have H' := A_ H; clear H; obtain ⟨p10, q10, ad10, e10, hx10_0⟩ := pq_ (Kd.at_string HR0.out x3_1); cases e10; go_wp2
  go_roundg k1
  case measure => have := HK1.out; omega
  case rel => exact ⟨(wrap64 (x3_1 + 1)), z110_, H', ⟨z120_⟩, z175_⟩
theorem R_noIter {α : Type} {d : Kd α} {e : Nat} {w : World} {base : Nat} {ok : Nat → Prop} {v : Value} {xs : List α} (h : d.R e w base ok v xs) {it : Nat} {s : ByteArray} {p : Nat} (hk : w.heap[it]? = some (.stringIter s p)) : d.R e w base (fun k => ok k ∧ k ≠ it) v xs :=
 Kd.R_mono (Kd.R_bound h) (fun k hj => ⟨hj.1, by
  obtain ⟨_, _, _, q, hq, cells', hc⟩ := hj; rintro rfl; rw [hc] at hk
  cases hk⟩)
theorem R_iterAt {α : Type} {d : Kd α} {e : Nat} {w : World} {base : Nat} {ok : Nat → Prop} {v : Value} {xs : List α} (h : d.R e w base ok v xs) {it : Nat} {s : ByteArray} {p : Nat} (hk : w.heap[it]? = some (.stringIter s p)) (p' : Nat) : d.R e (w.iterAt it s p') base ok v xs :=
 Kd.R_mono (Kd.R_step (R_noIter h hk) (fun j hj _ => Lib.iterAt_other w it j s p' hj.2)) (fun _ h => h.1)
def f56.l0 : Nat → ByteArray → List ByteArray → List Int → Nat → Option (List ByteArray)
 | 0, _, _, _, _ => none
 | k + 1, s, x3, x4, p => if p < s.size then ((f87.f ((Utf8.decode s p).1 : Int)).bind fun t => if t = true then ((f101.f ((Utf8.decode s p).1 : Int)).bind fun c => (f88.f k x4 c).bind fun y => f56.l0 k s x3 y (p + (Utf8.decode s p).2)) else (if (x4.length : Int) > 0 then (if x3.length < 8796093022208 then f56.l0 k s (x3 ++ [strOfNums x4]) ([] : List Int) (p + (Utf8.decode s p).2) else none) else f56.l0 k s x3 x4 (p + (Utf8.decode s p).2))) else some x3
def f56.f (k : Nat) (a0 : ByteArray) : Option (List ByteArray) := if a0.size + 1 ≤ 9223372036854775807 then f56.l0 k (a0 ++ (⟨#[32]⟩ : ByteArray)) ([] : List ByteArray) ([] : List Int) 0 else none
theorem Below.iterAt_ {B : Nat} {a w : World} (h : Below B a w) {it : Nat} (hk : B ≤ it) (s : ByteArray) (p : Nat) : Below B a (w.iterAt it s p) := Lib.below_iterAt h hk s p
set_option maxHeartbeats 1000000 in
theorem f56.calls (k : Nat) (a0 : ByteArray) (r : List ByteArray) (w : World) (h : f56.f k a0 = some r) :
  Calls Tryz.prog 137 #[.string a0] w fun e w' => ∃ v0_ : Value, e = .returned (v0_) ∧ Kd.R Kd.string 9 w' w.heap.size (fun _ => True) v0_ r ∧ Below w.heap.size w w' := by
 unfold f56.f at h
 by_cases hs : a0.size + 1 ≤ 9223372036854775807
 ·
  rw [if_pos hs] at h; have hs1 : decide (a0.size + 1 ≤ 9223372036854775807) = true := decide_eq_true hs; have hs2 : a0.size < 9223372036854775807 := z131_; have H' := A_ h; clear h; go_enter Tryz.func137, Tryz.ntmps137; go_wp2
  go_loopg [3, 4] k (fun kq v3 v4 w' => ∃ (x3 : List ByteArray) (x4 : List Int) (p : Nat), Aside0 (f56.l0 kq (a0 ++ (⟨#[32]⟩ : ByteArray)) x3 x4 p = some r) ∧ Aside0 (w'.heap[w.heap.size]? = some (.stringIter (a0 ++ (⟨#[32]⟩ : ByteArray)) p)) ∧ Aside0 (Kd.R Kd.string 9 w' w.heap.size (fun _ => True) v3 x3) ∧ Aside0 (Kd.R (Kd.int .u8) 5 w' w.heap.size (fun _ => True) v4 x4) ∧ Aside0 (Below w.heap.size w w'))
  case atStart => exact ⟨[], [], 0, H', ⟨heap_alloc_new w (.stringIter (a0 ++ (⟨#[32]⟩ : ByteArray)) 0)⟩, ⟨Kd.R_nil _ _ _ _ _⟩, ⟨Kd.R_nil _ _ _ _ _⟩, ⟨below_alloc (Below.refl _ _) _⟩⟩
  case round =>
   clear H'; obtain ⟨x3, x4, p, HA, HI, HO3, HO4, HB⟩ := hrel
   cases gk with
   | zero => exact absurd HA.out (by simp [f56.l0])
   | succ k1 =>
   have H := HA.out; clear HA; simp only [f56.l0] at H; revert H; refine i2_ (fun c5 H => ?_) fun c5 H => ?_; rotate_left
   ·
    obtain rfl := sj_ H; have hnx : ∀ ty, (Instr.next (.pointer (some ⟨w.heap.size, 0, none⟩)) true ty).run Tryz.prog wr = _ := fun ty => Lib.run_next_end_at wr w.heap.size _ p ty HI.out c5; go_wp2; go_ret; exact ⟨_, rfl, HO3.out, HB.out⟩
   have hnx : ∀ ty, (Instr.next (.pointer (some ⟨w.heap.size, 0, none⟩)) true ty).run Tryz.prog wr = _ := fun ty => Lib.run_next_any_at wr w.heap.size _ p ty HI.out c5; have n_ := a4_ (R_iterAt HO3.out HI.out (p + (Utf8.decode (a0 ++ (⟨#[32]⟩ : ByteArray)) p).2)) (R_iterAt HO4.out HI.out (p + (Utf8.decode (a0 ++ (⟨#[32]⟩ : ByteArray)) p).2)) (Below.iterAt_ HB.out (Nat.le_refl _) (a0 ++ (⟨#[32]⟩ : ByteArray)) (p + (Utf8.decode (a0 ++ (⟨#[32]⟩ : ByteArray)) p).2)) (Lib.iterAt_heap wr w.heap.size _ p (p + (Utf8.decode (a0 ++ (⟨#[32]⟩ : ByteArray)) p).2) HI.out); clear HO3 HO4 HB HI; obtain ⟨HO3, HO4, HB, HI⟩ := n_; generalize (wr.iterAt w.heap.size (a0 ++ (⟨#[32]⟩ : ByteArray)) (p + (Utf8.decode (a0 ++ (⟨#[32]⟩ : ByteArray)) p).2)) = w1 at *; generalize p + (Utf8.decode (a0 ++ (⟨#[32]⟩ : ByteArray)) p).2 = p1 at *; generalize (Utf8.decode (a0 ++ (⟨#[32]⟩ : ByteArray)) p).1 = cc at *; clear c5; replace H := bm_ H; obtain ⟨t, A10, H⟩ := H; have A1 := A_ A10; clear A10; obtain ⟨Ao3, co3, eo3⟩ := Kd.R_slice HO3.out; subst eo3; obtain ⟨Ao4, co4, eo4⟩ := Kd.R_slice HO4.out; subst eo4
   cases t with
   | true =>
    replace H := bm_ H; obtain ⟨c, A20, H⟩ := H; replace H := bm_ H; obtain ⟨y, A30, H⟩ := H; have A2 := A_ A20; clear A20; have A3 := A_ A30; clear A30; have H' := A_ H; clear H
    go_wp2_with (first
     | (go_at_call 178; (with_reducible refine (f87.calls _ true _ A1.out).mono ?_); rintro e w' ⟨rfl, ⟨nd, rfl⟩⟩)
     | (go_at_call 180; (with_reducible refine (f101.calls _ c _ A2.out).mono ?_); rintro e w' ⟨rfl, ⟨nd, rfl⟩⟩))
    (with_reducible refine (f88.calls k1 (fun k_ => some k_ = (.slice Ao4 x4.length co4 : Value).ownBlock) (.slice Ao4 x4.length co4) x4 c y w _ ?side1 ?side2 A3.out).mono ?_); (case side1 => repeat (with_reducible first | exact HB.out | apply pw_below_drewN | apply below_drew1)); (case side2 => exact Kd.R_tight rfl (Kd.R_drewN HO4.out _)); rintro e w2 ⟨v2, rfl, ho, hb, hkp⟩; have n0_ := A_ (Kd.R_mono ho (fun _ _ => trivial)); have n1_ := A_ hb; have n2_ := A_ (blk_kept (blk_drewN HI.out _) hkp (fun e_ => by have h_ := (Kd.R_bound HO4.out).1 _ e_.symm; obtain ⟨_, _, _, q_, _, cs_, hc_⟩ := h_; have h2_ := HI.out; rw [hc_] at h2_; cases h2_)); have n3_ := A_ (Kd.R_mono (Kd.R_kept (S := fun k_ => some k_ = (.slice Ao4 x4.length co4 : Value).ownBlock) (Kd.R_drewN (Kd.R_apartR HO3.out HO4.out z77_) _) hkp (fun k_ h_ e_ => h_.2 e_)) (fun _ h_ => h_.1)); clear HO3 HO4 HB HI; have HO3 := n3_; have HO4 := n0_; have HB := n1_; have HI := n2_; clear n0_ n1_ n2_ n3_ ho hb hkp; go_wp2
    go_roundg k1
    case measure => omega
    case rel => exact ⟨x3, y, p1, H', HI, HO3, HO4, HB⟩
   | false =>
    simp only [Bool.false_eq_true, if_false] at H; revert H; refine i2_ (fun c6 H => ?_) fun c6 H => ?_; rotate_left
    ·
     have c6b0 := decide_eq_false c6; have c6b1 : decide (0 < x4.length) = false := decide_eq_false z131_; clear c6; have H' := A_ H; clear H
     go_wp2_with (go_at_call 178; (with_reducible refine (f87.calls _ false _ A1.out).mono ?_); rintro e w' ⟨rfl, ⟨nd, rfl⟩⟩)
     go_roundg k1
     case measure => omega
     case rel => exact ⟨x3, x4, p1, H', HI, ⟨Kd.R_drewN HO3.out _⟩, ⟨Kd.R_drewN HO4.out _⟩, ⟨pw_below_drewN HB.out _⟩⟩
    have c6b0 := decide_eq_true c6; have c6b1 : decide (0 < x4.length) = true := decide_eq_true z131_; clear c6; revert H; refine i4_ fun c7 H => ?_; have LM := A_ c7; clear c7; have H' := A_ H; clear H; have hcv := own_string (P := Tryz.prog) Tryz.underlying152 Tryz.underlying5 Tryz.underlying9 (Kd.own_of_R HO4.out)
    go_wp2_with (first
     | (go_at_call 178; (with_reducible refine (f87.calls _ false _ A1.out).mono ?_); rintro e w' ⟨rfl, ⟨nd, rfl⟩⟩; have hcv := own_string (P := Tryz.prog) (w := w1.drewN nd) Tryz.underlying152 Tryz.underlying5 Tryz.underlying9 (Kd.own_of_R (Kd.R_drewN HO4.out nd)))
     | ((with_reducible refine gate_builtin (b := .append) (xs := #[.tmp 22, .tmp 25]) rfl ?_); at_builtin; refine Kd.R_append Kd.string (w0 := w) w.heap.size rfl (.tmp 22) (.tmp 25) 23 9 (.string ⟨#[]⟩) 16 rfl Tryz.underlying23 info9 rfl z77_ z131_ (.slice Ao3 x3.length co3) x3 (strOfNums x4) [.string (strOfNums x4)] (fun _ => True) (fun _ => False) rfl rfl ?aP (fun _ hk => hk.elim) ?aF ?aO ?aB ?aS ?aL ?_; (case aP => exact rfl); (case aB => exact z179_); (case aF => exact (fun _ _ => trivial)); (case aO => exact (by (with_reducible repeat (first | apply Kd.R_alloc | apply Kd.R_drewN | apply Kd.R_drew)); with_reducible exact HO3.out)); (case aS => exact (below_size z179_)); (case aL => have := LM.out; omega); intro v11 w32 ho hb hg hat; have n0_ := A_ hb; have n1_ := A_ ho; have n2_ := A_ (hg.block w.heap.size (by have := (Array.getElem?_eq_some_iff.1 HI.out).1; simp; omega) (fun e_ => by have h_ := (Kd.R_bound HO3.out).1 _ e_.symm; obtain ⟨_, _, _, q_, _, cs_, hc_⟩ := h_; have h2_ := HI.out; rw [hc_] at h2_; cases h2_)); clear HB HO3; have HB := n0_; have HO3 := n1_; clear n0_ n1_ ho hb hg hat))
    go_roundg k1
    case measure => omega
    case rel => exact ⟨_, _, p1, H', ⟨n2_.out.trans (by first | exact HI.out | (simp only [World.heap_drewN]; exact HI.out) | (rw [alloc_old] <;> first | exact HI.out | (have := (Array.getElem?_eq_some_iff.1 HI.out).1; simpa using this)))⟩, HO3, ⟨Kd.R_nil _ _ _ _ _⟩, HB⟩
 ·
  rw [if_neg hs] at h; exact absurd h z183_
def f36.l0 : Nat → List ByteArray → ByteArray → Int → Option (Bool)
 | 0, _, _, _ => none
 | k + 1, x0, x1, x5 => if x5 < (x0.length : Int) then (if 0 ≤ x5 then (if (rdOf ByteArray.empty x0 x5).toList = x1.toList then (some true) else (f36.l0 k x0 x1 (wrap64 (x5 + 1)))) else (none)) else (some false)
def f36.f (k : Nat) (l0 : List ByteArray) (a1 : ByteArray) : Option (Bool) := f36.l0 k l0 a1 0
theorem f36.calls (k : Nat) (A0 : Option Addr) (c0 : Nat) (l0 : List ByteArray) (a1 : ByteArray) (r : Bool) (w : World) (hr0 : Kd.C Kd.string w A0 l0.length l0) (hc0 : l0.length ≤ c0) (h : f36.f k l0 a1 = some r) :
  Calls Tryz.prog 23 #[.slice A0 l0.length c0, .string a1] w fun e w' => e = .returned (.bool r) ∧ Drawn0 w w' := by
 have HR0 := A_ hr0; have HC0 := A_ hc0; clear hr0 hc0; unfold f36.f at h; have H := h; clear h; have H' := A_ H; clear H; go_enter Tryz.func23, Tryz.ntmps23; go_wp2
 go_loopg [5] k (fun kq v5 w' => ∃ (x5_1 : Int), v5 = .int .i64 x5_1 ∧ Aside0 (f36.l0 kq l0 a1 x5_1 = some r) ∧ Aside0 (kq ≤ k) ∧ Drawn0 w w')
 case atStart => exact ⟨(0), z110_, H', ⟨Nat.le_refl _⟩, z175_⟩
 case round =>
  clear H'; obtain ⟨x5_1, rfl, HA, HK1, ⟨m1, rfl⟩⟩ := hrel
  cases gk with
  | zero => exact absurd HA.out (by simp [f36.l0])
  | succ k1 =>
  have H := HA.out; clear HA; simp only [f36.l0] at H; revert H; refine i1_ (fun c3b0 H => ?_) fun c3b0 H => ?_; rotate_left
  ·
   obtain rfl := sj_ H; go_wp2; go_ret; exact ⟨z110_, z175_⟩
  revert H; refine i3_ fun c4b0 H => ?_; revert H; refine i2_ (fun c5 H => ?_) fun c5 H => ?_
  ·
   have c5b0 := beq_iff_eq.mpr c5; have c5b1 := bne_eq_false_iff_eq.mpr c5; clear c5; obtain rfl := sj_ H; obtain ⟨p10, q10, ad10, e10, hx10_0⟩ := pq_ (Kd.at_string HR0.out x5_1); cases e10; go_wp2; go_ret; exact ⟨z110_, z175_⟩
  have c5b0 := beq_eq_false_iff_ne.mpr c5; have c5b1 := bne_iff_ne.mpr c5; have H' := A_ H; clear H; obtain ⟨p10, q10, ad10, e10, hx10_0⟩ := pq_ (Kd.at_string HR0.out x5_1); cases e10; go_wp2
  go_roundg k1
  case measure => have := HK1.out; omega
  case rel => exact ⟨(wrap64 (x5_1 + 1)), z110_, H', ⟨z120_⟩, z175_⟩
end Go.Proofs.YtbbmdakdghefnaaGreatDoor.T
