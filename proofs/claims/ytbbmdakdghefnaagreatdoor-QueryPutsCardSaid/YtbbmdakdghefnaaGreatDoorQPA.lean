import Derived.Test.YtbbmdakdghefnaaGreatDoorQPV
import Derived.Test.YtbbmdakdghefnaaGreatDoorProg
import Derived.Lib.OthersKept
/- Texts of this claim, laid together by a program (merge.py): Tx0, Sl, Tx1, Tx2, Tx11, Tx12, Tx13, Tx14, Tx15, Wd, Tx16, Tx17, Tx18. -/
set_option maxHeartbeats 8000000
set_option maxRecDepth 100000
namespace Go.Proofs.YtbbmdakdghefnaaGreatDoor.T
open Go.RowKit Go.Proofs.YtbbmdakdghefnaaGreatDoorW.PrintWords Go.Proofs.YtbbmdakdghefnaaGreatDoorW.PrintLast Go.Proofs.YtbbmdakdghefnaaGreatDoorW.PrintMore
attribute [local go_sem] max2_int min2_int max_two min_two max_three min_three max_four min_four
set_option linter.unusedVariables false
set_option linter.unusedSimpArgs false
theorem info3 : (Tryz.prog.info? 3).map (fun i => (i.zero, i.size, i.bytes)) = some (some (.int .i64 0), 1, 8) := by kernel_rfl
theorem info4 : (Tryz.prog.info? 4).map (fun i => (i.zero, i.size, i.bytes)) = some (some (.bool false), 1, 1) := by kernel_rfl
theorem info5 : (Tryz.prog.info? 5).map (fun i => (i.zero, i.size, i.bytes)) = some (some (.int .u8 0), 1, 1) := by kernel_rfl
theorem info9 : (Tryz.prog.info? 9).map (fun i => (i.zero, i.size, i.bytes)) = some (some (.string ⟨#[]⟩), 1, 16) := by kernel_rfl
theorem info23 : (Tryz.prog.info? 23).map (fun i => (i.zero, i.size, i.bytes)) = some (some (.slice none 0 0), 1, 24) := by kernel_rfl
theorem info37 : (Tryz.prog.info? 37).map (fun i => (i.zero, i.size, i.bytes)) = some (some (.agg #[(.int .i64 0), (.slice none 0 0), (.int .i64 0), (.int .i64 0)]), 4, 48) := by kernel_rfl
theorem info42 : (Tryz.prog.info? 42).map (fun i => (i.zero, i.size, i.bytes)) = some (some (.slice none 0 0), 1, 24) := by kernel_rfl
theorem info55 : (Tryz.prog.info? 55).map (fun i => (i.zero, i.size, i.bytes)) = some (some (.agg #[(.string ⟨#[]⟩), (.int .i64 0), (.slice none 0 0)]), 3, 48) := by kernel_rfl
theorem info99 : (Tryz.prog.info? 99).map (fun i => (i.zero, i.size, i.bytes)) = some (some (.agg #[(.int .i64 0), (.slice none 0 0)]), 2, 32) := by kernel_rfl
-- the values' own types
def rd_L3 (xs : List (List ByteArray)) (i : Int) : (List ByteArray) := xs.getD i.toNat ([] : List ByteArray)
theorem at_L3 {w : World} {A : Option Addr} {n : Nat} {xs : List (List ByteArray)} (h : Kd.C (Kd.slice 9 Kd.string) w A n xs) (i : Int) (h0 : 0 ≤ i) (h1 : i < n) : ∃ ad A0 c0, A = some ad ∧ w.cell? (ad.add i.toNat) = some (.slice A0 (rd_L3 xs i).length c0) ∧ (rd_L3 xs i).length ≤ c0 ∧ Kd.string.C w A0 (rd_L3 xs i).length (rd_L3 xs i) := by
 obtain ⟨ad, c, e, _, hK, hc0⟩ := Kd.C_get h ([] : List ByteArray) i h0 h1; have hc : ∀ j u, c[j]? = some u → w.cell? (ad.add (i.toNat * 1 + j)) = some u := hc0; obtain ⟨A0, c0, rfl, l0, g0⟩ := hK; exact ⟨ad, A0, c0, e, z158_, l0, g0⟩
def rd_L5 (xs : List (List Int)) (i : Int) : (List Int) := xs.getD i.toNat ([] : List Int)
theorem at_L5 {w : World} {A : Option Addr} {n : Nat} {xs : List (List Int)} (h : Kd.C (Kd.slice 3 (Kd.int .i64)) w A n xs) (i : Int) (h0 : 0 ≤ i) (h1 : i < n) : ∃ ad A0 c0, A = some ad ∧ w.cell? (ad.add i.toNat) = some (.slice A0 (rd_L5 xs i).length c0) ∧ (rd_L5 xs i).length ≤ c0 ∧ (Kd.int .i64).C w A0 (rd_L5 xs i).length (rd_L5 xs i) := by
 obtain ⟨ad, c, e, _, hK, hc0⟩ := Kd.C_get h ([] : List Int) i h0 h1; have hc : ∀ j u, c[j]? = some u → w.cell? (ad.add (i.toNat * 1 + j)) = some u := hc0; obtain ⟨A0, c0, rfl, l0, g0⟩ := hK; exact ⟨ad, A0, c0, e, z158_, l0, g0⟩
structure S99 where
 f0 : Int
 f1 : (List Int)
def z99 : S99 := ⟨(0 : Int), ([] : List Int)⟩
def k99 : Kd S99 := Kd.iso (Kd.pair (Kd.int .i64) (Kd.slice 3 (Kd.int .i64))) (fun x : S99 => (x.f0, x.f1))
theorem k99_open {w : World} {x : S99} {cs : List Value} (h : k99.K w x cs) : ∃ A1 c1, cs = [.int .i64 x.f0, .slice A1 x.f1.length c1] ∧ x.f1.length ≤ c1 ∧ (Kd.int .i64).C w A1 x.f1.length x.f1 := by
 obtain ⟨_, _, rfl, rfl, ⟨A1, c1, rfl, l1, g1⟩⟩ := h; exact ⟨A1, c1, rfl, l1, g1⟩
theorem k99_mkM (w : World) (base : Nat) (ok : Nat → Prop) (x : S99) {v1 : Value} (g1 : (Kd.int .i64).R 3 w base ok v1 x.f1) : k99.M w base ok x [.int .i64 x.f0, v1] := ⟨[.int .i64 x.f0], [v1], rfl, rfl, ⟨v1, rfl, g1⟩⟩
def rd_T99 (xs : List S99) (i : Int) : S99 := xs.getD i.toNat z99
theorem at_T99 {w : World} {A : Option Addr} {n : Nat} {xs : List S99} (h : Kd.C k99 w A n xs) (i : Int) (h0 : 0 ≤ i) (h1 : i < n) : ∃ ad A1 c1, A = some ad ∧ w.cell? (ad.add (i.toNat * 2)) = some (.int .i64 (rd_T99 xs i).f0) ∧ w.cell? ⟨(ad.add (i.toNat * 2)).block, (ad.add (i.toNat * 2)).off + 1, none⟩ = some (.slice A1 (rd_T99 xs i).f1.length c1) ∧ (rd_T99 xs i).f1.length ≤ c1 ∧ (Kd.int .i64).C w A1 (rd_T99 xs i).f1.length (rd_T99 xs i).f1 := by
 obtain ⟨ad, c, e, _, hK, hc0⟩ := Kd.C_get h z99 i h0 h1; have hc : ∀ j u, c[j]? = some u → w.cell? (ad.add (i.toNat * 2 + j)) = some u := hc0; obtain ⟨A1, c1, rfl, l1, g1⟩ := k99_open hK; exact ⟨ad, A1, c1, e, hc 0 _ rfl, z238_, l1, g1⟩
structure S37 where
 f0 : Int
 f1 : (List ByteArray)
 f2 : Int
 f3 : Int
def z37 : S37 := ⟨(0 : Int), ([] : List ByteArray), (0 : Int), (0 : Int)⟩
def k37 : Kd S37 := Kd.iso (Kd.pair (Kd.int .i64) (Kd.pair (Kd.slice 9 Kd.string) (Kd.pair (Kd.int .i64) (Kd.int .i64)))) (fun x : S37 => (x.f0, x.f1, x.f2, x.f3))
theorem k37_open {w : World} {x : S37} {cs : List Value} (h : k37.K w x cs) : ∃ A1 c1, cs = [.int .i64 x.f0, .slice A1 x.f1.length c1, .int .i64 x.f2, .int .i64 x.f3] ∧ x.f1.length ≤ c1 ∧ Kd.string.C w A1 x.f1.length x.f1 := by
 obtain ⟨_, _, rfl, rfl, ⟨_, _, rfl, ⟨A1, c1, rfl, l1, g1⟩, ⟨_, _, rfl, rfl, rfl⟩⟩⟩ := h; exact ⟨A1, c1, rfl, l1, g1⟩
theorem k37_mk (w : World) (x : S37) {A1 : Option Addr} {c1 : Nat} (l1 : x.f1.length ≤ c1) (g1 : Kd.string.C w A1 x.f1.length x.f1) : k37.K w x [.int .i64 x.f0, .slice A1 x.f1.length c1, .int .i64 x.f2, .int .i64 x.f3] := ⟨[.int .i64 x.f0], [.slice A1 x.f1.length c1, .int .i64 x.f2, .int .i64 x.f3], rfl, rfl, ⟨[.slice A1 x.f1.length c1], [.int .i64 x.f2, .int .i64 x.f3], rfl, ⟨A1, c1, rfl, l1, g1⟩, ⟨[.int .i64 x.f2], [.int .i64 x.f3], rfl, rfl, rfl⟩⟩⟩
theorem k37_mkM (w : World) (base : Nat) (ok : Nat → Prop) (x : S37) {v1 : Value} (g1 : Kd.string.R 9 w base ok v1 x.f1) : k37.M w base ok x [.int .i64 x.f0, v1, .int .i64 x.f2, .int .i64 x.f3] := ⟨[.int .i64 x.f0], [v1, .int .i64 x.f2, .int .i64 x.f3], rfl, rfl, ⟨[v1], [.int .i64 x.f2, .int .i64 x.f3], rfl, ⟨v1, rfl, g1⟩, ⟨[.int .i64 x.f2], [.int .i64 x.f3], rfl, rfl, rfl⟩⟩⟩
theorem k37_openF {W : World} {ok : Nat → Prop} {x : S37} {cs : List Value} (h : Kd.FK k37 W ok x cs) : ∃ A1 c1, cs = [.int .i64 x.f0, .slice A1 x.f1.length c1, .int .i64 x.f2, .int .i64 x.f3] ∧ x.f1.length ≤ c1 ∧ Kd.F Kd.string W ok A1 x.f1.length x.f1 := by
 obtain ⟨A1, c1, rfl, l1, _⟩ := k37_open (Kd.FK_now h); exact ⟨A1, c1, rfl, l1, (fun W' hW => by obtain ⟨A1_, c1_, he, l1_, g1_⟩ := k37_open (h W' hW); injection (Option.some.inj (show some (Value.slice A1 x.f1.length c1) = some (Value.slice A1_ x.f1.length c1_) from congrArg (fun l => l[1]?) he)) with ha_ _ _; rw [ha_]; exact g1_)⟩
theorem k37_mkF (W : World) (ok : Nat → Prop) (x : S37) {A1 : Option Addr} {c1 : Nat} (l1 : x.f1.length ≤ c1) (g1 : Kd.F Kd.string W ok A1 x.f1.length x.f1) : Kd.FK k37 W ok x [.int .i64 x.f0, .slice A1 x.f1.length c1, .int .i64 x.f2, .int .i64 x.f3] := fun W2 hW => k37_mk W2 x l1 (g1 W2 hW)
def rd_T37 (xs : List S37) (i : Int) : S37 := xs.getD i.toNat z37
theorem at_T37 {w : World} {A : Option Addr} {n : Nat} {xs : List S37} (h : Kd.C k37 w A n xs) (i : Int) (h0 : 0 ≤ i) (h1 : i < n) : ∃ ad A1 c1, A = some ad ∧ w.cell? (ad.add (i.toNat * 4)) = some (.int .i64 (rd_T37 xs i).f0) ∧ w.cell? ⟨(ad.add (i.toNat * 4)).block, (ad.add (i.toNat * 4)).off + 1, none⟩ = some (.slice A1 (rd_T37 xs i).f1.length c1) ∧ w.cell? ⟨(ad.add (i.toNat * 4)).block, (ad.add (i.toNat * 4)).off + 2, none⟩ = some (.int .i64 (rd_T37 xs i).f2) ∧ w.cell? ⟨(ad.add (i.toNat * 4)).block, (ad.add (i.toNat * 4)).off + 3, none⟩ = some (.int .i64 (rd_T37 xs i).f3) ∧ (rd_T37 xs i).f1.length ≤ c1 ∧ Kd.string.C w A1 (rd_T37 xs i).f1.length (rd_T37 xs i).f1 := by
 obtain ⟨ad, c, e, _, hK, hc0⟩ := Kd.C_get h z37 i h0 h1; have hc : ∀ j u, c[j]? = some u → w.cell? (ad.add (i.toNat * 4 + j)) = some u := hc0; obtain ⟨A1, c1, rfl, l1, g1⟩ := k37_open hK; exact ⟨ad, A1, c1, e, hc 0 _ rfl, z238_, by rw [← add_field _ _ 2 z161_]; exact hc 2 _ rfl, by rw [← add_field _ _ 3 z161_]; exact hc 3 _ rfl, l1, g1⟩
def rd_L8 (xs : List (List S99)) (i : Int) : (List S99) := xs.getD i.toNat ([] : List S99)
theorem at_L8 {w : World} {A : Option Addr} {n : Nat} {xs : List (List S99)} (h : Kd.C (Kd.slice 99 k99) w A n xs) (i : Int) (h0 : 0 ≤ i) (h1 : i < n) : ∃ ad A0 c0, A = some ad ∧ w.cell? (ad.add i.toNat) = some (.slice A0 (rd_L8 xs i).length c0) ∧ (rd_L8 xs i).length ≤ c0 ∧ k99.C w A0 (rd_L8 xs i).length (rd_L8 xs i) := by
 obtain ⟨ad, c, e, _, hK, hc0⟩ := Kd.C_get h ([] : List S99) i h0 h1; have hc : ∀ j u, c[j]? = some u → w.cell? (ad.add (i.toNat * 1 + j)) = some u := hc0; obtain ⟨A0, c0, rfl, l0, g0⟩ := hK; exact ⟨ad, A0, c0, e, z158_, l0, g0⟩
structure S71 where
 f0 : ByteArray
 f1 : (List S99)
def z71 : S71 := ⟨(⟨#[]⟩ : ByteArray), ([] : List S99)⟩
def k71 : Kd S71 := Kd.iso (Kd.pair Kd.string (Kd.slice 99 k99)) (fun x : S71 => (x.f0, x.f1))
theorem k71_open {w : World} {x : S71} {cs : List Value} (h : k71.K w x cs) : ∃ A1 c1, cs = [.string x.f0, .slice A1 x.f1.length c1] ∧ x.f1.length ≤ c1 ∧ k99.C w A1 x.f1.length x.f1 := by
 obtain ⟨_, _, rfl, rfl, ⟨A1, c1, rfl, l1, g1⟩⟩ := h; exact ⟨A1, c1, rfl, l1, g1⟩
theorem k71_openM {w : World} {base : Nat} {ok : Nat → Prop} {x : S71} {cs : List Value} (h : k71.M w base ok x cs) : ∃ v1, cs = [.string x.f0, v1] ∧ k99.R 99 w base ok v1 x.f1 := by
 obtain ⟨_, _, rfl, rfl, ⟨v1, rfl, g1⟩⟩ := h; exact ⟨v1, rfl, g1⟩
theorem k71_mk (w : World) (x : S71) {A1 : Option Addr} {c1 : Nat} (l1 : x.f1.length ≤ c1) (g1 : k99.C w A1 x.f1.length x.f1) : k71.K w x [.string x.f0, .slice A1 x.f1.length c1] := ⟨[.string x.f0], [.slice A1 x.f1.length c1], rfl, rfl, ⟨A1, c1, rfl, l1, g1⟩⟩
theorem k71_mkM (w : World) (base : Nat) (ok : Nat → Prop) (x : S71) {v1 : Value} (g1 : k99.R 99 w base ok v1 x.f1) : k71.M w base ok x [.string x.f0, v1] := ⟨[.string x.f0], [v1], rfl, rfl, ⟨v1, rfl, g1⟩⟩
def rd_T71 (xs : List S71) (i : Int) : S71 := xs.getD i.toNat z71
theorem at_T71 {w : World} {A : Option Addr} {n : Nat} {xs : List S71} (h : Kd.C k71 w A n xs) (i : Int) (h0 : 0 ≤ i) (h1 : i < n) : ∃ ad A1 c1, A = some ad ∧ w.cell? (ad.add (i.toNat * 2)) = some (.string (rd_T71 xs i).f0) ∧ w.cell? ⟨(ad.add (i.toNat * 2)).block, (ad.add (i.toNat * 2)).off + 1, none⟩ = some (.slice A1 (rd_T71 xs i).f1.length c1) ∧ (rd_T71 xs i).f1.length ≤ c1 ∧ k99.C w A1 (rd_T71 xs i).f1.length (rd_T71 xs i).f1 := by
 obtain ⟨ad, c, e, _, hK, hc0⟩ := Kd.C_get h z71 i h0 h1; have hc : ∀ j u, c[j]? = some u → w.cell? (ad.add (i.toNat * 2 + j)) = some u := hc0; obtain ⟨A1, c1, rfl, l1, g1⟩ := k71_open hK; exact ⟨ad, A1, c1, e, hc 0 _ rfl, z238_, l1, g1⟩
structure S45 where
 f0 : (List ByteArray)
 f1 : (List Int)
 f2 : (List Int)
 f3 : (List S71)
 f4 : Bool
structure S55 where
 f0 : ByteArray
 f1 : Int
 f2 : (List ByteArray)
def z55 : S55 := ⟨(⟨#[]⟩ : ByteArray), (0 : Int), ([] : List ByteArray)⟩
def k55 : Kd S55 := Kd.iso (Kd.pair Kd.string (Kd.pair (Kd.int .i64) (Kd.slice 9 Kd.string))) (fun x : S55 => (x.f0, x.f1, x.f2))
theorem k55_open {w : World} {x : S55} {cs : List Value} (h : k55.K w x cs) : ∃ A2 c2, cs = [.string x.f0, .int .i64 x.f1, .slice A2 x.f2.length c2] ∧ x.f2.length ≤ c2 ∧ Kd.string.C w A2 x.f2.length x.f2 := by
 obtain ⟨_, _, rfl, rfl, ⟨_, _, rfl, rfl, ⟨A2, c2, rfl, l2, g2⟩⟩⟩ := h; exact ⟨A2, c2, rfl, l2, g2⟩
theorem k55_mk (w : World) (x : S55) {A2 : Option Addr} {c2 : Nat} (l2 : x.f2.length ≤ c2) (g2 : Kd.string.C w A2 x.f2.length x.f2) : k55.K w x [.string x.f0, .int .i64 x.f1, .slice A2 x.f2.length c2] := ⟨[.string x.f0], [.int .i64 x.f1, .slice A2 x.f2.length c2], rfl, rfl, ⟨[.int .i64 x.f1], [.slice A2 x.f2.length c2], rfl, rfl, ⟨A2, c2, rfl, l2, g2⟩⟩⟩
def rd_T55 (xs : List S55) (i : Int) : S55 := xs.getD i.toNat z55
theorem at_T55 {w : World} {A : Option Addr} {n : Nat} {xs : List S55} (h : Kd.C k55 w A n xs) (i : Int) (h0 : 0 ≤ i) (h1 : i < n) : ∃ ad A2 c2, A = some ad ∧ w.cell? (ad.add (i.toNat * 3)) = some (.string (rd_T55 xs i).f0) ∧ w.cell? ⟨(ad.add (i.toNat * 3)).block, (ad.add (i.toNat * 3)).off + 1, none⟩ = some (.int .i64 (rd_T55 xs i).f1) ∧ w.cell? ⟨(ad.add (i.toNat * 3)).block, (ad.add (i.toNat * 3)).off + 2, none⟩ = some (.slice A2 (rd_T55 xs i).f2.length c2) ∧ (rd_T55 xs i).f2.length ≤ c2 ∧ Kd.string.C w A2 (rd_T55 xs i).f2.length (rd_T55 xs i).f2 := by
 obtain ⟨ad, c, e, _, hK, hc0⟩ := Kd.C_get h z55 i h0 h1; have hc : ∀ j u, c[j]? = some u → w.cell? (ad.add (i.toNat * 3 + j)) = some u := hc0; obtain ⟨A2, c2, rfl, l2, g2⟩ := k55_open hK; exact ⟨ad, A2, c2, e, hc 0 _ rfl, z238_, by rw [← add_field _ _ 2 z161_]; exact hc 2 _ rfl, l2, g2⟩
theorem bytesLess_swap : ∀ a b : List UInt8, (!(Op.bytesLess a b || a == b)) = Op.bytesLess b a
 | [], [] => rfl
 | [], _ :: _ => rfl
 | _ :: _, [] => rfl
 | x :: r, y :: s => by
  have ih := bytesLess_swap r s; simp only [Op.bytesLess]
  by_cases h1 : x < y
  ·
   have h2 : ¬ y < x := by rw [UInt8.lt_iff_toNat_lt] at *; omega
   have h3 : (y == x) = false := by
    rw [beq_eq_false_iff_ne]; intro he; subst he; exact h2 h1
   simp [h1, h2, h3]
  ·
   by_cases h2 : y < x
   ·
    have h3 : (x == y) = false := by
     rw [beq_eq_false_iff_ne]; intro he; subst he; exact h1 h2
    have h4 : ((x :: r) == (y :: s)) = false := by
     rw [beq_eq_false_iff_ne]; intro he
     injection he with he _
     rw [he] at h3
     simp at h3
    simp [h1, h2, h3, h4]
   ·
    have he : x = y := by
     rw [UInt8.lt_iff_toNat_lt] at *; exact UInt8.toNat_inj.1 z161_
    subst he; have h4 : ((x :: r) == (x :: s)) = (r == s) := z219_; rw [h4]; simp only [h1, decide_false, Bool.false_or, beq_self_eq_true, Bool.true_and]; exact ih
theorem string_leq_ (t : TypeId) (a b : ByteArray) : binOp .leq t (.string a) (.string b) = pure (.bool (!(Op.bytesLess b.toList a.toList))) := by
 rw [← bytesLess_swap, Bool.not_not]; simp [binOp, Op.stringOp]
def f32.j0 : Nat → List Int → Int → Int → Bool → Option (List Int)
 | 0, _, _, _, _ => none
 | k + 1, x0, x1, x5, x25 => if x25 = true then ((some (([Go.bits .or .u8 224 ((x1 / 4096) % 256), 128 + ((x1 / 64) % 64), 128 + (x1 % 64)] : List Int) : List Int)).bind fun y10 => (if x0.length + y10.length < 140737488355328 then (some (x0 ++ y10)) else (none))) else (if x5 > 65535 then (if x5 ≤ 1114111 then ((some (([Go.bits .or .u8 240 ((x1 / 262144) % 256), 128 + ((x1 / 4096) % 64), 128 + ((x1 / 64) % 64), 128 + (x1 % 64)] : List Int) : List Int)).bind fun y11 => (if x0.length + y11.length < 140737488355328 then (some (x0 ++ y11)) else (none))) else ((some (([239, 191, 189] : List Int) : List Int)).bind fun y12 => (if x0.length + y12.length < 140737488355328 then (some (x0 ++ y12)) else (none)))) else ((some (([239, 191, 189] : List Int) : List Int)).bind fun y13 => (if x0.length + y13.length < 140737488355328 then (some (x0 ++ y13)) else (none))))
def f32.f (k : Nat) (l0 : List Int) (a1 : Int) : Option (List Int) := if ((a1) % 4294967296) ≤ 2047 then ((some (([Go.bits .or .u8 192 ((a1 / 64) % 256), 128 + (a1 % 64)] : List Int) : List Int)).bind fun y10 => (if l0.length + y10.length < 140737488355328 then (some (l0 ++ y10)) else (none))) else (if ((a1) % 4294967296) < 55296 then (f32.j0 k l0 a1 ((a1) % 4294967296) (decide (((a1) % 4294967296) < 55296))) else (if 57343 < ((a1) % 4294967296) then (f32.j0 k l0 a1 ((a1) % 4294967296) (decide (((a1) % 4294967296) ≤ 65535))) else (f32.j0 k l0 a1 ((a1) % 4294967296) false)))
theorem f32.calls (k : Nat) (P0_ : Nat → Prop) (u9000_ : Value) (l0 : List Int) (a1 : Int) (r : List Int) (w0 w : World) (hB : Below w0.heap.size w0 w) (ho0 : Kd.R (Kd.int .u8) 5 w w0.heap.size P0_ u9000_ l0) (h : f32.f k l0 a1 = some r) :
  Calls Tryz.prog 207 #[u9000_, .int .i32 a1] w fun e w' => ∃ v0_ : Value, e = .returned (v0_) ∧ Kd.R (Kd.int .u8) 5 w' w0.heap.size (fun k_ => (P0_ k_ ∨ w.heap.size ≤ k_)) v0_ r ∧ Below w0.heap.size w0 w' ∧ Kept w w' (fun k_ => P0_ k_) := by
 have HO0 := A_ (show Kd.R (Kd.int .u8) 5 w w0.heap.size (fun k_ => (P0_ k_ ∨ w.heap.size ≤ k_)) u9000_ l0 from Kd.R_mono ho0 (fun k_ hk => (.inl hk))); have HK := A_ (Kept.refl w (fun k_ => P0_ k_)); have HW0 := A_ hB.size; have HB := A_ hB; clear hB; unfold f32.f at h; have H := h; clear h; revert H; refine i1_ (fun c3b0 H => ?_) fun c3b0 H => ?_
 ·
  obtain ⟨y35, hy35⟩ : ∃ y_ : List Int, y_ = (([Go.bits .or .u8 192 ((a1 / 64) % 256), 128 + (a1 % 64)] : List Int)) := ⟨_, rfl⟩
  replace H : (if l0.length + y35.length < 140737488355328 then (some (l0 ++ y35)) else (none)) = some r := by first | (rw [hy35]; with_reducible exact H) | (have H2_ := (Option.bind_some _ _).symm.trans H; rw [hy35]; with_reducible exact H2_) | (have H2_ := (Option.bind_some _ _).symm.trans H; with_reducible exact H2_) | with_reducible exact H | (rw [hy35]; exact H) | exact H
  have Ny35 := A_ hy35; clear hy35; revert H; refine i4_ fun c4 H => ?_; have LMc4 := A_ c4; clear c4; obtain ⟨y36, hy36⟩ : ∃ y_ : List Int, y_ = (l0 ++ y35) := ⟨_, rfl⟩
  replace H : (some y36) = some r := by first | (rw [hy36]; with_reducible exact H) | (have H2_ := (Option.bind_some _ _).symm.trans H; rw [hy36]; with_reducible exact H2_) | (have H2_ := (Option.bind_some _ _).symm.trans H; with_reducible exact H2_) | with_reducible exact H | (rw [hy36]; exact H) | exact H
  have Ny36 := A_ hy36; clear hy36; obtain rfl := sj_ H; go_enter Tryz.func207, Tryz.ntmps207
  go_wp2_with (first | ((with_reducible refine gate_dst (N := 23) rfl ?_); refine Kd.R_lit (Kd.int .u8) _ 5 ?hg (N := 23) ?hd (xs := ([Go.bits .or .u8 192 ((a1 / 64) % 256), 128 + (a1 % 64)] : List Int)) (inner := [.int .u8 (Go.bits .or .u8 192 ((a1 / 64) % 256)), .int .u8 (128 + (a1 % 64))]) (ok := fun _ => True) (okp := fun _ => True) ?hr ?hp (fun _ hk => hk) trivial (Below.refl _ _) (Nat.le_refl _) z219_ ?_; (case hd => rfl); (case hg => rfl); (case hr => exact z107_); (case hp => exact (Reps.one (show Kd.M (Kd.int .u8) _ _ _ (Go.bits .or .u8 192 ((a1 / 64) % 256)) [.int .u8 (Go.bits .or .u8 192 ((a1 / 64) % 256))] from rfl) (Reps.one (show Kd.M (Kd.int .u8) _ _ _ (128 + (a1 % 64)) [.int .u8 (128 + (a1 % 64))] from rfl) (Reps.none _ _)))); intro v37 w5 ho6 hb hg_ hnew_; clear hg_ hnew_; (first | rw [← Ny35.out] at ho6 | (simp only [Int.reduceToNat] at ho6; rw [← Ny35.out] at ho6)); have n_ := a4_ (Kd.R_elder' z27_ (Kd.R_base ho6) hb) (Kd.R_lower (Kd.R_new' (Kd.R_newM (M := fun k_ => (P0_ k_ ∨ w.heap.size ≤ k_)) ho6 z228_ (fun k_ h_ => .inr h_)) (Kd.R_lt z27_)) (below_size z186_)) (Kept.below (S := (fun k_ => P0_ k_)) z187_ hb) (below_step z186_ hb); clear HO0 HK HB; obtain ⟨HO0, HO38, HK, HB⟩ := n_; clear hb ho6; obtain ⟨Ao8, co8, eo8⟩ := Kd.R_slice HO38.out; subst eo8) | ((with_reducible refine gate_builtin (b := .append) (xs := #[.tmp 14, .tmp 23]) rfl ?_); at_builtin; refine Kd.R_append_rows (Kd.int .u8) (w0 := w0) w0.heap.size rfl (.tmp 14) (.tmp 23) 152 5 (.int .u8 0) 1 rfl Tryz.underlying152 info5 rfl z106_ z161_ u9000_ l0 y35 _ _ _ (fun k_ => (P0_ k_ ∨ w.heap.size ≤ k_) ∧ some k_ ≠ (.slice Ao8 y35.length co8 : Value).ownBlock) (fun _ => False) rfl rfl ?aO ?aR (fun _ _ h => h) (fun _ h => h.elim) ?aF ?aB ?aS ?aL ?_; (case aR => repeat (first | exact (Kd.R_reads' HO38.out).2.2 | (with_reducible refine Kd.C_alloc ?_ _) | (with_reducible refine Kd.C_drewN ?_ _) | (with_reducible refine Kd.C_drew ?_))); (case aB => exact z186_); (case aF => exact (fun k_ hk => ⟨(.inr (Nat.le_trans z228_ hk)), Kd.fresh' (Kd.R_lt (by (with_reducible repeat (first | apply Kd.R_alloc | apply Kd.R_drewN | apply Kd.R_drew)); exact HO38.out)) k_ hk⟩)); (case aO => exact z27_); (case aS => exact (below_size z186_)); (case aL => have := LMc4.out; omega); intro v39 w7 ho hb hg hat; rw [← Ny36.out] at ho; have n_ := a4_ (Kd.R_after (ok := (fun k_ => (P0_ k_ ∨ w.heap.size ≤ k_))) (by (with_reducible repeat (first | apply Kd.R_alloc | apply Kd.R_drewN | apply Kd.R_drew)); exact Kd.R_mono HO38.out (fun _ hk => ⟨hk.1.1, hk.2⟩)) hg hat) (hb) (Kept.of_grown (S := (fun k_ => P0_ k_)) hg z187_ (fun k_ e_ => (HO0.out.1 k_ e_).1)) (ho); clear HO38 HB HK HO0; obtain ⟨HO38, HB, HK, HO40⟩ := n_; clear ho hb hg hat))
  go_ret; exact ⟨_, z138_, by (with_reducible repeat (first | apply Kd.R_alloc | apply Kd.R_drewN | apply Kd.R_drew)); exact Kd.R_mono HO40.out (fun _ hk => hk.1), z186_, z187_⟩
 have HC9 := A_ H; clear H; go_enter Tryz.func207, Tryz.ntmps207
 go_upto_if 25 with (fail)
 go_cut [25] (fun v25 wc => ∃ (kq : Nat) (x25_8 : Bool), v25 = .bool x25_8 ∧ Aside0 (f32.j0 kq l0 a1 ((a1) % 4294967296) x25_8 = some r) ∧ Aside0 (kq ≤ k) ∧ Aside0 (Kd.R (Kd.int .u8) 5 wc w0.heap.size (fun k_ => (P0_ k_ ∨ w.heap.size ≤ k_)) u9000_ l0) ∧ Aside0 (Kept w wc (fun k_ => P0_ k_)) ∧ Aside0 (Below w0.heap.size w0 wc))
 case first =>
  have H := HC9.out; clear HC9; revert H; refine i1_ (fun c10b0 H => ?_) fun c10b0 H => ?_
  ·
   (first | rw [c10b0] | (simp only [i64_w, i32_w]; rw [c10b0]) | skip); have H' := A_ H; clear H; go_wp2
   go_meet
   case rel => exact ⟨_, (decide (((a1) % 4294967296) < 55296)), z139_, H', ⟨z137_⟩, ⟨z27_⟩, ⟨z187_⟩, ⟨z186_⟩⟩
  (first | rw [c10b0] | (simp only [i64_w, i32_w]; rw [c10b0]) | skip); revert H; refine i1_ (fun c11b0 H => ?_) fun c11b0 H => ?_; rotate_left
  ·
   have H' := A_ H; clear H; go_wp2
   go_meet
   case rel => exact ⟨_, (false), z139_, H', ⟨z137_⟩, ⟨z27_⟩, ⟨z187_⟩, ⟨z186_⟩⟩
  have H' := A_ H; clear H; go_wp2
  go_meet
  case rel => exact ⟨_, (decide (((a1) % 4294967296) ≤ 65535)), z139_, H', ⟨z137_⟩, ⟨z27_⟩, ⟨z187_⟩, ⟨z186_⟩⟩
 case rest =>
  clear HC9; (try clear c3); (try clear c3b0); obtain ⟨kq, x25_8, rfl, HA, HJ8, HO_0, HK, HB⟩ := hcut
  cases kq with
  | zero => exact absurd HA.out (by simp [f32.j0])
  | succ kj8 =>
  have H := HA.out; clear HA; simp only [f32.j0] at H
  by_cases c12 : x25_8 = true
  ·
   subst c12; have H1 := tt_ H; clear H; have H := H1; clear H1; obtain ⟨y41, hy41⟩ : ∃ y_ : List Int, y_ = (([Go.bits .or .u8 224 ((a1 / 4096) % 256), 128 + ((a1 / 64) % 64), 128 + (a1 % 64)] : List Int)) := ⟨_, rfl⟩
   replace H : (if l0.length + y41.length < 140737488355328 then (some (l0 ++ y41)) else (none)) = some r := by first | (rw [hy41]; with_reducible exact H) | (have H2_ := (Option.bind_some _ _).symm.trans H; rw [hy41]; with_reducible exact H2_) | (have H2_ := (Option.bind_some _ _).symm.trans H; with_reducible exact H2_) | with_reducible exact H | (rw [hy41]; exact H) | exact H
   have Ny41 := A_ hy41; clear hy41; revert H; refine i4_ fun c13 H => ?_; have LMc13 := A_ c13; clear c13; obtain ⟨y42, hy42⟩ : ∃ y_ : List Int, y_ = (l0 ++ y41) := ⟨_, rfl⟩; replace H : (some y42) = some r := z125_; have Ny42 := A_ hy42; clear hy42; obtain rfl := sj_ H
   go_wp2_with (first | ((with_reducible refine gate_dst (N := 48) rfl ?_); refine Kd.R_lit (Kd.int .u8) _ 5 ?hg (N := 48) ?hd (xs := ([Go.bits .or .u8 224 ((a1 / 4096) % 256), 128 + ((a1 / 64) % 64), 128 + (a1 % 64)] : List Int)) (inner := [.int .u8 (Go.bits .or .u8 224 ((a1 / 4096) % 256)), .int .u8 (128 + ((a1 / 64) % 64)), .int .u8 (128 + (a1 % 64))]) (ok := fun _ => True) (okp := fun _ => True) ?hr ?hp (fun _ hk => hk) trivial (Below.refl _ _) (Nat.le_refl _) z219_ ?_; (case hd => rfl); (case hg => rfl); (case hr => exact z107_); (case hp => exact (Reps.one (show Kd.M (Kd.int .u8) _ _ _ (Go.bits .or .u8 224 ((a1 / 4096) % 256)) [.int .u8 (Go.bits .or .u8 224 ((a1 / 4096) % 256))] from rfl) (Reps.one (show Kd.M (Kd.int .u8) _ _ _ (128 + ((a1 / 64) % 64)) [.int .u8 (128 + ((a1 / 64) % 64))] from rfl) (Reps.one (show Kd.M (Kd.int .u8) _ _ _ (128 + (a1 % 64)) [.int .u8 (128 + (a1 % 64))] from rfl) (Reps.none _ _))))); intro v43 w14 ho15 hb hg_ hnew_; clear hg_ hnew_; (first | rw [← Ny41.out] at ho15 | (simp only [Int.reduceToNat] at ho15; rw [← Ny41.out] at ho15)); have n_ := a4_ (Kd.R_elder' z46_ (Kd.R_base ho15) hb) (Kd.R_lower (Kd.R_new' (Kd.R_newM (M := fun k_ => (P0_ k_ ∨ w.heap.size ≤ k_)) ho15 z228_ (fun k_ h_ => .inr h_)) (Kd.R_lt z46_)) (below_size z186_)) (Kept.below (S := (fun k_ => P0_ k_)) z187_ hb) (below_step z186_ hb); clear HO_0 HK HB; obtain ⟨HO_0, HO44, HK, HB⟩ := n_; clear hb ho15; obtain ⟨Ao17, co17, eo17⟩ := Kd.R_slice HO44.out; subst eo17) | ((with_reducible refine gate_builtin (b := .append) (xs := #[.tmp 34, .tmp 48]) rfl ?_); at_builtin; refine Kd.R_append_rows (Kd.int .u8) (w0 := w0) w0.heap.size rfl (.tmp 34) (.tmp 48) 152 5 (.int .u8 0) 1 rfl Tryz.underlying152 info5 rfl z106_ z161_ u9000_ l0 y41 _ _ _ (fun k_ => (P0_ k_ ∨ w.heap.size ≤ k_) ∧ some k_ ≠ (.slice Ao17 y41.length co17 : Value).ownBlock) (fun _ => False) rfl rfl ?aO ?aR (fun _ _ h => h) (fun _ h => h.elim) ?aF ?aB ?aS ?aL ?_; (case aR => repeat (first | exact (Kd.R_reads' HO44.out).2.2 | (with_reducible refine Kd.C_alloc ?_ _) | (with_reducible refine Kd.C_drewN ?_ _) | (with_reducible refine Kd.C_drew ?_))); (case aB => exact z186_); (case aF => exact (fun k_ hk => ⟨(.inr (Nat.le_trans z228_ hk)), Kd.fresh' (Kd.R_lt (by (with_reducible repeat (first | apply Kd.R_alloc | apply Kd.R_drewN | apply Kd.R_drew)); exact HO44.out)) k_ hk⟩)); (case aO => exact z46_); (case aS => exact (below_size z186_)); (case aL => have := LMc13.out; omega); intro v45 w16 ho hb hg hat; rw [← Ny42.out] at ho; have n_ := a4_ (Kd.R_after (ok := (fun k_ => (P0_ k_ ∨ w.heap.size ≤ k_))) (by (with_reducible repeat (first | apply Kd.R_alloc | apply Kd.R_drewN | apply Kd.R_drew)); exact Kd.R_mono HO44.out (fun _ hk => ⟨hk.1.1, hk.2⟩)) hg hat) (hb) (Kept.of_grown (S := (fun k_ => P0_ k_)) hg z187_ (fun k_ e_ => (HO_0.out.1 k_ e_).1)) (ho); clear HO44 HB HK HO_0; obtain ⟨HO44, HB, HK, HO46⟩ := n_; clear ho hb hg hat))
   go_ret; exact ⟨_, z138_, by (with_reducible repeat (first | apply Kd.R_alloc | apply Kd.R_drewN | apply Kd.R_drew)); exact Kd.R_mono HO46.out (fun _ hk => hk.1), z186_, z187_⟩
  ·
   replace c12 := Bool.eq_false_iff.mpr c12; subst c12; have H1 := ff_ H; clear H; have H := H1; clear H1; revert H; refine i1_ (fun c18b0 H => ?_) fun c18b0 H => ?_; rotate_left
   ·
    obtain ⟨y49, hy49⟩ : ∃ y_ : List Int, y_ = (([239, 191, 189] : List Int)) := ⟨_, rfl⟩; replace H : (if l0.length + y49.length < 140737488355328 then (some (l0 ++ y49)) else (none)) = some r := z129_; have Ny49 := A_ hy49; clear hy49; revert H; refine i2_ (fun c30 H => ?_) fun c30 H => ?_; rotate_left
    · exact absurd H z219_
    have LMc30 := A_ c30; clear c30; obtain ⟨y60, hy60⟩ : ∃ y_ : List Int, y_ = (l0 ++ y49) := ⟨_, rfl⟩
    replace H : (some y60) = some r := by first | (rw [hy60]; with_reducible exact H) | (have H2_ := (Option.bind_some _ _).symm.trans H; rw [hy60]; with_reducible exact H2_) | (have H2_ := (Option.bind_some _ _).symm.trans H; with_reducible exact H2_) | with_reducible exact H | (rw [hy60]; exact H) | exact H
    have Ny60 := A_ hy60; clear hy60; obtain rfl := sj_ H
    go_wp2_with (first | ((with_reducible refine gate_dst (N := 9) rfl ?_); refine Kd.R_lit (Kd.int .u8) _ 5 ?hg (N := 9) ?hd (xs := ([239, 191, 189] : List Int)) (inner := [.int .u8 239, .int .u8 191, .int .u8 189]) (ok := fun _ => True) (okp := fun _ => True) ?hr ?hp (fun _ hk => hk) trivial (Below.refl _ _) (Nat.le_refl _) z219_ ?_; (case hd => rfl); (case hg => rfl); (case hr => exact z107_); (case hp => exact (Reps.one (show Kd.M (Kd.int .u8) _ _ _ 239 [.int .u8 239] from rfl) (Reps.one (show Kd.M (Kd.int .u8) _ _ _ 191 [.int .u8 191] from rfl) (Reps.one (show Kd.M (Kd.int .u8) _ _ _ 189 [.int .u8 189] from rfl) (Reps.none _ _))))); intro v61 w31 ho32 hb hg_ hnew_; clear hg_ hnew_; (first | rw [← Ny49.out] at ho32 | (simp only [Int.reduceToNat] at ho32; rw [← Ny49.out] at ho32)); have n_ := a4_ (Kd.R_elder' z46_ (Kd.R_base ho32) hb) (Kd.R_lower (Kd.R_new' (Kd.R_newM (M := fun k_ => (P0_ k_ ∨ w.heap.size ≤ k_)) ho32 z228_ (fun k_ h_ => .inr h_)) (Kd.R_lt z46_)) (below_size z186_)) (Kept.below (S := (fun k_ => P0_ k_)) z187_ hb) (below_step z186_ hb); clear HO_0 HK HB; obtain ⟨HO_0, HO62, HK, HB⟩ := n_; clear hb ho32; obtain ⟨Ao34, co34, eo34⟩ := Kd.R_slice HO62.out; subst eo34) | ((with_reducible refine gate_builtin (b := .append) (xs := #[.tmp 8, .tmp 9]) rfl ?_); at_builtin; refine Kd.R_append_rows (Kd.int .u8) (w0 := w0) w0.heap.size rfl (.tmp 8) (.tmp 9) 152 5 (.int .u8 0) 1 rfl Tryz.underlying152 info5 rfl z106_ z161_ u9000_ l0 y49 _ _ _ (fun k_ => (P0_ k_ ∨ w.heap.size ≤ k_) ∧ some k_ ≠ (.slice Ao34 y49.length co34 : Value).ownBlock) (fun _ => False) rfl rfl ?aO ?aR (fun _ _ h => h) (fun _ h => h.elim) ?aF ?aB ?aS ?aL ?_; (case aR => repeat (first | exact (Kd.R_reads' HO62.out).2.2 | (with_reducible refine Kd.C_alloc ?_ _) | (with_reducible refine Kd.C_drewN ?_ _) | (with_reducible refine Kd.C_drew ?_))); (case aB => exact z186_); (case aF => exact (fun k_ hk => ⟨(.inr (Nat.le_trans z228_ hk)), Kd.fresh' (Kd.R_lt z36_) k_ hk⟩)); (case aO => exact z46_); (case aS => exact (below_size z186_)); (case aL => have := LMc30.out; omega); intro v63 w33 ho hb hg hat; rw [← Ny60.out] at ho; have n_ := a4_ (Kd.R_after (ok := (fun k_ => (P0_ k_ ∨ w.heap.size ≤ k_))) (by (with_reducible repeat (first | apply Kd.R_alloc | apply Kd.R_drewN | apply Kd.R_drew)); exact Kd.R_mono HO62.out (fun _ hk => ⟨hk.1.1, hk.2⟩)) hg hat) (hb) (Kept.of_grown (S := (fun k_ => P0_ k_)) hg z187_ (fun k_ e_ => (HO_0.out.1 k_ e_).1)) (ho); clear HO62 HB HK HO_0; obtain ⟨HO62, HB, HK, HO64⟩ := n_; clear ho hb hg hat))
    go_ret; exact ⟨_, z138_, by (with_reducible repeat (first | apply Kd.R_alloc | apply Kd.R_drewN | apply Kd.R_drew)); exact Kd.R_mono HO64.out (fun _ hk => hk.1), z186_, z187_⟩
   revert H; refine i1_ (fun c19b0 H => ?_) fun c19b0 H => ?_; rotate_left
   ·
    obtain ⟨y48, hy48⟩ : ∃ y_ : List Int, y_ = (([239, 191, 189] : List Int)) := ⟨_, rfl⟩; replace H : (if l0.length + y48.length < 140737488355328 then (some (l0 ++ y48)) else (none)) = some r := z128_; have Ny48 := A_ hy48; clear hy48; revert H; refine i4_ fun c25 H => ?_; have LMc25 := A_ c25; clear c25; obtain ⟨y55, hy55⟩ : ∃ y_ : List Int, y_ = (l0 ++ y48) := ⟨_, rfl⟩
    replace H : (some y55) = some r := by first | (rw [hy55]; with_reducible exact H) | (have H2_ := (Option.bind_some _ _).symm.trans H; rw [hy55]; with_reducible exact H2_) | (have H2_ := (Option.bind_some _ _).symm.trans H; with_reducible exact H2_) | with_reducible exact H | (rw [hy55]; exact H) | exact H
    have Ny55 := A_ hy55; clear hy55; obtain rfl := sj_ H
    go_wp2_with (first | ((with_reducible refine gate_dst (N := 9) rfl ?_); refine Kd.R_lit (Kd.int .u8) _ 5 ?hg (N := 9) ?hd (xs := ([239, 191, 189] : List Int)) (inner := [.int .u8 239, .int .u8 191, .int .u8 189]) (ok := fun _ => True) (okp := fun _ => True) ?hr ?hp (fun _ hk => hk) trivial (Below.refl _ _) (Nat.le_refl _) z219_ ?_; (case hd => rfl); (case hg => rfl); (case hr => exact z107_); (case hp => exact (Reps.one (show Kd.M (Kd.int .u8) _ _ _ 239 [.int .u8 239] from rfl) (Reps.one (show Kd.M (Kd.int .u8) _ _ _ 191 [.int .u8 191] from rfl) (Reps.one (show Kd.M (Kd.int .u8) _ _ _ 189 [.int .u8 189] from rfl) (Reps.none _ _))))); intro v56 w26 ho27 hb hg_ hnew_; clear hg_ hnew_; (first | rw [← Ny48.out] at ho27 | (simp only [Int.reduceToNat] at ho27; rw [← Ny48.out] at ho27)); have n_ := a4_ (Kd.R_elder' z46_ (Kd.R_base ho27) hb) (Kd.R_lower (Kd.R_new' (Kd.R_newM (M := fun k_ => (P0_ k_ ∨ w.heap.size ≤ k_)) ho27 z228_ (fun k_ h_ => .inr h_)) (Kd.R_lt z46_)) (below_size z186_)) (Kept.below (S := (fun k_ => P0_ k_)) z187_ hb) (below_step z186_ hb); clear HO_0 HK HB; obtain ⟨HO_0, HO57, HK, HB⟩ := n_; clear hb ho27; obtain ⟨Ao29, co29, eo29⟩ := Kd.R_slice HO57.out; subst eo29) | ((with_reducible refine gate_builtin (b := .append) (xs := #[.tmp 8, .tmp 9]) rfl ?_); at_builtin; refine Kd.R_append_rows (Kd.int .u8) (w0 := w0) w0.heap.size rfl (.tmp 8) (.tmp 9) 152 5 (.int .u8 0) 1 rfl Tryz.underlying152 info5 rfl z106_ z161_ u9000_ l0 y48 _ _ _ (fun k_ => (P0_ k_ ∨ w.heap.size ≤ k_) ∧ some k_ ≠ (.slice Ao29 y48.length co29 : Value).ownBlock) (fun _ => False) rfl rfl ?aO ?aR (fun _ _ h => h) (fun _ h => h.elim) ?aF ?aB ?aS ?aL ?_; (case aR => repeat (first | exact (Kd.R_reads' HO57.out).2.2 | (with_reducible refine Kd.C_alloc ?_ _) | (with_reducible refine Kd.C_drewN ?_ _) | (with_reducible refine Kd.C_drew ?_))); (case aB => exact z186_); (case aF => exact (fun k_ hk => ⟨(.inr (Nat.le_trans z228_ hk)), Kd.fresh' (Kd.R_lt (by (with_reducible repeat (first | apply Kd.R_alloc | apply Kd.R_drewN | apply Kd.R_drew)); exact HO57.out)) k_ hk⟩)); (case aO => exact z46_); (case aS => exact (below_size z186_)); (case aL => have := LMc25.out; omega); intro v58 w28 ho hb hg hat; rw [← Ny55.out] at ho; have n_ := a4_ (Kd.R_after (ok := (fun k_ => (P0_ k_ ∨ w.heap.size ≤ k_))) (by (with_reducible repeat (first | apply Kd.R_alloc | apply Kd.R_drewN | apply Kd.R_drew)); exact Kd.R_mono HO57.out (fun _ hk => ⟨hk.1.1, hk.2⟩)) hg hat) (hb) (Kept.of_grown (S := (fun k_ => P0_ k_)) hg z187_ (fun k_ e_ => (HO_0.out.1 k_ e_).1)) (ho); clear HO57 HB HK HO_0; obtain ⟨HO57, HB, HK, HO59⟩ := n_; clear ho hb hg hat))
    go_ret; exact ⟨_, z138_, by (with_reducible repeat (first | apply Kd.R_alloc | apply Kd.R_drewN | apply Kd.R_drew)); exact Kd.R_mono HO59.out (fun _ hk => hk.1), z186_, z187_⟩
   obtain ⟨y47, hy47⟩ : ∃ y_ : List Int, y_ = (([Go.bits .or .u8 240 ((a1 / 262144) % 256), 128 + ((a1 / 4096) % 64), 128 + ((a1 / 64) % 64), 128 + (a1 % 64)] : List Int)) := ⟨_, rfl⟩; replace H : (if l0.length + y47.length < 140737488355328 then (some (l0 ++ y47)) else (none)) = some r := z127_; have Ny47 := A_ hy47; clear hy47; revert H; refine i4_ fun c20 H => ?_; have LMc20 := A_ c20; clear c20; obtain ⟨y50, hy50⟩ : ∃ y_ : List Int, y_ = (l0 ++ y47) := ⟨_, rfl⟩
   replace H : (some y50) = some r := by first | (rw [hy50]; with_reducible exact H) | (have H2_ := (Option.bind_some _ _).symm.trans H; rw [hy50]; with_reducible exact H2_) | (have H2_ := (Option.bind_some _ _).symm.trans H; with_reducible exact H2_) | with_reducible exact H | (rw [hy50]; exact H) | exact H
   have Ny50 := A_ hy50; clear hy50; obtain rfl := sj_ H
   go_wp2_with (first | ((with_reducible refine gate_dst (N := 76) rfl ?_); refine Kd.R_lit (Kd.int .u8) _ 5 ?hg (N := 76) ?hd (xs := ([Go.bits .or .u8 240 ((a1 / 262144) % 256), 128 + ((a1 / 4096) % 64), 128 + ((a1 / 64) % 64), 128 + (a1 % 64)] : List Int)) (inner := [.int .u8 (Go.bits .or .u8 240 ((a1 / 262144) % 256)), .int .u8 (128 + ((a1 / 4096) % 64)), .int .u8 (128 + ((a1 / 64) % 64)), .int .u8 (128 + (a1 % 64))]) (ok := fun _ => True) (okp := fun _ => True) ?hr ?hp (fun _ hk => hk) trivial (Below.refl _ _) (Nat.le_refl _) z219_ ?_; (case hd => rfl); (case hg => rfl); (case hr => exact z107_); (case hp => exact (Reps.one (show Kd.M (Kd.int .u8) _ _ _ (Go.bits .or .u8 240 ((a1 / 262144) % 256)) [.int .u8 (Go.bits .or .u8 240 ((a1 / 262144) % 256))] from rfl) (Reps.one (show Kd.M (Kd.int .u8) _ _ _ (128 + ((a1 / 4096) % 64)) [.int .u8 (128 + ((a1 / 4096) % 64))] from rfl) (Reps.one (show Kd.M (Kd.int .u8) _ _ _ (128 + ((a1 / 64) % 64)) [.int .u8 (128 + ((a1 / 64) % 64))] from rfl) (Reps.one (show Kd.M (Kd.int .u8) _ _ _ (128 + (a1 % 64)) [.int .u8 (128 + (a1 % 64))] from rfl) (Reps.none _ _)))))); intro v51 w21 ho22 hb hg_ hnew_; clear hg_ hnew_; (first | rw [← Ny47.out] at ho22 | (simp only [Int.reduceToNat] at ho22; rw [← Ny47.out] at ho22)); have n_ := a4_ (Kd.R_elder' z46_ (Kd.R_base ho22) hb) (Kd.R_lower (Kd.R_new' (Kd.R_newM (M := fun k_ => (P0_ k_ ∨ w.heap.size ≤ k_)) ho22 z228_ (fun k_ h_ => .inr h_)) (Kd.R_lt z46_)) (below_size z186_)) (Kept.below (S := (fun k_ => P0_ k_)) z187_ hb) (below_step z186_ hb); clear HO_0 HK HB; obtain ⟨HO_0, HO52, HK, HB⟩ := n_; clear hb ho22; obtain ⟨Ao24, co24, eo24⟩ := Kd.R_slice HO52.out; subst eo24) | ((with_reducible refine gate_builtin (b := .append) (xs := #[.tmp 57, .tmp 76]) rfl ?_); at_builtin; refine Kd.R_append_rows (Kd.int .u8) (w0 := w0) w0.heap.size rfl (.tmp 57) (.tmp 76) 152 5 (.int .u8 0) 1 rfl Tryz.underlying152 info5 rfl z106_ z161_ u9000_ l0 y47 _ _ _ (fun k_ => (P0_ k_ ∨ w.heap.size ≤ k_) ∧ some k_ ≠ (.slice Ao24 y47.length co24 : Value).ownBlock) (fun _ => False) rfl rfl ?aO ?aR (fun _ _ h => h) (fun _ h => h.elim) ?aF ?aB ?aS ?aL ?_; (case aR => exact z204_); (case aB => exact z186_); (case aF => exact (fun k_ hk => ⟨(.inr (Nat.le_trans z228_ hk)), Kd.fresh' (Kd.R_lt z32_) k_ hk⟩)); (case aO => exact z46_); (case aS => exact (below_size z186_)); (case aL => have := LMc20.out; omega); intro v53 w23 ho hb hg hat; rw [← Ny50.out] at ho; have n_ := a4_ (Kd.R_after (ok := (fun k_ => (P0_ k_ ∨ w.heap.size ≤ k_))) (by (with_reducible repeat (first | apply Kd.R_alloc | apply Kd.R_drewN | apply Kd.R_drew)); exact Kd.R_mono HO52.out (fun _ hk => ⟨hk.1.1, hk.2⟩)) hg hat) (hb) (Kept.of_grown (S := (fun k_ => P0_ k_)) hg z187_ (fun k_ e_ => (HO_0.out.1 k_ e_).1)) (ho); clear HO52 HB HK HO_0; obtain ⟨HO52, HB, HK, HO54⟩ := n_; clear ho hb hg hat))
   go_ret; exact ⟨_, z138_, by (with_reducible repeat (first | apply Kd.R_alloc | apply Kd.R_drewN | apply Kd.R_drew)); exact Kd.R_mono HO54.out (fun _ hk => hk.1), z186_, z187_⟩
def f54.f (k : Nat) (l0 : List Int) (a1 : Int) : Option (List Int) := if ((a1) % 4294967296) ≤ 127 then (if l0.length < 140737488355328 then (some (l0 ++ [(a1) % 256])) else (none)) else ((f32.f k l0 a1).bind fun t10 => (some t10))
theorem f54.calls (k : Nat) (P0_ : Nat → Prop) (u9000_ : Value) (l0 : List Int) (a1 : Int) (r : List Int) (w0 w : World) (hB : Below w0.heap.size w0 w) (ho0 : Kd.R (Kd.int .u8) 5 w w0.heap.size P0_ u9000_ l0) (h : f54.f k l0 a1 = some r) :
  Calls Tryz.prog 179 #[u9000_, .int .i32 a1] w fun e w' => ∃ v0_ : Value, e = .returned (v0_) ∧ Kd.R (Kd.int .u8) 5 w' w0.heap.size (fun k_ => (P0_ k_ ∨ w.heap.size ≤ k_)) v0_ r ∧ Below w0.heap.size w0 w' ∧ Kept w w' (fun k_ => P0_ k_) := by
 have HO0 := A_ (show Kd.R (Kd.int .u8) 5 w w0.heap.size (fun k_ => (P0_ k_ ∨ w.heap.size ≤ k_)) u9000_ l0 from Kd.R_mono ho0 (fun k_ hk => (.inl hk))); have HK := A_ (Kept.refl w (fun k_ => P0_ k_)); have HW0 := A_ hB.size; have HB := A_ hB; clear hB; unfold f54.f at h; have H := h; clear h; revert H; refine i1_ (fun c3b0 H => ?_) fun c3b0 H => ?_; rotate_left
 ·
  replace H := bm_ H; obtain ⟨t10, A60, H⟩ := H; have A6 := A_ A60; clear A60; obtain rfl := sj_ H; obtain ⟨Ao7, co7, eo7⟩ := Kd.R_slice HO0.out; subst eo7; go_enter Tryz.func179, Tryz.ntmps179
  go_wp2_with (first | ((with_reducible refine gate_callee (f := 207) rfl ?_); refine gl_ (some 15) Tryz.func207 #[.slice Ao7 l0.length co7, .int .i32 a1] ?_; (with_reducible refine (f32.calls k (fun k_ => some k_ = (.slice Ao7 l0.length co7 : Value).ownBlock) (.slice Ao7 l0.length co7) l0 a1 t10 w0 _ ?side1 ?side2 A6.out).mono ?_); (case side1 => exact z186_); (case side2 => exact Kd.R_tight rfl HO0.out); rintro e w8 ⟨v14, rfl, ho0, hb, hkp⟩; refine ⟨_, rfl, ?_⟩; have n_ := a3_ (Kd.R_mono (ok' := fun k_ => (P0_ k_ ∨ w.heap.size ≤ k_)) ho0 (fun k_ hk_ => Or.elim hk_ (fun hs_ => (HO0.out.1 k_ (hs_).symm)) (fun hn_ => (.inr (Nat.le_trans z228_ hn_))))) (Kept.then_ (S := (fun k_ => P0_ k_)) z187_ hkp (fun k_ hs_ => (fun e_ => (HO0.out.1 k_ e_.symm)) hs_)) (hb); clear HK HB HO0; obtain ⟨HO15, HK, HB⟩ := n_; (try clear hb); (try clear hkp); (try clear ho0)))
  go_ret; exact ⟨_, z138_, by (with_reducible repeat (first | apply Kd.R_alloc | apply Kd.R_drewN | apply Kd.R_drew)); exact HO15.out, z186_, z187_⟩
 revert H; refine i4_ fun c4 H => ?_; have LMc4 := A_ c4; clear c4; obtain ⟨y11, hy11⟩ : ∃ y_ : List Int, y_ = (l0 ++ [(a1) % 256]) := ⟨_, rfl⟩
 replace H : (some y11) = some r := by first | (rw [hy11]; with_reducible exact H) | (have H2_ := (Option.bind_some _ _).symm.trans H; rw [hy11]; with_reducible exact H2_) | (have H2_ := (Option.bind_some _ _).symm.trans H; with_reducible exact H2_) | with_reducible exact H | (rw [hy11]; exact H) | exact H
 have Ny11 := A_ hy11; clear hy11; obtain rfl := sj_ H; go_enter Tryz.func179, Tryz.ntmps179
 go_wp2_with (first | ((with_reducible refine gate_builtin (b := .append) (xs := #[.tmp 8, .tmp 11]) rfl ?_); at_builtin; refine Kd.R_append (Kd.int .u8) (w0 := w0) w0.heap.size rfl (.tmp 8) (.tmp 11) 152 5 (.int .u8 0) 1 rfl Tryz.underlying152 info5 rfl z106_ z161_ u9000_ l0 ((a1) % 256) [.int .u8 ((a1) % 256)] (fun k_ => (P0_ k_ ∨ w.heap.size ≤ k_)) (fun _ => False) rfl rfl ?aP (fun _ hk => hk.elim) ?aF ?aO ?aB ?aS ?aL ?_; (case aP => exact rfl); (case aB => exact z186_); (case aF => exact (fun k_ hk => (.inr (Nat.le_trans z228_ hk)))); (case aO => exact z27_); (case aS => exact (below_size z186_)); (case aL => have := LMc4.out; omega); intro v12 w5 ho hb hg hat; rw [← Ny11.out] at ho; have n_ := a3_ (hb) (Kept.of_grown (S := (fun k_ => P0_ k_)) hg z187_ (fun k_ e_ => (HO0.out.1 k_ e_))) (ho); clear HB HK HO0; obtain ⟨HB, HK, HO13⟩ := n_; clear ho hb hg hat))
 go_ret; exact ⟨_, z138_, z29_, z186_, z187_⟩
def f74.f (a0 : Int) : Option (Bool) := if a0 ≥ 97 then (if a0 ≤ 122 then (some true) else (if a0 ≥ 65 then (if a0 ≤ 90 then (some true) else (if a0 ≥ 48 then (if a0 ≤ 57 then (some true) else (some (decide (a0 ≥ 128)))) else (some (decide (a0 ≥ 128))))) else (if a0 ≥ 48 then (if a0 ≤ 57 then (some true) else (some (decide (a0 ≥ 128)))) else (some (decide (a0 ≥ 128)))))) else (if a0 ≥ 65 then (if a0 ≤ 90 then (some true) else (if a0 ≥ 48 then (if a0 ≤ 57 then (some true) else (some (decide (a0 ≥ 128)))) else (some (decide (a0 ≥ 128))))) else (if a0 ≥ 48 then (if a0 ≤ 57 then (some true) else (some (decide (a0 ≥ 128)))) else (some (decide (a0 ≥ 128)))))
theorem f74.calls (a0 : Int) (r : Bool) (w : World) (h : f74.f a0 = some r) :
  Calls Tryz.prog 178 #[.int .i32 a0] w fun e w' => e = .returned (.bool r) ∧ Drawn0 w w' := by
 unfold f74.f at h; have H := h; clear h; revert H; refine i1_ (fun c2b0 H => ?_) fun c2b0 H => ?_; rotate_left
 ·
  revert H; refine i1_ (fun c10b0 H => ?_) fun c10b0 H => ?_; rotate_left
  ·
   revert H; refine i1_ (fun c14b0 H => ?_) fun c14b0 H => ?_; rotate_left
   ·
    obtain rfl := sj_ H; go_enter Tryz.func178, Tryz.ntmps178; go_wp2; go_ret; exact ⟨z139_, z207_⟩
   revert H; refine i1_ (fun c15b0 H => ?_) fun c15b0 H => ?_; rotate_left
   ·
    obtain rfl := sj_ H; go_enter Tryz.func178, Tryz.ntmps178; go_wp2; go_ret; exact ⟨z139_, z207_⟩
   obtain rfl := sj_ H; go_enter Tryz.func178, Tryz.ntmps178; go_wp2; go_ret; exact ⟨z139_, z207_⟩
  revert H; refine i1_ (fun c11b0 H => ?_) fun c11b0 H => ?_
  ·
   obtain rfl := sj_ H; go_enter Tryz.func178, Tryz.ntmps178; go_wp2; go_ret; exact ⟨z139_, z207_⟩
  revert H; refine i1_ (fun c12b0 H => ?_) fun c12b0 H => ?_; rotate_left
  ·
   obtain rfl := sj_ H; go_enter Tryz.func178, Tryz.ntmps178; go_wp2; go_ret; exact ⟨z139_, z207_⟩
  revert H; refine i1_ (fun c13b0 H => ?_) fun c13b0 H => ?_; rotate_left
  ·
   obtain rfl := sj_ H; go_enter Tryz.func178, Tryz.ntmps178; go_wp2; go_ret; exact ⟨z139_, z207_⟩
  obtain rfl := sj_ H; go_enter Tryz.func178, Tryz.ntmps178; go_wp2; go_ret; exact ⟨z139_, z207_⟩
 revert H; refine i1_ (fun c3b0 H => ?_) fun c3b0 H => ?_
 ·
  obtain rfl := sj_ H; go_enter Tryz.func178, Tryz.ntmps178; go_wp2; go_ret; exact ⟨z139_, z207_⟩
 revert H; refine i1_ (fun c4b0 H => ?_) fun c4b0 H => ?_; rotate_left
 ·
  revert H; refine i1_ (fun c8b0 H => ?_) fun c8b0 H => ?_; rotate_left
  ·
   obtain rfl := sj_ H; go_enter Tryz.func178, Tryz.ntmps178; go_wp2; go_ret; exact ⟨z139_, z207_⟩
  revert H; refine i1_ (fun c9b0 H => ?_) fun c9b0 H => ?_; rotate_left
  ·
   obtain rfl := sj_ H; go_enter Tryz.func178, Tryz.ntmps178; go_wp2; go_ret; exact ⟨z139_, z207_⟩
  obtain rfl := sj_ H; go_enter Tryz.func178, Tryz.ntmps178; go_wp2; go_ret; exact ⟨z139_, z207_⟩
 revert H; refine i1_ (fun c5b0 H => ?_) fun c5b0 H => ?_
 ·
  obtain rfl := sj_ H; go_enter Tryz.func178, Tryz.ntmps178; go_wp2; go_ret; exact ⟨z139_, z207_⟩
 revert H; refine i1_ (fun c6b0 H => ?_) fun c6b0 H => ?_; rotate_left
 ·
  obtain rfl := sj_ H; go_enter Tryz.func178, Tryz.ntmps178; go_wp2; go_ret; exact ⟨z139_, z207_⟩
 revert H; refine i1_ (fun c7b0 H => ?_) fun c7b0 H => ?_; rotate_left
 ·
  obtain rfl := sj_ H; go_enter Tryz.func178, Tryz.ntmps178; go_wp2; go_ret; exact ⟨z139_, z207_⟩
 obtain rfl := sj_ H; go_enter Tryz.func178, Tryz.ntmps178; go_wp2; go_ret; exact ⟨z139_, z207_⟩
def f96.f (a0 : Int) : Option (Int) := if a0 ≥ 65 then (if a0 ≤ 90 then (some (wrap32 ((wrap32 (a0 - 65)) + 97))) else (some a0)) else (some a0)
theorem f96.calls (a0 : Int) (r : Int) (w : World) (h : f96.f a0 = some r) :
  Calls Tryz.prog 180 #[.int .i32 a0] w fun e w' => e = .returned (.int .i32 r) ∧ Drawn0 w w' := by
 unfold f96.f at h; have H := h; clear h; revert H; refine i1_ (fun c2b0 H => ?_) fun c2b0 H => ?_; rotate_left
 ·
  obtain rfl := sj_ H; go_enter Tryz.func180, Tryz.ntmps180; go_wp2; go_ret; exact ⟨z139_, z207_⟩
 revert H; refine i1_ (fun c3b0 H => ?_) fun c3b0 H => ?_; rotate_left
 ·
  obtain rfl := sj_ H; go_enter Tryz.func180, Tryz.ntmps180; go_wp2; go_ret; exact ⟨z139_, z207_⟩
 obtain rfl := sj_ H; go_enter Tryz.func180, Tryz.ntmps180; go_wp2; go_ret; exact ⟨z139_, z207_⟩
def f86.f (a0 : ByteArray) : Option (Bool) := some (decide ((a0.size : Int) > 32))
theorem f86.calls (a0 : ByteArray) (r : Bool) (w : World) (h : f86.f a0 = some r) :
  Calls Tryz.prog 138 #[.string a0] w fun e w' => e = .returned (.bool r) ∧ Drawn0 w w' := by
 unfold f86.f at h; have H := h; clear h; obtain rfl := sj_ H; go_enter Tryz.func138, Tryz.ntmps138; go_wp2; go_ret; exact ⟨z139_, z207_⟩
def f10.l0 : Nat → List ByteArray → Int → Int → Option (Int)
 | 0, _, _, _ => none
 | k + 1, x0, x7, x8 => if x8 < x7 then (if 0 ≤ x8 then (if x8 < (x0.length : Int) then ((f86.f (rdOf ByteArray.empty x0 x8)).bind fun t10 => (if t10 = true then (some x8) else (f10.l0 k x0 x7 (wrap64 (x8 + 1))))) else (none)) else (none)) else (some (-1))
def f10.f (k : Nat) (l0 : List ByteArray)  : Option (Int) := f10.l0 k l0 (l0.length : Int) 0
theorem f10.calls (k : Nat) (A0 : Option Addr) (c0 : Nat) (l0 : List ByteArray)  (r : Int) (w : World) (hr0 : Kd.C Kd.string w A0 l0.length l0) (hc0 : l0.length ≤ c0) (h : f10.f k l0 = some r) :
  Calls Tryz.prog 97 #[.slice A0 l0.length c0, (.func (.func 138) #[] #[])] w fun e w' => e = .returned (.int .i64 r) ∧ Drawn0 w w' := by
 have HR0 := A_ hr0; have HC0 := A_ hc0; clear hr0 hc0; unfold f10.f at h; have H := h; clear h; have H' := A_ H; clear H; go_enter Tryz.func97, Tryz.ntmps97; go_wp2
 go_loopg [8] k (fun kq v8 w' => ∃ (x8_1 : Int), v8 = .int .i64 x8_1 ∧ Aside0 (f10.l0 kq l0 (l0.length : Int) x8_1 = some r) ∧ Aside0 (kq ≤ k) ∧ Drawn0 w w')
 case atStart => exact ⟨(0), z139_, H', ⟨Nat.le_refl _⟩, z207_⟩
 case round =>
  clear H'; obtain ⟨x8_1, rfl, HA, HK1, ⟨m1, rfl⟩⟩ := hrel
  cases gk with
  | zero => exact absurd HA.out (by simp [f10.l0])
  | succ k1 =>
  have H := HA.out; clear HA; simp only [f10.l0] at H; revert H; refine i1_ (fun c3b0 H => ?_) fun c3b0 H => ?_; rotate_left
  ·
   obtain rfl := sj_ H; go_wp2; go_ret; exact ⟨z139_, z207_⟩
  revert H; refine i3_ fun c4b0 H => ?_; revert H; refine i3_ fun c5b0 H => ?_; replace H := bm_ H; obtain ⟨t10, A60, H⟩ := H; have A6 := A_ A60; clear A60
  by_cases c7 : t10 = true
  ·
   subst c7; have H1 := tt_ H; clear H; have H := H1; clear H1; obtain rfl := sj_ H; obtain ⟨p11, q11, ad11, e11, hx11_0⟩ := pq_ (Kd.at_string HR0.out x8_1); cases e11
   go_wp2_with (first | (go_at_call 138; (with_reducible refine (f86.calls (rdOf ByteArray.empty l0 x8_1) true _ A6.out).mono ?_); rintro e w' ⟨rfl, ⟨nd, rfl⟩⟩))
   go_ret; exact ⟨z139_, z207_⟩
  ·
   replace c7 := Bool.eq_false_iff.mpr c7; subst c7; have H1 := ff_ H; clear H; have H := H1; clear H1; have H' := A_ H; clear H; obtain ⟨p11, q11, ad11, e11, hx11_0⟩ := pq_ (Kd.at_string HR0.out x8_1); cases e11
   go_wp2_with (first | (go_at_call 138; (with_reducible refine (f86.calls (rdOf ByteArray.empty l0 x8_1) false _ A6.out).mono ?_); rintro e w' ⟨rfl, ⟨nd, rfl⟩⟩))
   go_roundg k1
   case measure => have := HK1.out; omega
   case rel => exact ⟨(wrap64 (x8_1 + 1)), z139_, H', ⟨z148_⟩, z207_⟩
def f34.f (k : Nat) (l0 : List ByteArray)  : Option (Bool) := (f10.f k l0).bind fun t10 => (some (decide (t10 ≥ 0)))
theorem f34.calls (k : Nat) (A0 : Option Addr) (c0 : Nat) (l0 : List ByteArray)  (r : Bool) (w : World) (hr0 : Kd.C Kd.string w A0 l0.length l0) (hc0 : l0.length ≤ c0) (h : f34.f k l0 = some r) :
  Calls Tryz.prog 65 #[.slice A0 l0.length c0, (.func (.func 138) #[] #[])] w fun e w' => e = .returned (.bool r) ∧ Drawn0 w w' := by
 have HR0 := A_ hr0; have HC0 := A_ hc0; clear hr0 hc0; unfold f34.f at h; have H := h; clear h; replace H := bm_ H; obtain ⟨t10, A30, H⟩ := H; have A3 := A_ A30; clear A30; obtain rfl := sj_ H; go_enter Tryz.func65, Tryz.ntmps65
 go_wp2_with (first | ((with_reducible refine gate_callee (f := 97) rfl ?_); refine gl_ (some 7) Tryz.func97 #[.slice A0 l0.length c0, (.func (.func 138) #[] #[])] ?_; (with_reducible refine (f10.calls k _ _ l0  t10 _ ?side1 HC0.out A3.out).mono ?_); (case side1 => exact z208_); rintro e w' ⟨rfl, ⟨nd, rfl⟩⟩; refine ⟨_, rfl, ?_⟩))
 go_ret; exact ⟨z139_, z207_⟩
def f55.l0 : Nat → Int → Int → List Int → Int → Int → Option (Bool)
 | 0, _, _, _, _, _ => none
 | k + 1, x1, x5, x8, x9, x10 => if x10 < x9 then (if 0 ≤ x10 then (if x10 < (x8.length : Int) then (if (rd x8 x10) ≤ x5 then (some false) else (if (rd x8 x10) ≥ x1 then (some false) else (f55.l0 k x1 (rd x8 x10) x8 x9 (wrap64 (x10 + 1))))) else (none)) else (none)) else (some true)
def f55.f (k : Nat) (l0 : List Int) (a1 : Int) : Option (Bool) := f55.l0 k a1 (-1) l0 (l0.length : Int) 0
theorem f55.calls (k : Nat) (A0 : Option Addr) (c0 : Nat) (l0 : List Int) (a1 : Int) (r : Bool) (w : World) (hr0 : Kd.C (Kd.int .i64) w A0 l0.length l0) (hc0 : l0.length ≤ c0) (h : f55.f k l0 a1 = some r) :
  Calls Tryz.prog 103 #[.slice A0 l0.length c0, .int .i64 a1] w fun e w' => e = .returned (.bool r) ∧ Drawn0 w w' := by
 have HR0 := A_ hr0; have HC0 := A_ hc0; clear hr0 hc0; unfold f55.f at h; have H := h; clear h; have H' := A_ H; clear H; go_enter Tryz.func103, Tryz.ntmps103; go_wp2
 go_loopg [5, 10] k (fun kq v5 v10 w' => ∃ (x5_1 : Int) (x10_1 : Int), v5 = .int .i64 x5_1 ∧ v10 = .int .i64 x10_1 ∧ Aside0 (f55.l0 kq a1 x5_1 l0 (l0.length : Int) x10_1 = some r) ∧ Aside0 (kq ≤ k) ∧ Drawn0 w w')
 case atStart => exact ⟨((-1)), (0), z139_, z139_, H', ⟨Nat.le_refl _⟩, z207_⟩
 case round =>
  clear H'; obtain ⟨x5_1, x10_1, rfl, rfl, HA, HK1, ⟨m1, rfl⟩⟩ := hrel
  cases gk with
  | zero => exact absurd HA.out (by simp [f55.l0])
  | succ k1 =>
  have H := HA.out; clear HA; simp only [f55.l0] at H; revert H; refine i1_ (fun c3b0 H => ?_) fun c3b0 H => ?_; rotate_left
  ·
   obtain rfl := sj_ H; go_wp2; go_ret; exact ⟨z139_, z207_⟩
  revert H; refine i3_ fun c4b0 H => ?_; revert H; refine i3_ fun c5b0 H => ?_; revert H; refine i1_ (fun c6b0 H => ?_) fun c6b0 H => ?_
  ·
   obtain rfl := sj_ H; obtain ⟨p11, q11, ad11, e11, hx11_0⟩ := pq_ (Kd.at_int HR0.out x10_1); cases e11; go_wp2; go_ret; exact ⟨z139_, z207_⟩
  revert H; refine i1_ (fun c7b0 H => ?_) fun c7b0 H => ?_
  ·
   obtain rfl := sj_ H; obtain ⟨p11, q11, ad11, e11, hx11_0⟩ := pq_ (Kd.at_int HR0.out x10_1); cases e11; go_wp2; go_ret; exact ⟨z139_, z207_⟩
  have H' := A_ H; clear H; obtain ⟨p11, q11, ad11, e11, hx11_0⟩ := pq_ (Kd.at_int HR0.out x10_1); cases e11; go_wp2
  go_roundg k1
  case measure => have := HK1.out; omega
  case rel => exact ⟨(rd l0 x10_1), (wrap64 (x10_1 + 1)), z139_, z139_, H', ⟨z148_⟩, z207_⟩
end Go.Proofs.YtbbmdakdghefnaaGreatDoor.T
namespace Go.Proofs.YtbbmdakdghefnaaGreatDoor.T
open Go.RowKit Go.Proofs.YtbbmdakdghefnaaGreatDoorW.PrintWords Go.Proofs.YtbbmdakdghefnaaGreatDoorW.PrintLast Go.Proofs.YtbbmdakdghefnaaGreatDoorW.PrintMore
attribute [local go_sem] string_leq_ max2_int min2_int max_two min_two max_three min_three max_four min_four
set_option linter.unusedVariables false
set_option linter.unusedSimpArgs false
def f51.l0 : Nat → List (S99) → List Int → List (S99) → Int → Int → Option (Bool)
 | 0, _, _, _, _, _ => none
 | k + 1, x0, x3, x6, x7, x8 => if x8 < x7 then (if 0 ≤ x8 then (if x8 < (x6.length : Int) then (if (((rd_T99 x6 x8).f1).length : Int) = 0 then (some false) else (if (((rd_T99 x6 x8).f1).length : Int) > 120 then (some false) else ((f55.f k ((rd_T99 x6 x8).f1) 120).bind fun t10 => (if t10 = true then (if x3.length < 17592186044416 then (f51.l0 k x0 (x3 ++ [(rd_T99 x6 x8).f0]) x6 x7 (wrap64 (x8 + 1))) else (none)) else (some false))))) else (none)) else (none)) else (if (x0.length : Int) ≤ 64 then ((f55.f k x3 64).bind fun t11 => (some t11)) else (some false))
def f51.f (k : Nat) (l0 : List (S99)) : Option (Bool) := f51.l0 k l0 ([] : List Int) l0 (l0.length : Int) 0
theorem f51.calls (k : Nat) (A0 : Option Addr) (c0 : Nat) (l0 : List (S99)) (r : Bool) (w : World) (hr0 : Kd.C k99 w A0 l0.length l0) (hc0 : l0.length ≤ c0) (h : f51.f k l0 = some r) :
  Calls Tryz.prog 75 #[.slice A0 l0.length c0] w fun e w' => e = .returned (.bool r) ∧ Below w.heap.size w w' := by
 have hu99 := Tryz.underlying99; have HR0 := A_ hr0; have HC0 := A_ hc0; clear hr0 hc0; have HB := A_ (Below.refl w.heap.size w); unfold f51.f at h; have H := h; clear h; have H' := A_ H; clear H; go_enter Tryz.func75, Tryz.ntmps75; go_wp2
 go_loopg [3, 8] k (fun kq v3 v8 w' => ∃ (x3_1 : List Int) (x8_1 : Int), v8 = .int .i64 x8_1 ∧ Aside0 (f51.l0 kq l0 x3_1 l0 (l0.length : Int) x8_1 = some r) ∧ Aside0 (kq ≤ k) ∧ Aside0 (Kd.R (Kd.int .i64) 3 w' w.heap.size (fun _ => True) v3 x3_1) ∧ Aside0 (Below w.heap.size w w'))
 case atStart => exact ⟨(([] : List Int)), (0), z139_, H', ⟨Nat.le_refl _⟩, ⟨z134_⟩, ⟨z186_⟩⟩
 case round =>
  clear H'; obtain ⟨x3_1, x8_1, rfl, HA, HK1, HO_3, HB⟩ := hrel
  cases gk with
  | zero => exact absurd HA.out (by simp [f51.l0])
  | succ k1 =>
  have H := HA.out; clear HA; simp only [f51.l0] at H; revert H; refine i1_ (fun c2b0 H => ?_) fun c2b0 H => ?_; rotate_left
  ·
   revert H; refine i2_ (fun c19 H => ?_) fun c19 H => ?_; rotate_left
   ·
    have c19b0 := decide_eq_false c19; have c19b1 : decide (l0.length ≤ 64) = false := decide_eq_false z161_; clear c19; obtain rfl := sj_ H; go_wp2; go_ret; exact ⟨z138_, z186_⟩
   have c19b0 := decide_eq_true c19; have c19b1 : decide (l0.length ≤ 64) = true := decide_eq_true z161_; clear c19; replace H := bm_ H; obtain ⟨t29, A30, H⟩ := H; have A20 := A_ A30; clear A30; obtain rfl := sj_ H; obtain ⟨Ao21, co21, eo21⟩ := Kd.R_slice HO_3.out; subst eo21
   go_wp2_with (first | (go_at_call 103; (with_reducible refine (f55.calls k1 _ _ x3_1 64 t29 _ ?side1 ?side2 A20.out).mono ?_); (case side1 => repeat (first | exact (Kd.R_reads' HO_3.out).2.2 | (with_reducible refine Kd.C_alloc ?_ _) | (with_reducible refine Kd.C_drewN ?_ _) | (with_reducible refine Kd.C_drew ?_))); (case side2 => exact (Kd.R_reads' HO_3.out).2.1); rintro e w' ⟨rfl, ⟨nd, rfl⟩⟩))
   go_ret; exact ⟨z138_, z186_⟩
  revert H; refine i3_ fun c3b0 H => ?_; revert H; refine i3_ fun c4b0 H => ?_; revert H; refine i2_ (fun c5 H => ?_) fun c5 H => ?_
  ·
   have c5b0 := beq_iff_eq.mpr c5; have c5b1 := bne_eq_false_iff_eq.mpr c5; clear c5; obtain rfl := sj_ H; obtain ⟨p22, q22, ad22, A22_1, c22_1, e22, hx22_0, hx22_1, hl22_1, hi22_1⟩ := pq_ (at_T99 HR0.out x8_1); cases e22; replace hx22_0 := hc_ HB.out hx22_0; replace hx22_1 := hc_ HB.out hx22_1; have HR22_1 := A_ hi22_1; have HC22_1 := A_ hl22_1; clear hi22_1 hl22_1
   go_wp2_with (first | ((with_reducible refine gate_dst (N := 5) rfl ?_); (try (refine gate_guard z214_ ?_; dsimp only)); refine box_event ?hg (N := 5) ?hd (cs := #[.int .i64 0, .slice none 0 0]) (t := 99) ?hr ?_; (case hd => rfl); (case hg => rfl); (case hr => exact z107_); intro gb23 hg w6 hbox hb; have n_ := a5_ (Kd.R_below z49_ hb) (below_step z186_ hb) (hbox) ((z234_ : w.heap.size ≤ gb23)) ((z234_ : w.heap.size ≤ gb23)); clear HO_3 HB; obtain ⟨HO_3, HB, BK23, GW23, GE23⟩ := n_; clear hb hbox hg; obtain ⟨hcz7_0, hcz7_1, hfz7_0, hfz7_1⟩ := b2_ BK23.out))
   go_ret; exact ⟨z138_, z174_⟩
  have c5b0 := beq_eq_false_iff_ne.mpr c5; have c5b1 := bne_iff_ne.mpr c5; have c5b2 : ¬ (((rd_T99 l0 x8_1).f1) = []) := fun h_ => c5 (by rw [h_]; rfl); revert H; refine i2_ (fun c8 H => ?_) fun c8 H => ?_
  ·
   have c8b0 := decide_eq_true c8; have c8b1 : decide (120 < ((rd_T99 l0 x8_1).f1).length) = true := decide_eq_true z161_; clear c8; obtain rfl := sj_ H; obtain ⟨p22, q22, ad22, A22_1, c22_1, e22, hx22_0, hx22_1, hl22_1, hi22_1⟩ := pq_ (at_T99 HR0.out x8_1); cases e22; replace hx22_0 := hc_ HB.out hx22_0; replace hx22_1 := hc_ HB.out hx22_1; have HR22_1 := A_ hi22_1; have HC22_1 := A_ hl22_1; clear hi22_1 hl22_1
   go_wp2_with (first | ((with_reducible refine gate_dst (N := 5) rfl ?_); (try (refine gate_guard z214_ ?_; dsimp only)); refine box_event ?hg (N := 5) ?hd (cs := #[.int .i64 0, .slice none 0 0]) (t := 99) ?hr ?_; (case hd => rfl); (case hg => rfl); (case hr => exact z107_); intro gb23 hg w9 hbox hb; have n_ := a5_ (Kd.R_below z49_ hb) (below_step z186_ hb) (hbox) ((z234_ : w.heap.size ≤ gb23)) ((z234_ : w.heap.size ≤ gb23)); clear HO_3 HB; obtain ⟨HO_3, HB, BK23, GW23, GE23⟩ := n_; clear hb hbox hg; obtain ⟨hcz10_0, hcz10_1, hfz10_0, hfz10_1⟩ := b2_ BK23.out))
   go_ret; exact ⟨z138_, z174_⟩
  have c8b0 := decide_eq_false c8; have c8b1 : decide (120 < ((rd_T99 l0 x8_1).f1).length) = false := decide_eq_false z161_; clear c8; replace H := bm_ H; obtain ⟨t24, A25, H⟩ := H; have A11 := A_ A25; clear A25
  by_cases c12 : t24 = true
  ·
   subst c12; have H1 := tt_ H; clear H; have H := H1; clear H1; revert H; refine i4_ fun c13 H => ?_; have LMc13 := A_ c13; clear c13; obtain ⟨y26, hy26⟩ : ∃ y_ : List Int, y_ = (x3_1 ++ [(rd_T99 l0 x8_1).f0]) := ⟨_, rfl⟩; replace H : (f51.l0 k1 l0 y26 l0 (l0.length : Int) (wrap64 (x8_1 + 1))) = some r := z123_; have Ny26 := A_ hy26; clear hy26; have H' := A_ H; clear H; obtain ⟨p22, q22, ad22, A22_1, c22_1, e22, hx22_0, hx22_1, hl22_1, hi22_1⟩ := pq_ (at_T99 HR0.out x8_1); cases e22; replace hx22_0 := hc_ HB.out hx22_0; replace hx22_1 := hc_ HB.out hx22_1; have HR22_1 := A_ hi22_1; have HC22_1 := A_ hl22_1; clear hi22_1 hl22_1
   go_wp2_with (first | ((with_reducible refine gate_dst (N := 5) rfl ?_); (try (refine gate_guard z214_ ?_; dsimp only)); refine box_event ?hg (N := 5) ?hd (cs := #[.int .i64 0, .slice none 0 0]) (t := 99) ?hr ?_; (case hd => rfl); (case hg => rfl); (case hr => exact z107_); intro gb23 hg w14 hbox hb; have n_ := a5_ (Kd.R_below z49_ hb) (below_step z186_ hb) (hbox) ((z234_ : w.heap.size ≤ gb23)) ((z234_ : w.heap.size ≤ gb23)); clear HO_3 HB; obtain ⟨HO_3, HB, BK23, GW23, GE23⟩ := n_; clear hb hbox hg; obtain ⟨hcz15_0, hcz15_1, hfz15_0, hfz15_1⟩ := b2_ BK23.out) | (go_at_call 103; (with_reducible refine (f55.calls k1 _ _ ((rd_T99 l0 x8_1).f1) 120 true _ ?side1 HC22_1.out A11.out).mono ?_); (case side1 => exact Kd.C_below HR22_1.out z174_); rintro e w' ⟨rfl, ⟨nd, rfl⟩⟩) | ((with_reducible refine gate_builtin (b := .append) (xs := #[.tmp 28, .tmp 31]) rfl ?_); (try (refine gate_guard z214_ ?_; dsimp only)); at_builtin; refine Kd.R_append (Kd.int .i64) (w0 := w) w.heap.size rfl (.tmp 28) (.tmp 31) 42 3 (.int .i64 0) 8 rfl Tryz.underlying42 info3 rfl z106_ z161_ u3 x3_1 ((rd_T99 l0 x8_1).f0) [.int .i64 ((rd_T99 l0 x8_1).f0)] (fun _ => True) (fun _ => False) rfl z107_ ?aP (fun _ hk => hk.elim) ?aF ?aO ?aB ?aS ?aL ?_; (case aP => exact rfl); (case aB => exact z174_); (case aF => exact (fun _ _ => trivial)); (case aO => exact (by (with_reducible repeat (first | apply Kd.R_alloc | apply Kd.R_drewN | apply Kd.R_drew)); exact Kd.R_mono (Kd.R_far (p := ⟨gb23, 1, none⟩) (Kd.R_far (p := ⟨gb23, 0, none⟩) (Kd.R_types HO_3.out BK23.out z106_) (fun _ hk => hk.2) (.int .i64 ((rd_T99 l0 x8_1).f0))) (fun _ hk => hk.2) (.slice A22_1 ((rd_T99 l0 x8_1).f1).length c22_1)) (fun _ hk => trivial))); (case aS => exact (below_size z174_)); (case aL => have := LMc13.out; omega); intro v27 w16 ho hb hg hat; rw [← Ny26.out] at ho; have n_ := a3_ (blk_grown (g := gb23) (o := .cells #[.int .i64 ((rd_T99 l0 x8_1).f0), .slice A22_1 ((rd_T99 l0 x8_1).f1).length c22_1] 99 (0, 0)) (by (with_reducible repeat (first | refine blk_drewN ?_ _ | refine blk_drew ?_ | refine blk_alloc ?_ _)); refine blk_put (cs := #[.int .i64 ((rd_T99 l0 x8_1).f0), .slice none 0 0]) ?_ 1 _ rfl; (with_reducible repeat (first | refine blk_drewN ?_ _ | refine blk_drew ?_ | refine blk_alloc ?_ _)); refine blk_put (cs := #[.int .i64 0, .slice none 0 0]) ?_ 0 _ rfl; (with_reducible repeat (first | refine blk_drewN ?_ _ | refine blk_drew ?_ | refine blk_alloc ?_ _)); exact BK23.out) hg (Kd.R_ne HO_3.out BK23.out z106_)) (hb) (ho); clear BK23 HB HO_3; obtain ⟨BK23, HB, HO28⟩ := n_; clear ho hb hg hat))
   go_roundg k1
   case measure => have := HK1.out; omega
   case rel => exact ⟨(y26), (wrap64 (x8_1 + 1)), z139_, H', ⟨z148_⟩, ⟨by (with_reducible repeat (first | apply Kd.R_alloc | apply Kd.R_drewN | apply Kd.R_drew)); exact HO28.out⟩, ⟨z174_⟩⟩
  ·
   replace c12 := Bool.eq_false_iff.mpr c12; subst c12; have H1 := ff_ H; clear H; have H := H1; clear H1; obtain rfl := sj_ H; obtain ⟨p22, q22, ad22, A22_1, c22_1, e22, hx22_0, hx22_1, hl22_1, hi22_1⟩ := pq_ (at_T99 HR0.out x8_1); cases e22; replace hx22_0 := hc_ HB.out hx22_0; replace hx22_1 := hc_ HB.out hx22_1; have HR22_1 := A_ hi22_1; have HC22_1 := A_ hl22_1; clear hi22_1 hl22_1
   go_wp2_with (first | ((with_reducible refine gate_dst (N := 5) rfl ?_); (try (refine gate_guard z214_ ?_; dsimp only)); refine box_event ?hg (N := 5) ?hd (cs := #[.int .i64 0, .slice none 0 0]) (t := 99) ?hr ?_; (case hd => rfl); (case hg => rfl); (case hr => exact z107_); intro gb23 hg w17 hbox hb; have n_ := a5_ (Kd.R_below z49_ hb) (below_step z186_ hb) (hbox) ((z234_ : w.heap.size ≤ gb23)) ((z234_ : w.heap.size ≤ gb23)); clear HO_3 HB; obtain ⟨HO_3, HB, BK23, GW23, GE23⟩ := n_; clear hb hbox hg; obtain ⟨hcz18_0, hcz18_1, hfz18_0, hfz18_1⟩ := b2_ BK23.out) | (go_at_call 103; (with_reducible refine (f55.calls k1 _ _ ((rd_T99 l0 x8_1).f1) 120 false _ ?side1 HC22_1.out A11.out).mono ?_); (case side1 => exact Kd.C_below HR22_1.out z174_); rintro e w' ⟨rfl, ⟨nd, rfl⟩⟩))
   go_ret; exact ⟨z138_, z174_⟩
def f87.f (a0 : ByteArray) (a1 : Int) : Option (Bool) := if (a0.size : Int) > 0 then (some (decide ((a0.size : Int) ≤ a1))) else (some false)
theorem f87.calls (a0 : ByteArray) (a1 : Int) (r : Bool) (w : World) (h : f87.f a0 a1 = some r) :
  Calls Tryz.prog 74 #[.string a0, .int .i64 a1] w fun e w' => e = .returned (.bool r) ∧ Drawn0 w w' := by
 unfold f87.f at h; have H := h; clear h; revert H; refine i2_ (fun c3 H => ?_) fun c3 H => ?_
 ·
  have c3b0 := decide_eq_true c3; have c3b1 : decide (0 < a0.size) = true := decide_eq_true z161_; clear c3; obtain rfl := sj_ H; go_enter Tryz.func74, Tryz.ntmps74; go_wp2; go_ret; exact ⟨z139_, z207_⟩
 have c3b0 := decide_eq_false c3; have c3b1 : decide (0 < a0.size) = false := decide_eq_false z161_; clear c3; obtain rfl := sj_ H; go_enter Tryz.func74, Tryz.ntmps74; go_wp2; go_ret; exact ⟨z139_, z207_⟩
def f85.l0 : Nat → List Int → Int → List Int → Int → Int → Option (Bool)
 | 0, _, _, _, _, _ => none
 | k + 1, x0, x3, x6, x7, x8 => if x8 < x7 then (if 0 ≤ x8 then (if x8 < (x6.length : Int) then (if (rd x6 x8) ≤ x3 then (some false) else (f85.l0 k x0 (rd x6 x8) x6 x7 (wrap64 (x8 + 1)))) else (none)) else (none)) else (some (decide ((x0.length : Int) ≤ 2000)))
def f85.f (k : Nat) (l0 : List Int) : Option (Bool) := f85.l0 k l0 (-1) l0 (l0.length : Int) 0
theorem f85.calls (k : Nat) (A0 : Option Addr) (c0 : Nat) (l0 : List Int) (r : Bool) (w : World) (hr0 : Kd.C (Kd.int .i64) w A0 l0.length l0) (hc0 : l0.length ≤ c0) (h : f85.f k l0 = some r) :
  Calls Tryz.prog 145 #[.slice A0 l0.length c0] w fun e w' => e = .returned (.bool r) ∧ Drawn0 w w' := by
 have HR0 := A_ hr0; have HC0 := A_ hc0; clear hr0 hc0; unfold f85.f at h; have H := h; clear h; have H' := A_ H; clear H; go_enter Tryz.func145, Tryz.ntmps145; go_wp2
 go_loopg [3, 8] k (fun kq v3 v8 w' => ∃ (x3_1 : Int) (x8_1 : Int), v3 = .int .i64 x3_1 ∧ v8 = .int .i64 x8_1 ∧ Aside0 (f85.l0 kq l0 x3_1 l0 (l0.length : Int) x8_1 = some r) ∧ Aside0 (kq ≤ k) ∧ Drawn0 w w')
 case atStart => exact ⟨((-1)), (0), z139_, z139_, H', ⟨Nat.le_refl _⟩, z207_⟩
 case round =>
  clear H'; obtain ⟨x3_1, x8_1, rfl, rfl, HA, HK1, ⟨m1, rfl⟩⟩ := hrel
  cases gk with
  | zero => exact absurd HA.out (by simp [f85.l0])
  | succ k1 =>
  have H := HA.out; clear HA; simp only [f85.l0] at H; revert H; refine i1_ (fun c2b0 H => ?_) fun c2b0 H => ?_; rotate_left
  ·
   obtain rfl := sj_ H; go_wp2; go_ret; exact ⟨z139_, z207_⟩
  revert H; refine i3_ fun c3b0 H => ?_; revert H; refine i3_ fun c4b0 H => ?_; revert H; refine i1_ (fun c5b0 H => ?_) fun c5b0 H => ?_
  ·
   obtain rfl := sj_ H; obtain ⟨p10, q10, ad10, e10, hx10_0⟩ := pq_ (Kd.at_int HR0.out x8_1); cases e10; go_wp2; go_ret; exact ⟨z139_, z207_⟩
  have H' := A_ H; clear H; obtain ⟨p10, q10, ad10, e10, hx10_0⟩ := pq_ (Kd.at_int HR0.out x8_1); cases e10; go_wp2
  go_roundg k1
  case measure => have := HK1.out; omega
  case rel => exact ⟨(rd l0 x8_1), (wrap64 (x8_1 + 1)), z139_, z139_, H', ⟨z148_⟩, z207_⟩
def f61.l0 : Nat → List Int → List (S99) → Int → Int → Option (List Int)
 | 0, _, _, _, _ => none
 | k + 1, x3, x6, x7, x8 => if x8 < x7 then (if 0 ≤ x8 then (if x8 < (x6.length : Int) then (if x3.length < 17592186044416 then (f61.l0 k (x3 ++ [(rd_T99 x6 x8).f0]) x6 x7 (wrap64 (x8 + 1))) else (none)) else (none)) else (none)) else (some x3)
def f61.f (k : Nat) (l0 : List (S99)) : Option (List Int) := f61.l0 k ([] : List Int) l0 (l0.length : Int) 0
theorem f61.calls (k : Nat) (A0 : Option Addr) (c0 : Nat) (l0 : List (S99)) (r : List Int) (w : World) (hr0 : Kd.C k99 w A0 l0.length l0) (hc0 : l0.length ≤ c0) (h : f61.f k l0 = some r) :
  Calls Tryz.prog 106 #[.slice A0 l0.length c0] w fun e w' => ∃ v0_ : Value, e = .returned (v0_) ∧ Kd.R (Kd.int .i64) 3 w' w.heap.size (fun _ => True) v0_ r ∧ Below w.heap.size w w' := by
 have hu99 := Tryz.underlying99; have HR0 := A_ hr0; have HC0 := A_ hc0; clear hr0 hc0; have HB := A_ (Below.refl w.heap.size w); unfold f61.f at h; have H := h; clear h; have H' := A_ H; clear H; go_enter Tryz.func106, Tryz.ntmps106; go_wp2
 go_loopg [3, 8] k (fun kq v3 v8 w' => ∃ (x3_1 : List Int) (x8_1 : Int), v8 = .int .i64 x8_1 ∧ Aside0 (f61.l0 kq x3_1 l0 (l0.length : Int) x8_1 = some r) ∧ Aside0 (kq ≤ k) ∧ Aside0 (Kd.R (Kd.int .i64) 3 w' w.heap.size (fun _ => True) v3 x3_1) ∧ Aside0 (Below w.heap.size w w'))
 case atStart => exact ⟨(([] : List Int)), (0), z139_, H', ⟨Nat.le_refl _⟩, ⟨z134_⟩, ⟨z186_⟩⟩
 case round =>
  clear H'; obtain ⟨x3_1, x8_1, rfl, HA, HK1, HO_3, HB⟩ := hrel
  cases gk with
  | zero => exact absurd HA.out (by simp [f61.l0])
  | succ k1 =>
  have H := HA.out; clear HA; simp only [f61.l0] at H; revert H; refine i1_ (fun c2b0 H => ?_) fun c2b0 H => ?_; rotate_left
  ·
   obtain rfl := sj_ H; go_wp2; go_ret; exact ⟨_, z138_, z49_, z186_⟩
  revert H; refine i3_ fun c3b0 H => ?_; revert H; refine i3_ fun c4b0 H => ?_; revert H; refine i4_ fun c5 H => ?_; have LMc5 := A_ c5; clear c5; obtain ⟨y10, hy10⟩ : ∃ y_ : List Int, y_ = (x3_1 ++ [(rd_T99 l0 x8_1).f0]) := ⟨_, rfl⟩
  replace H : (f61.l0 k1 y10 l0 (l0.length : Int) (wrap64 (x8_1 + 1))) = some r := by first | (rw [hy10]; with_reducible exact H) | (have H2_ := (Option.bind_some _ _).symm.trans H; rw [hy10]; with_reducible exact H2_) | (have H2_ := (Option.bind_some _ _).symm.trans H; with_reducible exact H2_) | with_reducible exact H | (rw [hy10]; exact H) | exact H
  have Ny10 := A_ hy10; clear hy10; have H' := A_ H; clear H; obtain ⟨p11, q11, ad11, A11_1, c11_1, e11, hx11_0, hx11_1, hl11_1, hi11_1⟩ := pq_ (at_T99 HR0.out x8_1); cases e11; replace hx11_0 := hc_ HB.out hx11_0; replace hx11_1 := hc_ HB.out hx11_1; have HR11_1 := A_ hi11_1; have HC11_1 := A_ hl11_1; clear hi11_1 hl11_1
  go_wp2_with (first | ((with_reducible refine gate_dst (N := 5) rfl ?_); refine box_event ?hg (N := 5) ?hd (cs := #[.int .i64 0, .slice none 0 0]) (t := 99) ?hr ?_; (case hd => rfl); (case hg => rfl); (case hr => exact z107_); intro gb12 hg w6 hbox hb; have n_ := a5_ (Kd.R_below z49_ hb) (below_step z186_ hb) (hbox) ((z234_ : w.heap.size ≤ gb12)) ((z234_ : w.heap.size ≤ gb12)); clear HO_3 HB; obtain ⟨HO_3, HB, BK12, GW12, GE12⟩ := n_; clear hb hbox hg; obtain ⟨hcz7_0, hcz7_1, hfz7_0, hfz7_1⟩ := b2_ BK12.out) | ((with_reducible refine gate_builtin (b := .append) (xs := #[.tmp 12, .tmp 15]) rfl ?_); at_builtin; refine Kd.R_append (Kd.int .i64) (w0 := w) w.heap.size rfl (.tmp 12) (.tmp 15) 42 3 (.int .i64 0) 8 rfl Tryz.underlying42 info3 rfl z106_ z161_ u3 x3_1 ((rd_T99 l0 x8_1).f0) [.int .i64 ((rd_T99 l0 x8_1).f0)] (fun _ => True) (fun _ => False) rfl z107_ ?aP (fun _ hk => hk.elim) ?aF ?aO ?aB ?aS ?aL ?_; (case aP => exact rfl); (case aB => exact z168_); (case aF => exact (fun _ _ => trivial)); (case aO => exact (by (with_reducible repeat (first | apply Kd.R_alloc | apply Kd.R_drewN | apply Kd.R_drew)); exact Kd.R_mono (Kd.R_far (p := ⟨gb12, 1, none⟩) (Kd.R_far (p := ⟨gb12, 0, none⟩) (Kd.R_types HO_3.out BK12.out z106_) (fun _ hk => hk.2) (.int .i64 ((rd_T99 l0 x8_1).f0))) (fun _ hk => hk.2) (.slice A11_1 ((rd_T99 l0 x8_1).f1).length c11_1)) (fun _ hk => trivial))); (case aS => exact (below_size z168_)); (case aL => have := LMc5.out; omega); intro v13 w8 ho hb hg hat; rw [← Ny10.out] at ho; have n_ := a3_ (blk_grown (g := gb12) (o := .cells #[.int .i64 ((rd_T99 l0 x8_1).f0), .slice A11_1 ((rd_T99 l0 x8_1).f1).length c11_1] 99 (0, 0)) (by (with_reducible repeat (first | refine blk_drewN ?_ _ | refine blk_drew ?_ | refine blk_alloc ?_ _)); refine blk_put (cs := #[.int .i64 ((rd_T99 l0 x8_1).f0), .slice none 0 0]) ?_ 1 _ rfl; (with_reducible repeat (first | refine blk_drewN ?_ _ | refine blk_drew ?_ | refine blk_alloc ?_ _)); refine blk_put (cs := #[.int .i64 0, .slice none 0 0]) ?_ 0 _ rfl; (with_reducible repeat (first | refine blk_drewN ?_ _ | refine blk_drew ?_ | refine blk_alloc ?_ _)); exact BK12.out) hg (Kd.R_ne HO_3.out BK12.out z106_)) (hb) (ho); clear BK12 HB HO_3; obtain ⟨BK12, HB, HO14⟩ := n_; clear ho hb hg hat))
  go_roundg k1
  case measure => have := HK1.out; omega
  case rel => exact ⟨(y10), (wrap64 (x8_1 + 1)), z139_, H', ⟨z148_⟩, ⟨by (with_reducible repeat (first | apply Kd.R_alloc | apply Kd.R_drewN | apply Kd.R_drew)); exact HO14.out⟩, ⟨z168_⟩⟩
def f104.f (k : Nat) (l0 : List (S99)) : Option (List Int) := (f51.f k l0).bind fun t10 => (if t10 = true then ((f61.f k l0).bind fun t11 => (some t11)) else (some ([] : List Int)))
theorem f104.calls (k : Nat) (A0 : Option Addr) (c0 : Nat) (l0 : List (S99)) (r : List Int) (w : World) (hr0 : Kd.C k99 w A0 l0.length l0) (hc0 : l0.length ≤ c0) (h : f104.f k l0 = some r) :
  Calls Tryz.prog 78 #[.slice A0 l0.length c0] w fun e w' => ∃ v0_ : Value, e = .returned (v0_) ∧ Kd.R (Kd.int .i64) 3 w' w.heap.size (fun _ => True) v0_ r ∧ Below w.heap.size w w' := by
 have HR0 := A_ hr0; have HC0 := A_ hc0; clear hr0 hc0; have HB := A_ (Below.refl w.heap.size w); unfold f104.f at h; have H := h; clear h; replace H := bm_ H; obtain ⟨t10, A20, H⟩ := H; have A2 := A_ A20; clear A20
 by_cases c3 : t10 = true
 ·
  subst c3; have H1 := tt_ H; clear H; have H := H1; clear H1; replace H := bm_ H; obtain ⟨t11, A40, H⟩ := H; have A4 := A_ A40; clear A40; obtain rfl := sj_ H; go_enter Tryz.func78, Tryz.ntmps78
  go_wp2_with (first | ((with_reducible refine gate_callee (f := 75) rfl ?_); refine gl_ (some 4) Tryz.func75 #[.slice A0 l0.length c0] ?_; (with_reducible refine (f51.calls k _ _ l0 true _ ?side1 HC0.out A2.out).mono ?_); (case side1 => exact z208_); rintro e w5 ⟨rfl, hb⟩; refine ⟨_, rfl, ?_⟩; replace HB := A_ (below_step z186_ hb); (try clear hb)) | ((with_reducible refine gate_callee (f := 106) rfl ?_); refine gl_ (some 7) Tryz.func106 #[.slice A0 l0.length c0] ?_; (with_reducible refine (f61.calls k _ _ l0 t11 _ ?side1 HC0.out A4.out).mono ?_); (case side1 => exact z190_); rintro e w6 ⟨v12, rfl, ho0, hb⟩; refine ⟨_, rfl, ?_⟩; have n_ := a2_ (Kd.R_lower ho0 (below_size z186_)) (below_step z186_ hb); clear HB; obtain ⟨HO13, HB⟩ := n_; (try clear hb); (try clear ho0)))
  go_ret; exact ⟨_, z138_, z29_, z186_⟩
 ·
  replace c3 := Bool.eq_false_iff.mpr c3; subst c3; have H1 := ff_ H; clear H; have H := H1; clear H1; obtain rfl := sj_ H; go_enter Tryz.func78, Tryz.ntmps78
  go_wp2_with (first | ((with_reducible refine gate_callee (f := 75) rfl ?_); refine gl_ (some 4) Tryz.func75 #[.slice A0 l0.length c0] ?_; (with_reducible refine (f51.calls k _ _ l0 false _ ?side1 HC0.out A2.out).mono ?_); (case side1 => exact z208_); rintro e w7 ⟨rfl, hb⟩; refine ⟨_, rfl, ?_⟩; replace HB := A_ (below_step z186_ hb); (try clear hb)))
  go_ret; exact ⟨_, z138_, z134_, z186_⟩
def f18.l0 : Nat → List ByteArray → List ByteArray → Int → Option (Bool)
 | 0, _, _, _ => none
 | k + 1, x0, x1, x5 => if x5 < (x0.length : Int) then (if 0 ≤ x5 then (if x5 < (x1.length : Int) then (if (rdOf ByteArray.empty x0 x5).toList = (rdOf ByteArray.empty x1 x5).toList then (f18.l0 k x0 x1 (wrap64 (x5 + 1))) else (some false)) else (none)) else (none)) else (some true)
def f18.f (k : Nat) (l0 : List ByteArray) (l1 : List ByteArray) : Option (Bool) := if (l0.length : Int) = (l1.length : Int) then (f18.l0 k l0 l1 0) else (some false)
theorem f18.calls (k : Nat) (A0 : Option Addr) (c0 : Nat) (l0 : List ByteArray) (A1 : Option Addr) (c1 : Nat) (l1 : List ByteArray) (r : Bool) (w : World) (hr0 : Kd.C Kd.string w A0 l0.length l0) (hc0 : l0.length ≤ c0) (hr1 : Kd.C Kd.string w A1 l1.length l1) (hc1 : l1.length ≤ c1) (h : f18.f k l0 l1 = some r) :
  Calls Tryz.prog 12 #[.slice A0 l0.length c0, .slice A1 l1.length c1] w fun e w' => e = .returned (.bool r) ∧ Drawn0 w w' := by
 have HR0 := A_ hr0; have HC0 := A_ hc0; clear hr0 hc0; have HR1 := A_ hr1; have HC1 := A_ hc1; clear hr1 hc1; unfold f18.f at h; have H := h; clear h; revert H; refine i2_ (fun c3 H => ?_) fun c3 H => ?_; rotate_left
 ·
  have c3b0 := beq_eq_false_iff_ne.mpr c3; have c3b1 := bne_iff_ne.mpr c3; have c3b2 : (l0.length == l1.length) = false := z142_; obtain rfl := sj_ H; go_enter Tryz.func12, Tryz.ntmps12; go_wp2
  repeat (go_quiet (fail); try go_wp2)
  go_ret; exact ⟨z139_, z207_⟩
 have c3b0 := beq_iff_eq.mpr c3; have c3b1 := bne_eq_false_iff_eq.mpr c3; have c3b2 : (l0.length == l1.length) = true := z142_; clear c3; have H' := A_ H; clear H; go_enter Tryz.func12, Tryz.ntmps12; go_wp2
 repeat (go_quiet (fail); try go_wp2)
 go_loopg [5] k (fun kq v5 w' => ∃ (x5_1 : Int), v5 = .int .i64 x5_1 ∧ Aside0 (f18.l0 kq l0 l1 x5_1 = some r) ∧ Aside0 (kq ≤ k) ∧ Drawn0 w w')
 case atStart => exact ⟨(0), z139_, H', ⟨Nat.le_refl _⟩, z207_⟩
 case round =>
  clear H'; (try clear c1); (try clear c3); (try clear c3b0); (try clear c3b1); (try clear c3b2); obtain ⟨x5_1, rfl, HA, HK1, ⟨m1, rfl⟩⟩ := hrel
  cases gk with
  | zero => exact absurd HA.out (by simp [f18.l0])
  | succ k1 =>
  have H := HA.out; clear HA; simp only [f18.l0] at H; revert H; refine i1_ (fun c4b0 H => ?_) fun c4b0 H => ?_; rotate_left
  ·
   obtain rfl := sj_ H; go_wp2
   repeat (go_quiet (fail); try go_wp2)
   go_ret; exact ⟨z139_, z207_⟩
  revert H; refine i3_ fun c5b0 H => ?_; revert H; refine i3_ fun c6b0 H => ?_; revert H; refine i2_ (fun c7 H => ?_) fun c7 H => ?_; rotate_left
  ·
   have c7b0 := beq_eq_false_iff_ne.mpr c7; have c7b1 := bne_iff_ne.mpr c7; obtain rfl := sj_ H; obtain ⟨p10, q10, ad10, e10, hx10_0⟩ := pq_ (Kd.at_string HR0.out x5_1); cases e10; obtain ⟨p11, q11, ad11, e11, hx11_0⟩ := pq_ (Kd.at_string HR1.out x5_1); cases e11; go_wp2
   repeat (go_quiet (fail); try go_wp2)
   go_ret; exact ⟨z139_, z207_⟩
  have c7b0 := beq_iff_eq.mpr c7; have c7b1 := bne_eq_false_iff_eq.mpr c7; clear c7; have H' := A_ H; clear H; obtain ⟨p10, q10, ad10, e10, hx10_0⟩ := pq_ (Kd.at_string HR0.out x5_1); cases e10; obtain ⟨p11, q11, ad11, e11, hx11_0⟩ := pq_ (Kd.at_string HR1.out x5_1); cases e11; go_wp2
  repeat (go_quiet (fail); try go_wp2)
  go_roundg k1
  case measure => have := HK1.out; omega
  case rel => exact ⟨(wrap64 (x5_1 + 1)), z139_, H', ⟨z148_⟩, z207_⟩
def f45.l0 : Nat → List ByteArray → List ByteArray → Int → Int → Option (Bool)
 | 0, _, _, _, _ => none
 | k + 1, x0, x5, x6, x7 => if x7 < x6 then (if 0 ≤ x7 then (if x7 < (x5.length : Int) then (if ((rdOf ByteArray.empty x5 x7).size : Int) < 1 then (some false) else (if ((rdOf ByteArray.empty x5 x7).size : Int) > 32 then (some false) else (if x7 > 0 then (if 0 ≤ (wrap64 (x7 - 1)) then (if (wrap64 (x7 - 1)) < (x0.length : Int) then (if ((Op.bytesLess ((rdOf ByteArray.empty x0 (wrap64 (x7 - 1))).toList) ((rdOf ByteArray.empty x5 x7).toList)) = true) then (f45.l0 k x0 x5 x6 (wrap64 (x7 + 1))) else (some false)) else (none)) else (none)) else (f45.l0 k x0 x5 x6 (wrap64 (x7 + 1)))))) else (none)) else (none)) else (some (decide ((x0.length : Int) ≤ 200)))
def f45.f (k : Nat) (l0 : List ByteArray) : Option (Bool) := f45.l0 k l0 l0 (l0.length : Int) 0
theorem f45.calls (k : Nat) (A0 : Option Addr) (c0 : Nat) (l0 : List ByteArray) (r : Bool) (w : World) (hr0 : Kd.C Kd.string w A0 l0.length l0) (hc0 : l0.length ≤ c0) (h : f45.f k l0 = some r) :
  Calls Tryz.prog 76 #[.slice A0 l0.length c0] w fun e w' => e = .returned (.bool r) ∧ Drawn0 w w' := by
 have HR0 := A_ hr0; have HC0 := A_ hc0; clear hr0 hc0; unfold f45.f at h; have H := h; clear h; have H' := A_ H; clear H; go_enter Tryz.func76, Tryz.ntmps76; go_wp2
 go_loopg [7] k (fun kq v7 w' => ∃ (x7_1 : Int), v7 = .int .i64 x7_1 ∧ Aside0 (f45.l0 kq l0 l0 (l0.length : Int) x7_1 = some r) ∧ Aside0 (kq ≤ k) ∧ Drawn0 w w')
 case atStart => exact ⟨(0), z139_, H', ⟨Nat.le_refl _⟩, z207_⟩
 case round =>
  clear H'; obtain ⟨x7_1, rfl, HA, HK1, ⟨m1, rfl⟩⟩ := hrel
  cases gk with
  | zero => exact absurd HA.out (by simp [f45.l0])
  | succ k1 =>
  have H := HA.out; clear HA; simp only [f45.l0] at H; revert H; refine i1_ (fun c2b0 H => ?_) fun c2b0 H => ?_; rotate_left
  ·
   obtain rfl := sj_ H; go_wp2; go_ret; exact ⟨z139_, z207_⟩
  revert H; refine i3_ fun c3b0 H => ?_; revert H; refine i3_ fun c4b0 H => ?_; revert H; refine i2_ (fun c5 H => ?_) fun c5 H => ?_
  ·
   have c5b0 := decide_eq_true c5; have c5b1 : decide ((rdOf ByteArray.empty l0 x7_1).size < 1) = true := decide_eq_true z161_; clear c5; obtain rfl := sj_ H; obtain ⟨p12, q12, ad12, e12, hx12_0⟩ := pq_ (Kd.at_string HR0.out x7_1); cases e12; go_wp2; go_ret; exact ⟨z139_, z207_⟩
  have c5b0 := decide_eq_false c5; have c5b1 : decide ((rdOf ByteArray.empty l0 x7_1).size < 1) = false := decide_eq_false z161_; clear c5; revert H; refine i2_ (fun c6 H => ?_) fun c6 H => ?_
  ·
   have c6b0 := decide_eq_true c6; have c6b1 : decide (32 < (rdOf ByteArray.empty l0 x7_1).size) = true := decide_eq_true z161_; clear c6; obtain rfl := sj_ H; obtain ⟨p12, q12, ad12, e12, hx12_0⟩ := pq_ (Kd.at_string HR0.out x7_1); cases e12; go_wp2; go_ret; exact ⟨z139_, z207_⟩
  have c6b0 := decide_eq_false c6; have c6b1 : decide (32 < (rdOf ByteArray.empty l0 x7_1).size) = false := decide_eq_false z161_; clear c6; revert H; refine i1_ (fun c7b0 H => ?_) fun c7b0 H => ?_; rotate_left
  ·
   have H' := A_ H; clear H; obtain ⟨p12, q12, ad12, e12, hx12_0⟩ := pq_ (Kd.at_string HR0.out x7_1); cases e12; go_wp2
   go_roundg k1
   case measure => have := HK1.out; omega
   case rel => exact ⟨(wrap64 (x7_1 + 1)), z139_, H', ⟨z148_⟩, z207_⟩
  obtain ⟨ji8, hji8⟩ : ∃ j_ : Int, (wrap64 (x7_1 - 1)) = j_ := ⟨_, rfl⟩
  replace H : (if 0 ≤ (ji8) then (if (ji8) < (l0.length : Int) then (if ((Op.bytesLess ((rdOf ByteArray.empty l0 (ji8)).toList) ((rdOf ByteArray.empty l0 x7_1).toList)) = true) then (f45.l0 k1 l0 l0 (l0.length : Int) (wrap64 (x7_1 + 1))) else (some false)) else (none)) else (none)) = some r := by first | (rw [hji8] at H; exact H) | (simp only [hji8] at H ⊢; exact H)
  have hji8w : (IntKind.i64.wrap (x7_1 - 1)) = ji8 := (i64_w _).trans hji8; revert H; refine i3_ fun c9b0 H => ?_; revert H; refine i3_ fun c10b0 H => ?_; revert H; refine i2_ (fun c11 H => ?_) fun c11 H => ?_; rotate_left
  ·
   have c11b0 : (Op.bytesLess ((rdOf ByteArray.empty l0 (ji8)).toList) ((rdOf ByteArray.empty l0 x7_1).toList)) = false := by simpa using c11
   clear c11; obtain rfl := sj_ H; obtain ⟨p12, q12, ad12, e12, hx12_0⟩ := pq_ (Kd.at_string HR0.out x7_1); cases e12; obtain ⟨p13, q13, ad13, e13, hx13_0⟩ := pq_ (Kd.at_string HR0.out (ji8)); obtain rfl : ad12 = ad13 := (by injection e13); go_wp2; go_ret; exact ⟨by first | rfl | (simp; done) | (simp only [← hji8] <;> (first | rfl | simp)) | (simp [*]; done), z207_⟩
  have c11b0 : (Op.bytesLess ((rdOf ByteArray.empty l0 (ji8)).toList) ((rdOf ByteArray.empty l0 x7_1).toList)) = true := c11; clear c11; have H' := A_ H; clear H; obtain ⟨p12, q12, ad12, e12, hx12_0⟩ := pq_ (Kd.at_string HR0.out x7_1); cases e12; obtain ⟨p13, q13, ad13, e13, hx13_0⟩ := pq_ (Kd.at_string HR0.out (ji8)); obtain rfl : ad12 = ad13 := (by injection e13); go_wp2
  go_roundg k1
  case measure => have := HK1.out; omega
  case rel => exact ⟨(wrap64 (x7_1 + 1)), z139_, H', ⟨z148_⟩, z207_⟩
def f105.f (a0 : ByteArray) : Option (Bool) := (f87.f a0 32).bind fun t10 => (some (!t10))
theorem f105.calls (a0 : ByteArray) (r : Bool) (w : World) (h : f105.f a0 = some r) :
  Calls Tryz.prog 73 #[.string a0] w fun e w' => e = .returned (.bool r) ∧ Drawn0 w w' := by
 unfold f105.f at h; have H := h; clear h; replace H := bm_ H; obtain ⟨t10, A20, H⟩ := H; have A2 := A_ A20; clear A20; obtain rfl := sj_ H; go_enter Tryz.func73, Tryz.ntmps73
 go_wp2_with (first | ((with_reducible refine gate_callee (f := 74) rfl ?_); refine gl_ (some 4) Tryz.func74 #[.string a0, .int .i64 32] ?_; (with_reducible refine (f87.calls a0 32 t10 _ A2.out).mono ?_); rintro e w' ⟨rfl, ⟨nd, rfl⟩⟩; refine ⟨_, rfl, ?_⟩))
 go_ret; exact ⟨z139_, z207_⟩
end Go.Proofs.YtbbmdakdghefnaaGreatDoor.T
namespace Go.Proofs.YtbbmdakdghefnaaGreatDoor.T
open Go.RowKit Go.Proofs.YtbbmdakdghefnaaGreatDoorW.PrintWords Go.Proofs.YtbbmdakdghefnaaGreatDoorW.PrintLast Go.Proofs.YtbbmdakdghefnaaGreatDoorW.PrintMore
attribute [local go_sem] max2_int min2_int max_two min_two max_three min_three max_four min_four
set_option linter.unusedVariables false
set_option linter.unusedSimpArgs false
theorem R_noIter {α : Type} {d : Kd α} {e : Nat} {w : World} {base : Nat} {ok : Nat → Prop} {v : Value} {xs : List α} (h : d.R e w base ok v xs) {it : Nat} {s : ByteArray} {p : Nat} (hk : w.heap[it]? = some (.stringIter s p)) : d.R e w base (fun k => ok k ∧ k ≠ it) v xs :=
 Kd.R_mono (Kd.R_bound h) (fun k hj => ⟨hj.1, by
  obtain ⟨_, _, _, q, hq, cells', hc⟩ := hj; rintro rfl; rw [hc] at hk
  cases hk⟩)
theorem R_iterAt {α : Type} {d : Kd α} {e : Nat} {w : World} {base : Nat} {ok : Nat → Prop} {v : Value} {xs : List α} (h : d.R e w base ok v xs) {it : Nat} {s : ByteArray} {p : Nat} (hk : w.heap[it]? = some (.stringIter s p)) (p' : Nat) : d.R e (w.iterAt it s p') base ok v xs :=
 Kd.R_mono (Kd.R_step (R_noIter h hk) (fun j hj _ => Lib.iterAt_other w it j s p' hj.2)) (fun _ h => h.1)
def f44.l0 : Nat → ByteArray → List ByteArray → List Int → Nat → Option (List ByteArray)
 | 0, _, _, _, _ => none
 | k + 1, s, x3, x4, p => if p < s.size then ((f74.f ((Utf8.decode s p).1 : Int)).bind fun t => if t = true then ((f96.f ((Utf8.decode s p).1 : Int)).bind fun c => (f54.f k x4 c).bind fun y => f44.l0 k s x3 y (p + (Utf8.decode s p).2)) else (if (x4.length : Int) > 0 then (if x3.length < 8796093022208 then f44.l0 k s (x3 ++ [strOfNums x4]) ([] : List Int) (p + (Utf8.decode s p).2) else none) else f44.l0 k s x3 x4 (p + (Utf8.decode s p).2))) else some x3
def f44.f (k : Nat) (a0 : ByteArray) : Option (List ByteArray) := if a0.size + 1 ≤ 9223372036854775807 then f44.l0 k (a0 ++ (⟨#[32]⟩ : ByteArray)) ([] : List ByteArray) ([] : List Int) 0 else none
theorem Below.iterAt_ {B : Nat} {a w : World} (h : Below B a w) {it : Nat} (hk : B ≤ it) (s : ByteArray) (p : Nat) : Below B a (w.iterAt it s p) := Lib.below_iterAt h hk s p
set_option maxHeartbeats 1000000 in
theorem f44.calls (k : Nat) (a0 : ByteArray) (r : List ByteArray) (w : World) (h : f44.f k a0 = some r) :
  Calls Tryz.prog 137 #[.string a0] w fun e w' => ∃ v0_ : Value, e = .returned (v0_) ∧ Kd.R Kd.string 9 w' w.heap.size (fun _ => True) v0_ r ∧ Below w.heap.size w w' := by
 unfold f44.f at h
 by_cases hs : a0.size + 1 ≤ 9223372036854775807
 ·
  rw [if_pos hs] at h; have hs1 : decide (a0.size + 1 ≤ 9223372036854775807) = true := decide_eq_true hs; have hs2 : a0.size < 9223372036854775807 := z161_; have H' := A_ h; clear h; go_enter Tryz.func137, Tryz.ntmps137; go_wp2
  go_loopg [3, 4] k (fun kq v3 v4 w' => ∃ (x3 : List ByteArray) (x4 : List Int) (p : Nat), Aside0 (f44.l0 kq (a0 ++ (⟨#[32]⟩ : ByteArray)) x3 x4 p = some r) ∧ Aside0 (w'.heap[w.heap.size]? = some (.stringIter (a0 ++ (⟨#[32]⟩ : ByteArray)) p)) ∧ Aside0 (Kd.R Kd.string 9 w' w.heap.size (fun _ => True) v3 x3) ∧ Aside0 (Kd.R (Kd.int .u8) 5 w' w.heap.size (fun _ => True) v4 x4) ∧ Aside0 (Below w.heap.size w w'))
  case atStart => exact ⟨[], [], 0, H', ⟨heap_alloc_new w (.stringIter (a0 ++ (⟨#[32]⟩ : ByteArray)) 0)⟩, ⟨Kd.R_nil _ _ _ _ _⟩, ⟨Kd.R_nil _ _ _ _ _⟩, ⟨below_alloc (Below.refl _ _) _⟩⟩
  case round =>
   clear H'; obtain ⟨x3, x4, p, HA, HI, HO3, HO4, HB⟩ := hrel
   cases gk with
   | zero => exact absurd HA.out (by simp [f44.l0])
   | succ k1 =>
   have H := HA.out; clear HA; simp only [f44.l0] at H; revert H; refine i2_ (fun c5 H => ?_) fun c5 H => ?_; rotate_left
   ·
    obtain rfl := sj_ H; have hnx : ∀ ty, (Instr.next (.pointer (some ⟨w.heap.size, 0, none⟩)) true ty).run Tryz.prog wr = _ := fun ty => Lib.run_next_end_at wr w.heap.size _ p ty HI.out c5; go_wp2; go_ret; exact ⟨_, rfl, HO3.out, HB.out⟩
   have hnx : ∀ ty, (Instr.next (.pointer (some ⟨w.heap.size, 0, none⟩)) true ty).run Tryz.prog wr = _ := fun ty => Lib.run_next_any_at wr w.heap.size _ p ty HI.out c5; have n_ := a4_ (R_iterAt HO3.out HI.out (p + (Utf8.decode (a0 ++ (⟨#[32]⟩ : ByteArray)) p).2)) (R_iterAt HO4.out HI.out (p + (Utf8.decode (a0 ++ (⟨#[32]⟩ : ByteArray)) p).2)) (Below.iterAt_ HB.out (Nat.le_refl _) (a0 ++ (⟨#[32]⟩ : ByteArray)) (p + (Utf8.decode (a0 ++ (⟨#[32]⟩ : ByteArray)) p).2)) (Lib.iterAt_heap wr w.heap.size _ p (p + (Utf8.decode (a0 ++ (⟨#[32]⟩ : ByteArray)) p).2) HI.out); clear HO3 HO4 HB HI; obtain ⟨HO3, HO4, HB, HI⟩ := n_; generalize (wr.iterAt w.heap.size (a0 ++ (⟨#[32]⟩ : ByteArray)) (p + (Utf8.decode (a0 ++ (⟨#[32]⟩ : ByteArray)) p).2)) = w1 at *; generalize p + (Utf8.decode (a0 ++ (⟨#[32]⟩ : ByteArray)) p).2 = p1 at *; generalize (Utf8.decode (a0 ++ (⟨#[32]⟩ : ByteArray)) p).1 = cc at *; clear c5; replace H := bm_ H; obtain ⟨t, A10, H⟩ := H; have A1 := A_ A10; clear A10; obtain ⟨Ao3, co3, eo3⟩ := Kd.R_slice HO3.out; subst eo3; obtain ⟨Ao4, co4, eo4⟩ := Kd.R_slice HO4.out; subst eo4
   cases t with
   | true =>
    replace H := bm_ H; obtain ⟨c, A20, H⟩ := H; replace H := bm_ H; obtain ⟨y, A30, H⟩ := H; have A2 := A_ A20; clear A20; have A3 := A_ A30; clear A30; have H' := A_ H; clear H
    go_wp2_with (first
     | (go_at_call 178; (with_reducible refine (f74.calls _ true _ A1.out).mono ?_); rintro e w' ⟨rfl, ⟨nd, rfl⟩⟩)
     | (go_at_call 180; (with_reducible refine (f96.calls _ c _ A2.out).mono ?_); rintro e w' ⟨rfl, ⟨nd, rfl⟩⟩))
    (with_reducible refine (f54.calls k1 (fun k_ => some k_ = (.slice Ao4 x4.length co4 : Value).ownBlock) (.slice Ao4 x4.length co4) x4 c y w _ ?side1 ?side2 A3.out).mono ?_); (case side1 => repeat (with_reducible first | exact HB.out | apply pw_below_drewN | apply below_drew1)); (case side2 => exact Kd.R_tight rfl (Kd.R_drewN HO4.out _)); rintro e w2 ⟨v2, rfl, ho, hb, hkp⟩; have n0_ := A_ (Kd.R_mono ho (fun _ _ => trivial)); have n1_ := A_ hb; have n2_ := A_ (blk_kept (blk_drewN HI.out _) hkp (fun e_ => by have h_ := (Kd.R_bound HO4.out).1 _ e_.symm; obtain ⟨_, _, _, q_, _, cs_, hc_⟩ := h_; have h2_ := HI.out; rw [hc_] at h2_; cases h2_)); have n3_ := A_ (Kd.R_mono (Kd.R_kept (S := fun k_ => some k_ = (.slice Ao4 x4.length co4 : Value).ownBlock) (Kd.R_drewN (Kd.R_apartR HO3.out HO4.out z106_) _) hkp (fun k_ h_ e_ => h_.2 e_)) (fun _ h_ => h_.1)); clear HO3 HO4 HB HI; have HO3 := n3_; have HO4 := n0_; have HB := n1_; have HI := n2_; clear n0_ n1_ n2_ n3_ ho hb hkp; go_wp2
    go_roundg k1
    case measure => omega
    case rel => exact ⟨x3, y, p1, H', HI, HO3, HO4, HB⟩
   | false =>
    simp only [Bool.false_eq_true, if_false] at H; revert H; refine i2_ (fun c6 H => ?_) fun c6 H => ?_; rotate_left
    ·
     have c6b0 := decide_eq_false c6; have c6b1 : decide (0 < x4.length) = false := decide_eq_false z161_; clear c6; have H' := A_ H; clear H
     go_wp2_with (go_at_call 178; (with_reducible refine (f74.calls _ false _ A1.out).mono ?_); rintro e w' ⟨rfl, ⟨nd, rfl⟩⟩)
     go_roundg k1
     case measure => omega
     case rel => exact ⟨x3, x4, p1, H', HI, ⟨Kd.R_drewN HO3.out _⟩, ⟨Kd.R_drewN HO4.out _⟩, ⟨pw_below_drewN HB.out _⟩⟩
    have c6b0 := decide_eq_true c6; have c6b1 : decide (0 < x4.length) = true := decide_eq_true z161_; clear c6; revert H; refine i4_ fun c7 H => ?_; have LM := A_ c7; clear c7; have H' := A_ H; clear H; have hcv := own_string (P := Tryz.prog) Tryz.underlying152 Tryz.underlying5 Tryz.underlying9 (Kd.own_of_R HO4.out)
    go_wp2_with (first
     | (go_at_call 178; (with_reducible refine (f74.calls _ false _ A1.out).mono ?_); rintro e w' ⟨rfl, ⟨nd, rfl⟩⟩; have hcv := own_string (P := Tryz.prog) (w := w1.drewN nd) Tryz.underlying152 Tryz.underlying5 Tryz.underlying9 (Kd.own_of_R (Kd.R_drewN HO4.out nd)))
     | ((with_reducible refine gate_builtin (b := .append) (xs := #[.tmp 22, .tmp 25]) rfl ?_); at_builtin; refine Kd.R_append Kd.string (w0 := w) w.heap.size rfl (.tmp 22) (.tmp 25) 23 9 (.string ⟨#[]⟩) 16 rfl Tryz.underlying23 info9 rfl z106_ z161_ (.slice Ao3 x3.length co3) x3 (strOfNums x4) [.string (strOfNums x4)] (fun _ => True) (fun _ => False) rfl rfl ?aP (fun _ hk => hk.elim) ?aF ?aO ?aB ?aS ?aL ?_; (case aP => exact rfl); (case aB => exact z213_); (case aF => exact (fun _ _ => trivial)); (case aO => exact (by (with_reducible repeat (first | apply Kd.R_alloc | apply Kd.R_drewN | apply Kd.R_drew)); with_reducible exact HO3.out)); (case aS => exact (below_size z213_)); (case aL => have := LM.out; omega); intro v11 w32 ho hb hg hat; have n0_ := A_ hb; have n1_ := A_ ho; have n2_ := A_ (hg.block w.heap.size (by have := (Array.getElem?_eq_some_iff.1 HI.out).1; simp; omega) (fun e_ => by have h_ := (Kd.R_bound HO3.out).1 _ e_.symm; obtain ⟨_, _, _, q_, _, cs_, hc_⟩ := h_; have h2_ := HI.out; rw [hc_] at h2_; cases h2_)); clear HB HO3; have HB := n0_; have HO3 := n1_; clear n0_ n1_ ho hb hg hat))
    go_roundg k1
    case measure => omega
    case rel => exact ⟨_, _, p1, H', ⟨n2_.out.trans (by first | exact HI.out | (simp only [World.heap_drewN]; exact HI.out) | (rw [alloc_old] <;> first | exact HI.out | (have := (Array.getElem?_eq_some_iff.1 HI.out).1; simpa using this)))⟩, HO3, ⟨Kd.R_nil _ _ _ _ _⟩, HB⟩
 ·
  rw [if_neg hs] at h; exact absurd h z219_
end Go.Proofs.YtbbmdakdghefnaaGreatDoor.T
