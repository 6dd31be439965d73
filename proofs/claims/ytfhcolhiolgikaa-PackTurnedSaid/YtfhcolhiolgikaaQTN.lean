import Derived.Test.YtfhcolhiolgikaaQTV
import Derived.Test.YtfhcolhiolgikaaQTG
import Derived.Test.YtfhcolhiolgikaaQTA
import Derived.Test.YtfhcolhiolgikaaQTC
/- Texts of this claim, laid together by a program (merge.py): PX, PY, PZ. -/
/- Plain facts for Pack: what is turned within four bytes is refused. -/
namespace Go.Proofs.Ytfhcolhiolgikaa.Plain
set_option linter.unusedVariables false
set_option linter.unusedSimpArgs false
open Go.RowKit Go.Proofs.Ytfhcolhiolgikaa.T Go.Proofs.YtfhcolhiolgikaaW.PrintWords Go.Proofs.YtfhcolhiolgikaaW.PrintLast Go.Proofs.YtfhcolhiolgikaaW.PrintMore
theorem xor_eq {x y : Nat} (h : x ^^^ y = 0) : x = y := by
 have : (x ^^^ y) ^^^ y = y := by rw [h, Nat.zero_xor]
 rw [Nat.xor_assoc, Nat.xor_self, Nat.xor_zero] at this
 exact this
def st1 (x : Nat) : Nat := if x % 2 = 1 then (x / 2) ^^^ 2197175160 else x / 2
def sh8 (x : Nat) : Nat := st1 (st1 (st1 (st1 (st1 (st1 (st1 (st1 x)))))))
theorem st1_xor (x y : Nat) : st1 (x ^^^ y) = st1 x ^^^ st1 y := by
 unfold st1
 rw [Nat.xor_div_two]
 have h := Nat.xor_mod_two_eq_one (a := x) (b := y)
 by_cases hx : x % 2 = 1 <;> by_cases hy : y % 2 = 1
 ·
  rw [if_pos hx, if_pos hy, if_neg (by rw [h]; simp [hx, hy]), show (x / 2 ^^^ 2197175160) ^^^ (y / 2 ^^^ 2197175160) = (x / 2 ^^^ y / 2) ^^^ (2197175160 ^^^ 2197175160) from by ac_rfl, Nat.xor_self, Nat.xor_zero]
 ·
  rw [if_pos hx, if_neg hy, if_pos (by rw [h]; simp [hx, hy])]; ac_rfl
 ·
  rw [if_neg hx, if_pos hy, if_pos (by rw [h]; simp [hx, hy])]; ac_rfl
 ·
  rw [if_neg hx, if_neg hy, if_neg (by rw [h]; simp [hx, hy])]
theorem st1_lt {x : Nat} (h : x < 2 ^ 32) : st1 x < 2 ^ 32 := by
 unfold st1
 split
 ·
  exact Nat.xor_lt_two_pow (by omega) (by decide)
 ·
  omega
theorem st1_zero {x : Nat} (h : x < 2 ^ 32) (h0 : st1 x = 0) : x = 0 := by
 unfold st1 at h0
 split at h0
 ·
  have := xor_eq h0
  omega
 ·
  omega
theorem st1_even (y : Nat) : st1 (2 * y) = y := by
 unfold st1
 rw [if_neg (by omega)]; omega
theorem sh8_xor (x y : Nat) : sh8 (x ^^^ y) = sh8 x ^^^ sh8 y := by simp only [sh8, st1_xor]
theorem sh8_lt {x : Nat} (h : x < 2 ^ 32) : sh8 x < 2 ^ 32 := st1_lt (st1_lt (st1_lt (st1_lt (st1_lt (st1_lt (st1_lt (st1_lt h)))))))
theorem sh8_zero {x : Nat} (h : x < 2 ^ 32) (h0 : sh8 x = 0) : x = 0 :=
 st1_zero h (st1_zero (st1_lt h) (st1_zero (st1_lt (st1_lt h)) (st1_zero (st1_lt (st1_lt (st1_lt h))) (st1_zero (st1_lt (st1_lt (st1_lt (st1_lt h)))) (st1_zero (st1_lt (st1_lt (st1_lt (st1_lt (st1_lt h))))) (st1_zero (st1_lt (st1_lt (st1_lt (st1_lt (st1_lt (st1_lt h)))))) (st1_zero (st1_lt (st1_lt (st1_lt (st1_lt (st1_lt (st1_lt (st1_lt h))))))) h0)))))))
theorem sh8_low (v : Nat) : sh8 (256 * v) = v := by
 unfold sh8
 have h : 256 * v = 2 * (2 * (2 * (2 * (2 * (2 * (2 * (2 * v))))))) := by omega
 rw [h]
 simp only [st1_even]
theorem lowx (q r : Nat) (h : r < 256) : (256 * q) ^^^ r = 256 * q + r := by
 apply Nat.eq_of_testBit_eq
 intro i
 rw [Nat.testBit_xor, show (256 : Nat) = 2 ^ 8 from rfl, Nat.testBit_two_pow_mul_add q (show r < 2 ^ 8 from h), Nat.testBit_two_pow_mul]
 by_cases hi : i < 8
 ·
  rw [if_pos hi, decide_eq_false (by omega)]; simp
 ·
  rw [if_neg hi, decide_eq_true (by omega), Nat.testBit_lt_two_pow (Nat.lt_of_lt_of_le h (Nat.pow_le_pow_right (n := 2) (j := i) (show 2 > 0 by decide) (show 8 ≤ i by omega)))]; simp
theorem low_out (x : Nat) : x ^^^ (x % 256) = 256 * (x / 256) := by
 have h : x = (256 * (x / 256)) ^^^ (x % 256) := by rw [lowx _ _ (by omega)]; omega
 conv => lhs; lhs; rw [h]
 rw [Nat.xor_assoc, Nat.xor_self, Nat.xor_zero]
def fdN (s : Nat) (l : List Nat) : Nat := l.foldl (fun s a => sh8 (s ^^^ a)) s
theorem fdN_app (s : Nat) (a b : List Nat) : fdN s (a ++ b) = fdN (fdN s a) b := by unfold fdN; rw [List.foldl_append]
theorem fdN_cons (s x : Nat) (l : List Nat) : fdN s (x :: l) = fdN (sh8 (s ^^^ x)) l := rfl
theorem fdN_xor (l : List Nat) : ∀ (l' : List Nat) (s t : Nat), l.length = l'.length → fdN (s ^^^ t) (List.zipWith (· ^^^ ·) l l') = fdN s l ^^^ fdN t l' := by
 induction l with
 | nil =>
  intro l' s t h
  obtain rfl := List.eq_nil_of_length_eq_zero h.symm
  rfl
 | cons a r ih =>
  intro l' s t h
  cases l' with
  | nil => cases h
  | cons b r' =>
   rw [List.zipWith_cons_cons, fdN_cons, fdN_cons, fdN_cons, ← ih r' _ _ (by simpa using h), ← sh8_xor]
   congr 2
   ac_rfl
def byN (l : List Nat) : Prop := ∀ a ∈ l, a < 256
theorem fdN_lt {l : List Nat} (h : byN l) : ∀ {s : Nat}, s < 2 ^ 32 → fdN s l < 2 ^ 32 := by
 induction l with
 | nil => intro s hs; exact hs
 | cons a r ih =>
  intro s hs
  exact ih (fun x hx => h x (by simp [hx])) (sh8_lt (Nat.xor_lt_two_pow hs (by have := h a (by simp); omega)))
theorem fdN_zeros {s n : Nat} : s < 2 ^ 32 → fdN s (List.replicate n 0) = 0 → s = 0 := by
 induction n generalizing s with
 | zero => intro _ h; exact h
 | succ n ih =>
  intro hs h
  rw [List.replicate_succ, fdN_cons, Nat.xor_zero] at h
  exact sh8_zero hs (ih (sh8_lt hs) h)
theorem fdN_none (n : Nat) : fdN 0 (List.replicate n 0) = 0 := by
 induction n with
 | zero => rfl
 | succ n ih => rw [List.replicate_succ, fdN_cons]; exact ih
def leN (n : Nat) : List Nat := [n % 256, n / 256 % 256, n / 65536 % 256, n / 16777216 % 256]
theorem leN_by (n : Nat) : byN (leN n) := by
 intro a ha
 unfold leN at ha
 simp only [List.mem_cons, List.not_mem_nil, or_false] at ha
 omega
theorem fdN_tail {d : Nat} (h : d < 2 ^ 32) : fdN d (leN d) = 0 := by
 have e1 : d / 65536 = d / 256 / 256 := by omega
 have e2 : d / 16777216 = d / 256 / 256 / 256 := by omega
 have e3 : d / 256 / 256 / 256 / 256 = 0 := by omega
 unfold leN
 rw [e1, e2]
 simp only [fdN, List.foldl_cons, List.foldl_nil]
 rw [low_out, sh8_low, low_out, sh8_low, low_out, sh8_low, low_out, sh8_low, e3]
theorem leN_xor (m m' : Nat) : List.zipWith (· ^^^ ·) (leN m) (leN m') = leN (m ^^^ m') := by
 have k (x y i : Nat) : (x ^^^ y) / 2 ^ i % 2 ^ 8 = (x / 2 ^ i % 2 ^ 8) ^^^ (y / 2 ^ i % 2 ^ 8) := by rw [Nat.xor_div_two_pow, Nat.xor_mod_two_pow]
 unfold leN
 simp only [List.zipWith_cons_cons, List.zipWith_nil_left]
 have k0 := k m m' 0
 have k1 := k m m' 8
 have k2 := k m m' 16
 have k3 := k m m' 24
 simp only [Nat.reducePow, Nat.div_one] at k0 k1 k2 k3
 rw [k0, k1, k2, k3]
theorem fdN_win {a b c d : Nat} (ha : a < 256) (hb : b < 256) (hc : c < 256) (hd : d < 256) (h : fdN 0 [a, b, c, d] = 0) : a = 0 ∧ b = 0 ∧ c = 0 ∧ d = 0 := by
 have hE : leN (a + 256 * b + 65536 * c + 16777216 * d) = [a, b, c, d] := by
  unfold leN
  congr 1
  ·
   omega
  ·
   congr 1
   ·
    omega
   ·
    congr 1
    ·
     omega
    ·
     congr 1
     omega
 have hlt : a + 256 * b + 65536 * c + 16777216 * d < 2 ^ 32 := by omega
 have h1 := fdN_tail hlt
 have h2 := fdN_xor (leN (a + 256 * b + 65536 * c + 16777216 * d)) (List.replicate 4 0) 0 (a + 256 * b + 65536 * c + 16777216 * d) rfl
 have h3 : List.zipWith (· ^^^ ·) (leN (a + 256 * b + 65536 * c + 16777216 * d)) (List.replicate 4 0) = leN (a + 256 * b + 65536 * c + 16777216 * d) := by
  unfold leN
  simp [List.replicate_succ]
 rw [h3, Nat.zero_xor, h1, hE, h, Nat.zero_xor] at h2
 have := fdN_zeros hlt h2.symm
 omega
/-- A row that is nought but for four in a row, and sums up to nought, is nought. -/
theorem fdN_row {D : List Nat} (hD : byN D) (p : Nat) (h0 : ∀ i (h : i < D.length), (i < p ∨ p + 4 ≤ i) → D[i] = 0) (h : fdN 0 D = 0) : ∀ x ∈ D, x = 0 := by
 have hz : ∀ (l : List Nat), (∀ x ∈ l, x = 0) → l = List.replicate l.length 0 := fun l hl => List.eq_replicate_iff.2 ⟨rfl, hl⟩
 have h1 : ∀ x ∈ D.take p, x = 0 := by
  intro x hx
  obtain ⟨i, hi, e⟩ := List.getElem_of_mem hx
  rw [List.getElem_take] at e
  rw [← e]
  rw [List.length_take] at hi
  exact h0 i (by omega) (Or.inl (by omega))
 have h2 : fdN 0 (D.drop p) = 0 := by
  rw [← List.take_append_drop p D, fdN_app, hz _ h1, fdN_none] at h
  exact h
 have h3 : fdN 0 (D.drop p ++ List.replicate 4 0) = 0 := by rw [fdN_app, h2, fdN_none]
 have hbF : byN (D.drop p ++ List.replicate 4 0) := by
  intro x hx
  rcases List.mem_append.1 hx with hx | hx
  ·
   exact hD x (List.mem_of_mem_drop hx)
  ·
   rw [(List.mem_replicate.1 hx).2]; decide
 have h4 : ∀ x ∈ (D.drop p ++ List.replicate 4 0).drop 4, x = 0 := by
  intro x hx
  obtain ⟨i, hi, e⟩ := List.getElem_of_mem hx
  rw [List.getElem_drop] at e
  rw [← e]
  rw [List.getElem_append]
  split
  ·
   rename_i hlt
   rw [List.getElem_drop]
   exact h0 _ _ (Or.inr (by omega))
  ·
   rw [List.getElem_replicate]
 have h5 : fdN 0 ((D.drop p ++ List.replicate 4 0).take 4) = 0 := by
  rw [← List.take_append_drop 4 (D.drop p ++ List.replicate 4 0), fdN_app, hz _ h4] at h3
  exact fdN_zeros (fdN_lt (fun x hx => hbF x (List.mem_of_mem_take hx)) (by decide)) h3
 have h6 : ∀ x ∈ (D.drop p ++ List.replicate 4 0).take 4, x = 0 := by
  have hl : ((D.drop p ++ List.replicate 4 0).take 4).length = 4 := by rw [List.length_take, List.length_append, List.length_replicate]; omega
  have hb4 : byN ((D.drop p ++ List.replicate 4 0).take 4) := fun x hx => hbF x (List.mem_of_mem_take hx)
  generalize (D.drop p ++ List.replicate 4 0).take 4 = L at *
  match L, hl with
  | [a, b, c, d], _ =>
   obtain ⟨e1, e2, e3, e4⟩ := fdN_win (hb4 a (by simp)) (hb4 b (by simp)) (hb4 c (by simp)) (hb4 d (by simp)) h5
   intro x hx
   simp only [List.mem_cons, List.not_mem_nil, or_false] at hx
   omega
 intro x hx
 rw [← List.take_append_drop p D] at hx
 rcases List.mem_append.1 hx with hx | hx
 ·
  exact h1 x hx
 ·
  have hx' : x ∈ D.drop p ++ List.replicate 4 0 := List.mem_append.2 (Or.inl hx)
  rw [← List.take_append_drop 4 (D.drop p ++ List.replicate 4 0)] at hx'
  rcases List.mem_append.1 hx' with hx' | hx'
  ·
   exact h6 x hx'
  ·
   exact h4 x hx'
/-- Two rows with their sums, of one length, that are alike but for four in a row, are one. -/
theorem sum_same {B B' : List Nat} (hl : B.length = B'.length) (hB : byN B) (hB' : byN B') (p : Nat)
  (h0 : ∀ i, (i < p ∨ p + 4 ≤ i) → (B ++ leN (4294967295 ^^^ fdN 4294967295 B))[i]? = (B' ++ leN (4294967295 ^^^ fdN 4294967295 B'))[i]?) :
  B ++ leN (4294967295 ^^^ fdN 4294967295 B) = B' ++ leN (4294967295 ^^^ fdN 4294967295 B') := by
 have hs := fdN_lt hB (s := 4294967295) (by decide)
 have hs' := fdN_lt hB' (s := 4294967295) (by decide)
 generalize hS : fdN 4294967295 B = s at *
 generalize hS' : fdN 4294967295 B' = s' at *
 have hz1 : fdN 0 (List.zipWith (· ^^^ ·) B B') = s ^^^ s' := by
  have := fdN_xor B B' 4294967295 4294967295 hl
  rw [Nat.xor_self, hS, hS'] at this
  exact this
 have hm : (4294967295 ^^^ s) ^^^ (4294967295 ^^^ s') = s ^^^ s' := by
  rw [show (4294967295 ^^^ s) ^^^ (4294967295 ^^^ s') = (4294967295 ^^^ 4294967295) ^^^ (s ^^^ s') from by ac_rfl, Nat.xor_self, Nat.zero_xor]
 have hz : fdN 0 (List.zipWith (· ^^^ ·) (B ++ leN (4294967295 ^^^ s)) (B' ++ leN (4294967295 ^^^ s'))) = 0 := by
  rw [List.zipWith_append hl, fdN_app, hz1, leN_xor, hm]
  exact fdN_tail (Nat.xor_lt_two_pow hs hs')
 have hW : byN (B ++ leN (4294967295 ^^^ s)) := fun x hx => (List.mem_append.1 hx).elim (hB x) (leN_by _ x)
 have hW' : byN (B' ++ leN (4294967295 ^^^ s')) := fun x hx => (List.mem_append.1 hx).elim (hB' x) (leN_by _ x)
 have hL : (B ++ leN (4294967295 ^^^ s)).length = (B' ++ leN (4294967295 ^^^ s')).length := by rw [List.length_append, List.length_append, hl]; rfl
 generalize B ++ leN (4294967295 ^^^ s) = X at *
 generalize B' ++ leN (4294967295 ^^^ s') = Y at *
 have hb : byN (List.zipWith (· ^^^ ·) X Y) := by
  intro x hx
  obtain ⟨i, hi, e⟩ := List.getElem_of_mem hx
  rw [List.getElem_zipWith] at e
  rw [← e]
  exact Nat.xor_lt_two_pow (n := 8) (hW _ (List.getElem_mem _)) (hW' _ (List.getElem_mem _))
 have hr := fdN_row hb p (fun i hi hc => by
  rw [List.length_zipWith] at hi
  rw [List.getElem_zipWith]
  have := h0 i hc
  rw [List.getElem?_eq_getElem (by omega), List.getElem?_eq_getElem (by omega)] at this
  rw [Option.some.inj this, Nat.xor_self]) hz
 apply List.ext_getElem hL
 intro i hi hi'
 have hm : (List.zipWith (· ^^^ ·) X Y)[i]'(by rw [List.length_zipWith]; omega) = 0 := hr _ (List.getElem_mem _)
 rw [List.getElem_zipWith] at hm
 exact xor_eq hm

/-! ### the program's sum -/
theorem bits_xorN (k : IntKind) (j : Nat) (hj : j ≤ k.bits) (hk : ∀ n : Int, 0 ≤ n → n < 2 ^ j → k.wrap n = n) (a b : Nat) (ha : a < 2 ^ j) (hb : b < 2 ^ j) : Go.bits .xor k a b = ((a ^^^ b : Nat) : Int) := by
 have hp : 2 ^ j ≤ 2 ^ k.bits := Nat.pow_le_pow_right (by decide) hj
 have ha' : a % 2 ^ k.bits = a := Nat.mod_eq_of_lt (Nat.lt_of_lt_of_le ha hp)
 have hb' : b % 2 ^ k.bits = b := Nat.mod_eq_of_lt (Nat.lt_of_lt_of_le hb hp)
 have cast : ∀ n : Nat, n < 2 ^ j → ((n : Nat) : Int) < 2 ^ j := fun n h => by exact_mod_cast h
 simp only [Go.bits, BitVec.ofInt_natCast, BitVec.toNat_xor, BitVec.toNat_ofNat, ha', hb']
 exact hk _ (Int.natCast_nonneg _) (cast _ (Nat.xor_lt_two_pow ha hb))
theorem wrapsU32 (n : Int) (h0 : 0 ≤ n) (h1 : n < 2 ^ 32) : IntKind.u32.wrap n = n := by rw [IntKind.wrap_u32]; omega
theorem xor32 {a b : Nat} (ha : a < 2 ^ 32) (hb : b < 2 ^ 32) : Go.bits .xor .u32 a b = ((a ^^^ b : Nat) : Int) := bits_xorN .u32 32 (by decide) wrapsU32 a b ha hb
theorem xor8 {a b : Nat} (ha : a < 256) (hb : b < 256) : Go.bits .xor .u8 a b = ((a ^^^ b : Nat) : Int) := bits_xorN .u8 8 (by decide) wraps_u8 a b ha hb
theorem low32 {a : Nat} (ha : a < 2 ^ 32) : Go.bits .and .u32 a 1 = ((a % 2 : Nat) : Int) := by
 have h := (bits_nat .u32 32 (by decide) wrapsU32 a 1 ha (by decide)).1
 rw [Nat.and_one_is_mod] at h
 exact h
theorem add_step (k : Nat) (i x : Nat) (hi : i < 8) (hx : x < 2 ^ 32) : frame_sum_add.l0 (k + 1) (i : Int) (x : Int) = frame_sum_add.l0 k ((i + 1 : Nat) : Int) ((st1 x : Nat) : Int) := by
 have hw : wrap64 ((i : Int) + 1) = ((i + 1 : Nat) : Int) := by unfold wrap64; omega
 have hd : (x : Int) / 2 = ((x / 2 : Nat) : Int) := by omega
 have hp : Go.bits .xor .u32 ((x / 2 : Nat) : Int) 2197175160 = ((x / 2 ^^^ 2197175160 : Nat) : Int) := xor32 (a := x / 2) (b := 2197175160) (by omega) (by decide)
 rw [frame_sum_add.l0, if_pos (by omega), low32 hx, hw, hd, hp]
 unfold st1
 by_cases h : x % 2 = 1
 ·
  rw [if_pos (by omega), if_pos h]
 ·
  rw [if_neg (by omega), if_neg h]
theorem addS_nat {s a : Nat} (hs : s < 2 ^ 32) (ha : a < 256) : addS (s : Int) (a : Int) = ((sh8 (s ^^^ a) : Nat) : Int) := by
 have hx : s ^^^ a < 2 ^ 32 := Nat.xor_lt_two_pow hs (by omega)
 have hm : (a : Int) % 4294967296 = (a : Int) := by omega
 unfold addS frame_sum_add.f
 rw [hm, xor32 hs (by omega)]
 have e0 : frame_sum_add.l0 20 0 ((s ^^^ a : Nat) : Int) = frame_sum_add.l0 20 ((0 : Nat) : Int) ((s ^^^ a : Nat) : Int) := rfl
 have h1 := st1_lt hx
 have h2 := st1_lt h1
 have h3 := st1_lt h2
 have h4 := st1_lt h3
 have h5 := st1_lt h4
 have h6 := st1_lt h5
 have h7 := st1_lt h6
 rw [e0, add_step 19 0 _ (by decide) hx, add_step 18 1 _ (by decide) h1, add_step 17 2 _ (by decide) h2, add_step 16 3 _ (by decide) h3, add_step 15 4 _ (by decide) h4, add_step 14 5 _ (by decide) h5, add_step 13 6 _ (by decide) h6, add_step 12 7 _ (by decide) h7]
 rfl
def natL (l : List Int) : List Nat := l.map Int.toNat
theorem natL_by {l : List Int} (h : byt l) : byN (natL l) := by
 intro a ha
 obtain ⟨x, hx, rfl⟩ := List.mem_map.1 ha
 have := h x hx
 omega
theorem fold_nat {l : List Int} (h : byt l) : ∀ s : Nat, s < 2 ^ 32 → l.foldl addS (s : Int) = ((fdN s (natL l) : Nat) : Int) := by
 induction l with
 | nil => intro s _; rfl
 | cons a r ih =>
  intro s hs
  obtain ⟨h1, h2⟩ := byt_cons.1 h
  obtain ⟨n, rfl⟩ := Int.eq_ofNat_of_zero_le h1.1
  have hn : n < 256 := by omega
  rw [List.foldl_cons, addS_nat hs hn, ih h2 _ (sh8_lt (Nat.xor_lt_two_pow hs (by omega)))]
  rfl
theorem sumL_nat {l : List Int} (h : byt l) : sumL l = ((4294967295 ^^^ fdN 4294967295 (natL l) : Nat) : Int) := by
 unfold sumL
 rw [show l.foldl addS 4294967295 = ((fdN 4294967295 (natL l) : Nat) : Int) from fold_nat h 4294967295 (by decide)]
 rw [show IntKind.u32.max = ((4294967295 : Nat) : Int) from rfl, xor32 (by decide) (fdN_lt (natL_by h) (by decide))]
theorem ofL_nat (m : Nat) : natL (ofL (m : Int)) = leN m := by
 show [((m : Int) % 256).toNat, ((m : Int) / 256 % 256).toNat, ((m : Int) / 65536 % 256).toNat, ((m : Int) / 16777216 % 256).toNat] = [m % 256, m / 256 % 256, m / 65536 % 256, m / 16777216 % 256]
 rw [show ((m : Int) % 256).toNat = m % 256 from by omega, show ((m : Int) / 256 % 256).toNat = m / 256 % 256 from by omega, show ((m : Int) / 65536 % 256).toNat = m / 65536 % 256 from by omega, show ((m : Int) / 16777216 % 256).toNat = m / 16777216 % 256 from by omega]
theorem natL_app (a b : List Int) : natL (a ++ b) = natL a ++ natL b := List.map_append ..
theorem natL_inj {a b : List Int} (ha : byt a) (hb : byt b) (h : natL a = natL b) : a = b := by
 induction a generalizing b with
 | nil => cases b with
  | nil => rfl
  | cons y r => cases h
 | cons x r ih => cases b with
  | nil => cases h
  | cons y r' =>
   obtain ⟨h1, h2⟩ := byt_cons.1 ha
   obtain ⟨h3, h4⟩ := byt_cons.1 hb
   simp only [natL, List.map_cons, List.cons.injEq] at h
   rw [ih h2 h4 h.2, show x = y from by omega]
theorem ofL_byt (n : Int) (h : 0 ≤ n) : byt (ofL n) := by
 intro x hx
 simp only [ofL, List.mem_cons, List.not_mem_nil, or_false] at hx
 omega
theorem sumL_range {l : List Int} (h : byt l) : 0 ≤ sumL l := by rw [sumL_nat h]; exact Int.natCast_nonneg _
theorem frB_byt {x : List Int} (h : byt x) : byt (frB x) := by
 unfold frB
 refine byt_app.2 ⟨?_, byt_app.2 ⟨vput_byt _, h⟩⟩
 intro y hy
 simp only [List.mem_cons, List.not_mem_nil, or_false] at hy
 omega
theorem wrap_byt {x : List Int} (h : byt x) : byt (wrapP x) := by
 by_cases hl : x.length ≤ 65536
 ·
  rw [wrap_fr hl]
  exact byt_app.2 ⟨frB_byt h, ofL_byt _ (sumL_range (frB_byt h))⟩
 ·
  unfold wrapP
  rw [if_pos (by omega)]
  exact byt_nil
/-- A frame of which some within four in a row are other ones is refused. -/
theorem turned_bad {x l' : List Int} (hx : byt x) (hxl : x.length ≤ 65536) (hb : byt l') (hl : l'.length = (wrapP x).length) (p : Nat) (h0 : ∀ i, (i < p ∨ p + 4 ≤ i) → (wrapP x)[i]? = l'[i]?) (h : (openP l').2 = 0) : l' = wrapP x := by
 have hy := open_len hb
 have hyb := open_byt hb
 have e := wrap_open hb h
 generalize (openP l').1 = y at hy hyb e
 subst e
 rw [wrap_fr hxl] at hl h0 ⊢
 rw [wrap_fr hy] at hl h0 ⊢
 have bx := frB_byt hx
 have bz := frB_byt hyb
 have key := sum_same (B := natL (frB x)) (B' := natL (frB y)) (by unfold natL; rw [List.length_map, List.length_map]; rw [List.length_append, List.length_append, ofL_len, ofL_len] at hl; omega) (natL_by bx) (natL_by bz) p (fun i hi => by
  have := congrArg (Option.map Int.toNat) (h0 i hi)
  rw [← List.getElem?_map, ← List.getElem?_map] at this
  have t : (natL (frB x ++ ofL (sumL (frB x))))[i]? = (natL (frB y ++ ofL (sumL (frB y))))[i]? := this
  rw [natL_app, natL_app, sumL_nat bx, sumL_nat bz, ofL_nat, ofL_nat] at t
  exact t)
 refine (natL_inj (byt_app.2 ⟨bx, ofL_byt _ (sumL_range bx)⟩) (byt_app.2 ⟨bz, ofL_byt _ (sumL_range bz)⟩) ?_).symm
 rw [natL_app, natL_app, sumL_nat bx, sumL_nat bz, ofL_nat, ofL_nat]
 exact key
/-! ### what is packed is bytes -/
theorem putP_byt (n : Int) : byt (putP n) := by
 rw [putP_def]
 split
 ·
  exact vput_byt _
 ·
  exact byt_nil
theorem sized_byt {b : List Int} (h : byt b) : byt (sizedP b) := byt_app.2 ⟨vput_byt _, h⟩
theorem encs_byt {α : Type} (enc : α → List Int) (h : ∀ x, byt (enc x)) (l : List α) : byt (encs enc l) := by
 induction l with
 | nil => exact byt_nil
 | cons x r ih => exact byt_app.2 ⟨h x, ih⟩
theorem gaps_byt (l : List Int) : ∀ last, byt (gaps last l) := by
 induction l with
 | nil => intro _; exact byt_nil
 | cons a r ih => intro last; exact byt_app.2 ⟨vput_byt _, ih a⟩
theorem body_byt (ps : List S64) : ∀ ah, byt (bodyP ah ps) := by
 induction ps with
 | nil => intro _; exact byt_nil
 | cons p r ih => intro ah; exact byt_app.2 ⟨byt_app.2 ⟨putP_byt _, byt_app.2 ⟨vput_byt _, gaps_byt _ _⟩⟩, ih _⟩
theorem chunks_byt (l : List S64) (js : List Nat) : ∀ ah, byt (chunksP l ah js) := by
 induction js with
 | nil => intro _; exact byt_nil
 | cons j r ih => intro ah; exact byt_app.2 ⟨byt_app.2 ⟨byt_app.2 ⟨putP_byt _, putP_byt _⟩, body_byt _ _⟩, ih _⟩
theorem postR_byt (l : List S64) : byt (postPackR l) := by
 unfold postPackR
 split
 ·
  exact byt_app.2 ⟨putP_byt _, chunks_byt _ _ _⟩
 ·
  exact byt_nil
theorem dpk_byt (l : List ByteArray) : ∀ ah, byt (dpk ah l) := by
 induction l with
 | nil => intro _; exact byt_nil
 | cons t r ih => intro ah; exact byt_app.2 ⟨byt_app.2 ⟨byt_app.2 ⟨putP_byt _, putP_byt _⟩, byt_drop (bytesOf_byt t) _⟩, ih t⟩
theorem dictR_byt (l : List ByteArray) : byt (dictPackR l) := by
 unfold dictPackR
 split
 ·
  exact byt_app.2 ⟨putP_byt _, dpk_byt _ _⟩
 ·
  exact byt_nil
theorem packIn_byt (ids : List ByteArray) (keys lens : List Int) (terms : List S44) (so : Bool) : byt (packIn ids keys lens terms so) := by
 rw [pack_parts]
 refine byt_app.2 ⟨?_, byt_app.2 ⟨putP_byt _, byt_app.2 ⟨encs_byt _ (fun x => sized_byt (bytesOf_byt x)) _, byt_app.2 ⟨encs_byt _ putP_byt _, byt_app.2 ⟨encs_byt _ putP_byt _, byt_app.2 ⟨sized_byt (dictR_byt _), encs_byt _ (fun x => sized_byt (postR_byt _)) _⟩⟩⟩⟩⟩⟩
 intro x hx
 rw [List.mem_singleton.1 hx]
 cases so <;> decide
theorem packR_byt (ids : List ByteArray) (keys lens : List Int) (terms : List S44) (so : Bool) : byt (packR ids keys lens terms so) := by
 unfold packR
 split
 ·
  exact wrap_byt (packIn_byt _ _ _ _ _)
 ·
  exact byt_nil
end Go.Proofs.Ytfhcolhiolgikaa.Plain
/- Plain facts for Pack: what is the same is the same; few. -/
namespace Go.Proofs.Ytfhcolhiolgikaa.Plain
set_option linter.unusedVariables false
set_option linter.unusedSimpArgs false
open Go.RowKit Go.Proofs.Ytfhcolhiolgikaa.T Go.Proofs.YtfhcolhiolgikaaW.PrintWords Go.Proofs.YtfhcolhiolgikaaW.PrintLast Go.Proofs.YtfhcolhiolgikaaW.PrintMore
theorem succ_of {f k : Nat} (h : f < k) : ∃ m, k = m + 1 := ⟨k - 1, by omega⟩
/-- A small segment. -/
structure SegSm (ids : List ByteArray) (keys lens : List Int) (terms : List S44) : Prop where
 ni : ids.length ≤ 250
 nk : keys.length ≤ 250
 nl : lens.length ≤ 250
 nt : terms.length ≤ 250
 ps : ∀ t ∈ terms, t.f1.length ≤ 250 ∧ ∀ p ∈ t.f1, p.f1.length ≤ 250
 is : ∀ x ∈ ids, x.size ≤ 100000
/-! ### few -/
theorem few6_loop (l : List S64) (hl : l.length ≤ 70) : ∀ (f i k : Nat), f + i = l.length → f < k → ∃ r, catchwordlaw06_Few.l0 k l (i : Int) = some r ∧ (r = true → ∀ p ∈ l.drop i, p.f1.length ≤ 130) := by
 intro f
 induction f with
 | zero =>
  intro i k h hk
  obtain ⟨k, rfl⟩ := succ_of hk
  refine ⟨true, by rw [catchwordlaw06_Few.l0, if_neg (by omega)], fun _ p hp => ?_⟩
  rw [List.drop_eq_nil_of_le (by omega)] at hp; cases hp
 | succ f ih =>
  intro i k h hk
  obtain ⟨k, rfl⟩ := succ_of hk
  rw [catchwordlaw06_Few.l0, if_pos (by omega), if_pos (by omega), wstep (by omega)]
  by_cases hc : (((rd_T64 l (i : Int)).f1).length : Int) > 130
  ·
   rw [if_pos hc]
   exact ⟨false, rfl, fun h => by cases h⟩
  ·
   rw [if_neg hc]
   obtain ⟨r, e, hr⟩ := ih (i + 1) k (by omega) (by omega)
   refine ⟨r, e, fun h p hp => ?_⟩
   rw [drop64 l i (by omega)] at hp
   rcases List.mem_cons.1 hp with rfl | hp
   ·
    omega
   ·
    exact hr h p hp
theorem few6 (l : List S64) (k : Nat) (hk : 71 ≤ k) : ∃ r, catchwordlaw06_Few.f k l = some r ∧ (r = true → l.length ≤ 70 ∧ ∀ p ∈ l, p.f1.length ≤ 130) := by
 unfold catchwordlaw06_Few.f
 by_cases hc : (l.length : Int) > 70
 ·
  rw [if_pos hc]
  exact ⟨false, rfl, fun h => by cases h⟩
 ·
  rw [if_neg hc]
  obtain ⟨r, e, hr⟩ := few6_loop l (by omega) l.length 0 k rfl (by omega)
  exact ⟨r, e, fun h => ⟨by omega, hr h⟩⟩
theorem few8_terms (ids : List ByteArray) (keys lens : List Int) (terms : List S44) (so : Bool) (hl : terms.length ≤ 210) : ∀ (f i k : Nat), f + i = terms.length → f + 80 < k → ∃ r, catchwordlaw08_FewSeg.l1 k (i : Int) ids keys lens terms so = some r ∧ (r = true → ∀ t ∈ terms.drop i, t.f1.length ≤ 250 ∧ ∀ p ∈ t.f1, p.f1.length ≤ 250) := by
 intro f
 induction f with
 | zero =>
  intro i k h hk
  obtain ⟨k, rfl⟩ := succ_of hk
  refine ⟨true, by rw [catchwordlaw08_FewSeg.l1, if_neg (by omega)], fun _ p hp => ?_⟩
  rw [List.drop_eq_nil_of_le (by omega)] at hp; cases hp
 | succ f ih =>
  intro i k h hk
  obtain ⟨k, rfl⟩ := succ_of hk
  obtain ⟨r6, e6, h6⟩ := few6 (rd_T44 terms (i : Int)).f1 k (by omega)
  rw [catchwordlaw08_FewSeg.l1, if_pos (by omega), if_pos (by omega), e6, Option.bind_some]
  cases r6 with
  | false => exact ⟨false, by rw [if_neg (by decide)], fun h => by cases h⟩
  | true =>
   rw [if_pos rfl]
   by_cases hc : (((rd_T44 terms (i : Int)).f0).size : Int) > 40
   ·
    rw [if_pos hc]; exact ⟨false, rfl, fun h => by cases h⟩
   ·
    rw [if_neg hc, wstep (by omega)]
    obtain ⟨r, e, hr⟩ := ih (i + 1) k (by omega) (by omega)
    refine ⟨r, e, fun h t ht => ?_⟩
    rw [drop44 terms i (by omega)] at ht
    rcases List.mem_cons.1 ht with rfl | ht
    ·
     have := h6 rfl
     exact ⟨by omega, fun p hp => by have := this.2 p hp; omega⟩
    ·
     exact hr h t ht
theorem few8_ids (ids : List ByteArray) (keys lens : List Int) (terms : List S44) (so : Bool) (hi : ids.length ≤ 70) (hl : terms.length ≤ 210) : ∀ (f i k : Nat), f + i = ids.length → f + 300 < k → ∃ r, catchwordlaw08_FewSeg.l0 k (i : Int) ids keys lens terms so = some r ∧ (r = true → (∀ x ∈ ids.drop i, x.size ≤ 100000) ∧ ∀ t ∈ terms, t.f1.length ≤ 250 ∧ ∀ p ∈ t.f1, p.f1.length ≤ 250) := by
 intro f
 induction f with
 | zero =>
  intro i k h hk
  obtain ⟨k, rfl⟩ := succ_of hk
  rw [catchwordlaw08_FewSeg.l0, if_neg (by omega)]
  obtain ⟨r, e, hr⟩ := few8_terms ids keys lens terms so hl terms.length 0 k rfl (by omega)
  refine ⟨r, e, fun h => ⟨fun x hx => ?_, hr h⟩⟩
  rw [List.drop_eq_nil_of_le (by omega)] at hx; cases hx
 | succ f ih =>
  intro i k h hk
  obtain ⟨k, rfl⟩ := succ_of hk
  rw [catchwordlaw08_FewSeg.l0, if_pos (by omega), if_pos (by omega)]
  by_cases hc : ((rdOf ByteArray.empty ids (i : Int)).size : Int) > 40
  ·
   rw [if_pos hc]; exact ⟨false, rfl, fun h => by cases h⟩
  ·
   rw [if_neg hc, wstep (by omega)]
   obtain ⟨r, e, hr⟩ := ih (i + 1) k (by omega) (by omega)
   refine ⟨r, e, fun h => ⟨fun x hx => ?_, (hr h).2⟩⟩
   rw [dropS ids i (by omega)] at hx
   rcases List.mem_cons.1 hx with rfl | hx
   ·
    omega
   ·
    exact (hr h).1 x hx
theorem few8 (ids : List ByteArray) (keys lens : List Int) (terms : List S44) (so : Bool) : ∃ r, catchwordlaw08_FewSeg.f 500 ids keys lens terms so = some r ∧ (r = true → SegSm ids keys lens terms) := by
 unfold catchwordlaw08_FewSeg.f
 have hj : catchwordlaw08_FewSeg.j0 500 true ids keys lens terms so = some false := by rw [catchwordlaw08_FewSeg.j0, if_pos rfl]
 by_cases h1 : (ids.length : Int) > 70
 ·
  rw [if_pos h1, hj]; exact ⟨false, rfl, fun h => by cases h⟩
 rw [if_neg h1]
 by_cases h2 : (keys.length : Int) > 70
 ·
  rw [if_pos h2, hj]; exact ⟨false, rfl, fun h => by cases h⟩
 rw [if_neg h2]
 by_cases h3 : (lens.length : Int) > 70
 ·
  rw [if_pos h3, hj]; exact ⟨false, rfl, fun h => by cases h⟩
 rw [if_neg h3]
 by_cases h4 : (terms.length : Int) > 210
 ·
  rw [decide_eq_true h4, hj]; exact ⟨false, rfl, fun h => by cases h⟩
 rw [decide_eq_false h4, catchwordlaw08_FewSeg.j0, if_neg (by decide)]
 obtain ⟨r, e, hr⟩ := few8_ids ids keys lens terms so (by omega) (by omega) ids.length 0 499 rfl (by omega)
 exact ⟨r, e, fun h => ⟨by omega, by omega, by omega, by omega, (hr h).2, (hr h).1⟩⟩
end Go.Proofs.Ytfhcolhiolgikaa.Plain
/- Plain facts for Pack: the law of turned bytes. -/
namespace Go.Proofs.Ytfhcolhiolgikaa.Plain
set_option linter.unusedVariables false
set_option linter.unusedSimpArgs false
open Go.RowKit Go.Proofs.Ytfhcolhiolgikaa.T Go.Proofs.YtfhcolhiolgikaaW.PrintWords Go.Proofs.YtfhcolhiolgikaaW.PrintLast Go.Proofs.YtfhcolhiolgikaaW.PrintMore
def turnN (l : List Int) (p : Nat) (ys : List Int) : Nat → List Int
 | 0 => l
 | i + 1 => (turnN l p ys i).set (p + i) (Go.bits .xor .u8 (rd (turnN l p ys i) ((p + i : Nat) : Int)) (rd ys (i : Int)))
def tflag (ys : List Int) : Nat → Bool
 | 0 => false
 | i + 1 => tflag ys i || (rd ys (i : Int) != 0)
theorem turn_len (l : List Int) (p : Nat) (ys : List Int) (i : Nat) : (turnN l p ys i).length = l.length := by
 induction i with
 | zero => rfl
 | succ i ih => simp only [turnN, List.length_set, ih]
theorem rd_byt {l : List Int} (h : byt l) (i : Int) : 0 ≤ rd l i ∧ rd l i < 256 := by
 unfold rd
 rw [List.getD_eq_getElem?_getD]
 cases hc : l[i.toNat]? with
 | none => simp
 | some v => exact h v (List.mem_of_getElem? hc)
theorem xor_u8 {a y : Int} (ha : 0 ≤ a ∧ a < 256) (hy : 0 ≤ y ∧ y < 256) : (0 ≤ Go.bits .xor .u8 a y ∧ Go.bits .xor .u8 a y < 256) ∧ (y = 0 → Go.bits .xor .u8 a y = a) ∧ (y ≠ 0 → Go.bits .xor .u8 a y ≠ a) := by
 obtain ⟨m, rfl⟩ := Int.eq_ofNat_of_zero_le ha.1
 obtain ⟨n, rfl⟩ := Int.eq_ofNat_of_zero_le hy.1
 rw [xor8 (by omega) (by omega)]
 have h : m ^^^ n < 256 := Nat.xor_lt_two_pow (n := 8) (by omega) (by omega)
 refine ⟨by omega, fun h0 => ?_, fun h0 h1 => h0 ?_⟩
 ·
  have : n = 0 := by omega
  rw [this, Nat.xor_zero]
 ·
  have h2 : m ^^^ n = m := by omega
  have h3 : m ^^^ (m ^^^ n) = n := by rw [← Nat.xor_assoc, Nat.xor_self, Nat.zero_xor]
  rw [h2, Nat.xor_self] at h3
  omega
theorem turn_byt {l ys : List Int} (hl : byt l) (hy : byt ys) (p : Nat) (i : Nat) : byt (turnN l p ys i) := by
 induction i with
 | zero => exact hl
 | succ i ih =>
  intro x hx
  simp only [turnN] at hx
  rcases List.mem_or_eq_of_mem_set hx with hx | rfl
  ·
   exact ih x hx
  ·
   exact (xor_u8 (rd_byt ih _) (rd_byt hy _)).1
theorem turn_out (l ys : List Int) (p : Nat) (i : Nat) : ∀ j, (j < p ∨ p + i ≤ j) → (turnN l p ys i)[j]? = l[j]? := by
 induction i with
 | zero => intro j _; rfl
 | succ i ih =>
  intro j hj
  simp only [turnN]
  rw [List.getElem?_set_ne (by omega), ih j (by omega)]
theorem turn_at {l ys : List Int} {p i : Nat} (h : p + i < l.length) : rd (turnN l p ys i) ((p + i : Nat) : Int) = l[p + i] := by
 have h1 := turn_out l ys p i (p + i) (Or.inr (Nat.le_refl _))
 rw [rd_nat _ _ (by rw [turn_len]; exact h)]
 rw [List.getElem?_eq_getElem (by rw [turn_len]; exact h), List.getElem?_eq_getElem h] at h1
 exact Option.some.inj h1
theorem turn_same {l ys : List Int} (hl : byt l) (hy : byt ys) (p : Nat) : ∀ i, p + i ≤ l.length → tflag ys i = false → turnN l p ys i = l := by
 intro i
 induction i with
 | zero => intro _ _; rfl
 | succ i ih =>
  intro h hf
  simp only [tflag, Bool.or_eq_false_iff, bne_eq_false_iff_eq] at hf
  have h1 := ih (by omega) hf.1
  have h2 := turn_at (ys := ys) (show p + i < l.length by omega)
  simp only [turnN]
  rw [h2, (xor_u8 (hl _ (List.getElem_mem _)) (rd_byt hy _)).2.1 hf.2, h1, List.set_getElem_self]
theorem turn_other {l ys : List Int} (hl : byt l) (hy : byt ys) (p : Nat) : ∀ i, p + i ≤ l.length → tflag ys i = true → ∃ j, j < i ∧ (turnN l p ys i)[p + j]? ≠ l[p + j]? := by
 intro i
 induction i with
 | zero => intro _ h; cases h
 | succ i ih =>
  intro h hf
  simp only [tflag, Bool.or_eq_true, bne_iff_ne] at hf
  have h2 := turn_at (ys := ys) (show p + i < l.length by omega)
  by_cases hc : tflag ys i = true
  ·
   obtain ⟨j, hj, hne⟩ := ih (by omega) hc
   refine ⟨j, by omega, ?_⟩
   simp only [turnN]
   rw [List.getElem?_set_ne (by omega)]
   exact hne
  ·
   have hy0 : rd ys (i : Int) ≠ 0 := hf.resolve_left hc
   refine ⟨i, by omega, fun e => ?_⟩
   simp only [turnN] at e
   rw [List.getElem?_set_self (by rw [turn_len]; omega), List.getElem?_eq_getElem (by omega), h2] at e
   exact (xor_u8 (hl _ (List.getElem_mem _)) (rd_byt hy _)).2.2 hy0 (Option.some.inj e)
theorem unSeg_open {l : List Int} (h : (unSegP l).2 = 0) : (openP l).2 = 0 := by
 unfold unSegP at h
 by_cases hc : (openP l).2 = 0
 ·
  exact hc
 ·
  rw [if_neg hc] at h; exact h
theorem turn_law {ids : List ByteArray} {keys lens : List Int} {terms : List S44} {so : Bool} (hm : segMayP ids keys lens terms so = true) {ys : List Int} (hy : byt ys) {p i : Nat} (hi : i ≤ 4) (hp : p + i ≤ (packR ids keys lens terms so).length) :
  (tflag ys i = false → unSegP (turnN (packR ids keys lens terms so) p ys i) = (⟨ids, keys, lens, terms, so⟩, 0)) ∧ (tflag ys i = true → (unSegP (turnN (packR ids keys lens terms so) p ys i)).2 = 5 ∨ (unSegP (turnN (packR ids keys lens terms so) p ys i)).2 = 6) := by
 have hb := packR_byt ids keys lens terms so
 have hR : packR ids keys lens terms so = wrapP (packIn ids keys lens terms so) := if_pos hm
 refine ⟨fun h => ?_, fun h => ?_⟩
 ·
  rw [turn_same hb hy p i hp h]
  exact pack_back hm
 ·
  rcases un_codes (turnN (packR ids keys lens terms so) p ys i) with ⟨h0, _, _⟩ | ⟨_, h0⟩
  ·
   exfalso
   obtain ⟨j, hj, hne⟩ := turn_other hb hy p i hp h
   apply hne
   have := turned_bad (packIn_byt ids keys lens terms so) (packIn_len hm) (turn_byt hb hy p i) (by rw [turn_len, hR]) p (fun k hk => by rw [turn_out _ _ _ _ k (by omega), hR]) (unSeg_open h0)
   rw [this, hR]
  ·
   exact h0
theorem cut_law {ids : List ByteArray} {keys lens : List Int} {terms : List S44} {so : Bool} (hm : segMayP ids keys lens terms so = true) {n : Nat} (hn : n < (packR ids keys lens terms so).length) : unSegP ((packR ids keys lens terms so).take n) = (segZ, 5) := by
 have hR : packR ids keys lens terms so = wrapP (packIn ids keys lens terms so) := if_pos hm
 have hl := packIn_len hm
 have hbx := frB_byt (packIn_byt ids keys lens terms so)
 rw [hR, wrap_fr hl] at hn ⊢
 have hc := cut_form hbx hl (n := n) (by rw [List.length_append, ofL_len] at hn; exact hn) (ofL (sumL (frB (packIn ids keys lens terms so)))) rfl (ofL_byt _ (sumL_range hbx))
 unfold unSegP
 rw [hc]
 rfl
end Go.Proofs.Ytfhcolhiolgikaa.Plain
