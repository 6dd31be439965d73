import Derived.Test.YtkdbfeapfcflmaaPA
import Derived.Test.YtkdbfeapfcflmaaTx5
import Derived.Shelf.Bits.Mul64
/- Plain facts for Best: what the printed functions of a number, and of the order, tell. -/
namespace Go.Proofs.Ytkdbfeapfcflmaa.Plain
set_option linter.unusedVariables false
set_option linter.unusedSimpArgs false
open Go.RowKit Go.Proofs.Ytkdbfeapfcflmaa.T Go.Proofs.YtkdbfeapfcflmaaW.PrintWords Go.Proofs.YtkdbfeapfcflmaaW.PrintLast
def U (x : Int) : Prop := 0 ≤ x ∧ x < 18446744073709551616
def okF (f : S25) : Bool := decide (0 < f.f1) && (Nat.gcd f.f0.toNat f.f1.toNat == 1)
def ltF (a b : S25) : Bool := decide (a.f0.toNat * b.f1.toNat < b.f0.toNat * a.f1.toNat)
def lessB (a b : S25) : Bool := okF a && (okF b && ltF a b)
theorem tmod_nat (a b : Nat) : Int.tmod (a : Int) (b : Int) = ((a % b : Nat) : Int) := by
  rw [Int.tmod_eq_emod_of_nonneg (by omega)]
  exact (Int.natCast_emod a b).symm
theorem tdiv_nat (a b : Nat) : Int.tdiv (a : Int) (b : Int) = ((a / b : Nat) : Int) := by
  rw [Int.tdiv_eq_ediv_of_nonneg (by omega)]
  exact (Int.natCast_ediv a b).symm
theorem wrap_nat (a : Nat) (h : a < 18446744073709551616) : IntKind.u64.wrap (a : Int) = (a : Int) := by
  rw [IntKind.wrap_u64]; omega
theorem gcd_step (a b : Nat) : Nat.gcd a b = Nat.gcd b (a % b) := by
  rw [Nat.gcd_comm a b, Nat.gcd_rec b a, Nat.gcd_comm]
theorem common_nat : ∀ (k a b : Nat), b < k → score_common.l0 k (a : Int) (b : Int) = some ((Nat.gcd a b : Nat) : Int)
  | 0, a, b, h => absurd h (by omega)
  | k + 1, a, b, h => by
    rw [score_common.l0]
    by_cases h0 : b = 0
    · subst h0
      rw [if_neg (by omega), Nat.gcd_zero_right]
    · rw [if_pos (by omega), if_neg (by omega), tmod_nat, gcd_step a b]
      have := Nat.mod_lt a (show 0 < b by omega)
      exact common_nat k b (a % b) (by omega)
theorem divisor_nat : ∀ (k a b : Nat), b < k → catchwordref19_divisor.l0 k (a : Int) (b : Int) = some ((Nat.gcd a b : Nat) : Int)
  | 0, a, b, h => absurd h (by omega)
  | k + 1, a, b, h => by
    rw [catchwordref19_divisor.l0]
    by_cases h0 : b = 0
    · subst h0
      rw [if_neg (by omega), Nat.gcd_zero_right]
    · rw [if_pos (by omega), if_neg (by omega), tmod_nat, gcd_step a b]
      have := Nat.mod_lt a (show 0 < b by omega)
      exact divisor_nat k b (a % b) (by omega)
theorem div_self_iff (d t : Nat) (hd : 0 < d) (ht : t ∣ d) (h0 : 0 < t) : d / t = d ↔ t = 1 := by
  constructor
  · intro h
    have := Nat.div_mul_cancel ht
    rw [h] at this
    have h2 : d * t = d * 1 := by omega
    exact Nat.eq_of_mul_eq_mul_left hd h2
  · intro h; subst h; exact Nat.div_one d
theorem may_eq (k : Nat) (f : S25) (hn : U f.f0) (hd : U f.f1) (hk : f.f1.toNat < k) : score_May.f k f.f0 f.f1 = some (okF f) := by
  obtain ⟨n, d⟩ := f
  obtain ⟨n0, n1⟩ := hn
  obtain ⟨d0, d1⟩ := hd
  simp only at n0 n1 d0 d1 hk ⊢
  obtain ⟨n, rfl⟩ := Int.eq_ofNat_of_zero_le n0
  obtain ⟨d, rfl⟩ := Int.eq_ofNat_of_zero_le d0
  simp only [Int.toNat_natCast] at hk
  unfold score_May.f score_Make.f okF
  by_cases h0 : d = 0
  · subst h0
    rw [if_pos (by omega)]
    simp
  · rw [if_neg (by omega)]
    unfold score_common.f
    rw [common_nat k n d hk]
    simp only [Option.bind_some, Int.toNat_natCast]
    have hg : 0 < Nat.gcd n d := Nat.gcd_pos_of_pos_right n (by omega)
    rw [if_neg (by omega), tdiv_nat, tdiv_nat, wrap_nat _ (Nat.lt_of_le_of_lt (Nat.div_le_self _ _) (by omega)), wrap_nat _ (Nat.lt_of_le_of_lt (Nat.div_le_self _ _) (by omega))]
    simp only [Option.bind_some, if_true, Option.some.injEq]
    have hdv := div_self_iff d (Nat.gcd n d) (by omega) (Nat.gcd_dvd_right n d) hg
    rw [Bool.eq_iff_iff]
    simp only [Bool.and_eq_true, beq_iff_eq, decide_eq_true_eq]
    constructor
    · rintro ⟨_, h2⟩
      exact ⟨by omega, hdv.1 (by omega)⟩
    · rintro ⟨_, h2⟩
      rw [h2, Nat.div_one, Nat.div_one]
      exact ⟨rfl, rfl⟩
theorem rmay_eq (k : Nat) (f : S25) (hn : U f.f0) (hd : U f.f1) (hk : f.f1.toNat < k) : catchwordref19_May.f k f.f0 f.f1 = some (okF f) := by
  obtain ⟨n, d⟩ := f
  obtain ⟨n0, n1⟩ := hn
  obtain ⟨d0, d1⟩ := hd
  simp only at n0 n1 d0 d1 hk ⊢
  obtain ⟨n, rfl⟩ := Int.eq_ofNat_of_zero_le n0
  obtain ⟨d, rfl⟩ := Int.eq_ofNat_of_zero_le d0
  simp only [Int.toNat_natCast] at hk
  unfold catchwordref19_May.f okF
  by_cases h0 : d = 0
  · subst h0
    rw [if_neg (by omega)]
    simp
  · rw [if_pos (by omega)]
    unfold catchwordref19_divisor.f
    rw [divisor_nat k n d hk]
    simp only [Option.bind_some, Int.toNat_natCast, Option.some.injEq]
    rw [decide_eq_true (by omega), Bool.true_and, Bool.eq_iff_iff, beq_iff_eq, beq_iff_eq]
    omega
theorem mul64_eq (x y : Nat) (hx : x < 18446744073709551616) (hy : y < 18446744073709551616) : bits_Mul64.f (x : Int) (y : Int) = some (((x * y / 18446744073709551616 : Nat) : Int), ((x * y % 18446744073709551616 : Nat) : Int)) := by
  obtain ⟨bd, bt, bw, hhi⟩ := Lib.mul64_hi x y hx hy
  have ba := Lib.half_mul_le (a := x / 4294967296) (b := y / 4294967296) (by omega) (by omega)
  have bb := Lib.half_mul_le (a := x / 4294967296) (b := y % 4294967296) (by omega) (by omega)
  have bc := Lib.half_mul_le (a := x % 4294967296) (b := y / 4294967296) (by omega) (by omega)
  have ba' : x / 4294967296 * (y / 4294967296) < 18446744073709551616 := by omega
  have bb' : x / 4294967296 * (y % 4294967296) < 18446744073709551616 := by omega
  have bc' : x % 4294967296 * (y / 4294967296) < 18446744073709551616 := by omega
  have bh1 : x / 4294967296 * (y / 4294967296) + (x / 4294967296 * (y % 4294967296) + x % 4294967296 * (y % 4294967296) / 4294967296) / 4294967296 < 18446744073709551616 := by omega
  have bh : x / 4294967296 * (y / 4294967296) + (x / 4294967296 * (y % 4294967296) + x % 4294967296 * (y % 4294967296) / 4294967296) / 4294967296 + ((x / 4294967296 * (y % 4294967296) + x % 4294967296 * (y % 4294967296) / 4294967296) % 4294967296 + x % 4294967296 * (y / 4294967296)) / 4294967296 < 18446744073709551616 := by omega
  unfold bits_Mul64.f
  simp only [Mul64.maskN x hx, Mul64.maskN y hy, Mul64.divN, Mul64.mulN, Mul64.addN, Mul64.wrapN _ bd, Mul64.wrapN _ bb', Mul64.wrapN _ bt, Mul64.maskN _ bt, Mul64.wrapN _ bc', Mul64.wrapN _ bw, Mul64.wrapN _ ba', Mul64.wrapN _ bh1, Mul64.wrapN _ bh, Mul64.wrapM (x * y)]
  rw [hhi]
theorem div_lt_iff (x y m : Nat) (hm : 0 < m) : (x / m < y / m ∨ x / m = y / m ∧ x % m < y % m) ↔ x < y := by
  have h1 := Nat.div_add_mod x m
  have h2 := Nat.div_add_mod y m
  have h3 := Nat.mod_lt x hm
  have h4 := Nat.mod_lt y hm
  constructor
  · rintro (h | ⟨h, h'⟩)
    · have : m * (x / m + 1) ≤ m * (y / m) := Nat.mul_le_mul_left m h
      rw [Nat.mul_add, Nat.mul_one] at this
      omega
    · rw [h] at h1; omega
  · intro h
    rcases Nat.lt_trichotomy (x / m) (y / m) with h5 | h5 | h5
    · exact .inl h5
    · rw [h5] at h1; exact .inr ⟨h5, by omega⟩
    · have : m * (y / m + 1) ≤ m * (x / m) := Nat.mul_le_mul_left m h5
      rw [Nat.mul_add, Nat.mul_one] at this
      omega
theorem less_eq (k : Nat) (a b : S25) (ha : U a.f0 ∧ U a.f1) (hb : U b.f0 ∧ U b.f1) (hk : a.f1.toNat < k + 1) (hk2 : b.f1.toNat < k + 1) : score_Less.f (k + 1) a.f0 a.f1 b.f0 b.f1 = some (lessB a b) := by
  unfold score_Less.f lessB
  rw [may_eq (k + 1) a ha.1 ha.2 hk, may_eq (k + 1) b hb.1 hb.2 hk2]
  cases oa : okF a with
  | false => simp [score_Less.j0]
  | true =>
    cases ob : okF b with
    | false => simp [score_Less.j0]
    | true =>
      obtain ⟨n1, d1⟩ := a
      obtain ⟨n2, d2⟩ := b
      obtain ⟨⟨p1, p2⟩, p3, p4⟩ := ha
      obtain ⟨⟨q1, q2⟩, q3, q4⟩ := hb
      simp only at p1 p2 p3 p4 q1 q2 q3 q4
      obtain ⟨n1, rfl⟩ := Int.eq_ofNat_of_zero_le p1
      obtain ⟨d1, rfl⟩ := Int.eq_ofNat_of_zero_le p3
      obtain ⟨n2, rfl⟩ := Int.eq_ofNat_of_zero_le q1
      obtain ⟨d2, rfl⟩ := Int.eq_ofNat_of_zero_le q3
      simp only [Option.bind_some, if_true, Bool.true_and, ltF, Int.toNat_natCast]
      rw [score_Less.j0, mul64_eq n1 d2 (by omega) (by omega), mul64_eq n2 d1 (by omega) (by omega)]
      simp only [Option.bind_some]
      by_cases he : ((n1 : Int) == (n2 : Int) && (d1 : Int) == (d2 : Int)) = true
      · rw [if_pos he]
        simp only [Bool.and_eq_true, beq_iff_eq] at he
        obtain ⟨e1, e2⟩ := he
        have e1' : n1 = n2 := by omega
        have e2' : d1 = d2 := by omega
        subst e1'; subst e2'
        simp
      · rw [if_neg he]
        have key := div_lt_iff (n1 * d2) (n2 * d1) 18446744073709551616 (by omega)
        by_cases c1 : n1 * d2 / 18446744073709551616 < n2 * d1 / 18446744073709551616
        · rw [if_pos (by omega), decide_eq_true (key.1 (.inl c1))]
        · rw [if_neg (by omega)]
          by_cases c2 : n1 * d2 / 18446744073709551616 = n2 * d1 / 18446744073709551616
          · rw [if_pos (by omega)]
            congr 1
            rw [decide_eq_decide]
            constructor
            · intro h; exact key.1 (.inr ⟨c2, by omega⟩)
            · intro h; rcases key.2 h with h | ⟨_, h⟩ <;> omega
          · rw [if_neg (by omega), decide_eq_false (fun h => by rcases key.2 h with h | ⟨h, _⟩ <;> omega)]
/-- by whole parts, and, where these are the same, by what is left, turned -/
theorem below_nat : ∀ (k a b c d : Nat), 0 < b → 0 < d → a < 18446744073709551616 → c < 18446744073709551616 → b < 18446744073709551616 → d < 18446744073709551616 → b + d < k → catchwordref19_below.l0 k (a : Int) (b : Int) (c : Int) (d : Int) = some (decide (a * d < c * b))
  | 0, a, b, c, d, _, _, _, _, _, _, h => absurd h (by omega)
  | k + 1, a, b, c, d, hb, hd, ha, hc, hb2, hd2, h => by
    rw [catchwordref19_below.l0, if_neg (by omega), if_neg (by omega), tdiv_nat, tdiv_nat, tmod_nat, tmod_nat, wrap_nat _ (Nat.lt_of_le_of_lt (Nat.div_le_self _ _) ha), wrap_nat _ (Nat.lt_of_le_of_lt (Nat.div_le_self _ _) hc)]
    have h1 := Nat.div_add_mod a b
    have h2 := Nat.div_add_mod c d
    have h3 := Nat.mod_lt a hb
    have h4 := Nat.mod_lt c hd
    have ex : a * d = b * d * (a / b) + (a % b) * d := by
      conv => lhs; rw [← h1]
      rw [Nat.add_mul, Nat.mul_right_comm]
    have ey : c * b = b * d * (c / d) + (c % d) * b := by
      conv => lhs; rw [← h2]
      rw [Nat.add_mul, Nat.mul_right_comm, Nat.mul_comm d b]
    by_cases e : a / b = c / d
    · rw [if_pos (by omega), ex, ey, e]
      by_cases y0 : c % d = 0
      · rw [if_pos (by omega), y0, Nat.zero_mul, decide_eq_false (by omega)]
      · rw [if_neg (by omega)]
        by_cases x0 : a % b = 0
        · have : 0 < (c % d) * b := Nat.mul_pos (by omega) hb
          rw [if_pos (by omega), x0, Nat.zero_mul, decide_eq_true (by omega)]
        · rw [if_neg (by omega), below_nat k d (c % d) b (a % b) (by omega) (by omega) (by omega) (by omega) (by omega) (by omega) (by omega)]
          congr 1
          rw [decide_eq_decide, Nat.mul_comm d (a % b), Nat.mul_comm b (c % d)]
          omega
    · rw [if_neg (by omega)]
      congr 1
      rw [decide_eq_decide]
      have bx : (a % b) * d < b * d := Nat.mul_lt_mul_of_pos_right h3 hd
      have by_ : (c % d) * b < b * d := by rw [Nat.mul_comm b d]; exact Nat.mul_lt_mul_of_pos_right h4 hb
      constructor
      · intro hlt
        have : b * d * (a / b + 1) ≤ b * d * (c / d) := Nat.mul_le_mul_left _ (by omega)
        rw [Nat.mul_add, Nat.mul_one] at this
        omega
      · intro hlt
        rcases Nat.lt_or_ge (a / b) (c / d) with hh | hh
        · omega
        · have : b * d * (c / d + 1) ≤ b * d * (a / b) := Nat.mul_le_mul_left _ (by omega)
          rw [Nat.mul_add, Nat.mul_one] at this
          omega
theorem rless_eq (k : Nat) (a b : S25) (ha : U a.f0 ∧ U a.f1) (hb : U b.f0 ∧ U b.f1) (hk : a.f1.toNat + b.f1.toNat < k) : catchwordref19_Less.f k a.f0 a.f1 b.f0 b.f1 = some (lessB a b) := by
  unfold catchwordref19_Less.f lessB
  rw [rmay_eq k a ha.1 ha.2 (by omega), rmay_eq k b hb.1 hb.2 (by omega)]
  simp only [Option.bind_some]
  cases oa : okF a with
  | false => simp
  | true =>
    cases ob : okF b with
    | false => simp
    | true =>
      obtain ⟨n1, d1⟩ := a
      obtain ⟨n2, d2⟩ := b
      obtain ⟨⟨p1, p2⟩, p3, p4⟩ := ha
      obtain ⟨⟨q1, q2⟩, q3, q4⟩ := hb
      simp only [okF, Bool.and_eq_true, decide_eq_true_eq] at p1 p2 p3 p4 q1 q2 q3 q4 oa ob hk
      obtain ⟨n1, rfl⟩ := Int.eq_ofNat_of_zero_le p1
      obtain ⟨d1, rfl⟩ := Int.eq_ofNat_of_zero_le p3
      obtain ⟨n2, rfl⟩ := Int.eq_ofNat_of_zero_le q1
      obtain ⟨d2, rfl⟩ := Int.eq_ofNat_of_zero_le q3
      simp only [if_true, Bool.true_and, ltF, Int.toNat_natCast] at hk ⊢
      unfold catchwordref19_below.f
      rw [below_nat k n1 d1 n2 d2 (by omega) (by omega) (by omega) (by omega) (by omega) (by omega) (by omega)]
      rfl
/-- two numbers that may be, of which none is below the other, are one -/
theorem frac_tot (a b : S25) (ha : U a.f0 ∧ U a.f1) (hb : U b.f0 ∧ U b.f1) (oa : okF a = true) (ob : okF b = true) (h1 : ltF a b = false) (h2 : ltF b a = false) : a = b := by
  obtain ⟨n1, d1⟩ := a
  obtain ⟨n2, d2⟩ := b
  obtain ⟨⟨p1, p2⟩, p3, p4⟩ := ha
  obtain ⟨⟨q1, q2⟩, q3, q4⟩ := hb
  simp only [okF, ltF, Bool.and_eq_true, decide_eq_true_eq, beq_iff_eq, decide_eq_false_iff_not] at p1 p2 p3 p4 q1 q2 q3 q4 oa ob h1 h2
  obtain ⟨n1, rfl⟩ := Int.eq_ofNat_of_zero_le p1
  obtain ⟨d1, rfl⟩ := Int.eq_ofNat_of_zero_le p3
  obtain ⟨n2, rfl⟩ := Int.eq_ofNat_of_zero_le q1
  obtain ⟨d2, rfl⟩ := Int.eq_ofNat_of_zero_le q3
  simp only [Int.toNat_natCast] at oa ob h1 h2
  have he : n1 * d2 = n2 * d1 := by omega
  have c1 : Nat.Coprime n1 d1 := oa.2
  have c2 : Nat.Coprime n2 d2 := ob.2
  have hd1 : d1 ∣ d2 := Nat.Coprime.dvd_of_dvd_mul_left c1.symm ⟨n2, by rw [he, Nat.mul_comm]⟩
  have hd2 : d2 ∣ d1 := Nat.Coprime.dvd_of_dvd_mul_left c2.symm ⟨n1, by rw [← he, Nat.mul_comm]⟩
  have ed : d1 = d2 := Nat.dvd_antisymm hd1 hd2
  subst ed
  have en : n1 = n2 := Nat.eq_of_mul_eq_mul_right (by omega) he
  subst en
  rfl
theorem ltF_trans (a b c : S25) (hb : 0 < b.f1.toNat) (h1 : ltF a b = true) (h2 : ltF b c = true) : ltF a c = true := by
  simp only [ltF, decide_eq_true_eq] at *
  have ha := h1
  generalize a.f0.toNat = n1 at *
  generalize a.f1.toNat = d1 at *
  generalize b.f0.toNat = n2 at *
  generalize b.f1.toNat = d2 at *
  generalize c.f0.toNat = n3 at *
  generalize c.f1.toNat = d3 at *
  have hd3 : 0 < d3 ∨ d3 = 0 := by omega
  have hn3 : 0 < n3 * d2 := by omega
  have hd1 : 0 < n2 * d1 := by omega
  have pd1 : 0 < d1 := Nat.pos_of_mul_pos_left hd1
  rcases hd3 with h | h
  · have e1 : n1 * d2 * d3 < n2 * d1 * d3 := Nat.mul_lt_mul_of_pos_right h1 h
    have e2 : n2 * d3 * d1 < n3 * d2 * d1 := Nat.mul_lt_mul_of_pos_right h2 pd1
    have e3 : n2 * d1 * d3 = n2 * d3 * d1 := Nat.mul_right_comm _ _ _
    have e4 : n1 * d3 * d2 < n3 * d1 * d2 := by rw [Nat.mul_right_comm n1, Nat.mul_right_comm n3]; omega
    exact Nat.lt_of_mul_lt_mul_right e4
  · subst h
    rw [Nat.mul_zero]
    have : 0 < n3 := Nat.pos_of_mul_pos_right hn3
    exact Nat.mul_pos this pd1
theorem ltF_irr (a : S25) : ltF a a = false := by simp [ltF]
end Go.Proofs.Ytkdbfeapfcflmaa.Plain
