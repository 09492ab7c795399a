/- What is proved here: plain facts about float64: the order of two numbers by their bits, the float of a whole number, what a quotient may be (conditions: those that each names). -/
import Ieee.Arith
namespace Go.Proofs.Ytmgocfcbkejgdaa.RankPlain
open Ieee



abbrev B : Nat := 2 ^ 52
/-- scaled value of a rung -/
def val (r : Nat) : Nat := if r < 2 ^ 52 then r else (2 ^ 52 + r % 2 ^ 52) * 2 ^ (r / 2 ^ 52 - 1)

theorem val_succ (r : Nat) : val r < val (r + 1) := by
  unfold val
  by_cases h : r + 1 < 2 ^ 52
  · rw [if_pos (by omega), if_pos h]; omega
  · rw [if_neg h]
    by_cases h0 : r < 2 ^ 52
    · have e : r = 2 ^ 52 - 1 := by omega
      subst e
      decide
    · rw [if_neg h0]
      by_cases h1 : r % 2 ^ 52 + 1 < 2 ^ 52
      · have e1 : (r + 1) % 2 ^ 52 = r % 2 ^ 52 + 1 := by omega
        have e2 : (r + 1) / 2 ^ 52 = r / 2 ^ 52 := by omega
        rw [e1, e2]
        exact Nat.mul_lt_mul_of_pos_right (by omega) (Nat.two_pow_pos _)
      · have e1 : (r + 1) % 2 ^ 52 = 0 := by omega
        have e2 : (r + 1) / 2 ^ 52 = r / 2 ^ 52 + 1 := by omega
        have e3 : r / 2 ^ 52 ≥ 1 := by omega
        rw [e1, e2]
        obtain ⟨k, hk⟩ : ∃ k, r / 2 ^ 52 = k + 1 := ⟨r / 2 ^ 52 - 1, by omega⟩
        rw [hk]
        simp only [Nat.add_sub_cancel, Nat.pow_succ 2 k]
        have hp : 0 < 2 ^ k := Nat.two_pow_pos _
        generalize 2 ^ k = p at *
        have : (2 ^ 52 + r % 2 ^ 52) * p < (2 ^ 52 * 2) * p := Nat.mul_lt_mul_of_pos_right (by omega) hp
        calc (2 ^ 52 + r % 2 ^ 52) * p < (2 ^ 52 * 2) * p := this
          _ = (2 ^ 52 + 0) * (p * 2) := by rw [Nat.add_zero, Nat.mul_assoc, Nat.mul_comm 2 p]

theorem val_mono {r s : Nat} (h : r < s) : val r < val s := by
  induction s with
  | zero => omega
  | succ n ih =>
    by_cases e : r = n
    · subst e; exact val_succ r
    · exact Nat.lt_trans (ih (by omega)) (val_succ n)

theorem val_inj {r s : Nat} (h : val r = val s) : r = s := by
  rcases Nat.lt_trichotomy r s with h1 | h1 | h1
  · have := val_mono h1; omega
  · exact h1
  · have := val_mono h1; omega

theorem lt_of_val {r s : Nat} (h : val r < val s) : r < s := by
  rcases Nat.lt_trichotomy r s with h1 | h1 | h1
  · exact h1
  · subst h1; omega
  · have := val_mono h1; omega

/-- the NaNs -/
def nan (b : Nat) : Bool := decide (2047 * 2 ^ 52 < b % 2 ^ 63)
/-- a number's place among all, by its bits -/
def hi (b : Nat) : Nat := if nan b then 0 else if 2 ^ 63 ≤ b then 2 ^ 64 - 1 - b else b + 2 ^ 63
def zero (b : Nat) : Bool := b == 0 || b == 2 ^ 63

theorem infRung_d : double.infRung = 2047 * 2 ^ 52 := by decide
theorem sw_d : double.signWeight = 2 ^ 63 := by decide
theorem bin_d : double.binade = 2 ^ 52 := by decide
theorem lp_d : double.leastPlace = -1074 := by decide

theorem read_nan {b : Nat} (h : nan b = true) : ∃ s t, double.read b = .nan s t := by
  unfold nan at h
  have h := of_decide_eq_true h
  unfold Format.read
  simp only [infRung_d, sw_d, bin_d, lp_d]
  rw [if_neg (by omega), if_neg (by omega), if_neg (by omega)]
  exact ⟨_, _, rfl⟩

/-- the sign -/
def neg (b : Nat) : Bool := b / 2 ^ 63 % 2 == 1

theorem read_inf {b : Nat} (h : b % 2 ^ 63 = 2047 * 2 ^ 52) : double.read b = .infinity (neg b) := by
  unfold Format.read neg
  simp only [infRung_d, sw_d, bin_d, lp_d]
  rw [if_neg (by omega), if_neg (by omega), if_pos (by omega)]

theorem read_num {b : Nat} (h : b % 2 ^ 63 < 2047 * 2 ^ 52) :
    ∃ m i, double.read b = .number (neg b) m i ∧ -1074 ≤ i ∧ m * 2 ^ (i + 1074).toNat = val (b % 2 ^ 63) := by
  unfold Format.read neg val
  simp only [infRung_d, sw_d, bin_d, lp_d]
  generalize b % 2 ^ 63 = r at *
  by_cases h1 : r < 2 ^ 52
  · rw [if_pos (by omega), if_pos h1]
    exact ⟨_, _, rfl, by omega, by simp⟩
  · rw [if_neg (by omega), if_pos (by omega), if_neg h1]
    refine ⟨_, _, rfl, by omega, ?_⟩
    congr 2
    omega

def sgn (s : Bool) (n : Nat) : Int := if s then -(n : Int) else n

theorem signed_scale (s : Bool) (m : Nat) (i base : Int) (hb : -1074 ≤ base) (hi : base ≤ i) :
    signed s m (i - base).toNat * 2 ^ (base + 1074).toNat = sgn s (m * 2 ^ (i + 1074).toNat) := by
  have e : (i + 1074).toNat = (i - base).toNat + (base + 1074).toNat := by omega
  unfold signed sgn
  rw [e, Nat.pow_add, Nat.shiftLeft_eq, ← Nat.mul_assoc]
  split <;> simp [Int.neg_mul]

theorem compare_scale (x y : Int) (p : Nat) : compare (x * 2 ^ p) (y * 2 ^ p) = compare x y := by
  have hp : (0 : Int) < 2 ^ p := Int.pow_pos (by decide)
  rcases Int.lt_trichotomy x y with h | h | h
  · have h2 := Int.mul_lt_mul_of_pos_right h hp
    simp only [compare, compareOfLessAndEq]
    rw [if_pos h, if_pos h2]
  · subst h; simp [compare, compareOfLessAndEq]
  · have h2 := Int.mul_lt_mul_of_pos_right h hp
    simp only [compare, compareOfLessAndEq]
    rw [if_neg (by omega), if_neg (by omega), if_neg (by omega), if_neg (by omega)]

theorem order_num {s t : Bool} {m n : Nat} {i j : Int} (hi : -1074 ≤ i) (hj : -1074 ≤ j) :
    Datum.order (.number s m i) (.number t n j) = some (compare (sgn s (m * 2 ^ (i + 1074).toNat)) (sgn t (n * 2 ^ (j + 1074).toNat))) := by
  simp only [Datum.order]
  rw [← signed_scale s m i (min i j) (by omega) (by omega), ← signed_scale t n j (min i j) (by omega) (by omega), compare_scale]

theorem val_zero {r : Nat} (h : val r = 0) : r = 0 := val_inj (s := 0) (by rw [h]; decide)

theorem order_hi {a b : Nat} (ha : a < 2 ^ 64) (hb : b < 2 ^ 64) (na : nan a = false) (nb : nan b = false) :
    double.order a b = some (if zero a && zero b then .eq else compare (hi a) (hi b)) := by
  have na' := of_decide_eq_false na
  have nb' := of_decide_eq_false nb
  have ga : neg a = decide (2 ^ 63 ≤ a) := by unfold neg; rw [Bool.eq_iff_iff]; simp; omega
  have gb : neg b = decide (2 ^ 63 ≤ b) := by unfold neg; rw [Bool.eq_iff_iff]; simp; omega
  have cmpN : ∀ x y : Nat, compare x y = if x < y then .lt else if x = y then .eq else .gt := fun x y => rfl
  have cmpI : ∀ x y : Int, compare x y = if x < y then .lt else if x = y then .eq else .gt := fun x y => rfl
  have za : zero a = decide (a % 2 ^ 63 = 0) := by unfold zero; rw [Bool.eq_iff_iff]; simp; omega
  have zb : zero b = decide (b % 2 ^ 63 = 0) := by unfold zero; rw [Bool.eq_iff_iff]; simp; omega
  unfold Format.order hi
  rw [na, nb, za, zb]
  simp only [Bool.false_eq_true, if_false]
  by_cases ia : a % 2 ^ 63 = 2047 * 2 ^ 52
  · rw [read_inf ia, ga]
    by_cases ib : b % 2 ^ 63 = 2047 * 2 ^ 52
    · rw [read_inf ib, gb]
      simp only [Datum.order, cmpN, Option.some.injEq]
      by_cases h1 : 2 ^ 63 ≤ a <;> by_cases h2 : 2 ^ 63 ≤ b <;> simp [h1, h2, ia, ib] <;> (try split) <;> (try split) <;> (try rfl) <;> omega
    · obtain ⟨m, i, e, _, _⟩ := read_num (b := b) (by omega)
      rw [e, gb]
      simp only [Datum.order, cmpN, Option.some.injEq]
      by_cases h1 : 2 ^ 63 ≤ a <;> by_cases h2 : 2 ^ 63 ≤ b <;> simp [h1, h2, ia] <;> (try split) <;> (try split) <;> (try rfl) <;> omega
  · obtain ⟨m, i, e, hi1, hv⟩ := read_num (b := a) (by omega)
    rw [e, ga]
    by_cases ib : b % 2 ^ 63 = 2047 * 2 ^ 52
    · rw [read_inf ib, gb]
      simp only [Datum.order, cmpN, Option.some.injEq]
      by_cases h1 : 2 ^ 63 ≤ a <;> by_cases h2 : 2 ^ 63 ≤ b <;> simp [h1, h2, ib] <;> (try split) <;> (try split) <;> (try rfl) <;> omega
    · obtain ⟨n, j, e', hj1, hv'⟩ := read_num (b := b) (by omega)
      rw [e', gb, order_num hi1 hj1, hv, hv']
      simp only [cmpN, cmpI, Option.some.injEq]
      have key : ∀ r s : Nat, (val r < val s ↔ r < s) := fun r s => ⟨lt_of_val, val_mono⟩
      have key2 : ∀ r s : Nat, (val r = val s ↔ r = s) := fun r s => ⟨val_inj, fun h => by rw [h]⟩
      have v0 : val 0 = 0 := by decide
      have k1 := key (a % 2 ^ 63) (b % 2 ^ 63)
      have k2 := key (b % 2 ^ 63) (a % 2 ^ 63)
      have k3 := key2 (a % 2 ^ 63) (b % 2 ^ 63)
      have k4 := key2 (a % 2 ^ 63) 0
      have k5 := key2 (b % 2 ^ 63) 0
      rw [v0] at k4 k5
      generalize hA : val (a % 2 ^ 63) = A at *
      generalize hB : val (b % 2 ^ 63) = C at *
      unfold sgn
      by_cases h1 : 2 ^ 63 ≤ a <;> by_cases h2 : 2 ^ 63 ≤ b <;> simp [h1, h2] <;> (repeat' split) <;> (first | rfl | omega)




theorem word_d (s : Bool) (r : Nat) : double.word s r = if s then 2 ^ 63 + r else r := by
  unfold Format.word; rw [sw_d]

theorem nearest_form (s : Bool) (mag : Nat) (place : Int) : ∃ r, r ≤ 2047 * 2 ^ 52 ∧ double.nearest s mag place = if s then 2 ^ 63 + r else r := by
  unfold Format.nearest
  rw [infRung_d]
  split
  · exact ⟨0, by omega, word_d s 0⟩
  · exact ⟨_, Nat.min_le_right _ _, word_d s _⟩

theorem form_nan {s : Bool} {r : Nat} (h : r ≤ 2047 * 2 ^ 52) : nan (if s then 2 ^ 63 + r else r) = false ∧ (if s then 2 ^ 63 + r else r) < 2 ^ 64 := by
  unfold nan
  rw [decide_eq_false_iff_not]
  split <;> omega

theorem nearest_nan (s : Bool) (mag : Nat) (place : Int) : nan (double.nearest s mag place) = false ∧ double.nearest s mag place < 2 ^ 64 := by
  obtain ⟨r, h, e⟩ := nearest_form s mag place
  rw [e]; exact form_nan h

/-- cut to even: near -/
theorem cut_near (s : Bool) (n d : Nat) (hd : d ≤ n.log2 + 2) : 2 * (Toward.even.cut s n d * 2 ^ d) ≤ 2 * n + 2 ^ d ∧ 2 * n ≤ 2 * (Toward.even.cut s n d * 2 ^ d) + 2 ^ d := by
  unfold Toward.cut
  have e : min d (n.log2 + 2) = d := by omega
  simp only [e, Nat.shiftLeft_eq, Nat.one_mul]
  have hp : 0 < 2 ^ d := Nat.two_pow_pos _
  generalize 2 ^ d = p at *
  have h1 : n = p * (n / p) + n % p := (Nat.div_add_mod n p).symm
  have h2 : n % p < p := Nat.mod_lt _ hp
  generalize n / p = q at *
  generalize n % p = t at *
  have h3 : q * p = p * q := Nat.mul_comm _ _
  by_cases g : p < 2 * t
  · have : (q + 1) * p = p * q + p := by rw [Nat.add_mul, Nat.one_mul, h3]
    simp only [g, decide_true, Bool.true_or, Bool.toNat_true]
    omega
  · by_cases g2 : p = 2 * t
    · have g2' : (p == 2 * t) = true := by simpa using g2
      by_cases g3 : q % 2 = 1
      · have : (q + 1) * p = p * q + p := by rw [Nat.add_mul, Nat.one_mul, h3]
        have g3' : (q % 2 == 1) = true := by simpa using g3
        simp only [g2', g3', Bool.and_self, Bool.or_true, Bool.toNat_true]
        omega
      · have g4 : (q % 2 == 1) = false := by simpa using g3
        simp only [g, g4, decide_false, Bool.and_false, Bool.or_false, Bool.toNat_false, Nat.add_zero]
        omega
    · have g4 : (p == 2 * t) = false := by simpa using g2
      simp only [g, g4, decide_false, Bool.false_and, Bool.or_false, Bool.toNat_false, Nat.add_zero]
      omega

theorem cut_zero (s : Bool) (n : Nat) : Toward.even.cut s n 0 = n := by
  have := cut_near s n 0 (by omega)
  simp at this
  omega

/-- a normal rung, read -/
theorem read_normal (s : Bool) (e k : Nat) (hk : 2 ^ 52 ≤ k) (hk2 : k < 2 ^ 53) (he : e ≤ 2000) :
    double.read (if s then 2 ^ 63 + (e * 2 ^ 52 + k) else e * 2 ^ 52 + k) = .number s k ((e : Int) - 1074) := by
  unfold Format.read
  simp only [infRung_d, sw_d, bin_d, lp_d]
  have h1 : (if s then 2 ^ 63 + (e * 2 ^ 52 + k) else e * 2 ^ 52 + k) % 2 ^ 63 = e * 2 ^ 52 + k := by split <;> omega
  have h2 : ((if s then 2 ^ 63 + (e * 2 ^ 52 + k) else e * 2 ^ 52 + k) / 2 ^ 63 % 2 == 1) = s := by
    cases s
    · simp; omega
    · simp; omega
  rw [h1, h2, if_neg (by omega), if_pos (by omega)]
  have h3 : (e * 2 ^ 52 + k) % 2 ^ 52 = k - 2 ^ 52 := by omega
  have h4 : (e * 2 ^ 52 + k) / 2 ^ 52 = e + 1 := by omega
  have h5 : 2 ^ 52 + (k - 2 ^ 52) = k := by omega
  have h6 : (-1074 : Int) + ((e + 1 - 1 : Nat) : Int) = (e : Int) - 1074 := by omega
  rw [h3, h4, h5, h6]

/-- float64(n) -/
def fi (n : Int) : Nat := double.nearest (decide (n < 0)) n.natAbs 0

theorem fi_zero : fi 0 = 0 := by
  unfold fi Format.nearest
  have h : Int.natAbs 0 = 0 := rfl
  rw [if_pos h, word_d]
  simp
theorem read_zero : double.read 0 = .number false 0 (-1074) := by
  unfold Format.read
  simp only [infRung_d, sw_d, bin_d, lp_d]
  simp

theorem log2_lt' {m k : Nat} (h : m < 2 ^ (k + 1)) : m.log2 ≤ k := by
  by_cases h0 : m = 0
  · subst h0; simp
  · have := (Nat.log2_lt h0).2 h; omega

theorem pow_log2 {m : Nat} (h : m ≠ 0) : 2 ^ m.log2 ≤ m ∧ m < 2 ^ (m.log2 + 1) := ⟨Nat.log2_self_le h, Nat.lt_log2_self⟩

theorem min_room (l k : Nat) (hl : l ≤ 100) (hk : k ≤ 2 ^ 53) : min ((l + 1022) * 2 ^ 52 + k) (2047 * 2 ^ 52) = (l + 1022) * 2 ^ 52 + k := by omega
theorem place_of (l : Nat) : ((l + 1022 : Nat) : Int) - 1074 = (l : Int) - 52 := by omega

/-- a small number, exactly -/
theorem read_fi_small (n : Int) (h0 : n ≠ 0) (h : n.natAbs < 2 ^ 53) :
    double.read (fi n) = .number (decide (n < 0)) (n.natAbs * 2 ^ (52 - n.natAbs.log2)) ((n.natAbs.log2 : Int) - 52) := by
  unfold fi Format.nearest
  have hm : n.natAbs ≠ 0 := by omega
  generalize decide (n < 0) = s
  generalize n.natAbs = m at *
  have hl : m.log2 ≤ 52 := log2_lt' h
  obtain ⟨p1, p2⟩ := pow_log2 hm
  rw [if_neg hm]
  have fb : (double.fractionBits : Int) = 52 := by decide
  simp only [infRung_d, lp_d, bin_d, fb]
  have e1 : max ((0 : Int) + m.log2 - 52) (-1074) = (m.log2 : Int) - 52 := by omega
  rw [e1]
  have e2 : ((0 : Int) - ((m.log2 : Int) - 52)).toNat = 52 - m.log2 := by omega
  have e3 : ((m.log2 : Int) - 52 - 0).toNat = 0 := by omega
  have e4 : ((m.log2 : Int) - 52 - (-1074)).toNat = m.log2 + 1022 := by omega
  rw [e2, e3, e4, cut_zero, Nat.shiftLeft_eq]
  have q1 : 2 ^ m.log2 * 2 ^ (52 - m.log2) = 2 ^ 52 := by rw [← Nat.pow_add]; congr 1; omega
  have q2 : 2 ^ (m.log2 + 1) * 2 ^ (52 - m.log2) = 2 ^ 53 := by rw [← Nat.pow_add]; congr 1; omega
  have hp : 0 < 2 ^ (52 - m.log2) := Nat.two_pow_pos _
  have k1 : 2 ^ 52 ≤ m * 2 ^ (52 - m.log2) := by rw [← q1]; exact Nat.mul_le_mul_right _ p1
  have k2 : m * 2 ^ (52 - m.log2) < 2 ^ 53 := by rw [← q2]; exact Nat.mul_lt_mul_of_pos_right p2 hp
  have hl2 : m.log2 + 1022 ≤ 2000 := by omega
  rw [min_room m.log2 _ (by omega) (Nat.le_of_lt k2), word_d, read_normal s (m.log2 + 1022) _ k1 k2 hl2, place_of]

/-- any number of 64 bits: no nought, no infinity -/
theorem read_fi_any (n : Int) (h0 : n ≠ 0) (h : n.natAbs < 2 ^ 64) :
    ∃ m i, double.read (fi n) = .number (decide (n < 0)) m i ∧ m ≠ 0 := by
  by_cases hs : n.natAbs < 2 ^ 53
  · refine ⟨_, _, read_fi_small n h0 hs, ?_⟩
    exact Nat.mul_ne_zero (by omega) (Nat.pos_iff_ne_zero.1 (Nat.two_pow_pos _))
  · unfold fi Format.nearest
    have hm : n.natAbs ≠ 0 := by omega
    generalize decide (n < 0) = s
    generalize n.natAbs = m at *
    have hl : m.log2 ≤ 63 := log2_lt' h
    obtain ⟨p1, p2⟩ := pow_log2 hm
    have hl2 : 53 ≤ m.log2 := by
      have := Nat.pow_lt_pow_iff_right (a := 2) (n := 53) (m := m.log2 + 1) (by omega)
      omega
    rw [if_neg hm]
    have fb : (double.fractionBits : Int) = 52 := by decide
    simp only [infRung_d, lp_d, bin_d, fb]
    have e1 : max ((0 : Int) + m.log2 - 52) (-1074) = (m.log2 : Int) - 52 := by omega
    rw [e1]
    have e2 : ((0 : Int) - ((m.log2 : Int) - 52)).toNat = 0 := by omega
    have e3 : ((m.log2 : Int) - 52 - 0).toNat = m.log2 - 52 := by omega
    have e4 : ((m.log2 : Int) - 52 - (-1074)).toNat = m.log2 + 1022 := by omega
    rw [e2, e3, e4, Nat.shiftLeft_zero]
    obtain ⟨c1, c2⟩ := cut_near s m (m.log2 - 52) (by omega)
    generalize Toward.even.cut s m (m.log2 - 52) = k at *
    have q1 : 2 ^ 52 * 2 ^ (m.log2 - 52) = 2 ^ m.log2 := by rw [← Nat.pow_add]; congr 1; omega
    have q2 : 2 ^ 53 * 2 ^ (m.log2 - 52) = 2 ^ (m.log2 + 1) := by rw [← Nat.pow_add]; congr 1; omega
    have hp : 0 < 2 ^ (m.log2 - 52) := Nat.two_pow_pos _
    generalize 2 ^ (m.log2 - 52) = p at *
    have k1 : 2 ^ 52 ≤ k := by
      apply Decidable.byContradiction; intro hk
      have : (k + 1) * p ≤ 2 ^ 52 * p := Nat.mul_le_mul_right _ (by omega)
      rw [Nat.add_mul, Nat.one_mul] at this
      omega
    have k2 : k ≤ 2 ^ 53 := by
      apply Decidable.byContradiction; intro hk
      have : (2 ^ 53 + 1) * p ≤ k * p := Nat.mul_le_mul_right _ (by omega)
      rw [Nat.add_mul, Nat.one_mul] at this
      omega
    rw [min_room m.log2 k (by omega) k2, word_d]
    by_cases hk : k = 2 ^ 53
    · subst hk
      have e6 : (m.log2 + 1022) * 2 ^ 52 + 2 ^ 53 = (m.log2 + 1023) * 2 ^ 52 + 2 ^ 52 := by omega
      rw [e6, read_normal s (m.log2 + 1023) (2 ^ 52) (by omega) (by omega) (by omega)]
      exact ⟨_, _, rfl, by omega⟩
    · rw [read_normal s (m.log2 + 1022) k k1 (by omega) (by omega)]
      exact ⟨_, _, rfl, by omega⟩

theorem read_fi (n : Int) (h : n.natAbs < 2 ^ 64) : ∃ m i, double.read (fi n) = .number (decide (n < 0)) m i ∧ (m = 0 ↔ n = 0) := by
  by_cases h0 : n = 0
  · subst h0; exact ⟨0, -1074, by rw [fi_zero, read_zero]; simp, by simp⟩
  · obtain ⟨m, i, e, hm⟩ := read_fi_any n h0 h
    exact ⟨m, i, e, by simp [hm, h0]⟩

/-- a mean, by bits -/
def mean (s n : Int) : Option Nat := double.div (fi s) (fi n)

theorem mean_cases (s n : Int) (hs : s.natAbs < 2 ^ 64) (hn : n.natAbs < 2 ^ 64) :
    (s = 0 ∧ n = 0 ∧ mean s n = none) ∨ (¬ (s = 0 ∧ n = 0) ∧ ∃ r, mean s n = some r ∧ nan r = false ∧ r < 2 ^ 64) := by
  obtain ⟨m, i, e, hm⟩ := read_fi s hs
  obtain ⟨k, j, e', hk⟩ := read_fi n hn
  unfold mean Format.div
  rw [e, e']
  simp only [Datum.quotient]
  by_cases k0 : k = 0
  · rw [if_pos k0]
    by_cases m0 : m = 0
    · rw [if_pos m0]; exact Or.inl ⟨hm.1 m0, hk.1 k0, rfl⟩
    · rw [if_neg m0]
      refine Or.inr ⟨fun h => m0 (hm.2 h.1), _, rfl, ?_⟩
      show nan (double.word _ double.infRung) = false ∧ _ < _
      unfold Format.write
      rw [word_d, infRung_d]
      exact form_nan (Nat.le_refl _)
  · rw [if_neg k0]
    refine Or.inr ⟨fun h => k0 (hk.2 h.2), _, rfl, ?_⟩
    exact nearest_nan _ _ _

/-- its place among all -/
def key (s n : Int) : Nat := match mean s n with | none => 0 | some r => hi r

theorem fi_dbl (n : Int) (h0 : n ≠ 0) (h : n.natAbs < 2 ^ 52) :
    double.read (fi (2 * n)) = .number (decide (n < 0)) (n.natAbs * 2 ^ (52 - n.natAbs.log2)) ((n.natAbs.log2 : Int) - 52 + 1) := by
  have e : (2 * n).natAbs = 2 * n.natAbs := by omega
  rw [read_fi_small (2 * n) (by omega) (by omega), e]
  have hm : n.natAbs ≠ 0 := by omega
  have d : decide (2 * n < 0) = decide (n < 0) := by
    by_cases c : n < 0
    · rw [decide_eq_true c, decide_eq_true (by omega)]
    · rw [decide_eq_false c, decide_eq_false (by omega)]
  rw [d]
  generalize n.natAbs = m at *
  have hl : m.log2 ≤ 51 := log2_lt' h
  have l : (2 * m).log2 = m.log2 + 1 := Nat.log2_two_mul hm
  rw [l]
  have q : 2 * m * 2 ^ (52 - (m.log2 + 1)) = m * 2 ^ (52 - m.log2) := by
    have : 52 - m.log2 = (52 - (m.log2 + 1)) + 1 := by omega
    rw [this, Nat.pow_succ, Nat.mul_comm 2 m, Nat.mul_assoc, Nat.mul_comm 2]
  rw [q]
  have z : ((m.log2 + 1 : Nat) : Int) - 52 = (m.log2 : Int) - 52 + 1 := by omega
  rw [z]

/-- what a whole number reads as, and twice the number -/
theorem read_two (n : Int) (h : n.natAbs < 2 ^ 52) : ∃ s m i j, double.read (fi n) = .number s m i ∧ double.read (fi (2 * n)) = .number s m j ∧ (m ≠ 0 → j = i + 1) := by
  by_cases h0 : n = 0
  · subst h0
    refine ⟨false, 0, -1074, -1074, ?_, ?_, ?_⟩
    · rw [fi_zero, read_zero]
    · rw [show (2 * 0 : Int) = 0 from rfl, fi_zero, read_zero]
    · intro h; exact absurd rfl h
  · exact ⟨_, _, _, _, read_fi_small n h0 (by omega), fi_dbl n h0 h, fun _ => rfl⟩

theorem nearest_none (s : Bool) (i : Int) : double.nearest s 0 i = double.word s 0 := by unfold Format.nearest; rw [if_pos rfl]
theorem mean_dbl (s n : Int) (hs : s.natAbs < 2 ^ 52) (hn : n.natAbs < 2 ^ 52) : mean (2 * s) (2 * n) = mean s n := by
  obtain ⟨t, m, i, i', e1, e2, e3⟩ := read_two s hs
  obtain ⟨u, k, j, j', f1, f2, f3⟩ := read_two n hn
  unfold mean Format.div
  rw [e1, e2, f1, f2]
  simp only [Datum.quotient]
  by_cases k0 : k = 0
  · rw [if_pos k0, if_pos k0]
  · rw [if_neg k0, if_neg k0]
    simp only [Option.map_some, Format.write]
    refine congrArg some ?_
    by_cases m0 : m = 0
    · subst m0
      have z : ∀ x, 0 <<< x = 0 := fun x => by rw [Nat.shiftLeft_eq, Nat.zero_mul]
      simp only [z, Nat.zero_div, Nat.zero_mod, Nat.mul_zero]
      rw [show (0 + ((0 : Nat) != 0).toNat) = 0 from rfl, nearest_none, nearest_none]
    · rw [e3 m0, f3 k0]
      have z : ∀ x : Int, i + 1 - (j + 1) - x - 1 = i - j - x - 1 := fun x => by omega
      rw [z]

theorem val_form (E k : Nat) (h1 : 2 ^ 52 ≤ k) (h2 : k ≤ 2 ^ 53) : val (E * 2 ^ 52 + k) = k * 2 ^ E := by
  unfold val
  rw [if_neg (by omega)]
  by_cases c : k = 2 ^ 53
  · subst c
    have a1 : (E * 2 ^ 52 + 2 ^ 53) % 2 ^ 52 = 0 := by omega
    have a2 : (E * 2 ^ 52 + 2 ^ 53) / 2 ^ 52 - 1 = E + 1 := by omega
    rw [a1, a2, Nat.pow_succ]; omega
  · have a1 : (E * 2 ^ 52 + k) % 2 ^ 52 = k - 2 ^ 52 := by omega
    have a2 : (E * 2 ^ 52 + k) / 2 ^ 52 - 1 = E := by omega
    rw [a1, a2, Nat.add_sub_cancel' h1]

theorem word_rung (s : Bool) (E k : Nat) (h2 : k ≤ 2 ^ 53) (hE : E < 2000) : double.word s (min (E * 2 ^ 52 + k) (2047 * 2 ^ 52)) = if s then 2 ^ 63 + (E * 2 ^ 52 + k) else E * 2 ^ 52 + k := by
  rw [word_d, Nat.min_eq_left (by omega)]

/-- what is rounded away, told in whole numbers -/
theorem near_of (s : Bool) (M : Nat) (p : Nat) (d : Nat) (hd : d = 2 ∨ d = 3) (h1 : 2 ^ (52 + d) ≤ M) (h2 : M < 2 ^ (53 + d)) (hp : p ≤ 1100) (hp2 : 900 ≤ p) :
    ∃ r, 0 < r ∧ r < 2047 * 2 ^ 52 ∧ double.nearest s M ((p : Int) - 1074) = (if s then 2 ^ 63 + r else r) ∧ ∃ C, val r = C * 2 ^ p ∧ C ≤ M + 4 ∧ M ≤ C + 4 := by
  have hM : M ≠ 0 := by have := Nat.two_pow_pos (52 + d); omega
  have l : M.log2 = 52 + d := (Nat.log2_eq_iff hM).2 ⟨h1, by rw [show 52 + d + 1 = 53 + d from by omega]; exact h2⟩
  unfold Format.nearest
  rw [if_neg hM]
  have fb : (double.fractionBits : Int) = 52 := by decide
  simp only [infRung_d, lp_d, bin_d, fb, l]
  have e1 : max ((p : Int) - 1074 + ((52 + d : Nat) : Int) - 52) (-1074) = (p : Int) - 1074 + d := by omega
  rw [e1]
  have e2 : ((p : Int) - 1074 - ((p : Int) - 1074 + d)).toNat = 0 := by omega
  have e3 : ((p : Int) - 1074 + d - ((p : Int) - 1074)).toNat = d := by omega
  have e4 : ((p : Int) - 1074 + d - (-1074)).toNat = p + d := by omega
  rw [e2, e3, e4, Nat.shiftLeft_zero]
  obtain ⟨c1, c2⟩ := cut_near s M d (by omega)
  generalize Toward.even.cut s M d = k at *
  have k1 : 2 ^ 52 ≤ k := by rcases hd with rfl | rfl <;> omega
  have k2 : k ≤ 2 ^ 53 := by rcases hd with rfl | rfl <;> omega
  refine ⟨(p + d) * 2 ^ 52 + k, by omega, by omega, word_rung s (p + d) k k2 (by omega), k * 2 ^ d, ?_, ?_, ?_⟩
  · rw [val_form _ _ k1 k2, Nat.mul_assoc, ← Nat.pow_add, Nat.add_comm d p]
  · rcases hd with rfl | rfl <;> omega
  · rcases hd with rfl | rfl <;> omega

theorem dig1 (D z r t k : Nat) (h : z + r = D) (lt : r < k) (T : t = 0 ∧ r = 0 ∨ t = 1) : 2 * z + t * k ≤ 2 * D + k ∧ 2 * D ≤ 2 * z + t * k + k := by
  rcases T with ⟨rfl, rfl⟩ | rfl
  · rw [Nat.zero_mul]; omega
  · rw [Nat.one_mul]; omega
theorem dig2 (q t : Nat) (lo : 2 ^ 53 ≤ q) (up : q < 2 ^ 55) (T : t = 0 ∨ t = 1) : ∃ d, (d = 2 ∨ d = 3) ∧ 2 ^ (52 + d) ≤ 2 * q + t ∧ 2 * q + t < 2 ^ (53 + d) := by
  by_cases c : q < 2 ^ 54
  · exact ⟨2, .inl rfl, by omega, by omega⟩
  · exact ⟨3, .inr rfl, by omega, by omega⟩
theorem dig3 (m k : Nat) (h1 : 2 ^ 52 ≤ m) (h2 : m < 2 ^ 53) (k1 : 2 ^ 52 ≤ k) (k2 : k < 2 ^ 53) : 2 ^ 53 ≤ m * 2 ^ 54 / k ∧ m * 2 ^ 54 / k < 2 ^ 55 := by
  constructor
  · rw [Nat.le_div_iff_mul_le (by omega)]; omega
  · rw [Nat.div_lt_iff_lt_mul (by omega)]; omega
/-- the quotient's digits: within 5 units of what they stand for -/
theorem digits (m k : Nat) (h1 : 2 ^ 52 ≤ m) (h2 : m < 2 ^ 53) (k1 : 2 ^ 52 ≤ k) (k2 : k < 2 ^ 53) :
    ∃ d, (d = 2 ∨ d = 3) ∧ 2 ^ (52 + d) ≤ 2 * (m <<< 54 / k) + (m <<< 54 % k != 0).toNat ∧ 2 * (m <<< 54 / k) + (m <<< 54 % k != 0).toNat < 2 ^ (53 + d) ∧
      (2 * (m <<< 54 / k) + (m <<< 54 % k != 0).toNat) * k ≤ m * 2 ^ 55 + k ∧ m * 2 ^ 55 ≤ (2 * (m <<< 54 / k) + (m <<< 54 % k != 0).toNat) * k + k := by
  have e : m <<< 54 = m * 2 ^ 54 := Nat.shiftLeft_eq _ _
  rw [e]
  have dm := Nat.div_add_mod (m * 2 ^ 54) k
  have lt := Nat.mod_lt (m * 2 ^ 54) (y := k) (by omega)
  have L := dig3 m k h1 h2 k1 k2
  rw [show m * 2 ^ 55 = 2 * (m * 2 ^ 54) from by omega]
  clear h1 h2 k1 k2 e
  generalize m * 2 ^ 54 = D at *
  generalize D / k = q at *
  generalize D % k = r at *
  obtain ⟨lo, up⟩ := L
  have T : (r != 0).toNat = 0 ∧ r = 0 ∨ (r != 0).toNat = 1 := by
    by_cases c : r = 0
    · subst c; exact .inl ⟨rfl, rfl⟩
    · right; simp [c]
  generalize (r != 0).toNat = t at *
  have X : (2 * q + t) * k = 2 * (k * q) + t * k := by rw [Nat.add_mul, Nat.mul_assoc, Nat.mul_comm q k]
  obtain ⟨d, hd, d1, d2⟩ := dig2 q t lo up (by rcases T with ⟨h, _⟩ | h; exact .inl h; exact .inr h)
  refine ⟨d, hd, d1, d2, ?_⟩
  rw [X]
  exact dig1 D (k * q) r t k dm lt T

def wide (m : Nat) : Nat := m * 2 ^ (52 - m.log2)
theorem wide_in {m : Nat} (h0 : m ≠ 0) (h : m < 2 ^ 53) : 2 ^ 52 ≤ wide m ∧ wide m < 2 ^ 53 ∧ (wide m).log2 = 52 ∧ wide m * 2 ^ m.log2 = m * 2 ^ 52 := by
  have hl : m.log2 ≤ 52 := log2_lt' h
  obtain ⟨p1, p2⟩ := pow_log2 h0
  have q1 : 2 ^ m.log2 * 2 ^ (52 - m.log2) = 2 ^ 52 := by rw [← Nat.pow_add]; congr 1; omega
  have q2 : 2 ^ (m.log2 + 1) * 2 ^ (52 - m.log2) = 2 ^ 53 := by rw [← Nat.pow_add]; congr 1; omega
  have hp : 0 < 2 ^ (52 - m.log2) := Nat.two_pow_pos _
  have k1 : 2 ^ 52 ≤ wide m := by unfold wide; rw [← q1]; exact Nat.mul_le_mul_right _ p1
  have k2 : wide m < 2 ^ 53 := by unfold wide; rw [← q2]; exact Nat.mul_lt_mul_of_pos_right p2 hp
  refine ⟨k1, k2, (Nat.log2_eq_iff (by omega)).2 ⟨k1, k2⟩, ?_⟩
  unfold wide
  rw [Nat.mul_assoc, Nat.mul_comm (2 ^ (52 - m.log2)), q1]

theorem mean_form (n a : Int) (hn : 0 < n) (hn2 : n ≤ 65536) (ha : a ≠ 0) (ha2 : a.natAbs ≤ 2 ^ 31) :
    ∃ r, 0 < r ∧ r < 2047 * 2 ^ 52 ∧ mean a n = some (if decide (a < 0) then 2 ^ 63 + r else r) ∧ ∃ Y, val r = Y * 2 ^ (1019 - n.natAbs.log2) ∧
      Y * wide n.natAbs ≤ a.natAbs * 2 ^ 107 + 5 * (wide n.natAbs * a.natAbs) ∧ a.natAbs * 2 ^ 107 ≤ Y * wide n.natAbs + 5 * (wide n.natAbs * a.natAbs) := by
  have em := read_fi_small a ha (by omega)
  have ek := read_fi_small n (by omega) (by omega)
  rw [show decide (n < 0) = false from decide_eq_false (by omega)] at ek
  have hm0 : a.natAbs ≠ 0 := by omega
  have hk0 : n.natAbs ≠ 0 := by omega
  have hk3 : n.natAbs ≤ 65536 := by omega
  generalize decide (a < 0) = s at *
  generalize a.natAbs = m at *
  have fold1 : m * 2 ^ (52 - m.log2) = wide m := rfl
  rw [fold1] at em
  generalize hnn : n.natAbs = v at *
  have fold2 : v * 2 ^ (52 - v.log2) = wide v := rfl
  rw [fold2] at ek
  obtain ⟨m1, m2, m3, m4⟩ := wide_in hm0 (by omega)
  obtain ⟨k1, k2, k3, k4⟩ := wide_in hk0 (by omega)
  have lm : m.log2 ≤ 31 := log2_lt' (by omega)
  have lv : v.log2 ≤ 16 := log2_lt' (by omega)
  obtain ⟨pm, _⟩ := pow_log2 hm0
  generalize hM : wide m = M at *
  generalize wide v = k at *
  generalize m.log2 = la at *
  generalize v.log2 = lb at *
  obtain ⟨d, hd, d1, d2, d3, d4⟩ := digits M k m1 m2 k1 k2
  obtain ⟨r, r0, r1, r2, C, r3, r4, r5⟩ := near_of s _ (la + 1019 - lb) d hd d1 d2 (by omega) (by omega)
  refine ⟨r, r0, r1, ?_, C * 2 ^ la, ?_, ?_, ?_⟩
  · unfold mean Format.div
    rw [em, ek]
    simp only [Datum.quotient]
    rw [if_neg (by omega)]
    have fb : double.fractionBits = 52 := by decide
    have more : double.fractionBits + 2 + k.log2 - M.log2 = 54 := by rw [fb, k3, m3]
    rw [more]
    simp only [Option.map_some, Format.write, Bool.xor_false]
    have pl : (la : Int) - 52 - ((lb : Int) - 52) - ((54 : Nat) : Int) - 1 = ((la + 1019 - lb : Nat) : Int) - 1074 := by omega
    rw [pl, r2]
  · rw [r3, Nat.mul_assoc, ← Nat.pow_add, show la + 1019 - lb = la + (1019 - lb) from by omega]
  · generalize 2 * (M <<< 54 / k) + (M <<< 54 % k != 0).toNat = G at *
    have s1 : C * k ≤ (G + 4) * k := Nat.mul_le_mul_right _ r4
    have s2 : C * k ≤ M * 2 ^ 55 + 5 * k := by rw [Nat.add_mul] at s1; omega
    have s3 : C * k * 2 ^ la ≤ (M * 2 ^ 55 + 5 * k) * 2 ^ la := Nat.mul_le_mul_right _ s2
    have s4 : (M * 2 ^ 55 + 5 * k) * 2 ^ la = m * 2 ^ 107 + 5 * (k * 2 ^ la) := by
      rw [Nat.add_mul, Nat.mul_right_comm, m4, Nat.mul_assoc m, ← Nat.pow_add, Nat.mul_assoc 5]
    have s5 : k * 2 ^ la ≤ k * m := Nat.mul_le_mul_left _ pm
    rw [Nat.mul_right_comm]
    omega
  · generalize 2 * (M <<< 54 / k) + (M <<< 54 % k != 0).toNat = G at *
    have s1 : G * k ≤ (C + 4) * k := Nat.mul_le_mul_right _ r5
    have s2 : M * 2 ^ 55 ≤ C * k + 5 * k := by rw [Nat.add_mul] at s1; omega
    have s3 : M * 2 ^ 55 * 2 ^ la ≤ (C * k + 5 * k) * 2 ^ la := Nat.mul_le_mul_right _ s2
    have s4 : M * 2 ^ 55 * 2 ^ la = m * 2 ^ 107 := by
      rw [Nat.mul_right_comm, m4, Nat.mul_assoc m, ← Nat.pow_add]
    have s6 : (C * k + 5 * k) * 2 ^ la = C * 2 ^ la * k + 5 * (k * 2 ^ la) := by
      rw [Nat.add_mul, Nat.mul_right_comm, Nat.mul_assoc 5]
    have s5 : k * 2 ^ la ≤ k * m := Nat.mul_le_mul_left _ pm
    rw [s4, s6] at s3
    exact Nat.le_trans s3 (Nat.add_le_add_left (Nat.mul_le_mul_left _ s5) _)

/-- of a greater sum, a greater rung -/
theorem rung_lt {k x y Y Z e r q : Nat} (hk : 0 < k) (hk2 : k < 2 ^ 53) (hx : x ≤ 2 ^ 31) (hy : y ≤ 2 ^ 31) (h : x < y)
    (e1 : val r = Y * 2 ^ e) (e2 : val q = Z * 2 ^ e) (a1 : Y * k ≤ x * 2 ^ 107 + 5 * (k * x)) (a2 : y * 2 ^ 107 ≤ Z * k + 5 * (k * y)) : r < q := by
  apply lt_of_val
  rw [e1, e2]
  apply Nat.mul_lt_mul_of_pos_right _ (Nat.two_pow_pos _)
  apply Nat.lt_of_mul_lt_mul_right (a := k)
  have b1 : k * x ≤ 2 ^ 53 * 2 ^ 31 := Nat.mul_le_mul (by omega) hx
  have b2 : k * y ≤ 2 ^ 53 * 2 ^ 31 := Nat.mul_le_mul (by omega) hy
  generalize k * x = u at *
  generalize k * y = v at *
  omega

/-- where the mean of more than no numbers stands among all -/
theorem mean_nought (n : Int) (hn : 0 < n) (hn2 : n ≤ 65536) : mean 0 n = some 0 := by
  have ek := read_fi_small n (by omega) (by omega)
  rw [show decide (n < 0) = false from decide_eq_false (by omega)] at ek
  have k0 : n.natAbs * 2 ^ (52 - n.natAbs.log2) ≠ 0 := Nat.mul_ne_zero (by omega) (Nat.pos_iff_ne_zero.1 (Nat.two_pow_pos _))
  unfold mean Format.div
  rw [fi_zero, read_zero, ek]
  simp only [Datum.quotient]
  rw [if_neg k0]
  simp only [Option.map_some, Format.write, Bool.xor_false]
  have z : ∀ x, 0 <<< x = 0 := fun x => by rw [Nat.shiftLeft_eq, Nat.zero_mul]
  simp only [z, Nat.zero_div, Nat.zero_mod, Nat.mul_zero]
  rw [show (0 + ((0 : Nat) != 0).toNat) = 0 from rfl, nearest_none, word_d]
  rfl

/-- the mean's sign and order -/
theorem mean_sign (n a : Int) (hn : 0 < n) (hn2 : n ≤ 65536) (ha2 : a.natAbs ≤ 2 ^ 31) :
    ∃ q, mean a n = some q ∧ q < 2 ^ 64 ∧ nan q = false ∧ (2 ^ 63 < hi q ↔ 0 < a) ∧ (hi q < 2 ^ 63 ↔ a < 0) ∧ (zero q = true → a = 0) := by
  by_cases h0 : a = 0
  · subst h0
    refine ⟨0, mean_nought n hn hn2, by omega, by decide, ?_, ?_, fun _ => rfl⟩
    · have : hi 0 = 2 ^ 63 := by decide
      rw [this]; omega
    · have : hi 0 = 2 ^ 63 := by decide
      rw [this]; omega
  · obtain ⟨r, r0, r1, r2, _⟩ := mean_form n a hn hn2 h0 ha2
    refine ⟨_, r2, (form_nan (Nat.le_of_lt r1)).2, (form_nan (Nat.le_of_lt r1)).1, ?_⟩
    have N := (form_nan (s := decide (a < 0)) (Nat.le_of_lt r1)).1
    unfold hi
    rw [N]
    by_cases c : a < 0
    · rw [decide_eq_true c]
      simp only [if_true]
      refine ⟨?_, ?_, ?_⟩
      · simp; omega
      · simp; omega
      · unfold zero; simp; omega
    · rw [decide_eq_false c]
      simp only [Bool.false_eq_true, if_false]
      refine ⟨?_, ?_, ?_⟩
      · simp; rw [if_neg (by omega)]; omega
      · simp; rw [if_neg (by omega)]; omega
      · unfold zero; simp; omega
theorem mean_lt (n a b : Int) (hn : 0 < n) (hn2 : n ≤ 65536) (ha2 : a.natAbs ≤ 2 ^ 31) (hb2 : b.natAbs ≤ 2 ^ 31) (h : a < b) {p q : Nat} (ep : mean a n = some p) (eq : mean b n = some q) : hi p < hi q := by
  obtain ⟨p', ep', _, _, u1, u2, _⟩ := mean_sign n a hn hn2 ha2
  obtain ⟨q', eq', _, _, v1, v2, _⟩ := mean_sign n b hn hn2 hb2
  obtain rfl : p' = p := Option.some.inj (ep'.symm.trans ep)
  obtain rfl : q' = q := Option.some.inj (eq'.symm.trans eq)
  by_cases c : a ≤ 0 ∧ 0 ≤ b
  · omega
  · have kk := wide_in (m := n.natAbs) (by omega) (by omega)
    obtain ⟨r, r0, r1, r2, Y, r3, r4, r5⟩ := mean_form n a hn hn2 (by omega) ha2
    obtain ⟨t, t0, t1, t2, Z, t3, t4, t5⟩ := mean_form n b hn hn2 (by omega) hb2
    have N := (form_nan (s := decide (a < 0)) (Nat.le_of_lt r1)).1
    have M := (form_nan (s := decide (b < 0)) (Nat.le_of_lt t1)).1
    obtain rfl := Option.some.inj (r2.symm.trans ep)
    obtain rfl := Option.some.inj (t2.symm.trans eq)
    by_cases d : a < 0
    · have db : b < 0 := by omega
      have L : t < r := rung_lt (by omega) kk.2.1 hb2 ha2 (by omega) t3 r3 t4 r5
      unfold hi
      rw [N, M, decide_eq_true d, decide_eq_true db]
      simp; omega
    · have db : ¬ b < 0 := by omega
      have L : r < t := rung_lt (by omega) kk.2.1 ha2 hb2 (by omega) r3 t3 r4 t5
      unfold hi
      rw [N, M, decide_eq_false d, decide_eq_false db]
      simp
      rw [if_neg (by omega), if_neg (by omega)]; omega

end Go.Proofs.Ytmgocfcbkejgdaa.RankPlain
