/- What is proved here: plain facts about float64: the order of two numbers by their bits, the float of a whole number, what a quotient may be (conditions: those that each names). -/
import Ieee.Arith
namespace Go.Proofs.Ytmgocfcbkejgdaa.RankPlain
open Ieee



abbrev B : Nat := 2 ^ 52
/-- scaled value of a rung -/
def val (r : Nat) : Nat := if r < 2 ^ 52 then r else (2 ^ 52 + r % 2 ^ 52) * 2 ^ (r / 2 ^ 52 - 1)

theorem val_succ (r : Nat) : val r < val (r + 1) := by
  unfold val
  by_cases h : r + 1 < 2 ^ 52
  · rw [if_pos (by omega), if_pos h]; omega
  · rw [if_neg h]
    by_cases h0 : r < 2 ^ 52
    · have e : r = 2 ^ 52 - 1 := by omega
      subst e
      decide
    · rw [if_neg h0]
      by_cases h1 : r % 2 ^ 52 + 1 < 2 ^ 52
      · have e1 : (r + 1) % 2 ^ 52 = r % 2 ^ 52 + 1 := by omega
        have e2 : (r + 1) / 2 ^ 52 = r / 2 ^ 52 := by omega
        rw [e1, e2]
        exact Nat.mul_lt_mul_of_pos_right (by omega) (Nat.two_pow_pos _)
      · have e1 : (r + 1) % 2 ^ 52 = 0 := by omega
        have e2 : (r + 1) / 2 ^ 52 = r / 2 ^ 52 + 1 := by omega
        have e3 : r / 2 ^ 52 ≥ 1 := by omega
        rw [e1, e2]
        obtain ⟨k, hk⟩ : ∃ k, r / 2 ^ 52 = k + 1 := ⟨r / 2 ^ 52 - 1, by omega⟩
        rw [hk]
        simp only [Nat.add_sub_cancel, Nat.pow_succ 2 k]
        have hp : 0 < 2 ^ k := Nat.two_pow_pos _
        generalize 2 ^ k = p at *
        have : (2 ^ 52 + r % 2 ^ 52) * p < (2 ^ 52 * 2) * p := Nat.mul_lt_mul_of_pos_right (by omega) hp
        calc (2 ^ 52 + r % 2 ^ 52) * p < (2 ^ 52 * 2) * p := this
          _ = (2 ^ 52 + 0) * (p * 2) := by rw [Nat.add_zero, Nat.mul_assoc, Nat.mul_comm 2 p]

theorem val_mono {r s : Nat} (h : r < s) : val r < val s := by
  induction s with
  | zero => omega
  | succ n ih =>
    by_cases e : r = n
    · subst e; exact val_succ r
    · exact Nat.lt_trans (ih (by omega)) (val_succ n)

theorem val_inj {r s : Nat} (h : val r = val s) : r = s := by
  rcases Nat.lt_trichotomy r s with h1 | h1 | h1
  · have := val_mono h1; omega
  · exact h1
  · have := val_mono h1; omega

theorem lt_of_val {r s : Nat} (h : val r < val s) : r < s := by
  rcases Nat.lt_trichotomy r s with h1 | h1 | h1
  · exact h1
  · subst h1; omega
  · have := val_mono h1; omega

/-- the NaNs -/
def nan (b : Nat) : Bool := decide (2047 * 2 ^ 52 < b % 2 ^ 63)
/-- a number's place among all, by its bits -/
def hi (b : Nat) : Nat := if nan b then 0 else if 2 ^ 63 ≤ b then 2 ^ 64 - 1 - b else b + 2 ^ 63
def zero (b : Nat) : Bool := b == 0 || b == 2 ^ 63

theorem infRung_d : double.infRung = 2047 * 2 ^ 52 := by decide
theorem sw_d : double.signWeight = 2 ^ 63 := by decide
theorem bin_d : double.binade = 2 ^ 52 := by decide
theorem lp_d : double.leastPlace = -1074 := by decide

theorem read_nan {b : Nat} (h : nan b = true) : ∃ s t, double.read b = .nan s t := by
  unfold nan at h
  have h := of_decide_eq_true h
  unfold Format.read
  simp only [infRung_d, sw_d, bin_d, lp_d]
  rw [if_neg (by omega), if_neg (by omega), if_neg (by omega)]
  exact ⟨_, _, rfl⟩

/-- the sign -/
def neg (b : Nat) : Bool := b / 2 ^ 63 % 2 == 1

theorem read_inf {b : Nat} (h : b % 2 ^ 63 = 2047 * 2 ^ 52) : double.read b = .infinity (neg b) := by
  unfold Format.read neg
  simp only [infRung_d, sw_d, bin_d, lp_d]
  rw [if_neg (by omega), if_neg (by omega), if_pos (by omega)]

theorem read_num {b : Nat} (h : b % 2 ^ 63 < 2047 * 2 ^ 52) :
    ∃ m i, double.read b = .number (neg b) m i ∧ -1074 ≤ i ∧ m * 2 ^ (i + 1074).toNat = val (b % 2 ^ 63) := by
  unfold Format.read neg val
  simp only [infRung_d, sw_d, bin_d, lp_d]
  generalize b % 2 ^ 63 = r at *
  by_cases h1 : r < 2 ^ 52
  · rw [if_pos (by omega), if_pos h1]
    exact ⟨_, _, rfl, by omega, by simp⟩
  · rw [if_neg (by omega), if_pos (by omega), if_neg h1]
    refine ⟨_, _, rfl, by omega, ?_⟩
    congr 2
    omega

def sgn (s : Bool) (n : Nat) : Int := if s then -(n : Int) else n

theorem signed_scale (s : Bool) (m : Nat) (i base : Int) (hb : -1074 ≤ base) (hi : base ≤ i) :
    signed s m (i - base).toNat * 2 ^ (base + 1074).toNat = sgn s (m * 2 ^ (i + 1074).toNat) := by
  have e : (i + 1074).toNat = (i - base).toNat + (base + 1074).toNat := by omega
  unfold signed sgn
  rw [e, Nat.pow_add, Nat.shiftLeft_eq, ← Nat.mul_assoc]
  split <;> simp [Int.neg_mul]

theorem compare_scale (x y : Int) (p : Nat) : compare (x * 2 ^ p) (y * 2 ^ p) = compare x y := by
  have hp : (0 : Int) < 2 ^ p := Int.pow_pos (by decide)
  rcases Int.lt_trichotomy x y with h | h | h
  · have h2 := Int.mul_lt_mul_of_pos_right h hp
    simp only [compare, compareOfLessAndEq]
    rw [if_pos h, if_pos h2]
  · subst h; simp [compare, compareOfLessAndEq]
  · have h2 := Int.mul_lt_mul_of_pos_right h hp
    simp only [compare, compareOfLessAndEq]
    rw [if_neg (by omega), if_neg (by omega), if_neg (by omega), if_neg (by omega)]

theorem order_num {s t : Bool} {m n : Nat} {i j : Int} (hi : -1074 ≤ i) (hj : -1074 ≤ j) :
    Datum.order (.number s m i) (.number t n j) = some (compare (sgn s (m * 2 ^ (i + 1074).toNat)) (sgn t (n * 2 ^ (j + 1074).toNat))) := by
  simp only [Datum.order]
  rw [← signed_scale s m i (min i j) (by omega) (by omega), ← signed_scale t n j (min i j) (by omega) (by omega), compare_scale]

theorem val_zero {r : Nat} (h : val r = 0) : r = 0 := val_inj (s := 0) (by rw [h]; decide)

theorem order_hi {a b : Nat} (ha : a < 2 ^ 64) (hb : b < 2 ^ 64) (na : nan a = false) (nb : nan b = false) :
    double.order a b = some (if zero a && zero b then .eq else compare (hi a) (hi b)) := by
  have na' := of_decide_eq_false na
  have nb' := of_decide_eq_false nb
  have ga : neg a = decide (2 ^ 63 ≤ a) := by unfold neg; rw [Bool.eq_iff_iff]; simp; omega
  have gb : neg b = decide (2 ^ 63 ≤ b) := by unfold neg; rw [Bool.eq_iff_iff]; simp; omega
  have cmpN : ∀ x y : Nat, compare x y = if x < y then .lt else if x = y then .eq else .gt := fun x y => rfl
  have cmpI : ∀ x y : Int, compare x y = if x < y then .lt else if x = y then .eq else .gt := fun x y => rfl
  have za : zero a = decide (a % 2 ^ 63 = 0) := by unfold zero; rw [Bool.eq_iff_iff]; simp; omega
  have zb : zero b = decide (b % 2 ^ 63 = 0) := by unfold zero; rw [Bool.eq_iff_iff]; simp; omega
  unfold Format.order hi
  rw [na, nb, za, zb]
  simp only [Bool.false_eq_true, if_false]
  by_cases ia : a % 2 ^ 63 = 2047 * 2 ^ 52
  · rw [read_inf ia, ga]
    by_cases ib : b % 2 ^ 63 = 2047 * 2 ^ 52
    · rw [read_inf ib, gb]
      simp only [Datum.order, cmpN, Option.some.injEq]
      by_cases h1 : 2 ^ 63 ≤ a <;> by_cases h2 : 2 ^ 63 ≤ b <;> simp [h1, h2, ia, ib] <;> (try split) <;> (try split) <;> (try rfl) <;> omega
    · obtain ⟨m, i, e, _, _⟩ := read_num (b := b) (by omega)
      rw [e, gb]
      simp only [Datum.order, cmpN, Option.some.injEq]
      by_cases h1 : 2 ^ 63 ≤ a <;> by_cases h2 : 2 ^ 63 ≤ b <;> simp [h1, h2, ia] <;> (try split) <;> (try split) <;> (try rfl) <;> omega
  · obtain ⟨m, i, e, hi1, hv⟩ := read_num (b := a) (by omega)
    rw [e, ga]
    by_cases ib : b % 2 ^ 63 = 2047 * 2 ^ 52
    · rw [read_inf ib, gb]
      simp only [Datum.order, cmpN, Option.some.injEq]
      by_cases h1 : 2 ^ 63 ≤ a <;> by_cases h2 : 2 ^ 63 ≤ b <;> simp [h1, h2, ib] <;> (try split) <;> (try split) <;> (try rfl) <;> omega
    · obtain ⟨n, j, e', hj1, hv'⟩ := read_num (b := b) (by omega)
      rw [e', gb, order_num hi1 hj1, hv, hv']
      simp only [cmpN, cmpI, Option.some.injEq]
      have key : ∀ r s : Nat, (val r < val s ↔ r < s) := fun r s => ⟨lt_of_val, val_mono⟩
      have key2 : ∀ r s : Nat, (val r = val s ↔ r = s) := fun r s => ⟨val_inj, fun h => by rw [h]⟩
      have v0 : val 0 = 0 := by decide
      have k1 := key (a % 2 ^ 63) (b % 2 ^ 63)
      have k2 := key (b % 2 ^ 63) (a % 2 ^ 63)
      have k3 := key2 (a % 2 ^ 63) (b % 2 ^ 63)
      have k4 := key2 (a % 2 ^ 63) 0
      have k5 := key2 (b % 2 ^ 63) 0
      rw [v0] at k4 k5
      generalize hA : val (a % 2 ^ 63) = A at *
      generalize hB : val (b % 2 ^ 63) = C at *
      unfold sgn
      by_cases h1 : 2 ^ 63 ≤ a <;> by_cases h2 : 2 ^ 63 ≤ b <;> simp [h1, h2] <;> (repeat' split) <;> (first | rfl | omega)




theorem word_d (s : Bool) (r : Nat) : double.word s r = if s then 2 ^ 63 + r else r := by
  unfold Format.word; rw [sw_d]

theorem nearest_form (s : Bool) (mag : Nat) (place : Int) : ∃ r, r ≤ 2047 * 2 ^ 52 ∧ double.nearest s mag place = if s then 2 ^ 63 + r else r := by
  unfold Format.nearest
  rw [infRung_d]
  split
  · exact ⟨0, by omega, word_d s 0⟩
  · exact ⟨_, Nat.min_le_right _ _, word_d s _⟩

theorem form_nan {s : Bool} {r : Nat} (h : r ≤ 2047 * 2 ^ 52) : nan (if s then 2 ^ 63 + r else r) = false ∧ (if s then 2 ^ 63 + r else r) < 2 ^ 64 := by
  unfold nan
  rw [decide_eq_false_iff_not]
  split <;> omega

theorem nearest_nan (s : Bool) (mag : Nat) (place : Int) : nan (double.nearest s mag place) = false ∧ double.nearest s mag place < 2 ^ 64 := by
  obtain ⟨r, h, e⟩ := nearest_form s mag place
  rw [e]; exact form_nan h

/-- cut to even: near -/
theorem cut_near (s : Bool) (n d : Nat) (hd : d ≤ n.log2 + 2) : 2 * (Toward.even.cut s n d * 2 ^ d) ≤ 2 * n + 2 ^ d ∧ 2 * n ≤ 2 * (Toward.even.cut s n d * 2 ^ d) + 2 ^ d := by
  unfold Toward.cut
  have e : min d (n.log2 + 2) = d := by omega
  simp only [e, Nat.shiftLeft_eq, Nat.one_mul]
  have hp : 0 < 2 ^ d := Nat.two_pow_pos _
  generalize 2 ^ d = p at *
  have h1 : n = p * (n / p) + n % p := (Nat.div_add_mod n p).symm
  have h2 : n % p < p := Nat.mod_lt _ hp
  generalize n / p = q at *
  generalize n % p = t at *
  have h3 : q * p = p * q := Nat.mul_comm _ _
  by_cases g : p < 2 * t
  · have : (q + 1) * p = p * q + p := by rw [Nat.add_mul, Nat.one_mul, h3]
    simp only [g, decide_true, Bool.true_or, Bool.toNat_true]
    omega
  · by_cases g2 : p = 2 * t
    · have g2' : (p == 2 * t) = true := by simpa using g2
      by_cases g3 : q % 2 = 1
      · have : (q + 1) * p = p * q + p := by rw [Nat.add_mul, Nat.one_mul, h3]
        have g3' : (q % 2 == 1) = true := by simpa using g3
        simp only [g2', g3', Bool.and_self, Bool.or_true, Bool.toNat_true]
        omega
      · have g4 : (q % 2 == 1) = false := by simpa using g3
        simp only [g, g4, decide_false, Bool.and_false, Bool.or_false, Bool.toNat_false, Nat.add_zero]
        omega
    · have g4 : (p == 2 * t) = false := by simpa using g2
      simp only [g, g4, decide_false, Bool.false_and, Bool.or_false, Bool.toNat_false, Nat.add_zero]
      omega

theorem cut_zero (s : Bool) (n : Nat) : Toward.even.cut s n 0 = n := by
  have := cut_near s n 0 (by omega)
  simp at this
  omega

/-- a normal rung, read -/
theorem read_normal (s : Bool) (e k : Nat) (hk : 2 ^ 52 ≤ k) (hk2 : k < 2 ^ 53) (he : e ≤ 2000) :
    double.read (if s then 2 ^ 63 + (e * 2 ^ 52 + k) else e * 2 ^ 52 + k) = .number s k ((e : Int) - 1074) := by
  unfold Format.read
  simp only [infRung_d, sw_d, bin_d, lp_d]
  have h1 : (if s then 2 ^ 63 + (e * 2 ^ 52 + k) else e * 2 ^ 52 + k) % 2 ^ 63 = e * 2 ^ 52 + k := by split <;> omega
  have h2 : ((if s then 2 ^ 63 + (e * 2 ^ 52 + k) else e * 2 ^ 52 + k) / 2 ^ 63 % 2 == 1) = s := by
    cases s
    · simp; omega
    · simp; omega
  rw [h1, h2, if_neg (by omega), if_pos (by omega)]
  have h3 : (e * 2 ^ 52 + k) % 2 ^ 52 = k - 2 ^ 52 := by omega
  have h4 : (e * 2 ^ 52 + k) / 2 ^ 52 = e + 1 := by omega
  have h5 : 2 ^ 52 + (k - 2 ^ 52) = k := by omega
  have h6 : (-1074 : Int) + ((e + 1 - 1 : Nat) : Int) = (e : Int) - 1074 := by omega
  rw [h3, h4, h5, h6]

/-- float64(n) -/
def fi (n : Int) : Nat := double.nearest (decide (n < 0)) n.natAbs 0

theorem fi_zero : fi 0 = 0 := by
  unfold fi Format.nearest
  have h : Int.natAbs 0 = 0 := rfl
  rw [if_pos h, word_d]
  simp
theorem read_zero : double.read 0 = .number false 0 (-1074) := by
  unfold Format.read
  simp only [infRung_d, sw_d, bin_d, lp_d]
  simp

theorem log2_lt' {m k : Nat} (h : m < 2 ^ (k + 1)) : m.log2 ≤ k := by
  by_cases h0 : m = 0
  · subst h0; simp
  · have := (Nat.log2_lt h0).2 h; omega

theorem pow_log2 {m : Nat} (h : m ≠ 0) : 2 ^ m.log2 ≤ m ∧ m < 2 ^ (m.log2 + 1) := ⟨Nat.log2_self_le h, Nat.lt_log2_self⟩

theorem min_room (l k : Nat) (hl : l ≤ 100) (hk : k ≤ 2 ^ 53) : min ((l + 1022) * 2 ^ 52 + k) (2047 * 2 ^ 52) = (l + 1022) * 2 ^ 52 + k := by omega
theorem place_of (l : Nat) : ((l + 1022 : Nat) : Int) - 1074 = (l : Int) - 52 := by omega

/-- a small number, exactly -/
theorem read_fi_small (n : Int) (h0 : n ≠ 0) (h : n.natAbs < 2 ^ 53) :
    double.read (fi n) = .number (decide (n < 0)) (n.natAbs * 2 ^ (52 - n.natAbs.log2)) ((n.natAbs.log2 : Int) - 52) := by
  unfold fi Format.nearest
  have hm : n.natAbs ≠ 0 := by omega
  generalize decide (n < 0) = s
  generalize n.natAbs = m at *
  have hl : m.log2 ≤ 52 := log2_lt' h
  obtain ⟨p1, p2⟩ := pow_log2 hm
  rw [if_neg hm]
  have fb : (double.fractionBits : Int) = 52 := by decide
  simp only [infRung_d, lp_d, bin_d, fb]
  have e1 : max ((0 : Int) + m.log2 - 52) (-1074) = (m.log2 : Int) - 52 := by omega
  rw [e1]
  have e2 : ((0 : Int) - ((m.log2 : Int) - 52)).toNat = 52 - m.log2 := by omega
  have e3 : ((m.log2 : Int) - 52 - 0).toNat = 0 := by omega
  have e4 : ((m.log2 : Int) - 52 - (-1074)).toNat = m.log2 + 1022 := by omega
  rw [e2, e3, e4, cut_zero, Nat.shiftLeft_eq]
  have q1 : 2 ^ m.log2 * 2 ^ (52 - m.log2) = 2 ^ 52 := by rw [← Nat.pow_add]; congr 1; omega
  have q2 : 2 ^ (m.log2 + 1) * 2 ^ (52 - m.log2) = 2 ^ 53 := by rw [← Nat.pow_add]; congr 1; omega
  have hp : 0 < 2 ^ (52 - m.log2) := Nat.two_pow_pos _
  have k1 : 2 ^ 52 ≤ m * 2 ^ (52 - m.log2) := by rw [← q1]; exact Nat.mul_le_mul_right _ p1
  have k2 : m * 2 ^ (52 - m.log2) < 2 ^ 53 := by rw [← q2]; exact Nat.mul_lt_mul_of_pos_right p2 hp
  have hl2 : m.log2 + 1022 ≤ 2000 := by omega
  rw [min_room m.log2 _ (by omega) (Nat.le_of_lt k2), word_d, read_normal s (m.log2 + 1022) _ k1 k2 hl2, place_of]

/-- any number of 64 bits: no nought, no infinity -/
theorem read_fi_any (n : Int) (h0 : n ≠ 0) (h : n.natAbs < 2 ^ 64) :
    ∃ m i, double.read (fi n) = .number (decide (n < 0)) m i ∧ m ≠ 0 := by
  by_cases hs : n.natAbs < 2 ^ 53
  · refine ⟨_, _, read_fi_small n h0 hs, ?_⟩
    exact Nat.mul_ne_zero (by omega) (Nat.pos_iff_ne_zero.1 (Nat.two_pow_pos _))
  · unfold fi Format.nearest
    have hm : n.natAbs ≠ 0 := by omega
    generalize decide (n < 0) = s
    generalize n.natAbs = m at *
    have hl : m.log2 ≤ 63 := log2_lt' h
    obtain ⟨p1, p2⟩ := pow_log2 hm
    have hl2 : 53 ≤ m.log2 := by
      have := Nat.pow_lt_pow_iff_right (a := 2) (n := 53) (m := m.log2 + 1) (by omega)
      omega
    rw [if_neg hm]
    have fb : (double.fractionBits : Int) = 52 := by decide
    simp only [infRung_d, lp_d, bin_d, fb]
    have e1 : max ((0 : Int) + m.log2 - 52) (-1074) = (m.log2 : Int) - 52 := by omega
    rw [e1]
    have e2 : ((0 : Int) - ((m.log2 : Int) - 52)).toNat = 0 := by omega
    have e3 : ((m.log2 : Int) - 52 - 0).toNat = m.log2 - 52 := by omega
    have e4 : ((m.log2 : Int) - 52 - (-1074)).toNat = m.log2 + 1022 := by omega
    rw [e2, e3, e4, Nat.shiftLeft_zero]
    obtain ⟨c1, c2⟩ := cut_near s m (m.log2 - 52) (by omega)
    generalize Toward.even.cut s m (m.log2 - 52) = k at *
    have q1 : 2 ^ 52 * 2 ^ (m.log2 - 52) = 2 ^ m.log2 := by rw [← Nat.pow_add]; congr 1; omega
    have q2 : 2 ^ 53 * 2 ^ (m.log2 - 52) = 2 ^ (m.log2 + 1) := by rw [← Nat.pow_add]; congr 1; omega
    have hp : 0 < 2 ^ (m.log2 - 52) := Nat.two_pow_pos _
    generalize 2 ^ (m.log2 - 52) = p at *
    have k1 : 2 ^ 52 ≤ k := by
      apply Decidable.byContradiction; intro hk
      have : (k + 1) * p ≤ 2 ^ 52 * p := Nat.mul_le_mul_right _ (by omega)
      rw [Nat.add_mul, Nat.one_mul] at this
      omega
    have k2 : k ≤ 2 ^ 53 := by
      apply Decidable.byContradiction; intro hk
      have : (2 ^ 53 + 1) * p ≤ k * p := Nat.mul_le_mul_right _ (by omega)
      rw [Nat.add_mul, Nat.one_mul] at this
      omega
    rw [min_room m.log2 k (by omega) k2, word_d]
    by_cases hk : k = 2 ^ 53
    · subst hk
      have e6 : (m.log2 + 1022) * 2 ^ 52 + 2 ^ 53 = (m.log2 + 1023) * 2 ^ 52 + 2 ^ 52 := by omega
      rw [e6, read_normal s (m.log2 + 1023) (2 ^ 52) (by omega) (by omega) (by omega)]
      exact ⟨_, _, rfl, by omega⟩
    · rw [read_normal s (m.log2 + 1022) k k1 (by omega) (by omega)]
      exact ⟨_, _, rfl, by omega⟩

theorem read_fi (n : Int) (h : n.natAbs < 2 ^ 64) : ∃ m i, double.read (fi n) = .number (decide (n < 0)) m i ∧ (m = 0 ↔ n = 0) := by
  by_cases h0 : n = 0
  · subst h0; exact ⟨0, -1074, by rw [fi_zero, read_zero]; simp, by simp⟩
  · obtain ⟨m, i, e, hm⟩ := read_fi_any n h0 h
    exact ⟨m, i, e, by simp [hm, h0]⟩

/-- a mean, by bits -/
def mean (s n : Int) : Option Nat := double.div (fi s) (fi n)

theorem mean_cases (s n : Int) (hs : s.natAbs < 2 ^ 64) (hn : n.natAbs < 2 ^ 64) :
    (s = 0 ∧ n = 0 ∧ mean s n = none) ∨ (¬ (s = 0 ∧ n = 0) ∧ ∃ r, mean s n = some r ∧ nan r = false ∧ r < 2 ^ 64) := by
  obtain ⟨m, i, e, hm⟩ := read_fi s hs
  obtain ⟨k, j, e', hk⟩ := read_fi n hn
  unfold mean Format.div
  rw [e, e']
  simp only [Datum.quotient]
  by_cases k0 : k = 0
  · rw [if_pos k0]
    by_cases m0 : m = 0
    · rw [if_pos m0]; exact Or.inl ⟨hm.1 m0, hk.1 k0, rfl⟩
    · rw [if_neg m0]
      refine Or.inr ⟨fun h => m0 (hm.2 h.1), _, rfl, ?_⟩
      show nan (double.word _ double.infRung) = false ∧ _ < _
      unfold Format.write
      rw [word_d, infRung_d]
      exact form_nan (Nat.le_refl _)
  · rw [if_neg k0]
    refine Or.inr ⟨fun h => k0 (hk.2 h.2), _, rfl, ?_⟩
    exact nearest_nan _ _ _

/-- its place among all -/
def key (s n : Int) : Nat := match mean s n with | none => 0 | some r => hi r


end Go.Proofs.Ytmgocfcbkejgdaa.RankPlain
