/- What is proved here: what the calls of the small functions of package rank, of its reference and of package math come to (conditions: none beyond the types). -/
import Derived.Test.YtmgocfcbkejgdaaPRankComparesx1
import Derived.Test.YtmgocfcbkejgdaaRankPlain
import Derived.Laws.FloatArith
import Derived.Laws.Externs
import Derived.Laws.Bits64
import Derived.Laws.Bits64b
namespace Go.Proofs.Ytmgocfcbkejgdaa.RankBase
open Go.RowKit Go.Proofs.YtmgocfcbkejgdaaW.PrintWords Go.Proofs.YtmgocfcbkejgdaaW.PrintLast Go.Proofs.YtmgocfcbkejgdaaW.PrintMore Go.Proofs.Ytmgocfcbkejgdaa.PRankCompares Go.Proofs.Ytmgocfcbkejgdaa.RankPlain
theorem run_bits (b : Nat) (w : World) : (callFunc 19 #[.float .f64 b]).run Try.prog w = .ok (.value (.int .u64 b)) w := by
  rw [run_callFunc_extern (fn := _) (e := Extern.MathFloatBits.float64bits) Try.func19 (by kernel_rfl) (by kernel_rfl) (by kernel_rfl) (by kernel_rfl)]
  rfl
theorem run_frombits (n : Int) (w : World) : (callFunc 14 #[.int .u64 n]).run Try.prog w = .ok (.value (.float .f64 n.toNat)) w := by
  rw [run_callFunc_extern (fn := _) (e := Extern.MathFloatBits.float64frombits) Try.func14 (by kernel_rfl) (by kernel_rfl) (by kernel_rfl) (by kernel_rfl)]
  rfl
/-- a NaN, as the machine asks -/
def nanB (b : Nat) : Bool := FloatKind.f64.format.order b b != some .eq
/-- the place among all, as the code reckons it -/
def highI (b : Nat) : Int := if nanB b = true then 0 else if (bits BinOp.and IntKind.u64 (b : Int) 9223372036854775808 != 0) = true then bits BinOp.xor IntKind.u64 IntKind.u64.max (b : Int) else bits BinOp.or IntKind.u64 (b : Int) 9223372036854775808
def signB (b : Nat) : Bool := decide (wrap64 (b : Int) < 0)
def cmpI (x y : Int) : Int := if x < y then -1 else if x > y then 1 else 0
set_option maxRecDepth 100000 in
theorem isnan_calls (b : Nat) (w : World) : Calls Try.prog 18 #[.float .f64 b] w fun e w' => e = .returned (.bool (nanB b)) ∧ Drawn0 w w' := by
  go_enter Try.func18, Try.ntmps18
  go_wp2
  go_ret
  exact ⟨rfl, Drawn0.refl _⟩
set_option maxRecDepth 100000 in
theorem high_calls (b : Nat) (w : World) : Calls Try.prog 26 #[.float .f64 b] w fun e w' => e = .returned (.int .u64 (highI b)) ∧ Drawn0 w w' := by
  have hd := run_bits b
  go_enter Try.func26, Try.ntmps26
  go_wp2
  all_goals go_ret
  all_goals refine ⟨?_, Drawn0.refl _⟩
  · rename_i h1
    show Ending.returned (.int .u64 0) = _
    unfold highI nanB; rw [if_pos h1]
  · rename_i h1 h2
    show Ending.returned (.int .u64 (bits BinOp.xor IntKind.u64 IntKind.u64.max (b : Int))) = _
    unfold highI nanB; rw [h1, if_neg (by simp), if_pos h2]
  · rename_i h1 h2
    show Ending.returned (.int .u64 (bits BinOp.or IntKind.u64 (b : Int) 9223372036854775808)) = _
    unfold highI nanB; rw [h1, if_neg (by simp), h2, if_neg (by simp)]
theorem compare_calls (x y : Int) (w : World) : Calls Try.prog 25 #[.int .u64 x, .int .u64 y] w fun e w' => e = .returned (.int .i64 (cmpI x y)) ∧ Drawn0 w w' := by
  refine cmp_Compare_uint64.calls x y _ w ?_
  have e : ∀ z : Int, cmp_isNaN_uint64.f z = some false := by intro z; unfold cmp_isNaN_uint64.f; simp
  unfold cmp_Compare_uint64.f cmpI
  rw [e, Option.bind_some, e, Option.bind_some, if_neg (by simp), if_neg (by simp)]
  split
  · rfl
  · split <;> rfl
set_option maxRecDepth 100000 in
theorem cmp_calls (a b : Nat) (w : World) : Calls Try.prog 12 #[.float .f64 a, .float .f64 b] w fun e w' => e = .returned (.int .i64 (cmpI (highI a) (highI b))) ∧ Drawn0 w w' := by
  go_enter Try.func12, Try.ntmps12
  go_wp2_with (first | (go_at_call 26; refine (high_calls _ _).mono ?_; rintro e w' ⟨rfl, ⟨nd, rfl⟩⟩) | (go_at_call 25; refine (compare_calls _ _ _).mono ?_; rintro e w' ⟨rfl, ⟨nd2, rfl⟩⟩))
  go_ret
  exact ⟨rfl, _, rfl⟩
set_option maxRecDepth 100000 in
theorem signbit_calls (b : Nat) (w : World) : Calls Try.prog 29 #[.float .f64 b] w fun e w' => e = .returned (.bool (signB b)) ∧ Drawn0 w w' := by
  have hd := run_bits b
  go_enter Try.func29, Try.ntmps29
  go_wp2
  go_ret
  exact ⟨rfl, Drawn0.refl _⟩
set_option maxRecDepth 100000 in
theorem nan_calls (w : World) : Calls Try.prog 21 #[] w fun e w' => e = .returned (.float .f64 9221120237041090561) ∧ Drawn0 w w' := by
  have hd := run_frombits 9221120237041090561
  go_enter Try.func21, Try.ntmps21
  go_wp2
  go_ret
  exact ⟨rfl, Drawn0.refl _⟩
set_option maxRecDepth 100000 in
theorem inf_calls (s : Int) (w : World) : Calls Try.prog 20 #[.int .i64 s] w fun e w' => e = .returned (.float .f64 (if 0 ≤ s then 9218868437227405312 else 18442240474082181120)) ∧ Drawn0 w w' := by
  have hd := run_frombits 9218868437227405312
  have hd2 := run_frombits 18442240474082181120
  go_enter Try.func20, Try.ntmps20
  go_wp2
  all_goals go_ret
  all_goals exact ⟨rfl, Drawn0.refl _⟩
def copyI (f s : Nat) : Nat := (bits BinOp.or IntKind.u64 (bits BinOp.andNot IntKind.u64 (f : Int) 9223372036854775808) (bits BinOp.and IntKind.u64 (s : Int) 9223372036854775808)).toNat
set_option maxRecDepth 100000 in
theorem copysign_calls (f s : Nat) (w : World) : Calls Try.prog 22 #[.float .f64 f, .float .f64 s] w fun e w' => e = .returned (.float .f64 (copyI f s)) ∧ Drawn0 w w' := by
  have hd := run_bits f
  have hd2 := run_bits s
  have hd3 := run_frombits (bits BinOp.or IntKind.u64 (bits BinOp.andNot IntKind.u64 (f : Int) 9223372036854775808) (bits BinOp.and IntKind.u64 (s : Int) 9223372036854775808))
  go_enter Try.func22, Try.ntmps22
  go_wp2
  go_ret
  exact ⟨rfl, Drawn0.refl _⟩
/-- what a mean may be: the quotient's bits, or any NaN's -/
def MeanIs (n s : Int) (r : Nat) : Prop := (∀ q, floatBits .quo .f64 (floatOfInt .f64 s) (floatOfInt .f64 n) = some q → r = q) ∧ (floatBits .quo .f64 (floatOfInt .f64 s) (floatOfInt .f64 n) = none → nan r = true ∧ r < 2 ^ 64)
def nanOf (x y : Nat) (w : World) : Nat := (Question.nanBits .f64 x y).cut (w.tape w.drawn (.nanBits .f64 x y))
theorem run_nan (t : TypeId) (x y : Nat) (h : floatBits .quo .f64 x y = none) (w : World) : (binOp .quo t (.float .f64 x) (.float .f64 y)).run Try.prog w = .ok (.float .f64 (nanOf x y w)) w.drew := by
  have h' : FloatKind.f64.format.div x y = none := h
  simp [binOp, Op.floatArith, h', nanOf, Question.forced]
theorem nan_form (t : Nat) : nan (t % 2 * 2 ^ 63 + 9218868437227405312 + 1 + t / 2 % (2 ^ 52 - 1)) = true ∧ t % 2 * 2 ^ 63 + 9218868437227405312 + 1 + t / 2 % (2 ^ 52 - 1) < 2 ^ 64 := by
  unfold nan
  rw [decide_eq_true_eq]
  have h1 : t / 2 % (2 ^ 52 - 1) < 2 ^ 52 - 1 := Nat.mod_lt _ (by decide)
  generalize t / 2 % (2 ^ 52 - 1) = u at *
  have h2 : t % 2 = 0 ∨ t % 2 = 1 := by omega
  rcases h2 with h2 | h2 <;> rw [h2] <;> omega
theorem nanOf_nan (x y : Nat) (w : World) : nan (nanOf x y w) = true ∧ nanOf x y w < 2 ^ 64 := nan_form (w.tape w.drawn (.nanBits .f64 x y))
set_option maxRecDepth 100000 in
theorem mean_calls (n s a b : Int) (w : World) : Calls Try.prog 13 #[.agg #[.int .i64 n, .int .i64 s, .int .i64 a, .int .i64 b]] w fun e w' => (∃ r, e = .returned (.float .f64 r) ∧ MeanIs n s r) ∧ Below w.heap.size w w' := by
  cases hq : floatBits .quo .f64 (floatOfInt .f64 s) (floatOfInt .f64 n) with
  | some q =>
    have hd := fun w => run_float_arith (P := Try.prog) w .quo 26 .f64 (floatOfInt .f64 s) (floatOfInt .f64 n) q hq
    go_enter Try.func13, Try.ntmps13
    go_wp2
    go_ret
    exact ⟨⟨q, rfl, fun q' h => by rw [hq] at h; exact Option.some.inj h, fun h => by rw [hq] at h; cases h⟩, by repeat (first | exact Below.refl _ _ | apply below_alloc)⟩
  | none =>
    have hd := fun w => run_nan 26 (floatOfInt .f64 s) (floatOfInt .f64 n) hq w
    go_enter Try.func13, Try.ntmps13
    go_wp2
    go_ret
    exact ⟨⟨_, rfl, fun q' h => (by rw [hq] at h; cases h), fun _ => nanOf_nan _ _ _⟩, by repeat (first | exact Below.refl _ _ | apply below_alloc | apply below_drew1)⟩
set_option maxRecDepth 100000 in
theorem refmean_calls (n s a b : Int) (w : World) : Calls Try.prog 17 #[.agg #[.int .i64 n, .int .i64 s, .int .i64 a, .int .i64 b]] w fun e w' => (∃ r, e = .returned (.float .f64 r) ∧ MeanIs n s r) ∧ Below w.heap.size w w' := by
  cases hq : floatBits .quo .f64 (floatOfInt .f64 s) (floatOfInt .f64 n) with
  | some q =>
    have hd := fun w => run_float_arith (P := Try.prog) w .quo 26 .f64 (floatOfInt .f64 s) (floatOfInt .f64 n) q hq
    go_enter Try.func17, Try.ntmps17
    go_wp2
    go_ret
    exact ⟨⟨q, rfl, fun q' h => by rw [hq] at h; exact Option.some.inj h, fun h => by rw [hq] at h; cases h⟩, by repeat (first | exact Below.refl _ _ | apply below_alloc)⟩
  | none =>
    have hd := fun w => run_nan 26 (floatOfInt .f64 s) (floatOfInt .f64 n) hq w
    go_enter Try.func17, Try.ntmps17
    go_wp2
    go_ret
    exact ⟨⟨_, rfl, fun q' h => (by rw [hq] at h; cases h), fun _ => nanOf_nan _ _ _⟩, by repeat (first | exact Below.refl _ _ | apply below_alloc | apply below_drew1)⟩
def refI (a b : Nat) : Int := if nanB a = true then (if nanB b = true then 0 else -1) else if nanB b = true then 1 else if (FloatKind.f64.format.order a b == some .lt) = true then -1 else if (FloatKind.f64.format.order a b == some .gt) = true then 1 else
  if (FloatKind.f64.format.order a 0 == some .eq) = true ∧ (signB a != signB b) = true then (if signB a = true then -1 else 1) else 0
set_option maxRecDepth 100000 in
theorem refcmp_calls (a b : Nat) (w : World) : Calls Try.prog 23 #[.float .f64 a, .float .f64 b] w fun e w' => e = .returned (.int .i64 (refI a b)) ∧ Drawn0 w w' := by
  go_enter Try.func23, Try.ntmps23
  go_wp2_with (first | (go_at_call 18; refine (isnan_calls _ _).mono ?_; rintro e w' ⟨rfl, ⟨nd, rfl⟩⟩) | (go_at_call 29; refine (signbit_calls _ _).mono ?_; rintro e w' ⟨rfl, ⟨nd2, rfl⟩⟩))
  all_goals go_ret
  all_goals refine ⟨?_, _, rfl⟩
  all_goals simp_all [refI]
theorem and_top (b : Nat) (h : b < 2 ^ 64) : b &&& 2 ^ 63 = if 2 ^ 63 ≤ b then 2 ^ 63 else 0 := by
  apply Nat.eq_of_testBit_eq
  intro i
  have e : b.testBit 63 = decide (2 ^ 63 ≤ b) := by
    rw [Nat.testBit_eq_decide_div_mod_eq, decide_eq_decide]; omega
  rw [Nat.testBit_and, Nat.testBit_two_pow]
  by_cases c : 63 = i
  · subst c
    rw [e]
    by_cases d : 2 ^ 63 ≤ b
    · rw [if_pos d, Nat.testBit_two_pow]; simp [d]
    · rw [if_neg d]; simp [d]
  · by_cases d : 2 ^ 63 ≤ b
    · rw [if_pos d, Nat.testBit_two_pow]; simp [c]
    · rw [if_neg d]; simp [c]
theorem or_top (b : Nat) (h : b < 2 ^ 63) : b ||| 2 ^ 63 = b + 2 ^ 63 := by
  have := Nat.two_pow_add_eq_or_of_lt h 1
  rw [Nat.mul_one, Nat.or_comm] at this
  omega
theorem xor_all (b : Nat) (h : b < 2 ^ 64) : (2 ^ 64 - 1) ^^^ b = 2 ^ 64 - 1 - b := by
  apply Nat.eq_of_testBit_eq
  intro i
  have e : 2 ^ 64 - 1 - b = 2 ^ 64 - (b + 1) := by omega
  rw [Nat.testBit_xor, Nat.testBit_two_pow_sub_one, e, Nat.testBit_two_pow_sub_succ h]
  by_cases c : i < 64
  · simp [c]
  · have : b.testBit i = false := Nat.testBit_lt_two_pow (Nat.lt_of_lt_of_le h (Nat.pow_le_pow_right (by omega) (by omega)))
    simp [c, this]
theorem nanB_eq (b : Nat) (h : b < 2 ^ 64) : nanB b = nan b := by
  unfold nanB
  show (Ieee.double.order b b != some .eq) = nan b
  cases c : nan b with
  | true =>
    obtain ⟨s, t, e⟩ := read_nan c
    unfold Ieee.Format.order
    rw [e]; rfl
  | false =>
    rw [order_hi h h c c]
    have : compare (hi b) (hi b) = .eq := by simp
    rw [this]; simp
theorem highI_eq (b : Nat) (h : b < 2 ^ 64) : highI b = (hi b : Int) := by
  unfold highI hi
  rw [nanB_eq b h]
  cases nan b with
  | true => simp
  | false =>
    simp only [Bool.false_eq_true, if_false]
    have e1 := bits_and_u64_nat b (2 ^ 63) h (by omega)
    rw [and_top b h] at e1
    have e2 := bits_or_u64_nat b (2 ^ 63) h (by omega)
    have e3 := bits_xor_u64_nat (2 ^ 64 - 1) b (by omega) h
    rw [xor_all b h] at e3
    have m : IntKind.u64.max = ((2 ^ 64 - 1 : Nat) : Int) := by decide
    have c63 : (9223372036854775808 : Int) = ((2 ^ 63 : Nat) : Int) := by decide
    rw [c63, e1, m, e3]
    by_cases c : 2 ^ 63 ≤ b
    · rw [if_pos c, if_pos c, if_pos (by decide)]
    · rw [if_neg c, if_neg c, if_neg (by decide), e2, or_top b (by omega)]
theorem signB_eq (b : Nat) (h : b < 2 ^ 64) : signB b = decide (2 ^ 63 ≤ b) := by
  unfold signB
  rw [decide_eq_decide]
  unfold wrap64; omega
theorem frombits_nat {a : Int} (h0 : 0 ≤ a) (h : a < 18446744073709551616) : a.toNat < 2 ^ 64 := by omega
/-- the order, by places -/
theorem cmp_hi (a b : Nat) (ha : a < 2 ^ 64) (hb : b < 2 ^ 64) : cmpI (highI a) (highI b) = if hi a < hi b then -1 else if hi a > hi b then 1 else 0 := by
  rw [highI_eq a ha, highI_eq b hb]
  unfold cmpI
  by_cases c1 : hi a < hi b
  · rw [if_pos c1, if_pos (by omega)]
  · rw [if_neg c1, if_neg (by omega)]
    by_cases c2 : hi a > hi b
    · rw [if_pos c2, if_pos (by omega)]
    · rw [if_neg c2, if_neg (by omega)]
theorem hi_pos {b : Nat} (h : b < 2 ^ 64) (c : nan b = false) : 0 < hi b := by
  unfold hi
  rw [c, if_neg (by simp)]
  have := of_decide_eq_false c
  split <;> omega
theorem refI_eq (a b : Nat) (ha : a < 2 ^ 64) (hb : b < 2 ^ 64) : refI a b = cmpI (highI a) (highI b) := by
  rw [cmp_hi a b ha hb]
  unfold refI
  rw [nanB_eq a ha, nanB_eq b hb, signB_eq a ha, signB_eq b hb]
  show (if nan a = true then _ else if nan b = true then _ else if (Ieee.double.order a b == some .lt) = true then _ else if (Ieee.double.order a b == some .gt) = true then _ else if (Ieee.double.order a 0 == some .eq) = true ∧ _ then _ else _) = _
  cases ca : nan a with
  | true =>
    rw [if_pos rfl]
    have za : hi a = 0 := by unfold hi; rw [ca]; rfl
    cases cb : nan b with
    | true =>
      have zb : hi b = 0 := by unfold hi; rw [cb]; rfl
      rw [if_pos rfl, za, zb]; simp
    | false =>
      have := hi_pos hb cb
      rw [if_neg (by simp), if_pos (by omega)]
  | false =>
    have pa := hi_pos ha ca
    rw [if_neg (by simp)]
    cases cb : nan b with
    | true =>
      have zb : hi b = 0 := by unfold hi; rw [cb]; rfl
      rw [if_pos rfl, if_neg (by omega), if_pos (by omega)]
    | false =>
      have e1 := order_hi ha hb ca cb
      have e0 := order_hi ha (show 0 < 2 ^ 64 by decide) ca (show nan 0 = false by decide)
      have z0 : zero 0 = true := by decide
      have h0 : hi 0 = 2 ^ 63 := by decide
      rw [z0, Bool.and_true, h0] at e0
      simp only [e1, e0, Bool.false_eq_true, if_false]
      clear e1 e0
      by_cases cz : (zero a && zero b) = true
      · rw [if_pos cz]
        obtain ⟨y1, y2⟩ := Bool.and_eq_true_iff.1 cz
        have a2 : a = 0 ∨ a = 2 ^ 63 := by simpa [zero] using y1
        have b2 : b = 0 ∨ b = 2 ^ 63 := by simpa [zero] using y2
        rcases a2 with rfl | rfl <;> rcases b2 with rfl | rfl <;> decide
      · rw [if_neg cz]
        have N : ∀ x y : Nat, compare x y = if x < y then .lt else if x = y then .eq else .gt := fun x y => rfl
        rw [N (hi a) (hi b)]
        by_cases c1 : hi a < hi b
        · rw [if_pos c1, if_pos c1]; simp
        · rw [if_neg c1, if_neg c1]
          by_cases c2 : hi a = hi b
          · have : a = b := by
              have na := of_decide_eq_false ca
              have nb := of_decide_eq_false cb
              unfold hi at c2
              rw [ca, cb] at c2
              simp only [Bool.false_eq_true, if_false] at c2
              split at c2 <;> split at c2 <;> omega
            subst this
            simp
          · have c3 : hi b < hi a := by omega
            rw [if_neg c2, if_pos (show hi a > hi b from c3)]; simp
end Go.Proofs.Ytmgocfcbkejgdaa.RankBase
