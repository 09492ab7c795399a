/- What is proved here: for any two lists of whole numbers Cmp is the reference's Cmp, the other way round it is the other way round, and it is nought just for like lists (conditions: none beyond the statement's own). -/
import Derived.Test.YtefpmpmkodogeaaPDimsComparesx3
namespace Go.Proofs.Ytefpmpmkodogeaa.Pure
open Go.RowKit Go.Proofs.Ytefpmpmkodogeaa.PDimsCompares Go.Proofs.YtefpmpmkodogeaaW.PrintWords Go.Proofs.YtefpmpmkodogeaaW.PrintLast Go.Proofs.YtefpmpmkodogeaaW.PrintMore
set_option maxRecDepth 4000
set_option linter.unusedVariables false

def goodDiv : Int → List Int → Bool
  | _, [] => true
  | last, x :: xs => decide (last < x) && (decide (x ≤ 10000) && (decide (Int.tmod x last = 0) && goodDiv x xs))
def good (s : Int) (d : List Int) : Bool := decide (1 ≤ s) && (decide (s ≤ 10000) && (decide (d.length ≤ 4) && goodDiv 1 d))
theorem rd_drop (l : List Int) (i : Nat) (h : i < l.length) : l.drop i = rd l i :: l.drop (i + 1) := by
  rw [List.drop_eq_getElem_cons h]
  unfold rd
  simp [List.getD, h]
theorem wrap_succ (i : Nat) (h : i < 9223372036854775807) : wrap64 ((i : Int) + 1) = ((i + 1 : Nat) : Int) := by unfold wrap64; omega
theorem right_l0 (l : List Int) (hl : l.length ≤ 9223372036854775807) (n : Nat) : ∀ (k i : Nat) (last : Int), 1 ≤ last → i + n = l.length → n < k → dims_right.l0 k last l (l.length : Int) i = some (goodDiv last (l.drop i)) := by
  induction n with
  | zero =>
    intro k i last h1 h hk
    obtain ⟨k, rfl⟩ : ∃ m, k = m + 1 := ⟨k - 1, by omega⟩
    simp only [dims_right.l0]
    rw [if_neg (by omega), List.drop_of_length_le (by omega)]
    rfl
  | succ n ih =>
    intro k i last h1 h hk
    obtain ⟨k, rfl⟩ : ∃ m, k = m + 1 := ⟨k - 1, by omega⟩
    simp only [dims_right.l0]
    rw [if_pos (by omega), if_pos (by omega), if_pos (by omega), rd_drop l i (by omega)]
    simp only [goodDiv]
    by_cases c1 : rd l i ≤ last
    · rw [if_pos c1]; have : ¬ last < rd l i := by omega
      simp [this]
    · rw [if_neg c1]
      have e1 : last < rd l i := by omega
      by_cases c2 : rd l i > 10000
      · rw [if_pos c2]; have : ¬ rd l i ≤ 10000 := by omega
        simp [this]
      · rw [if_neg c2]
        have e2 : rd l i ≤ 10000 := by omega
        rw [if_neg (by omega)]
        by_cases c3 : Int.tmod (rd l i) last = 0
        · rw [if_pos c3, wrap_succ i (by omega), ih k (i + 1) _ (by omega) (by omega) (by omega)]
          simp [e1, e2, c3]
        · rw [if_neg c3]; simp [c3]
theorem right_f (s : Int) (d : List Int) (hl : d.length ≤ 9223372036854775807) (k : Nat) (hk : d.length + 2 ≤ k) : dims_right.f k s d = some (good s d) := by
  obtain ⟨k, rfl⟩ : ∃ m, k = m + 1 := ⟨k - 1, by omega⟩
  unfold dims_right.f good
  by_cases c1 : s < 1
  · rw [if_pos c1]; simp only [dims_right.j0]; rw [if_pos trivial]; have : ¬ 1 ≤ s := by omega
    simp [this]
  · rw [if_neg c1]
    have e1 : 1 ≤ s := by omega
    by_cases c2 : s > 10000
    · rw [if_pos c2]; simp only [dims_right.j0]; rw [if_pos trivial]; have : ¬ s ≤ 10000 := by omega
      simp [this]
    · rw [if_neg c2]
      have e2 : s ≤ 10000 := by omega
      simp only [dims_right.j0]
      by_cases c3 : (d.length : Int) > 4
      · rw [if_pos (by simpa using c3)]; have : ¬ d.length ≤ 4 := by omega
        simp [this]
      · rw [if_neg (by simpa using c3)]
        have := right_l0 d hl d.length k 0 1 (by omega) (by omega) (by omega)
        simp only [Int.natCast_zero, List.drop_zero] at this
        rw [this]
        have e3 : d.length ≤ 4 := by omega
        simp [e1, e2, e3]
theorem known_f (k : Nat) (hk : 60 ≤ k) : stratumlaw03_known.f k = some true := at_rounds (fun k => stratumlaw03_known.mono k) hk (show stratumlaw03_known.f 60 = some true by kernel_rfl)
theorem same_l0 (a b : List Int) (hl : a.length ≤ 9223372036854775807) (hab : a.length = b.length) (n : Nat) : ∀ (k i : Nat), i + n = a.length → n < k → stratumlaw03_same.l0 k a b i = some (decide (a.drop i = b.drop i)) := by
  induction n with
  | zero =>
    intro k i h hk
    obtain ⟨k, rfl⟩ : ∃ q, k = q + 1 := ⟨k - 1, by omega⟩
    simp only [stratumlaw03_same.l0]
    rw [if_neg (by omega), List.drop_of_length_le (by omega), List.drop_of_length_le (by omega)]
    simp
  | succ n ih =>
    intro k i h hk
    obtain ⟨k, rfl⟩ : ∃ q, k = q + 1 := ⟨k - 1, by omega⟩
    simp only [stratumlaw03_same.l0]
    rw [if_pos (by omega), if_pos (by omega), if_pos (by omega), rd_drop a i (by omega), rd_drop b i (by omega)]
    by_cases c : rd a i = rd b i
    · rw [if_pos c, wrap_succ i (by omega), ih k (i + 1) (by omega) (by omega), c]
      simp
    · rw [if_neg c]; simp [c]
theorem same_f (a b : List Int) (hl : a.length ≤ 9223372036854775807) (k : Nat) (hk : a.length < k) : stratumlaw03_same.f k a b = some (decide (a = b)) := by
  unfold stratumlaw03_same.f
  by_cases c : (a.length : Int) = (b.length : Int)
  · have := same_l0 a b hl (by omega) a.length k 0 (by omega) (by omega)
    rw [show ((0 : Nat) : Int) = 0 from rfl, List.drop_zero, List.drop_zero] at this
    rw [if_pos c, this]
  · rw [if_neg c]
    have : ¬ a = b := fun h => c (by rw [h])
    simp [this]
def cmpS : List Int → List Int → Int
  | [], [] => 0
  | [], _ :: _ => -1
  | _ :: _, [] => 1
  | x :: xs, y :: ys => if x < y then -1 else if x > y then 1 else cmpS xs ys
theorem cmpS_range (a : List Int) : ∀ b, cmpS a b = 0 ∨ cmpS a b = 1 ∨ cmpS a b = -1 := by
  induction a with
  | nil => intro b; cases b <;> simp [cmpS]
  | cons x xs ih =>
    intro b
    cases b with
    | nil => simp [cmpS]
    | cons y ys =>
      simp only [cmpS]
      split
      · simp
      · split
        · simp
        · exact ih ys
theorem cmpS_turn (a : List Int) : ∀ b, cmpS b a = - cmpS a b := by
  induction a with
  | nil => intro b; cases b <;> simp [cmpS]
  | cons x xs ih =>
    intro b
    cases b with
    | nil => simp [cmpS]
    | cons y ys =>
      simp only [cmpS]
      by_cases c1 : x < y
      · rw [if_pos c1, if_neg (by omega), if_pos c1]; rfl
      · by_cases c2 : x > y
        · rw [if_pos (show y < x from c2), if_neg c1, if_pos c2]
        · rw [if_neg (show ¬ y < x from c2), if_neg (show ¬ y > x from c1), if_neg c1, if_neg c2]; exact ih ys
theorem cmpS_zero (a : List Int) : ∀ b, cmpS a b = 0 ↔ a = b := by
  induction a with
  | nil => intro b; cases b <;> simp [cmpS]
  | cons x xs ih =>
    intro b
    cases b with
    | nil => simp [cmpS]
    | cons y ys =>
      simp only [cmpS]
      by_cases c1 : x < y
      · rw [if_pos c1]
        exact ⟨fun h => by omega, fun h => by injection h; omega⟩
      · rw [if_neg c1]
        by_cases c2 : x > y
        · rw [if_pos c2]
          exact ⟨fun h => by omega, fun h => by injection h; omega⟩
        · rw [if_neg c2, ih ys]
          have : x = y := by omega
          subst this
          simp
theorem cmpS_short (a b : List Int) (i : Nat) (h : i = a.length ∨ i = b.length) (h1 : i ≤ a.length) (h2 : i ≤ b.length) : cmpS (a.drop i) (b.drop i) = if a.length < b.length then -1 else if a.length > b.length then 1 else 0 := by
  rcases h with rfl | rfl
  · rw [List.drop_of_length_le (Nat.le_refl _)]
    by_cases c : a.length < b.length
    · rw [if_pos c, rd_drop b a.length c]; rfl
    · rw [if_neg c, if_neg (by omega), List.drop_of_length_le (by omega)]; rfl
  · rw [List.drop_of_length_le (Nat.le_refl b.length)]
    by_cases c : b.length < a.length
    · rw [if_neg (by omega), if_pos c, rd_drop a b.length c]; rfl
    · rw [if_neg (by omega), if_neg (by omega), List.drop_of_length_le (by omega)]; rfl
theorem compare_f (x y : Int) : cmp_Compare_int.f x y = some (if x < y then -1 else if x > y then 1 else 0) := by
  have e : ∀ z : Int, cmp_isNaN_int.f z = some false := by intro z; unfold cmp_isNaN_int.f; simp
  unfold cmp_Compare_int.f
  rw [e, Option.bind_some, e, Option.bind_some, if_neg (by simp), if_neg (by simp)]
  split
  · rfl
  · split <;> rfl
theorem first_l0 (a b : List Int) (m : Nat) (hm : m = min a.length b.length) (hl : a.length ≤ 9223372036854775807) (n : Nat) : ∀ (k i : Nat), i + n = m → n < k → dims_first_int.l0 k a b m i = some (cmpS (a.drop i) (b.drop i)) := by
  induction n with
  | zero =>
    intro k i h hk
    obtain ⟨k, rfl⟩ : ∃ q, k = q + 1 := ⟨k - 1, by omega⟩
    simp only [dims_first_int.l0]
    rw [if_neg (by omega), compare_f, Option.bind_some, cmpS_short a b i (by omega) (by omega) (by omega)]
    congr 1
    by_cases c1 : a.length < b.length
    · rw [if_pos c1, if_pos (by omega)]
    · rw [if_neg c1, if_neg (by omega)]
      by_cases c2 : a.length > b.length
      · rw [if_pos c2, if_pos (by omega)]
      · rw [if_neg c2, if_neg (by omega)]
  | succ n ih =>
    intro k i h hk
    obtain ⟨k, rfl⟩ : ∃ q, k = q + 1 := ⟨k - 1, by omega⟩
    simp only [dims_first_int.l0]
    rw [if_pos (by omega), if_pos (by omega), if_pos (by omega), if_pos (by omega), compare_f, Option.bind_some, rd_drop a i (by omega), rd_drop b i (by omega)]
    simp only [cmpS]
    by_cases c1 : rd a i < rd b i
    · rw [if_pos c1, if_pos c1, if_neg (by decide)]
    · rw [if_neg c1, if_neg c1]
      by_cases c2 : rd a i > rd b i
      · rw [if_pos c2, if_pos c2, if_neg (by decide)]
      · rw [if_neg c2, if_neg c2, if_pos rfl, wrap_succ i (by omega)]
        exact ih k (i + 1) (by omega) (by omega)
theorem cmp_f (a b : List Int) (hl : a.length ≤ 9223372036854775807) (k : Nat) (hk : a.length < k) : dims_Cmp.f k a b = some (cmpS a b) := by
  unfold dims_Cmp.f dims_first_int.f
  by_cases c : (b.length : Int) < (a.length : Int)
  · have := first_l0 a b b.length (by omega) hl b.length k 0 (by omega) (by omega)
    rw [show ((0 : Nat) : Int) = 0 from rfl, List.drop_zero, List.drop_zero] at this
    rw [if_pos c, this]; rfl
  · have := first_l0 a b a.length (by omega) hl a.length k 0 (by omega) (by omega)
    rw [show ((0 : Nat) : Int) = 0 from rfl, List.drop_zero, List.drop_zero] at this
    rw [if_neg c, this]; rfl
theorem refcmp_end (a b : List Int) (k i : Nat) (h : i = min a.length b.length) : stratumref03_Cmp.j1 (k + 1) a b i false = some (cmpS (a.drop i) (b.drop i)) := by
  simp only [stratumref03_Cmp.j1]
  rw [if_neg (by simp), cmpS_short a b i (by omega) (by omega) (by omega)]
  by_cases c1 : a.length < b.length
  · rw [if_pos c1, if_pos (by omega)]
  · rw [if_neg c1, if_neg (by omega)]
    by_cases c2 : a.length > b.length
    · rw [if_pos c2, if_pos (by omega)]
    · rw [if_neg c2, if_neg (by omega)]
theorem refcmp_l0 (a b : List Int) (hl : a.length ≤ 9223372036854775807) (n : Nat) : ∀ (k i : Nat), i + n = min a.length b.length → 2 * n + 1 < k → stratumref03_Cmp.l0 k a b i = some (cmpS (a.drop i) (b.drop i)) := by
  induction n with
  | zero =>
    intro k i h hk
    obtain ⟨k, rfl⟩ : ∃ q, k = q + 1 + 1 := ⟨k - 2, by omega⟩
    rw [stratumref03_Cmp.l0]
    split
    · have : decide ((i : Int) < (b.length : Int)) = false := by rw [decide_eq_false_iff_not]; omega
      rw [this]; exact refcmp_end a b k i (by omega)
    · exact refcmp_end a b k i (by omega)
  | succ n ih =>
    intro k i h hk
    obtain ⟨k, rfl⟩ : ∃ q, k = q + 1 + 1 := ⟨k - 2, by omega⟩
    rw [stratumref03_Cmp.l0]
    have : decide ((i : Int) < (b.length : Int)) = true := by rw [decide_eq_true_eq]; omega
    rw [if_pos (by omega), this]
    simp only [stratumref03_Cmp.j1]
    rw [if_pos trivial, if_pos (by omega), if_pos (by omega), if_pos (by omega), rd_drop a i (by omega), rd_drop b i (by omega)]
    simp only [cmpS]
    by_cases c1 : rd a i < rd b i
    · rw [if_pos c1, if_pos c1]
    · rw [if_neg c1, if_neg c1]
      by_cases c2 : rd a i > rd b i
      · rw [if_pos c2, if_pos c2]
      · rw [if_neg c2, if_neg c2, wrap_succ i (by omega)]
        exact ih k (i + 1) (by omega) (by omega)
theorem refcmp_f (a b : List Int) (hl : a.length ≤ 9223372036854775807) (k : Nat) (hk : 2 * a.length + 1 < k) : stratumref03_Cmp.f k a b = some (cmpS a b) := by
  unfold stratumref03_Cmp.f
  have := refcmp_l0 a b hl (min a.length b.length) k 0 (by omega) (by omega)
  rw [show ((0 : Nat) : Int) = 0 from rfl, List.drop_zero, List.drop_zero] at this
  exact this
theorem law_j0 (a b : List Int) (ha : a.length ≤ 9223372036854775807) (hb : b.length ≤ 9223372036854775807) (k : Nat) (hk : 60 + 2 * a.length + 2 * b.length ≤ k) (t : Bool) : stratumlaw03_DimsCompares.j0 (k + 1) a b t = some true := by
  simp only [stratumlaw03_DimsCompares.j0]
  cases t with
  | true => rw [if_pos rfl, known_f _ (by omega)]; rfl
  | false =>
    rw [if_neg (by simp), cmp_f a b ha k (by omega), Option.bind_some, refcmp_f a b ha k (by omega), Option.bind_some, if_pos rfl, cmp_f b a hb k (by omega), Option.bind_some, Option.bind_some]
    have e : wrap64 (-cmpS a b) = - cmpS a b := by
      rcases cmpS_range a b with h | h | h <;> rw [h] <;> simp [wrap64]
    rw [e, if_pos (cmpS_turn a b), Option.bind_some, same_f a b ha k (by omega), Option.bind_some]
    congr 1
    have := cmpS_zero a b
    by_cases c : a = b
    · rw [this.2 c]; simp [c]
    · have : ¬ cmpS a b = 0 := fun h => c (this.1 h)
      simp [c, this]
theorem pure (a b : List Int) (ha : a.length ≤ 9223372036854775807) (hb : b.length ≤ 9223372036854775807) : ∃ k, stratumlaw03_DimsCompares.f k a b = some true := by
  refine ⟨60 + 2 * a.length + 2 * b.length + 1, ?_⟩
  unfold stratumlaw03_DimsCompares.f
  split
  · exact law_j0 a b ha hb _ (by omega) _
  · split
    · exact law_j0 a b ha hb _ (by omega) _
    · rw [known_f _ (by omega), Option.bind_some]
      exact law_j0 a b ha hb _ (by omega) _
theorem DimsCompares : stratumlaw03_DimsCompares.Pure := by
  intro a b h1 _ _ h2 _ _
  exact pure a b (by unfold maxLen at h1; omega) (by unfold maxLen at h2; omega)

end Go.Proofs.Ytefpmpmkodogeaa.Pure
