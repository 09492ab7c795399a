/- What is proved here: the row of DimsSteps: for every input the law returns true and its arguments read as before; conditions: none. -/
import Derived.Test.YtefpmpmkodogeaaRows
import Derived.Test.YtefpmpmkodogeaaPDimsStepsx4
import Derived.WalkKit
import Derived.ProofKit
import Derived.OpenShut
import Derived.ShutString
import Derived.ChangeOld
import Derived.Below
import Derived.SizedLaws
import Derived.Deep.Slices
import Derived.Lib.SmallJoins
namespace Go.Proofs.Ytefpmpmkodogeaa.dimsSteps
open Go.ChangeShapes Go.WideShapes Go.ChangeAt Go.RowKit Go.Joins
open Go.Proofs.Ytefpmpmkodogeaa.PDimsSteps Go.Proofs.YtefpmpmkodogeaaW.PrintWords Go.Proofs.YtefpmpmkodogeaaW.PrintLast Go.Proofs.YtefpmpmkodogeaaW.PrintMore
set_option maxRecDepth 4000
set_option linter.unusedVariables false
def goodDiv : Int → List Int → Bool
  | _, [] => true
  | last, x :: xs => decide (last < x) && (decide (x ≤ 10000) && (decide (Int.tmod x last = 0) && goodDiv x xs))
def good (s : Int) (d : List Int) : Bool := decide (1 ≤ s) && (decide (s ≤ 10000) && (decide (d.length ≤ 4) && goodDiv 1 d))
theorem rd_drop (l : List Int) (i : Nat) (h : i < l.length) : l.drop i = rd l i :: l.drop (i + 1) := by
  rw [List.drop_eq_getElem_cons h]
  unfold rd
  simp [List.getD, h]
theorem wrap_succ (i : Nat) (h : i < 9223372036854775807) : wrap64 ((i : Int) + 1) = ((i + 1 : Nat) : Int) := by unfold wrap64; omega
theorem right_l0 (l : List Int) (hl : l.length ≤ 9223372036854775807) (n : Nat) : ∀ (k i : Nat) (last : Int), 1 ≤ last → i + n = l.length → n < k → dims_right.l0 k last l (l.length : Int) i = some (goodDiv last (l.drop i)) := by
  induction n with
  | zero =>
    intro k i last h1 h hk
    obtain ⟨k, rfl⟩ : ∃ m, k = m + 1 := ⟨k - 1, by omega⟩
    simp only [dims_right.l0]
    rw [if_neg (by omega), List.drop_of_length_le (by omega)]
    rfl
  | succ n ih =>
    intro k i last h1 h hk
    obtain ⟨k, rfl⟩ : ∃ m, k = m + 1 := ⟨k - 1, by omega⟩
    simp only [dims_right.l0]
    rw [if_pos (by omega), if_pos (by omega), if_pos (by omega), rd_drop l i (by omega)]
    simp only [goodDiv]
    by_cases c1 : rd l i ≤ last
    · rw [if_pos c1]; have : ¬ last < rd l i := by omega
      simp [this]
    · rw [if_neg c1]
      have e1 : last < rd l i := by omega
      by_cases c2 : rd l i > 10000
      · rw [if_pos c2]; have : ¬ rd l i ≤ 10000 := by omega
        simp [this]
      · rw [if_neg c2]
        have e2 : rd l i ≤ 10000 := by omega
        rw [if_neg (by omega)]
        by_cases c3 : Int.tmod (rd l i) last = 0
        · rw [if_pos c3, wrap_succ i (by omega), ih k (i + 1) _ (by omega) (by omega) (by omega)]
          simp [e1, e2, c3]
        · rw [if_neg c3]; simp [c3]
theorem right_f (s : Int) (d : List Int) (hl : d.length ≤ 9223372036854775807) (k : Nat) (hk : d.length + 2 ≤ k) : dims_right.f k s d = some (good s d) := by
  obtain ⟨k, rfl⟩ : ∃ m, k = m + 1 := ⟨k - 1, by omega⟩
  unfold dims_right.f good
  by_cases c1 : s < 1
  · rw [if_pos c1]; simp only [dims_right.j0]; rw [if_pos trivial]; have : ¬ 1 ≤ s := by omega
    simp [this]
  · rw [if_neg c1]
    have e1 : 1 ≤ s := by omega
    by_cases c2 : s > 10000
    · rw [if_pos c2]; simp only [dims_right.j0]; rw [if_pos trivial]; have : ¬ s ≤ 10000 := by omega
      simp [this]
    · rw [if_neg c2]
      have e2 : s ≤ 10000 := by omega
      simp only [dims_right.j0]
      by_cases c3 : (d.length : Int) > 4
      · rw [if_pos (by simpa using c3)]; have : ¬ d.length ≤ 4 := by omega
        simp [this]
      · rw [if_neg (by simpa using c3)]
        have := right_l0 d hl d.length k 0 1 (by omega) (by omega) (by omega)
        simp only [Int.natCast_zero, List.drop_zero] at this
        rw [this]
        have e3 : d.length ≤ 4 := by omega
        simp [e1, e2, e3]
theorem rd_zero (x : Int) (xs : List Int) : rd (x :: xs) 0 = x := rfl
theorem rd_succ (x : Int) (xs : List Int) (j : Nat) : rd (x :: xs) ((j + 1 : Nat) : Int) = rd xs j := by
  unfold rd
  have h1 : (((j + 1 : Nat) : Int)).toNat = j + 1 := by omega
  have h2 : ((j : Int)).toNat = j := by omega
  rw [h1, h2]
  simp [List.getD]
theorem tmod_dvd {x y : Int} (h : Int.tmod x y = 0) : y ∣ x := Int.dvd_of_tmod_eq_zero h
theorem goodDiv_spec (l : List Int) : ∀ (last : Int), 1 ≤ last → goodDiv last l = true → ∀ j : Nat, j < l.length → last < rd l j ∧ rd l j ≤ 10000 ∧ last ∣ rd l j ∧ ∀ i : Nat, i < j → rd l i < rd l j ∧ rd l i ∣ rd l j := by
  induction l with
  | nil => intro last _ _ j hj; simp at hj
  | cons x xs ih =>
    intro last h1 hg j hj
    simp only [goodDiv, Bool.and_eq_true, decide_eq_true_eq] at hg
    obtain ⟨g1, g2, g3, g4⟩ := hg
    have hd := tmod_dvd g3
    cases j with
    | zero => exact ⟨g1, g2, hd, fun i hi => absurd hi (Nat.not_lt_zero i)⟩
    | succ j =>
      rw [rd_succ]
      obtain ⟨s1, s2, s3, s4⟩ := ih x (by omega) g4 j (by simpa using hj)
      refine ⟨by omega, s2, Int.dvd_trans hd s3, fun i hi => ?_⟩
      cases i with
      | zero => exact ⟨s1, s3⟩
      | succ i => rw [rd_succ]; exact s4 i (by omega)
def atS (d : List Int) (i : Int) : Int := if i = 0 then 1 else rd d (i - 1)
theorem atS_succ (d : List Int) (i : Nat) : atS d ((i + 1 : Nat) : Int) = rd d i := by
  unfold atS
  rw [if_neg (by omega)]
  congr 1
  omega
theorem atS_spec (d : List Int) (hg : goodDiv 1 d = true) (i j : Nat) (hij : i ≤ j) (hj : j ≤ d.length) : 1 ≤ atS d i ∧ atS d i ≤ atS d j ∧ atS d j ≤ 10000 ∧ atS d i ∣ atS d j := by
  have hs := goodDiv_spec d 1 (Int.le_refl 1) hg
  have z : atS d ((0 : Nat) : Int) = 1 := rfl
  cases j with
  | zero =>
    obtain rfl : i = 0 := by omega
    rw [z]; exact ⟨Int.le_refl 1, Int.le_refl 1, by decide, Int.dvd_refl 1⟩
  | succ j =>
    obtain ⟨s1, s2, s3, s4⟩ := hs j (by omega)
    cases i with
    | zero => rw [z, atS_succ]; exact ⟨Int.le_refl 1, by omega, s2, s3⟩
    | succ i =>
      rw [atS_succ, atS_succ]
      by_cases e : i = j
      · subst e; exact ⟨by omega, Int.le_refl _, s2, Int.dvd_refl _⟩
      · obtain ⟨t1, t2⟩ := s4 i (by omega)
        have := (hs i (by omega)).1
        exact ⟨by omega, by omega, s2, t2⟩
theorem good_parts {s : Int} {d : List Int} (h : good s d = true) : 1 ≤ s ∧ s ≤ 10000 ∧ d.length ≤ 4 ∧ goodDiv 1 d = true := by
  simpa [good] using h
def upS (s : Int) (d : List Int) (a b v : Int) : Int :=
  if good s d = true ∧ 0 ≤ a ∧ a ≤ b ∧ b < (d.length : Int) + 2 ∧ 0 ≤ v then (if a = b then v else if b = (d.length : Int) + 1 then 0 else v / (atS d b / atS d a)) else -1
theorem wrap_small {x : Int} (h0 : 0 ≤ x) (h : x < 9223372036854775808) : wrap64 x = x := by unfold wrap64; omega
theorem div_small {v q : Int} (h0 : 0 ≤ v) (h : v < 9223372036854775808) (hq : 1 ≤ q) : Int.tdiv v q = v / q ∧ 0 ≤ v / q ∧ v / q < 9223372036854775808 := by
  have h1 : v / q ≤ v := Int.ediv_le_self q h0
  have h2 : 0 ≤ v / q := Int.ediv_nonneg h0 (by omega)
  exact ⟨Int.tdiv_eq_ediv_of_nonneg h0, h2, by omega⟩
theorem quot_pos {x y : Int} (hx : 1 ≤ x) (hxy : x ≤ y) (hy : y ≤ 10000) : Int.tdiv y x = y / x ∧ 1 ≤ y / x ∧ y / x ≤ 10000 := by
  have h1 : y / x ≤ y := Int.ediv_le_self x (by omega)
  have h2 : 1 ≤ y / x := by
    have := Int.ediv_le_ediv (show 0 < x by omega) hxy
    rwa [Int.ediv_self (by omega)] at this
  exact ⟨Int.tdiv_eq_ediv_of_nonneg (by omega), h2, by omega⟩
theorem by_f (s : Int) (d : List Int) (b : Nat) (hd : d.length ≤ 4) (hb : b ≤ d.length + 1) : dims_by.f s d b = some (if (b : Int) = (d.length : Int) + 1 then 0 else atS d b) := by
  unfold dims_by.f
  cases b with
  | zero => rw [if_pos (show ((0 : Nat) : Int) = 0 from rfl), if_neg (show ¬ ((0 : Nat) : Int) = (d.length : Int) + 1 by omega)]; rfl
  | succ b =>
    rw [if_neg (by omega)]
    by_cases c : ((b + 1 : Nat) : Int) > (d.length : Int)
    · rw [if_pos c, if_pos (by omega)]
    · have e : wrap64 (((b + 1 : Nat) : Int) - 1) = (b : Int) := by unfold wrap64; omega
      rw [if_neg c, e, if_pos (by omega), if_pos (by omega), if_neg (show ¬ ((b + 1 : Nat) : Int) = (d.length : Int) + 1 by omega), atS_succ]
theorem up_f (s : Int) (d : List Int) (a b v : Int) (hl : d.length ≤ 9223372036854775807) (hv : v < 9223372036854775808) (k : Nat) (hk : d.length + 2 ≤ k) : dims_Up.f k s d a b v = some (upS s d a b v) := by
  obtain ⟨k, rfl⟩ : ∃ m, k = m + 1 := ⟨k - 1, by omega⟩
  have no : dims_Up.j0 (k + 1) a b v true s d = some (-1) := by simp only [dims_Up.j0]; rw [if_pos trivial]
  unfold dims_Up.f upS
  rw [right_f s d hl (k + 1) hk, Option.bind_some]
  by_cases hg : good s d = true
  · obtain ⟨g1, g2, g3, g4⟩ := good_parts hg
    rw [if_pos hg]
    by_cases c1 : a < 0
    · rw [if_pos c1, no, if_neg (by omega)]
    rw [if_neg c1]
    by_cases c2 : b < a
    · rw [if_pos c2, no, if_neg (by omega)]
    rw [if_neg c2]
    have el : dims_Levels.f s d = some ((d.length : Int) + 2) := by
      unfold dims_Levels.f; rw [wrap_small (by omega) (by omega)]
    rw [el, Option.bind_some]
    by_cases c3 : b ≥ (d.length : Int) + 2
    · rw [if_pos c3, no, if_neg (by omega)]
    rw [if_neg c3]
    by_cases c4 : v < 0
    · have : decide (v < 0) = true := decide_eq_true c4
      rw [this, no, if_neg (by omega)]
    have c4' : decide (v < 0) = false := decide_eq_false c4
    rw [c4', if_pos ⟨hg, by omega, by omega, by omega, by omega⟩]
    simp only [dims_Up.j0]
    obtain ⟨bn, rfl⟩ := Int.eq_ofNat_of_zero_le (show 0 ≤ b by omega)
    obtain ⟨an, rfl⟩ := Int.eq_ofNat_of_zero_le (show 0 ≤ a by omega)
    rw [if_neg (by simp), by_f s d bn g3 (by omega), Option.bind_some]
    by_cases c5 : (an : Int) = bn
    · rw [if_pos c5, if_pos c5]
    rw [if_neg c5, if_neg c5]
    by_cases c6 : (bn : Int) = (d.length : Int) + 1
    · rw [if_pos c6, if_pos c6, if_pos rfl]
    obtain ⟨s1, s2, s3, s4⟩ := atS_spec d g4 an bn (by omega) (by omega)
    rw [if_neg c6, if_neg c6, if_neg (by omega), by_f s d an g3 (by omega), Option.bind_some, if_neg (show ¬ (an : Int) = (d.length : Int) + 1 by omega)]
    obtain ⟨q1, q2, q3⟩ := quot_pos s1 s2 s3
    obtain ⟨t1, t2, t3⟩ := div_small (show 0 ≤ v by omega) hv q2
    rw [if_neg (by omega), q1, wrap_small (x := atS d bn / atS d an) (by omega) (by omega), if_neg (by omega), t1, wrap_small t2 t3]
  · rw [if_neg hg, no, if_neg (fun h => hg h.1)]
def wfD (x : S28) : Prop := x.f1.length ≤ 9223372036854775807
theorem rdT_drop (l : List S28) (i : Nat) (h : i < l.length) : l.drop i = rd_T28 l i :: l.drop (i + 1) := by
  rw [List.drop_eq_getElem_cons h]
  unfold rd_T28
  simp [List.getD, h]
theorem rdT_mem (l : List S28) (i : Nat) (h : i < l.length) : rd_T28 l i ∈ l := by
  unfold rd_T28
  simp [List.getD, h]
def allGood (l : List S28) : Bool := l.all fun x => good x.f0 x.f1
/-- the longest inner list -/
def most (l : List S28) : Nat := l.foldr (fun x n => max x.f1.length n) 0
theorem most_mem (l : List S28) (x : S28) (h : x ∈ l) : x.f1.length ≤ most l := by
  induction l with
  | nil => cases h
  | cons y ys ih =>
    simp only [most, List.foldr_cons]
    rcases List.mem_cons.1 h with rfl | h
    · omega
    · have := ih h; unfold most at this; omega
theorem index_l0 (l : List S28) (hl : l.length ≤ 9223372036854775807) (hw : ∀ x ∈ l, wfD x) (n : Nat) : ∀ (k i : Nat), i + n = l.length → n + most l + 3 < k →
    (api_Dim_37.l0 k l (l.length : Int) i).bind (fun t => some (decide (t ≥ 0))) = some (!(allGood (l.drop i))) := by
  induction n with
  | zero =>
    intro k i h hk
    obtain ⟨k, rfl⟩ : ∃ m, k = m + 1 := ⟨k - 1, by omega⟩
    simp only [api_Dim_37.l0]
    rw [if_neg (by omega), List.drop_of_length_le (by omega)]
    rfl
  | succ n ih =>
    intro k i h hk
    obtain ⟨k, rfl⟩ : ∃ m, k = m + 1 := ⟨k - 1, by omega⟩
    have hm := rdT_mem l i (by omega)
    have hmost := most_mem l _ hm
    simp only [api_Dim_37.l0, dims_Sound_1.f]
    rw [if_pos (by omega), if_pos (by omega), if_pos (by omega), right_f _ _ (hw _ hm) k (by omega), Option.bind_some, Option.bind_some, rdT_drop l i (by omega)]
    simp only [allGood, List.all_cons]
    by_cases c : good (rd_T28 l i).f0 (rd_T28 l i).f1 = true
    · rw [c, if_neg (by simp), wrap_succ i (by omega), ih k (i + 1) (by omega) (by omega)]
      simp [allGood]
    · have c' : good (rd_T28 l i).f0 (rd_T28 l i).f1 = false := by simpa using c
      rw [c', if_pos (by simp)]
      simp
def soundS (l : List S28) : Bool := decide (1 ≤ l.length) && (decide (l.length ≤ 4) && allGood l)
theorem sound_f (l : List S28) (hl : l.length ≤ 9223372036854775807) (hw : ∀ x ∈ l, wfD x) (k : Nat) (hk : l.length + most l + 4 ≤ k) : dims_Sound.f k l = some (soundS l) := by
  unfold dims_Sound.f soundS
  by_cases c1 : (l.length : Int) > 0
  · rw [if_pos c1]
    have e1 : 1 ≤ l.length := by omega
    by_cases c2 : (l.length : Int) ≤ 4
    · rw [if_pos c2]
      have e2 : l.length ≤ 4 := by omega
      have := index_l0 l hl hw l.length k 0 (by omega) (by omega)
      rw [List.drop_zero] at this
      unfold api_Dim_29.f api_Dim_37.f
      rw [show ((0 : Nat) : Int) = 0 from rfl] at this
      rw [this]
      simp [e1, e2]
    · rw [if_neg c2]
      have e2 : ¬ l.length ≤ 4 := by omega
      simp [e2]
  · rw [if_neg c1]
    have e1 : ¬ 1 ≤ l.length := by omega
    simp [e1]
def divS : Int → List Int → List Int
  | _, [] => []
  | last, x :: xs => last * (2 + x % 4) :: divS (last * (2 + x % 4)) xs
def cutS (c : S25) : S28 := ⟨1 + c.f0 % 200, divS 1 (c.f1.take 4)⟩
def ofS (m : List S25) : List S28 := if m = [] then [⟨100, [10]⟩] else (m.take 4).map cutS
def wfC (c : S25) : Prop := 0 ≤ c.f0 ∧ c.f0 ≤ 65535 ∧ (∀ z ∈ c.f1, 0 ≤ z ∧ z ≤ 255) ∧ c.f1.length ≤ 9223372036854775807
def bnd : Nat → Int
  | 0 => 1
  | j + 1 => 5 * bnd j
theorem bnd_le (j : Nat) (h : j ≤ 4) : 1 ≤ bnd j ∧ bnd j ≤ 625 := by
  match j, h with
  | 0, _ => decide
  | 1, _ => decide
  | 2, _ => decide
  | 3, _ => decide
  | 4, _ => decide
theorem step_last {last x : Int} {j : Nat} (h1 : 1 ≤ last) (h2 : last ≤ bnd j) (hx : 0 ≤ x) : last < last * (2 + x % 4) ∧ last * (2 + x % 4) ≤ bnd (j + 1) := by
  have h3 : 0 ≤ x % 4 := Int.emod_nonneg _ (by omega)
  have h4 : x % 4 < 4 := Int.emod_lt_of_pos _ (by omega)
  generalize x % 4 = m at *
  have e : bnd (j + 1) = 5 * bnd j := rfl
  rw [e]
  have a1 : last * 2 ≤ last * (2 + m) := Int.mul_le_mul_of_nonneg_left (by omega) (by omega)
  have a2 : last * (2 + m) ≤ last * 5 := Int.mul_le_mul_of_nonneg_left (by omega) (by omega)
  constructor <;> omega
theorem rdC_mem (l : List S25) (i : Nat) (h : i < l.length) : rd_T25 l i ∈ l := by
  unfold rd_T25
  simp [List.getD, h]
theorem rdC_take (l : List S25) (i : Nat) (h : i < l.length) : l.take (i + 1) = l.take i ++ [rd_T25 l i] := by
  rw [List.take_succ_eq_append_getElem h]
  unfold rd_T25
  simp [List.getD, h]
theorem rd_mem' (l : List Int) (i : Nat) (h : i < l.length) : rd l i ∈ l := by
  unfold rd
  simp [List.getD, h]
theorem take_drop4 (l : List Int) (j : Nat) (h : j < l.length) (hj : j < 4) : (l.take 4).drop j = rd l j :: (l.take 4).drop (j + 1) := by
  have hl : j < (l.take 4).length := by rw [List.length_take]; omega
  rw [List.drop_eq_getElem_cons hl]
  congr 1
  rw [List.getElem_take]
  unfold rd
  simp [List.getD, h]
theorem of_l1 (m : List S25) (out : List S28) (i : Nat) (size : Int) (hi : i < m.length) (hc : wfC (rd_T25 m i)) (ho : out.length ≤ 4) (hi4 : i < 9223372036854775807) (r : List S28) (K0 : Nat) (n : Nat) :
    ∀ (j : Nat) (last : Int) (ds : List Int), j + n = 4 → ds.length ≤ j → 1 ≤ last → last ≤ bnd j →
    (∀ K, K0 ≤ K → stratumlaw03_Of.l0 K m (out ++ [⟨size, ds ++ divS last (((rd_T25 m i).f1.take 4).drop j)⟩]) ((i + 1 : Nat) : Int) = some r) →
    ∀ k, K0 + n + 2 ≤ k → stratumlaw03_Of.l1 k m out i last j size ds = some r := by
  induction n with
  | zero =>
    intro j last ds hj hds h1 h2 hK k hk
    obtain ⟨k, rfl⟩ : ∃ q, k = q + 1 := ⟨k - 1, by omega⟩
    simp only [stratumlaw03_Of.l1]
    rw [if_pos (by omega), if_pos (by omega)]
    have hd : ((rd_T25 m i).f1.take 4).drop j = [] := List.drop_of_length_le (by rw [List.length_take]; omega)
    have := hK k (by omega)
    rw [hd] at this
    simp only [divS, List.append_nil] at this
    rw [wrap_succ i hi4]
    split
    · rw [if_neg (by omega), if_pos (by omega)]; exact this
    · rw [if_pos (by omega)]; exact this
  | succ n ih =>
    intro j last ds hj hds h1 h2 hK k hk
    obtain ⟨k, rfl⟩ : ∃ q, k = q + 1 := ⟨k - 1, by omega⟩
    simp only [stratumlaw03_Of.l1]
    rw [if_pos (by omega), if_pos (by omega)]
    by_cases c : (j : Int) < ((rd_T25 m i).f1.length : Int)
    · have hj2 : j < (rd_T25 m i).f1.length := by omega
      rw [if_pos c, if_pos (by omega), if_pos (by omega), if_pos (by omega)]
      have hx := hc.2.2.1 _ (rd_mem' _ j hj2)
      have t1 : Int.tmod (rd (rd_T25 m i).f1 j) 4 = rd (rd_T25 m i).f1 j % 4 := Int.tmod_eq_emod_of_nonneg hx.1
      obtain ⟨s1, s2⟩ := step_last h1 h2 hx.1
      have hb := bnd_le (j + 1) (by omega)
      have g1 : 0 ≤ rd (rd_T25 m i).f1 j % 4 := Int.emod_nonneg _ (by omega)
      have g2 : rd (rd_T25 m i).f1 j % 4 < 4 := Int.emod_lt_of_pos _ (by omega)
      rw [t1, wrap_small g1 (by omega), wrap_small (x := 2 + rd (rd_T25 m i).f1 j % 4) (by omega) (by omega), wrap_small (x := last * (2 + rd (rd_T25 m i).f1 j % 4)) (by omega) (by omega), wrap_succ j (by omega)]
      refine ih (j + 1) _ _ (by omega) (by rw [List.length_append, List.length_singleton]; omega) (by omega) s2 (fun K hK0 => ?_) k (by omega)
      have := hK K hK0
      rw [take_drop4 _ j hj2 (by omega)] at this
      simp only [divS] at this
      rw [List.append_assoc]
      exact this
    · rw [if_neg c, if_pos (by omega), wrap_succ i hi4]
      have hd : ((rd_T25 m i).f1.take 4).drop j = [] := List.drop_of_length_le (by rw [List.length_take]; omega)
      have := hK k (by omega)
      rw [hd] at this
      simp only [divS, List.append_nil] at this
      exact this
theorem of_l0 (m : List S25) (hl : m.length ≤ 9223372036854775807) (hw : ∀ c ∈ m, wfC c) (n : Nat) : ∀ (k i : Nat), i + n = min m.length 4 → 10 * n + 5 ≤ k → stratumlaw03_Of.l0 k m ((m.take i).map cutS) i = some (ofS m) := by
  induction n with
  | zero =>
    intro k i h hk
    obtain ⟨k, rfl⟩ : ∃ q, k = q + 1 + 1 := ⟨k - 2, by omega⟩
    have fin : stratumlaw03_Of.j1 (k + 1) m ((m.take i).map cutS) i false = some (ofS m) := by
      simp only [stratumlaw03_Of.j1]
      rw [if_neg (by simp)]
      unfold ofS
      cases m with
      | nil =>
        rw [if_pos (by simp), if_pos (by simp), if_pos rfl]; simp
      | cons x xs =>
        rw [if_neg (by simp only [List.length_map, List.length_take, List.length_cons]; simp only [List.length_cons] at h; omega), if_neg (by simp)]
        have : (x :: xs).take i = (x :: xs).take 4 := by
          by_cases c : (x :: xs).length ≤ 4
          · rw [List.take_of_length_le (by omega), List.take_of_length_le c]
          · have : i = 4 := by omega
            rw [this]
        rw [this]
    rw [stratumlaw03_Of.l0]
    split
    · have : decide ((i : Int) < 4) = false := by rw [decide_eq_false_iff_not]; omega
      rw [this]; exact fin
    · exact fin
  | succ n ih =>
    intro k i h hk
    obtain ⟨k, rfl⟩ : ∃ q, k = q + 1 + 1 := ⟨k - 2, by omega⟩
    have hi : i < m.length := by omega
    have hc := hw _ (rdC_mem m i hi)
    rw [stratumlaw03_Of.l0]
    have : decide ((i : Int) < 4) = true := by rw [decide_eq_true_eq]; omega
    rw [if_pos (by omega), this]
    simp only [stratumlaw03_Of.j1]
    rw [if_pos trivial, if_pos (by omega), if_pos (by omega)]
    have t1 : Int.tmod (rd_T25 m i).f0 200 = (rd_T25 m i).f0 % 200 := Int.tmod_eq_emod_of_nonneg hc.1
    have g1 : 0 ≤ (rd_T25 m i).f0 % 200 := Int.emod_nonneg _ (by omega)
    have g2 : (rd_T25 m i).f0 % 200 < 200 := Int.emod_lt_of_pos _ (by omega)
    rw [t1, wrap_small g1 (by omega), wrap_small (x := 1 + (rd_T25 m i).f0 % 200) (by omega) (by omega)]
    refine of_l1 m _ i _ hi hc (by rw [List.length_map, List.length_take]; omega) (by omega) (ofS m) (10 * n + 5) 4 0 1 [] (by omega) (by simp) (Int.le_refl 1) (Int.le_refl 1) (fun K hK => ?_) k (by omega)
    have := ih K (i + 1) (by omega) (by omega)
    rw [rdC_take m i hi, List.map_append] at this
    exact this
theorem of_f (m : List S25) (hl : m.length ≤ 9223372036854775807) (hw : ∀ c ∈ m, wfC c) (k : Nat) (hk : 45 ≤ k) : stratumlaw03_Of.f k m = some (ofS m) := by
  unfold stratumlaw03_Of.f
  have := of_l0 m hl hw (min m.length 4) k 0 (by omega) (by omega)
  simpa using this
theorem goodDiv_divS (xs : List Int) : ∀ (j : Nat) (last : Int), j + xs.length ≤ 4 → 1 ≤ last → last ≤ bnd j → (∀ z ∈ xs, 0 ≤ z) → goodDiv last (divS last xs) = true := by
  induction xs with
  | nil => intro j last _ _ _ _; rfl
  | cons x xs ih =>
    intro j last hj h1 h2 hz
    simp only [List.length_cons] at hj
    obtain ⟨s1, s2⟩ := step_last h1 h2 (hz x (by simp))
    have hb := bnd_le (j + 1) (by omega)
    simp only [divS, goodDiv, Bool.and_eq_true, decide_eq_true_eq]
    exact ⟨s1, by omega, Int.mul_tmod_right _ _, ih (j + 1) _ (by omega) (by omega) s2 (fun z h => hz z (by simp [h]))⟩
theorem divS_length (xs : List Int) : ∀ last, (divS last xs).length = xs.length := by
  induction xs with
  | nil => intro _; rfl
  | cons x xs ih => intro last; simp [divS, ih]
theorem cut_good (c : S25) (hc : wfC c) : good (cutS c).f0 (cutS c).f1 = true ∧ (cutS c).f1.length ≤ 4 ∧ (cutS c).f0 ≤ 200 := by
  have g1 : 0 ≤ c.f0 % 200 := Int.emod_nonneg _ (by omega)
  have g2 : c.f0 % 200 < 200 := Int.emod_lt_of_pos _ (by omega)
  have hl : (divS 1 (c.f1.take 4)).length ≤ 4 := by rw [divS_length, List.length_take]; omega
  have hg := goodDiv_divS (c.f1.take 4) 0 1 (by rw [List.length_take]; omega) (Int.le_refl 1) (Int.le_refl 1) (fun z h => (hc.2.2.1 z (List.mem_of_mem_take h)).1)
  unfold cutS good
  simp only
  refine ⟨?_, hl, by omega⟩
  simp only [Bool.and_eq_true, decide_eq_true_eq]
  exact ⟨by omega, by omega, hl, hg⟩
theorem of_each (m : List S25) (hw : ∀ c ∈ m, wfC c) : ∀ x ∈ ofS m, good x.f0 x.f1 = true ∧ x.f1.length ≤ 4 ∧ x.f0 ≤ 200 := by
  intro x hx
  unfold ofS at hx
  split at hx
  · obtain rfl := List.mem_singleton.1 hx
    decide
  · obtain ⟨c, hc, rfl⟩ := List.mem_map.1 hx
    exact cut_good c (hw c (List.mem_of_mem_take hc))
theorem of_len (m : List S25) : 1 ≤ (ofS m).length ∧ (ofS m).length ≤ 4 := by
  unfold ofS
  split
  · simp
  · rename_i h
    have : m.length ≠ 0 := fun e => h (List.length_eq_zero_iff.1 e)
    rw [List.length_map, List.length_take]; omega
theorem of_sound (m : List S25) (hw : ∀ c ∈ m, wfC c) : soundS (ofS m) = true := by
  obtain ⟨h1, h2⟩ := of_len m
  unfold soundS allGood
  simp only [Bool.and_eq_true, decide_eq_true_eq, List.all_eq_true]
  exact ⟨h1, h2, fun x hx => (of_each m hw x hx).1⟩
theorem of_wfD (m : List S25) (hw : ∀ c ∈ m, wfC c) : ∀ x ∈ ofS m, wfD x := fun x hx => by
  have := (of_each m hw x hx).2.1
  unfold wfD; omega
theorem most_le (l : List S28) (n : Nat) (h : ∀ x ∈ l, x.f1.length ≤ n) : most l ≤ n := by
  induction l with
  | nil => exact Nat.zero_le _
  | cons y ys ih =>
    have h1 := ih (fun x hx => h x (by simp [hx]))
    have h2 := h y (by simp)
    simp only [most, List.foldr_cons]
    unfold most at h1
    omega
theorem of_most (m : List S25) (hw : ∀ c ∈ m, wfC c) : most (ofS m) ≤ 4 := most_le _ 4 (fun x hx => (of_each m hw x hx).2.1)
theorem known_f (k : Nat) (hk : 60 ≤ k) : stratumlaw03_known.f k = some true := at_rounds (fun k => stratumlaw03_known.mono k) hk (show stratumlaw03_known.f 60 = some true by kernel_rfl)
theorem same_l0 (a b : List Int) (hl : a.length ≤ 9223372036854775807) (hab : a.length = b.length) (n : Nat) : ∀ (k i : Nat), i + n = a.length → n < k → stratumlaw03_same.l0 k a b i = some (decide (a.drop i = b.drop i)) := by
  induction n with
  | zero =>
    intro k i h hk
    obtain ⟨k, rfl⟩ : ∃ q, k = q + 1 := ⟨k - 1, by omega⟩
    simp only [stratumlaw03_same.l0]
    rw [if_neg (by omega), List.drop_of_length_le (by omega), List.drop_of_length_le (by omega)]
    simp
  | succ n ih =>
    intro k i h hk
    obtain ⟨k, rfl⟩ : ∃ q, k = q + 1 := ⟨k - 1, by omega⟩
    simp only [stratumlaw03_same.l0]
    rw [if_pos (by omega), if_pos (by omega), if_pos (by omega), rd_drop a i (by omega), rd_drop b i (by omega)]
    by_cases c : rd a i = rd b i
    · rw [if_pos c, wrap_succ i (by omega), ih k (i + 1) (by omega) (by omega), c]
      simp
    · rw [if_neg c]; simp [c]
theorem same_f (a b : List Int) (hl : a.length ≤ 9223372036854775807) (k : Nat) (hk : a.length < k) : stratumlaw03_same.f k a b = some (decide (a = b)) := by
  unfold stratumlaw03_same.f
  by_cases c : (a.length : Int) = (b.length : Int)
  · have := same_l0 a b hl (by omega) a.length k 0 (by omega) (by omega)
    rw [show ((0 : Nat) : Int) = 0 from rfl, List.drop_zero, List.drop_zero] at this
    rw [if_pos c, this]
  · rw [if_neg c]
    have : ¬ a = b := fun h => c (by rw [h])
    simp [this]
def keyS : List S28 → List Int → List Int
  | [], _ => []
  | x :: xs, [] => 0 :: keyS xs []
  | x :: xs, z :: zs => z % x.f0 :: keyS xs zs
theorem keyS_length (l : List S28) : ∀ ks, (keyS l ks).length = l.length := by
  induction l with
  | nil => intro ks; simp [keyS]
  | cons x xs ih => intro ks; cases ks <;> simp [keyS, ih]
theorem key_l0 (l : List S28) (ks : List Int) (hl : l.length ≤ 4) (hs : ∀ x ∈ l, 1 ≤ x.f0) (hk : ∀ z ∈ ks, 0 ≤ z ∧ z ≤ 65535) (n : Nat) : ∀ (k i : Nat) (out : List Int), i + n = l.length → out.length = i → n < k →
    stratumlaw03_Key.l0 k l ks out i = some (out ++ keyS (l.drop i) (ks.drop i)) := by
  induction n with
  | zero =>
    intro k i out h ho hk'
    obtain ⟨k, rfl⟩ : ∃ q, k = q + 1 := ⟨k - 1, by omega⟩
    simp only [stratumlaw03_Key.l0]
    rw [if_neg (by omega), List.drop_of_length_le (show l.length ≤ i by omega)]
    simp [keyS]
  | succ n ih =>
    intro k i out h ho hk'
    obtain ⟨k, rfl⟩ : ∃ q, k = q + 1 := ⟨k - 1, by omega⟩
    have hi : i < l.length := by omega
    have h1 := hs _ (rdT_mem l i hi)
    simp only [stratumlaw03_Key.l0]
    rw [if_pos (by omega), rdT_drop l i hi]
    by_cases c : i < ks.length
    · have hz := hk _ (rd_mem' ks i c)
      have e1 : wrap64 (rd ks i) = rd ks i := wrap_small hz.1 (by omega)
      have e2 : Int.tmod (rd ks i) (rd_T28 l i).f0 = rd ks i % (rd_T28 l i).f0 := Int.tmod_eq_emod_of_nonneg hz.1
      rw [if_pos (by omega), if_pos (by omega), if_neg (by omega), if_pos (by omega), e1, e2, wrap_succ i (by omega), ih k (i + 1) _ (by omega) (by rw [List.length_append, List.length_singleton, ho]) (by omega), rd_drop ks i c]
      simp [keyS]
    · rw [if_neg (by omega), if_pos (by omega), if_neg (by omega), if_pos (by omega), wrap_succ i (by omega), ih k (i + 1) _ (by omega) (by rw [List.length_append, List.length_singleton, ho]) (by omega), List.drop_of_length_le (show ks.length ≤ i by omega), List.drop_of_length_le (show ks.length ≤ i + 1 by omega)]
      simp [keyS]
theorem key_f (l : List S28) (ks : List Int) (hl : l.length ≤ 4) (hs : ∀ x ∈ l, 1 ≤ x.f0) (hk : ∀ z ∈ ks, 0 ≤ z ∧ z ≤ 65535) (k : Nat) (h : 5 ≤ k) : stratumlaw03_Key.f k l ks = some (keyS l ks) := by
  unfold stratumlaw03_Key.f
  have := key_l0 l ks hl hs hk l.length k 0 [] (by omega) rfl (by omega)
  rw [show ((0 : Nat) : Int) = 0 from rfl] at this
  rw [this]; simp
def upsS : List S28 → List Int → List Int → List Int → List Int
  | x :: xs, a :: aa, b :: bs, v :: vs => upS x.f0 x.f1 a b v :: upsS xs aa bs vs
  | _, _, _, _ => []
def atL (l : List S28) (a b v : List Int) : List Int := if soundS l = true ∧ a.length = l.length ∧ b.length = l.length ∧ v.length = l.length then upsS l a b v else []
theorem sound_len {l : List S28} (h : soundS l = true) : 1 ≤ l.length ∧ l.length ≤ 4 ∧ allGood l = true := by
  unfold soundS at h
  simpa using h
theorem at_l0 (l : List S28) (a b v : List Int) (hl : l.length ≤ 4) (ha : a.length = l.length) (hb : b.length = l.length) (hv : v.length = l.length) (hw : ∀ x ∈ l, wfD x) (hvw : ∀ z ∈ v, z < 9223372036854775808) (n : Nat) :
    ∀ (k i : Nat) (out rest : List Int), i + n = l.length → out.length = i → rest.length = n → n + most l + 4 ≤ k → dims_At.l0 k a b v (out ++ rest) l (l.length : Int) i = some (out ++ upsS (l.drop i) (a.drop i) (b.drop i) (v.drop i)) := by
  induction n with
  | zero =>
    intro k i out rest h ho hr hk
    obtain ⟨k, rfl⟩ : ∃ q, k = q + 1 := ⟨k - 1, by omega⟩
    obtain rfl := List.length_eq_zero_iff.1 hr
    rw [dims_At.l0]
    rw [if_neg (by omega), List.drop_of_length_le (show l.length ≤ i by omega)]
    simp [upsS]
  | succ n ih =>
    intro k i out rest h ho hr hk
    obtain ⟨k, rfl⟩ : ∃ q, k = q + 1 := ⟨k - 1, by omega⟩
    have hm := rdT_mem l i (by omega)
    have h1 := most_mem l _ hm
    obtain ⟨y, ys, rfl⟩ : ∃ y ys, rest = y :: ys := by
      cases rest with
      | nil => simp at hr
      | cons y ys => exact ⟨y, ys, rfl⟩
    rw [dims_At.l0]
    rw [if_pos (by omega), if_pos (by omega), if_pos (by omega), if_pos (by omega), if_pos (by omega), if_pos (by omega), up_f _ _ _ _ _ (hw _ hm) (hvw _ (rd_mem' v i (by omega))) k (by omega), Option.bind_some,
      if_pos (by rw [List.length_append, List.length_cons]; omega), wrap_succ i (by omega), Int.toNat_natCast]
    have e : (out ++ y :: ys).set i (upS (rd_T28 l i).f0 (rd_T28 l i).f1 (rd a i) (rd b i) (rd v i)) = (out ++ [upS (rd_T28 l i).f0 (rd_T28 l i).f1 (rd a i) (rd b i) (rd v i)]) ++ ys := by
      subst ho
      simp
    rw [e, ih k (i + 1) _ ys (by omega) (by rw [List.length_append, List.length_singleton, ho]) (by simpa using hr) (by omega), rdT_drop l i (by omega), rd_drop a i (by omega), rd_drop b i (by omega), rd_drop v i (by omega)]
    simp [upsS]
theorem at_no (l : List S28) (a b v : List Int) (k : Nat) : dims_At.j0 (k + 1) l a b v true = some [] := by
  rw [dims_At.j0]; rw [if_pos rfl]
theorem at_f (l : List S28) (a b v : List Int) (hl : l.length ≤ 9223372036854775807) (hw : ∀ x ∈ l, wfD x) (hvw : ∀ z ∈ v, z < 9223372036854775808) (k : Nat) (hk : l.length + most l + 20 ≤ k) : dims_At.f k l a b v = some (atL l a b v) := by
  obtain ⟨k, rfl⟩ : ∃ q, k = q + 1 := ⟨k - 1, by omega⟩
  unfold dims_At.f atL
  rw [sound_f l hl hw (k + 1) (by omega), Option.bind_some]
  by_cases c0 : soundS l = true
  · rw [if_pos c0]
    obtain ⟨l1, l2, l3⟩ := sound_len c0
    by_cases c1 : (a.length : Int) = (l.length : Int)
    · rw [if_pos c1]
      by_cases c2 : (b.length : Int) = (l.length : Int)
      · rw [if_pos c2]
        by_cases c3 : (v.length : Int) = (l.length : Int)
        · have e : ((v.length : Int) != (l.length : Int)) = false := by simpa using c3
          rw [e, if_pos ⟨c0, by omega, by omega, by omega⟩, dims_At.j0]
          rw [if_neg (by simp), if_pos (by omega), if_pos (by omega)]
          have := at_l0 l a b v l2 (by omega) (by omega) (by omega) hw hvw l.length k 0 [] (List.replicate l.length 0) (by omega) rfl (by simp) (by omega)
          rw [show ((0 : Nat) : Int) = 0 from rfl, List.drop_zero, List.drop_zero, List.drop_zero, List.drop_zero, List.nil_append, List.nil_append] at this
          exact this
        · have e : ((v.length : Int) != (l.length : Int)) = true := by simpa using c3
          rw [e, at_no, if_neg (fun h => c3 (by have := h.2.2.2; omega))]
      · rw [if_neg c2, at_no, if_neg (fun h => c2 (by have := h.2.2.1; omega))]
    · rw [if_neg c1, at_no, if_neg (fun h => c1 (by have := h.2.1; omega))]
  · rw [if_neg c0, at_no, if_neg (fun h => c0 h.1)]
def levS : List S28 → List Int → List Int → List Int
  | [], _, _ => []
  | x :: xs, cs, ms => (ms.headD 0 + cs.headD 0 % ((x.f1.length : Int) + 2 - ms.headD 0)) :: levS xs cs.tail ms.tail
def lows : List S28 → List Int → Prop
  | [], _ => True
  | x :: xs, ms => (0 ≤ ms.headD 0 ∧ ms.headD 0 ≤ (x.f1.length : Int) + 1) ∧ lows xs ms.tail
theorem levS_length (l : List S28) : ∀ cs ms, (levS l cs ms).length = l.length := by
  induction l with
  | nil => intro cs ms; rfl
  | cons x xs ih => intro cs ms; simp only [levS, List.length_cons, ih]
theorem lows_nil (l : List S28) : lows l [] := by
  induction l with
  | nil => trivial
  | cons x xs ih => exact ⟨⟨by simp, by simp; omega⟩, ih⟩
theorem lev_in (n : Int) {p low : Int} (h : low ≤ p + 1) : low ≤ low + n % (p + 2 - low) ∧ low + n % (p + 2 - low) ≤ p + 1 := by
  have a1 := Int.emod_nonneg n (show p + 2 - low ≠ 0 by omega)
  have a2 := Int.emod_lt_of_pos n (show 0 < p + 2 - low by omega)
  constructor <;> omega
theorem lows_lev (l : List S28) : ∀ cs ms, lows l ms → lows l (levS l cs ms) := by
  induction l with
  | nil => intro cs ms _; trivial
  | cons x xs ih =>
    intro cs ms h
    obtain ⟨⟨h1, h2⟩, h3⟩ := h
    obtain ⟨a1, a2⟩ := lev_in (cs.headD 0) h2
    refine ⟨⟨?_, ?_⟩, ih _ _ h3⟩
    · simp only [levS, List.headD_cons]; omega
    · simp only [levS, List.headD_cons]; exact a2
theorem headD_drop (l : List Int) (i : Nat) (h : i < l.length) : (l.drop i).headD 0 = rd l i := by rw [rd_drop l i h]; rfl
theorem headD_drop' (l : List Int) (i : Nat) (h : ¬ i < l.length) : (l.drop i).headD 0 = 0 := by rw [List.drop_of_length_le (by omega)]; rfl
theorem lev_l0 (l : List S28) (cs ms : List Int) (hl : l.length ≤ 4) (hw : ∀ x ∈ l, x.f1.length ≤ 4) (hc : ∀ z ∈ cs, 0 ≤ z ∧ z ≤ 255) (n : Nat) : ∀ (k i : Nat) (out : List Int), i + n = l.length → out.length = i → n < k → lows (l.drop i) (ms.drop i) →
    stratumlaw03_Levels.l0 k l cs ms out i = some (out ++ levS (l.drop i) (cs.drop i) (ms.drop i)) := by
  induction n with
  | zero =>
    intro k i out h ho hk _
    obtain ⟨k, rfl⟩ : ∃ q, k = q + 1 := ⟨k - 1, by omega⟩
    rw [stratumlaw03_Levels.l0]
    rw [if_neg (by omega), List.drop_of_length_le (show l.length ≤ i by omega)]
    simp [levS]
  | succ n ih =>
    intro k i out h ho hk hlow
    obtain ⟨k, rfl⟩ : ∃ q, k = q + 1 := ⟨k - 1, by omega⟩
    have hx := hw _ (rdT_mem l i (by omega))
    rw [rdT_drop l i (by omega)] at hlow
    obtain ⟨⟨b1, b2⟩, b3⟩ := hlow
    rw [List.tail_drop] at b3
    rw [stratumlaw03_Levels.l0]
    have e0 : wrap64 (((rd_T28 l i).f1.length : Int) + 2) = ((rd_T28 l i).f1.length : Int) + 2 := wrap_small (by omega) (by omega)
    have go : ∀ z, z = (ms.drop i).headD 0 + (cs.drop i).headD 0 % (((rd_T28 l i).f1.length : Int) + 2 - (ms.drop i).headD 0) → stratumlaw03_Levels.l0 k l cs ms (out ++ [z]) (wrap64 ((i : Int) + 1)) = some (out ++ levS (l.drop i) (cs.drop i) (ms.drop i)) := by
      intro z hz
      rw [wrap_succ i (by omega), ih k (i + 1) _ (by omega) (by rw [List.length_append, List.length_singleton, ho]) (by omega) b3, rdT_drop l i (by omega)]
      simp only [levS, List.tail_drop]
      rw [← hz, List.append_assoc]; rfl
    obtain ⟨a1, a2⟩ := lev_in ((cs.drop i).headD 0) b2
    rw [if_pos (by omega), e0]
    by_cases c1 : i < cs.length
    · have hz := hc _ (rd_mem' cs i c1)
      have e1 : wrap64 (rd cs i) = rd cs i := wrap_small hz.1 (by omega)
      rw [headD_drop cs i c1] at a1 a2 go
      rw [if_pos (by omega), if_pos (by omega), e1]
      by_cases c2 : i < ms.length
      · rw [headD_drop ms i c2] at a1 a2 b1 b2 go
        have e2 : wrap64 (((rd_T28 l i).f1.length : Int) + 2 - rd ms i) = ((rd_T28 l i).f1.length : Int) + 2 - rd ms i := wrap_small (by omega) (by omega)
        have e3 : Int.tmod (rd cs i) (((rd_T28 l i).f1.length : Int) + 2 - rd ms i) = rd cs i % (((rd_T28 l i).f1.length : Int) + 2 - rd ms i) := Int.tmod_eq_emod_of_nonneg hz.1
        rw [if_pos (by omega), e2, if_neg (by omega), if_pos (by omega), e3, wrap_small (x := rd ms i + rd cs i % (((rd_T28 l i).f1.length : Int) + 2 - rd ms i)) (by omega) (by omega)]
        exact go _ rfl
      · rw [headD_drop' ms i c2, Int.sub_zero, Int.zero_add] at a1 a2 go
        have e3 : Int.tmod (rd cs i) (((rd_T28 l i).f1.length : Int) + 2) = rd cs i % (((rd_T28 l i).f1.length : Int) + 2) := Int.tmod_eq_emod_of_nonneg hz.1
        rw [if_neg (by omega), e0, if_neg (by omega), if_pos (by omega), e3, wrap_small (x := rd cs i % (((rd_T28 l i).f1.length : Int) + 2)) (by omega) (by omega)]
        exact go _ rfl
    · rw [headD_drop' cs i c1, Int.zero_emod, Int.add_zero] at a1 a2 go
      rw [if_neg (by omega)]
      by_cases c2 : i < ms.length
      · rw [headD_drop ms i c2] at a1 a2 b1 b2 go
        have e2 : wrap64 (((rd_T28 l i).f1.length : Int) + 2 - rd ms i) = ((rd_T28 l i).f1.length : Int) + 2 - rd ms i := wrap_small (by omega) (by omega)
        rw [if_pos (by omega), if_pos (by omega), e2, if_neg (by omega), if_pos (by omega), wrap_small (x := rd ms i) (by omega) (by omega)]
        exact go _ rfl
      · rw [headD_drop' ms i c2] at go
        rw [if_neg (by omega), if_pos (by omega), e0, if_neg (by omega), if_pos (by omega)]
        exact go _ rfl
theorem lev_f (l : List S28) (cs ms : List Int) (hl : l.length ≤ 4) (hw : ∀ x ∈ l, x.f1.length ≤ 4) (hc : ∀ z ∈ cs, 0 ≤ z ∧ z ≤ 255) (hm : lows l ms) (k : Nat) (hk : 5 ≤ k) : stratumlaw03_Levels.f k l cs ms = some (levS l cs ms) := by
  unfold stratumlaw03_Levels.f
  have := lev_l0 l cs ms hl hw hc l.length k 0 [] (by omega) rfl (by omega) hm
  rw [show ((0 : Nat) : Int) = 0 from rfl] at this
  rw [this]; simp
def ord : List S28 → List Int → List Int → Prop
  | [], [], [] => True
  | x :: xs, a :: aa, b :: bb => (good x.f0 x.f1 = true ∧ 0 ≤ a ∧ a ≤ b ∧ b ≤ (x.f1.length : Int) + 1) ∧ ord xs aa bb
  | _, _, _ => False
theorem ord_lev (l : List S28) : ∀ (cs ms : List Int), (∀ x ∈ l, good x.f0 x.f1 = true) → ms.length = l.length → lows l ms → ord l ms (levS l cs ms) := by
  induction l with
  | nil =>
    intro cs ms _ h _
    obtain rfl := List.length_eq_zero_iff.1 h
    trivial
  | cons x xs ih =>
    intro cs ms hg h hlow
    cases ms with
    | nil => simp at h
    | cons y ys =>
      obtain ⟨⟨h1, h2⟩, h3⟩ := hlow
      simp only [List.headD_cons, List.tail_cons] at h1 h2 h3
      obtain ⟨a1, a2⟩ := lev_in (cs.headD 0) h2
      simp only [levS, List.headD_cons, List.tail_cons]
      exact ⟨⟨hg x (by simp), h1, a1, a2⟩, ih _ ys (fun z hz => hg z (by simp [hz])) (by simpa using h) h3⟩
theorem upS_le (s : Int) (d : List Int) (a b v : Int) (h : 0 ≤ v) : upS s d a b v ≤ v := by
  unfold upS
  split
  · split
    · exact Int.le_refl v
    · split
      · exact h
      · exact Int.ediv_le_self _ h
  · omega
theorem up_two (s : Int) (d : List Int) (a b v : Int) (hg : good s d = true) (h0 : 0 ≤ a) (hab : a ≤ b) (hb : b ≤ (d.length : Int) + 1) (hv : 0 ≤ v) : upS s d a b (upS s d 0 a v) = upS s d 0 b v ∧ upS s d 0 0 v = v := by
  have e1 : upS s d 0 a v = if 0 = a then v else if a = (d.length : Int) + 1 then 0 else v / (atS d a / atS d 0) := by
    unfold upS; rw [if_pos ⟨hg, Int.le_refl 0, h0, by omega, hv⟩]
  have e2 : upS s d 0 b v = if 0 = b then v else if b = (d.length : Int) + 1 then 0 else v / (atS d b / atS d 0) := by
    unfold upS; rw [if_pos ⟨hg, Int.le_refl 0, by omega, by omega, hv⟩]
  have e3 : upS s d 0 0 v = v := by
    unfold upS; rw [if_pos ⟨hg, Int.le_refl 0, Int.le_refl 0, by omega, hv⟩, if_pos rfl]
  refine ⟨?_, e3⟩
  by_cases c1 : 0 = a
  · subst c1; rw [e3]
  by_cases c2 : a = b
  · subst c2
    have hw : 0 ≤ upS s d 0 a v := by
      rw [e1, if_neg c1]
      split
      · exact Int.le_refl 0
      · obtain ⟨an, rfl⟩ := Int.eq_ofNat_of_zero_le h0
        obtain ⟨s1, s2, s3, s4⟩ := atS_spec d (good_parts hg).2.2.2 0 an (by omega) (by omega)
        have z' : atS d 0 = 1 := rfl
        have z : atS d ((0 : Nat) : Int) = 1 := rfl
        rw [z] at s2
        rw [z', Int.ediv_one]
        exact Int.ediv_nonneg hv (by omega)
    generalize upS s d 0 a v = w at *
    unfold upS; rw [if_pos ⟨hg, h0, Int.le_refl a, by omega, hw⟩, if_pos rfl]
  obtain ⟨an, rfl⟩ := Int.eq_ofNat_of_zero_le h0
  obtain ⟨bn, rfl⟩ := Int.eq_ofNat_of_zero_le (show 0 ≤ b by omega)
  obtain ⟨s1, s2, s3, s4⟩ := atS_spec d (good_parts hg).2.2.2 0 an (by omega) (by omega)
  have z' : atS d 0 = 1 := rfl
  have z : atS d ((0 : Nat) : Int) = 1 := rfl
  rw [z] at s2
  rw [e1, e2, if_neg c1, if_neg (by omega), if_neg (by omega), z', Int.ediv_one, Int.ediv_one]
  have hq : 0 ≤ v / atS d an := Int.ediv_nonneg hv (by omega)
  have e4 : upS s d an bn (v / atS d an) = if (an : Int) = bn then v / atS d an else if (bn : Int) = (d.length : Int) + 1 then 0 else v / atS d an / (atS d bn / atS d an) := by
    unfold upS; rw [if_pos ⟨hg, h0, by omega, by omega, hq⟩]
  rw [e4, if_neg c2]
  by_cases c3 : (bn : Int) = (d.length : Int) + 1
  · rw [if_pos c3, if_pos c3]
  · rw [if_neg c3, if_neg c3]
    obtain ⟨t1, t2, t3, t4⟩ := atS_spec d (good_parts hg).2.2.2 an bn (by omega) (by omega)
    rw [Int.ediv_ediv_of_nonneg (by omega), Int.mul_ediv_cancel' t4]
theorem ups_two (l : List S28) : ∀ (a b v : List Int), ord l a b → v.length = l.length → (∀ z ∈ v, 0 ≤ z) → upsS l a b (upsS l (List.replicate l.length 0) a v) = upsS l (List.replicate l.length 0) b v ∧ upsS l (List.replicate l.length 0) (List.replicate l.length 0) v = v := by
  induction l with
  | nil =>
    intro a b v _ h _
    obtain rfl := List.length_eq_zero_iff.1 h
    simp [upsS]
  | cons x xs ih =>
    intro a b v ho h hv
    cases a with
    | nil => cases b <;> exact ho.elim
    | cons a aa =>
      cases b with
      | nil => exact ho.elim
      | cons b bb =>
        cases v with
        | nil => simp at h
        | cons y ys =>
          obtain ⟨⟨g, g0, g1, g2⟩, ho'⟩ := ho
          obtain ⟨u1, u2⟩ := up_two x.f0 x.f1 a b y g g0 g1 g2 (hv y (by simp))
          obtain ⟨w1, w2⟩ := ih aa bb ys ho' (by simpa using h) (fun z hz => hv z (by simp [hz]))
          simp only [List.length_cons, List.replicate_succ, upsS]
          rw [u1, u2, w1, w2]
          exact ⟨rfl, rfl⟩
theorem ups_len (l : List S28) : ∀ (a b v : List Int), a.length = l.length → b.length = l.length → v.length = l.length → (upsS l a b v).length = l.length := by
  induction l with
  | nil => intro a b v _ _ _; simp [upsS]
  | cons x xs ih =>
    intro a b v ha hb hv
    cases a with
    | nil => simp at ha
    | cons a aa =>
      cases b with
      | nil => simp at hb
      | cons b bb =>
        cases v with
        | nil => simp at hv
        | cons y ys =>
          simp only [upsS, List.length_cons]
          rw [ih aa bb ys (by simpa using ha) (by simpa using hb) (by simpa using hv)]
theorem ups_small (l : List S28) (M : Int) : ∀ (a b v : List Int), (∀ z ∈ v, 0 ≤ z ∧ z < M) → ∀ z ∈ upsS l a b v, z < M := by
  induction l with
  | nil => intro a b v _ z hz; simp [upsS] at hz
  | cons x xs ih =>
    intro a b v hv z hz
    cases a with
    | nil => simp [upsS] at hz
    | cons a aa =>
      cases b with
      | nil => simp [upsS] at hz
      | cons b bb =>
        cases v with
        | nil => simp [upsS] at hz
        | cons y ys =>
          simp only [upsS, List.mem_cons] at hz
          rcases hz with rfl | hz
          · have h1 := hv y (by simp)
            have h2 := upS_le x.f0 x.f1 a b y h1.1
            omega
          · exact ih aa bb ys (fun z hz => hv z (by simp [hz])) z hz
theorem keyS_small (l : List S28) : ∀ (ks : List Int), (∀ x ∈ l, 1 ≤ x.f0 ∧ x.f0 ≤ 200) → ∀ z ∈ keyS l ks, 0 ≤ z ∧ z < 9223372036854775808 := by
  induction l with
  | nil => intro ks _ z hz; simp [keyS] at hz
  | cons x xs ih =>
    intro ks h z hz
    have h1 := h x (by simp)
    cases ks with
    | nil =>
      simp only [keyS, List.mem_cons] at hz
      rcases hz with rfl | hz
      · omega
      · exact ih [] (fun y hy => h y (by simp [hy])) z hz
    | cons y ys =>
      simp only [keyS, List.mem_cons] at hz
      rcases hz with rfl | hz
      · have a1 := Int.emod_nonneg y (show x.f0 ≠ 0 by omega)
        have a2 := Int.emod_lt_of_pos y (show 0 < x.f0 by omega)
        omega
      · exact ih ys (fun y hy => h y (by simp [hy])) z hz
theorem atL_yes (l : List S28) (a b v : List Int) (h : soundS l = true) (ha : a.length = l.length) (hb : b.length = l.length) (hv : v.length = l.length) : atL l a b v = upsS l a b v := by
  unfold atL; rw [if_pos ⟨h, ha, hb, hv⟩]
theorem pure (m : List S25) (hm : m.length ≤ 9223372036854775807) (hw : ∀ c ∈ m, wfC c) (a : List Int) (_ : a.length ≤ 9223372036854775807) (ha : ∀ z ∈ a, 0 ≤ z ∧ z ≤ 255) (b : List Int) (_ : b.length ≤ 9223372036854775807) (hb : ∀ z ∈ b, 0 ≤ z ∧ z ≤ 255) (ks : List Int) (_ : ks.length ≤ 9223372036854775807) (hk : ∀ z ∈ ks, 0 ≤ z ∧ z ≤ 65535) : ∃ k, stratumlaw03_DimsSteps.f k m a b ks = some true := by
  refine ⟨70, ?_⟩
  obtain ⟨l1, l2⟩ := of_len m
  have hE := of_each m hw
  have hS := of_sound m hw
  have hD := of_wfD m hw
  have hM := of_most m hw
  unfold stratumlaw03_DimsSteps.f
  rw [of_f m hm hw 70 (by omega), Option.bind_some]
  generalize ofS m = l at *
  have hg : ∀ x ∈ l, good x.f0 x.f1 = true := fun x hx => (hE x hx).1
  have hx : ∀ x ∈ l, x.f1.length ≤ 4 := fun x hx => (hE x hx).2.1
  have hs : ∀ x ∈ l, 1 ≤ x.f0 ∧ x.f0 ≤ 200 := fun x hx => ⟨(good_parts (hg x hx)).1, (hE x hx).2.2⟩
  rw [lev_f l a [] l2 hx ha (lows_nil l) 70 (by omega), Option.bind_some]
  have q1 := lows_lev l a [] (lows_nil l)
  have q2 := levS_length l a []
  generalize levS l a [] = mid at *
  rw [lev_f l b mid l2 hx hb q1 70 (by omega), Option.bind_some]
  have q3 := ord_lev l b mid hg q2 q1
  have q4 := levS_length l b mid
  generalize levS l b mid = top at *
  rw [key_f l ks l2 (fun x hx => (hs x hx).1) hk 70 (by omega), Option.bind_some]
  have q5 := keyS_length l ks
  have q6 := keyS_small l ks hs
  generalize keyS l ks = key at *
  rw [if_pos (by omega), Int.toNat_natCast, if_pos (by omega), Option.bind_some]
  obtain ⟨u1, u2⟩ := ups_two l mid top key q3 q5 (fun z hz => (q6 z hz).1)
  have q7 : (List.replicate l.length (0 : Int)).length = l.length := List.length_replicate
  have q8 := fun x => ups_len l (List.replicate l.length 0) x key q7
  have q9 := ups_small l 9223372036854775808 (List.replicate l.length 0) mid key q6
  have q10 : ∀ z ∈ key, z < 9223372036854775808 := fun z hz => (q6 z hz).2
  generalize List.replicate l.length (0 : Int) = zero at *
  rw [at_f l zero mid key (by omega) hD q10 70 (by omega), Option.bind_some, atL_yes l zero mid key hS q7 q2 q5, known_f 70 (by omega), Option.bind_some, if_pos rfl,
    at_f l mid top _ (by omega) hD q9 70 (by omega), Option.bind_some, atL_yes l mid top _ hS q2 q4 (q8 mid q2 q5), u1, at_f l zero top key (by omega) hD q10 70 (by omega), Option.bind_some, atL_yes l zero top key hS q7 q4 q5]
  have q11 := q8 top q4 q5
  rw [same_f _ _ (by omega) 70 (by omega), Option.bind_some, if_pos (by simp), at_f l zero zero key (by omega) hD q10 70 (by omega), Option.bind_some, atL_yes l zero zero key hS q7 q7 q5, u2, same_f _ _ (by omega) 70 (by omega), Option.bind_some]
  simp
theorem list_of {α : Type} {n : Nat} {p : Nat → α → Prop} (h : ∀ i, i < n → ∃ x, p i x) : ∃ l : List α, l.length = n ∧ ∀ j x, l[j]? = some x → p j x := by
  induction n with
  | zero => exact ⟨[], rfl, fun j x hx => by simp at hx⟩
  | succ n ih =>
    obtain ⟨l, hl, hp⟩ := ih (fun i hi => h i (by omega))
    obtain ⟨x, hx⟩ := h n (by omega)
    refine ⟨l ++ [x], by simp [hl], fun j y hy => ?_⟩
    by_cases hj : j < l.length
    · rw [List.getElem?_append_left hj] at hy; exact hp j y hy
    · have hj2 := (List.getElem?_eq_some_iff.1 hy).1
      simp at hj2
      have e : j = n := by omega
      subst e
      rw [List.getElem?_append_right (by omega)] at hy
      simp [hl] at hy
      subst hy
      exact hx
theorem addr_add_add (a : Addr) (i j : Nat) : (a.add i).add j = a.add (i + j) := by
  unfold Go.Addr.add
  (repeat' split) <;> (try simp_all) <;> (try omega)
section
variable {H : Type} {enc : TypeId × Value → H} {w : World}
theorem read_ints {t e : TypeId} {k : IntKind} {fuel : Nat} {v : Value} {x : DataW H × List MemPlace} (ht : Try.prog.underlying t = some (.slice e)) (he : Try.prog.underlying e = some (.int k)) (hc : Try.prog.cellsOf e = 1)
    (h : DataW.trod enc Try.prog w 0 (fun _ => true) true fuel t [v] = some x) : ∃ A c l, v = .slice A l.length c ∧ l.length ≤ c ∧ c ≤ maxLen ∧ (∀ z ∈ l, (Lit.int k z).wf = true) ∧ Kd.C (Kd.int k) w A l.length l := by
  rcases open_ints ht he hc h with ⟨hcs, _⟩ | ⟨a, len, cap, zs, hcs, _, hl, hm, hz, _, hcell, hwz⟩
  · obtain rfl : v = .slice none 0 0 := by simpa using hcs
    exact ⟨none, 0, [], rfl, Nat.le_refl _, by unfold maxLen; omega, (fun z hz => by cases hz), Kd.C_nil _ w⟩
  · obtain rfl : v = .slice (some a) len cap := by simpa using hcs
    simp only [if_true] at hz
    have hlen : (zs.take len).length = len := by rw [List.length_take]; omega
    refine ⟨some a, cap, zs.take len, by rw [hlen], by omega, hm, fun z hz' => hwz z (List.mem_of_mem_take hz'), ⟨rfl, by unfold maxLen at hm; omega, fun _ => ⟨a, rfl, fun j p hp => ⟨[.int k p], rfl, rfl, fun i u hu => ?_⟩⟩⟩⟩
    match i, hu with
    | 0, hu =>
      have e : Value.int k p = u := by simpa using hu
      subst e
      obtain ⟨hj, hj2⟩ := List.getElem?_eq_some_iff.1 hp
      have hj3 : j < zs.length := by rw [hlen] at hj; omega
      have := hcell j hj3
      rw [List.getElem_take] at hj2
      rw [List.getD_eq_getElem?_getD, List.getElem?_eq_getElem hj3, Option.getD_some, hj2] at this
      simpa [Kd.int, Kd.scalar] using this
    | i + 1, hu => simp at hu
theorem read_s25 {fuel : Nat} {cs : List Value} {x : DataW H × List MemPlace} (h : DataW.trod enc Try.prog w 0 (fun _ => true) true fuel 25 cs = some x) :
    ∃ d : S25, k25.K w d cs ∧ (Lit.int .u16 d.f0).wf = true ∧ (∀ z ∈ d.f1, (Lit.int .u8 z).wf = true) ∧ d.f1.length ≤ maxLen := by
  obtain ⟨y0, y1, n, _, hlen, h0, h1⟩ := trod_struct2 Try.underlying25 h
  have hl : cs.length = 2 := hlen.trans (by kernel_rfl)
  match cs, hl with
  | [c0, c1], _ =>
    have e0 : ((([c0, c1] : List Value).drop 0).take (Try.prog.cellsOf 22)) = [c0] := by rw [show Try.prog.cellsOf 22 = 1 from by kernel_rfl]; rfl
    have e1 : ((([c0, c1] : List Value).drop 1).take (Try.prog.cellsOf 23)) = [c1] := by rw [show Try.prog.cellsOf 23 = 1 from by kernel_rfl]; rfl
    have h0' : DataW.trod enc Try.prog w 0 (fun _ => true) true n 22 [c0] = some y0 := by rw [← e0]; exact h0
    have h1' : DataW.trod enc Try.prog w 0 (fun _ => true) true n 23 [c1] = some y1 := by rw [← e1]; exact h1
    obtain ⟨a, ea, _, wa⟩ := DataW.trod_int Try.underlying22 h0'
    obtain rfl : c0 = .int .u16 a := by simpa using ea
    obtain ⟨A, c, l, rfl, hl1, hl2, hl3, hl4⟩ := read_ints Try.underlying23 Try.underlying5 (by kernel_rfl) h1'
    exact ⟨⟨a, l⟩, k25_mk w ⟨a, l⟩ hl1 hl4, wa, hl3, by show l.length ≤ maxLen; omega⟩
theorem read_l25 {t : TypeId} {fuel : Nat} {v : Value} {x : DataW H × List MemPlace} (ht : Try.prog.underlying t = some (.slice 25)) (h : DataW.trod enc Try.prog w 0 (fun _ => true) true fuel t [v] = some x) :
    ∃ A c l, v = .slice A l.length c ∧ l.length ≤ c ∧ c ≤ maxLen ∧ (∀ d ∈ l, (Lit.int .u16 d.f0).wf = true ∧ (∀ z ∈ d.f1, (Lit.int .u8 z).wf = true) ∧ d.f1.length ≤ maxLen) ∧ Kd.C k25 w A l.length l := by
  rcases Go.Deep.open_slice ht h with ⟨hcs, _⟩ | ⟨a, len, cap, m, n, D, Pl, hcs, _, hl, hm, hmm, _, hx⟩
  · obtain rfl : v = .slice none 0 0 := by simpa using hcs
    exact ⟨none, 0, [], rfl, Nat.le_refl _, by unfold maxLen; omega, (fun z hz => by cases hz), Kd.C_nil _ w⟩
  · obtain rfl : v = .slice (some a) len cap := by simpa using hcs
    simp only [if_true] at hmm
    have c2 : Try.prog.cellsOf 25 = 2 := by kernel_rfl
    rw [c2] at hx
    obtain ⟨l, hll, hlp⟩ := list_of (n := len) (p := fun i (d : S25) => (∃ cs, cs.length = 2 ∧ k25.K w d cs ∧ ∀ q u, cs[q]? = some u → w.cell? (a.add (i * 2 + q)) = some u) ∧ (Lit.int .u16 d.f0).wf = true ∧ (∀ z ∈ d.f1, (Lit.int .u8 z).wf = true) ∧ d.f1.length ≤ maxLen) (fun i hi => by
      obtain ⟨cs, hc, ht2⟩ := hx i (by omega)
      obtain ⟨d, hK, w1, w2, w3⟩ := read_s25 ht2
      obtain ⟨_, hlen, hcell⟩ := World.cells?_some hc
      refine ⟨d, ⟨cs, hlen, hK, fun q u hq => ?_⟩, w1, w2, w3⟩
      have hq2 := (List.getElem?_eq_some_iff.1 hq).1
      rw [← addr_add_add, hcell q (by omega), hq])
    subst hll
    refine ⟨some a, cap, l, rfl, hl, hm, fun d hd => ?_, ⟨rfl, by unfold maxLen at hm; omega, fun _ => ⟨a, rfl, fun j p hp => ?_⟩⟩⟩
    · obtain ⟨j, hj⟩ := List.getElem?_of_mem hd
      exact (hlp j d hj).2
    · obtain ⟨cs, h1, h2, h3⟩ := (hlp j p hp).1
      exact ⟨cs, h1, h2, h3⟩
end
theorem own : ownKnob Try.prog.godebug = none := by kernel_rfl
theorem laidOut : laidOutB Try.prog = true := by kernel_rfl
theorem wfI {x : Int} (h : (Lit.int .i64 x).wf = true) : -9223372036854775808 ≤ x ∧ x < 9223372036854775808 := by
  simp [Lit.wf, IntKind.min, IntKind.max, IntKind.signed, IntKind.bits] at h; omega
theorem wfB {x : Int} (h : (Lit.int .u8 x).wf = true) : 0 ≤ x ∧ x ≤ 255 := by
  simp [Lit.wf, IntKind.min, IntKind.max, IntKind.signed, IntKind.bits] at h; omega
theorem wfH {x : Int} (h : (Lit.int .u16 x).wf = true) : 0 ≤ x ∧ x ≤ 65535 := by
  simp [Lit.wf, IntKind.min, IntKind.max, IntKind.signed, IntKind.bits] at h; omega
theorem lenLe {n : Nat} (h : n ≤ maxLen) : n ≤ 9223372036854775807 := by unfold maxLen at h; omega
set_option maxRecDepth 100000 in
theorem lifted (os : Os) (started : os.Started) (H : Type) (enc : TypeId × Value → H) :
    ReturnsInHanded {} Try.checked os 8 .any (Rows.dimsStepsSpec.pre6 enc Try.prog Try.f8 Rows.dimsStepsRow.domain false) (Rows.dimsStepsSpec.post enc Try.prog Try.f8 false true false false) := by
  refine returnsInHanded_of_change_sized (C := Try.checked) own started (by kernel_rfl) Try.func8
    (ChangeSpec.witness6 (enc := enc) (C := Try.checked) false ⟨#[], #[.slice none 0 0, .slice none 0 0, .slice none 0 0, .slice none 0 0], []⟩ 8 (by kernel_rfl) (by kernel_rfl) (by kernel_rfl) (by kernel_rfl)) ?_
  intro W base args ds gs before hval0 hW hcnd _ _
  have hval : ∀ (j : Nat) t v, Try.f8.params[j]? = some t → args[j]? = some v → Value.okWide Try.prog W .any base t v := hval0
  have hW' := hW
  obtain ⟨p, q, hA0, hV, rfl, hfz, hnd⟩ := hW
  have hA : DataW.TrodAll enc Try.prog W 0 (fun _ => true) true Try.f8.params.toList args.toList ds p := hA0
  rw [Try.params8] at hA hval
  obtain ⟨v0, vs0, d0, ds0, p0, q0, hargs, rfl, rfl, h0, r0⟩ := trodAll_cons hA
  obtain ⟨v1, vs1, d1, ds1, p1, q1, rfl, rfl, rfl, h1, r1⟩ := trodAll_cons r0
  obtain ⟨v2, vs2, d2, ds2, p2, q2, rfl, rfl, rfl, h2, r2⟩ := trodAll_cons r1
  obtain ⟨v3, vs3, d3, ds3, p3, q3, rfl, rfl, rfl, h3, r3⟩ := trodAll_cons r2
  obtain ⟨rfl, rfl, rfl⟩ := trodAll_nil r3
  obtain rfl : args = #[v0, v1, v2, v3] := by cases args; simp_all
  obtain ⟨rfl, rfl⟩ := trodVars_none hV
  have k0 := h0
  have lt0 : ∀ x ∈ p0, x.block < W.heap.size := by obtain ⟨m, hm⟩ := k0; exact DataW.trod_lt m _ _ _ hm
  obtain ⟨aa0, len0, cap0, rfl⟩ := okWide_slice Try.underlying31 (hval 0 31 v0 rfl rfl)
  obtain ⟨fu0, hf0⟩ := h0
  obtain ⟨A0, c0, l0, e0, hc0, hm0, hw0, hC0⟩ := read_l25 Try.underlying31 (v := .slice aa0 len0 cap0) hf0
  obtain ⟨rfl, rfl, rfl⟩ : aa0 = A0 ∧ len0 = l0.length ∧ cap0 = c0 := by simpa using e0
  have k1 := h1
  have lt1 : ∀ x ∈ p1, x.block < W.heap.size := by obtain ⟨m, hm⟩ := k1; exact DataW.trod_lt m _ _ _ hm
  obtain ⟨aa1, len1, cap1, rfl⟩ := okWide_slice Try.underlying23 (hval 1 23 v1 rfl rfl)
  obtain ⟨fu1, hf1⟩ := h1
  obtain ⟨A1, c1, l1, e1, hc1, hm1, hw1, hC1⟩ := read_ints Try.underlying23 Try.underlying5 (by kernel_rfl) (v := .slice aa1 len1 cap1) hf1
  obtain ⟨rfl, rfl, rfl⟩ : aa1 = A1 ∧ len1 = l1.length ∧ cap1 = c1 := by simpa using e1
  have k2 := h2
  have lt2 : ∀ x ∈ p2, x.block < W.heap.size := by obtain ⟨m, hm⟩ := k2; exact DataW.trod_lt m _ _ _ hm
  obtain ⟨aa2, len2, cap2, rfl⟩ := okWide_slice Try.underlying23 (hval 2 23 v2 rfl rfl)
  obtain ⟨fu2, hf2⟩ := h2
  obtain ⟨A2, c2, l2, e2, hc2, hm2, hw2, hC2⟩ := read_ints Try.underlying23 Try.underlying5 (by kernel_rfl) (v := .slice aa2 len2 cap2) hf2
  obtain ⟨rfl, rfl, rfl⟩ : aa2 = A2 ∧ len2 = l2.length ∧ cap2 = c2 := by simpa using e2
  have k3 := h3
  have lt3 : ∀ x ∈ p3, x.block < W.heap.size := by obtain ⟨m, hm⟩ := k3; exact DataW.trod_lt m _ _ _ hm
  obtain ⟨aa3, len3, cap3, rfl⟩ := okWide_slice Try.underlying42 (hval 3 42 v3 rfl rfl)
  obtain ⟨fu3, hf3⟩ := h3
  obtain ⟨A3, c3, l3, e3, hc3, hm3, hw3, hC3⟩ := read_ints Try.underlying42 Try.underlying22 (by kernel_rfl) (v := .slice aa3 len3 cap3) hf3
  obtain ⟨rfl, rfl, rfl⟩ : aa3 = A3 ∧ len3 = l3.length ∧ cap3 = c3 := by simpa using e3
  clear hA0 hval0
  obtain ⟨k, hk⟩ := pure l0 (lenLe (Nat.le_trans hc0 hm0)) (fun x hx => ⟨(wfH (hw0 x hx).1).1, (wfH (hw0 x hx).1).2, fun z hz => wfB ((hw0 x hx).2.1 z hz), lenLe (hw0 x hx).2.2⟩) l1 (lenLe (Nat.le_trans hc1 hm1)) (fun z hz => wfB (hw1 z hz)) l2 (lenLe (Nat.le_trans hc2 hm2)) (fun z hz => wfB (hw2 z hz)) l3 (lenLe (Nat.le_trans hc3 hm3)) (fun z hz => wfH (hw3 z hz))
  refine (stratumlaw03_DimsSteps.calls k aa0 cap0 l0 aa1 cap1 l1 aa2 cap2 l2 aa3 cap3 l3 true W hC0 hc0 hC1 hc1 hC2 hc2 hC3 hc3 hk ⟨rfl⟩).mono fun e W' ⟨he, bel⟩ => ?_
  subst he
  exact ⟨_, rfl, _, _, _, [], _, [], hW', trodAll_mk1 (shut_bool Try.underlying4 _), (trodAll_cons_mk (Below.trod laidOut (by kernel_rfl) (of_decide_eq_true (by kernel_rfl)) k0 bel lt0) (trodAll_cons_mk (Below.trod laidOut (by kernel_rfl) (of_decide_eq_true (by kernel_rfl)) k1 bel lt1) (trodAll_cons_mk (Below.trod laidOut (by kernel_rfl) (of_decide_eq_true (by kernel_rfl)) k2 bel lt2) (trodAll_cons_mk (Below.trod laidOut (by kernel_rfl) (of_decide_eq_true (by kernel_rfl)) k3 bel lt3) trodAll_mk0)))), rfl, bel.frame _, fun h => by cases h⟩
theorem over : Rows.dimsStepsRow.holds Try.pinned (OpenSpec.ofChange Rows.dimsStepsSpec) :=
  OpenClaim.holds_of_wide 8 Try.f8 rfl rfl rfl rfl rfl rfl rfl ⟨rfl, rfl, rfl, rfl, rfl⟩ rfl rfl rfl rfl rfl (by kernel_rfl) Try.func8 (by kernel_rfl)
    (of_decide_eq_true (by kernel_rfl)) (by unfold Func.isWrapper; first | (rw [if_pos (by decide +kernel)]; kernel_rfl) | (rw [if_neg (by decide +kernel)]; exact ⟨rfl, rfl⟩))
    (fun os started H enc _ => lifted os started H enc)
theorem proved : Rows.DimsStepsSaid := over
#print axioms proved
end Go.Proofs.Ytefpmpmkodogeaa.dimsSteps
namespace Go.Proofs.Ytefpmpmkodogeaa
/-- The row, under a short name, for the claim. -/
theorem dimsSteps_holds : Rows.DimsStepsSaid := dimsSteps.proved
end Go.Proofs.Ytefpmpmkodogeaa
