/- What is proved here: the row of DimsBad: for every input the law returns true and its arguments read as before; conditions: none. -/
import Derived.Test.YtefpmpmkodogeaaRows
import Derived.Test.YtefpmpmkodogeaaPDimsBadx3
import Derived.WalkKit
import Derived.ProofKit
import Derived.OpenShut
import Derived.ShutString
import Derived.ChangeOld
import Derived.Below
import Derived.SizedLaws
import Derived.Deep.Slices
import Derived.Lib.SmallJoins
namespace Go.Proofs.Ytefpmpmkodogeaa.dimsBad
open Go.ChangeShapes Go.WideShapes Go.ChangeAt Go.RowKit Go.Joins
open Go.Proofs.Ytefpmpmkodogeaa.PDimsBad Go.Proofs.YtefpmpmkodogeaaW.PrintWords Go.Proofs.YtefpmpmkodogeaaW.PrintLast Go.Proofs.YtefpmpmkodogeaaW.PrintMore
set_option maxRecDepth 4000
set_option linter.unusedVariables false
def goodDiv : Int → List Int → Bool
  | _, [] => true
  | last, x :: xs => decide (last < x) && (decide (x ≤ 10000) && (decide (Int.tmod x last = 0) && goodDiv x xs))
def good (s : Int) (d : List Int) : Bool := decide (1 ≤ s) && (decide (s ≤ 10000) && (decide (d.length ≤ 4) && goodDiv 1 d))
theorem rd_drop (l : List Int) (i : Nat) (h : i < l.length) : l.drop i = rd l i :: l.drop (i + 1) := by
  rw [List.drop_eq_getElem_cons h]
  unfold rd
  simp [List.getD, h]
theorem wrap_succ (i : Nat) (h : i < 9223372036854775807) : wrap64 ((i : Int) + 1) = ((i + 1 : Nat) : Int) := by unfold wrap64; omega
theorem right_l0 (l : List Int) (hl : l.length ≤ 9223372036854775807) (n : Nat) : ∀ (k i : Nat) (last : Int), 1 ≤ last → i + n = l.length → n < k → dims_right.l0 k last l (l.length : Int) i = some (goodDiv last (l.drop i)) := by
  induction n with
  | zero =>
    intro k i last h1 h hk
    obtain ⟨k, rfl⟩ : ∃ m, k = m + 1 := ⟨k - 1, by omega⟩
    simp only [dims_right.l0]
    rw [if_neg (by omega), List.drop_of_length_le (by omega)]
    rfl
  | succ n ih =>
    intro k i last h1 h hk
    obtain ⟨k, rfl⟩ : ∃ m, k = m + 1 := ⟨k - 1, by omega⟩
    simp only [dims_right.l0]
    rw [if_pos (by omega), if_pos (by omega), if_pos (by omega), rd_drop l i (by omega)]
    simp only [goodDiv]
    by_cases c1 : rd l i ≤ last
    · rw [if_pos c1]; have : ¬ last < rd l i := by omega
      simp [this]
    · rw [if_neg c1]
      have e1 : last < rd l i := by omega
      by_cases c2 : rd l i > 10000
      · rw [if_pos c2]; have : ¬ rd l i ≤ 10000 := by omega
        simp [this]
      · rw [if_neg c2]
        have e2 : rd l i ≤ 10000 := by omega
        rw [if_neg (by omega)]
        by_cases c3 : Int.tmod (rd l i) last = 0
        · rw [if_pos c3, wrap_succ i (by omega), ih k (i + 1) _ (by omega) (by omega) (by omega)]
          simp [e1, e2, c3]
        · rw [if_neg c3]; simp [c3]
theorem right_f (s : Int) (d : List Int) (hl : d.length ≤ 9223372036854775807) (k : Nat) (hk : d.length + 2 ≤ k) : dims_right.f k s d = some (good s d) := by
  obtain ⟨k, rfl⟩ : ∃ m, k = m + 1 := ⟨k - 1, by omega⟩
  unfold dims_right.f good
  by_cases c1 : s < 1
  · rw [if_pos c1]; simp only [dims_right.j0]; rw [if_pos trivial]; have : ¬ 1 ≤ s := by omega
    simp [this]
  · rw [if_neg c1]
    have e1 : 1 ≤ s := by omega
    by_cases c2 : s > 10000
    · rw [if_pos c2]; simp only [dims_right.j0]; rw [if_pos trivial]; have : ¬ s ≤ 10000 := by omega
      simp [this]
    · rw [if_neg c2]
      have e2 : s ≤ 10000 := by omega
      simp only [dims_right.j0]
      by_cases c3 : (d.length : Int) > 4
      · rw [if_pos (by simpa using c3)]; have : ¬ d.length ≤ 4 := by omega
        simp [this]
      · rw [if_neg (by simpa using c3)]
        have := right_l0 d hl d.length k 0 1 (by omega) (by omega) (by omega)
        simp only [Int.natCast_zero, List.drop_zero] at this
        rw [this]
        have e3 : d.length ≤ 4 := by omega
        simp [e1, e2, e3]
theorem rd_zero (x : Int) (xs : List Int) : rd (x :: xs) 0 = x := rfl
theorem rd_succ (x : Int) (xs : List Int) (j : Nat) : rd (x :: xs) ((j + 1 : Nat) : Int) = rd xs j := by
  unfold rd
  have h1 : (((j + 1 : Nat) : Int)).toNat = j + 1 := by omega
  have h2 : ((j : Int)).toNat = j := by omega
  rw [h1, h2]
  simp [List.getD]
theorem tmod_dvd {x y : Int} (h : Int.tmod x y = 0) : y ∣ x := Int.dvd_of_tmod_eq_zero h
theorem goodDiv_spec (l : List Int) : ∀ (last : Int), 1 ≤ last → goodDiv last l = true → ∀ j : Nat, j < l.length → last < rd l j ∧ rd l j ≤ 10000 ∧ last ∣ rd l j ∧ ∀ i : Nat, i < j → rd l i < rd l j ∧ rd l i ∣ rd l j := by
  induction l with
  | nil => intro last _ _ j hj; simp at hj
  | cons x xs ih =>
    intro last h1 hg j hj
    simp only [goodDiv, Bool.and_eq_true, decide_eq_true_eq] at hg
    obtain ⟨g1, g2, g3, g4⟩ := hg
    have hd := tmod_dvd g3
    cases j with
    | zero => exact ⟨g1, g2, hd, fun i hi => absurd hi (Nat.not_lt_zero i)⟩
    | succ j =>
      rw [rd_succ]
      obtain ⟨s1, s2, s3, s4⟩ := ih x (by omega) g4 j (by simpa using hj)
      refine ⟨by omega, s2, Int.dvd_trans hd s3, fun i hi => ?_⟩
      cases i with
      | zero => exact ⟨s1, s3⟩
      | succ i => rw [rd_succ]; exact s4 i (by omega)
def atS (d : List Int) (i : Int) : Int := if i = 0 then 1 else rd d (i - 1)
theorem atS_succ (d : List Int) (i : Nat) : atS d ((i + 1 : Nat) : Int) = rd d i := by
  unfold atS
  rw [if_neg (by omega)]
  congr 1
  omega
theorem atS_spec (d : List Int) (hg : goodDiv 1 d = true) (i j : Nat) (hij : i ≤ j) (hj : j ≤ d.length) : 1 ≤ atS d i ∧ atS d i ≤ atS d j ∧ atS d j ≤ 10000 ∧ atS d i ∣ atS d j := by
  have hs := goodDiv_spec d 1 (Int.le_refl 1) hg
  have z : atS d ((0 : Nat) : Int) = 1 := rfl
  cases j with
  | zero =>
    obtain rfl : i = 0 := by omega
    rw [z]; exact ⟨Int.le_refl 1, Int.le_refl 1, by decide, Int.dvd_refl 1⟩
  | succ j =>
    obtain ⟨s1, s2, s3, s4⟩ := hs j (by omega)
    cases i with
    | zero => rw [z, atS_succ]; exact ⟨Int.le_refl 1, by omega, s2, s3⟩
    | succ i =>
      rw [atS_succ, atS_succ]
      by_cases e : i = j
      · subst e; exact ⟨by omega, Int.le_refl _, s2, Int.dvd_refl _⟩
      · obtain ⟨t1, t2⟩ := s4 i (by omega)
        have := (hs i (by omega)).1
        exact ⟨by omega, by omega, s2, t2⟩
theorem good_parts {s : Int} {d : List Int} (h : good s d = true) : 1 ≤ s ∧ s ≤ 10000 ∧ d.length ≤ 4 ∧ goodDiv 1 d = true := by
  simpa [good] using h
def upS (s : Int) (d : List Int) (a b v : Int) : Int :=
  if good s d = true ∧ 0 ≤ a ∧ a ≤ b ∧ b < (d.length : Int) + 2 ∧ 0 ≤ v then (if a = b then v else if b = (d.length : Int) + 1 then 0 else v / (atS d b / atS d a)) else -1
theorem wrap_small {x : Int} (h0 : 0 ≤ x) (h : x < 9223372036854775808) : wrap64 x = x := by unfold wrap64; omega
theorem div_small {v q : Int} (h0 : 0 ≤ v) (h : v < 9223372036854775808) (hq : 1 ≤ q) : Int.tdiv v q = v / q ∧ 0 ≤ v / q ∧ v / q < 9223372036854775808 := by
  have h1 : v / q ≤ v := Int.ediv_le_self q h0
  have h2 : 0 ≤ v / q := Int.ediv_nonneg h0 (by omega)
  exact ⟨Int.tdiv_eq_ediv_of_nonneg h0, h2, by omega⟩
theorem quot_pos {x y : Int} (hx : 1 ≤ x) (hxy : x ≤ y) (hy : y ≤ 10000) : Int.tdiv y x = y / x ∧ 1 ≤ y / x ∧ y / x ≤ 10000 := by
  have h1 : y / x ≤ y := Int.ediv_le_self x (by omega)
  have h2 : 1 ≤ y / x := by
    have := Int.ediv_le_ediv (show 0 < x by omega) hxy
    rwa [Int.ediv_self (by omega)] at this
  exact ⟨Int.tdiv_eq_ediv_of_nonneg (by omega), h2, by omega⟩
def wfD (x : S28) : Prop := x.f1.length ≤ 9223372036854775807
theorem rdT_drop (l : List S28) (i : Nat) (h : i < l.length) : l.drop i = rd_T28 l i :: l.drop (i + 1) := by
  rw [List.drop_eq_getElem_cons h]
  unfold rd_T28
  simp [List.getD, h]
theorem rdT_mem (l : List S28) (i : Nat) (h : i < l.length) : rd_T28 l i ∈ l := by
  unfold rd_T28
  simp [List.getD, h]
def allGood (l : List S28) : Bool := l.all fun x => good x.f0 x.f1
/-- the longest inner list -/
def most (l : List S28) : Nat := l.foldr (fun x n => max x.f1.length n) 0
theorem most_mem (l : List S28) (x : S28) (h : x ∈ l) : x.f1.length ≤ most l := by
  induction l with
  | nil => cases h
  | cons y ys ih =>
    simp only [most, List.foldr_cons]
    rcases List.mem_cons.1 h with rfl | h
    · omega
    · have := ih h; unfold most at this; omega
theorem index_l0 (l : List S28) (hl : l.length ≤ 9223372036854775807) (hw : ∀ x ∈ l, wfD x) (n : Nat) : ∀ (k i : Nat), i + n = l.length → n + most l + 3 < k →
    (api_Dim_37.l0 k l (l.length : Int) i).bind (fun t => some (decide (t ≥ 0))) = some (!(allGood (l.drop i))) := by
  induction n with
  | zero =>
    intro k i h hk
    obtain ⟨k, rfl⟩ : ∃ m, k = m + 1 := ⟨k - 1, by omega⟩
    simp only [api_Dim_37.l0]
    rw [if_neg (by omega), List.drop_of_length_le (by omega)]
    rfl
  | succ n ih =>
    intro k i h hk
    obtain ⟨k, rfl⟩ : ∃ m, k = m + 1 := ⟨k - 1, by omega⟩
    have hm := rdT_mem l i (by omega)
    have hmost := most_mem l _ hm
    simp only [api_Dim_37.l0, dims_Sound_1.f]
    rw [if_pos (by omega), if_pos (by omega), if_pos (by omega), right_f _ _ (hw _ hm) k (by omega), Option.bind_some, Option.bind_some, rdT_drop l i (by omega)]
    simp only [allGood, List.all_cons]
    by_cases c : good (rd_T28 l i).f0 (rd_T28 l i).f1 = true
    · rw [c, if_neg (by simp), wrap_succ i (by omega), ih k (i + 1) (by omega) (by omega)]
      simp [allGood]
    · have c' : good (rd_T28 l i).f0 (rd_T28 l i).f1 = false := by simpa using c
      rw [c', if_pos (by simp)]
      simp
def soundS (l : List S28) : Bool := decide (1 ≤ l.length) && (decide (l.length ≤ 4) && allGood l)
theorem sound_f (l : List S28) (hl : l.length ≤ 9223372036854775807) (hw : ∀ x ∈ l, wfD x) (k : Nat) (hk : l.length + most l + 4 ≤ k) : dims_Sound.f k l = some (soundS l) := by
  unfold dims_Sound.f soundS
  by_cases c1 : (l.length : Int) > 0
  · rw [if_pos c1]
    have e1 : 1 ≤ l.length := by omega
    by_cases c2 : (l.length : Int) ≤ 4
    · rw [if_pos c2]
      have e2 : l.length ≤ 4 := by omega
      have := index_l0 l hl hw l.length k 0 (by omega) (by omega)
      rw [List.drop_zero] at this
      unfold api_Dim_29.f api_Dim_37.f
      rw [show ((0 : Nat) : Int) = 0 from rfl] at this
      rw [this]
      simp [e1, e2]
    · rw [if_neg c2]
      have e2 : ¬ l.length ≤ 4 := by omega
      simp [e2]
  · rw [if_neg c1]
    have e1 : ¬ 1 ≤ l.length := by omega
    simp [e1]
def divS : Int → List Int → List Int
  | _, [] => []
  | last, x :: xs => last * (2 + x % 4) :: divS (last * (2 + x % 4)) xs
def cutS (c : S25) : S28 := ⟨1 + c.f0 % 200, divS 1 (c.f1.take 4)⟩
def ofS (m : List S25) : List S28 := if m = [] then [⟨100, [10]⟩] else (m.take 4).map cutS
def wfC (c : S25) : Prop := 0 ≤ c.f0 ∧ c.f0 ≤ 65535 ∧ (∀ z ∈ c.f1, 0 ≤ z ∧ z ≤ 255) ∧ c.f1.length ≤ 9223372036854775807
def bnd : Nat → Int
  | 0 => 1
  | j + 1 => 5 * bnd j
theorem bnd_le (j : Nat) (h : j ≤ 4) : 1 ≤ bnd j ∧ bnd j ≤ 625 := by
  match j, h with
  | 0, _ => decide
  | 1, _ => decide
  | 2, _ => decide
  | 3, _ => decide
  | 4, _ => decide
theorem step_last {last x : Int} {j : Nat} (h1 : 1 ≤ last) (h2 : last ≤ bnd j) (hx : 0 ≤ x) : last < last * (2 + x % 4) ∧ last * (2 + x % 4) ≤ bnd (j + 1) := by
  have h3 : 0 ≤ x % 4 := Int.emod_nonneg _ (by omega)
  have h4 : x % 4 < 4 := Int.emod_lt_of_pos _ (by omega)
  generalize x % 4 = m at *
  have e : bnd (j + 1) = 5 * bnd j := rfl
  rw [e]
  have a1 : last * 2 ≤ last * (2 + m) := Int.mul_le_mul_of_nonneg_left (by omega) (by omega)
  have a2 : last * (2 + m) ≤ last * 5 := Int.mul_le_mul_of_nonneg_left (by omega) (by omega)
  constructor <;> omega
theorem rdC_mem (l : List S25) (i : Nat) (h : i < l.length) : rd_T25 l i ∈ l := by
  unfold rd_T25
  simp [List.getD, h]
theorem rdC_take (l : List S25) (i : Nat) (h : i < l.length) : l.take (i + 1) = l.take i ++ [rd_T25 l i] := by
  rw [List.take_succ_eq_append_getElem h]
  unfold rd_T25
  simp [List.getD, h]
theorem rd_mem' (l : List Int) (i : Nat) (h : i < l.length) : rd l i ∈ l := by
  unfold rd
  simp [List.getD, h]
theorem take_drop4 (l : List Int) (j : Nat) (h : j < l.length) (hj : j < 4) : (l.take 4).drop j = rd l j :: (l.take 4).drop (j + 1) := by
  have hl : j < (l.take 4).length := by rw [List.length_take]; omega
  rw [List.drop_eq_getElem_cons hl]
  congr 1
  rw [List.getElem_take]
  unfold rd
  simp [List.getD, h]
theorem of_l1 (m : List S25) (out : List S28) (i : Nat) (size : Int) (hi : i < m.length) (hc : wfC (rd_T25 m i)) (ho : out.length ≤ 4) (hi4 : i < 9223372036854775807) (r : List S28) (K0 : Nat) (n : Nat) :
    ∀ (j : Nat) (last : Int) (ds : List Int), j + n = 4 → ds.length ≤ j → 1 ≤ last → last ≤ bnd j →
    (∀ K, K0 ≤ K → stratumlaw03_Of.l0 K m (out ++ [⟨size, ds ++ divS last (((rd_T25 m i).f1.take 4).drop j)⟩]) ((i + 1 : Nat) : Int) = some r) →
    ∀ k, K0 + n + 2 ≤ k → stratumlaw03_Of.l1 k m out i last j size ds = some r := by
  induction n with
  | zero =>
    intro j last ds hj hds h1 h2 hK k hk
    obtain ⟨k, rfl⟩ : ∃ q, k = q + 1 := ⟨k - 1, by omega⟩
    simp only [stratumlaw03_Of.l1]
    rw [if_pos (by omega), if_pos (by omega)]
    have hd : ((rd_T25 m i).f1.take 4).drop j = [] := List.drop_of_length_le (by rw [List.length_take]; omega)
    have := hK k (by omega)
    rw [hd] at this
    simp only [divS, List.append_nil] at this
    rw [wrap_succ i hi4]
    split
    · rw [if_neg (by omega), if_pos (by omega)]; exact this
    · rw [if_pos (by omega)]; exact this
  | succ n ih =>
    intro j last ds hj hds h1 h2 hK k hk
    obtain ⟨k, rfl⟩ : ∃ q, k = q + 1 := ⟨k - 1, by omega⟩
    simp only [stratumlaw03_Of.l1]
    rw [if_pos (by omega), if_pos (by omega)]
    by_cases c : (j : Int) < ((rd_T25 m i).f1.length : Int)
    · have hj2 : j < (rd_T25 m i).f1.length := by omega
      rw [if_pos c, if_pos (by omega), if_pos (by omega), if_pos (by omega)]
      have hx := hc.2.2.1 _ (rd_mem' _ j hj2)
      have t1 : Int.tmod (rd (rd_T25 m i).f1 j) 4 = rd (rd_T25 m i).f1 j % 4 := Int.tmod_eq_emod_of_nonneg hx.1
      obtain ⟨s1, s2⟩ := step_last h1 h2 hx.1
      have hb := bnd_le (j + 1) (by omega)
      have g1 : 0 ≤ rd (rd_T25 m i).f1 j % 4 := Int.emod_nonneg _ (by omega)
      have g2 : rd (rd_T25 m i).f1 j % 4 < 4 := Int.emod_lt_of_pos _ (by omega)
      rw [t1, wrap_small g1 (by omega), wrap_small (x := 2 + rd (rd_T25 m i).f1 j % 4) (by omega) (by omega), wrap_small (x := last * (2 + rd (rd_T25 m i).f1 j % 4)) (by omega) (by omega), wrap_succ j (by omega)]
      refine ih (j + 1) _ _ (by omega) (by rw [List.length_append, List.length_singleton]; omega) (by omega) s2 (fun K hK0 => ?_) k (by omega)
      have := hK K hK0
      rw [take_drop4 _ j hj2 (by omega)] at this
      simp only [divS] at this
      rw [List.append_assoc]
      exact this
    · rw [if_neg c, if_pos (by omega), wrap_succ i hi4]
      have hd : ((rd_T25 m i).f1.take 4).drop j = [] := List.drop_of_length_le (by rw [List.length_take]; omega)
      have := hK k (by omega)
      rw [hd] at this
      simp only [divS, List.append_nil] at this
      exact this
theorem of_l0 (m : List S25) (hl : m.length ≤ 9223372036854775807) (hw : ∀ c ∈ m, wfC c) (n : Nat) : ∀ (k i : Nat), i + n = min m.length 4 → 10 * n + 5 ≤ k → stratumlaw03_Of.l0 k m ((m.take i).map cutS) i = some (ofS m) := by
  induction n with
  | zero =>
    intro k i h hk
    obtain ⟨k, rfl⟩ : ∃ q, k = q + 1 + 1 := ⟨k - 2, by omega⟩
    have fin : stratumlaw03_Of.j1 (k + 1) m ((m.take i).map cutS) i false = some (ofS m) := by
      simp only [stratumlaw03_Of.j1]
      rw [if_neg (by simp)]
      unfold ofS
      cases m with
      | nil =>
        rw [if_pos (by simp), if_pos (by simp), if_pos rfl]; simp
      | cons x xs =>
        rw [if_neg (by simp only [List.length_map, List.length_take, List.length_cons]; simp only [List.length_cons] at h; omega), if_neg (by simp)]
        have : (x :: xs).take i = (x :: xs).take 4 := by
          by_cases c : (x :: xs).length ≤ 4
          · rw [List.take_of_length_le (by omega), List.take_of_length_le c]
          · have : i = 4 := by omega
            rw [this]
        rw [this]
    rw [stratumlaw03_Of.l0]
    split
    · have : decide ((i : Int) < 4) = false := by rw [decide_eq_false_iff_not]; omega
      rw [this]; exact fin
    · exact fin
  | succ n ih =>
    intro k i h hk
    obtain ⟨k, rfl⟩ : ∃ q, k = q + 1 + 1 := ⟨k - 2, by omega⟩
    have hi : i < m.length := by omega
    have hc := hw _ (rdC_mem m i hi)
    rw [stratumlaw03_Of.l0]
    have : decide ((i : Int) < 4) = true := by rw [decide_eq_true_eq]; omega
    rw [if_pos (by omega), this]
    simp only [stratumlaw03_Of.j1]
    rw [if_pos trivial, if_pos (by omega), if_pos (by omega)]
    have t1 : Int.tmod (rd_T25 m i).f0 200 = (rd_T25 m i).f0 % 200 := Int.tmod_eq_emod_of_nonneg hc.1
    have g1 : 0 ≤ (rd_T25 m i).f0 % 200 := Int.emod_nonneg _ (by omega)
    have g2 : (rd_T25 m i).f0 % 200 < 200 := Int.emod_lt_of_pos _ (by omega)
    rw [t1, wrap_small g1 (by omega), wrap_small (x := 1 + (rd_T25 m i).f0 % 200) (by omega) (by omega)]
    refine of_l1 m _ i _ hi hc (by rw [List.length_map, List.length_take]; omega) (by omega) (ofS m) (10 * n + 5) 4 0 1 [] (by omega) (by simp) (Int.le_refl 1) (Int.le_refl 1) (fun K hK => ?_) k (by omega)
    have := ih K (i + 1) (by omega) (by omega)
    rw [rdC_take m i hi, List.map_append] at this
    exact this
theorem of_f (m : List S25) (hl : m.length ≤ 9223372036854775807) (hw : ∀ c ∈ m, wfC c) (k : Nat) (hk : 45 ≤ k) : stratumlaw03_Of.f k m = some (ofS m) := by
  unfold stratumlaw03_Of.f
  have := of_l0 m hl hw (min m.length 4) k 0 (by omega) (by omega)
  simpa using this
theorem goodDiv_divS (xs : List Int) : ∀ (j : Nat) (last : Int), j + xs.length ≤ 4 → 1 ≤ last → last ≤ bnd j → (∀ z ∈ xs, 0 ≤ z) → goodDiv last (divS last xs) = true := by
  induction xs with
  | nil => intro j last _ _ _ _; rfl
  | cons x xs ih =>
    intro j last hj h1 h2 hz
    simp only [List.length_cons] at hj
    obtain ⟨s1, s2⟩ := step_last h1 h2 (hz x (by simp))
    have hb := bnd_le (j + 1) (by omega)
    simp only [divS, goodDiv, Bool.and_eq_true, decide_eq_true_eq]
    exact ⟨s1, by omega, Int.mul_tmod_right _ _, ih (j + 1) _ (by omega) (by omega) s2 (fun z h => hz z (by simp [h]))⟩
theorem divS_length (xs : List Int) : ∀ last, (divS last xs).length = xs.length := by
  induction xs with
  | nil => intro _; rfl
  | cons x xs ih => intro last; simp [divS, ih]
theorem cut_good (c : S25) (hc : wfC c) : good (cutS c).f0 (cutS c).f1 = true ∧ (cutS c).f1.length ≤ 4 ∧ (cutS c).f0 ≤ 200 := by
  have g1 : 0 ≤ c.f0 % 200 := Int.emod_nonneg _ (by omega)
  have g2 : c.f0 % 200 < 200 := Int.emod_lt_of_pos _ (by omega)
  have hl : (divS 1 (c.f1.take 4)).length ≤ 4 := by rw [divS_length, List.length_take]; omega
  have hg := goodDiv_divS (c.f1.take 4) 0 1 (by rw [List.length_take]; omega) (Int.le_refl 1) (Int.le_refl 1) (fun z h => (hc.2.2.1 z (List.mem_of_mem_take h)).1)
  unfold cutS good
  simp only
  refine ⟨?_, hl, by omega⟩
  simp only [Bool.and_eq_true, decide_eq_true_eq]
  exact ⟨by omega, by omega, hl, hg⟩
theorem of_each (m : List S25) (hw : ∀ c ∈ m, wfC c) : ∀ x ∈ ofS m, good x.f0 x.f1 = true ∧ x.f1.length ≤ 4 ∧ x.f0 ≤ 200 := by
  intro x hx
  unfold ofS at hx
  split at hx
  · obtain rfl := List.mem_singleton.1 hx
    decide
  · obtain ⟨c, hc, rfl⟩ := List.mem_map.1 hx
    exact cut_good c (hw c (List.mem_of_mem_take hc))
theorem of_len (m : List S25) : 1 ≤ (ofS m).length ∧ (ofS m).length ≤ 4 := by
  unfold ofS
  split
  · simp
  · rename_i h
    have : m.length ≠ 0 := fun e => h (List.length_eq_zero_iff.1 e)
    rw [List.length_map, List.length_take]; omega
theorem of_sound (m : List S25) (hw : ∀ c ∈ m, wfC c) : soundS (ofS m) = true := by
  obtain ⟨h1, h2⟩ := of_len m
  unfold soundS allGood
  simp only [Bool.and_eq_true, decide_eq_true_eq, List.all_eq_true]
  exact ⟨h1, h2, fun x hx => (of_each m hw x hx).1⟩
theorem of_wfD (m : List S25) (hw : ∀ c ∈ m, wfC c) : ∀ x ∈ ofS m, wfD x := fun x hx => by
  have := (of_each m hw x hx).2.1
  unfold wfD; omega
theorem most_le (l : List S28) (n : Nat) (h : ∀ x ∈ l, x.f1.length ≤ n) : most l ≤ n := by
  induction l with
  | nil => exact Nat.zero_le _
  | cons y ys ih =>
    have h1 := ih (fun x hx => h x (by simp [hx]))
    have h2 := h y (by simp)
    simp only [most, List.foldr_cons]
    unfold most at h1
    omega
theorem of_most (m : List S25) (hw : ∀ c ∈ m, wfC c) : most (ofS m) ≤ 4 := most_le _ 4 (fun x hx => (of_each m hw x hx).2.1)
theorem known_f (k : Nat) (hk : 60 ≤ k) : stratumlaw03_known.f k = some true := at_rounds (fun k => stratumlaw03_known.mono k) hk (show stratumlaw03_known.f 60 = some true by kernel_rfl)
theorem ofS_one (c : S25) : ofS [c] = [cutS c] := by unfold ofS; simp
theorem rdT_zero (x : S28) (xs : List S28) : rd_T28 (x :: xs) 0 = x := rfl
theorem one_wf {c : S25} (h : wfC c) : ∀ x ∈ [c], wfC x := fun x hx => by obtain rfl := List.mem_singleton.1 hx; exact h
theorem ofone_f (a : Int) (l : List Int) (h : wfC ⟨a, l⟩) (k : Nat) (hk : 45 ≤ k) : stratumlaw03_Of.f k ([(⟨a, l⟩ : S25)]) = some [cutS ⟨a, l⟩] := by
  rw [of_f [(⟨a, l⟩ : S25)] (by simp) (one_wf h) k hk, ofS_one]
def badS (s : Int) (d : List Int) : List S28 := [⟨0, d⟩, ⟨10001, d⟩, ⟨s, [3, 7]⟩, ⟨s, [1]⟩, ⟨s, [4, 2]⟩, ⟨s, [2, 4, 8, 16, 32]⟩]
theorem bad_all (s : Int) (d : List Int) (h : d.length ≤ 4) : ∀ x ∈ badS s d, good x.f0 x.f1 = false ∧ x.f1.length ≤ 5 := by
  intro x hx
  simp only [badS, List.mem_cons, List.not_mem_nil, or_false] at hx
  rcases hx with rfl | rfl | rfl | rfl | rfl | rfl
  · exact ⟨by simp [good], by simp only; omega⟩
  · exact ⟨by simp [good], by simp only; omega⟩
  · exact ⟨by simp [good, goodDiv], by simp⟩
  · exact ⟨by simp [good, goodDiv], by simp⟩
  · exact ⟨by simp [good, goodDiv], by simp⟩
  · exact ⟨by simp [good], by simp⟩
theorem sound_small (l : List S28) (h : l.length ≤ 5) (hl : ∀ x ∈ l, x.f1.length ≤ 5) (k : Nat) (hk : 20 ≤ k) : dims_Sound.f k l = some (soundS l) := by
  have := most_le l 5 hl
  exact sound_f l (by omega) (fun x hx => by have := hl x hx; unfold wfD; omega) k (by omega)
theorem pure (a0 : Int) (l0 : List Int) (h0 : wfC ⟨a0, l0⟩) (a1 : Int) (h1 : 0 ≤ a1 ∧ a1 ≤ 255) : ∃ k, stratumlaw03_DimsBad.f k a0 l0 a1 = some true := by
  refine ⟨70, ?_⟩
  obtain ⟨g1, g2, g3⟩ := cut_good ⟨a0, l0⟩ h0
  unfold stratumlaw03_DimsBad.f
  rw [ofone_f a0 l0 h0 70 (by omega), Option.bind_some, if_pos (show (0 : Int) < (([cutS ⟨a0, l0⟩] : List S28).length : Int) by simp), rdT_zero]
  generalize cutS ⟨a0, l0⟩ = x at *
  obtain ⟨s, d⟩ := x
  simp only at g1 g2 g3
  show (some (badS s d)).bind _ = _
  have hy := bad_all s d g2
  have hlen : (badS s d).length = 6 := rfl
  generalize badS s d = y at *
  have e1 : wrap64 a1 = a1 := wrap_small h1.1 (by omega)
  have e2 : Int.tmod a1 (y.length : Int) = a1 % (y.length : Int) := Int.tmod_eq_emod_of_nonneg h1.1
  have b1 := Int.emod_nonneg a1 (show (y.length : Int) ≠ 0 by omega)
  have b2 := Int.emod_lt_of_pos a1 (show 0 < (y.length : Int) by omega)
  rw [Option.bind_some, e1, e2, if_neg (by omega), if_pos b1, if_pos b2, known_f 70 (by omega), Option.bind_some, if_pos rfl]
  obtain ⟨i, hi⟩ := Int.eq_ofNat_of_zero_le b1
  rw [hi] at b2 ⊢
  obtain ⟨n1, n2⟩ := hy _ (rdT_mem y i (by omega))
  generalize rd_T28 y i = z at *
  obtain ⟨zs, zd⟩ := z
  simp only at n1 n2 ⊢
  have m1 : ∀ x ∈ ([⟨s, d⟩] : List S28), x.f1.length ≤ 5 := fun x hx => by obtain rfl := List.mem_singleton.1 hx; simp only; omega
  have m2 : ∀ x ∈ ([⟨s, d⟩, ⟨zs, zd⟩] : List S28), x.f1.length ≤ 5 := fun x hx => by
    simp only [List.mem_cons, List.not_mem_nil, or_false] at hx
    rcases hx with rfl | rfl
    · simp only; omega
    · exact n2
  have m3 : ∀ x ∈ ([⟨s, d⟩, ⟨s, d⟩, ⟨s, d⟩, ⟨s, d⟩, ⟨s, d⟩] : List S28), x.f1.length ≤ 5 := fun x hx => by
    simp only [List.mem_cons, List.not_mem_nil, or_false] at hx
    rcases hx with rfl | rfl | rfl | rfl | rfl <;> (simp only; omega)
  rw [sound_small [⟨s, d⟩] (by simp) m1 70 (by omega), Option.bind_some, show soundS [⟨s, d⟩] = true by simp [soundS, allGood, g1], if_pos rfl,
    sound_small [⟨s, d⟩, ⟨zs, zd⟩] (by simp) m2 70 (by omega), Option.bind_some, show soundS [⟨s, d⟩, ⟨zs, zd⟩] = false by simp [soundS, allGood, n1], if_neg (by simp),
    sound_small [] (by simp) (fun x hx => by cases hx) 70 (by omega), Option.bind_some, show soundS [] = false by simp [soundS], if_neg (by simp),
    sound_small [⟨s, d⟩, ⟨s, d⟩, ⟨s, d⟩, ⟨s, d⟩, ⟨s, d⟩] (by simp) m3 70 (by omega), Option.bind_some, show soundS [⟨s, d⟩, ⟨s, d⟩, ⟨s, d⟩, ⟨s, d⟩, ⟨s, d⟩] = false by simp [soundS]]
  rfl
theorem list_of {α : Type} {n : Nat} {p : Nat → α → Prop} (h : ∀ i, i < n → ∃ x, p i x) : ∃ l : List α, l.length = n ∧ ∀ j x, l[j]? = some x → p j x := by
  induction n with
  | zero => exact ⟨[], rfl, fun j x hx => by simp at hx⟩
  | succ n ih =>
    obtain ⟨l, hl, hp⟩ := ih (fun i hi => h i (by omega))
    obtain ⟨x, hx⟩ := h n (by omega)
    refine ⟨l ++ [x], by simp [hl], fun j y hy => ?_⟩
    by_cases hj : j < l.length
    · rw [List.getElem?_append_left hj] at hy; exact hp j y hy
    · have hj2 := (List.getElem?_eq_some_iff.1 hy).1
      simp at hj2
      have e : j = n := by omega
      subst e
      rw [List.getElem?_append_right (by omega)] at hy
      simp [hl] at hy
      subst hy
      exact hx
theorem addr_add_add (a : Addr) (i j : Nat) : (a.add i).add j = a.add (i + j) := by
  unfold Go.Addr.add
  (repeat' split) <;> (try simp_all) <;> (try omega)
section
variable {H : Type} {enc : TypeId × Value → H} {w : World}
theorem read_ints {t e : TypeId} {k : IntKind} {fuel : Nat} {v : Value} {x : DataW H × List MemPlace} (ht : Try.prog.underlying t = some (.slice e)) (he : Try.prog.underlying e = some (.int k)) (hc : Try.prog.cellsOf e = 1)
    (h : DataW.trod enc Try.prog w 0 (fun _ => true) true fuel t [v] = some x) : ∃ A c l, v = .slice A l.length c ∧ l.length ≤ c ∧ c ≤ maxLen ∧ (∀ z ∈ l, (Lit.int k z).wf = true) ∧ Kd.C (Kd.int k) w A l.length l := by
  rcases open_ints ht he hc h with ⟨hcs, _⟩ | ⟨a, len, cap, zs, hcs, _, hl, hm, hz, _, hcell, hwz⟩
  · obtain rfl : v = .slice none 0 0 := by simpa using hcs
    exact ⟨none, 0, [], rfl, Nat.le_refl _, by unfold maxLen; omega, (fun z hz => by cases hz), Kd.C_nil _ w⟩
  · obtain rfl : v = .slice (some a) len cap := by simpa using hcs
    simp only [if_true] at hz
    have hlen : (zs.take len).length = len := by rw [List.length_take]; omega
    refine ⟨some a, cap, zs.take len, by rw [hlen], by omega, hm, fun z hz' => hwz z (List.mem_of_mem_take hz'), ⟨rfl, by unfold maxLen at hm; omega, fun _ => ⟨a, rfl, fun j p hp => ⟨[.int k p], rfl, rfl, fun i u hu => ?_⟩⟩⟩⟩
    match i, hu with
    | 0, hu =>
      have e : Value.int k p = u := by simpa using hu
      subst e
      obtain ⟨hj, hj2⟩ := List.getElem?_eq_some_iff.1 hp
      have hj3 : j < zs.length := by rw [hlen] at hj; omega
      have := hcell j hj3
      rw [List.getElem_take] at hj2
      rw [List.getD_eq_getElem?_getD, List.getElem?_eq_getElem hj3, Option.getD_some, hj2] at this
      simpa [Kd.int, Kd.scalar] using this
    | i + 1, hu => simp at hu
end
theorem own : ownKnob Try.prog.godebug = none := by kernel_rfl
theorem laidOut : laidOutB Try.prog = true := by kernel_rfl
theorem wfI {x : Int} (h : (Lit.int .i64 x).wf = true) : -9223372036854775808 ≤ x ∧ x < 9223372036854775808 := by
  simp [Lit.wf, IntKind.min, IntKind.max, IntKind.signed, IntKind.bits] at h; omega
theorem wfB {x : Int} (h : (Lit.int .u8 x).wf = true) : 0 ≤ x ∧ x ≤ 255 := by
  simp [Lit.wf, IntKind.min, IntKind.max, IntKind.signed, IntKind.bits] at h; omega
theorem wfH {x : Int} (h : (Lit.int .u16 x).wf = true) : 0 ≤ x ∧ x ≤ 65535 := by
  simp [Lit.wf, IntKind.min, IntKind.max, IntKind.signed, IntKind.bits] at h; omega
theorem lenLe {n : Nat} (h : n ≤ maxLen) : n ≤ 9223372036854775807 := by unfold maxLen at h; omega
set_option maxRecDepth 100000 in
theorem lifted (os : Os) (started : os.Started) (H : Type) (enc : TypeId × Value → H) :
    ReturnsInHanded {} Try.checked os 3 .any (Rows.dimsBadSpec.pre6 enc Try.prog Try.f3 Rows.dimsBadRow.domain false) (Rows.dimsBadSpec.post enc Try.prog Try.f3 false true false false) := by
  refine returnsInHanded_of_change_sized (C := Try.checked) own started (by kernel_rfl) Try.func3
    (ChangeSpec.witness6 (enc := enc) (C := Try.checked) false ⟨#[], #[.agg #[.int .u16 0, .slice none 0 0], .int .u8 0], []⟩ 8 (by kernel_rfl) (by kernel_rfl) (by kernel_rfl) (by kernel_rfl)) ?_
  intro W base args ds gs before hval0 hW hcnd _ _
  have hval : ∀ (j : Nat) t v, Try.f3.params[j]? = some t → args[j]? = some v → Value.okWide Try.prog W .any base t v := hval0
  have hW' := hW
  obtain ⟨p, q, hA0, hV, rfl, hfz, hnd⟩ := hW
  have hA : DataW.TrodAll enc Try.prog W 0 (fun _ => true) true Try.f3.params.toList args.toList ds p := hA0
  rw [Try.params3] at hA hval
  obtain ⟨v0, vs0, d0, ds0, p0, q0, hargs, rfl, rfl, h0, r0⟩ := trodAll_cons hA
  obtain ⟨v1, vs1, d1, ds1, p1, q1, rfl, rfl, rfl, h1, r1⟩ := trodAll_cons r0
  obtain ⟨rfl, rfl, rfl⟩ := trodAll_nil r1
  obtain rfl : args = #[v0, v1] := by cases args; simp_all
  obtain ⟨rfl, rfl⟩ := trodVars_none hV
  have k0 := h0
  have lt0 : ∀ x ∈ p0, x.block < W.heap.size := by obtain ⟨m, hm⟩ := k0; exact DataW.trod_lt m _ _ _ hm
  obtain ⟨x0, z0, y0_, y1_, m_, rfl, hd_, hp_, t0_, t1_⟩ := open_agg2 Try.underlying25 (by kernel_rfl) (by kernel_rfl) (hval 0 25 v0 rfl rfl) h0
  obtain ⟨a0, e0_, _, w0⟩ := DataW.trod_int Try.underlying22 t0_
  obtain rfl : x0 = .int .u16 a0 := by simpa using e0_
  obtain ⟨A0, c0, l0, rfl, hc0, hm0, hw0, hC0⟩ := read_ints Try.underlying23 Try.underlying5 (by kernel_rfl) t1_
  clear hd_ hp_ t0_ t1_ e0_
  obtain ⟨a1, rfl, rfl, rfl, w1⟩ := open_int Try.underlying5 (hval 1 5 v1 rfl rfl) h1
  clear hA0 hval0
  obtain ⟨k, hk⟩ := pure a0 l0 ⟨(wfH w0).1, (wfH w0).2, fun z hz => wfB (hw0 z hz), lenLe (Nat.le_trans hc0 hm0)⟩ a1 (wfB w1)
  refine (stratumlaw03_DimsBad.calls k a0 (fun k => k < W.heap.size) A0 c0 l0 a1 true W (Kd.V_mk hc0 (Kd.C_F (Kd.heap_int .u8) hC0)) hk ⟨rfl⟩).mono fun e W' ⟨he, bel⟩ => ?_
  subst he
  exact ⟨_, rfl, _, _, _, [], _, [], hW', trodAll_mk1 (shut_bool Try.underlying4 _), (trodAll_cons_mk (Below.trod laidOut (by kernel_rfl) (of_decide_eq_true (by kernel_rfl)) k0 bel lt0) (trodAll_cons_mk (shut_int Try.underlying5 w1) trodAll_mk0)), rfl, bel.frame _, fun h => by cases h⟩
theorem over : Rows.dimsBadRow.holds Try.pinned (OpenSpec.ofChange Rows.dimsBadSpec) :=
  OpenClaim.holds_of_wide 3 Try.f3 rfl rfl rfl rfl rfl rfl rfl ⟨rfl, rfl, rfl, rfl, rfl⟩ rfl rfl rfl rfl rfl (by kernel_rfl) Try.func3 (by kernel_rfl)
    (of_decide_eq_true (by kernel_rfl)) (by unfold Func.isWrapper; first | (rw [if_pos (by decide +kernel)]; kernel_rfl) | (rw [if_neg (by decide +kernel)]; exact ⟨rfl, rfl⟩))
    (fun os started H enc _ => lifted os started H enc)
theorem proved : Rows.DimsBadSaid := over
#print axioms proved
end Go.Proofs.Ytefpmpmkodogeaa.dimsBad
namespace Go.Proofs.Ytefpmpmkodogeaa
/-- The row, under a short name, for the claim. -/
theorem dimsBad_holds : Rows.DimsBadSaid := dimsBad.proved
end Go.Proofs.Ytefpmpmkodogeaa
