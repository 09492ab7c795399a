/- What is proved here: numbers merged in two parts, in either order, come to the cell of all of them (conditions: none beyond the statement's own). -/
import Derived.Test.YtfepnokgadacnaaPCellOrderx2
namespace Go.Proofs.Ytfepnokgadacnaa.Pure
open Go.RowKit Go.Proofs.Ytfepnokgadacnaa.PCellOrder Go.Proofs.YtfepnokgadacnaaW.PrintWords Go.Proofs.YtfepnokgadacnaaW.PrintLast Go.Proofs.YtfepnokgadacnaaW.PrintMore
set_option maxRecDepth 4000

abbrev C4 := Int × Int × Int × Int
def step (c : C4) (v : Int) : C4 := if c.1 = 0 then (1, v, v, v) else (wrap64 (c.1 + 1), wrap64 (c.2.1 + v), mn c.2.2.1 v, mx c.2.2.2 v)
def S (l : List Int) : C4 := l.foldl step (0, 0, 0, 0)
def isum (l : List Int) : Int := l.foldr (· + ·) 0
theorem isum_append (a b : List Int) : isum (a ++ b) = isum a + isum b := by
  unfold isum
  induction a with
  | nil => simp
  | cons x xs ih => simp [ih]; omega
theorem wrap_wf {x : Int} (h : (Lit.int .i64 x).wf = true) : wrap64 x = x := by
  simp [Lit.wf, IntKind.min, IntKind.max, IntKind.signed, IntKind.bits] at h
  unfold wrap64
  omega
theorem foldl_step (xs : List Int) : ∀ (n s a b : Int), 1 ≤ n → n + xs.length < 9223372036854775808 → wrap64 s = s →
    xs.foldl step (n, s, a, b) = (n + xs.length, wrap64 (s + isum xs), xs.foldl mn a, xs.foldl mx b) := by
  induction xs with
  | nil => intro n s a b h1 h2 h3; simp [isum, h3]
  | cons x xs ih =>
    intro n s a b h1 h2 h3
    simp only [List.length_cons] at h2
    have e : wrap64 (n + 1) = n + 1 := by unfold wrap64; omega
    have e2 : wrap64 (wrap64 (s + x)) = wrap64 (s + x) := by unfold wrap64; omega
    have e3 : step (n, s, a, b) x = (n + 1, wrap64 (s + x), mn a x, mx b x) := by
      unfold step; rw [if_neg (show ¬ n = 0 by omega)]; simp [e]
    rw [List.foldl_cons, e3, ih (n + 1) _ _ _ (by omega) (by omega) e2]
    have e4 : wrap64 (wrap64 (s + x) + isum xs) = wrap64 (s + isum (x :: xs)) := by
      have : isum (x :: xs) = x + isum xs := rfl
      rw [this]; unfold wrap64; omega
    rw [e4]
    simp
    omega
theorem S_nil : S [] = (0, 0, 0, 0) := rfl
theorem S_cons (x : Int) (xs : List Int) (hw : wrap64 x = x) (hl : xs.length + 1 < 9223372036854775808) :
    S (x :: xs) = ((xs.length : Int) + 1, wrap64 (x + isum xs), xs.foldl mn x, xs.foldl mx x) := by
  unfold S
  have e3 : step (0, 0, 0, 0) x = (1, x, x, x) := by unfold step; rw [if_pos rfl]
  rw [List.foldl_cons, e3, foldl_step xs 1 x x x (by omega) (by omega) hw]
  simp
  omega
theorem mn_assoc (a b c : Int) : mn (mn a b) c = mn a (mn b c) := by unfold mn; repeat' split <;> omega
theorem mx_assoc (a b c : Int) : mx (mx a b) c = mx a (mx b c) := by unfold mx; repeat' split <;> omega
theorem foldl_mn (l : List Int) : ∀ a b, l.foldl mn (mn a b) = mn a (l.foldl mn b) := by
  induction l with
  | nil => intro a b; rfl
  | cons x xs ih => intro a b; simp only [List.foldl_cons]; rw [mn_assoc, ih]
theorem foldl_mx (l : List Int) : ∀ a b, l.foldl mx (mx a b) = mx a (l.foldl mx b) := by
  induction l with
  | nil => intro a b; rfl
  | cons x xs ih => intro a b; simp only [List.foldl_cons]; rw [mx_assoc, ih]
theorem mn_le_foldl (l : List Int) : ∀ a, l.foldl mn a ≤ a ∧ ∀ x ∈ l, l.foldl mn a ≤ x := by
  induction l with
  | nil => intro a; simp
  | cons x xs ih =>
    intro a
    have h := ih (mn a x)
    have h1 : mn a x ≤ a ∧ mn a x ≤ x := by unfold mn; split <;> omega
    simp only [List.foldl_cons]
    refine ⟨Int.le_trans h.1 h1.1, fun y hy => ?_⟩
    rcases List.mem_cons.1 hy with rfl | hy
    · exact Int.le_trans h.1 h1.2
    · exact h.2 y hy
theorem mx_ge_foldl (l : List Int) : ∀ a, a ≤ l.foldl mx a ∧ ∀ x ∈ l, x ≤ l.foldl mx a := by
  induction l with
  | nil => intro a; simp
  | cons x xs ih =>
    intro a
    have h := ih (mx a x)
    have h1 : a ≤ mx a x ∧ x ≤ mx a x := by unfold mx; split <;> omega
    simp only [List.foldl_cons]
    refine ⟨Int.le_trans h1.1 h.1, fun y hy => ?_⟩
    rcases List.mem_cons.1 hy with rfl | hy
    · exact Int.le_trans h1.2 h.1
    · exact h.2 y hy
theorem add_step (s : C4) (v : Int) (hs : s.1 = 0 → s = (0, 0, 0, 0)) : cell_total_add.f s.1 s.2.1 s.2.2.1 s.2.2.2 1 v v v = some (step s v) := by
  unfold cell_total_add.f step
  rw [if_neg (by simp)]
  by_cases h : s.1 = 0
  · rw [if_pos h, hs h]; rfl
  · rw [if_neg h, if_neg (by simp [h])]
theorem take_snoc (l : List Int) (i : Nat) (h : i < l.length) : l.take (i + 1) = l.take i ++ [rd l i] := by
  rw [List.take_succ_eq_append_getElem h]
  unfold rd
  simp [List.getD, h]
theorem S_snoc (l : List Int) (v : Int) : S (l ++ [v]) = step (S l) v := by unfold S; rw [List.foldl_append]; rfl
theorem S_zero (l : List Int) (hw : ∀ x ∈ l, wrap64 x = x) (hl : l.length < 9223372036854775808) (h : (S l).1 = 0) : l = [] := by
  cases l with
  | nil => rfl
  | cons x xs =>
    rw [S_cons x xs (hw x (by simp)) (by simpa using hl)] at h
    simp only at h
    omega
theorem all_l0 (l : List Int) (hw : ∀ x ∈ l, wrap64 x = x) (hl : l.length < 9223372036854775808) (d : Nat) : ∀ (k i : Nat), i + d = l.length → d < k →
    cell_All.l0 k l (l.length : Int) i (S (l.take i)).1 (S (l.take i)).2.1 (S (l.take i)).2.2.1 (S (l.take i)).2.2.2 = some (S l) := by
  induction d with
  | zero =>
    intro k i h hk
    obtain ⟨k, rfl⟩ : ∃ m, k = m + 1 := ⟨k - 1, by omega⟩
    simp only [cell_All.l0]
    rw [if_neg (by omega), List.take_of_length_le (by omega)]
  | succ d ih =>
    intro k i h hk
    obtain ⟨k, rfl⟩ : ∃ m, k = m + 1 := ⟨k - 1, by omega⟩
    simp only [cell_All.l0]
    rw [if_pos (by omega), if_pos (by omega), if_pos (by omega)]
    simp only [cell_Of.f, Option.bind_some]
    have hz : (S (l.take i)).1 = 0 → S (l.take i) = (0, 0, 0, 0) := fun hz => by
      rw [S_zero (l.take i) (fun x hx => hw x (List.mem_of_mem_take hx)) (by rw [List.length_take]; omega) hz, S_nil]
    rw [add_step _ _ hz]
    simp only [Option.bind_some]
    have e : wrap64 ((i : Int) + 1) = ((i + 1 : Nat) : Int) := by unfold wrap64; omega
    rw [e, ← S_snoc, ← take_snoc l i (by omega)]
    exact ih k (i + 1) (by omega) (by omega)
theorem all_f (l : List Int) (hw : ∀ x ∈ l, wrap64 x = x) (hl : l.length < 9223372036854775808) (k : Nat) (hk : l.length < k) : cell_All.f k l = some (S l) := by
  unfold cell_All.f
  have := all_l0 l hw hl l.length k 0 (by omega) hk
  simpa [S_nil] using this
theorem sound_S (l : List Int) (hw : ∀ x ∈ l, wrap64 x = x) (hl : l.length < 9223372036854775808) : cell_Sound.f (S l).1 (S l).2.1 (S l).2.2.1 (S l).2.2.2 = some true := by
  cases l with
  | nil => rfl
  | cons x xs =>
    rw [S_cons x xs (hw x (by simp)) (by simpa using hl)]
    unfold cell_Sound.f
    simp only
    rw [if_neg (by omega)]
    cases xs with
    | nil =>
      rw [if_pos (by simp)]
      have : wrap64 (x + isum []) = x := by simp [isum, hw x (by simp)]
      rw [this]
      simp [cell_Of.f]
    | cons y ys =>
      rw [if_neg (by simp only [List.length_cons]; omega)]
      simp only [Option.some.injEq, decide_eq_true_eq]
      exact Int.le_trans (mn_le_foldl (y :: ys) x).1 (mx_ge_foldl (y :: ys) x).1
theorem known_f (k : Nat) (hk : 2 < k) : stratumlaw01_known.f k = some true := by
  unfold stratumlaw01_known.f
  have e : S [3, -1] = (2, 2, -1, 3) := by simp [S, step, wrap64, mn, mx]
  rw [all_f [3, -1] (by simp [wrap64]) (by simp) k (by simpa using hk), e]
  rfl
theorem S_one (a : Int) : S [a] = (1, a, a, a) := rfl
theorem wf_all {l : List Int} (h : ∀ x ∈ l, (Lit.int .i64 x).wf = true) : ∀ x ∈ l, wrap64 x = x := fun x hx => wrap_wf (h x hx)
theorem merge_S (a b : List Int) (ha : ∀ x ∈ a, wrap64 x = x) (hb : ∀ x ∈ b, wrap64 x = x) (hl : a.length + b.length < 9223372036854775808) :
    cell_Merge.f (S a).1 (S a).2.1 (S a).2.2.1 (S a).2.2.2 (S b).1 (S b).2.1 (S b).2.2.1 (S b).2.2.2 = some (S (a ++ b)) := by
  cases a with
  | nil => simp [S_nil, cell_Merge.f]
  | cons x xs =>
    have hxl : xs.length + 1 < 9223372036854775808 := by simp only [List.length_cons] at hl; omega
    cases b with
    | nil =>
      rw [List.append_nil, S_nil, S_cons x xs (ha x (by simp)) hxl]
      unfold cell_Merge.f
      simp only
      rw [if_neg (by omega), if_pos trivial]
    | cons y ys =>
      simp only [List.length_cons] at hl
      have hxy : (xs ++ y :: ys).length + 1 < 9223372036854775808 := by simp; omega
      rw [List.cons_append, S_cons x xs (ha x (by simp)) hxl, S_cons y ys (hb y (by simp)) (by omega), S_cons x (xs ++ y :: ys) (ha x (by simp)) hxy]
      unfold cell_Merge.f cell_total_add.f
      simp only
      rw [if_neg (by omega), if_neg (by omega), if_neg (by simp; intro h; omega), if_neg (by simp; intro h; omega)]
      simp only [Option.bind_some, Option.some.injEq, Prod.mk.injEq]
      refine ⟨?_, ?_, ?_, ?_⟩
      · simp only [List.length_append, List.length_cons]
        unfold wrap64; omega
      · rw [isum_append]
        have : isum (y :: ys) = y + isum ys := rfl
        rw [this]; unfold wrap64; omega
      · rw [List.foldl_append, List.foldl_cons, foldl_mn]
      · rw [List.foldl_append, List.foldl_cons, foldl_mx]
theorem mn_comm (a b : Int) : mn a b = mn b a := by unfold mn; repeat' split <;> omega
theorem mx_comm (a b : Int) : mx a b = mx b a := by unfold mx; repeat' split <;> omega
theorem merge_comm (a b : List Int) (ha : ∀ x ∈ a, wrap64 x = x) (hb : ∀ x ∈ b, wrap64 x = x) (hl : a.length + b.length < 9223372036854775808) :
    cell_Merge.f (S b).1 (S b).2.1 (S b).2.2.1 (S b).2.2.2 (S a).1 (S a).2.1 (S a).2.2.1 (S a).2.2.2 = some (S (a ++ b)) := by
  rw [merge_S b a hb ha (by omega)]
  congr 1
  cases a with
  | nil => simp
  | cons x xs =>
    cases b with
    | nil => simp
    | cons y ys =>
      simp only [List.length_cons] at hl
      rw [List.cons_append, List.cons_append, S_cons x _ (ha x (by simp)) (by simp; omega), S_cons y _ (hb y (by simp)) (by simp; omega)]
      simp only [Prod.mk.injEq]
      refine ⟨?_, ?_, ?_, ?_⟩
      · simp only [List.length_append, List.length_cons]; omega
      · rw [isum_append, isum_append]
        have e1 : isum (y :: ys) = y + isum ys := rfl
        have e2 : isum (x :: xs) = x + isum xs := rfl
        rw [e1, e2]; congr 1; omega
      · rw [List.foldl_append, List.foldl_cons, foldl_mn, List.foldl_append, List.foldl_cons, foldl_mn, mn_comm]
      · rw [List.foldl_append, List.foldl_cons, foldl_mx, List.foldl_append, List.foldl_cons, foldl_mx, mx_comm]
theorem cut_at (n : Nat) (a : Int) : ∃ m : Nat, mx a 0 % ((n : Int) + 1) = m ∧ m ≤ n := by
  have h1 : 0 ≤ mx a 0 % ((n : Int) + 1) := Int.emod_nonneg _ (by omega)
  have h2 : mx a 0 % ((n : Int) + 1) < (n : Int) + 1 := Int.emod_lt_of_pos _ (by omega)
  generalize mx a 0 % ((n : Int) + 1) = z at *
  exact ⟨z.toNat, by omega, by omega⟩
theorem wrap_len (n : Nat) (h : n < 9223372036854775807) : wrap64 ((n : Int) + 1) = n + 1 := by unfold wrap64; omega
theorem CellOrder : stratumlaw01_CellOrder.Pure := by
  intro l a hm hb hw0 ha
  have hw := wf_all hw0
  have hl : l.length < 9223372036854775808 := by omega
  refine ⟨l.length + 5, ?_⟩
  unfold stratumlaw01_CellOrder.f
  rw [known_f _ (by omega)]
  split
  · simp only [stratumlaw01_CellOrder.j0]
    rw [if_pos trivial, known_f _ (by omega)]; rfl
  · rw [Option.bind_some, Bool.not_true]
    simp only [stratumlaw01_CellOrder.j0]
    have z0 : ¬ ((l.length : Int) + 1 = 0) := by omega
    have z1 : l.length < 9223372036854775807 := by omega
    obtain ⟨n, hn, hle⟩ := cut_at l.length a
    have z2 : 0 ≤ (n : Int) := Int.natCast_nonneg n
    have z3 : (n : Int) ≤ (l.length : Int) := Int.ofNat_le.2 hle
    rw [if_neg (by simp), wrap_len _ z1, if_neg z0, hn, if_pos z2, if_pos z3]
    clear hn
    simp only [Int.toNat_natCast]
    have hw1 : ∀ x ∈ l.take n, wrap64 x = x := fun x hx => hw x (List.mem_of_mem_take hx)
    have hw2 : ∀ x ∈ l.drop n, wrap64 x = x := fun x hx => hw x (List.mem_of_mem_drop hx)
    have l1 : (l.take n).length ≤ l.length := by rw [List.length_take]; omega
    have l2 : (l.drop n).length ≤ l.length := by rw [List.length_drop]; omega
    have l3 : (l.take n).length + (l.drop n).length = l.length := by rw [← List.length_append, List.take_append_drop]
    rw [all_f _ hw1 (by omega) _ (by omega)]
    simp only [Option.bind_some]
    rw [all_f _ hw2 (by omega) _ (by omega)]
    simp only [Option.bind_some]
    rw [merge_S _ _ hw1 hw2 (by omega)]
    simp only [Option.bind_some]
    rw [all_f l hw hl _ (by omega)]
    simp only [Option.bind_some]
    rw [merge_comm _ _ hw1 hw2 (by omega), List.take_append_drop, if_pos (by simp)]
    simp

end Go.Proofs.Ytfepnokgadacnaa.Pure
