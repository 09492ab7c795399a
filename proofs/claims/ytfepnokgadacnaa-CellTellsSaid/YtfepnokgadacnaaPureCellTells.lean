/- What is proved here: a cell tells how many numbers there are, the least, the greatest and their sum (conditions: none beyond the statement's own). -/
import Derived.Test.YtfepnokgadacnaaPCellTellsx3
namespace Go.Proofs.Ytfepnokgadacnaa.Pure
open Go.RowKit Go.Proofs.Ytfepnokgadacnaa.PCellTells Go.Proofs.YtfepnokgadacnaaW.PrintWords Go.Proofs.YtfepnokgadacnaaW.PrintLast Go.Proofs.YtfepnokgadacnaaW.PrintMore
set_option maxRecDepth 4000

abbrev C4 := Int × Int × Int × Int
def step (c : C4) (v : Int) : C4 := if c.1 = 0 then (1, v, v, v) else (wrap64 (c.1 + 1), wrap64 (c.2.1 + v), mn c.2.2.1 v, mx c.2.2.2 v)
def S (l : List Int) : C4 := l.foldl step (0, 0, 0, 0)
def isum (l : List Int) : Int := l.foldr (· + ·) 0
theorem isum_append (a b : List Int) : isum (a ++ b) = isum a + isum b := by
  unfold isum
  induction a with
  | nil => simp
  | cons x xs ih => simp [ih]; omega
theorem wrap_wf {x : Int} (h : (Lit.int .i64 x).wf = true) : wrap64 x = x := by
  simp [Lit.wf, IntKind.min, IntKind.max, IntKind.signed, IntKind.bits] at h
  unfold wrap64
  omega
theorem foldl_step (xs : List Int) : ∀ (n s a b : Int), 1 ≤ n → n + xs.length < 9223372036854775808 → wrap64 s = s →
    xs.foldl step (n, s, a, b) = (n + xs.length, wrap64 (s + isum xs), xs.foldl mn a, xs.foldl mx b) := by
  induction xs with
  | nil => intro n s a b h1 h2 h3; simp [isum, h3]
  | cons x xs ih =>
    intro n s a b h1 h2 h3
    simp only [List.length_cons] at h2
    have e : wrap64 (n + 1) = n + 1 := by unfold wrap64; omega
    have e2 : wrap64 (wrap64 (s + x)) = wrap64 (s + x) := by unfold wrap64; omega
    have e3 : step (n, s, a, b) x = (n + 1, wrap64 (s + x), mn a x, mx b x) := by
      unfold step; rw [if_neg (show ¬ n = 0 by omega)]; simp [e]
    rw [List.foldl_cons, e3, ih (n + 1) _ _ _ (by omega) (by omega) e2]
    have e4 : wrap64 (wrap64 (s + x) + isum xs) = wrap64 (s + isum (x :: xs)) := by
      have : isum (x :: xs) = x + isum xs := rfl
      rw [this]; unfold wrap64; omega
    rw [e4]
    simp
    omega
theorem S_nil : S [] = (0, 0, 0, 0) := rfl
theorem S_cons (x : Int) (xs : List Int) (hw : wrap64 x = x) (hl : xs.length + 1 < 9223372036854775808) :
    S (x :: xs) = ((xs.length : Int) + 1, wrap64 (x + isum xs), xs.foldl mn x, xs.foldl mx x) := by
  unfold S
  have e3 : step (0, 0, 0, 0) x = (1, x, x, x) := by unfold step; rw [if_pos rfl]
  rw [List.foldl_cons, e3, foldl_step xs 1 x x x (by omega) (by omega) hw]
  simp
  omega
theorem mn_assoc (a b c : Int) : mn (mn a b) c = mn a (mn b c) := by unfold mn; repeat' split <;> omega
theorem mx_assoc (a b c : Int) : mx (mx a b) c = mx a (mx b c) := by unfold mx; repeat' split <;> omega
theorem foldl_mn (l : List Int) : ∀ a b, l.foldl mn (mn a b) = mn a (l.foldl mn b) := by
  induction l with
  | nil => intro a b; rfl
  | cons x xs ih => intro a b; simp only [List.foldl_cons]; rw [mn_assoc, ih]
theorem foldl_mx (l : List Int) : ∀ a b, l.foldl mx (mx a b) = mx a (l.foldl mx b) := by
  induction l with
  | nil => intro a b; rfl
  | cons x xs ih => intro a b; simp only [List.foldl_cons]; rw [mx_assoc, ih]
theorem mn_le_foldl (l : List Int) : ∀ a, l.foldl mn a ≤ a ∧ ∀ x ∈ l, l.foldl mn a ≤ x := by
  induction l with
  | nil => intro a; simp
  | cons x xs ih =>
    intro a
    have h := ih (mn a x)
    have h1 : mn a x ≤ a ∧ mn a x ≤ x := by unfold mn; split <;> omega
    simp only [List.foldl_cons]
    refine ⟨Int.le_trans h.1 h1.1, fun y hy => ?_⟩
    rcases List.mem_cons.1 hy with rfl | hy
    · exact Int.le_trans h.1 h1.2
    · exact h.2 y hy
theorem mx_ge_foldl (l : List Int) : ∀ a, a ≤ l.foldl mx a ∧ ∀ x ∈ l, x ≤ l.foldl mx a := by
  induction l with
  | nil => intro a; simp
  | cons x xs ih =>
    intro a
    have h := ih (mx a x)
    have h1 : a ≤ mx a x ∧ x ≤ mx a x := by unfold mx; split <;> omega
    simp only [List.foldl_cons]
    refine ⟨Int.le_trans h1.1 h.1, fun y hy => ?_⟩
    rcases List.mem_cons.1 hy with rfl | hy
    · exact Int.le_trans h1.2 h.1
    · exact h.2 y hy
theorem add_step (s : C4) (v : Int) (hs : s.1 = 0 → s = (0, 0, 0, 0)) : cell_total_add.f s.1 s.2.1 s.2.2.1 s.2.2.2 1 v v v = some (step s v) := by
  unfold cell_total_add.f step
  rw [if_neg (by simp)]
  by_cases h : s.1 = 0
  · rw [if_pos h, hs h]; rfl
  · rw [if_neg h, if_neg (by simp [h])]
theorem take_snoc (l : List Int) (i : Nat) (h : i < l.length) : l.take (i + 1) = l.take i ++ [rd l i] := by
  rw [List.take_succ_eq_append_getElem h]
  unfold rd
  simp [List.getD, h]
theorem S_snoc (l : List Int) (v : Int) : S (l ++ [v]) = step (S l) v := by unfold S; rw [List.foldl_append]; rfl
theorem S_zero (l : List Int) (hw : ∀ x ∈ l, wrap64 x = x) (hl : l.length < 9223372036854775808) (h : (S l).1 = 0) : l = [] := by
  cases l with
  | nil => rfl
  | cons x xs =>
    rw [S_cons x xs (hw x (by simp)) (by simpa using hl)] at h
    simp only at h
    omega
theorem all_l0 (l : List Int) (hw : ∀ x ∈ l, wrap64 x = x) (hl : l.length < 9223372036854775808) (d : Nat) : ∀ (k i : Nat), i + d = l.length → d < k →
    cell_All.l0 k l (l.length : Int) i (S (l.take i)).1 (S (l.take i)).2.1 (S (l.take i)).2.2.1 (S (l.take i)).2.2.2 = some (S l) := by
  induction d with
  | zero =>
    intro k i h hk
    obtain ⟨k, rfl⟩ : ∃ m, k = m + 1 := ⟨k - 1, by omega⟩
    simp only [cell_All.l0]
    rw [if_neg (by omega), List.take_of_length_le (by omega)]
  | succ d ih =>
    intro k i h hk
    obtain ⟨k, rfl⟩ : ∃ m, k = m + 1 := ⟨k - 1, by omega⟩
    simp only [cell_All.l0]
    rw [if_pos (by omega), if_pos (by omega), if_pos (by omega)]
    simp only [cell_Of.f, Option.bind_some]
    have hz : (S (l.take i)).1 = 0 → S (l.take i) = (0, 0, 0, 0) := fun hz => by
      rw [S_zero (l.take i) (fun x hx => hw x (List.mem_of_mem_take hx)) (by rw [List.length_take]; omega) hz, S_nil]
    rw [add_step _ _ hz]
    simp only [Option.bind_some]
    have e : wrap64 ((i : Int) + 1) = ((i + 1 : Nat) : Int) := by unfold wrap64; omega
    rw [e, ← S_snoc, ← take_snoc l i (by omega)]
    exact ih k (i + 1) (by omega) (by omega)
theorem all_f (l : List Int) (hw : ∀ x ∈ l, wrap64 x = x) (hl : l.length < 9223372036854775808) (k : Nat) (hk : l.length < k) : cell_All.f k l = some (S l) := by
  unfold cell_All.f
  have := all_l0 l hw hl l.length k 0 (by omega) hk
  simpa [S_nil] using this
theorem sound_S (l : List Int) (hw : ∀ x ∈ l, wrap64 x = x) (hl : l.length < 9223372036854775808) : cell_Sound.f (S l).1 (S l).2.1 (S l).2.2.1 (S l).2.2.2 = some true := by
  cases l with
  | nil => rfl
  | cons x xs =>
    rw [S_cons x xs (hw x (by simp)) (by simpa using hl)]
    unfold cell_Sound.f
    simp only
    rw [if_neg (by omega)]
    cases xs with
    | nil =>
      rw [if_pos (by simp)]
      have : wrap64 (x + isum []) = x := by simp [isum, hw x (by simp)]
      rw [this]
      simp [cell_Of.f]
    | cons y ys =>
      rw [if_neg (by simp only [List.length_cons]; omega)]
      simp only [Option.some.injEq, decide_eq_true_eq]
      exact Int.le_trans (mn_le_foldl (y :: ys) x).1 (mx_ge_foldl (y :: ys) x).1
theorem known_f (k : Nat) (hk : 2 < k) : stratumlaw01_known.f k = some true := by
  unfold stratumlaw01_known.f
  have e : S [3, -1] = (2, 2, -1, 3) := by simp [S, step, wrap64, mn, mx]
  rw [all_f [3, -1] (by simp [wrap64]) (by simp) k (by simpa using hk), e]
  rfl
theorem S_one (a : Int) : S [a] = (1, a, a, a) := rfl
theorem wf_all {l : List Int} (h : ∀ x ∈ l, (Lit.int .i64 x).wf = true) : ∀ x ∈ l, wrap64 x = x := fun x hx => wrap_wf (h x hx)
theorem any_snoc (l : List Int) (i : Nat) (h : i < l.length) (m : Int) : (l.take (i + 1)).any (· == m) = ((l.take i).any (· == m) || rd l i == m) := by
  rw [take_snoc l i h, List.any_append]; simp
theorem rd_mem (l : List Int) (i : Nat) (h : i < l.length) : rd l i ∈ l := by
  unfold rd; simp [List.getD, h]
theorem tells_l0 (l : List Int) (lo hi : Int) (hl : l.length < 9223372036854775808) (hb : ∀ x ∈ l, lo ≤ x ∧ x ≤ hi) (h1 : l.any (· == lo) = true) (h2 : l.any (· == hi) = true) (d : Nat) :
    ∀ (k i : Nat) (b5 b6 : Bool), i + d = l.length → d < k → b5 = (l.take i).any (· == lo) → b6 = (l.take i).any (· == hi) →
    stratumlaw01_CellTells.l0 k l (wrap64 (isum (l.take i))) b5 b6 i (l.length : Int) (wrap64 (isum l)) lo hi = some true := by
  induction d with
  | zero =>
    intro k i b5 b6 h hk e5 e6
    obtain ⟨k, rfl⟩ : ∃ m, k = m + 1 := ⟨k - 1, by omega⟩
    simp only [stratumlaw01_CellTells.l0]
    rw [List.take_of_length_le (by omega)] at *
    rw [if_neg (by omega), if_pos trivial, if_pos rfl, if_pos (by rw [e5, h1]), e6, h2]
  | succ d ih =>
    intro k i b5 b6 h hk e5 e6
    obtain ⟨k, rfl⟩ : ∃ m, k = m + 1 := ⟨k - 1, by omega⟩
    have hi' : i < l.length := by omega
    have hm := hb _ (rd_mem l i hi')
    have e : wrap64 ((i : Int) + 1) = ((i + 1 : Nat) : Int) := by unfold wrap64; omega
    have es : wrap64 (wrap64 (isum (l.take i)) + rd l i) = wrap64 (isum (l.take (i + 1))) := by
      rw [take_snoc l i hi', isum_append]
      have : isum [rd l i] = rd l i := by simp [isum]
      rw [this]; unfold wrap64; omega
    have a5 := any_snoc l i hi' lo
    have a6 := any_snoc l i hi' hi
    simp only [stratumlaw01_CellTells.l0]
    rw [if_pos (by omega), if_pos (by omega)]
    have n1 : ¬ rd l i < lo := by omega
    have n2 : ¬ rd l i > hi := by omega
    simp only [if_neg n1, if_neg n2, e, es]
    by_cases c5 : b5 = true
    · by_cases c6 : b6 = true
      · rw [if_pos c5, if_pos c6]
        exact ih k (i + 1) _ _ (by omega) (by omega) (by rw [a5, ← e5, c5]; rfl) (by rw [a6, ← e6, c6]; rfl)
      · rw [if_pos c5, if_neg c6]
        exact ih k (i + 1) _ _ (by omega) (by omega) (by rw [a5, ← e5, c5]; rfl) (by rw [a6, ← e6]; simp [c6])
    · by_cases c6 : b6 = true
      · rw [if_neg c5, if_pos c6]
        exact ih k (i + 1) _ _ (by omega) (by omega) (by rw [a5, ← e5]; simp [c5]) (by rw [a6, ← e6, c6]; rfl)
      · rw [if_neg c5, if_neg c6]
        exact ih k (i + 1) _ _ (by omega) (by omega) (by rw [a5, ← e5]; simp [c5]) (by rw [a6, ← e6]; simp [c6])
theorem mn_mem (l : List Int) : ∀ a, l.foldl mn a = a ∨ l.foldl mn a ∈ l := by
  induction l with
  | nil => intro a; exact Or.inl rfl
  | cons x xs ih =>
    intro a
    simp only [List.foldl_cons]
    rcases ih (mn a x) with h | h
    · rw [h]; unfold mn; split
      · exact Or.inr (by simp)
      · exact Or.inl rfl
    · exact Or.inr (by simp [h])
theorem mx_mem (l : List Int) : ∀ a, l.foldl mx a = a ∨ l.foldl mx a ∈ l := by
  induction l with
  | nil => intro a; exact Or.inl rfl
  | cons x xs ih =>
    intro a
    simp only [List.foldl_cons]
    rcases ih (mx a x) with h | h
    · rw [h]; unfold mx; split
      · exact Or.inr (by simp)
      · exact Or.inl rfl
    · exact Or.inr (by simp [h])
theorem CellTells : stratumlaw01_CellTells.Pure := by
  intro l hm hb hw0
  have hw := wf_all hw0
  have hl : l.length < 9223372036854775808 := by omega
  refine ⟨l.length + 5, ?_⟩
  have first : ∀ k, 2 < k → stratumlaw01_CellTells.j0 (k + 1) l true = some true := fun k hk => by
    simp only [stratumlaw01_CellTells.j0]
    rw [if_pos trivial, known_f _ hk]; rfl
  unfold stratumlaw01_CellTells.f
  split
  · exact first _ (by omega)
  split
  · exact first _ (by omega)
  rename_i hne
  rw [known_f _ (by omega)]
  simp only [Option.bind_some, Bool.not_true, stratumlaw01_CellTells.j0]
  rw [if_neg (by simp), all_f l hw hl _ (by omega)]
  simp only [Option.bind_some]
  cases l with
  | nil => simp at hne
  | cons x xs =>
    rw [S_cons x xs (hw x (by simp)) (by simpa using hl)]
    have e1 : ((xs.length : Int) + 1) = ((x :: xs).length : Int) := by simp
    have e2 : x + isum xs = isum (x :: xs) := rfl
    have h1 : (x :: xs).any (· == xs.foldl mn x) = true := by
      rw [List.any_eq_true]
      rcases mn_mem xs x with h | h
      · exact ⟨x, by simp, by simp [h]⟩
      · exact ⟨_, List.mem_cons_of_mem _ h, by simp⟩
    have h2 : (x :: xs).any (· == xs.foldl mx x) = true := by
      rw [List.any_eq_true]
      rcases mx_mem xs x with h | h
      · exact ⟨x, by simp, by simp [h]⟩
      · exact ⟨_, List.mem_cons_of_mem _ h, by simp⟩
    have hbd : ∀ y ∈ x :: xs, xs.foldl mn x ≤ y ∧ y ≤ xs.foldl mx x := fun y hy => by
      rcases List.mem_cons.1 hy with rfl | hy
      · exact ⟨(mn_le_foldl xs y).1, (mx_ge_foldl xs y).1⟩
      · exact ⟨(mn_le_foldl xs x).2 y hy, (mx_ge_foldl xs x).2 y hy⟩
    have := tells_l0 (x :: xs) _ _ hl hbd h1 h2 (x :: xs).length ((x :: xs).length + 4) 0 false false (by omega) (by omega) (by simp) (by simp)
    rw [e1, e2]
    simpa [isum, wrap64] using this

end Go.Proofs.Ytfepnokgadacnaa.Pure
