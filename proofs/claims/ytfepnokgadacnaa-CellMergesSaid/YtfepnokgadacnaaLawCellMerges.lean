/- What is proved here: the row of CellMerges: for every input the law returns true and its arguments read as before; conditions: none. -/
import Derived.Test.YtfepnokgadacnaaRows
import Derived.Test.YtfepnokgadacnaaPCellMergesx3
import Derived.WalkKit
import Derived.ProofKit
import Derived.OpenShut
import Derived.ShutString
import Derived.ChangeOld
import Derived.Below
import Derived.SizedLaws
import Derived.Lib.SmallJoins
namespace Go.Proofs.Ytfepnokgadacnaa.cellMerges
open Go.ChangeShapes Go.WideShapes Go.ChangeAt Go.RowKit Go.Joins
open Go.Proofs.Ytfepnokgadacnaa.PCellMerges Go.Proofs.YtfepnokgadacnaaW.PrintWords Go.Proofs.YtfepnokgadacnaaW.PrintLast Go.Proofs.YtfepnokgadacnaaW.PrintMore
set_option maxRecDepth 4000
abbrev C4 := Int × Int × Int × Int
def step (c : C4) (v : Int) : C4 := if c.1 = 0 then (1, v, v, v) else (wrap64 (c.1 + 1), wrap64 (c.2.1 + v), mn c.2.2.1 v, mx c.2.2.2 v)
def S (l : List Int) : C4 := l.foldl step (0, 0, 0, 0)
def isum (l : List Int) : Int := l.foldr (· + ·) 0
theorem isum_append (a b : List Int) : isum (a ++ b) = isum a + isum b := by
  unfold isum
  induction a with
  | nil => simp
  | cons x xs ih => simp [ih]; omega
theorem wrap_wf {x : Int} (h : (Lit.int .i64 x).wf = true) : wrap64 x = x := by
  simp [Lit.wf, IntKind.min, IntKind.max, IntKind.signed, IntKind.bits] at h
  unfold wrap64
  omega
theorem foldl_step (xs : List Int) : ∀ (n s a b : Int), 1 ≤ n → n + xs.length < 9223372036854775808 → wrap64 s = s →
    xs.foldl step (n, s, a, b) = (n + xs.length, wrap64 (s + isum xs), xs.foldl mn a, xs.foldl mx b) := by
  induction xs with
  | nil => intro n s a b h1 h2 h3; simp [isum, h3]
  | cons x xs ih =>
    intro n s a b h1 h2 h3
    simp only [List.length_cons] at h2
    have e : wrap64 (n + 1) = n + 1 := by unfold wrap64; omega
    have e2 : wrap64 (wrap64 (s + x)) = wrap64 (s + x) := by unfold wrap64; omega
    have e3 : step (n, s, a, b) x = (n + 1, wrap64 (s + x), mn a x, mx b x) := by
      unfold step; rw [if_neg (show ¬ n = 0 by omega)]; simp [e]
    rw [List.foldl_cons, e3, ih (n + 1) _ _ _ (by omega) (by omega) e2]
    have e4 : wrap64 (wrap64 (s + x) + isum xs) = wrap64 (s + isum (x :: xs)) := by
      have : isum (x :: xs) = x + isum xs := rfl
      rw [this]; unfold wrap64; omega
    rw [e4]
    simp
    omega
theorem S_nil : S [] = (0, 0, 0, 0) := rfl
theorem S_cons (x : Int) (xs : List Int) (hw : wrap64 x = x) (hl : xs.length + 1 < 9223372036854775808) :
    S (x :: xs) = ((xs.length : Int) + 1, wrap64 (x + isum xs), xs.foldl mn x, xs.foldl mx x) := by
  unfold S
  have e3 : step (0, 0, 0, 0) x = (1, x, x, x) := by unfold step; rw [if_pos rfl]
  rw [List.foldl_cons, e3, foldl_step xs 1 x x x (by omega) (by omega) hw]
  simp
  omega
theorem mn_assoc (a b c : Int) : mn (mn a b) c = mn a (mn b c) := by unfold mn; repeat' split <;> omega
theorem mx_assoc (a b c : Int) : mx (mx a b) c = mx a (mx b c) := by unfold mx; repeat' split <;> omega
theorem foldl_mn (l : List Int) : ∀ a b, l.foldl mn (mn a b) = mn a (l.foldl mn b) := by
  induction l with
  | nil => intro a b; rfl
  | cons x xs ih => intro a b; simp only [List.foldl_cons]; rw [mn_assoc, ih]
theorem foldl_mx (l : List Int) : ∀ a b, l.foldl mx (mx a b) = mx a (l.foldl mx b) := by
  induction l with
  | nil => intro a b; rfl
  | cons x xs ih => intro a b; simp only [List.foldl_cons]; rw [mx_assoc, ih]
theorem mn_le_foldl (l : List Int) : ∀ a, l.foldl mn a ≤ a ∧ ∀ x ∈ l, l.foldl mn a ≤ x := by
  induction l with
  | nil => intro a; simp
  | cons x xs ih =>
    intro a
    have h := ih (mn a x)
    have h1 : mn a x ≤ a ∧ mn a x ≤ x := by unfold mn; split <;> omega
    simp only [List.foldl_cons]
    refine ⟨Int.le_trans h.1 h1.1, fun y hy => ?_⟩
    rcases List.mem_cons.1 hy with rfl | hy
    · exact Int.le_trans h.1 h1.2
    · exact h.2 y hy
theorem mx_ge_foldl (l : List Int) : ∀ a, a ≤ l.foldl mx a ∧ ∀ x ∈ l, x ≤ l.foldl mx a := by
  induction l with
  | nil => intro a; simp
  | cons x xs ih =>
    intro a
    have h := ih (mx a x)
    have h1 : a ≤ mx a x ∧ x ≤ mx a x := by unfold mx; split <;> omega
    simp only [List.foldl_cons]
    refine ⟨Int.le_trans h1.1 h.1, fun y hy => ?_⟩
    rcases List.mem_cons.1 hy with rfl | hy
    · exact Int.le_trans h1.2 h.1
    · exact h.2 y hy
theorem add_step (s : C4) (v : Int) (hs : s.1 = 0 → s = (0, 0, 0, 0)) : cell_total_add.f s.1 s.2.1 s.2.2.1 s.2.2.2 1 v v v = some (step s v) := by
  unfold cell_total_add.f step
  rw [if_neg (by simp)]
  by_cases h : s.1 = 0
  · rw [if_pos h, hs h]; rfl
  · rw [if_neg h, if_neg (by simp [h])]
theorem take_snoc (l : List Int) (i : Nat) (h : i < l.length) : l.take (i + 1) = l.take i ++ [rd l i] := by
  rw [List.take_succ_eq_append_getElem h]
  unfold rd
  simp [List.getD, h]
theorem S_snoc (l : List Int) (v : Int) : S (l ++ [v]) = step (S l) v := by unfold S; rw [List.foldl_append]; rfl
theorem S_zero (l : List Int) (hw : ∀ x ∈ l, wrap64 x = x) (hl : l.length < 9223372036854775808) (h : (S l).1 = 0) : l = [] := by
  cases l with
  | nil => rfl
  | cons x xs =>
    rw [S_cons x xs (hw x (by simp)) (by simpa using hl)] at h
    simp only at h
    omega
theorem all_l0 (l : List Int) (hw : ∀ x ∈ l, wrap64 x = x) (hl : l.length < 9223372036854775808) (d : Nat) : ∀ (k i : Nat), i + d = l.length → d < k →
    cell_All.l0 k l (l.length : Int) i (S (l.take i)).1 (S (l.take i)).2.1 (S (l.take i)).2.2.1 (S (l.take i)).2.2.2 = some (S l) := by
  induction d with
  | zero =>
    intro k i h hk
    obtain ⟨k, rfl⟩ : ∃ m, k = m + 1 := ⟨k - 1, by omega⟩
    simp only [cell_All.l0]
    rw [if_neg (by omega), List.take_of_length_le (by omega)]
  | succ d ih =>
    intro k i h hk
    obtain ⟨k, rfl⟩ : ∃ m, k = m + 1 := ⟨k - 1, by omega⟩
    simp only [cell_All.l0]
    rw [if_pos (by omega), if_pos (by omega), if_pos (by omega)]
    simp only [cell_Of.f, Option.bind_some]
    have hz : (S (l.take i)).1 = 0 → S (l.take i) = (0, 0, 0, 0) := fun hz => by
      rw [S_zero (l.take i) (fun x hx => hw x (List.mem_of_mem_take hx)) (by rw [List.length_take]; omega) hz, S_nil]
    rw [add_step _ _ hz]
    simp only [Option.bind_some]
    have e : wrap64 ((i : Int) + 1) = ((i + 1 : Nat) : Int) := by unfold wrap64; omega
    rw [e, ← S_snoc, ← take_snoc l i (by omega)]
    exact ih k (i + 1) (by omega) (by omega)
theorem all_f (l : List Int) (hw : ∀ x ∈ l, wrap64 x = x) (hl : l.length < 9223372036854775808) (k : Nat) (hk : l.length < k) : cell_All.f k l = some (S l) := by
  unfold cell_All.f
  have := all_l0 l hw hl l.length k 0 (by omega) hk
  simpa [S_nil] using this
theorem sound_S (l : List Int) (hw : ∀ x ∈ l, wrap64 x = x) (hl : l.length < 9223372036854775808) : cell_Sound.f (S l).1 (S l).2.1 (S l).2.2.1 (S l).2.2.2 = some true := by
  cases l with
  | nil => rfl
  | cons x xs =>
    rw [S_cons x xs (hw x (by simp)) (by simpa using hl)]
    unfold cell_Sound.f
    simp only
    rw [if_neg (by omega)]
    cases xs with
    | nil =>
      rw [if_pos (by simp)]
      have : wrap64 (x + isum []) = x := by simp [isum, hw x (by simp)]
      rw [this]
      simp [cell_Of.f]
    | cons y ys =>
      rw [if_neg (by simp only [List.length_cons]; omega)]
      simp only [Option.some.injEq, decide_eq_true_eq]
      exact Int.le_trans (mn_le_foldl (y :: ys) x).1 (mx_ge_foldl (y :: ys) x).1
theorem known_f (k : Nat) (hk : 2 < k) : stratumlaw01_known.f k = some true := by
  unfold stratumlaw01_known.f
  have e : S [3, -1] = (2, 2, -1, 3) := by simp [S, step, wrap64, mn, mx]
  rw [all_f [3, -1] (by simp [wrap64]) (by simp) k (by simpa using hk), e]
  rfl
theorem S_one (a : Int) : S [a] = (1, a, a, a) := rfl
theorem wf_all {l : List Int} (h : ∀ x ∈ l, (Lit.int .i64 x).wf = true) : ∀ x ∈ l, wrap64 x = x := fun x hx => wrap_wf (h x hx)

theorem merge_S (a b : List Int) (ha : ∀ x ∈ a, wrap64 x = x) (hb : ∀ x ∈ b, wrap64 x = x) (hl : a.length + b.length < 9223372036854775808) :
    cell_Merge.f (S a).1 (S a).2.1 (S a).2.2.1 (S a).2.2.2 (S b).1 (S b).2.1 (S b).2.2.1 (S b).2.2.2 = some (S (a ++ b)) := by
  cases a with
  | nil => simp [S_nil, cell_Merge.f]
  | cons x xs =>
    have hxl : xs.length + 1 < 9223372036854775808 := by simp only [List.length_cons] at hl; omega
    cases b with
    | nil =>
      rw [List.append_nil, S_nil, S_cons x xs (ha x (by simp)) hxl]
      unfold cell_Merge.f
      simp only
      rw [if_neg (by omega), if_pos trivial]
    | cons y ys =>
      simp only [List.length_cons] at hl
      have hxy : (xs ++ y :: ys).length + 1 < 9223372036854775808 := by simp; omega
      rw [List.cons_append, S_cons x xs (ha x (by simp)) hxl, S_cons y ys (hb y (by simp)) (by omega), S_cons x (xs ++ y :: ys) (ha x (by simp)) hxy]
      unfold cell_Merge.f cell_total_add.f
      simp only
      rw [if_neg (by omega), if_neg (by omega), if_neg (by simp; intro h; omega), if_neg (by simp; intro h; omega)]
      simp only [Option.bind_some, Option.some.injEq, Prod.mk.injEq]
      refine ⟨?_, ?_, ?_, ?_⟩
      · simp only [List.length_append, List.length_cons]
        unfold wrap64; omega
      · rw [isum_append]
        have : isum (y :: ys) = y + isum ys := rfl
        rw [this]; unfold wrap64; omega
      · rw [List.foldl_append, List.foldl_cons, foldl_mn]
      · rw [List.foldl_append, List.foldl_cons, foldl_mx]
theorem mn_comm (a b : Int) : mn a b = mn b a := by unfold mn; repeat' split <;> omega
theorem mx_comm (a b : Int) : mx a b = mx b a := by unfold mx; repeat' split <;> omega
theorem merge_comm (a b : List Int) (ha : ∀ x ∈ a, wrap64 x = x) (hb : ∀ x ∈ b, wrap64 x = x) (hl : a.length + b.length < 9223372036854775808) :
    cell_Merge.f (S b).1 (S b).2.1 (S b).2.2.1 (S b).2.2.2 (S a).1 (S a).2.1 (S a).2.2.1 (S a).2.2.2 = some (S (a ++ b)) := by
  rw [merge_S b a hb ha (by omega)]
  congr 1
  cases a with
  | nil => simp
  | cons x xs =>
    cases b with
    | nil => simp
    | cons y ys =>
      simp only [List.length_cons] at hl
      rw [List.cons_append, List.cons_append, S_cons x _ (ha x (by simp)) (by simp; omega), S_cons y _ (hb y (by simp)) (by simp; omega)]
      simp only [Prod.mk.injEq]
      refine ⟨?_, ?_, ?_, ?_⟩
      · simp only [List.length_append, List.length_cons]; omega
      · rw [isum_append, isum_append]
        have e1 : isum (y :: ys) = y + isum ys := rfl
        have e2 : isum (x :: xs) = x + isum xs := rfl
        rw [e1, e2]; congr 1; omega
      · rw [List.foldl_append, List.foldl_cons, foldl_mn, List.foldl_append, List.foldl_cons, foldl_mn, mn_comm]
      · rw [List.foldl_append, List.foldl_cons, foldl_mx, List.foldl_append, List.foldl_cons, foldl_mx, mx_comm]

theorem merges (a0 a1 a2 a3 b0 b1 b2 b3 : Int) : cell_Merge.f a0 a1 a2 a3 b0 b1 b2 b3 = stratumref01_Merge.f a0 a1 a2 a3 b0 b1 b2 b3 := by
  unfold cell_Merge.f stratumref01_Merge.f cell_total_add.f
  by_cases h : a0 = 0
  · rw [if_pos h.symm, if_pos h]
  · rw [if_neg (fun e => h e.symm), if_neg h]
    by_cases k : b0 = 0
    · rw [if_pos k.symm, if_pos k]
    · rw [if_neg (fun e => k e.symm), if_neg k, if_neg (by simp [k]), if_neg (by simp [h])]
      rfl
theorem sounds (n s a b : Int) : ∃ r, cell_Sound.f n s a b = some r ∧ stratumref01_Sound.f n s a b = some r := by
  unfold cell_Sound.f stratumref01_Sound.f
  by_cases h : n ≤ 0
  · rw [if_pos h, if_pos h]; exact ⟨_, rfl, rfl⟩
  · rw [if_neg h, if_neg h]
    by_cases h1 : n = 1
    · subst h1
      rw [if_pos rfl]
      simp only [cell_Of.f, Option.bind_some]
      refine ⟨_, rfl, ?_⟩
      by_cases c : a ≤ b
      · rw [if_pos c, if_neg (by omega)]
        by_cases e : s = a
        · subst e; simp; rw [Bool.eq_iff_iff]; simp; omega
        · rw [if_neg e]; simp; intro h; omega
      · rw [if_neg c]; simp; omega
    · rw [if_neg h1]
      refine ⟨_, rfl, ?_⟩
      by_cases c : a ≤ b
      · rw [if_pos c, if_pos (by omega)]; simp [c]
      · rw [if_neg c]; simp [c]
theorem merged (a0 a1 a2 a3 b0 b1 b2 b3 : Int) : ∃ r, stratumref01_Merge.f a0 a1 a2 a3 b0 b1 b2 b3 = some r := by
  unfold stratumref01_Merge.f
  split
  · exact ⟨_, rfl⟩
  · split <;> exact ⟨_, rfl⟩
theorem pure (a0 a1 a2 a3 : Int) (_ : (Lit.int .i64 a0).wf = true) (_ : (Lit.int .i64 a1).wf = true) (_ : (Lit.int .i64 a2).wf = true) (_ : (Lit.int .i64 a3).wf = true) (b0 b1 b2 b3 : Int) (_ : (Lit.int .i64 b0).wf = true) (_ : (Lit.int .i64 b1).wf = true) (_ : (Lit.int .i64 b2).wf = true) (_ : (Lit.int .i64 b3).wf = true) : ∃ k, stratumlaw01_CellMerges.f k a0 a1 a2 a3 b0 b1 b2 b3 = some true := by
  refine ⟨5, ?_⟩
  obtain ⟨r, hr⟩ := merged a0 a1 a2 a3 b0 b1 b2 b3
  obtain ⟨x, hx1, hx2⟩ := sounds a0 a1 a2 a3
  obtain ⟨y, hy1, hy2⟩ := sounds b0 b1 b2 b3
  unfold stratumlaw01_CellMerges.f
  rw [known_f _ (by omega), Option.bind_some, if_pos rfl, merges, hr, Option.bind_some, Option.bind_some, if_pos (by simp), hx1, hx2, hy1, hy2]
  simp

theorem own : ownKnob Try.prog.godebug = none := by kernel_rfl
theorem laidOut : laidOutB Try.prog = true := by kernel_rfl
theorem cells23 : Try.prog.cellsOf 23 = 4 := by kernel_rfl
set_option maxRecDepth 100000 in
theorem lifted (os : Os) (started : os.Started) (H : Type) (enc : TypeId × Value → H) :
    ReturnsInHanded {} Try.checked os 7 .any (Rows.cellMergesSpec.pre6 enc Try.prog Try.f7 Rows.cellMergesRow.domain false) (Rows.cellMergesSpec.post enc Try.prog Try.f7 false true false false) := by
  refine returnsInHanded_of_change_sized (C := Try.checked) own started (by kernel_rfl) Try.func7
    (ChangeSpec.witness6 (enc := enc) (C := Try.checked) false ⟨#[], #[.agg #[.int .i64 0, .int .i64 0, .int .i64 0, .int .i64 0], .agg #[.int .i64 0, .int .i64 0, .int .i64 0, .int .i64 0]], []⟩ 8 (by kernel_rfl) (by kernel_rfl) (by kernel_rfl) (by kernel_rfl)) ?_
  intro W base args ds gs before hval0 hW hcnd _ _
  have hval : ∀ (j : Nat) t v, Try.f7.params[j]? = some t → args[j]? = some v → Value.okWide Try.prog W .any base t v := hval0
  have hW' := hW
  obtain ⟨p, q, hA0, hV, rfl, hfz, hnd⟩ := hW
  have hA : DataW.TrodAll enc Try.prog W 0 (fun _ => true) true Try.f7.params.toList args.toList ds p := hA0
  rw [Try.params7] at hA hval
  obtain ⟨v0, vs0, d0, ds0, p0, q0, hargs, rfl, rfl, h0, r0⟩ := trodAll_cons hA
  obtain ⟨v1, vs1, d1, ds1, p1, q1, rfl, rfl, rfl, h1, r1⟩ := trodAll_cons r0
  obtain ⟨rfl, rfl, rfl⟩ := trodAll_nil r1
  obtain rfl : args = #[v0, v1] := by cases args; simp_all
  obtain ⟨rfl, rfl⟩ := trodVars_none hV
  have k0 := h0
  have lt0 : ∀ x ∈ p0, x.block < W.heap.size := by obtain ⟨m, hm⟩ := k0; exact DataW.trod_lt m _ _ _ hm
  obtain ⟨c0_0, c0_1, c0_2, c0_3, y0_0, y0_1, y0_2, y0_3, m0, rfl, hd0, hp0, t0_0, t0_1, t0_2, t0_3⟩ := open_agg4 Try.underlying23 (by kernel_rfl) cells23 (hval 0 23 v0 rfl rfl) h0
  obtain ⟨a0_0, e0_0, _, w0_0⟩ := DataW.trod_int Try.underlying2 t0_0
  obtain rfl : c0_0 = .int .i64 a0_0 := by simpa using e0_0
  obtain ⟨a0_1, e0_1, _, w0_1⟩ := DataW.trod_int Try.underlying2 t0_1
  obtain rfl : c0_1 = .int .i64 a0_1 := by simpa using e0_1
  obtain ⟨a0_2, e0_2, _, w0_2⟩ := DataW.trod_int Try.underlying2 t0_2
  obtain rfl : c0_2 = .int .i64 a0_2 := by simpa using e0_2
  obtain ⟨a0_3, e0_3, _, w0_3⟩ := DataW.trod_int Try.underlying2 t0_3
  obtain rfl : c0_3 = .int .i64 a0_3 := by simpa using e0_3
  have k1 := h1
  have lt1 : ∀ x ∈ p1, x.block < W.heap.size := by obtain ⟨m, hm⟩ := k1; exact DataW.trod_lt m _ _ _ hm
  obtain ⟨c1_0, c1_1, c1_2, c1_3, y1_0, y1_1, y1_2, y1_3, m1, rfl, hd1, hp1, t1_0, t1_1, t1_2, t1_3⟩ := open_agg4 Try.underlying23 (by kernel_rfl) cells23 (hval 1 23 v1 rfl rfl) h1
  obtain ⟨a1_0, e1_0, _, w1_0⟩ := DataW.trod_int Try.underlying2 t1_0
  obtain rfl : c1_0 = .int .i64 a1_0 := by simpa using e1_0
  obtain ⟨a1_1, e1_1, _, w1_1⟩ := DataW.trod_int Try.underlying2 t1_1
  obtain rfl : c1_1 = .int .i64 a1_1 := by simpa using e1_1
  obtain ⟨a1_2, e1_2, _, w1_2⟩ := DataW.trod_int Try.underlying2 t1_2
  obtain rfl : c1_2 = .int .i64 a1_2 := by simpa using e1_2
  obtain ⟨a1_3, e1_3, _, w1_3⟩ := DataW.trod_int Try.underlying2 t1_3
  obtain rfl : c1_3 = .int .i64 a1_3 := by simpa using e1_3
  clear hA0 hval0
  obtain ⟨k, hk⟩ := pure a0_0 a0_1 a0_2 a0_3 w0_0 w0_1 w0_2 w0_3 a1_0 a1_1 a1_2 a1_3 w1_0 w1_1 w1_2 w1_3
  refine (stratumlaw01_CellMerges.calls k a0_0 a0_1 a0_2 a0_3 a1_0 a1_1 a1_2 a1_3 true W hk).mono fun e W' ⟨he, bel⟩ => ?_
  subst he
  exact ⟨_, rfl, _, _, _, [], _, [], hW', trodAll_mk1 (shut_bool Try.underlying4 _), (trodAll_cons_mk (Below.trod laidOut (by kernel_rfl) (of_decide_eq_true (by kernel_rfl)) k0 bel lt0) (trodAll_cons_mk (Below.trod laidOut (by kernel_rfl) (of_decide_eq_true (by kernel_rfl)) k1 bel lt1) trodAll_mk0)), rfl, bel.frame _, fun h => by cases h⟩
theorem over : Rows.cellMergesRow.holds Try.pinned (OpenSpec.ofChange Rows.cellMergesSpec) :=
  OpenClaim.holds_of_wide 7 Try.f7 rfl rfl rfl rfl rfl rfl rfl ⟨rfl, rfl, rfl, rfl, rfl⟩ rfl rfl rfl rfl rfl (by kernel_rfl) Try.func7 (by kernel_rfl)
    (of_decide_eq_true (by kernel_rfl)) (by unfold Func.isWrapper; first | (rw [if_pos (by decide +kernel)]; kernel_rfl) | (rw [if_neg (by decide +kernel)]; exact ⟨rfl, rfl⟩))
    (fun os started H enc _ => lifted os started H enc)
theorem proved : Rows.CellMergesSaid := over
#print axioms proved
end Go.Proofs.Ytfepnokgadacnaa.cellMerges
namespace Go.Proofs.Ytfepnokgadacnaa
/-- The row, under a short name, for the claim. -/
theorem cellMerges_holds : Rows.CellMergesSaid := cellMerges.proved
end Go.Proofs.Ytfepnokgadacnaa
