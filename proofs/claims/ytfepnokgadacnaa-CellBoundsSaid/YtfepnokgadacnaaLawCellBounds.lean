/- What is proved here: the row of CellBounds: for every input the law returns true and its arguments read as before; conditions: none. -/
import Derived.Test.YtfepnokgadacnaaRows
import Derived.Test.YtfepnokgadacnaaPCellBoundsx2
import Derived.WalkKit
import Derived.ProofKit
import Derived.OpenShut
import Derived.ShutString
import Derived.ChangeOld
import Derived.Below
import Derived.SizedLaws
import Derived.Lib.SmallJoins
namespace Go.Proofs.Ytfepnokgadacnaa.cellBounds
open Go.ChangeShapes Go.WideShapes Go.ChangeAt Go.RowKit Go.Joins
open Go.Proofs.Ytfepnokgadacnaa.PCellBounds Go.Proofs.YtfepnokgadacnaaW.PrintWords Go.Proofs.YtfepnokgadacnaaW.PrintLast Go.Proofs.YtfepnokgadacnaaW.PrintMore
set_option maxRecDepth 4000
abbrev C4 := Int × Int × Int × Int
def step (c : C4) (v : Int) : C4 := if c.1 = 0 then (1, v, v, v) else (wrap64 (c.1 + 1), wrap64 (c.2.1 + v), mn c.2.2.1 v, mx c.2.2.2 v)
def S (l : List Int) : C4 := l.foldl step (0, 0, 0, 0)
def isum (l : List Int) : Int := l.foldr (· + ·) 0
theorem isum_append (a b : List Int) : isum (a ++ b) = isum a + isum b := by
  unfold isum
  induction a with
  | nil => simp
  | cons x xs ih => simp [ih]; omega
theorem wrap_wf {x : Int} (h : (Lit.int .i64 x).wf = true) : wrap64 x = x := by
  simp [Lit.wf, IntKind.min, IntKind.max, IntKind.signed, IntKind.bits] at h
  unfold wrap64
  omega
theorem foldl_step (xs : List Int) : ∀ (n s a b : Int), 1 ≤ n → n + xs.length < 9223372036854775808 → wrap64 s = s →
    xs.foldl step (n, s, a, b) = (n + xs.length, wrap64 (s + isum xs), xs.foldl mn a, xs.foldl mx b) := by
  induction xs with
  | nil => intro n s a b h1 h2 h3; simp [isum, h3]
  | cons x xs ih =>
    intro n s a b h1 h2 h3
    simp only [List.length_cons] at h2
    have e : wrap64 (n + 1) = n + 1 := by unfold wrap64; omega
    have e2 : wrap64 (wrap64 (s + x)) = wrap64 (s + x) := by unfold wrap64; omega
    have e3 : step (n, s, a, b) x = (n + 1, wrap64 (s + x), mn a x, mx b x) := by
      unfold step; rw [if_neg (show ¬ n = 0 by omega)]; simp [e]
    rw [List.foldl_cons, e3, ih (n + 1) _ _ _ (by omega) (by omega) e2]
    have e4 : wrap64 (wrap64 (s + x) + isum xs) = wrap64 (s + isum (x :: xs)) := by
      have : isum (x :: xs) = x + isum xs := rfl
      rw [this]; unfold wrap64; omega
    rw [e4]
    simp
    omega
theorem S_nil : S [] = (0, 0, 0, 0) := rfl
theorem S_cons (x : Int) (xs : List Int) (hw : wrap64 x = x) (hl : xs.length + 1 < 9223372036854775808) :
    S (x :: xs) = ((xs.length : Int) + 1, wrap64 (x + isum xs), xs.foldl mn x, xs.foldl mx x) := by
  unfold S
  have e3 : step (0, 0, 0, 0) x = (1, x, x, x) := by unfold step; rw [if_pos rfl]
  rw [List.foldl_cons, e3, foldl_step xs 1 x x x (by omega) (by omega) hw]
  simp
  omega
theorem mn_assoc (a b c : Int) : mn (mn a b) c = mn a (mn b c) := by unfold mn; repeat' split <;> omega
theorem mx_assoc (a b c : Int) : mx (mx a b) c = mx a (mx b c) := by unfold mx; repeat' split <;> omega
theorem foldl_mn (l : List Int) : ∀ a b, l.foldl mn (mn a b) = mn a (l.foldl mn b) := by
  induction l with
  | nil => intro a b; rfl
  | cons x xs ih => intro a b; simp only [List.foldl_cons]; rw [mn_assoc, ih]
theorem foldl_mx (l : List Int) : ∀ a b, l.foldl mx (mx a b) = mx a (l.foldl mx b) := by
  induction l with
  | nil => intro a b; rfl
  | cons x xs ih => intro a b; simp only [List.foldl_cons]; rw [mx_assoc, ih]
theorem mn_le_foldl (l : List Int) : ∀ a, l.foldl mn a ≤ a ∧ ∀ x ∈ l, l.foldl mn a ≤ x := by
  induction l with
  | nil => intro a; simp
  | cons x xs ih =>
    intro a
    have h := ih (mn a x)
    have h1 : mn a x ≤ a ∧ mn a x ≤ x := by unfold mn; split <;> omega
    simp only [List.foldl_cons]
    refine ⟨Int.le_trans h.1 h1.1, fun y hy => ?_⟩
    rcases List.mem_cons.1 hy with rfl | hy
    · exact Int.le_trans h.1 h1.2
    · exact h.2 y hy
theorem mx_ge_foldl (l : List Int) : ∀ a, a ≤ l.foldl mx a ∧ ∀ x ∈ l, x ≤ l.foldl mx a := by
  induction l with
  | nil => intro a; simp
  | cons x xs ih =>
    intro a
    have h := ih (mx a x)
    have h1 : a ≤ mx a x ∧ x ≤ mx a x := by unfold mx; split <;> omega
    simp only [List.foldl_cons]
    refine ⟨Int.le_trans h1.1 h.1, fun y hy => ?_⟩
    rcases List.mem_cons.1 hy with rfl | hy
    · exact Int.le_trans h1.2 h.1
    · exact h.2 y hy
theorem add_step (s : C4) (v : Int) (hs : s.1 = 0 → s = (0, 0, 0, 0)) : cell_total_add.f s.1 s.2.1 s.2.2.1 s.2.2.2 1 v v v = some (step s v) := by
  unfold cell_total_add.f step
  rw [if_neg (by simp)]
  by_cases h : s.1 = 0
  · rw [if_pos h, hs h]; rfl
  · rw [if_neg h, if_neg (by simp [h])]
theorem take_snoc (l : List Int) (i : Nat) (h : i < l.length) : l.take (i + 1) = l.take i ++ [rd l i] := by
  rw [List.take_succ_eq_append_getElem h]
  unfold rd
  simp [List.getD, h]
theorem S_snoc (l : List Int) (v : Int) : S (l ++ [v]) = step (S l) v := by unfold S; rw [List.foldl_append]; rfl
theorem S_zero (l : List Int) (hw : ∀ x ∈ l, wrap64 x = x) (hl : l.length < 9223372036854775808) (h : (S l).1 = 0) : l = [] := by
  cases l with
  | nil => rfl
  | cons x xs =>
    rw [S_cons x xs (hw x (by simp)) (by simpa using hl)] at h
    simp only at h
    omega
theorem all_l0 (l : List Int) (hw : ∀ x ∈ l, wrap64 x = x) (hl : l.length < 9223372036854775808) (d : Nat) : ∀ (k i : Nat), i + d = l.length → d < k →
    cell_All.l0 k l (l.length : Int) i (S (l.take i)).1 (S (l.take i)).2.1 (S (l.take i)).2.2.1 (S (l.take i)).2.2.2 = some (S l) := by
  induction d with
  | zero =>
    intro k i h hk
    obtain ⟨k, rfl⟩ : ∃ m, k = m + 1 := ⟨k - 1, by omega⟩
    simp only [cell_All.l0]
    rw [if_neg (by omega), List.take_of_length_le (by omega)]
  | succ d ih =>
    intro k i h hk
    obtain ⟨k, rfl⟩ : ∃ m, k = m + 1 := ⟨k - 1, by omega⟩
    simp only [cell_All.l0]
    rw [if_pos (by omega), if_pos (by omega), if_pos (by omega)]
    simp only [cell_Of.f, Option.bind_some]
    have hz : (S (l.take i)).1 = 0 → S (l.take i) = (0, 0, 0, 0) := fun hz => by
      rw [S_zero (l.take i) (fun x hx => hw x (List.mem_of_mem_take hx)) (by rw [List.length_take]; omega) hz, S_nil]
    rw [add_step _ _ hz]
    simp only [Option.bind_some]
    have e : wrap64 ((i : Int) + 1) = ((i + 1 : Nat) : Int) := by unfold wrap64; omega
    rw [e, ← S_snoc, ← take_snoc l i (by omega)]
    exact ih k (i + 1) (by omega) (by omega)
theorem all_f (l : List Int) (hw : ∀ x ∈ l, wrap64 x = x) (hl : l.length < 9223372036854775808) (k : Nat) (hk : l.length < k) : cell_All.f k l = some (S l) := by
  unfold cell_All.f
  have := all_l0 l hw hl l.length k 0 (by omega) hk
  simpa [S_nil] using this
theorem sound_S (l : List Int) (hw : ∀ x ∈ l, wrap64 x = x) (hl : l.length < 9223372036854775808) : cell_Sound.f (S l).1 (S l).2.1 (S l).2.2.1 (S l).2.2.2 = some true := by
  cases l with
  | nil => rfl
  | cons x xs =>
    rw [S_cons x xs (hw x (by simp)) (by simpa using hl)]
    unfold cell_Sound.f
    simp only
    rw [if_neg (by omega)]
    cases xs with
    | nil =>
      rw [if_pos (by simp)]
      have : wrap64 (x + isum []) = x := by simp [isum, hw x (by simp)]
      rw [this]
      simp [cell_Of.f]
    | cons y ys =>
      rw [if_neg (by simp only [List.length_cons]; omega)]
      simp only [Option.some.injEq, decide_eq_true_eq]
      exact Int.le_trans (mn_le_foldl (y :: ys) x).1 (mx_ge_foldl (y :: ys) x).1
theorem known_f (k : Nat) (hk : 2 < k) : stratumlaw01_known.f k = some true := by
  unfold stratumlaw01_known.f
  have e : S [3, -1] = (2, 2, -1, 3) := by simp [S, step, wrap64, mn, mx]
  rw [all_f [3, -1] (by simp [wrap64]) (by simp) k (by simpa using hk), e]
  rfl
theorem S_one (a : Int) : S [a] = (1, a, a, a) := rfl
theorem wf_all {l : List Int} (h : ∀ x ∈ l, (Lit.int .i64 x).wf = true) : ∀ x ∈ l, wrap64 x = x := fun x hx => wrap_wf (h x hx)

theorem sound_of (n s a b : Int) (h : ¬ n = 1) : cell_Sound.f n s a b = some (if n ≤ 0 then (n == 0 && (s == 0 && (a == 0 && b == 0))) else decide (a ≤ b)) := by
  unfold cell_Sound.f
  split
  · rfl
  · first | rfl | rw [if_neg h]
theorem bounds_yes (k : Nat) (hk : 2 < k) (n s a b : Int) (h1 : ¬ n = 1) (hs : (if n ≤ 0 then (n == 0 && (s == 0 && (a == 0 && b == 0))) else decide (a ≤ b)) = false) : stratumlaw01_CellBounds.j0 (k + 1) true n s a b = some true := by
  simp only [stratumlaw01_CellBounds.j0]
  rw [if_pos trivial, known_f _ hk]
  rw [Option.bind_some, if_pos rfl, sound_of n s a b h1, hs]
  rfl
theorem bounds_no (k : Nat) (hk : 2 < k) (n s a b : Int) (hs : ¬ n = 1 → (if n ≤ 0 then (n == 0 && (s == 0 && (a == 0 && b == 0))) else decide (a ≤ b)) = true) : stratumlaw01_CellBounds.j0 (k + 1) false n s a b = some true := by
  simp only [stratumlaw01_CellBounds.j0]
  rw [if_neg (by simp), known_f _ hk]
  rw [Option.bind_some, if_pos rfl]
  split
  · rfl
  · rename_i h; rw [sound_of n s a b h, hs h]; rfl
theorem pure (n s a b : Int) (_ : (Lit.int .i64 n).wf = true) (_ : (Lit.int .i64 s).wf = true) (_ : (Lit.int .i64 a).wf = true) (_ : (Lit.int .i64 b).wf = true) : ∃ k, stratumlaw01_CellBounds.f k n s a b = some true := by
  refine ⟨5, ?_⟩
  unfold stratumlaw01_CellBounds.f
  split
  · exact bounds_yes 4 (by omega) n s a b (by omega) (by rw [if_pos (by omega)]; simp; omega)
  · split
    · split
      · rename_i h1 h2 h3
        by_cases e : n = 1
        · subst e
          simp only [stratumlaw01_CellBounds.j0]
          rw [if_pos trivial, known_f _ (by omega), Option.bind_some, if_pos rfl]
          unfold cell_Sound.f
          rw [if_neg (by omega), if_pos rfl]
          simp only [cell_Of.f, Option.bind_some, Option.some.injEq]
          simp
          omega
        · exact bounds_yes 4 (by omega) n s a b e (by rw [if_neg (by omega)]; simp; omega)
      · rw [if_neg (by omega)]
        exact bounds_no 4 (by omega) n s a b (fun _ => by rw [if_neg (by omega)]; simp; omega)
    · have e : n = 0 := by omega
      subst e
      rw [if_pos rfl]
      split
      · split
        · by_cases hb : b = 0
          · have : (b != 0) = false := by simp [hb]
            rw [this]
            exact bounds_no 4 (by omega) 0 s a b (fun _ => by rw [if_pos (by omega)]; simp; omega)
          · have : (b != 0) = true := by simp [hb]
            rw [this]
            exact bounds_yes 4 (by omega) 0 s a b (by omega) (by rw [if_pos (by omega)]; simp; omega)
        · exact bounds_yes 4 (by omega) 0 s a b (by omega) (by rw [if_pos (by omega)]; simp; omega)
      · exact bounds_yes 4 (by omega) 0 s a b (by omega) (by rw [if_pos (by omega)]; simp; omega)

theorem own : ownKnob Try.prog.godebug = none := by kernel_rfl
theorem laidOut : laidOutB Try.prog = true := by kernel_rfl
theorem cells23 : Try.prog.cellsOf 23 = 4 := by kernel_rfl
set_option maxRecDepth 100000 in
theorem lifted (os : Os) (started : os.Started) (H : Type) (enc : TypeId × Value → H) :
    ReturnsInHanded {} Try.checked os 3 .any (Rows.cellBoundsSpec.pre6 enc Try.prog Try.f3 Rows.cellBoundsRow.domain false) (Rows.cellBoundsSpec.post enc Try.prog Try.f3 false true false false) := by
  refine returnsInHanded_of_change_sized (C := Try.checked) own started (by kernel_rfl) Try.func3
    (ChangeSpec.witness6 (enc := enc) (C := Try.checked) false ⟨#[], #[.agg #[.int .i64 0, .int .i64 0, .int .i64 0, .int .i64 0]], []⟩ 8 (by kernel_rfl) (by kernel_rfl) (by kernel_rfl) (by kernel_rfl)) ?_
  intro W base args ds gs before hval0 hW hcnd _ _
  have hval : ∀ (j : Nat) t v, Try.f3.params[j]? = some t → args[j]? = some v → Value.okWide Try.prog W .any base t v := hval0
  have hW' := hW
  obtain ⟨p, q, hA0, hV, rfl, hfz, hnd⟩ := hW
  have hA : DataW.TrodAll enc Try.prog W 0 (fun _ => true) true Try.f3.params.toList args.toList ds p := hA0
  rw [Try.params3] at hA hval
  obtain ⟨v0, vs0, d0, ds0, p0, q0, hargs, rfl, rfl, h0, r0⟩ := trodAll_cons hA
  obtain ⟨rfl, rfl, rfl⟩ := trodAll_nil r0
  obtain rfl : args = #[v0] := by cases args; simp_all
  obtain ⟨rfl, rfl⟩ := trodVars_none hV
  have k0 := h0
  have lt0 : ∀ x ∈ p0, x.block < W.heap.size := by obtain ⟨m, hm⟩ := k0; exact DataW.trod_lt m _ _ _ hm
  obtain ⟨c0_0, c0_1, c0_2, c0_3, y0_0, y0_1, y0_2, y0_3, m0, rfl, hd0, hp0, t0_0, t0_1, t0_2, t0_3⟩ := open_agg4 Try.underlying23 (by kernel_rfl) cells23 (hval 0 23 v0 rfl rfl) h0
  obtain ⟨a0_0, e0_0, _, w0_0⟩ := DataW.trod_int Try.underlying2 t0_0
  obtain rfl : c0_0 = .int .i64 a0_0 := by simpa using e0_0
  obtain ⟨a0_1, e0_1, _, w0_1⟩ := DataW.trod_int Try.underlying2 t0_1
  obtain rfl : c0_1 = .int .i64 a0_1 := by simpa using e0_1
  obtain ⟨a0_2, e0_2, _, w0_2⟩ := DataW.trod_int Try.underlying2 t0_2
  obtain rfl : c0_2 = .int .i64 a0_2 := by simpa using e0_2
  obtain ⟨a0_3, e0_3, _, w0_3⟩ := DataW.trod_int Try.underlying2 t0_3
  obtain rfl : c0_3 = .int .i64 a0_3 := by simpa using e0_3
  clear hA0 hval0
  obtain ⟨k, hk⟩ := pure a0_0 a0_1 a0_2 a0_3 w0_0 w0_1 w0_2 w0_3
  refine (stratumlaw01_CellBounds.calls k a0_0 a0_1 a0_2 a0_3 true W hk).mono fun e W' ⟨he, bel⟩ => ?_
  subst he
  exact ⟨_, rfl, _, _, _, [], _, [], hW', trodAll_mk1 (shut_bool Try.underlying4 _), (trodAll_cons_mk (Below.trod laidOut (by kernel_rfl) (of_decide_eq_true (by kernel_rfl)) k0 bel lt0) trodAll_mk0), rfl, bel.frame _, fun h => by cases h⟩
theorem over : Rows.cellBoundsRow.holds Try.pinned (OpenSpec.ofChange Rows.cellBoundsSpec) :=
  OpenClaim.holds_of_wide 3 Try.f3 rfl rfl rfl rfl rfl rfl rfl ⟨rfl, rfl, rfl, rfl, rfl⟩ rfl rfl rfl rfl rfl (by kernel_rfl) Try.func3 (by kernel_rfl)
    (of_decide_eq_true (by kernel_rfl)) (by unfold Func.isWrapper; first | (rw [if_pos (by decide +kernel)]; kernel_rfl) | (rw [if_neg (by decide +kernel)]; exact ⟨rfl, rfl⟩))
    (fun os started H enc _ => lifted os started H enc)
theorem proved : Rows.CellBoundsSaid := over
#print axioms proved
end Go.Proofs.Ytfepnokgadacnaa.cellBounds
namespace Go.Proofs.Ytfepnokgadacnaa
/-- The row, under a short name, for the claim. -/
theorem cellBounds_holds : Rows.CellBoundsSaid := cellBounds.proved
end Go.Proofs.Ytfepnokgadacnaa
