/- What is proved here: the row of RankPlaces: for every input the law returns true and its argument reads as before; conditions: none. -/
import Derived.Test.YtmgocfcbkejgdaaRows
import Derived.Test.YtmgocfcbkejgdaaRankPlacesW
import Derived.WalkKit
import Derived.ProofKit
import Derived.OpenShut
import Derived.ShutString
import Derived.ChangeOld
import Derived.Below
import Derived.SizedLaws
import Derived.Deep.Slices
import Derived.Lib.SmallJoins
namespace Go.Proofs.Ytmgocfcbkejgdaa.rankPlaces
open Go.ChangeShapes Go.WideShapes Go.ChangeAt Go.RowKit Go.Joins
open Go.Proofs.Ytmgocfcbkejgdaa.PRankOrders Go.Proofs.YtmgocfcbkejgdaaW.PrintWords Go.Proofs.YtmgocfcbkejgdaaW.PrintLast Go.Proofs.YtmgocfcbkejgdaaW.PrintMore
set_option maxRecDepth 4000
set_option linter.unusedVariables false
theorem list_of {α : Type} {n : Nat} {p : Nat → α → Prop} (h : ∀ i, i < n → ∃ x, p i x) : ∃ l : List α, l.length = n ∧ ∀ j x, l[j]? = some x → p j x := by
  induction n with
  | zero => exact ⟨[], rfl, fun j x hx => by simp at hx⟩
  | succ n ih =>
    obtain ⟨l, hl, hp⟩ := ih (fun i hi => h i (by omega))
    obtain ⟨x, hx⟩ := h n (by omega)
    refine ⟨l ++ [x], by simp [hl], fun j y hy => ?_⟩
    by_cases hj : j < l.length
    · rw [List.getElem?_append_left hj] at hy; exact hp j y hy
    · have hj2 := (List.getElem?_eq_some_iff.1 hy).1
      simp at hj2
      have e : j = n := by omega
      subst e
      rw [List.getElem?_append_right (by omega)] at hy
      simp [hl] at hy
      subst hy
      exact hx
theorem addr_add_add (a : Addr) (i j : Nat) : (a.add i).add j = a.add (i + j) := by
  unfold Go.Addr.add
  (repeat' split) <;> (try simp_all) <;> (try omega)
section
variable {H : Type} {enc : TypeId × Value → H} {w : World}
theorem read_s23 {fuel : Nat} {cs : List Value} {x : DataW H × List MemPlace} (h : DataW.trod enc Try.prog w 0 (fun _ => true) true fuel 23 cs = some x) : ∃ d : S23, k23.K w d cs ∧ (Lit.int .i64 d.f0).wf = true ∧ (Lit.int .i64 d.f1).wf = true := by
  obtain ⟨y0, y1, y2, y3, n, _, hlen, h0, h1, h2, h3⟩ := Go.Joins.trod_struct4 Try.underlying23 h
  have hl : cs.length = 4 := hlen.trans (by kernel_rfl)
  match cs, hl with
  | [c0, c1, c2, c3], _ =>
    have c2_ : Try.prog.cellsOf 2 = 1 := by kernel_rfl
    have h0' : DataW.trod enc Try.prog w 0 (fun _ => true) true n 2 [c0] = some y0 := by rw [c2_] at h0; exact h0
    have h1' : DataW.trod enc Try.prog w 0 (fun _ => true) true n 2 [c1] = some y1 := by rw [c2_] at h1; exact h1
    have h2' : DataW.trod enc Try.prog w 0 (fun _ => true) true n 2 [c2] = some y2 := by rw [c2_] at h2; exact h2
    have h3' : DataW.trod enc Try.prog w 0 (fun _ => true) true n 2 [c3] = some y3 := by rw [c2_] at h3; exact h3
    obtain ⟨a0, e0, _, w0⟩ := DataW.trod_int Try.underlying2 h0'
    obtain ⟨a1, e1, _, w1⟩ := DataW.trod_int Try.underlying2 h1'
    obtain ⟨a2, e2, _, _⟩ := DataW.trod_int Try.underlying2 h2'
    obtain ⟨a3, e3, _, _⟩ := DataW.trod_int Try.underlying2 h3'
    obtain rfl : c0 = .int .i64 a0 := by simpa using e0
    obtain rfl : c1 = .int .i64 a1 := by simpa using e1
    obtain rfl : c2 = .int .i64 a2 := by simpa using e2
    obtain rfl : c3 = .int .i64 a3 := by simpa using e3
    exact ⟨⟨a0, a1, a2, a3⟩, k23_mk w ⟨a0, a1, a2, a3⟩, w0, w1⟩
theorem read_l23 {t : TypeId} {fuel : Nat} {v : Value} {x : DataW H × List MemPlace} (ht : Try.prog.underlying t = some (.slice 23)) (h : DataW.trod enc Try.prog w 0 (fun _ => true) true fuel t [v] = some x) :
    ∃ A c l, v = .slice A l.length c ∧ l.length ≤ c ∧ Kd.C k23 w A l.length l ∧ ∀ d ∈ l, (Lit.int .i64 d.f0).wf = true ∧ (Lit.int .i64 d.f1).wf = true := by
  rcases Go.Deep.open_slice ht h with ⟨hcs, _⟩ | ⟨a, len, cap, m, n, D, Pl, hcs, _, hl, hm, hmm, _, hx⟩
  · obtain rfl : v = .slice none 0 0 := by simpa using hcs
    exact ⟨none, 0, [], rfl, Nat.le_refl _, Kd.C_nil _ w, fun d hd => by cases hd⟩
  · obtain rfl : v = .slice (some a) len cap := by simpa using hcs
    simp only [if_true] at hmm
    have c2 : Try.prog.cellsOf 23 = 4 := by kernel_rfl
    rw [c2] at hx
    obtain ⟨l, hll, hlp⟩ := list_of (n := len) (p := fun i (d : S23) => (∃ cs, cs.length = 4 ∧ k23.K w d cs ∧ ∀ q u, cs[q]? = some u → w.cell? (a.add (i * 4 + q)) = some u) ∧ (Lit.int .i64 d.f0).wf = true ∧ (Lit.int .i64 d.f1).wf = true) (fun i hi => by
      obtain ⟨cs, hc, ht2⟩ := hx i (by omega)
      obtain ⟨d, hK, w0, w1⟩ := read_s23 ht2
      obtain ⟨_, hlen, hcell⟩ := World.cells?_some hc
      refine ⟨d, ⟨cs, hlen, hK, fun q u hq => ?_⟩, w0, w1⟩
      have hq2 := (List.getElem?_eq_some_iff.1 hq).1
      rw [← addr_add_add, hcell q (by omega), hq])
    subst hll
    exact ⟨some a, cap, l, rfl, hl, ⟨rfl, by unfold maxLen at hm; omega, fun _ => ⟨a, rfl, fun j p hp => (hlp j p hp).1⟩⟩, fun d hd => by
      obtain ⟨j, hj⟩ := List.getElem?_of_mem hd
      exact (hlp j d hj).2⟩
end
theorem own : ownKnob Try.prog.godebug = none := by kernel_rfl
theorem laidOut : laidOutB Try.prog = true := by kernel_rfl
set_option maxRecDepth 100000 in
theorem lifted (os : Os) (started : os.Started) (H : Type) (enc : TypeId × Value → H) :
    ReturnsInHanded {} Try.checked os 6 .any (Rows.rankPlacesSpec.pre6 enc Try.prog Try.f6 Rows.rankPlacesRow.domain false) (Rows.rankPlacesSpec.post enc Try.prog Try.f6 false true false false) := by
  refine returnsInHanded_of_change_sized (C := Try.checked) own started (by kernel_rfl) Try.func6
    (ChangeSpec.witness6 (enc := enc) (C := Try.checked) false ⟨#[], #[.slice none 0 0], []⟩ 8 (by kernel_rfl) (by kernel_rfl) (by kernel_rfl) (by kernel_rfl)) ?_
  intro W base args ds gs before hval0 hW hcnd _ _
  have hval : ∀ (j : Nat) t v, Try.f6.params[j]? = some t → args[j]? = some v → Value.okWide Try.prog W .any base t v := hval0
  have hW' := hW
  obtain ⟨p, q, hA0, hV, rfl, hfz, hnd⟩ := hW
  have hA : DataW.TrodAll enc Try.prog W 0 (fun _ => true) true Try.f6.params.toList args.toList ds p := hA0
  rw [Try.params6] at hA hval
  obtain ⟨v0, vs0, d0, ds0, p0, q0, hargs, rfl, rfl, h0, r0⟩ := trodAll_cons hA
  obtain ⟨rfl, rfl, rfl⟩ := trodAll_nil r0
  obtain rfl : args = #[v0] := by cases args; simp_all
  obtain ⟨rfl, rfl⟩ := trodVars_none hV
  have k0 := h0
  have lt0 : ∀ x ∈ p0, x.block < W.heap.size := by obtain ⟨m, hm⟩ := k0; exact DataW.trod_lt m _ _ _ hm
  obtain ⟨aa0, len0, cap0, rfl⟩ := okWide_slice Try.underlying34 (hval 0 34 v0 rfl rfl)
  obtain ⟨fu0, hf0⟩ := h0
  obtain ⟨A0, c0, l0, e0, hc0, hC0, hw0⟩ := read_l23 Try.underlying34 (v := .slice aa0 len0 cap0) hf0
  obtain ⟨rfl, rfl, rfl⟩ : aa0 = A0 ∧ len0 = l0.length ∧ cap0 = c0 := by simpa using e0
  clear hA0 hval0
  refine (RankSort.places_calls l0 aa0 cap0 W hC0 hc0).mono fun e W' ⟨he, bel⟩ => ?_
  subst he
  exact ⟨_, rfl, _, _, _, [], _, [], hW', trodAll_mk1 (shut_bool Try.underlying4 _), (trodAll_cons_mk (Below.trod laidOut (by kernel_rfl) (of_decide_eq_true (by kernel_rfl)) k0 bel lt0) trodAll_mk0), rfl, bel.frame _, fun h => by cases h⟩
theorem over : Rows.rankPlacesRow.holds Try.pinned (OpenSpec.ofChange Rows.rankPlacesSpec) :=
  OpenClaim.holds_of_wide 6 Try.f6 rfl rfl rfl rfl rfl rfl rfl ⟨rfl, rfl, rfl, rfl, rfl⟩ rfl rfl rfl rfl rfl (by kernel_rfl) Try.func6 (by kernel_rfl)
    (of_decide_eq_true (by kernel_rfl)) (by unfold Func.isWrapper; first | (rw [if_pos (by decide +kernel)]; kernel_rfl) | (rw [if_neg (by decide +kernel)]; exact ⟨rfl, rfl⟩))
    (fun os started H enc _ => lifted os started H enc)
theorem proved : Rows.RankPlacesSaid := over
#print axioms proved
end Go.Proofs.Ytmgocfcbkejgdaa.rankPlaces
namespace Go.Proofs.Ytmgocfcbkejgdaa
/-- The row, under a short name, for the claim. -/
theorem rankPlaces_holds : Rows.RankPlacesSaid := rankPlaces.proved
end Go.Proofs.Ytmgocfcbkejgdaa
