/- What is proved here: the row of RankEdges: for every input the law returns true; conditions: none. -/
import Derived.Test.YtmgocfcbkejgdaaRows
import Derived.Test.YtmgocfcbkejgdaaRankKnown
import Derived.WalkKit
import Derived.ProofKit
import Derived.OpenShut
import Derived.ShutString
import Derived.ChangeOld
import Derived.Below
import Derived.SizedLaws
namespace Go.Proofs.Ytmgocfcbkejgdaa.rankEdges
open Go.ChangeShapes Go.WideShapes Go.ChangeAt Go.RowKit
open Go.Proofs.Ytmgocfcbkejgdaa.RankBase Go.Proofs.Ytmgocfcbkejgdaa.RankPlain Go.Proofs.YtmgocfcbkejgdaaW.PrintWords Go.Proofs.YtmgocfcbkejgdaaW.PrintLast Go.Proofs.YtmgocfcbkejgdaaW.PrintMore
set_option linter.unusedVariables false
set_option linter.unusedSimpArgs false
theorem low_trans {w w1 : World} {q : Nat} (h : Below (w.drewN q).heap.size (w.drewN q) w1) : Below w.heap.size w w1 := ⟨h.os, h.tape, h.output, h.size, h.block⟩
theorem wfU {x : Int} (h : (Lit.int .u64 x).wf = true) : 0 ≤ x ∧ x < 18446744073709551616 := by
  simp [Lit.wf, IntKind.min, IntKind.max, IntKind.signed, IntKind.bits] at h; omega
theorem hi_le {b : Nat} (h : b < 2 ^ 64) (c : nan b = false) : 2 ^ 52 - 1 ≤ hi b ∧ hi b ≤ 2 ^ 63 + 2047 * 2 ^ 52 := by
  unfold hi
  rw [c, if_neg (by simp)]
  have := of_decide_eq_false c
  split <;> omega
theorem hi_nan {b : Nat} (c : nan b = true) : hi b = 0 := by unfold hi; rw [c]; rfl
theorem h_nan : hi 9221120237041090561 = 0 := by decide
theorem h_pinf : hi 9218868437227405312 = 2 ^ 63 + 2047 * 2 ^ 52 := by decide
theorem h_ninf : hi 18442240474082181120 = 2 ^ 52 - 1 := by decide
theorem h_nz : hi 9223372036854775808 = 2 ^ 63 - 1 := by decide
theorem h_z : hi 0 = 2 ^ 63 := by decide
set_option maxRecDepth 100000 in
set_option maxHeartbeats 2000000 in
theorem law_calls (a : Int) (w : World) (ha : (Lit.int .u64 a).wf = true) : Calls Try.prog 8 #[.int .u64 a] w fun e w' => e = .returned (.bool true) ∧ Below w.heap.size w w' := by
  have hx := frombits_nat (wfU ha).1 (wfU ha).2
  have hd := run_frombits a
  generalize a.toNat = x at *
  have n2 : copyI 0 13830554455654793216 = 9223372036854775808 := by decide +kernel
  have hN := nanB_eq x hx
  have c1 := cmp_hi x 9221120237041090561 hx (by decide)
  have c2 := cmp_hi x 9218868437227405312 hx (by decide)
  have c3 := cmp_hi x 18442240474082181120 hx (by decide)
  have c4 := cmp_hi 9223372036854775808 x (by decide) hx
  have c5 := cmp_hi x 0 hx (by decide)
  rw [h_nan] at c1; rw [h_pinf] at c2; rw [h_ninf] at c3; rw [h_nz] at c4; rw [h_z] at c5
  cases hc : nan x with
  | true =>
    rw [hc] at hN
    have z := hi_nan hc
    rw [z] at c1 c2 c3 c4 c5
    have e1 : cmpI (highI x) (highI 9221120237041090561) = 0 := by rw [c1]; decide
    have e3 : cmpI (highI x) (highI 18442240474082181120) = -1 := by rw [c3]; decide
    clear c1 c2 c3 c4 c5
    have k1 := fun w => cmp_calls x 9221120237041090561 w
    have k3 := fun w => cmp_calls x 18442240474082181120 w
    rw [e1] at k1
    rw [e3] at k3
    have K1 := Aside0.mk k1
    have K3 := Aside0.mk k3
    clear k1 k3
    have isn := fun w => isnan_calls x w
    rw [hN] at isn
    have isn0 := Aside0.mk isn
    clear isn hN
    go_enter Try.func8, Try.ntmps8
    go_wp2_with (first
      | (go_at_call 11; refine (RankSort.known_calls _).mono ?_; rintro e w1 ⟨rfl, hB⟩)
      | (go_at_call 18; refine (isn0.out _).mono ?_; rintro e w3 ⟨rfl, ⟨q1, rfl⟩⟩)
      | (go_at_call 20; refine (inf_calls _ _).mono ?_; rintro e w3 ⟨rfl, ⟨q1, rfl⟩⟩)
      | (go_at_call 21; refine (nan_calls _).mono ?_; rintro e w3 ⟨rfl, ⟨q1, rfl⟩⟩)
      | (go_at_call_of 12 (Value.float FloatKind.f64 9221120237041090561); refine (K1.out _).mono ?_; rintro e w3 ⟨rfl, ⟨q1, rfl⟩⟩)
      | (go_at_call_of 12 (Value.float FloatKind.f64 18442240474082181120); refine (K3.out _).mono ?_; rintro e w3 ⟨rfl, ⟨q1, rfl⟩⟩))
    go_ret
    exact ⟨by simp [e1, e3], by repeat (first | exact hB | exact low_trans hB | apply pw_below_drewN | apply below_drew1)⟩
  | false =>
    rw [hc] at hN
    obtain ⟨z1, z2⟩ := hi_le hx hc
    have e1 : cmpI (highI x) (highI 9221120237041090561) = 1 := by rw [c1, if_neg (by omega), if_pos (by omega)]
    have e2 : decide (cmpI (highI x) (highI 9218868437227405312) ≤ 0) = true := by
      rw [c2, decide_eq_true_eq]; split
      · omega
      · rw [if_neg (by omega)]; omega
    have e3 : decide (cmpI (highI x) (highI 18442240474082181120) ≥ 0) = true := by
      rw [c3, decide_eq_true_eq, if_neg (by omega)]; split <;> omega
    have e4 : (decide (cmpI (highI 9223372036854775808) (highI x) < 0) && decide (cmpI (highI x) (highI 0) < 0)) = false := by
      rw [c4, c5, Bool.and_eq_false_iff]
      by_cases c : 2 ^ 63 - 1 < hi x
      · right; rw [decide_eq_false_iff_not, if_neg (by omega)]; split <;> omega
      · left; rw [decide_eq_false_iff_not, if_neg c]; split <;> omega
    clear c1 c2 c3 c4 c5
    have isn := fun w => isnan_calls x w
    rw [hN] at isn
    have isn0 := Aside0.mk isn
    clear isn hN
    go_enter Try.func8, Try.ntmps8
    go_wp2_with (first
      | (go_at_call 11; refine (RankSort.known_calls _).mono ?_; rintro e w1 ⟨rfl, hB⟩)
      | (go_at_call 18; refine (isn0.out _).mono ?_; rintro e w3 ⟨rfl, ⟨q1, rfl⟩⟩)
      | (go_at_call 20; refine (inf_calls _ _).mono ?_; rintro e w3 ⟨rfl, ⟨q1, rfl⟩⟩)
      | (go_at_call 21; refine (nan_calls _).mono ?_; rintro e w3 ⟨rfl, ⟨q1, rfl⟩⟩)
      | (go_at_call 22; refine (copysign_calls _ _ _).mono ?_; rintro e w3 ⟨rfl, ⟨q1, rfl⟩⟩)
      | (go_at_call 12; refine (cmp_calls _ _ _).mono ?_; rintro e w3 ⟨rfl, ⟨q1, rfl⟩⟩))
    all_goals go_ret
    all_goals exact ⟨by simp_all, by repeat (first | exact hB | exact low_trans hB | apply pw_below_drewN | apply below_drew1)⟩
theorem own : ownKnob Try.prog.godebug = none := by kernel_rfl
theorem laidOut : laidOutB Try.prog = true := by kernel_rfl
set_option maxRecDepth 100000 in
theorem lifted (os : Os) (started : os.Started) (H : Type) (enc : TypeId × Value → H) :
    ReturnsInHanded {} Try.checked os 8 .any (Rows.rankEdgesSpec.pre6 enc Try.prog Try.f8 Rows.rankEdgesRow.domain false) (Rows.rankEdgesSpec.post enc Try.prog Try.f8 false true false false) := by
  refine returnsInHanded_of_change_sized (C := Try.checked) own started (by kernel_rfl) Try.func8
    (ChangeSpec.witness6 (enc := enc) (C := Try.checked) false ⟨#[], #[.int .u64 0], []⟩ 8 (by kernel_rfl) (by kernel_rfl) (by kernel_rfl) (by kernel_rfl)) ?_
  intro W base args ds gs before hval0 hW hcnd _ _
  have hval : ∀ (j : Nat) t v, Try.f8.params[j]? = some t → args[j]? = some v → Value.okWide Try.prog W .any base t v := hval0
  have hW' := hW
  obtain ⟨p, q, hA0, hV, rfl, hfz, hnd⟩ := hW
  have hA : DataW.TrodAll enc Try.prog W 0 (fun _ => true) true Try.f8.params.toList args.toList ds p := hA0
  rw [Try.params8] at hA hval
  obtain ⟨v0, vs0, d0, ds0, p0, q0, hargs, rfl, rfl, h0, r0⟩ := trodAll_cons hA
  obtain ⟨rfl, rfl, rfl⟩ := trodAll_nil r0
  obtain rfl : args = #[v0] := by cases args; simp_all
  obtain ⟨rfl, rfl⟩ := trodVars_none hV
  obtain ⟨a0, rfl, rfl, rfl, w0⟩ := open_int Try.underlying31 (hval 0 31 v0 rfl rfl) h0
  clear hA0 hval0
  refine (law_calls a0 W w0).mono fun e W' ⟨he, bel⟩ => ?_
  subst he
  exact ⟨_, rfl, _, _, _, [], _, [], hW', trodAll_mk1 (shut_bool Try.underlying4 _), (trodAll_cons_mk (shut_int Try.underlying31 w0) trodAll_mk0), rfl, bel.frame _, fun h => by cases h⟩
theorem over : Rows.rankEdgesRow.holds Try.pinned (OpenSpec.ofChange Rows.rankEdgesSpec) :=
  OpenClaim.holds_of_wide 8 Try.f8 rfl rfl rfl rfl rfl rfl rfl ⟨rfl, rfl, rfl, rfl, rfl⟩ rfl rfl rfl rfl rfl (by kernel_rfl) Try.func8 (by kernel_rfl)
    (of_decide_eq_true (by kernel_rfl)) (by unfold Func.isWrapper; first | (rw [if_pos (by decide +kernel)]; kernel_rfl) | (rw [if_neg (by decide +kernel)]; exact ⟨rfl, rfl⟩))
    (fun os started H enc _ => lifted os started H enc)
theorem proved : Rows.RankEdgesSaid := over
#print axioms proved
end Go.Proofs.Ytmgocfcbkejgdaa.rankEdges
namespace Go.Proofs.Ytmgocfcbkejgdaa
/-- The row, under a short name, for the claim. -/
theorem rankEdges_holds : Rows.RankEdgesSaid := rankEdges.proved
end Go.Proofs.Ytmgocfcbkejgdaa
