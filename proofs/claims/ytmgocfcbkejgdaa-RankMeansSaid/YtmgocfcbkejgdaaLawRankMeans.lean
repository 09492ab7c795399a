/- What is proved here: the row of RankMeans: for every input the law returns true; conditions: none. -/
import Derived.Test.YtmgocfcbkejgdaaRows
import Derived.Test.YtmgocfcbkejgdaaRankKnown
import Derived.WalkKit
import Derived.ProofKit
import Derived.OpenShut
import Derived.ShutString
import Derived.ChangeOld
import Derived.Below
import Derived.SizedLaws
import Derived.Lib.SmallJoins
namespace Go.Proofs.Ytmgocfcbkejgdaa.rankMeans
open Go.ChangeShapes Go.WideShapes Go.ChangeAt Go.RowKit
open Go.Proofs.Ytmgocfcbkejgdaa.RankBase Go.Proofs.Ytmgocfcbkejgdaa.RankPlain Go.Proofs.YtmgocfcbkejgdaaW.PrintWords Go.Proofs.YtmgocfcbkejgdaaW.PrintLast Go.Proofs.YtmgocfcbkejgdaaW.PrintMore
set_option linter.unusedVariables false
set_option linter.unusedSimpArgs false
theorem low_trans {w w1 : World} {q : Nat} (h : Below (w.drewN q).heap.size (w.drewN q) w1) : Below w.heap.size w w1 := ⟨h.os, h.tape, h.output, h.size, h.block⟩
theorem wfL {x : Int} (h : (Lit.int .i64 x).wf = true) : -9223372036854775808 ≤ x ∧ x < 9223372036854775808 := by
  simp [Lit.wf, IntKind.min, IntKind.max, IntKind.signed, IntKind.bits] at h; omega
theorem quot_eq (n s : Int) : floatBits .quo .f64 (floatOfInt .f64 s) (floatOfInt .f64 n) = mean s n := rfl
/-- what the mean may be: a number that is no NaN, or, of nought by nought alone, a NaN -/
theorem mean_two {n s : Int} (hn : n.natAbs < 2 ^ 64) (hs : s.natAbs < 2 ^ 64) : (∃ q, nan q = false ∧ q < 2 ^ 64 ∧ ∀ r, MeanIs n s r → r = q) ∨ (n = 0 ∧ s = 0 ∧ ∀ r, MeanIs n s r → nan r = true ∧ r < 2 ^ 64) := by
  rcases mean_cases s n hs hn with ⟨h1, h2, h3⟩ | ⟨_, q, h3, h4, h5⟩
  · exact .inr ⟨h2, h1, fun r h => h.2 (by rw [quot_eq, h3])⟩
  · exact .inl ⟨q, h4, h5, fun r h => h.1 q (by rw [quot_eq, h3])⟩
theorem keepc {w w' : World} {p : Addr} {v : Value} (hB : Below w.heap.size w w') (h : w.cell? p = some v) : w'.cell? p = some v := (hB.cell (World.block_lt_of_cell? _ _ h)).trans h
set_option maxRecDepth 100000 in
set_option maxHeartbeats 4000000 in
theorem law_calls (n s a b : Int) (w : World) (hn : (Lit.int .i64 n).wf = true) (hs : (Lit.int .i64 s).wf = true) : Calls Try.prog 7 #[.agg #[.int .i64 n, .int .i64 s, .int .i64 a, .int .i64 b]] w fun e w' => e = .returned (.bool true) ∧ Below w.heap.size w w' := by
  have h1 := wfL hn
  have h2 := wfL hs
  rcases mean_two (n := n) (s := s) (by omega) (by omega) with ⟨q, hq1, hq2, hq⟩ | ⟨rfl, rfl, hq⟩
  · have isn := fun w => isnan_calls q w
    rw [nanB_eq q hq2, hq1] at isn
    have hd := run_bits q
    have IS := Aside0.mk isn
    have HQ := Aside0.mk hq
    clear isn hq
    go_enter Try.func7, Try.ntmps7
    go_wp2_with (first
      | (go_at_call 11; refine (RankSort.known_calls _).mono ?_; rintro e w1 ⟨rfl, hB⟩)
      | (go_at_call 13; refine (mean_calls _ _ _ _ _).mono ?_; rintro e w2 ⟨⟨r, rfl, hr⟩, hB2⟩; obtain rfl := HQ.out _ hr; have k0 : w2.cell? ⟨w.heap.size, 0, none⟩ = some (.int .i64 n) := keepc hB2 (by simp); have k1 : w2.cell? ⟨w.heap.size, 1, none⟩ = some (.int .i64 s) := keepc hB2 (by simp); have k2 : w2.cell? ⟨w.heap.size, 2, none⟩ = some (.int .i64 a) := keepc hB2 (by simp); have k3 : w2.cell? ⟨w.heap.size, 3, none⟩ = some (.int .i64 b) := keepc hB2 (by simp))
      | (go_at_call 17; refine (refmean_calls _ _ _ _ _).mono ?_; rintro e w3 ⟨⟨r3, rfl, hr3⟩, hB3⟩; obtain rfl := HQ.out _ hr3; have m0 : w3.cell? ⟨w.heap.size, 0, none⟩ = some (.int .i64 n) := keepc hB3 k0; have m1 : w3.cell? ⟨w.heap.size, 1, none⟩ = some (.int .i64 s) := keepc hB3 k1; have m2 : w3.cell? ⟨w.heap.size, 2, none⟩ = some (.int .i64 a) := keepc hB3 k2; have m3 : w3.cell? ⟨w.heap.size, 3, none⟩ = some (.int .i64 b) := keepc hB3 k3)
      | (go_at_call 18; refine (IS.out _).mono ?_; rintro e w4 ⟨rfl, ⟨q1, rfl⟩⟩))
    go_ret
    have B1 : Below w.heap.size w w2 := ((Below.refl w.heap.size w).alloc (Nat.le_refl _) _).trans (hB2.mono (by simp))
    have B2 := B1.trans (hB3.mono B1.size)
    exact ⟨rfl, B2.trans ((low_trans hB).mono B2.size)⟩
  · have HQ := Aside0.mk hq
    clear hq
    go_enter Try.func7, Try.ntmps7
    go_wp2_with (first
      | (go_at_call 11; refine (RankSort.known_calls _).mono ?_; rintro e w1 ⟨rfl, hB⟩; have l0 : w1.cell? ⟨w.heap.size, 0, none⟩ = some (.int .i64 0) := keepc hB m0; have l1 : w1.cell? ⟨w.heap.size, 1, none⟩ = some (.int .i64 0) := keepc hB m1; have l2 : w1.cell? ⟨w.heap.size, 2, none⟩ = some (.int .i64 a) := keepc hB m2; have l3 : w1.cell? ⟨w.heap.size, 3, none⟩ = some (.int .i64 b) := keepc hB m3)
      | (go_at_call 13; refine (mean_calls _ _ _ _ _).mono ?_; rintro e w2 ⟨⟨r, rfl, hr⟩, hB2⟩; have N1 := nanB_eq r (HQ.out _ hr).2; rw [(HQ.out _ hr).1] at N1; have k0 : w2.cell? ⟨w.heap.size, 0, none⟩ = some (.int .i64 0) := keepc hB2 (by simp); have k1 : w2.cell? ⟨w.heap.size, 1, none⟩ = some (.int .i64 0) := keepc hB2 (by simp); have k2 : w2.cell? ⟨w.heap.size, 2, none⟩ = some (.int .i64 a) := keepc hB2 (by simp); have k3 : w2.cell? ⟨w.heap.size, 3, none⟩ = some (.int .i64 b) := keepc hB2 (by simp))
      | (go_at_call 17; refine (refmean_calls _ _ _ _ _).mono ?_; rintro e w3 ⟨⟨r3, rfl, hr3⟩, hB3⟩; have N3 := nanB_eq r3 (HQ.out _ hr3).2; rw [(HQ.out _ hr3).1] at N3; have m0 : w3.cell? ⟨w.heap.size, 0, none⟩ = some (.int .i64 0) := keepc hB3 k0; have m1 : w3.cell? ⟨w.heap.size, 1, none⟩ = some (.int .i64 0) := keepc hB3 k1; have m2 : w3.cell? ⟨w.heap.size, 2, none⟩ = some (.int .i64 a) := keepc hB3 k2; have m3 : w3.cell? ⟨w.heap.size, 3, none⟩ = some (.int .i64 b) := keepc hB3 k3)
      | (go_at_call 18; refine (isnan_calls _ _).mono ?_; rintro e w4 ⟨rfl, ⟨q1, rfl⟩⟩))
    go_ret
    have B1 : Below w.heap.size w w2 := ((Below.refl w.heap.size w).alloc (Nat.le_refl _) _).trans (hB2.mono (by simp))
    have B2 := B1.trans (hB3.mono B1.size)
    have B3 := B2.trans ((low_trans hB).mono B2.size)
    exact ⟨rfl, ⟨B3.os, B3.tape, B3.output, B3.size, B3.block⟩⟩
theorem own : ownKnob Try.prog.godebug = none := by kernel_rfl
theorem laidOut : laidOutB Try.prog = true := by kernel_rfl
set_option maxRecDepth 100000 in
theorem lifted (os : Os) (started : os.Started) (H : Type) (enc : TypeId × Value → H) :
    ReturnsInHanded {} Try.checked os 7 .any (Rows.rankMeansSpec.pre6 enc Try.prog Try.f7 Rows.rankMeansRow.domain false) (Rows.rankMeansSpec.post enc Try.prog Try.f7 false true false false) := by
  refine returnsInHanded_of_change_sized (C := Try.checked) own started (by kernel_rfl) Try.func7
    (ChangeSpec.witness6 (enc := enc) (C := Try.checked) false ⟨#[], #[.agg #[.int .i64 0, .int .i64 0, .int .i64 0, .int .i64 0]], []⟩ 8 (by kernel_rfl) (by kernel_rfl) (by kernel_rfl) (by kernel_rfl)) ?_
  intro W base args ds gs before hval0 hW hcnd _ _
  have hval : ∀ (j : Nat) t v, Try.f7.params[j]? = some t → args[j]? = some v → Value.okWide Try.prog W .any base t v := hval0
  have hW' := hW
  obtain ⟨p, q, hA0, hV, rfl, hfz, hnd⟩ := hW
  have hA : DataW.TrodAll enc Try.prog W 0 (fun _ => true) true Try.f7.params.toList args.toList ds p := hA0
  rw [Try.params7] at hA hval
  obtain ⟨v0, vs0, d0, ds0, p0, q0, hargs, rfl, rfl, h0, r0⟩ := trodAll_cons hA
  obtain ⟨rfl, rfl, rfl⟩ := trodAll_nil r0
  obtain rfl : args = #[v0] := by cases args; simp_all
  obtain ⟨rfl, rfl⟩ := trodVars_none hV
  have k0 := h0
  have lt0 : ∀ x ∈ p0, x.block < W.heap.size := by obtain ⟨m, hm⟩ := k0; exact DataW.trod_lt m _ _ _ hm
  obtain ⟨c0, c1, c2, c3, y0, y1, y2, y3, m0, rfl, hd0, hp0, t0, t1, t2, t3⟩ := Go.Joins.open_agg4 Try.underlying23 (by kernel_rfl) (by kernel_rfl) (hval 0 23 v0 rfl rfl) h0
  obtain ⟨b0, e0, _, u0⟩ := DataW.trod_int Try.underlying2 t0
  obtain rfl : c0 = .int .i64 b0 := by simpa using e0
  obtain ⟨b1, e1, _, u1⟩ := DataW.trod_int Try.underlying2 t1
  obtain rfl : c1 = .int .i64 b1 := by simpa using e1
  obtain ⟨b2, e2, _, u2⟩ := DataW.trod_int Try.underlying2 t2
  obtain rfl : c2 = .int .i64 b2 := by simpa using e2
  obtain ⟨b3, e3, _, u3⟩ := DataW.trod_int Try.underlying2 t3
  obtain rfl : c3 = .int .i64 b3 := by simpa using e3
  clear hA0 hval0
  refine (law_calls b0 b1 b2 b3 W u0 u1).mono fun e W' ⟨he, bel⟩ => ?_
  subst he
  exact ⟨_, rfl, _, _, _, [], _, [], hW', trodAll_mk1 (shut_bool Try.underlying4 _), (trodAll_cons_mk (Below.trod laidOut (by kernel_rfl) (of_decide_eq_true (by kernel_rfl)) k0 bel lt0) trodAll_mk0), rfl, bel.frame _, fun h => by cases h⟩
theorem over : Rows.rankMeansRow.holds Try.pinned (OpenSpec.ofChange Rows.rankMeansSpec) :=
  OpenClaim.holds_of_wide 7 Try.f7 rfl rfl rfl rfl rfl rfl rfl ⟨rfl, rfl, rfl, rfl, rfl⟩ rfl rfl rfl rfl rfl (by kernel_rfl) Try.func7 (by kernel_rfl)
    (of_decide_eq_true (by kernel_rfl)) (by unfold Func.isWrapper; first | (rw [if_pos (by decide +kernel)]; kernel_rfl) | (rw [if_neg (by decide +kernel)]; exact ⟨rfl, rfl⟩))
    (fun os started H enc _ => lifted os started H enc)
theorem proved : Rows.RankMeansSaid := over
#print axioms proved
end Go.Proofs.Ytmgocfcbkejgdaa.rankMeans
namespace Go.Proofs.Ytmgocfcbkejgdaa
/-- The row, under a short name, for the claim. -/
theorem rankMeans_holds : Rows.RankMeansSaid := rankMeans.proved
end Go.Proofs.Ytmgocfcbkejgdaa
