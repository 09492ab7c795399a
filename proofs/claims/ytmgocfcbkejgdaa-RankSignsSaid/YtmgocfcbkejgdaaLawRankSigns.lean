/- What is proved here: the row of RankSigns: for every input the law returns true; conditions: none. -/
import Derived.Test.YtmgocfcbkejgdaaRows
import Derived.Test.YtmgocfcbkejgdaaRankKnown
import Derived.WalkKit
import Derived.ProofKit
import Derived.OpenShut
import Derived.ShutString
import Derived.ChangeOld
import Derived.Below
import Derived.SizedLaws
namespace Go.Proofs.Ytmgocfcbkejgdaa.rankSigns
open Go.ChangeShapes Go.WideShapes Go.ChangeAt Go.RowKit
open Go.Proofs.Ytmgocfcbkejgdaa.RankBase Go.Proofs.Ytmgocfcbkejgdaa.RankPlain Go.Proofs.YtmgocfcbkejgdaaW.PrintWords Go.Proofs.YtmgocfcbkejgdaaW.PrintLast Go.Proofs.YtmgocfcbkejgdaaW.PrintMore
set_option linter.unusedVariables false
set_option linter.unusedSimpArgs false
theorem low_trans {w w1 : World} {q : Nat} (h : Below (w.drewN q).heap.size (w.drewN q) w1) : Below w.heap.size w w1 := ⟨h.os, h.tape, h.output, h.size, h.block⟩
theorem wfI {x : Int} (h : (Lit.int .i32 x).wf = true) : -2147483648 ≤ x ∧ x < 2147483648 := by
  simp [Lit.wf, IntKind.min, IntKind.max, IntKind.signed, IntKind.bits] at h; omega
theorem wfH {x : Int} (h : (Lit.int .u16 x).wf = true) : 0 ≤ x ∧ x < 65536 := by
  simp [Lit.wf, IntKind.min, IntKind.max, IntKind.signed, IntKind.bits] at h; omega
theorem sign_gt {p : Nat} {a : Int} (hp : p < 2 ^ 64) (np : nan p = false) (s1 : 2 ^ 63 < hi p ↔ 0 < a) (s2 : hi p < 2 ^ 63 ↔ a < 0) (z1 : zero p = true → a = 0) :
    (FloatKind.f64.format.order p 0 == some .gt) = decide (a > 0) ∧ (FloatKind.f64.format.order p 0 == some .lt) = decide (a < 0) := by
  have e : FloatKind.f64.format.order p 0 = _ := order_hi hp (by decide) np (by decide)
  rw [e, show hi 0 = 2 ^ 63 from by decide, show zero 0 = true from rfl, Bool.and_true]
  have N : compare (hi p) (2 ^ 63) = if hi p < 2 ^ 63 then .lt else if hi p = 2 ^ 63 then .eq else .gt := rfl
  rw [N]
  cases hz : zero p with
  | true =>
    have := z1 hz
    subst this
    exact ⟨rfl, rfl⟩
  | false =>
    rw [if_neg (by simp)]
    by_cases c : hi p < 2 ^ 63
    · rw [if_pos c, decide_eq_false (by have := s2.1 c; omega), decide_eq_true (s2.1 c)]; exact ⟨rfl, rfl⟩
    · by_cases d : hi p = 2 ^ 63
      · rw [if_neg c, if_pos d, decide_eq_false (fun h => by have := s1.2 h; omega), decide_eq_false (fun h => c (s2.2 h))]; exact ⟨rfl, rfl⟩
      · rw [if_neg c, if_neg d, decide_eq_true (s1.1 (by omega)), decide_eq_false (fun h => c (s2.2 h))]; exact ⟨rfl, rfl⟩
theorem quot_eq (n s : Int) : floatBits .quo .f64 (floatOfInt .f64 s) (floatOfInt .f64 n) = mean s n := rfl
set_option maxRecDepth 100000 in
set_option maxHeartbeats 2000000 in
theorem law_calls (n a b : Int) (w : World) (hn : (Lit.int .u16 n).wf = true) (ha : (Lit.int .i32 a).wf = true) (hb : (Lit.int .i32 b).wf = true) : Calls Try.prog 4 #[.int .u16 n, .int .i32 a, .int .i32 b] w fun e w' => e = .returned (.bool true) ∧ Below w.heap.size w w' := by
  have h0 := wfH hn
  have h1 := wfI ha
  have h2 := wfI hb
  obtain ⟨p, ep, hp, np, s1, s2, s3⟩ := mean_sign (1 + n) a (by omega) (by omega) (by omega)
  obtain ⟨q, eq, hq, nq, t1, t2, t3⟩ := mean_sign (1 + n) b (by omega) (by omega) (by omega)
  obtain ⟨g1, g2⟩ := sign_gt hp np s1 s2 s3
  have K := cmp_hi p q hp hq
  have K2 : (if hi p < hi q then (-1 : Int) else if hi p > hi q then 1 else 0) = if a < b then -1 else if a = b then 0 else 1 := by
    by_cases c : a < b
    · rw [if_pos c, if_pos (mean_lt (1 + n) a b (by omega) (by omega) (by omega) (by omega) c ep eq)]
    · by_cases d : a = b
      · subst d
        obtain rfl := Option.some.inj (ep.symm.trans eq)
        rw [if_neg (by omega), if_neg (by omega), if_neg (by omega), if_pos rfl]
      · have := mean_lt (1 + n) b a (by omega) (by omega) (by omega) (by omega) (by omega) eq ep
        rw [if_neg (by omega), if_pos this, if_neg c, if_neg d]
  rw [K2] at K
  rw [← quot_eq] at ep eq
  have kp := fun w => cmp_calls p q w
  rw [K] at kp
  have Kp := Aside0.mk kp
  have EP := Aside0.mk ep
  have EQ := Aside0.mk eq
  clear kp ep eq s1 s2 s3 t1 t2 t3 K K2
  go_enter Try.func4, Try.ntmps4
  go_wp2_with (first
    | (go_at_call 11; refine (RankSort.known_calls _).mono ?_; rintro e w1 ⟨rfl, hB⟩)
    | (go_at_call 13; refine (mean_calls _ _ _ _ _).mono ?_; rintro e w2 ⟨⟨r, rfl, hr⟩, hB2⟩; obtain rfl := hr.1 _ EP.out)
    | (go_at_call 13; refine (mean_calls _ _ _ _ _).mono ?_; rintro e w3 ⟨⟨r3, rfl, hr3⟩, hB3⟩; obtain rfl := hr3.1 _ EQ.out)
    | (go_at_call 12; refine (Kp.out _).mono ?_; rintro e w4 ⟨rfl, ⟨q1, rfl⟩⟩))
  all_goals go_ret
  all_goals refine ⟨?_, ?_⟩
  all_goals first
    | rfl
    | (congr 2; simp; omega)
    | exact hB2.trans ((hB3.trans ((low_trans hB).mono hB3.size)).mono hB2.size)
theorem own : ownKnob Try.prog.godebug = none := by kernel_rfl
theorem laidOut : laidOutB Try.prog = true := by kernel_rfl
set_option maxRecDepth 100000 in
theorem lifted (os : Os) (started : os.Started) (H : Type) (enc : TypeId × Value → H) :
    ReturnsInHanded {} Try.checked os 4 .any (Rows.rankSignsSpec.pre6 enc Try.prog Try.f4 Rows.rankSignsRow.domain false) (Rows.rankSignsSpec.post enc Try.prog Try.f4 false true false false) := by
  refine returnsInHanded_of_change_sized (C := Try.checked) own started (by kernel_rfl) Try.func4
    (ChangeSpec.witness6 (enc := enc) (C := Try.checked) false ⟨#[], #[.int .u16 0, .int .i32 0, .int .i32 0], []⟩ 8 (by kernel_rfl) (by kernel_rfl) (by kernel_rfl) (by kernel_rfl)) ?_
  intro W base args ds gs before hval0 hW hcnd _ _
  have hval : ∀ (j : Nat) t v, Try.f4.params[j]? = some t → args[j]? = some v → Value.okWide Try.prog W .any base t v := hval0
  have hW' := hW
  obtain ⟨p, q, hA0, hV, rfl, hfz, hnd⟩ := hW
  have hA : DataW.TrodAll enc Try.prog W 0 (fun _ => true) true Try.f4.params.toList args.toList ds p := hA0
  rw [Try.params4] at hA hval
  obtain ⟨v0, vs0, d0, ds0, p0, q0, hargs, rfl, rfl, h0, r0⟩ := trodAll_cons hA
  obtain ⟨v1, vs1, d1, ds1, p1, q1, rfl, rfl, rfl, h1, r1⟩ := trodAll_cons r0
  obtain ⟨v2, vs2, d2, ds2, p2, q2, rfl, rfl, rfl, h2, r2⟩ := trodAll_cons r1
  obtain ⟨rfl, rfl, rfl⟩ := trodAll_nil r2
  obtain rfl : args = #[v0, v1, v2] := by cases args; simp_all
  obtain ⟨rfl, rfl⟩ := trodVars_none hV
  obtain ⟨a0, rfl, rfl, rfl, w0⟩ := open_int Try.underlying29 (hval 0 29 v0 rfl rfl) h0
  obtain ⟨a1, rfl, rfl, rfl, w1⟩ := open_int Try.underlying21 (hval 1 21 v1 rfl rfl) h1
  obtain ⟨a2, rfl, rfl, rfl, w2⟩ := open_int Try.underlying21 (hval 2 21 v2 rfl rfl) h2
  clear hA0 hval0
  refine (law_calls a0 a1 a2 W w0 w1 w2).mono fun e W' ⟨he, bel⟩ => ?_
  subst he
  exact ⟨_, rfl, _, _, _, [], _, [], hW', trodAll_mk1 (shut_bool Try.underlying4 _), (trodAll_cons_mk (shut_int Try.underlying29 w0) (trodAll_cons_mk (shut_int Try.underlying21 w1) (trodAll_cons_mk (shut_int Try.underlying21 w2) trodAll_mk0))), rfl, bel.frame _, fun h => by cases h⟩
theorem over : Rows.rankSignsRow.holds Try.pinned (OpenSpec.ofChange Rows.rankSignsSpec) :=
  OpenClaim.holds_of_wide 4 Try.f4 rfl rfl rfl rfl rfl rfl rfl ⟨rfl, rfl, rfl, rfl, rfl⟩ rfl rfl rfl rfl rfl (by kernel_rfl) Try.func4 (by kernel_rfl)
    (of_decide_eq_true (by kernel_rfl)) (by unfold Func.isWrapper; first | (rw [if_pos (by decide +kernel)]; kernel_rfl) | (rw [if_neg (by decide +kernel)]; exact ⟨rfl, rfl⟩))
    (fun os started H enc _ => lifted os started H enc)
theorem proved : Rows.RankSignsSaid := over
#print axioms proved
end Go.Proofs.Ytmgocfcbkejgdaa.rankSigns
namespace Go.Proofs.Ytmgocfcbkejgdaa
/-- The row, under a short name, for the claim. -/
theorem rankSigns_holds : Rows.RankSignsSaid := rankSigns.proved
end Go.Proofs.Ytmgocfcbkejgdaa
