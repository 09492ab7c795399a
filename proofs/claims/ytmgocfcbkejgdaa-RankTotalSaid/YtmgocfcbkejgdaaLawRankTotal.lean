/- What is proved here: the row of RankTotal: for every input the law returns true; conditions: none. -/
import Derived.Test.YtmgocfcbkejgdaaRows
import Derived.Test.YtmgocfcbkejgdaaRankKnown
import Derived.WalkKit
import Derived.ProofKit
import Derived.OpenShut
import Derived.ShutString
import Derived.ChangeOld
import Derived.Below
import Derived.SizedLaws
namespace Go.Proofs.Ytmgocfcbkejgdaa.rankTotal
open Go.ChangeShapes Go.WideShapes Go.ChangeAt Go.RowKit
open Go.Proofs.Ytmgocfcbkejgdaa.RankBase Go.Proofs.Ytmgocfcbkejgdaa.RankPlain Go.Proofs.YtmgocfcbkejgdaaW.PrintWords Go.Proofs.YtmgocfcbkejgdaaW.PrintLast Go.Proofs.YtmgocfcbkejgdaaW.PrintMore
set_option linter.unusedVariables false
set_option linter.unusedSimpArgs false
theorem low_trans {w w1 : World} {q : Nat} (h : Below (w.drewN q).heap.size (w.drewN q) w1) : Below w.heap.size w w1 := ⟨h.os, h.tape, h.output, h.size, h.block⟩
theorem wfU {x : Int} (h : (Lit.int .u64 x).wf = true) : 0 ≤ x ∧ x < 18446744073709551616 := by
  simp [Lit.wf, IntKind.min, IntKind.max, IntKind.signed, IntKind.bits] at h; omega
theorem order_nan {x y : Nat} (h : nan x = true ∨ nan y = true) : FloatKind.f64.format.order x y = none := by
  show Ieee.double.order x y = none
  unfold Ieee.Format.order
  rcases h with h | h
  · obtain ⟨s, t, e⟩ := read_nan h
    rw [e]; rfl
  · obtain ⟨s, t, e⟩ := read_nan h
    rw [e]
    cases Ieee.double.read x <;> rfl
theorem order_lt {x y : Nat} (hx : x < 2 ^ 64) (hy : y < 2 ^ 64) (h : (FloatKind.f64.format.order x y == some .lt) = true) : cmpI (highI x) (highI y) = -1 := by
  cases cx : nan x with
  | true => rw [order_nan (.inl cx)] at h; cases h
  | false =>
    cases cy : nan y with
    | true => rw [order_nan (.inr cy)] at h; cases h
    | false =>
      have e : FloatKind.f64.format.order x y = _ := order_hi hx hy cx cy
      rw [e] at h
      rw [cmp_hi x y hx hy]
      have N : compare (hi x) (hi y) = if hi x < hi y then .lt else if hi x = hi y then .eq else .gt := rfl
      rw [N] at h
      by_cases c : hi x < hi y
      · rw [if_pos c]
      · exfalso
        rw [if_neg c] at h
        split at h
        · cases h
        · split at h <;> cases h
theorem order_gt {x y : Nat} (hx : x < 2 ^ 64) (hy : y < 2 ^ 64) (h : (FloatKind.f64.format.order x y == some .gt) = true) : cmpI (highI x) (highI y) = 1 := by
  cases cx : nan x with
  | true => rw [order_nan (.inl cx)] at h; cases h
  | false =>
    cases cy : nan y with
    | true => rw [order_nan (.inr cy)] at h; cases h
    | false =>
      have e : FloatKind.f64.format.order x y = _ := order_hi hx hy cx cy
      rw [e] at h
      rw [cmp_hi x y hx hy]
      have N : compare (hi x) (hi y) = if hi x < hi y then .lt else if hi x = hi y then .eq else .gt := rfl
      rw [N] at h
      by_cases c : hi x < hi y
      · exfalso
        rw [if_pos c] at h
        split at h <;> cases h
      · rw [if_neg c]
        by_cases d : hi x = hi y
        · exfalso
          rw [if_neg c, if_pos d] at h
          split at h <;> cases h
        · rw [if_pos (by omega)]
theorem cmpI_cases (x y : Int) : (x < y ∧ cmpI x y = -1) ∨ (x = y ∧ cmpI x y = 0) ∨ (y < x ∧ cmpI x y = 1) := by
  unfold cmpI
  by_cases c : x < y
  · left; exact ⟨c, by rw [if_pos c]⟩
  · by_cases d : x > y
    · right; right; exact ⟨d, by rw [if_neg c, if_pos d]⟩
    · right; left; exact ⟨by omega, by rw [if_neg c, if_neg d]⟩
set_option maxRecDepth 100000 in
set_option maxHeartbeats 2000000 in
theorem law_calls (a b c : Int) (w : World) (ha : (Lit.int .u64 a).wf = true) (hb : (Lit.int .u64 b).wf = true) (hc : (Lit.int .u64 c).wf = true) : Calls Try.prog 5 #[.int .u64 a, .int .u64 b, .int .u64 c] w fun e w' => e = .returned (.bool true) ∧ Below w.heap.size w w' := by
  have hx := frombits_nat (wfU ha).1 (wfU ha).2
  have hy := frombits_nat (wfU hb).1 (wfU hb).2
  have hd := run_frombits a
  have hd2 := run_frombits b
  have hd3 := run_frombits c
  have lt := @order_lt a.toNat b.toNat hx hy
  have gt := @order_gt a.toNat b.toNat hx hy
  generalize a.toNat = x at *
  generalize b.toNat = y at *
  generalize c.toNat = z at *
  have p := cmpI_cases (highI x) (highI y)
  have q := cmpI_cases (highI y) (highI z)
  have r := cmpI_cases (highI x) (highI z)
  have p' := cmpI_cases (highI y) (highI x)
  have kp := fun w => cmp_calls x y w
  have kq := fun w => cmp_calls y z w
  have kr := fun w => cmp_calls x z w
  have kp' := fun w => cmp_calls y x w
  generalize cmpI (highI x) (highI y) = P at *
  generalize cmpI (highI y) (highI z) = Q at *
  generalize cmpI (highI x) (highI z) = R at *
  generalize cmpI (highI y) (highI x) = P' at *
  generalize highI x = hx1 at *
  generalize highI y = hy1 at *
  generalize highI z = hz1 at *
  have e1 : P' = -P := by omega
  have e2 : ¬ (P ≤ 0 ∧ Q ≤ 0 ∧ R > 0) := by omega
  have e3 : ¬ (P ≥ 0 ∧ Q ≥ 0 ∧ R < 0) := by omega
  have e4 : P = -1 ∨ P = 0 ∨ P = 1 := by omega
  have f4 : Q = -1 ∨ Q = 0 ∨ Q = 1 := by omega
  have g4 : R = -1 ∨ R = 0 ∨ R = 1 := by omega
  clear p q r p'
  subst e1
  have L : P ≠ -1 → (FloatKind.f64.format.order x y == some .lt) = false := fun h => by
    cases c : (FloatKind.f64.format.order x y == some .lt) with
    | true => exact absurd (lt c) h
    | false => rfl
  have G : P ≠ 1 → (FloatKind.f64.format.order x y == some .gt) = false := fun h => by
    cases c : (FloatKind.f64.format.order x y == some .gt) with
    | true => exact absurd (gt c) h
    | false => rfl
  have Kp := Aside0.mk kp; have Kq := Aside0.mk kq; have Kr := Aside0.mk kr; have Kp' := Aside0.mk kp'
  clear kp kq kr kp' lt gt
  rcases e4 with rfl | rfl | rfl <;> rcases f4 with rfl | rfl | rfl <;> rcases g4 with rfl | rfl | rfl <;> first | (exfalso; omega) | skip
  all_goals clear e2 e3
  all_goals (try have L0 := L (by decide))
  all_goals (try have G0 := G (by decide))
  all_goals clear L G
  all_goals go_enter Try.func5, Try.ntmps5
  all_goals go_wp2_with (first
    | (go_at_call 11; refine (RankSort.known_calls _).mono ?_; rintro e w1 ⟨rfl, hB⟩)
    | (go_at_call 12; (first | (with_reducible refine (Kp.out _).mono ?_) | (with_reducible refine (Kq.out _).mono ?_) | (with_reducible refine (Kr.out _).mono ?_) | (with_reducible refine (Kp'.out _).mono ?_)); rintro e w3 ⟨rfl, ⟨q1, rfl⟩⟩))
  all_goals go_ret
  all_goals exact ⟨by first | rfl | (simp_all; done), by repeat (first | exact hB | exact low_trans hB | apply pw_below_drewN | apply below_drew1)⟩
theorem own : ownKnob Try.prog.godebug = none := by kernel_rfl
theorem laidOut : laidOutB Try.prog = true := by kernel_rfl
set_option maxRecDepth 100000 in
theorem lifted (os : Os) (started : os.Started) (H : Type) (enc : TypeId × Value → H) :
    ReturnsInHanded {} Try.checked os 5 .any (Rows.rankTotalSpec.pre6 enc Try.prog Try.f5 Rows.rankTotalRow.domain false) (Rows.rankTotalSpec.post enc Try.prog Try.f5 false true false false) := by
  refine returnsInHanded_of_change_sized (C := Try.checked) own started (by kernel_rfl) Try.func5
    (ChangeSpec.witness6 (enc := enc) (C := Try.checked) false ⟨#[], #[.int .u64 0, .int .u64 0, .int .u64 0], []⟩ 8 (by kernel_rfl) (by kernel_rfl) (by kernel_rfl) (by kernel_rfl)) ?_
  intro W base args ds gs before hval0 hW hcnd _ _
  have hval : ∀ (j : Nat) t v, Try.f5.params[j]? = some t → args[j]? = some v → Value.okWide Try.prog W .any base t v := hval0
  have hW' := hW
  obtain ⟨p, q, hA0, hV, rfl, hfz, hnd⟩ := hW
  have hA : DataW.TrodAll enc Try.prog W 0 (fun _ => true) true Try.f5.params.toList args.toList ds p := hA0
  rw [Try.params5] at hA hval
  obtain ⟨v0, vs0, d0, ds0, p0, q0, hargs, rfl, rfl, h0, r0⟩ := trodAll_cons hA
  obtain ⟨v1, vs1, d1, ds1, p1, q1, rfl, rfl, rfl, h1, r1⟩ := trodAll_cons r0
  obtain ⟨v2, vs2, d2, ds2, p2, q2, rfl, rfl, rfl, h2, r2⟩ := trodAll_cons r1
  obtain ⟨rfl, rfl, rfl⟩ := trodAll_nil r2
  obtain rfl : args = #[v0, v1, v2] := by cases args; simp_all
  obtain ⟨rfl, rfl⟩ := trodVars_none hV
  obtain ⟨a0, rfl, rfl, rfl, w0⟩ := open_int Try.underlying31 (hval 0 31 v0 rfl rfl) h0
  obtain ⟨a1, rfl, rfl, rfl, w1⟩ := open_int Try.underlying31 (hval 1 31 v1 rfl rfl) h1
  obtain ⟨a2, rfl, rfl, rfl, w2⟩ := open_int Try.underlying31 (hval 2 31 v2 rfl rfl) h2
  clear hA0 hval0
  refine (law_calls a0 a1 a2 W w0 w1 w2).mono fun e W' ⟨he, bel⟩ => ?_
  subst he
  exact ⟨_, rfl, _, _, _, [], _, [], hW', trodAll_mk1 (shut_bool Try.underlying4 _), (trodAll_cons_mk (shut_int Try.underlying31 w0) (trodAll_cons_mk (shut_int Try.underlying31 w1) (trodAll_cons_mk (shut_int Try.underlying31 w2) trodAll_mk0))), rfl, bel.frame _, fun h => by cases h⟩
theorem over : Rows.rankTotalRow.holds Try.pinned (OpenSpec.ofChange Rows.rankTotalSpec) :=
  OpenClaim.holds_of_wide 5 Try.f5 rfl rfl rfl rfl rfl rfl rfl ⟨rfl, rfl, rfl, rfl, rfl⟩ rfl rfl rfl rfl rfl (by kernel_rfl) Try.func5 (by kernel_rfl)
    (of_decide_eq_true (by kernel_rfl)) (by unfold Func.isWrapper; first | (rw [if_pos (by decide +kernel)]; kernel_rfl) | (rw [if_neg (by decide +kernel)]; exact ⟨rfl, rfl⟩))
    (fun os started H enc _ => lifted os started H enc)
theorem proved : Rows.RankTotalSaid := over
#print axioms proved
end Go.Proofs.Ytmgocfcbkejgdaa.rankTotal
namespace Go.Proofs.Ytmgocfcbkejgdaa
/-- The row, under a short name, for the claim. -/
theorem rankTotal_holds : Rows.RankTotalSaid := rankTotal.proved
end Go.Proofs.Ytmgocfcbkejgdaa
