/- Written for this claim by a program of the session: Go functions that the law reaches as plain Lean functions, each with the proof that its call comes to just that; conditions: those that each theorem names, no other. -/
import Derived.Test.YtefpmpmkodogeaaPDimsAtx0
import Derived.Test.YtefpmpmkodogeaaPDimsAtx1
import Derived.Test.YtefpmpmkodogeaaPDimsAtx3
import Derived.Test.YtefpmpmkodogeaaPDimsAtx4
import Derived.Test.YtefpmpmkodogeaaPDimsAtx6
namespace Go.Proofs.Ytefpmpmkodogeaa.PDimsAt
open Go.RowKit Go.Proofs.YtefpmpmkodogeaaW.PrintWords Go.Proofs.YtefpmpmkodogeaaW.PrintLast Go.Proofs.YtefpmpmkodogeaaW.PrintMore
attribute [local go_sem] max2_int min2_int max_two min_two max_three min_three max_four min_four   -- for this text's walks alone
set_option linter.unusedVariables false
set_option linter.unusedSimpArgs false

/-! ### stratumlaw03_DimsAt: function 10 -/
mutual
def stratumlaw03_DimsAt.j0 : Nat → List (S28) → List (S25) → List Int → List Int → List Int → Bool → Option (Bool)
  | 0, _, _, _, _, _, _ => none
  | k + 1, x0, x1, x2, x3, x4, x33 => if x33 = true then ((stratumlaw03_known.f k).bind fun t215 => (some t215)) else ((stratumlaw03_Of.f k x1).bind fun t216 => ((dims_In.f k x0 x4).bind fun t219 => ((stratumref03_In.f k x0 x4).bind fun t220 => (if (t219 == t220) = true then ((dims_In.f k t216 x4).bind fun t221 => ((stratumref03_In.f k t216 x4).bind fun t222 => (stratumlaw03_DimsAt.j1 k x0 x2 x3 x4 t216 (t221 == t222)))) else (stratumlaw03_DimsAt.j1 k x0 x2 x3 x4 t216 false)))))
def stratumlaw03_DimsAt.j1 : Nat → List (S28) → List Int → List Int → List Int → List (S28) → Bool → Option (Bool)
  | 0, _, _, _, _, _, _ => none
  | k + 1, x0, x2, x3, x4, x11, x12 => if x12 = true then ((dims_At.f k x0 x2 x3 x4).bind fun t223 => ((stratumref03_At.f k x0 x2 x3 x4).bind fun t226 => ((stratumlaw03_same.f k t223 t226).bind fun t229 => (if t229 = true then ((dims_At.f k x11 x2 x3 x4).bind fun t230 => ((stratumref03_At.f k x11 x2 x3 x4).bind fun t233 => ((stratumlaw03_same.f k t230 t233).bind fun t236 => (some t236)))) else (some false))))) else (some false)
end
def stratumlaw03_DimsAt.f (k : Nat) (l0 : List (S28)) (l1 : List (S25)) (l2 : List Int) (l3 : List Int) (l4 : List Int) : Option (Bool) := (stratumlaw03_heavy.f k l0).bind fun t213 => (if t213 = true then (stratumlaw03_DimsAt.j0 k l0 l1 l2 l3 l4 true) else (if (l2.length : Int) > 100 then (stratumlaw03_DimsAt.j0 k l0 l1 l2 l3 l4 true) else (if (l3.length : Int) > 100 then (stratumlaw03_DimsAt.j0 k l0 l1 l2 l3 l4 true) else (if (l4.length : Int) > 100 then (stratumlaw03_DimsAt.j0 k l0 l1 l2 l3 l4 true) else ((stratumlaw03_known.f k).bind fun t214 => (stratumlaw03_DimsAt.j0 k l0 l1 l2 l3 l4 (!t214)))))))
theorem stratumlaw03_DimsAt.mono_l : ∀ k, (∀ y0 y1 y2 y3 y4 y5, LeO (stratumlaw03_DimsAt.j0 k y0 y1 y2 y3 y4 y5) (stratumlaw03_DimsAt.j0 (k + 1) y0 y1 y2 y3 y4 y5)) ∧ (∀ y0 y1 y2 y3 y4 y5, LeO (stratumlaw03_DimsAt.j1 k y0 y1 y2 y3 y4 y5) (stratumlaw03_DimsAt.j1 (k + 1) y0 y1 y2 y3 y4 y5))
  | 0 => ⟨fun _ _ _ _ _ _ r h => by simp [stratumlaw03_DimsAt.j0] at h, fun _ _ _ _ _ _ r h => by simp [stratumlaw03_DimsAt.j1] at h⟩
  | k + 1 => by
    obtain ⟨ih0, ih1⟩ := stratumlaw03_DimsAt.mono_l k
    refine ⟨?_, ?_⟩
    · intro y0 y1 y2 y3 y4 y5
      unfold stratumlaw03_DimsAt.j0
      repeat' first
      | (with_reducible exact ih0 _ _ _ _ _ _)
      | (with_reducible exact ih1 _ _ _ _ _ _)
      | (with_reducible exact dims_At.mono _ _ _ _ _)
      | (with_reducible exact dims_In.mono _ _ _)
      | (with_reducible exact stratumlaw03_Of.mono _ _)
      | (with_reducible exact stratumlaw03_heavy.mono _ _)
      | (with_reducible exact stratumlaw03_known.mono _)
      | (with_reducible exact stratumlaw03_same.mono _ _ _)
      | (with_reducible exact stratumref03_At.mono _ _ _ _ _)
      | (with_reducible exact stratumref03_In.mono _ _ _)
      | (with_reducible exact LeO.refl _)
      | (with_reducible exact LeO.none _)
      | (with_reducible refine LeO.ite ?_ ?_)
      | (with_reducible refine LeO.bind ?_ (fun _ => ?_))
      | exact ih0 _ _ _ _ _ _
      | exact ih1 _ _ _ _ _ _
      | exact dims_At.mono _ _ _ _ _
      | exact dims_In.mono _ _ _
      | exact stratumlaw03_Of.mono _ _
      | exact stratumlaw03_heavy.mono _ _
      | exact stratumlaw03_known.mono _
      | exact stratumlaw03_same.mono _ _ _
      | exact stratumref03_At.mono _ _ _ _ _
      | exact stratumref03_In.mono _ _ _
      | exact LeO.none _
      | refine LeO.ite ?_ ?_
      | refine LeO.bind ?_ (fun _ => ?_)
    · intro y0 y1 y2 y3 y4 y5
      unfold stratumlaw03_DimsAt.j1
      repeat' first
      | (with_reducible exact ih0 _ _ _ _ _ _)
      | (with_reducible exact ih1 _ _ _ _ _ _)
      | (with_reducible exact dims_At.mono _ _ _ _ _)
      | (with_reducible exact dims_In.mono _ _ _)
      | (with_reducible exact stratumlaw03_Of.mono _ _)
      | (with_reducible exact stratumlaw03_heavy.mono _ _)
      | (with_reducible exact stratumlaw03_known.mono _)
      | (with_reducible exact stratumlaw03_same.mono _ _ _)
      | (with_reducible exact stratumref03_At.mono _ _ _ _ _)
      | (with_reducible exact stratumref03_In.mono _ _ _)
      | (with_reducible exact LeO.refl _)
      | (with_reducible exact LeO.none _)
      | (with_reducible refine LeO.ite ?_ ?_)
      | (with_reducible refine LeO.bind ?_ (fun _ => ?_))
      | exact ih0 _ _ _ _ _ _
      | exact ih1 _ _ _ _ _ _
      | exact dims_At.mono _ _ _ _ _
      | exact dims_In.mono _ _ _
      | exact stratumlaw03_Of.mono _ _
      | exact stratumlaw03_heavy.mono _ _
      | exact stratumlaw03_known.mono _
      | exact stratumlaw03_same.mono _ _ _
      | exact stratumref03_At.mono _ _ _ _ _
      | exact stratumref03_In.mono _ _ _
      | exact LeO.none _
      | refine LeO.ite ?_ ?_
      | refine LeO.bind ?_ (fun _ => ?_)
theorem stratumlaw03_DimsAt.mono : ∀ a0 a1 a2 a3 a4 k, LeO (stratumlaw03_DimsAt.f k a0 a1 a2 a3 a4) (stratumlaw03_DimsAt.f (k + 1) a0 a1 a2 a3 a4) := by
  intro a0 a1 a2 a3 a4 k
  obtain ⟨ih0, ih1⟩ := stratumlaw03_DimsAt.mono_l k
  unfold stratumlaw03_DimsAt.f
  repeat' first
      | (with_reducible exact ih0 _ _ _ _ _ _)
      | (with_reducible exact ih1 _ _ _ _ _ _)
      | (with_reducible exact dims_At.mono _ _ _ _ _)
      | (with_reducible exact dims_In.mono _ _ _)
      | (with_reducible exact stratumlaw03_Of.mono _ _)
      | (with_reducible exact stratumlaw03_heavy.mono _ _)
      | (with_reducible exact stratumlaw03_known.mono _)
      | (with_reducible exact stratumlaw03_same.mono _ _ _)
      | (with_reducible exact stratumref03_At.mono _ _ _ _ _)
      | (with_reducible exact stratumref03_In.mono _ _ _)
      | (with_reducible exact LeO.refl _)
      | (with_reducible exact LeO.none _)
      | (with_reducible refine LeO.ite ?_ ?_)
      | (with_reducible refine LeO.bind ?_ (fun _ => ?_))
      | exact ih0 _ _ _ _ _ _
      | exact ih1 _ _ _ _ _ _
      | exact dims_At.mono _ _ _ _ _
      | exact dims_In.mono _ _ _
      | exact stratumlaw03_Of.mono _ _
      | exact stratumlaw03_heavy.mono _ _
      | exact stratumlaw03_known.mono _
      | exact stratumlaw03_same.mono _ _ _
      | exact stratumref03_At.mono _ _ _ _ _
      | exact stratumref03_In.mono _ _ _
      | exact LeO.none _
      | refine LeO.ite ?_ ?_
      | refine LeO.bind ?_ (fun _ => ?_)
set_option maxHeartbeats 8000000 in
set_option maxRecDepth 100000 in
theorem stratumlaw03_DimsAt.calls (k : Nat) (A0 : Option Addr) (c0 : Nat) (l0 : List (S28)) (A1 : Option Addr) (c1 : Nat) (l1 : List (S25)) (A2 : Option Addr) (c2 : Nat) (l2 : List Int) (A3 : Option Addr) (c3 : Nat) (l3 : List Int) (A4 : Option Addr) (c4 : Nat) (l4 : List Int) (r : Bool) (w : World) (hr0 : Kd.C k28 w A0 l0.length l0) (hc0 : l0.length ≤ c0) (hr1 : Kd.C k25 w A1 l1.length l1) (hc1 : l1.length ≤ c1) (hr2 : Kd.C (Kd.int .i64) w A2 l2.length l2) (hc2 : l2.length ≤ c2) (hr3 : Kd.C (Kd.int .i64) w A3 l3.length l3) (hc3 : l3.length ≤ c3) (hr4 : Kd.C (Kd.int .i64) w A4 l4.length l4) (hc4 : l4.length ≤ c4) (h : stratumlaw03_DimsAt.f k l0 l1 l2 l3 l4 = some r) (hr : Aside0 (r = true)) :
    Calls Try.prog 10 #[.slice A0 l0.length c0, .slice A1 l1.length c1, .slice A2 l2.length c2, .slice A3 l3.length c3, .slice A4 l4.length c4] w fun e w' => e = .returned (.bool r) ∧ Below w.heap.size w w' := by
  have HR0 := Aside0.mk hr0
  have HC0 := Aside0.mk hc0
  clear hr0 hc0
  have HR1 := Aside0.mk hr1
  have HC1 := Aside0.mk hc1
  clear hr1 hc1
  have HR2 := Aside0.mk hr2
  have HC2 := Aside0.mk hc2
  clear hr2 hc2
  have HR3 := Aside0.mk hr3
  have HC3 := Aside0.mk hc3
  clear hr3 hc3
  have HR4 := Aside0.mk hr4
  have HC4 := Aside0.mk hc4
  clear hr4 hc4
  have HB := Aside0.mk (Below.refl w.heap.size w)
  have H : ((stratumlaw03_heavy.f k l0).bind fun t213 => (if t213 = true then (stratumlaw03_DimsAt.j0 k l0 l1 l2 l3 l4 true) else (if (l2.length : Int) > 100 then (stratumlaw03_DimsAt.j0 k l0 l1 l2 l3 l4 true) else (if (l3.length : Int) > 100 then (stratumlaw03_DimsAt.j0 k l0 l1 l2 l3 l4 true) else (if (l4.length : Int) > 100 then (stratumlaw03_DimsAt.j0 k l0 l1 l2 l3 l4 true) else ((stratumlaw03_known.f k).bind fun t214 => (stratumlaw03_DimsAt.j0 k l0 l1 l2 l3 l4 (!t214)))))))) = some r := h
  clear h
  have HC6 := Aside0.mk H
  clear H
  go_enter Try.func10, Try.ntmps10
  go_upto_region 1 with (fail)
  go_cut [33] (fun v33 wc => ∃ (kq : Nat) (x33_5 : Bool), v33 = .bool x33_5 ∧ Aside0 (stratumlaw03_DimsAt.j0 kq l0 l1 l2 l3 l4 x33_5 = some r) ∧ Aside0 (kq ≤ k) ∧ Aside0 (Below w.heap.size w wc))
  case first =>
    have H := HC6.out
    clear HC6
    replace H := Option.bind_eq_some_iff.mp H
    obtain ⟨t213, A70, H⟩ := H
    replace H : (if t213 = true then (stratumlaw03_DimsAt.j0 k l0 l1 l2 l3 l4 true) else (if (l2.length : Int) > 100 then (stratumlaw03_DimsAt.j0 k l0 l1 l2 l3 l4 true) else (if (l3.length : Int) > 100 then (stratumlaw03_DimsAt.j0 k l0 l1 l2 l3 l4 true) else (if (l4.length : Int) > 100 then (stratumlaw03_DimsAt.j0 k l0 l1 l2 l3 l4 true) else ((stratumlaw03_known.f k).bind fun t214 => (stratumlaw03_DimsAt.j0 k l0 l1 l2 l3 l4 (!t214))))))) = some r := H
    have A7 := Aside0.mk A70
    clear A70
    by_cases c8 : t213 = true
    · subst c8
      have H1 : (stratumlaw03_DimsAt.j0 k l0 l1 l2 l3 l4 true) = some r := by rw [if_pos rfl] at H; exact H
      clear H
      have H := H1
      clear H1
      have H' := Aside0.mk H
      clear H
      go_wp2_with (first | ((with_reducible refine gate_callee (f := 14) rfl ?_); refine goesL_ (some 14) rfl rfl Try.func14 (by kernel_rfl) rfl #[.slice A0 l0.length c0] rfl (by (try simp only [List.map_toArray, List.map_cons, List.map_nil]); first | done | rfl | (simp only [List.length_drop, List.length_take]; rfl)) ?_; (with_reducible refine (stratumlaw03_heavy.calls k _ _ l0 true _ ?side1 ?side2 A7.out).mono ?_); (case side1 => repeat (first | exact (Kd.C_below HR0.out HB.out) | (with_reducible refine Kd.C_alloc ?_ _) | (with_reducible refine Kd.C_drewN ?_ _) | (with_reducible refine Kd.C_drew ?_))); (case side2 => exact HC0.out); rintro e w' ⟨rfl, ⟨nd, rfl⟩⟩; refine ⟨_, rfl, ?_⟩))
      go_meet
      case rel => exact ⟨_, (true), (by first | rfl | (simp; done) | (simp [*]; done)), H', ⟨by first | omega | exact Nat.le_refl _⟩, ⟨by repeat (first | (with_reducible first | exact HB.out | apply below_alloc | apply pw_below_drewN | apply below_drew1) | exact HB.out)⟩⟩
    · replace c8 := Bool.eq_false_iff.mpr c8
      subst c8
      have H1 : (if (l2.length : Int) > 100 then (stratumlaw03_DimsAt.j0 k l0 l1 l2 l3 l4 true) else (if (l3.length : Int) > 100 then (stratumlaw03_DimsAt.j0 k l0 l1 l2 l3 l4 true) else (if (l4.length : Int) > 100 then (stratumlaw03_DimsAt.j0 k l0 l1 l2 l3 l4 true) else ((stratumlaw03_known.f k).bind fun t214 => (stratumlaw03_DimsAt.j0 k l0 l1 l2 l3 l4 (!t214)))))) = some r := by rw [if_neg (show ¬ (false = true) by decide)] at H; exact H
      clear H
      have H := H1
      clear H1
      by_cases c9 : (l2.length : Int) > 100
      · rw [if_pos c9] at H
        have c9b0 : decide (100 < (l2.length : Int)) = true := decide_eq_true c9
        have c9b1 : decide (100 < l2.length) = true := decide_eq_true (by omega)
        clear c9
        (first | rw [c9b0] | (simp only [i64_w, i32_w]; rw [c9b0]) | skip)
        have H' := Aside0.mk H
        clear H
        go_wp2_with (first | ((with_reducible refine gate_callee (f := 14) rfl ?_); refine goesL_ (some 14) rfl rfl Try.func14 (by kernel_rfl) rfl #[.slice A0 l0.length c0] rfl (by (try simp only [List.map_toArray, List.map_cons, List.map_nil]); first | done | rfl | (simp only [List.length_drop, List.length_take]; rfl)) ?_; (with_reducible refine (stratumlaw03_heavy.calls k _ _ l0 false _ ?side1 ?side2 A7.out).mono ?_); (case side1 => repeat (first | exact (Kd.C_below HR0.out HB.out) | (with_reducible refine Kd.C_alloc ?_ _) | (with_reducible refine Kd.C_drewN ?_ _) | (with_reducible refine Kd.C_drew ?_))); (case side2 => exact HC0.out); rintro e w' ⟨rfl, ⟨nd, rfl⟩⟩; refine ⟨_, rfl, ?_⟩))
        go_meet
        case rel => exact ⟨_, (true), (by first | rfl | (simp; done) | (simp [*]; done)), H', ⟨by first | omega | exact Nat.le_refl _⟩, ⟨by repeat (first | (with_reducible first | exact HB.out | apply below_alloc | apply pw_below_drewN | apply below_drew1) | exact HB.out)⟩⟩
      · rw [if_neg c9] at H
        have c9b0 : decide (100 < (l2.length : Int)) = false := decide_eq_false c9
        have c9b1 : decide (100 < l2.length) = false := decide_eq_false (by omega)
        clear c9
        (first | rw [c9b0] | (simp only [i64_w, i32_w]; rw [c9b0]) | skip)
        by_cases c10 : (l3.length : Int) > 100
        · rw [if_pos c10] at H
          have c10b0 : decide (100 < (l3.length : Int)) = true := decide_eq_true c10
          have c10b1 : decide (100 < l3.length) = true := decide_eq_true (by omega)
          clear c10
          have H' := Aside0.mk H
          clear H
          go_wp2_with (first | ((with_reducible refine gate_callee (f := 14) rfl ?_); refine goesL_ (some 14) rfl rfl Try.func14 (by kernel_rfl) rfl #[.slice A0 l0.length c0] rfl (by (try simp only [List.map_toArray, List.map_cons, List.map_nil]); first | done | rfl | (simp only [List.length_drop, List.length_take]; rfl)) ?_; (with_reducible refine (stratumlaw03_heavy.calls k _ _ l0 false _ ?side1 ?side2 A7.out).mono ?_); (case side1 => repeat (first | exact (Kd.C_below HR0.out HB.out) | (with_reducible refine Kd.C_alloc ?_ _) | (with_reducible refine Kd.C_drewN ?_ _) | (with_reducible refine Kd.C_drew ?_))); (case side2 => exact HC0.out); rintro e w' ⟨rfl, ⟨nd, rfl⟩⟩; refine ⟨_, rfl, ?_⟩))
          go_meet
          case rel => exact ⟨_, (true), (by first | rfl | (simp; done) | (simp [*]; done)), H', ⟨by first | omega | exact Nat.le_refl _⟩, ⟨by repeat (first | (with_reducible first | exact HB.out | apply below_alloc | apply pw_below_drewN | apply below_drew1) | exact HB.out)⟩⟩
        · rw [if_neg c10] at H
          have c10b0 : decide (100 < (l3.length : Int)) = false := decide_eq_false c10
          have c10b1 : decide (100 < l3.length) = false := decide_eq_false (by omega)
          clear c10
          by_cases c11 : (l4.length : Int) > 100
          · rw [if_pos c11] at H
            have c11b0 : decide (100 < (l4.length : Int)) = true := decide_eq_true c11
            have c11b1 : decide (100 < l4.length) = true := decide_eq_true (by omega)
            clear c11
            have H' := Aside0.mk H
            clear H
            go_wp2_with (first | ((with_reducible refine gate_callee (f := 14) rfl ?_); refine goesL_ (some 14) rfl rfl Try.func14 (by kernel_rfl) rfl #[.slice A0 l0.length c0] rfl (by (try simp only [List.map_toArray, List.map_cons, List.map_nil]); first | done | rfl | (simp only [List.length_drop, List.length_take]; rfl)) ?_; (with_reducible refine (stratumlaw03_heavy.calls k _ _ l0 false _ ?side1 ?side2 A7.out).mono ?_); (case side1 => repeat (first | exact (Kd.C_below HR0.out HB.out) | (with_reducible refine Kd.C_alloc ?_ _) | (with_reducible refine Kd.C_drewN ?_ _) | (with_reducible refine Kd.C_drew ?_))); (case side2 => exact HC0.out); rintro e w' ⟨rfl, ⟨nd, rfl⟩⟩; refine ⟨_, rfl, ?_⟩))
            go_meet
            case rel => exact ⟨_, (true), (by first | rfl | (simp; done) | (simp [*]; done)), H', ⟨by first | omega | exact Nat.le_refl _⟩, ⟨by repeat (first | (with_reducible first | exact HB.out | apply below_alloc | apply pw_below_drewN | apply below_drew1) | exact HB.out)⟩⟩
          · rw [if_neg c11] at H
            have c11b0 : decide (100 < (l4.length : Int)) = false := decide_eq_false c11
            have c11b1 : decide (100 < l4.length) = false := decide_eq_false (by omega)
            clear c11
            replace H := Option.bind_eq_some_iff.mp H
            obtain ⟨t214, A120, H⟩ := H
            replace H : (stratumlaw03_DimsAt.j0 k l0 l1 l2 l3 l4 (!t214)) = some r := H
            have A12 := Aside0.mk A120
            clear A120
            have H' := Aside0.mk H
            clear H
            go_wp2_with (first | ((with_reducible refine gate_callee (f := 14) rfl ?_); refine goesL_ (some 14) rfl rfl Try.func14 (by kernel_rfl) rfl #[.slice A0 l0.length c0] rfl (by (try simp only [List.map_toArray, List.map_cons, List.map_nil]); first | done | rfl | (simp only [List.length_drop, List.length_take]; rfl)) ?_; (with_reducible refine (stratumlaw03_heavy.calls k _ _ l0 false _ ?side1 ?side2 A7.out).mono ?_); (case side1 => repeat (first | exact (Kd.C_below HR0.out HB.out) | (with_reducible refine Kd.C_alloc ?_ _) | (with_reducible refine Kd.C_drewN ?_ _) | (with_reducible refine Kd.C_drew ?_))); (case side2 => exact HC0.out); rintro e w' ⟨rfl, ⟨nd, rfl⟩⟩; refine ⟨_, rfl, ?_⟩) | (go_at_call 12; (with_reducible refine (stratumlaw03_known.calls k  t214 _ A12.out).mono ?_); rintro e w13 ⟨rfl, hb⟩; have n0_ := Aside0.mk (below_step (by repeat (first | (with_reducible first | exact HB.out | apply below_alloc | apply pw_below_drewN | apply below_drew1) | exact HB.out)) hb); clear HB; have HB := n0_; clear n0_; (try clear hb); (try clear hb2); (try clear hk); (try clear hi)))
            go_meet
            case rel => exact ⟨_, (!t214), (by first | rfl | (simp; done) | (simp [*]; done)), H', ⟨by first | omega | exact Nat.le_refl _⟩, ⟨by repeat (first | (with_reducible first | exact HB.out | apply below_alloc | apply pw_below_drewN | apply below_drew1) | exact HB.out)⟩⟩
  case rest =>
    clear HC6
    try clear c1
    try clear c2
    try clear p2
    try clear c3
    try clear c4
    try clear c8
    try clear c9
    try clear c9b0
    try clear c9b1
    try clear c10
    try clear c10b0
    try clear c10b1
    try clear c11
    try clear c11b0
    try clear c11b1
    obtain ⟨kq, x33_5, rfl, HA, HJ5, HB⟩ := hcut
    cases kq with
    | zero => exact absurd HA.out (by simp [stratumlaw03_DimsAt.j0])
    | succ kj5 =>
      have H := HA.out
      clear HA
      simp only [stratumlaw03_DimsAt.j0] at H
      by_cases c14 : x33_5 = true
      · subst c14
        have H1 : ((stratumlaw03_known.f kj5).bind fun t215 => (some t215)) = some r := by rw [if_pos rfl] at H; exact H
        clear H
        have H := H1
        clear H1
        replace H := Option.bind_eq_some_iff.mp H
        obtain ⟨t215, A150, H⟩ := H
        replace H : (some t215) = some r := H
        have A15 := Aside0.mk A150
        clear A150
        obtain rfl := Option.some.inj H
        clear hr
        go_wp2_with (first | ((with_reducible refine gate_callee (f := 12) rfl ?_); refine goesL_ (some 34) rfl rfl Try.func12 (by kernel_rfl) rfl #[] rfl (by (try simp only [List.map_toArray, List.map_cons, List.map_nil]); first | done | rfl | (simp only [List.length_drop, List.length_take]; rfl)) ?_; (with_reducible refine (stratumlaw03_known.calls kj5  t215 _ A15.out).mono ?_); rintro e w16 ⟨rfl, hb⟩; refine ⟨_, rfl, ?_⟩; have n0_ := Aside0.mk (below_step (by repeat (first | (with_reducible first | exact HB.out | apply below_alloc | apply pw_below_drewN | apply below_drew1) | exact HB.out)) hb); clear HB; have HB := n0_; clear n0_; (try clear hb); (try clear hb2); (try clear hk); (try clear hi)))
        go_ret
        exact ⟨by first | rfl | (simp [errW_none, errW_some] <;> rfl) | (simp [*, errW_none, errW_some] <;> rfl), by repeat (first | (with_reducible first | exact HB.out | apply below_alloc | apply pw_below_drewN | apply below_drew1) | exact HB.out)⟩
      · replace c14 := Bool.eq_false_iff.mpr c14
        subst c14
        have H1 : ((stratumlaw03_Of.f kj5 l1).bind fun t216 => ((dims_In.f kj5 l0 l4).bind fun t219 => ((stratumref03_In.f kj5 l0 l4).bind fun t220 => (if (t219 == t220) = true then ((dims_In.f kj5 t216 l4).bind fun t221 => ((stratumref03_In.f kj5 t216 l4).bind fun t222 => (stratumlaw03_DimsAt.j1 kj5 l0 l2 l3 l4 t216 (t221 == t222)))) else (stratumlaw03_DimsAt.j1 kj5 l0 l2 l3 l4 t216 false))))) = some r := by rw [if_neg (show ¬ (false = true) by decide)] at H; exact H
        clear H
        have H := H1
        clear H1
        replace H := Option.bind_eq_some_iff.mp H
        obtain ⟨t216, A170, H⟩ := H
        replace H : ((dims_In.f kj5 l0 l4).bind fun t219 => ((stratumref03_In.f kj5 l0 l4).bind fun t220 => (if (t219 == t220) = true then ((dims_In.f kj5 t216 l4).bind fun t221 => ((stratumref03_In.f kj5 t216 l4).bind fun t222 => (stratumlaw03_DimsAt.j1 kj5 l0 l2 l3 l4 t216 (t221 == t222)))) else (stratumlaw03_DimsAt.j1 kj5 l0 l2 l3 l4 t216 false)))) = some r := H
        have A17 := Aside0.mk A170
        clear A170
        have HC18 := Aside0.mk H
        clear H
        go_upto_region 4 with (first | ((with_reducible refine gate_callee (f := 11) rfl ?_); refine goesL_ (some 36) rfl rfl Try.func11 (by kernel_rfl) rfl #[.slice A1 l1.length c1] rfl (by (try simp only [List.map_toArray, List.map_cons, List.map_nil]); first | done | rfl | (simp only [List.length_drop, List.length_take]; rfl)) ?_; (with_reducible refine (stratumlaw03_Of.calls kj5 _ _ l1 t216 _ ?side1 ?side2 A17.out).mono ?_); (case side1 => repeat (first | exact (Kd.C_below HR1.out HB.out) | (with_reducible refine Kd.C_alloc ?_ _) | (with_reducible refine Kd.C_drewN ?_ _) | (with_reducible refine Kd.C_drew ?_))); (case side2 => exact HC1.out); rintro e w19 ⟨v217, rfl, ho0, hb⟩; refine ⟨_, rfl, ?_⟩; have n0_ := Aside0.mk (Kd.S_lower ho0 (below_size (by repeat (first | (with_reducible first | exact HB.out | apply below_alloc | apply pw_below_drewN | apply below_drew1) | exact HB.out)))); have n1_ := Aside0.mk (below_step (by repeat (first | (with_reducible first | exact HB.out | apply below_alloc | apply pw_below_drewN | apply below_drew1) | exact HB.out)) hb); clear HB; have HO218 := n0_; have HB := n1_; clear n0_ n1_; (try clear hb); (try clear hb2); (try clear hk); (try clear hi); (try clear ho0)))
        (try simp only [Act.put, List.setIfInBounds_toArray, List.set_cons_zero, List.set_cons_succ])
        go_cut [12] (fun v12 wc => ∃ (kq : Nat) (x12_17 : Bool), v12 = .bool x12_17 ∧ Aside0 (stratumlaw03_DimsAt.j1 kq l0 l2 l3 l4 t216 x12_17 = some r) ∧ Aside0 (kq ≤ kj5) ∧ Aside0 (Kd.S k28 28 wc w.heap.size (fun _ => True) v217 t216) ∧ Aside0 (Below w.heap.size w wc))
        case first =>
          have H := HC18.out
          clear HC18
          replace H := Option.bind_eq_some_iff.mp H
          obtain ⟨t219, A200, H⟩ := H
          replace H : ((stratumref03_In.f kj5 l0 l4).bind fun t220 => (if (t219 == t220) = true then ((dims_In.f kj5 t216 l4).bind fun t221 => ((stratumref03_In.f kj5 t216 l4).bind fun t222 => (stratumlaw03_DimsAt.j1 kj5 l0 l2 l3 l4 t216 (t221 == t222)))) else (stratumlaw03_DimsAt.j1 kj5 l0 l2 l3 l4 t216 false))) = some r := H
          have A20 := Aside0.mk A200
          clear A200
          replace H := Option.bind_eq_some_iff.mp H
          obtain ⟨t220, A210, H⟩ := H
          replace H : (if (t219 == t220) = true then ((dims_In.f kj5 t216 l4).bind fun t221 => ((stratumref03_In.f kj5 t216 l4).bind fun t222 => (stratumlaw03_DimsAt.j1 kj5 l0 l2 l3 l4 t216 (t221 == t222)))) else (stratumlaw03_DimsAt.j1 kj5 l0 l2 l3 l4 t216 false)) = some r := H
          have A21 := Aside0.mk A210
          clear A210
          by_cases c22 : (t219 == t220) = true
          · rw [if_pos c22] at H
            have c22b0 : (t219 == t220) = true := c22
            (try (have c22b1 : decide (t219 = t220) = true := by simpa using c22))
            (try (have c22b2 : (t219 == t220) = true := by simpa using c22))
            clear c22
            (first | rw [c22b0] | (simp only [i64_w, i32_w]; rw [c22b0]) | skip)
            replace H := Option.bind_eq_some_iff.mp H
            obtain ⟨t221, A230, H⟩ := H
            replace H : ((stratumref03_In.f kj5 t216 l4).bind fun t222 => (stratumlaw03_DimsAt.j1 kj5 l0 l2 l3 l4 t216 (t221 == t222))) = some r := H
            have A23 := Aside0.mk A230
            clear A230
            replace H := Option.bind_eq_some_iff.mp H
            obtain ⟨t222, A240, H⟩ := H
            replace H : (stratumlaw03_DimsAt.j1 kj5 l0 l2 l3 l4 t216 (t221 == t222)) = some r := H
            have A24 := Aside0.mk A240
            clear A240
            have H' := Aside0.mk H
            clear H
            go_wp2_with (first | ((with_reducible refine gate_callee (f := 26) rfl ?_); refine goesL_ (some 39) rfl rfl Try.func26 (by kernel_rfl) rfl #[.slice A0 l0.length c0, .slice A4 l4.length c4] rfl (by (try simp only [List.map_toArray, List.map_cons, List.map_nil]); first | done | rfl | (simp only [List.length_drop, List.length_take]; rfl)) ?_; (with_reducible refine (dims_In.calls kj5 _ _ l0 _ _ l4 t219 _ ?side1 ?side2 ?side3 ?side4 A20.out).mono ?_); (case side1 => repeat (first | exact (Kd.C_below HR0.out HB.out) | (with_reducible refine Kd.C_alloc ?_ _) | (with_reducible refine Kd.C_drewN ?_ _) | (with_reducible refine Kd.C_drew ?_))); (case side2 => exact HC0.out); (case side3 => repeat (first | exact (Kd.C_below HR4.out HB.out) | (with_reducible refine Kd.C_alloc ?_ _) | (with_reducible refine Kd.C_drewN ?_ _) | (with_reducible refine Kd.C_drew ?_))); (case side4 => exact HC4.out); rintro e w25 ⟨rfl, hb⟩; refine ⟨_, rfl, ?_⟩; have n0_ := Aside0.mk (Kd.S_below (by (with_reducible repeat (first | apply Kd.S_alloc | apply Kd.S_drewN | apply Kd.S_drew)); exact HO218.out) hb); have n1_ := Aside0.mk (below_step (by repeat (first | (with_reducible first | exact HB.out | apply below_alloc | apply pw_below_drewN | apply below_drew1) | exact HB.out)) hb); clear HO218; clear HB; have HO218 := n0_; have HB := n1_; clear n0_ n1_; (try clear hb); (try clear hb2); (try clear hk); (try clear hi)) | ((with_reducible refine gate_callee (f := 27) rfl ?_); refine goesL_ (some 42) rfl rfl Try.func27 (by kernel_rfl) rfl #[.slice A0 l0.length c0, .slice A4 l4.length c4] rfl (by (try simp only [List.map_toArray, List.map_cons, List.map_nil]); first | done | rfl | (simp only [List.length_drop, List.length_take]; rfl)) ?_; (with_reducible refine (stratumref03_In.calls kj5 _ _ l0 _ _ l4 t220 _ ?side1 ?side2 ?side3 ?side4 A21.out).mono ?_); (case side1 => repeat (first | exact (Kd.C_below HR0.out HB.out) | (with_reducible refine Kd.C_alloc ?_ _) | (with_reducible refine Kd.C_drewN ?_ _) | (with_reducible refine Kd.C_drew ?_))); (case side2 => exact HC0.out); (case side3 => repeat (first | exact (Kd.C_below HR4.out HB.out) | (with_reducible refine Kd.C_alloc ?_ _) | (with_reducible refine Kd.C_drewN ?_ _) | (with_reducible refine Kd.C_drew ?_))); (case side4 => exact HC4.out); rintro e w' ⟨rfl, ⟨nd, rfl⟩⟩; refine ⟨_, rfl, ?_⟩; obtain ⟨Ao26, co26, eo26⟩ := Kd.S_slice HO218.out; subst eo26) | (go_at_call 26; (with_reducible refine (dims_In.calls kj5 _ _ t216 _ _ l4 t221 _ ?side1 ?side2 ?side3 ?side4 A23.out).mono ?_); (case side1 => repeat (first | exact (Kd.S_reads' HO218.out).2.2 | (with_reducible refine Kd.C_alloc ?_ _) | (with_reducible refine Kd.C_drewN ?_ _) | (with_reducible refine Kd.C_drew ?_))); (case side2 => exact (Kd.S_reads' HO218.out).2.1); (case side3 => repeat (first | exact (Kd.C_below HR4.out (by repeat (first | (with_reducible first | exact HB.out | apply below_alloc | apply pw_below_drewN | apply below_drew1) | exact HB.out))) | (with_reducible refine Kd.C_alloc ?_ _) | (with_reducible refine Kd.C_drewN ?_ _) | (with_reducible refine Kd.C_drew ?_))); (case side4 => exact HC4.out); rintro e w27 ⟨rfl, hb⟩; have n0_ := Aside0.mk (Kd.S_below (by (with_reducible repeat (first | apply Kd.S_alloc | apply Kd.S_drewN | apply Kd.S_drew)); exact HO218.out) hb); have n1_ := Aside0.mk (below_step (by repeat (first | (with_reducible first | exact HB.out | apply below_alloc | apply pw_below_drewN | apply below_drew1) | exact HB.out)) hb); clear HO218; clear HB; have HO218 := n0_; have HB := n1_; clear n0_ n1_; (try clear hb); (try clear hb2); (try clear hk); (try clear hi)) | (go_at_call 27; (with_reducible refine (stratumref03_In.calls kj5 _ _ t216 _ _ l4 t222 _ ?side1 ?side2 ?side3 ?side4 A24.out).mono ?_); (case side1 => repeat (first | exact (Kd.S_reads' HO218.out).2.2 | (with_reducible refine Kd.C_alloc ?_ _) | (with_reducible refine Kd.C_drewN ?_ _) | (with_reducible refine Kd.C_drew ?_))); (case side2 => exact (Kd.S_reads' HO218.out).2.1); (case side3 => repeat (first | exact (Kd.C_below HR4.out HB.out) | (with_reducible refine Kd.C_alloc ?_ _) | (with_reducible refine Kd.C_drewN ?_ _) | (with_reducible refine Kd.C_drew ?_))); (case side4 => exact HC4.out); rintro e w' ⟨rfl, ⟨nd, rfl⟩⟩))
            go_meet
            case rel => exact ⟨_, ((t221 == t222)), (by first | rfl | (simp; done) | (simp [*]; done)), H', ⟨by have := HJ5.out; first | omega | exact Nat.le_refl _⟩, ⟨by (with_reducible repeat (first | apply Kd.S_alloc | apply Kd.S_drewN | apply Kd.S_drew)); exact HO218.out⟩, ⟨by repeat (first | (with_reducible first | exact HB.out | apply below_alloc | apply pw_below_drewN | apply below_drew1) | exact HB.out)⟩⟩
          · rw [if_neg c22] at H
            have c22b0 : (t219 == t220) = false := by simpa using c22
            (try (have c22b1 : decide (t219 = t220) = false := by simpa using c22))
            (try (have c22b2 : (t219 == t220) = false := by simpa using c22))
            (try (have c22b3 : ¬ (t219 = t220) := by simpa using c22))
            clear c22
            (first | rw [c22b0] | (simp only [i64_w, i32_w]; rw [c22b0]) | skip)
            have H' := Aside0.mk H
            clear H
            go_wp2_with (first | ((with_reducible refine gate_callee (f := 26) rfl ?_); refine goesL_ (some 39) rfl rfl Try.func26 (by kernel_rfl) rfl #[.slice A0 l0.length c0, .slice A4 l4.length c4] rfl (by (try simp only [List.map_toArray, List.map_cons, List.map_nil]); first | done | rfl | (simp only [List.length_drop, List.length_take]; rfl)) ?_; (with_reducible refine (dims_In.calls kj5 _ _ l0 _ _ l4 t219 _ ?side1 ?side2 ?side3 ?side4 A20.out).mono ?_); (case side1 => repeat (first | exact (Kd.C_below HR0.out HB.out) | (with_reducible refine Kd.C_alloc ?_ _) | (with_reducible refine Kd.C_drewN ?_ _) | (with_reducible refine Kd.C_drew ?_))); (case side2 => exact HC0.out); (case side3 => repeat (first | exact (Kd.C_below HR4.out HB.out) | (with_reducible refine Kd.C_alloc ?_ _) | (with_reducible refine Kd.C_drewN ?_ _) | (with_reducible refine Kd.C_drew ?_))); (case side4 => exact HC4.out); rintro e w28 ⟨rfl, hb⟩; refine ⟨_, rfl, ?_⟩; have n0_ := Aside0.mk (Kd.S_below (by (with_reducible repeat (first | apply Kd.S_alloc | apply Kd.S_drewN | apply Kd.S_drew)); exact HO218.out) hb); have n1_ := Aside0.mk (below_step (by repeat (first | (with_reducible first | exact HB.out | apply below_alloc | apply pw_below_drewN | apply below_drew1) | exact HB.out)) hb); clear HO218; clear HB; have HO218 := n0_; have HB := n1_; clear n0_ n1_; (try clear hb); (try clear hb2); (try clear hk); (try clear hi)) | ((with_reducible refine gate_callee (f := 27) rfl ?_); refine goesL_ (some 42) rfl rfl Try.func27 (by kernel_rfl) rfl #[.slice A0 l0.length c0, .slice A4 l4.length c4] rfl (by (try simp only [List.map_toArray, List.map_cons, List.map_nil]); first | done | rfl | (simp only [List.length_drop, List.length_take]; rfl)) ?_; (with_reducible refine (stratumref03_In.calls kj5 _ _ l0 _ _ l4 t220 _ ?side1 ?side2 ?side3 ?side4 A21.out).mono ?_); (case side1 => repeat (first | exact (Kd.C_below HR0.out HB.out) | (with_reducible refine Kd.C_alloc ?_ _) | (with_reducible refine Kd.C_drewN ?_ _) | (with_reducible refine Kd.C_drew ?_))); (case side2 => exact HC0.out); (case side3 => repeat (first | exact (Kd.C_below HR4.out HB.out) | (with_reducible refine Kd.C_alloc ?_ _) | (with_reducible refine Kd.C_drewN ?_ _) | (with_reducible refine Kd.C_drew ?_))); (case side4 => exact HC4.out); rintro e w' ⟨rfl, ⟨nd, rfl⟩⟩; refine ⟨_, rfl, ?_⟩))
            go_meet
            case rel => exact ⟨_, (false), (by first | rfl | (simp; done) | (simp [*]; done)), H', ⟨by have := HJ5.out; first | omega | exact Nat.le_refl _⟩, ⟨by (with_reducible repeat (first | apply Kd.S_alloc | apply Kd.S_drewN | apply Kd.S_drew)); exact HO218.out⟩, ⟨by repeat (first | (with_reducible first | exact HB.out | apply below_alloc | apply pw_below_drewN | apply below_drew1) | exact HB.out)⟩⟩
        case rest =>
          clear HC18
          try clear c1
          try clear c2
          try clear p2
          try clear c3
          try clear c4
          try clear c8
          try clear c9
          try clear c9b0
          try clear c9b1
          try clear c10
          try clear c10b0
          try clear c10b1
          try clear c11
          try clear c11b0
          try clear c11b1
          try clear c12
          try clear c14
          try clear c22
          try clear c22b0
          try clear c22b1
          try clear c22b2
          try clear c26
          try clear c27
          try clear p2
          obtain ⟨kq, x12_17, rfl, HA, HJ17, HO_11, HB⟩ := hcut
          cases kq with
          | zero => exact absurd HA.out (by simp [stratumlaw03_DimsAt.j1])
          | succ kj17 =>
            have H := HA.out
            clear HA
            simp only [stratumlaw03_DimsAt.j1] at H
            by_cases c29 : x12_17 = true
            · subst c29
              have H1 : ((dims_At.f kj17 l0 l2 l3 l4).bind fun t223 => ((stratumref03_At.f kj17 l0 l2 l3 l4).bind fun t226 => ((stratumlaw03_same.f kj17 t223 t226).bind fun t229 => (if t229 = true then ((dims_At.f kj17 t216 l2 l3 l4).bind fun t230 => ((stratumref03_At.f kj17 t216 l2 l3 l4).bind fun t233 => ((stratumlaw03_same.f kj17 t230 t233).bind fun t236 => (some t236)))) else (some false))))) = some r := by rw [if_pos rfl] at H; exact H
              clear H
              have H := H1
              clear H1
              replace H := Option.bind_eq_some_iff.mp H
              obtain ⟨t223, A300, H⟩ := H
              replace H : ((stratumref03_At.f kj17 l0 l2 l3 l4).bind fun t226 => ((stratumlaw03_same.f kj17 t223 t226).bind fun t229 => (if t229 = true then ((dims_At.f kj17 t216 l2 l3 l4).bind fun t230 => ((stratumref03_At.f kj17 t216 l2 l3 l4).bind fun t233 => ((stratumlaw03_same.f kj17 t230 t233).bind fun t236 => (some t236)))) else (some false)))) = some r := H
              have A30 := Aside0.mk A300
              clear A300
              replace H := Option.bind_eq_some_iff.mp H
              obtain ⟨t226, A310, H⟩ := H
              replace H : ((stratumlaw03_same.f kj17 t223 t226).bind fun t229 => (if t229 = true then ((dims_At.f kj17 t216 l2 l3 l4).bind fun t230 => ((stratumref03_At.f kj17 t216 l2 l3 l4).bind fun t233 => ((stratumlaw03_same.f kj17 t230 t233).bind fun t236 => (some t236)))) else (some false))) = some r := H
              have A31 := Aside0.mk A310
              clear A310
              replace H := Option.bind_eq_some_iff.mp H
              obtain ⟨t229, A320, H⟩ := H
              replace H : (if t229 = true then ((dims_At.f kj17 t216 l2 l3 l4).bind fun t230 => ((stratumref03_At.f kj17 t216 l2 l3 l4).bind fun t233 => ((stratumlaw03_same.f kj17 t230 t233).bind fun t236 => (some t236)))) else (some false)) = some r := H
              have A32 := Aside0.mk A320
              clear A320
              by_cases c33 : t229 = true
              · subst c33
                have H1 : ((dims_At.f kj17 t216 l2 l3 l4).bind fun t230 => ((stratumref03_At.f kj17 t216 l2 l3 l4).bind fun t233 => ((stratumlaw03_same.f kj17 t230 t233).bind fun t236 => (some t236)))) = some r := by rw [if_pos rfl] at H; exact H
                clear H
                have H := H1
                clear H1
                replace H := Option.bind_eq_some_iff.mp H
                obtain ⟨t230, A340, H⟩ := H
                replace H : ((stratumref03_At.f kj17 t216 l2 l3 l4).bind fun t233 => ((stratumlaw03_same.f kj17 t230 t233).bind fun t236 => (some t236))) = some r := H
                have A34 := Aside0.mk A340
                clear A340
                replace H := Option.bind_eq_some_iff.mp H
                obtain ⟨t233, A350, H⟩ := H
                replace H : ((stratumlaw03_same.f kj17 t230 t233).bind fun t236 => (some t236)) = some r := H
                have A35 := Aside0.mk A350
                clear A350
                replace H := Option.bind_eq_some_iff.mp H
                obtain ⟨t236, A360, H⟩ := H
                replace H : (some t236) = some r := H
                have A36 := Aside0.mk A360
                clear A360
                obtain rfl := Option.some.inj H
                clear hr
                go_wp2_with (first | (go_at_call 25; (with_reducible refine (dims_At.calls kj17 _ _ l0 _ _ l2 _ _ l3 _ _ l4 t223 _ ?side1 ?side2 ?side3 ?side4 ?side5 ?side6 ?side7 ?side8 A30.out).mono ?_); (case side1 => repeat (first | exact (Kd.C_below HR0.out HB.out) | (with_reducible refine Kd.C_alloc ?_ _) | (with_reducible refine Kd.C_drewN ?_ _) | (with_reducible refine Kd.C_drew ?_))); (case side2 => exact HC0.out); (case side3 => repeat (first | exact (Kd.C_below HR2.out HB.out) | (with_reducible refine Kd.C_alloc ?_ _) | (with_reducible refine Kd.C_drewN ?_ _) | (with_reducible refine Kd.C_drew ?_))); (case side4 => exact HC2.out); (case side5 => repeat (first | exact (Kd.C_below HR3.out HB.out) | (with_reducible refine Kd.C_alloc ?_ _) | (with_reducible refine Kd.C_drewN ?_ _) | (with_reducible refine Kd.C_drew ?_))); (case side6 => exact HC3.out); (case side7 => repeat (first | exact (Kd.C_below HR4.out HB.out) | (with_reducible refine Kd.C_alloc ?_ _) | (with_reducible refine Kd.C_drewN ?_ _) | (with_reducible refine Kd.C_drew ?_))); (case side8 => exact HC4.out); rintro e w37 ⟨v224, rfl, ho0, hb⟩; have n0_ := Aside0.mk (Kd.S_elder' (by (with_reducible repeat (first | apply Kd.S_alloc | apply Kd.S_drewN | apply Kd.S_drew)); exact HO_11.out) (Kd.R_base ho0) hb); have n1_ := Aside0.mk (Kd.R_lower ho0 (below_size (by repeat (first | (with_reducible first | exact HB.out | apply below_alloc | apply pw_below_drewN | apply below_drew1) | exact HB.out)))); have n2_ := Aside0.mk (below_step (by repeat (first | (with_reducible first | exact HB.out | apply below_alloc | apply pw_below_drewN | apply below_drew1) | exact HB.out)) hb); clear HO_11; clear HB; have HO_11 := n0_; have HO225 := n1_; have HB := n2_; clear n0_ n1_ n2_; (try clear hb); (try clear hb2); (try clear hk); (try clear hi); (try clear ho0)) | (go_at_call 28; (with_reducible refine (stratumref03_At.calls kj17 _ _ l0 _ _ l2 _ _ l3 _ _ l4 t226 _ ?side1 ?side2 ?side3 ?side4 ?side5 ?side6 ?side7 ?side8 A31.out).mono ?_); (case side1 => repeat (first | exact (Kd.C_below HR0.out HB.out) | (with_reducible refine Kd.C_alloc ?_ _) | (with_reducible refine Kd.C_drewN ?_ _) | (with_reducible refine Kd.C_drew ?_))); (case side2 => exact HC0.out); (case side3 => repeat (first | exact (Kd.C_below HR2.out HB.out) | (with_reducible refine Kd.C_alloc ?_ _) | (with_reducible refine Kd.C_drewN ?_ _) | (with_reducible refine Kd.C_drew ?_))); (case side4 => exact HC2.out); (case side5 => repeat (first | exact (Kd.C_below HR3.out HB.out) | (with_reducible refine Kd.C_alloc ?_ _) | (with_reducible refine Kd.C_drewN ?_ _) | (with_reducible refine Kd.C_drew ?_))); (case side6 => exact HC3.out); (case side7 => repeat (first | exact (Kd.C_below HR4.out HB.out) | (with_reducible refine Kd.C_alloc ?_ _) | (with_reducible refine Kd.C_drewN ?_ _) | (with_reducible refine Kd.C_drew ?_))); (case side8 => exact HC4.out); rintro e w38 ⟨v227, rfl, ho0, hb⟩; have n0_ := Aside0.mk (Kd.S_elder' (by (with_reducible repeat (first | apply Kd.S_alloc | apply Kd.S_drewN | apply Kd.S_drew)); exact HO_11.out) (Kd.R_base ho0) hb); have n1_ := Aside0.mk (Kd.R_elder' (by (with_reducible repeat (first | apply Kd.R_alloc | apply Kd.R_drewN | apply Kd.R_drew)); exact HO225.out) (Kd.R_base ho0) hb); have n2_ := Aside0.mk (Kd.R_lower (Kd.R_new' ho0 (Kd.R_lt (by (with_reducible repeat (first | apply Kd.R_alloc | apply Kd.R_drewN | apply Kd.R_drew)); exact HO225.out))) (below_size (by repeat (first | (with_reducible first | exact HB.out | apply below_alloc | apply pw_below_drewN | apply below_drew1) | exact HB.out)))); have n3_ := Aside0.mk (below_step (by repeat (first | (with_reducible first | exact HB.out | apply below_alloc | apply pw_below_drewN | apply below_drew1) | exact HB.out)) hb); clear HO_11; clear HO225; clear HB; have HO_11 := n0_; have HO225 := n1_; have HO228 := n2_; have HB := n3_; clear n0_ n1_ n2_ n3_; (try clear hb); (try clear hb2); (try clear hk); (try clear hi); (try clear ho0); obtain ⟨Ao39, co39, eo39⟩ := Kd.R_slice HO225.out; subst eo39; obtain ⟨Ao40, co40, eo40⟩ := Kd.R_slice HO228.out; subst eo40) | (go_at_call 22; (with_reducible refine (stratumlaw03_same.calls kj17 _ _ t223 _ _ t226 true _ ?side1 ?side2 ?side3 ?side4 A32.out).mono ?_); (case side1 => repeat (first | exact (Kd.R_reads' HO225.out).2.2 | (with_reducible refine Kd.C_alloc ?_ _) | (with_reducible refine Kd.C_drewN ?_ _) | (with_reducible refine Kd.C_drew ?_))); (case side2 => exact (Kd.R_reads' HO225.out).2.1); (case side3 => repeat (first | exact (Kd.R_reads' HO228.out).2.2 | (with_reducible refine Kd.C_alloc ?_ _) | (with_reducible refine Kd.C_drewN ?_ _) | (with_reducible refine Kd.C_drew ?_))); (case side4 => exact (Kd.R_reads' HO228.out).2.1); rintro e w' ⟨rfl, ⟨nd, rfl⟩⟩; obtain ⟨Ao41, co41, eo41⟩ := Kd.S_slice HO_11.out; subst eo41) | (go_at_call 25; (with_reducible refine (dims_At.calls kj17 _ _ t216 _ _ l2 _ _ l3 _ _ l4 t230 _ ?side1 ?side2 ?side3 ?side4 ?side5 ?side6 ?side7 ?side8 A34.out).mono ?_); (case side1 => repeat (first | exact (Kd.S_reads' HO_11.out).2.2 | (with_reducible refine Kd.C_alloc ?_ _) | (with_reducible refine Kd.C_drewN ?_ _) | (with_reducible refine Kd.C_drew ?_))); (case side2 => exact (Kd.S_reads' HO_11.out).2.1); (case side3 => repeat (first | exact (Kd.C_below HR2.out (by repeat (first | (with_reducible first | exact HB.out | apply below_alloc | apply pw_below_drewN | apply below_drew1) | exact HB.out))) | (with_reducible refine Kd.C_alloc ?_ _) | (with_reducible refine Kd.C_drewN ?_ _) | (with_reducible refine Kd.C_drew ?_))); (case side4 => exact HC2.out); (case side5 => repeat (first | exact (Kd.C_below HR3.out (by repeat (first | (with_reducible first | exact HB.out | apply below_alloc | apply pw_below_drewN | apply below_drew1) | exact HB.out))) | (with_reducible refine Kd.C_alloc ?_ _) | (with_reducible refine Kd.C_drewN ?_ _) | (with_reducible refine Kd.C_drew ?_))); (case side6 => exact HC3.out); (case side7 => repeat (first | exact (Kd.C_below HR4.out (by repeat (first | (with_reducible first | exact HB.out | apply below_alloc | apply pw_below_drewN | apply below_drew1) | exact HB.out))) | (with_reducible refine Kd.C_alloc ?_ _) | (with_reducible refine Kd.C_drewN ?_ _) | (with_reducible refine Kd.C_drew ?_))); (case side8 => exact HC4.out); rintro e w42 ⟨v231, rfl, ho0, hb⟩; have n0_ := Aside0.mk (Kd.S_elder' (by (with_reducible repeat (first | apply Kd.S_alloc | apply Kd.S_drewN | apply Kd.S_drew)); exact HO_11.out) (Kd.R_base ho0) hb); have n1_ := Aside0.mk (Kd.R_elder' (by (with_reducible repeat (first | apply Kd.R_alloc | apply Kd.R_drewN | apply Kd.R_drew)); exact HO225.out) (Kd.R_base ho0) hb); have n2_ := Aside0.mk (Kd.R_elder' (by (with_reducible repeat (first | apply Kd.R_alloc | apply Kd.R_drewN | apply Kd.R_drew)); exact HO228.out) (Kd.R_base ho0) hb); have n3_ := Aside0.mk (Kd.R_lower (Kd.R_new' (Kd.R_new' ho0 (Kd.R_lt (by (with_reducible repeat (first | apply Kd.R_alloc | apply Kd.R_drewN | apply Kd.R_drew)); exact HO225.out))) (Kd.R_lt (by (with_reducible repeat (first | apply Kd.R_alloc | apply Kd.R_drewN | apply Kd.R_drew)); exact HO228.out))) (below_size (by repeat (first | (with_reducible first | exact HB.out | apply below_alloc | apply pw_below_drewN | apply below_drew1) | exact HB.out)))); have n4_ := Aside0.mk (below_step (by repeat (first | (with_reducible first | exact HB.out | apply below_alloc | apply pw_below_drewN | apply below_drew1) | exact HB.out)) hb); clear HO_11; clear HO225; clear HO228; clear HB; have HO_11 := n0_; have HO225 := n1_; have HO228 := n2_; have HO232 := n3_; have HB := n4_; clear n0_ n1_ n2_ n3_ n4_; (try clear hb); (try clear hb2); (try clear hk); (try clear hi); (try clear ho0)) | (go_at_call 28; (with_reducible refine (stratumref03_At.calls kj17 _ _ t216 _ _ l2 _ _ l3 _ _ l4 t233 _ ?side1 ?side2 ?side3 ?side4 ?side5 ?side6 ?side7 ?side8 A35.out).mono ?_); (case side1 => repeat (first | exact (Kd.S_reads' HO_11.out).2.2 | (with_reducible refine Kd.C_alloc ?_ _) | (with_reducible refine Kd.C_drewN ?_ _) | (with_reducible refine Kd.C_drew ?_))); (case side2 => exact (Kd.S_reads' HO_11.out).2.1); (case side3 => repeat (first | exact (Kd.C_below HR2.out HB.out) | (with_reducible refine Kd.C_alloc ?_ _) | (with_reducible refine Kd.C_drewN ?_ _) | (with_reducible refine Kd.C_drew ?_))); (case side4 => exact HC2.out); (case side5 => repeat (first | exact (Kd.C_below HR3.out HB.out) | (with_reducible refine Kd.C_alloc ?_ _) | (with_reducible refine Kd.C_drewN ?_ _) | (with_reducible refine Kd.C_drew ?_))); (case side6 => exact HC3.out); (case side7 => repeat (first | exact (Kd.C_below HR4.out HB.out) | (with_reducible refine Kd.C_alloc ?_ _) | (with_reducible refine Kd.C_drewN ?_ _) | (with_reducible refine Kd.C_drew ?_))); (case side8 => exact HC4.out); rintro e w43 ⟨v234, rfl, ho0, hb⟩; have n0_ := Aside0.mk (Kd.S_elder' (by (with_reducible repeat (first | apply Kd.S_alloc | apply Kd.S_drewN | apply Kd.S_drew)); exact HO_11.out) (Kd.R_base ho0) hb); have n1_ := Aside0.mk (Kd.R_elder' (by (with_reducible repeat (first | apply Kd.R_alloc | apply Kd.R_drewN | apply Kd.R_drew)); exact HO225.out) (Kd.R_base ho0) hb); have n2_ := Aside0.mk (Kd.R_elder' (by (with_reducible repeat (first | apply Kd.R_alloc | apply Kd.R_drewN | apply Kd.R_drew)); exact HO228.out) (Kd.R_base ho0) hb); have n3_ := Aside0.mk (Kd.R_elder' (by (with_reducible repeat (first | apply Kd.R_alloc | apply Kd.R_drewN | apply Kd.R_drew)); exact HO232.out) (Kd.R_base ho0) hb); have n4_ := Aside0.mk (Kd.R_lower (Kd.R_new' (Kd.R_new' (Kd.R_new' ho0 (Kd.R_lt (by (with_reducible repeat (first | apply Kd.R_alloc | apply Kd.R_drewN | apply Kd.R_drew)); exact HO225.out))) (Kd.R_lt (by (with_reducible repeat (first | apply Kd.R_alloc | apply Kd.R_drewN | apply Kd.R_drew)); exact HO228.out))) (Kd.R_lt (by (with_reducible repeat (first | apply Kd.R_alloc | apply Kd.R_drewN | apply Kd.R_drew)); exact HO232.out))) (below_size (by repeat (first | (with_reducible first | exact HB.out | apply below_alloc | apply pw_below_drewN | apply below_drew1) | exact HB.out)))); have n5_ := Aside0.mk (below_step (by repeat (first | (with_reducible first | exact HB.out | apply below_alloc | apply pw_below_drewN | apply below_drew1) | exact HB.out)) hb); clear HO_11; clear HO225; clear HO228; clear HO232; clear HB; have HO_11 := n0_; have HO225 := n1_; have HO228 := n2_; have HO232 := n3_; have HO235 := n4_; have HB := n5_; clear n0_ n1_ n2_ n3_ n4_ n5_; (try clear hb); (try clear hb2); (try clear hk); (try clear hi); (try clear ho0); obtain ⟨Ao44, co44, eo44⟩ := Kd.R_slice HO232.out; subst eo44; obtain ⟨Ao45, co45, eo45⟩ := Kd.R_slice HO235.out; subst eo45) | (go_at_call 22; (with_reducible refine (stratumlaw03_same.calls kj17 _ _ t230 _ _ t233 t236 _ ?side1 ?side2 ?side3 ?side4 A36.out).mono ?_); (case side1 => repeat (first | exact (Kd.R_reads' HO232.out).2.2 | (with_reducible refine Kd.C_alloc ?_ _) | (with_reducible refine Kd.C_drewN ?_ _) | (with_reducible refine Kd.C_drew ?_))); (case side2 => exact (Kd.R_reads' HO232.out).2.1); (case side3 => repeat (first | exact (Kd.R_reads' HO235.out).2.2 | (with_reducible refine Kd.C_alloc ?_ _) | (with_reducible refine Kd.C_drewN ?_ _) | (with_reducible refine Kd.C_drew ?_))); (case side4 => exact (Kd.R_reads' HO235.out).2.1); rintro e w' ⟨rfl, ⟨nd, rfl⟩⟩))
                go_ret
                exact ⟨by first | rfl | (simp [errW_none, errW_some] <;> rfl) | (simp [*, errW_none, errW_some] <;> rfl), by repeat (first | (with_reducible first | exact HB.out | apply below_alloc | apply pw_below_drewN | apply below_drew1) | exact HB.out)⟩
              · replace c33 := Bool.eq_false_iff.mpr c33
                subst c33
                have H1 : (some false) = some r := by rw [if_neg (show ¬ (false = true) by decide)] at H; exact H
                clear H
                have H := H1
                clear H1
                obtain rfl := Option.some.inj H
                exact absurd hr.out (by simp)
            · replace c29 := Bool.eq_false_iff.mpr c29
              subst c29
              have H1 : (some false) = some r := by rw [if_neg (show ¬ (false = true) by decide)] at H; exact H
              clear H
              have H := H1
              clear H1
              obtain rfl := Option.some.inj H
              exact absurd hr.out (by simp)
end Go.Proofs.Ytefpmpmkodogeaa.PDimsAt
