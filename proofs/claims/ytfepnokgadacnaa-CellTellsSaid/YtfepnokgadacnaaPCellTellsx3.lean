/- Written for this claim by a program of the session: Go functions that the law reaches as plain Lean functions, each with the proof that its call comes to just that; conditions: those that each theorem names, no other. -/
import Derived.Test.YtfepnokgadacnaaPCellTellsx0
import Derived.Test.YtfepnokgadacnaaPCellTellsx2
namespace Go.Proofs.Ytfepnokgadacnaa.PCellTells
open Go.RowKit Go.Proofs.YtfepnokgadacnaaW.PrintWords Go.Proofs.YtfepnokgadacnaaW.PrintLast Go.Proofs.YtfepnokgadacnaaW.PrintMore
attribute [local go_sem] max2_int min2_int max_two min_two max_three min_three max_four min_four   -- for this text's walks alone
set_option linter.unusedVariables false
set_option linter.unusedSimpArgs false

/-! ### stratumlaw01_CellTells: function 5 -/
mutual
def stratumlaw01_CellTells.j0 : Nat → List Int → Bool → Option (Bool)
  | 0, _, _ => none
  | k + 1, x0, x19 => if x19 = true then ((stratumlaw01_known.f k).bind fun t134 => (some t134)) else ((cell_All.f k x0).bind fun bt135 => (stratumlaw01_CellTells.l0 k x0 0 false false 0 bt135.1 bt135.2.1 bt135.2.2.1 bt135.2.2.2))
def stratumlaw01_CellTells.l0 : Nat → List Int → Int → Bool → Bool → Int → Int → Int → Int → Int → Option (Bool)
  | 0, _, _, _, _, _, _, _, _, _ => none
  | k + 1, x0, x4, x5, x6, x7, x140000, x140001, x140002, x140003 => if x7 < (x0.length : Int) then (if 0 ≤ x7 then (if x5 = true then (if x6 = true then (if (rd x0 x7) < x140002 then (some false) else (if (rd x0 x7) > x140003 then (some false) else (stratumlaw01_CellTells.l0 k x0 (wrap64 (x4 + (rd x0 x7))) true true (wrap64 (x7 + 1)) x140000 x140001 x140002 x140003))) else (if (rd x0 x7) < x140002 then (some false) else (if (rd x0 x7) > x140003 then (some false) else (stratumlaw01_CellTells.l0 k x0 (wrap64 (x4 + (rd x0 x7))) true ((rd x0 x7) == x140003) (wrap64 (x7 + 1)) x140000 x140001 x140002 x140003)))) else (if x6 = true then (if (rd x0 x7) < x140002 then (some false) else (if (rd x0 x7) > x140003 then (some false) else (stratumlaw01_CellTells.l0 k x0 (wrap64 (x4 + (rd x0 x7))) ((rd x0 x7) == x140002) true (wrap64 (x7 + 1)) x140000 x140001 x140002 x140003))) else (if (rd x0 x7) < x140002 then (some false) else (if (rd x0 x7) > x140003 then (some false) else (stratumlaw01_CellTells.l0 k x0 (wrap64 (x4 + (rd x0 x7))) ((rd x0 x7) == x140002) ((rd x0 x7) == x140003) (wrap64 (x7 + 1)) x140000 x140001 x140002 x140003))))) else (none)) else (if x140000 = (x0.length : Int) then (if x140001 = x4 then (if x5 = true then (some x6) else (some false)) else (some false)) else (some false))
end
def stratumlaw01_CellTells.f (k : Nat) (l0 : List Int) : Option (Bool) := if (l0.length : Int) > 1000 then (stratumlaw01_CellTells.j0 k l0 true) else (if (l0.length : Int) = 0 then (stratumlaw01_CellTells.j0 k l0 true) else ((stratumlaw01_known.f k).bind fun t133 => (stratumlaw01_CellTells.j0 k l0 (!t133))))
theorem stratumlaw01_CellTells.mono_l : ∀ k, (∀ y0 y1, LeO (stratumlaw01_CellTells.j0 k y0 y1) (stratumlaw01_CellTells.j0 (k + 1) y0 y1)) ∧ (∀ y0 y1 y2 y3 y4 y5 y6 y7 y8, LeO (stratumlaw01_CellTells.l0 k y0 y1 y2 y3 y4 y5 y6 y7 y8) (stratumlaw01_CellTells.l0 (k + 1) y0 y1 y2 y3 y4 y5 y6 y7 y8))
  | 0 => ⟨fun _ _ r h => by simp [stratumlaw01_CellTells.j0] at h, fun _ _ _ _ _ _ _ _ _ r h => by simp [stratumlaw01_CellTells.l0] at h⟩
  | k + 1 => by
    obtain ⟨ih0, ih1⟩ := stratumlaw01_CellTells.mono_l k
    refine ⟨?_, ?_⟩
    · intro y0 y1
      unfold stratumlaw01_CellTells.j0
      repeat' first
      | (with_reducible exact ih0 _ _)
      | (with_reducible exact ih1 _ _ _ _ _ _ _ _ _)
      | (with_reducible exact cell_All.mono _ _)
      | (with_reducible exact stratumlaw01_known.mono _)
      | (with_reducible exact LeO.refl _)
      | (with_reducible exact LeO.none _)
      | (with_reducible refine LeO.ite ?_ ?_)
      | (with_reducible refine LeO.bind ?_ (fun _ => ?_))
      | exact ih0 _ _
      | exact ih1 _ _ _ _ _ _ _ _ _
      | exact cell_All.mono _ _
      | exact stratumlaw01_known.mono _
      | exact LeO.none _
      | refine LeO.ite ?_ ?_
      | refine LeO.bind ?_ (fun _ => ?_)
    · intro y0 y1 y2 y3 y4 y5 y6 y7 y8
      unfold stratumlaw01_CellTells.l0
      repeat' first
      | (with_reducible exact ih0 _ _)
      | (with_reducible exact ih1 _ _ _ _ _ _ _ _ _)
      | (with_reducible exact cell_All.mono _ _)
      | (with_reducible exact stratumlaw01_known.mono _)
      | (with_reducible exact LeO.refl _)
      | (with_reducible exact LeO.none _)
      | (with_reducible refine LeO.ite ?_ ?_)
      | (with_reducible refine LeO.bind ?_ (fun _ => ?_))
      | exact ih0 _ _
      | exact ih1 _ _ _ _ _ _ _ _ _
      | exact cell_All.mono _ _
      | exact stratumlaw01_known.mono _
      | exact LeO.none _
      | refine LeO.ite ?_ ?_
      | refine LeO.bind ?_ (fun _ => ?_)
theorem stratumlaw01_CellTells.mono : ∀ a0 k, LeO (stratumlaw01_CellTells.f k a0) (stratumlaw01_CellTells.f (k + 1) a0) := by
  intro a0 k
  obtain ⟨ih0, ih1⟩ := stratumlaw01_CellTells.mono_l k
  unfold stratumlaw01_CellTells.f
  repeat' first
      | (with_reducible exact ih0 _ _)
      | (with_reducible exact ih1 _ _ _ _ _ _ _ _ _)
      | (with_reducible exact cell_All.mono _ _)
      | (with_reducible exact stratumlaw01_known.mono _)
      | (with_reducible exact LeO.refl _)
      | (with_reducible exact LeO.none _)
      | (with_reducible refine LeO.ite ?_ ?_)
      | (with_reducible refine LeO.bind ?_ (fun _ => ?_))
      | exact ih0 _ _
      | exact ih1 _ _ _ _ _ _ _ _ _
      | exact cell_All.mono _ _
      | exact stratumlaw01_known.mono _
      | exact LeO.none _
      | refine LeO.ite ?_ ?_
      | refine LeO.bind ?_ (fun _ => ?_)
set_option maxHeartbeats 8000000 in
set_option maxRecDepth 100000 in
theorem stratumlaw01_CellTells.calls (k : Nat) (A0 : Option Addr) (c0 : Nat) (l0 : List Int) (r : Bool) (w : World) (hr0 : Kd.C (Kd.int .i64) w A0 l0.length l0) (hc0 : l0.length ≤ c0) (h : stratumlaw01_CellTells.f k l0 = some r) :
    Calls Try.prog 5 #[.slice A0 l0.length c0] w fun e w' => e = .returned (.bool r) ∧ Below w.heap.size w w' := by
  have hu23 := Try.underlying23
  have HR0 := Aside0.mk hr0
  have HC0 := Aside0.mk hc0
  clear hr0 hc0
  have HB := Aside0.mk (Below.refl w.heap.size w)
  have H : (if (l0.length : Int) > 1000 then (stratumlaw01_CellTells.j0 k l0 true) else (if (l0.length : Int) = 0 then (stratumlaw01_CellTells.j0 k l0 true) else ((stratumlaw01_known.f k).bind fun t133 => (stratumlaw01_CellTells.j0 k l0 (!t133))))) = some r := h
  clear h
  have HC2 := Aside0.mk H
  clear H
  go_enter Try.func5, Try.ntmps5
  go_upto_region 1 with (fail)
  repeat (go_quiet (fail); go_upto_region 1 with (fail))
  go_cut [19] (fun v19 wc => ∃ (kq : Nat) (x19_1 : Bool), v19 = .bool x19_1 ∧ Aside0 (stratumlaw01_CellTells.j0 kq l0 x19_1 = some r) ∧ Aside0 (kq ≤ k) ∧ Aside0 (Below w.heap.size w wc))
  case first =>
    have H := HC2.out
    clear HC2
    by_cases c3 : (l0.length : Int) > 1000
    · rw [if_pos c3] at H
      have c3b0 : decide (1000 < (l0.length : Int)) = true := decide_eq_true c3
      have c3b1 : decide (1000 < l0.length) = true := decide_eq_true (by omega)
      clear c3
      (first | rw [c3b0] | (simp only [i64_w, i32_w]; rw [c3b0]) | skip)
      have H' := Aside0.mk H
      clear H
      go_wp2
      repeat (go_quiet (fail); try go_wp2)
      go_meet
      case rel => exact ⟨_, (true), (by first | rfl | (simp; done) | (simp [*]; done)), H', ⟨by first | omega | exact Nat.le_refl _⟩, ⟨by repeat (first | (with_reducible first | exact HB.out | apply below_alloc | apply pw_below_drewN | apply below_drew1) | exact HB.out)⟩⟩
    · rw [if_neg c3] at H
      have c3b0 : decide (1000 < (l0.length : Int)) = false := decide_eq_false c3
      have c3b1 : decide (1000 < l0.length) = false := decide_eq_false (by omega)
      clear c3
      (first | rw [c3b0] | (simp only [i64_w, i32_w]; rw [c3b0]) | skip)
      by_cases c4 : (l0.length : Int) = 0
      · rw [if_pos c4] at H
        have c4b0 : ((l0.length : Int) == 0) = true := beq_iff_eq.mpr c4
        have c4b1 : ((l0.length : Int) != 0) = false := bne_eq_false_iff_eq.mpr c4
        clear c4
        have H' := Aside0.mk H
        clear H
        go_wp2
        repeat (go_quiet (fail); try go_wp2)
        go_meet
        case rel => exact ⟨_, (true), (by first | rfl | (simp; done) | (simp [*]; done)), H', ⟨by first | omega | exact Nat.le_refl _⟩, ⟨by repeat (first | (with_reducible first | exact HB.out | apply below_alloc | apply pw_below_drewN | apply below_drew1) | exact HB.out)⟩⟩
      · rw [if_neg c4] at H
        have c4b0 : ((l0.length : Int) == 0) = false := beq_eq_false_iff_ne.mpr c4
        have c4b1 : ((l0.length : Int) != 0) = true := bne_iff_ne.mpr c4
        have c4b2 : ¬ (l0 = []) := fun h_ => c4 (by rw [h_]; rfl)
        replace H := Option.bind_eq_some_iff.mp H
        obtain ⟨t133, A50, H⟩ := H
        replace H : (stratumlaw01_CellTells.j0 k l0 (!t133)) = some r := H
        have A5 := Aside0.mk A50
        clear A50
        have H' := Aside0.mk H
        clear H
        go_wp2_with (first | (go_at_call 10; (with_reducible refine (stratumlaw01_known.calls k  t133 _ A5.out).mono ?_); rintro e w6 ⟨rfl, hb⟩; have n0_ := Aside0.mk (below_step (by repeat (first | (with_reducible first | exact HB.out | apply below_alloc | apply pw_below_drewN | apply below_drew1) | exact HB.out)) hb); clear HB; have HB := n0_; clear n0_; (try clear hb); (try clear hb2); (try clear hk); (try clear hi)))
        repeat (go_quiet (first | (go_at_call 10; (with_reducible refine (stratumlaw01_known.calls k  t133 _ A5.out).mono ?_); rintro e w6 ⟨rfl, hb⟩; have n0_ := Aside0.mk (below_step (by repeat (first | (with_reducible first | exact HB.out | apply below_alloc | apply pw_below_drewN | apply below_drew1) | exact HB.out)) hb); clear HB; have HB := n0_; clear n0_; (try clear hb); (try clear hb2); (try clear hk); (try clear hi))); try go_wp2_with (first | (go_at_call 10; (with_reducible refine (stratumlaw01_known.calls k  t133 _ A5.out).mono ?_); rintro e w6 ⟨rfl, hb⟩; have n0_ := Aside0.mk (below_step (by repeat (first | (with_reducible first | exact HB.out | apply below_alloc | apply pw_below_drewN | apply below_drew1) | exact HB.out)) hb); clear HB; have HB := n0_; clear n0_; (try clear hb); (try clear hb2); (try clear hk); (try clear hi))))
        go_meet
        case rel => exact ⟨_, (!t133), (by first | rfl | (simp; done) | (simp [*]; done)), H', ⟨by first | omega | exact Nat.le_refl _⟩, ⟨by repeat (first | (with_reducible first | exact HB.out | apply below_alloc | apply pw_below_drewN | apply below_drew1) | exact HB.out)⟩⟩
  case rest =>
    clear HC2
    try clear p2
    try clear c3
    try clear c3b0
    try clear c3b1
    try clear c4
    try clear c4b0
    try clear c4b1
    try clear c4b2
    try clear c5
    obtain ⟨kq, x19_1, rfl, HA, HJ1, HB⟩ := hcut
    cases kq with
    | zero => exact absurd HA.out (by simp [stratumlaw01_CellTells.j0])
    | succ kj1 =>
      have H := HA.out
      clear HA
      simp only [stratumlaw01_CellTells.j0] at H
      by_cases c7 : x19_1 = true
      · subst c7
        have H1 : ((stratumlaw01_known.f kj1).bind fun t134 => (some t134)) = some r := by rw [if_pos rfl] at H; exact H
        clear H
        have H := H1
        clear H1
        replace H := Option.bind_eq_some_iff.mp H
        obtain ⟨t134, A80, H⟩ := H
        replace H : (some t134) = some r := H
        have A8 := Aside0.mk A80
        clear A80
        obtain rfl := Option.some.inj H
        go_wp2_with (first | (go_at_call 10; (with_reducible refine (stratumlaw01_known.calls kj1  t134 _ A8.out).mono ?_); rintro e w9 ⟨rfl, hb⟩; have n0_ := Aside0.mk (below_step (by repeat (first | (with_reducible first | exact HB.out | apply below_alloc | apply pw_below_drewN | apply below_drew1) | exact HB.out)) hb); clear HB; have HB := n0_; clear n0_; (try clear hb); (try clear hb2); (try clear hk); (try clear hi)))
        repeat (go_quiet (first | (go_at_call 10; (with_reducible refine (stratumlaw01_known.calls kj1  t134 _ A8.out).mono ?_); rintro e w9 ⟨rfl, hb⟩; have n0_ := Aside0.mk (below_step (by repeat (first | (with_reducible first | exact HB.out | apply below_alloc | apply pw_below_drewN | apply below_drew1) | exact HB.out)) hb); clear HB; have HB := n0_; clear n0_; (try clear hb); (try clear hb2); (try clear hk); (try clear hi))); try go_wp2_with (first | (go_at_call 10; (with_reducible refine (stratumlaw01_known.calls kj1  t134 _ A8.out).mono ?_); rintro e w9 ⟨rfl, hb⟩; have n0_ := Aside0.mk (below_step (by repeat (first | (with_reducible first | exact HB.out | apply below_alloc | apply pw_below_drewN | apply below_drew1) | exact HB.out)) hb); clear HB; have HB := n0_; clear n0_; (try clear hb); (try clear hb2); (try clear hk); (try clear hi))))
        go_ret
        exact ⟨by first | rfl | (simp [errW_none, errW_some] <;> rfl) | (simp [*, errW_none, errW_some] <;> rfl), by repeat (first | (with_reducible first | exact HB.out | apply below_alloc | apply pw_below_drewN | apply below_drew1) | exact HB.out)⟩
      · replace c7 := Bool.eq_false_iff.mpr c7
        subst c7
        have H1 : ((cell_All.f kj1 l0).bind fun bt135 => (stratumlaw01_CellTells.l0 kj1 l0 0 false false 0 bt135.1 bt135.2.1 bt135.2.2.1 bt135.2.2.2)) = some r := by rw [if_neg (show ¬ (false = true) by decide)] at H; exact H
        clear H
        have H := H1
        clear H1
        replace H := Option.bind_eq_some_iff.mp H
        obtain ⟨⟨t135, t136, t137, t138⟩, A100, H⟩ := H
        replace H : (stratumlaw01_CellTells.l0 kj1 l0 0 false false 0 t135 t136 t137 t138) = some r := H
        have A10 := Aside0.mk A100
        clear A100
        have H' := Aside0.mk H
        clear H
        go_wp2_with (first | (go_at_call 12; (with_reducible refine (cell_All.calls kj1 _ _ l0 t135 t136 t137 t138 _ ?side1 ?side2 A10.out).mono ?_); (case side1 => repeat (first | exact (Kd.C_below HR0.out HB.out) | (with_reducible refine Kd.C_alloc ?_ _) | (with_reducible refine Kd.C_drewN ?_ _) | (with_reducible refine Kd.C_drew ?_))); (case side2 => exact HC0.out); rintro e w11 ⟨rfl, hb⟩; have n0_ := Aside0.mk (below_step (by repeat (first | (with_reducible first | exact HB.out | apply below_alloc | apply pw_below_drewN | apply below_drew1) | exact HB.out)) hb); clear HB; have HB := n0_; clear n0_; (try clear hb); (try clear hb2); (try clear hk); (try clear hi)) | ((with_reducible refine gate_dst (N := 3) rfl ?_); (try (refine gate_guard (by rfl) ?_; dsimp only)); refine box_event ?hg (N := 3) ?hd (cs := #[.int .i64 0, .int .i64 0, .int .i64 0, .int .i64 0]) (t := 23) ?hr ?_; (case hd => rfl); (case hg => rfl); (case hr => first | (go_simp; done) | (go_simp; rfl)); intro gb139 hg w12 hbox hb; have n0_ := Aside0.mk (below_step (by repeat (first | (with_reducible first | exact HB.out | apply below_alloc | apply pw_below_drewN | apply below_drew1) | exact HB.out)) hb); have n1_ := Aside0.mk (hbox); have n2_ := Aside0.mk ((by rw [hg]; exact (below_size (by repeat (first | (with_reducible first | exact HB.out | apply below_alloc | apply pw_below_drewN | apply below_drew1) | exact HB.out))) : w.heap.size ≤ gb139)); have n3_ := Aside0.mk ((by rw [hg]; exact (below_size (by repeat (first | (with_reducible first | exact HB.out | apply below_alloc | apply pw_below_drewN | apply below_drew1) | exact HB.out))) : w.heap.size ≤ gb139)); clear HB; have HB := n0_; have BK139 := n1_; have GW139 := n2_; have GE139 := n3_; clear n0_ n1_ n2_ n3_; clear hb hbox hg; have hcz13_0 : w12.cell? ⟨gb139, 0, none⟩ = some (.int .i64 0) := (blk_cell BK139.out 0).trans rfl; have hcz13_1 : w12.cell? ⟨gb139, 1, none⟩ = some (.int .i64 0) := (blk_cell BK139.out 1).trans rfl; have hcz13_2 : w12.cell? ⟨gb139, 2, none⟩ = some (.int .i64 0) := (blk_cell BK139.out 2).trans rfl; have hcz13_3 : w12.cell? ⟨gb139, 3, none⟩ = some (.int .i64 0) := (blk_cell BK139.out 3).trans rfl; have hfz13_0 := blk_frozen BK139.out 0; have hfz13_1 := blk_frozen BK139.out 1; have hfz13_2 := blk_frozen BK139.out 2; have hfz13_3 := blk_frozen BK139.out 3))
        repeat (go_quiet (first | (go_at_call 12; (with_reducible refine (cell_All.calls kj1 _ _ l0 t135 t136 t137 t138 _ ?side1 ?side2 A10.out).mono ?_); (case side1 => repeat (first | exact (Kd.C_below HR0.out HB.out) | (with_reducible refine Kd.C_alloc ?_ _) | (with_reducible refine Kd.C_drewN ?_ _) | (with_reducible refine Kd.C_drew ?_))); (case side2 => exact HC0.out); rintro e w11 ⟨rfl, hb⟩; have n0_ := Aside0.mk (below_step (by repeat (first | (with_reducible first | exact HB.out | apply below_alloc | apply pw_below_drewN | apply below_drew1) | exact HB.out)) hb); clear HB; have HB := n0_; clear n0_; (try clear hb); (try clear hb2); (try clear hk); (try clear hi)) | ((with_reducible refine gate_dst (N := 3) rfl ?_); (try (refine gate_guard (by rfl) ?_; dsimp only)); refine box_event ?hg (N := 3) ?hd (cs := #[.int .i64 0, .int .i64 0, .int .i64 0, .int .i64 0]) (t := 23) ?hr ?_; (case hd => rfl); (case hg => rfl); (case hr => first | (go_simp; done) | (go_simp; rfl)); intro gb139 hg w12 hbox hb; have n0_ := Aside0.mk (below_step (by repeat (first | (with_reducible first | exact HB.out | apply below_alloc | apply pw_below_drewN | apply below_drew1) | exact HB.out)) hb); have n1_ := Aside0.mk (hbox); have n2_ := Aside0.mk ((by rw [hg]; exact (below_size (by repeat (first | (with_reducible first | exact HB.out | apply below_alloc | apply pw_below_drewN | apply below_drew1) | exact HB.out))) : w.heap.size ≤ gb139)); have n3_ := Aside0.mk ((by rw [hg]; exact (below_size (by repeat (first | (with_reducible first | exact HB.out | apply below_alloc | apply pw_below_drewN | apply below_drew1) | exact HB.out))) : w.heap.size ≤ gb139)); clear HB; have HB := n0_; have BK139 := n1_; have GW139 := n2_; have GE139 := n3_; clear n0_ n1_ n2_ n3_; clear hb hbox hg; have hcz13_0 : w12.cell? ⟨gb139, 0, none⟩ = some (.int .i64 0) := (blk_cell BK139.out 0).trans rfl; have hcz13_1 : w12.cell? ⟨gb139, 1, none⟩ = some (.int .i64 0) := (blk_cell BK139.out 1).trans rfl; have hcz13_2 : w12.cell? ⟨gb139, 2, none⟩ = some (.int .i64 0) := (blk_cell BK139.out 2).trans rfl; have hcz13_3 : w12.cell? ⟨gb139, 3, none⟩ = some (.int .i64 0) := (blk_cell BK139.out 3).trans rfl; have hfz13_0 := blk_frozen BK139.out 0; have hfz13_1 := blk_frozen BK139.out 1; have hfz13_2 := blk_frozen BK139.out 2; have hfz13_3 := blk_frozen BK139.out 3)); try go_wp2_with (first | (go_at_call 12; (with_reducible refine (cell_All.calls kj1 _ _ l0 t135 t136 t137 t138 _ ?side1 ?side2 A10.out).mono ?_); (case side1 => repeat (first | exact (Kd.C_below HR0.out HB.out) | (with_reducible refine Kd.C_alloc ?_ _) | (with_reducible refine Kd.C_drewN ?_ _) | (with_reducible refine Kd.C_drew ?_))); (case side2 => exact HC0.out); rintro e w11 ⟨rfl, hb⟩; have n0_ := Aside0.mk (below_step (by repeat (first | (with_reducible first | exact HB.out | apply below_alloc | apply pw_below_drewN | apply below_drew1) | exact HB.out)) hb); clear HB; have HB := n0_; clear n0_; (try clear hb); (try clear hb2); (try clear hk); (try clear hi)) | ((with_reducible refine gate_dst (N := 3) rfl ?_); (try (refine gate_guard (by rfl) ?_; dsimp only)); refine box_event ?hg (N := 3) ?hd (cs := #[.int .i64 0, .int .i64 0, .int .i64 0, .int .i64 0]) (t := 23) ?hr ?_; (case hd => rfl); (case hg => rfl); (case hr => first | (go_simp; done) | (go_simp; rfl)); intro gb139 hg w12 hbox hb; have n0_ := Aside0.mk (below_step (by repeat (first | (with_reducible first | exact HB.out | apply below_alloc | apply pw_below_drewN | apply below_drew1) | exact HB.out)) hb); have n1_ := Aside0.mk (hbox); have n2_ := Aside0.mk ((by rw [hg]; exact (below_size (by repeat (first | (with_reducible first | exact HB.out | apply below_alloc | apply pw_below_drewN | apply below_drew1) | exact HB.out))) : w.heap.size ≤ gb139)); have n3_ := Aside0.mk ((by rw [hg]; exact (below_size (by repeat (first | (with_reducible first | exact HB.out | apply below_alloc | apply pw_below_drewN | apply below_drew1) | exact HB.out))) : w.heap.size ≤ gb139)); clear HB; have HB := n0_; have BK139 := n1_; have GW139 := n2_; have GE139 := n3_; clear n0_ n1_ n2_ n3_; clear hb hbox hg; have hcz13_0 : w12.cell? ⟨gb139, 0, none⟩ = some (.int .i64 0) := (blk_cell BK139.out 0).trans rfl; have hcz13_1 : w12.cell? ⟨gb139, 1, none⟩ = some (.int .i64 0) := (blk_cell BK139.out 1).trans rfl; have hcz13_2 : w12.cell? ⟨gb139, 2, none⟩ = some (.int .i64 0) := (blk_cell BK139.out 2).trans rfl; have hcz13_3 : w12.cell? ⟨gb139, 3, none⟩ = some (.int .i64 0) := (blk_cell BK139.out 3).trans rfl; have hfz13_0 := blk_frozen BK139.out 0; have hfz13_1 := blk_frozen BK139.out 1; have hfz13_2 := blk_frozen BK139.out 2; have hfz13_3 := blk_frozen BK139.out 3)))
        go_loopg [4, 5, 6, 7] kj1 (fun kq v4 v5 v6 v7 w' => ∃ (x4_2 : Int) (x5_2 : Bool) (x6_2 : Bool) (x7_2 : Int), v4 = .int .i64 x4_2 ∧ v5 = .bool x5_2 ∧ v6 = .bool x6_2 ∧ v7 = .int .i64 x7_2 ∧ Aside0 (stratumlaw01_CellTells.l0 kq l0 x4_2 x5_2 x6_2 x7_2 t135 t136 t137 t138 = some r) ∧ Aside0 (kq ≤ kj1) ∧ Aside0 (w'.heap[gb139]? = some (.cells #[.int .i64 t135, .int .i64 t136, .int .i64 t137, .int .i64 t138] 23 (0, 0))) ∧ Aside0 (Below w.heap.size w w'))
        case atStart => exact ⟨(0), (false), (false), (0), (by first | rfl | (simp; done) | (simp [*]; done)), (by first | rfl | (simp; done) | (simp [*]; done)), (by first | rfl | (simp; done) | (simp [*]; done)), (by first | rfl | (simp; done) | (simp [*]; done)), H', ⟨Nat.le_refl _⟩, ⟨by (with_reducible repeat (first | refine blk_drewN ?_ _ | refine blk_drew ?_ | refine blk_alloc ?_ _)); refine blk_put (cs := #[.int .i64 t135, .int .i64 t136, .int .i64 t137, .int .i64 0]) ?_ 3 _ rfl; (with_reducible repeat (first | refine blk_drewN ?_ _ | refine blk_drew ?_ | refine blk_alloc ?_ _)); refine blk_put (cs := #[.int .i64 t135, .int .i64 t136, .int .i64 0, .int .i64 0]) ?_ 2 _ rfl; (with_reducible repeat (first | refine blk_drewN ?_ _ | refine blk_drew ?_ | refine blk_alloc ?_ _)); refine blk_put (cs := #[.int .i64 t135, .int .i64 0, .int .i64 0, .int .i64 0]) ?_ 1 _ rfl; (with_reducible repeat (first | refine blk_drewN ?_ _ | refine blk_drew ?_ | refine blk_alloc ?_ _)); refine blk_put (cs := #[.int .i64 0, .int .i64 0, .int .i64 0, .int .i64 0]) ?_ 0 _ rfl; (with_reducible repeat (first | refine blk_drewN ?_ _ | refine blk_drew ?_ | refine blk_alloc ?_ _)); exact BK139.out⟩, ⟨by repeat (first | (with_reducible first | exact HB.out | apply below_alloc | apply pw_below_drewN | apply below_drew1 | refine below_set ?_ GE139.out) | exact HB.out)⟩⟩
        case round =>
          clear H'
          try clear p2
          try clear c3
          try clear c3b0
          try clear c3b1
          try clear c4
          try clear c4b0
          try clear c4b1
          try clear c4b2
          try clear c5
          try clear c7
          try clear hcz13_0
          try clear hcz13_1
          try clear hcz13_2
          try clear hcz13_3
          try clear hfz13_0
          try clear hfz13_1
          try clear hfz13_2
          try clear hfz13_3
          try clear p2
          obtain ⟨x4_2, x5_2, x6_2, x7_2, rfl, rfl, rfl, rfl, HA, HK2, BK139, HB⟩ := hrel
          cases gk with
          | zero => exact absurd HA.out (by simp [stratumlaw01_CellTells.l0])
          | succ k2 =>
            have H := HA.out
            clear HA
            simp only [stratumlaw01_CellTells.l0] at H
            by_cases c14 : x7_2 < (l0.length : Int)
            · rw [if_pos c14] at H
              have c14b0 : decide (x7_2 < (l0.length : Int)) = true := decide_eq_true c14
              clear c14
              by_cases c15 : 0 ≤ x7_2
              · rw [if_pos c15] at H
                have c15b0 : decide (0 ≤ x7_2) = true := decide_eq_true c15
                clear c15
                by_cases c16 : x5_2 = true
                · subst c16
                  have H1 : (if x6_2 = true then (if (rd l0 x7_2) < t137 then (some false) else (if (rd l0 x7_2) > t138 then (some false) else (stratumlaw01_CellTells.l0 k2 l0 (wrap64 (x4_2 + (rd l0 x7_2))) true true (wrap64 (x7_2 + 1)) t135 t136 t137 t138))) else (if (rd l0 x7_2) < t137 then (some false) else (if (rd l0 x7_2) > t138 then (some false) else (stratumlaw01_CellTells.l0 k2 l0 (wrap64 (x4_2 + (rd l0 x7_2))) true ((rd l0 x7_2) == t138) (wrap64 (x7_2 + 1)) t135 t136 t137 t138)))) = some r := by rw [if_pos rfl] at H; exact H
                  clear H
                  have H := H1
                  clear H1
                  by_cases c17 : x6_2 = true
                  · subst c17
                    have H1 : (if (rd l0 x7_2) < t137 then (some false) else (if (rd l0 x7_2) > t138 then (some false) else (stratumlaw01_CellTells.l0 k2 l0 (wrap64 (x4_2 + (rd l0 x7_2))) true true (wrap64 (x7_2 + 1)) t135 t136 t137 t138))) = some r := by rw [if_pos rfl] at H; exact H
                    clear H
                    have H := H1
                    clear H1
                    by_cases c18 : (rd l0 x7_2) < t137
                    · rw [if_pos c18] at H
                      have c18b0 : decide ((rd l0 x7_2) < t137) = true := decide_eq_true c18
                      clear c18
                      obtain rfl := Option.some.inj H
                      have p140 : 0 ≤ (x7_2 : Int) := of_decide_eq_true (by first | (with_reducible assumption) | assumption)
                      have q140 : x7_2 < (l0.length : Int) := of_decide_eq_true (by first | (with_reducible assumption) | assumption)
                      obtain ⟨ad140, e140, hx140_0⟩ := Kd.at_int HR0.out x7_2 p140 q140
                      cases e140
                      replace hx140_0 := (HB.out.cell (World.block_lt_of_cell? w _ hx140_0)).trans hx140_0
                      replace p140 := eq_true p140
                      replace q140 := eq_true q140
                      have p141 : 0 ≤ (x7_2 : Int) := of_decide_eq_true (by first | (with_reducible assumption) | assumption)
                      have q141 : x7_2 < (l0.length : Int) := of_decide_eq_true (by first | (with_reducible assumption) | assumption)
                      obtain ⟨ad141, e141, hx141_0⟩ := Kd.at_int HR0.out x7_2 p141 q141
                      obtain rfl : ad140 = ad141 := (by injection e141)
                      replace hx141_0 := (HB.out.cell (World.block_lt_of_cell? w _ hx141_0)).trans hx141_0
                      replace p141 := eq_true p141
                      replace q141 := eq_true q141
                      have hcz19_0 : wr.cell? ⟨gb139, 0, none⟩ = some (.int .i64 t135) := (blk_cell BK139.out 0).trans rfl
                      have hcz19_1 : wr.cell? ⟨gb139, 1, none⟩ = some (.int .i64 t136) := (blk_cell BK139.out 1).trans rfl
                      have hcz19_2 : wr.cell? ⟨gb139, 2, none⟩ = some (.int .i64 t137) := (blk_cell BK139.out 2).trans rfl
                      have hcz19_3 : wr.cell? ⟨gb139, 3, none⟩ = some (.int .i64 t138) := (blk_cell BK139.out 3).trans rfl
                      have hfz19_0 := blk_frozen BK139.out 0
                      have hfz19_1 := blk_frozen BK139.out 1
                      have hfz19_2 := blk_frozen BK139.out 2
                      have hfz19_3 := blk_frozen BK139.out 3
                      go_wp2
                      repeat (go_quiet (fail); try go_wp2)
                      go_ret
                      exact ⟨by first | rfl | (simp [errW_none, errW_some] <;> rfl) | (simp [*, errW_none, errW_some] <;> rfl), by repeat (first | (with_reducible first | exact HB.out | apply below_alloc | apply pw_below_drewN | apply below_drew1 | refine below_set ?_ GE139.out) | exact HB.out)⟩
                    · rw [if_neg c18] at H
                      have c18b0 : decide ((rd l0 x7_2) < t137) = false := decide_eq_false c18
                      clear c18
                      by_cases c20 : (rd l0 x7_2) > t138
                      · rw [if_pos c20] at H
                        have c20b0 : decide (t138 < (rd l0 x7_2)) = true := decide_eq_true c20
                        clear c20
                        obtain rfl := Option.some.inj H
                        have p140 : 0 ≤ (x7_2 : Int) := of_decide_eq_true (by first | (with_reducible assumption) | assumption)
                        have q140 : x7_2 < (l0.length : Int) := of_decide_eq_true (by first | (with_reducible assumption) | assumption)
                        obtain ⟨ad140, e140, hx140_0⟩ := Kd.at_int HR0.out x7_2 p140 q140
                        cases e140
                        replace hx140_0 := (HB.out.cell (World.block_lt_of_cell? w _ hx140_0)).trans hx140_0
                        replace p140 := eq_true p140
                        replace q140 := eq_true q140
                        have p141 : 0 ≤ (x7_2 : Int) := of_decide_eq_true (by first | (with_reducible assumption) | assumption)
                        have q141 : x7_2 < (l0.length : Int) := of_decide_eq_true (by first | (with_reducible assumption) | assumption)
                        obtain ⟨ad141, e141, hx141_0⟩ := Kd.at_int HR0.out x7_2 p141 q141
                        obtain rfl : ad140 = ad141 := (by injection e141)
                        replace hx141_0 := (HB.out.cell (World.block_lt_of_cell? w _ hx141_0)).trans hx141_0
                        replace p141 := eq_true p141
                        replace q141 := eq_true q141
                        have hcz21_0 : wr.cell? ⟨gb139, 0, none⟩ = some (.int .i64 t135) := (blk_cell BK139.out 0).trans rfl
                        have hcz21_1 : wr.cell? ⟨gb139, 1, none⟩ = some (.int .i64 t136) := (blk_cell BK139.out 1).trans rfl
                        have hcz21_2 : wr.cell? ⟨gb139, 2, none⟩ = some (.int .i64 t137) := (blk_cell BK139.out 2).trans rfl
                        have hcz21_3 : wr.cell? ⟨gb139, 3, none⟩ = some (.int .i64 t138) := (blk_cell BK139.out 3).trans rfl
                        have hfz21_0 := blk_frozen BK139.out 0
                        have hfz21_1 := blk_frozen BK139.out 1
                        have hfz21_2 := blk_frozen BK139.out 2
                        have hfz21_3 := blk_frozen BK139.out 3
                        have p142 : 0 ≤ (x7_2 : Int) := of_decide_eq_true (by first | (with_reducible assumption) | assumption)
                        have q142 : x7_2 < (l0.length : Int) := of_decide_eq_true (by first | (with_reducible assumption) | assumption)
                        obtain ⟨ad142, e142, hx142_0⟩ := Kd.at_int HR0.out x7_2 p142 q142
                        obtain rfl : ad140 = ad142 := (by injection e142)
                        replace hx142_0 := (HB.out.cell (World.block_lt_of_cell? w _ hx142_0)).trans hx142_0
                        replace p142 := eq_true p142
                        replace q142 := eq_true q142
                        go_wp2
                        repeat (go_quiet (fail); try go_wp2)
                        go_ret
                        exact ⟨by first | rfl | (simp [errW_none, errW_some] <;> rfl) | (simp [*, errW_none, errW_some] <;> rfl), by repeat (first | (with_reducible first | exact HB.out | apply below_alloc | apply pw_below_drewN | apply below_drew1 | refine below_set ?_ GE139.out) | exact HB.out)⟩
                      · rw [if_neg c20] at H
                        have c20b0 : decide (t138 < (rd l0 x7_2)) = false := decide_eq_false c20
                        clear c20
                        have H' := Aside0.mk H
                        clear H
                        have p140 : 0 ≤ (x7_2 : Int) := of_decide_eq_true (by first | (with_reducible assumption) | assumption)
                        have q140 : x7_2 < (l0.length : Int) := of_decide_eq_true (by first | (with_reducible assumption) | assumption)
                        obtain ⟨ad140, e140, hx140_0⟩ := Kd.at_int HR0.out x7_2 p140 q140
                        cases e140
                        replace hx140_0 := (HB.out.cell (World.block_lt_of_cell? w _ hx140_0)).trans hx140_0
                        replace p140 := eq_true p140
                        replace q140 := eq_true q140
                        have p141 : 0 ≤ (x7_2 : Int) := of_decide_eq_true (by first | (with_reducible assumption) | assumption)
                        have q141 : x7_2 < (l0.length : Int) := of_decide_eq_true (by first | (with_reducible assumption) | assumption)
                        obtain ⟨ad141, e141, hx141_0⟩ := Kd.at_int HR0.out x7_2 p141 q141
                        obtain rfl : ad140 = ad141 := (by injection e141)
                        replace hx141_0 := (HB.out.cell (World.block_lt_of_cell? w _ hx141_0)).trans hx141_0
                        replace p141 := eq_true p141
                        replace q141 := eq_true q141
                        have hcz22_0 : wr.cell? ⟨gb139, 0, none⟩ = some (.int .i64 t135) := (blk_cell BK139.out 0).trans rfl
                        have hcz22_1 : wr.cell? ⟨gb139, 1, none⟩ = some (.int .i64 t136) := (blk_cell BK139.out 1).trans rfl
                        have hcz22_2 : wr.cell? ⟨gb139, 2, none⟩ = some (.int .i64 t137) := (blk_cell BK139.out 2).trans rfl
                        have hcz22_3 : wr.cell? ⟨gb139, 3, none⟩ = some (.int .i64 t138) := (blk_cell BK139.out 3).trans rfl
                        have hfz22_0 := blk_frozen BK139.out 0
                        have hfz22_1 := blk_frozen BK139.out 1
                        have hfz22_2 := blk_frozen BK139.out 2
                        have hfz22_3 := blk_frozen BK139.out 3
                        have p142 : 0 ≤ (x7_2 : Int) := of_decide_eq_true (by first | (with_reducible assumption) | assumption)
                        have q142 : x7_2 < (l0.length : Int) := of_decide_eq_true (by first | (with_reducible assumption) | assumption)
                        obtain ⟨ad142, e142, hx142_0⟩ := Kd.at_int HR0.out x7_2 p142 q142
                        obtain rfl : ad140 = ad142 := (by injection e142)
                        replace hx142_0 := (HB.out.cell (World.block_lt_of_cell? w _ hx142_0)).trans hx142_0
                        replace p142 := eq_true p142
                        replace q142 := eq_true q142
                        go_wp2
                        repeat (go_quiet (fail); try go_wp2)
                        go_roundg k2
                        case measure => have := HJ1.out; have := HK2.out; omega
                        case rel => exact ⟨(wrap64 (x4_2 + (rd l0 x7_2))), (true), (true), (wrap64 (x7_2 + 1)), (by first | rfl | (simp; done) | (simp [*]; done)), (by first | rfl | (simp; done) | (simp [*]; done)), (by first | rfl | (simp; done) | (simp [*]; done)), (by first | rfl | (simp; done) | (simp [*]; done)), H', ⟨by have := HJ1.out; have := HK2.out; omega⟩, ⟨by (with_reducible repeat (first | refine blk_drewN ?_ _ | refine blk_drew ?_ | refine blk_alloc ?_ _)); exact BK139.out⟩, ⟨by repeat (first | (with_reducible first | exact HB.out | apply below_alloc | apply pw_below_drewN | apply below_drew1 | refine below_set ?_ GE139.out) | exact HB.out)⟩⟩
                  · replace c17 := Bool.eq_false_iff.mpr c17
                    subst c17
                    have H1 : (if (rd l0 x7_2) < t137 then (some false) else (if (rd l0 x7_2) > t138 then (some false) else (stratumlaw01_CellTells.l0 k2 l0 (wrap64 (x4_2 + (rd l0 x7_2))) true ((rd l0 x7_2) == t138) (wrap64 (x7_2 + 1)) t135 t136 t137 t138))) = some r := by rw [if_neg (show ¬ (false = true) by decide)] at H; exact H
                    clear H
                    have H := H1
                    clear H1
                    by_cases c23 : (rd l0 x7_2) < t137
                    · rw [if_pos c23] at H
                      have c23b0 : decide ((rd l0 x7_2) < t137) = true := decide_eq_true c23
                      clear c23
                      obtain rfl := Option.some.inj H
                      have p140 : 0 ≤ (x7_2 : Int) := of_decide_eq_true (by first | (with_reducible assumption) | assumption)
                      have q140 : x7_2 < (l0.length : Int) := of_decide_eq_true (by first | (with_reducible assumption) | assumption)
                      obtain ⟨ad140, e140, hx140_0⟩ := Kd.at_int HR0.out x7_2 p140 q140
                      cases e140
                      replace hx140_0 := (HB.out.cell (World.block_lt_of_cell? w _ hx140_0)).trans hx140_0
                      replace p140 := eq_true p140
                      replace q140 := eq_true q140
                      have p143 : 0 ≤ (x7_2 : Int) := of_decide_eq_true (by first | (with_reducible assumption) | assumption)
                      have q143 : x7_2 < (l0.length : Int) := of_decide_eq_true (by first | (with_reducible assumption) | assumption)
                      obtain ⟨ad143, e143, hx143_0⟩ := Kd.at_int HR0.out x7_2 p143 q143
                      obtain rfl : ad140 = ad143 := (by injection e143)
                      replace hx143_0 := (HB.out.cell (World.block_lt_of_cell? w _ hx143_0)).trans hx143_0
                      replace p143 := eq_true p143
                      replace q143 := eq_true q143
                      have hcz24_0 : wr.cell? ⟨gb139, 0, none⟩ = some (.int .i64 t135) := (blk_cell BK139.out 0).trans rfl
                      have hcz24_1 : wr.cell? ⟨gb139, 1, none⟩ = some (.int .i64 t136) := (blk_cell BK139.out 1).trans rfl
                      have hcz24_2 : wr.cell? ⟨gb139, 2, none⟩ = some (.int .i64 t137) := (blk_cell BK139.out 2).trans rfl
                      have hcz24_3 : wr.cell? ⟨gb139, 3, none⟩ = some (.int .i64 t138) := (blk_cell BK139.out 3).trans rfl
                      have hfz24_0 := blk_frozen BK139.out 0
                      have hfz24_1 := blk_frozen BK139.out 1
                      have hfz24_2 := blk_frozen BK139.out 2
                      have hfz24_3 := blk_frozen BK139.out 3
                      have p144 : 0 ≤ (x7_2 : Int) := of_decide_eq_true (by first | (with_reducible assumption) | assumption)
                      have q144 : x7_2 < (l0.length : Int) := of_decide_eq_true (by first | (with_reducible assumption) | assumption)
                      obtain ⟨ad144, e144, hx144_0⟩ := Kd.at_int HR0.out x7_2 p144 q144
                      obtain rfl : ad140 = ad144 := (by injection e144)
                      replace hx144_0 := (HB.out.cell (World.block_lt_of_cell? w _ hx144_0)).trans hx144_0
                      replace p144 := eq_true p144
                      replace q144 := eq_true q144
                      go_wp2
                      repeat (go_quiet (fail); try go_wp2)
                      go_ret
                      exact ⟨by first | rfl | (simp [errW_none, errW_some] <;> rfl) | (simp [*, errW_none, errW_some] <;> rfl), by repeat (first | (with_reducible first | exact HB.out | apply below_alloc | apply pw_below_drewN | apply below_drew1 | refine below_set ?_ GE139.out) | exact HB.out)⟩
                    · rw [if_neg c23] at H
                      have c23b0 : decide ((rd l0 x7_2) < t137) = false := decide_eq_false c23
                      clear c23
                      by_cases c25 : (rd l0 x7_2) > t138
                      · rw [if_pos c25] at H
                        have c25b0 : decide (t138 < (rd l0 x7_2)) = true := decide_eq_true c25
                        clear c25
                        obtain rfl := Option.some.inj H
                        have p140 : 0 ≤ (x7_2 : Int) := of_decide_eq_true (by first | (with_reducible assumption) | assumption)
                        have q140 : x7_2 < (l0.length : Int) := of_decide_eq_true (by first | (with_reducible assumption) | assumption)
                        obtain ⟨ad140, e140, hx140_0⟩ := Kd.at_int HR0.out x7_2 p140 q140
                        cases e140
                        replace hx140_0 := (HB.out.cell (World.block_lt_of_cell? w _ hx140_0)).trans hx140_0
                        replace p140 := eq_true p140
                        replace q140 := eq_true q140
                        have p143 : 0 ≤ (x7_2 : Int) := of_decide_eq_true (by first | (with_reducible assumption) | assumption)
                        have q143 : x7_2 < (l0.length : Int) := of_decide_eq_true (by first | (with_reducible assumption) | assumption)
                        obtain ⟨ad143, e143, hx143_0⟩ := Kd.at_int HR0.out x7_2 p143 q143
                        obtain rfl : ad140 = ad143 := (by injection e143)
                        replace hx143_0 := (HB.out.cell (World.block_lt_of_cell? w _ hx143_0)).trans hx143_0
                        replace p143 := eq_true p143
                        replace q143 := eq_true q143
                        have hcz26_0 : wr.cell? ⟨gb139, 0, none⟩ = some (.int .i64 t135) := (blk_cell BK139.out 0).trans rfl
                        have hcz26_1 : wr.cell? ⟨gb139, 1, none⟩ = some (.int .i64 t136) := (blk_cell BK139.out 1).trans rfl
                        have hcz26_2 : wr.cell? ⟨gb139, 2, none⟩ = some (.int .i64 t137) := (blk_cell BK139.out 2).trans rfl
                        have hcz26_3 : wr.cell? ⟨gb139, 3, none⟩ = some (.int .i64 t138) := (blk_cell BK139.out 3).trans rfl
                        have hfz26_0 := blk_frozen BK139.out 0
                        have hfz26_1 := blk_frozen BK139.out 1
                        have hfz26_2 := blk_frozen BK139.out 2
                        have hfz26_3 := blk_frozen BK139.out 3
                        have p144 : 0 ≤ (x7_2 : Int) := of_decide_eq_true (by first | (with_reducible assumption) | assumption)
                        have q144 : x7_2 < (l0.length : Int) := of_decide_eq_true (by first | (with_reducible assumption) | assumption)
                        obtain ⟨ad144, e144, hx144_0⟩ := Kd.at_int HR0.out x7_2 p144 q144
                        obtain rfl : ad140 = ad144 := (by injection e144)
                        replace hx144_0 := (HB.out.cell (World.block_lt_of_cell? w _ hx144_0)).trans hx144_0
                        replace p144 := eq_true p144
                        replace q144 := eq_true q144
                        have p145 : 0 ≤ (x7_2 : Int) := of_decide_eq_true (by first | (with_reducible assumption) | assumption)
                        have q145 : x7_2 < (l0.length : Int) := of_decide_eq_true (by first | (with_reducible assumption) | assumption)
                        obtain ⟨ad145, e145, hx145_0⟩ := Kd.at_int HR0.out x7_2 p145 q145
                        obtain rfl : ad140 = ad145 := (by injection e145)
                        replace hx145_0 := (HB.out.cell (World.block_lt_of_cell? w _ hx145_0)).trans hx145_0
                        replace p145 := eq_true p145
                        replace q145 := eq_true q145
                        go_wp2
                        repeat (go_quiet (fail); try go_wp2)
                        go_ret
                        exact ⟨by first | rfl | (simp [errW_none, errW_some] <;> rfl) | (simp [*, errW_none, errW_some] <;> rfl), by repeat (first | (with_reducible first | exact HB.out | apply below_alloc | apply pw_below_drewN | apply below_drew1 | refine below_set ?_ GE139.out) | exact HB.out)⟩
                      · rw [if_neg c25] at H
                        have c25b0 : decide (t138 < (rd l0 x7_2)) = false := decide_eq_false c25
                        clear c25
                        have H' := Aside0.mk H
                        clear H
                        have p140 : 0 ≤ (x7_2 : Int) := of_decide_eq_true (by first | (with_reducible assumption) | assumption)
                        have q140 : x7_2 < (l0.length : Int) := of_decide_eq_true (by first | (with_reducible assumption) | assumption)
                        obtain ⟨ad140, e140, hx140_0⟩ := Kd.at_int HR0.out x7_2 p140 q140
                        cases e140
                        replace hx140_0 := (HB.out.cell (World.block_lt_of_cell? w _ hx140_0)).trans hx140_0
                        replace p140 := eq_true p140
                        replace q140 := eq_true q140
                        have p143 : 0 ≤ (x7_2 : Int) := of_decide_eq_true (by first | (with_reducible assumption) | assumption)
                        have q143 : x7_2 < (l0.length : Int) := of_decide_eq_true (by first | (with_reducible assumption) | assumption)
                        obtain ⟨ad143, e143, hx143_0⟩ := Kd.at_int HR0.out x7_2 p143 q143
                        obtain rfl : ad140 = ad143 := (by injection e143)
                        replace hx143_0 := (HB.out.cell (World.block_lt_of_cell? w _ hx143_0)).trans hx143_0
                        replace p143 := eq_true p143
                        replace q143 := eq_true q143
                        have hcz27_0 : wr.cell? ⟨gb139, 0, none⟩ = some (.int .i64 t135) := (blk_cell BK139.out 0).trans rfl
                        have hcz27_1 : wr.cell? ⟨gb139, 1, none⟩ = some (.int .i64 t136) := (blk_cell BK139.out 1).trans rfl
                        have hcz27_2 : wr.cell? ⟨gb139, 2, none⟩ = some (.int .i64 t137) := (blk_cell BK139.out 2).trans rfl
                        have hcz27_3 : wr.cell? ⟨gb139, 3, none⟩ = some (.int .i64 t138) := (blk_cell BK139.out 3).trans rfl
                        have hfz27_0 := blk_frozen BK139.out 0
                        have hfz27_1 := blk_frozen BK139.out 1
                        have hfz27_2 := blk_frozen BK139.out 2
                        have hfz27_3 := blk_frozen BK139.out 3
                        have p144 : 0 ≤ (x7_2 : Int) := of_decide_eq_true (by first | (with_reducible assumption) | assumption)
                        have q144 : x7_2 < (l0.length : Int) := of_decide_eq_true (by first | (with_reducible assumption) | assumption)
                        obtain ⟨ad144, e144, hx144_0⟩ := Kd.at_int HR0.out x7_2 p144 q144
                        obtain rfl : ad140 = ad144 := (by injection e144)
                        replace hx144_0 := (HB.out.cell (World.block_lt_of_cell? w _ hx144_0)).trans hx144_0
                        replace p144 := eq_true p144
                        replace q144 := eq_true q144
                        have p145 : 0 ≤ (x7_2 : Int) := of_decide_eq_true (by first | (with_reducible assumption) | assumption)
                        have q145 : x7_2 < (l0.length : Int) := of_decide_eq_true (by first | (with_reducible assumption) | assumption)
                        obtain ⟨ad145, e145, hx145_0⟩ := Kd.at_int HR0.out x7_2 p145 q145
                        obtain rfl : ad140 = ad145 := (by injection e145)
                        replace hx145_0 := (HB.out.cell (World.block_lt_of_cell? w _ hx145_0)).trans hx145_0
                        replace p145 := eq_true p145
                        replace q145 := eq_true q145
                        go_wp2
                        repeat (go_quiet (fail); try go_wp2)
                        go_roundg k2
                        case measure => have := HJ1.out; have := HK2.out; omega
                        case rel => exact ⟨(wrap64 (x4_2 + (rd l0 x7_2))), (true), (((rd l0 x7_2) == t138)), (wrap64 (x7_2 + 1)), (by first | rfl | (simp; done) | (simp [*]; done)), (by first | rfl | (simp; done) | (simp [*]; done)), (by first | rfl | (simp; done) | (simp [*]; done)), (by first | rfl | (simp; done) | (simp [*]; done)), H', ⟨by have := HJ1.out; have := HK2.out; omega⟩, ⟨by (with_reducible repeat (first | refine blk_drewN ?_ _ | refine blk_drew ?_ | refine blk_alloc ?_ _)); exact BK139.out⟩, ⟨by repeat (first | (with_reducible first | exact HB.out | apply below_alloc | apply pw_below_drewN | apply below_drew1 | refine below_set ?_ GE139.out) | exact HB.out)⟩⟩
                · replace c16 := Bool.eq_false_iff.mpr c16
                  subst c16
                  have H1 : (if x6_2 = true then (if (rd l0 x7_2) < t137 then (some false) else (if (rd l0 x7_2) > t138 then (some false) else (stratumlaw01_CellTells.l0 k2 l0 (wrap64 (x4_2 + (rd l0 x7_2))) ((rd l0 x7_2) == t137) true (wrap64 (x7_2 + 1)) t135 t136 t137 t138))) else (if (rd l0 x7_2) < t137 then (some false) else (if (rd l0 x7_2) > t138 then (some false) else (stratumlaw01_CellTells.l0 k2 l0 (wrap64 (x4_2 + (rd l0 x7_2))) ((rd l0 x7_2) == t137) ((rd l0 x7_2) == t138) (wrap64 (x7_2 + 1)) t135 t136 t137 t138)))) = some r := by rw [if_neg (show ¬ (false = true) by decide)] at H; exact H
                  clear H
                  have H := H1
                  clear H1
                  by_cases c28 : x6_2 = true
                  · subst c28
                    have H1 : (if (rd l0 x7_2) < t137 then (some false) else (if (rd l0 x7_2) > t138 then (some false) else (stratumlaw01_CellTells.l0 k2 l0 (wrap64 (x4_2 + (rd l0 x7_2))) ((rd l0 x7_2) == t137) true (wrap64 (x7_2 + 1)) t135 t136 t137 t138))) = some r := by rw [if_pos rfl] at H; exact H
                    clear H
                    have H := H1
                    clear H1
                    by_cases c29 : (rd l0 x7_2) < t137
                    · rw [if_pos c29] at H
                      have c29b0 : decide ((rd l0 x7_2) < t137) = true := decide_eq_true c29
                      clear c29
                      obtain rfl := Option.some.inj H
                      have p140 : 0 ≤ (x7_2 : Int) := of_decide_eq_true (by first | (with_reducible assumption) | assumption)
                      have q140 : x7_2 < (l0.length : Int) := of_decide_eq_true (by first | (with_reducible assumption) | assumption)
                      obtain ⟨ad140, e140, hx140_0⟩ := Kd.at_int HR0.out x7_2 p140 q140
                      cases e140
                      replace hx140_0 := (HB.out.cell (World.block_lt_of_cell? w _ hx140_0)).trans hx140_0
                      replace p140 := eq_true p140
                      replace q140 := eq_true q140
                      have p146 : 0 ≤ (x7_2 : Int) := of_decide_eq_true (by first | (with_reducible assumption) | assumption)
                      have q146 : x7_2 < (l0.length : Int) := of_decide_eq_true (by first | (with_reducible assumption) | assumption)
                      obtain ⟨ad146, e146, hx146_0⟩ := Kd.at_int HR0.out x7_2 p146 q146
                      obtain rfl : ad140 = ad146 := (by injection e146)
                      replace hx146_0 := (HB.out.cell (World.block_lt_of_cell? w _ hx146_0)).trans hx146_0
                      replace p146 := eq_true p146
                      replace q146 := eq_true q146
                      have hcz30_0 : wr.cell? ⟨gb139, 0, none⟩ = some (.int .i64 t135) := (blk_cell BK139.out 0).trans rfl
                      have hcz30_1 : wr.cell? ⟨gb139, 1, none⟩ = some (.int .i64 t136) := (blk_cell BK139.out 1).trans rfl
                      have hcz30_2 : wr.cell? ⟨gb139, 2, none⟩ = some (.int .i64 t137) := (blk_cell BK139.out 2).trans rfl
                      have hcz30_3 : wr.cell? ⟨gb139, 3, none⟩ = some (.int .i64 t138) := (blk_cell BK139.out 3).trans rfl
                      have hfz30_0 := blk_frozen BK139.out 0
                      have hfz30_1 := blk_frozen BK139.out 1
                      have hfz30_2 := blk_frozen BK139.out 2
                      have hfz30_3 := blk_frozen BK139.out 3
                      have p147 : 0 ≤ (x7_2 : Int) := of_decide_eq_true (by first | (with_reducible assumption) | assumption)
                      have q147 : x7_2 < (l0.length : Int) := of_decide_eq_true (by first | (with_reducible assumption) | assumption)
                      obtain ⟨ad147, e147, hx147_0⟩ := Kd.at_int HR0.out x7_2 p147 q147
                      obtain rfl : ad140 = ad147 := (by injection e147)
                      replace hx147_0 := (HB.out.cell (World.block_lt_of_cell? w _ hx147_0)).trans hx147_0
                      replace p147 := eq_true p147
                      replace q147 := eq_true q147
                      go_wp2
                      repeat (go_quiet (fail); try go_wp2)
                      go_ret
                      exact ⟨by first | rfl | (simp [errW_none, errW_some] <;> rfl) | (simp [*, errW_none, errW_some] <;> rfl), by repeat (first | (with_reducible first | exact HB.out | apply below_alloc | apply pw_below_drewN | apply below_drew1 | refine below_set ?_ GE139.out) | exact HB.out)⟩
                    · rw [if_neg c29] at H
                      have c29b0 : decide ((rd l0 x7_2) < t137) = false := decide_eq_false c29
                      clear c29
                      by_cases c31 : (rd l0 x7_2) > t138
                      · rw [if_pos c31] at H
                        have c31b0 : decide (t138 < (rd l0 x7_2)) = true := decide_eq_true c31
                        clear c31
                        obtain rfl := Option.some.inj H
                        have p140 : 0 ≤ (x7_2 : Int) := of_decide_eq_true (by first | (with_reducible assumption) | assumption)
                        have q140 : x7_2 < (l0.length : Int) := of_decide_eq_true (by first | (with_reducible assumption) | assumption)
                        obtain ⟨ad140, e140, hx140_0⟩ := Kd.at_int HR0.out x7_2 p140 q140
                        cases e140
                        replace hx140_0 := (HB.out.cell (World.block_lt_of_cell? w _ hx140_0)).trans hx140_0
                        replace p140 := eq_true p140
                        replace q140 := eq_true q140
                        have p146 : 0 ≤ (x7_2 : Int) := of_decide_eq_true (by first | (with_reducible assumption) | assumption)
                        have q146 : x7_2 < (l0.length : Int) := of_decide_eq_true (by first | (with_reducible assumption) | assumption)
                        obtain ⟨ad146, e146, hx146_0⟩ := Kd.at_int HR0.out x7_2 p146 q146
                        obtain rfl : ad140 = ad146 := (by injection e146)
                        replace hx146_0 := (HB.out.cell (World.block_lt_of_cell? w _ hx146_0)).trans hx146_0
                        replace p146 := eq_true p146
                        replace q146 := eq_true q146
                        have hcz32_0 : wr.cell? ⟨gb139, 0, none⟩ = some (.int .i64 t135) := (blk_cell BK139.out 0).trans rfl
                        have hcz32_1 : wr.cell? ⟨gb139, 1, none⟩ = some (.int .i64 t136) := (blk_cell BK139.out 1).trans rfl
                        have hcz32_2 : wr.cell? ⟨gb139, 2, none⟩ = some (.int .i64 t137) := (blk_cell BK139.out 2).trans rfl
                        have hcz32_3 : wr.cell? ⟨gb139, 3, none⟩ = some (.int .i64 t138) := (blk_cell BK139.out 3).trans rfl
                        have hfz32_0 := blk_frozen BK139.out 0
                        have hfz32_1 := blk_frozen BK139.out 1
                        have hfz32_2 := blk_frozen BK139.out 2
                        have hfz32_3 := blk_frozen BK139.out 3
                        have p147 : 0 ≤ (x7_2 : Int) := of_decide_eq_true (by first | (with_reducible assumption) | assumption)
                        have q147 : x7_2 < (l0.length : Int) := of_decide_eq_true (by first | (with_reducible assumption) | assumption)
                        obtain ⟨ad147, e147, hx147_0⟩ := Kd.at_int HR0.out x7_2 p147 q147
                        obtain rfl : ad140 = ad147 := (by injection e147)
                        replace hx147_0 := (HB.out.cell (World.block_lt_of_cell? w _ hx147_0)).trans hx147_0
                        replace p147 := eq_true p147
                        replace q147 := eq_true q147
                        have p148 : 0 ≤ (x7_2 : Int) := of_decide_eq_true (by first | (with_reducible assumption) | assumption)
                        have q148 : x7_2 < (l0.length : Int) := of_decide_eq_true (by first | (with_reducible assumption) | assumption)
                        obtain ⟨ad148, e148, hx148_0⟩ := Kd.at_int HR0.out x7_2 p148 q148
                        obtain rfl : ad140 = ad148 := (by injection e148)
                        replace hx148_0 := (HB.out.cell (World.block_lt_of_cell? w _ hx148_0)).trans hx148_0
                        replace p148 := eq_true p148
                        replace q148 := eq_true q148
                        go_wp2
                        repeat (go_quiet (fail); try go_wp2)
                        go_ret
                        exact ⟨by first | rfl | (simp [errW_none, errW_some] <;> rfl) | (simp [*, errW_none, errW_some] <;> rfl), by repeat (first | (with_reducible first | exact HB.out | apply below_alloc | apply pw_below_drewN | apply below_drew1 | refine below_set ?_ GE139.out) | exact HB.out)⟩
                      · rw [if_neg c31] at H
                        have c31b0 : decide (t138 < (rd l0 x7_2)) = false := decide_eq_false c31
                        clear c31
                        have H' := Aside0.mk H
                        clear H
                        have p140 : 0 ≤ (x7_2 : Int) := of_decide_eq_true (by first | (with_reducible assumption) | assumption)
                        have q140 : x7_2 < (l0.length : Int) := of_decide_eq_true (by first | (with_reducible assumption) | assumption)
                        obtain ⟨ad140, e140, hx140_0⟩ := Kd.at_int HR0.out x7_2 p140 q140
                        cases e140
                        replace hx140_0 := (HB.out.cell (World.block_lt_of_cell? w _ hx140_0)).trans hx140_0
                        replace p140 := eq_true p140
                        replace q140 := eq_true q140
                        have p146 : 0 ≤ (x7_2 : Int) := of_decide_eq_true (by first | (with_reducible assumption) | assumption)
                        have q146 : x7_2 < (l0.length : Int) := of_decide_eq_true (by first | (with_reducible assumption) | assumption)
                        obtain ⟨ad146, e146, hx146_0⟩ := Kd.at_int HR0.out x7_2 p146 q146
                        obtain rfl : ad140 = ad146 := (by injection e146)
                        replace hx146_0 := (HB.out.cell (World.block_lt_of_cell? w _ hx146_0)).trans hx146_0
                        replace p146 := eq_true p146
                        replace q146 := eq_true q146
                        have hcz33_0 : wr.cell? ⟨gb139, 0, none⟩ = some (.int .i64 t135) := (blk_cell BK139.out 0).trans rfl
                        have hcz33_1 : wr.cell? ⟨gb139, 1, none⟩ = some (.int .i64 t136) := (blk_cell BK139.out 1).trans rfl
                        have hcz33_2 : wr.cell? ⟨gb139, 2, none⟩ = some (.int .i64 t137) := (blk_cell BK139.out 2).trans rfl
                        have hcz33_3 : wr.cell? ⟨gb139, 3, none⟩ = some (.int .i64 t138) := (blk_cell BK139.out 3).trans rfl
                        have hfz33_0 := blk_frozen BK139.out 0
                        have hfz33_1 := blk_frozen BK139.out 1
                        have hfz33_2 := blk_frozen BK139.out 2
                        have hfz33_3 := blk_frozen BK139.out 3
                        have p147 : 0 ≤ (x7_2 : Int) := of_decide_eq_true (by first | (with_reducible assumption) | assumption)
                        have q147 : x7_2 < (l0.length : Int) := of_decide_eq_true (by first | (with_reducible assumption) | assumption)
                        obtain ⟨ad147, e147, hx147_0⟩ := Kd.at_int HR0.out x7_2 p147 q147
                        obtain rfl : ad140 = ad147 := (by injection e147)
                        replace hx147_0 := (HB.out.cell (World.block_lt_of_cell? w _ hx147_0)).trans hx147_0
                        replace p147 := eq_true p147
                        replace q147 := eq_true q147
                        have p148 : 0 ≤ (x7_2 : Int) := of_decide_eq_true (by first | (with_reducible assumption) | assumption)
                        have q148 : x7_2 < (l0.length : Int) := of_decide_eq_true (by first | (with_reducible assumption) | assumption)
                        obtain ⟨ad148, e148, hx148_0⟩ := Kd.at_int HR0.out x7_2 p148 q148
                        obtain rfl : ad140 = ad148 := (by injection e148)
                        replace hx148_0 := (HB.out.cell (World.block_lt_of_cell? w _ hx148_0)).trans hx148_0
                        replace p148 := eq_true p148
                        replace q148 := eq_true q148
                        go_wp2
                        repeat (go_quiet (fail); try go_wp2)
                        go_roundg k2
                        case measure => have := HJ1.out; have := HK2.out; omega
                        case rel => exact ⟨(wrap64 (x4_2 + (rd l0 x7_2))), (((rd l0 x7_2) == t137)), (true), (wrap64 (x7_2 + 1)), (by first | rfl | (simp; done) | (simp [*]; done)), (by first | rfl | (simp; done) | (simp [*]; done)), (by first | rfl | (simp; done) | (simp [*]; done)), (by first | rfl | (simp; done) | (simp [*]; done)), H', ⟨by have := HJ1.out; have := HK2.out; omega⟩, ⟨by (with_reducible repeat (first | refine blk_drewN ?_ _ | refine blk_drew ?_ | refine blk_alloc ?_ _)); exact BK139.out⟩, ⟨by repeat (first | (with_reducible first | exact HB.out | apply below_alloc | apply pw_below_drewN | apply below_drew1 | refine below_set ?_ GE139.out) | exact HB.out)⟩⟩
                  · replace c28 := Bool.eq_false_iff.mpr c28
                    subst c28
                    have H1 : (if (rd l0 x7_2) < t137 then (some false) else (if (rd l0 x7_2) > t138 then (some false) else (stratumlaw01_CellTells.l0 k2 l0 (wrap64 (x4_2 + (rd l0 x7_2))) ((rd l0 x7_2) == t137) ((rd l0 x7_2) == t138) (wrap64 (x7_2 + 1)) t135 t136 t137 t138))) = some r := by rw [if_neg (show ¬ (false = true) by decide)] at H; exact H
                    clear H
                    have H := H1
                    clear H1
                    by_cases c34 : (rd l0 x7_2) < t137
                    · rw [if_pos c34] at H
                      have c34b0 : decide ((rd l0 x7_2) < t137) = true := decide_eq_true c34
                      clear c34
                      obtain rfl := Option.some.inj H
                      have p140 : 0 ≤ (x7_2 : Int) := of_decide_eq_true (by first | (with_reducible assumption) | assumption)
                      have q140 : x7_2 < (l0.length : Int) := of_decide_eq_true (by first | (with_reducible assumption) | assumption)
                      obtain ⟨ad140, e140, hx140_0⟩ := Kd.at_int HR0.out x7_2 p140 q140
                      cases e140
                      replace hx140_0 := (HB.out.cell (World.block_lt_of_cell? w _ hx140_0)).trans hx140_0
                      replace p140 := eq_true p140
                      replace q140 := eq_true q140
                      have p146 : 0 ≤ (x7_2 : Int) := of_decide_eq_true (by first | (with_reducible assumption) | assumption)
                      have q146 : x7_2 < (l0.length : Int) := of_decide_eq_true (by first | (with_reducible assumption) | assumption)
                      obtain ⟨ad146, e146, hx146_0⟩ := Kd.at_int HR0.out x7_2 p146 q146
                      obtain rfl : ad140 = ad146 := (by injection e146)
                      replace hx146_0 := (HB.out.cell (World.block_lt_of_cell? w _ hx146_0)).trans hx146_0
                      replace p146 := eq_true p146
                      replace q146 := eq_true q146
                      have hcz35_0 : wr.cell? ⟨gb139, 0, none⟩ = some (.int .i64 t135) := (blk_cell BK139.out 0).trans rfl
                      have hcz35_1 : wr.cell? ⟨gb139, 1, none⟩ = some (.int .i64 t136) := (blk_cell BK139.out 1).trans rfl
                      have hcz35_2 : wr.cell? ⟨gb139, 2, none⟩ = some (.int .i64 t137) := (blk_cell BK139.out 2).trans rfl
                      have hcz35_3 : wr.cell? ⟨gb139, 3, none⟩ = some (.int .i64 t138) := (blk_cell BK139.out 3).trans rfl
                      have hfz35_0 := blk_frozen BK139.out 0
                      have hfz35_1 := blk_frozen BK139.out 1
                      have hfz35_2 := blk_frozen BK139.out 2
                      have hfz35_3 := blk_frozen BK139.out 3
                      have p149 : 0 ≤ (x7_2 : Int) := of_decide_eq_true (by first | (with_reducible assumption) | assumption)
                      have q149 : x7_2 < (l0.length : Int) := of_decide_eq_true (by first | (with_reducible assumption) | assumption)
                      obtain ⟨ad149, e149, hx149_0⟩ := Kd.at_int HR0.out x7_2 p149 q149
                      obtain rfl : ad140 = ad149 := (by injection e149)
                      replace hx149_0 := (HB.out.cell (World.block_lt_of_cell? w _ hx149_0)).trans hx149_0
                      replace p149 := eq_true p149
                      replace q149 := eq_true q149
                      have p150 : 0 ≤ (x7_2 : Int) := of_decide_eq_true (by first | (with_reducible assumption) | assumption)
                      have q150 : x7_2 < (l0.length : Int) := of_decide_eq_true (by first | (with_reducible assumption) | assumption)
                      obtain ⟨ad150, e150, hx150_0⟩ := Kd.at_int HR0.out x7_2 p150 q150
                      obtain rfl : ad140 = ad150 := (by injection e150)
                      replace hx150_0 := (HB.out.cell (World.block_lt_of_cell? w _ hx150_0)).trans hx150_0
                      replace p150 := eq_true p150
                      replace q150 := eq_true q150
                      go_wp2
                      repeat (go_quiet (fail); try go_wp2)
                      go_ret
                      exact ⟨by first | rfl | (simp [errW_none, errW_some] <;> rfl) | (simp [*, errW_none, errW_some] <;> rfl), by repeat (first | (with_reducible first | exact HB.out | apply below_alloc | apply pw_below_drewN | apply below_drew1 | refine below_set ?_ GE139.out) | exact HB.out)⟩
                    · rw [if_neg c34] at H
                      have c34b0 : decide ((rd l0 x7_2) < t137) = false := decide_eq_false c34
                      clear c34
                      by_cases c36 : (rd l0 x7_2) > t138
                      · rw [if_pos c36] at H
                        have c36b0 : decide (t138 < (rd l0 x7_2)) = true := decide_eq_true c36
                        clear c36
                        obtain rfl := Option.some.inj H
                        have p140 : 0 ≤ (x7_2 : Int) := of_decide_eq_true (by first | (with_reducible assumption) | assumption)
                        have q140 : x7_2 < (l0.length : Int) := of_decide_eq_true (by first | (with_reducible assumption) | assumption)
                        obtain ⟨ad140, e140, hx140_0⟩ := Kd.at_int HR0.out x7_2 p140 q140
                        cases e140
                        replace hx140_0 := (HB.out.cell (World.block_lt_of_cell? w _ hx140_0)).trans hx140_0
                        replace p140 := eq_true p140
                        replace q140 := eq_true q140
                        have p146 : 0 ≤ (x7_2 : Int) := of_decide_eq_true (by first | (with_reducible assumption) | assumption)
                        have q146 : x7_2 < (l0.length : Int) := of_decide_eq_true (by first | (with_reducible assumption) | assumption)
                        obtain ⟨ad146, e146, hx146_0⟩ := Kd.at_int HR0.out x7_2 p146 q146
                        obtain rfl : ad140 = ad146 := (by injection e146)
                        replace hx146_0 := (HB.out.cell (World.block_lt_of_cell? w _ hx146_0)).trans hx146_0
                        replace p146 := eq_true p146
                        replace q146 := eq_true q146
                        have hcz37_0 : wr.cell? ⟨gb139, 0, none⟩ = some (.int .i64 t135) := (blk_cell BK139.out 0).trans rfl
                        have hcz37_1 : wr.cell? ⟨gb139, 1, none⟩ = some (.int .i64 t136) := (blk_cell BK139.out 1).trans rfl
                        have hcz37_2 : wr.cell? ⟨gb139, 2, none⟩ = some (.int .i64 t137) := (blk_cell BK139.out 2).trans rfl
                        have hcz37_3 : wr.cell? ⟨gb139, 3, none⟩ = some (.int .i64 t138) := (blk_cell BK139.out 3).trans rfl
                        have hfz37_0 := blk_frozen BK139.out 0
                        have hfz37_1 := blk_frozen BK139.out 1
                        have hfz37_2 := blk_frozen BK139.out 2
                        have hfz37_3 := blk_frozen BK139.out 3
                        have p149 : 0 ≤ (x7_2 : Int) := of_decide_eq_true (by first | (with_reducible assumption) | assumption)
                        have q149 : x7_2 < (l0.length : Int) := of_decide_eq_true (by first | (with_reducible assumption) | assumption)
                        obtain ⟨ad149, e149, hx149_0⟩ := Kd.at_int HR0.out x7_2 p149 q149
                        obtain rfl : ad140 = ad149 := (by injection e149)
                        replace hx149_0 := (HB.out.cell (World.block_lt_of_cell? w _ hx149_0)).trans hx149_0
                        replace p149 := eq_true p149
                        replace q149 := eq_true q149
                        have p150 : 0 ≤ (x7_2 : Int) := of_decide_eq_true (by first | (with_reducible assumption) | assumption)
                        have q150 : x7_2 < (l0.length : Int) := of_decide_eq_true (by first | (with_reducible assumption) | assumption)
                        obtain ⟨ad150, e150, hx150_0⟩ := Kd.at_int HR0.out x7_2 p150 q150
                        obtain rfl : ad140 = ad150 := (by injection e150)
                        replace hx150_0 := (HB.out.cell (World.block_lt_of_cell? w _ hx150_0)).trans hx150_0
                        replace p150 := eq_true p150
                        replace q150 := eq_true q150
                        have p151 : 0 ≤ (x7_2 : Int) := of_decide_eq_true (by first | (with_reducible assumption) | assumption)
                        have q151 : x7_2 < (l0.length : Int) := of_decide_eq_true (by first | (with_reducible assumption) | assumption)
                        obtain ⟨ad151, e151, hx151_0⟩ := Kd.at_int HR0.out x7_2 p151 q151
                        obtain rfl : ad140 = ad151 := (by injection e151)
                        replace hx151_0 := (HB.out.cell (World.block_lt_of_cell? w _ hx151_0)).trans hx151_0
                        replace p151 := eq_true p151
                        replace q151 := eq_true q151
                        go_wp2
                        repeat (go_quiet (fail); try go_wp2)
                        go_ret
                        exact ⟨by first | rfl | (simp [errW_none, errW_some] <;> rfl) | (simp [*, errW_none, errW_some] <;> rfl), by repeat (first | (with_reducible first | exact HB.out | apply below_alloc | apply pw_below_drewN | apply below_drew1 | refine below_set ?_ GE139.out) | exact HB.out)⟩
                      · rw [if_neg c36] at H
                        have c36b0 : decide (t138 < (rd l0 x7_2)) = false := decide_eq_false c36
                        clear c36
                        have H' := Aside0.mk H
                        clear H
                        have p140 : 0 ≤ (x7_2 : Int) := of_decide_eq_true (by first | (with_reducible assumption) | assumption)
                        have q140 : x7_2 < (l0.length : Int) := of_decide_eq_true (by first | (with_reducible assumption) | assumption)
                        obtain ⟨ad140, e140, hx140_0⟩ := Kd.at_int HR0.out x7_2 p140 q140
                        cases e140
                        replace hx140_0 := (HB.out.cell (World.block_lt_of_cell? w _ hx140_0)).trans hx140_0
                        replace p140 := eq_true p140
                        replace q140 := eq_true q140
                        have p146 : 0 ≤ (x7_2 : Int) := of_decide_eq_true (by first | (with_reducible assumption) | assumption)
                        have q146 : x7_2 < (l0.length : Int) := of_decide_eq_true (by first | (with_reducible assumption) | assumption)
                        obtain ⟨ad146, e146, hx146_0⟩ := Kd.at_int HR0.out x7_2 p146 q146
                        obtain rfl : ad140 = ad146 := (by injection e146)
                        replace hx146_0 := (HB.out.cell (World.block_lt_of_cell? w _ hx146_0)).trans hx146_0
                        replace p146 := eq_true p146
                        replace q146 := eq_true q146
                        have hcz38_0 : wr.cell? ⟨gb139, 0, none⟩ = some (.int .i64 t135) := (blk_cell BK139.out 0).trans rfl
                        have hcz38_1 : wr.cell? ⟨gb139, 1, none⟩ = some (.int .i64 t136) := (blk_cell BK139.out 1).trans rfl
                        have hcz38_2 : wr.cell? ⟨gb139, 2, none⟩ = some (.int .i64 t137) := (blk_cell BK139.out 2).trans rfl
                        have hcz38_3 : wr.cell? ⟨gb139, 3, none⟩ = some (.int .i64 t138) := (blk_cell BK139.out 3).trans rfl
                        have hfz38_0 := blk_frozen BK139.out 0
                        have hfz38_1 := blk_frozen BK139.out 1
                        have hfz38_2 := blk_frozen BK139.out 2
                        have hfz38_3 := blk_frozen BK139.out 3
                        have p149 : 0 ≤ (x7_2 : Int) := of_decide_eq_true (by first | (with_reducible assumption) | assumption)
                        have q149 : x7_2 < (l0.length : Int) := of_decide_eq_true (by first | (with_reducible assumption) | assumption)
                        obtain ⟨ad149, e149, hx149_0⟩ := Kd.at_int HR0.out x7_2 p149 q149
                        obtain rfl : ad140 = ad149 := (by injection e149)
                        replace hx149_0 := (HB.out.cell (World.block_lt_of_cell? w _ hx149_0)).trans hx149_0
                        replace p149 := eq_true p149
                        replace q149 := eq_true q149
                        have p150 : 0 ≤ (x7_2 : Int) := of_decide_eq_true (by first | (with_reducible assumption) | assumption)
                        have q150 : x7_2 < (l0.length : Int) := of_decide_eq_true (by first | (with_reducible assumption) | assumption)
                        obtain ⟨ad150, e150, hx150_0⟩ := Kd.at_int HR0.out x7_2 p150 q150
                        obtain rfl : ad140 = ad150 := (by injection e150)
                        replace hx150_0 := (HB.out.cell (World.block_lt_of_cell? w _ hx150_0)).trans hx150_0
                        replace p150 := eq_true p150
                        replace q150 := eq_true q150
                        have p151 : 0 ≤ (x7_2 : Int) := of_decide_eq_true (by first | (with_reducible assumption) | assumption)
                        have q151 : x7_2 < (l0.length : Int) := of_decide_eq_true (by first | (with_reducible assumption) | assumption)
                        obtain ⟨ad151, e151, hx151_0⟩ := Kd.at_int HR0.out x7_2 p151 q151
                        obtain rfl : ad140 = ad151 := (by injection e151)
                        replace hx151_0 := (HB.out.cell (World.block_lt_of_cell? w _ hx151_0)).trans hx151_0
                        replace p151 := eq_true p151
                        replace q151 := eq_true q151
                        go_wp2
                        repeat (go_quiet (fail); try go_wp2)
                        go_roundg k2
                        case measure => have := HJ1.out; have := HK2.out; omega
                        case rel => exact ⟨(wrap64 (x4_2 + (rd l0 x7_2))), (((rd l0 x7_2) == t137)), (((rd l0 x7_2) == t138)), (wrap64 (x7_2 + 1)), (by first | rfl | (simp; done) | (simp [*]; done)), (by first | rfl | (simp; done) | (simp [*]; done)), (by first | rfl | (simp; done) | (simp [*]; done)), (by first | rfl | (simp; done) | (simp [*]; done)), H', ⟨by have := HJ1.out; have := HK2.out; omega⟩, ⟨by (with_reducible repeat (first | refine blk_drewN ?_ _ | refine blk_drew ?_ | refine blk_alloc ?_ _)); exact BK139.out⟩, ⟨by repeat (first | (with_reducible first | exact HB.out | apply below_alloc | apply pw_below_drewN | apply below_drew1 | refine below_set ?_ GE139.out) | exact HB.out)⟩⟩
              · rw [if_neg c15] at H
                exact absurd H (by simp)
            · rw [if_neg c14] at H
              have c14b0 : decide (x7_2 < (l0.length : Int)) = false := decide_eq_false c14
              clear c14
              by_cases c39 : t135 = (l0.length : Int)
              · rw [if_pos c39] at H
                have c39b0 : (t135 == (l0.length : Int)) = true := beq_iff_eq.mpr c39
                have c39b1 : (t135 != (l0.length : Int)) = false := bne_eq_false_iff_eq.mpr c39
                clear c39
                by_cases c40 : t136 = x4_2
                · rw [if_pos c40] at H
                  have c40b0 : (t136 == x4_2) = true := beq_iff_eq.mpr c40
                  have c40b1 : (t136 != x4_2) = false := bne_eq_false_iff_eq.mpr c40
                  clear c40
                  by_cases c41 : x5_2 = true
                  · subst c41
                    have H1 : (some x6_2) = some r := by rw [if_pos rfl] at H; exact H
                    clear H
                    have H := H1
                    clear H1
                    obtain rfl := Option.some.inj H
                    have hcz42_0 : wr.cell? ⟨gb139, 0, none⟩ = some (.int .i64 t135) := (blk_cell BK139.out 0).trans rfl
                    have hcz42_1 : wr.cell? ⟨gb139, 1, none⟩ = some (.int .i64 t136) := (blk_cell BK139.out 1).trans rfl
                    have hcz42_2 : wr.cell? ⟨gb139, 2, none⟩ = some (.int .i64 t137) := (blk_cell BK139.out 2).trans rfl
                    have hcz42_3 : wr.cell? ⟨gb139, 3, none⟩ = some (.int .i64 t138) := (blk_cell BK139.out 3).trans rfl
                    have hfz42_0 := blk_frozen BK139.out 0
                    have hfz42_1 := blk_frozen BK139.out 1
                    have hfz42_2 := blk_frozen BK139.out 2
                    have hfz42_3 := blk_frozen BK139.out 3
                    go_wp2
                    repeat (go_quiet (fail); try go_wp2)
                    go_ret
                    exact ⟨by first | rfl | (simp [errW_none, errW_some] <;> rfl) | (simp [*, errW_none, errW_some] <;> rfl), by repeat (first | (with_reducible first | exact HB.out | apply below_alloc | apply pw_below_drewN | apply below_drew1 | refine below_set ?_ GE139.out) | exact HB.out)⟩
                  · replace c41 := Bool.eq_false_iff.mpr c41
                    subst c41
                    have H1 : (some false) = some r := by rw [if_neg (show ¬ (false = true) by decide)] at H; exact H
                    clear H
                    have H := H1
                    clear H1
                    obtain rfl := Option.some.inj H
                    have hcz43_0 : wr.cell? ⟨gb139, 0, none⟩ = some (.int .i64 t135) := (blk_cell BK139.out 0).trans rfl
                    have hcz43_1 : wr.cell? ⟨gb139, 1, none⟩ = some (.int .i64 t136) := (blk_cell BK139.out 1).trans rfl
                    have hcz43_2 : wr.cell? ⟨gb139, 2, none⟩ = some (.int .i64 t137) := (blk_cell BK139.out 2).trans rfl
                    have hcz43_3 : wr.cell? ⟨gb139, 3, none⟩ = some (.int .i64 t138) := (blk_cell BK139.out 3).trans rfl
                    have hfz43_0 := blk_frozen BK139.out 0
                    have hfz43_1 := blk_frozen BK139.out 1
                    have hfz43_2 := blk_frozen BK139.out 2
                    have hfz43_3 := blk_frozen BK139.out 3
                    go_wp2
                    repeat (go_quiet (fail); try go_wp2)
                    go_ret
                    exact ⟨by first | rfl | (simp [errW_none, errW_some] <;> rfl) | (simp [*, errW_none, errW_some] <;> rfl), by repeat (first | (with_reducible first | exact HB.out | apply below_alloc | apply pw_below_drewN | apply below_drew1 | refine below_set ?_ GE139.out) | exact HB.out)⟩
                · rw [if_neg c40] at H
                  have c40b0 : (t136 == x4_2) = false := beq_eq_false_iff_ne.mpr c40
                  have c40b1 : (t136 != x4_2) = true := bne_iff_ne.mpr c40
                  obtain rfl := Option.some.inj H
                  have hcz44_0 : wr.cell? ⟨gb139, 0, none⟩ = some (.int .i64 t135) := (blk_cell BK139.out 0).trans rfl
                  have hcz44_1 : wr.cell? ⟨gb139, 1, none⟩ = some (.int .i64 t136) := (blk_cell BK139.out 1).trans rfl
                  have hcz44_2 : wr.cell? ⟨gb139, 2, none⟩ = some (.int .i64 t137) := (blk_cell BK139.out 2).trans rfl
                  have hcz44_3 : wr.cell? ⟨gb139, 3, none⟩ = some (.int .i64 t138) := (blk_cell BK139.out 3).trans rfl
                  have hfz44_0 := blk_frozen BK139.out 0
                  have hfz44_1 := blk_frozen BK139.out 1
                  have hfz44_2 := blk_frozen BK139.out 2
                  have hfz44_3 := blk_frozen BK139.out 3
                  go_wp2
                  repeat (go_quiet (fail); try go_wp2)
                  go_ret
                  exact ⟨by first | rfl | (simp [errW_none, errW_some] <;> rfl) | (simp [*, errW_none, errW_some] <;> rfl), by repeat (first | (with_reducible first | exact HB.out | apply below_alloc | apply pw_below_drewN | apply below_drew1 | refine below_set ?_ GE139.out) | exact HB.out)⟩
              · rw [if_neg c39] at H
                have c39b0 : (t135 == (l0.length : Int)) = false := beq_eq_false_iff_ne.mpr c39
                have c39b1 : (t135 != (l0.length : Int)) = true := bne_iff_ne.mpr c39
                obtain rfl := Option.some.inj H
                have hcz45_0 : wr.cell? ⟨gb139, 0, none⟩ = some (.int .i64 t135) := (blk_cell BK139.out 0).trans rfl
                have hcz45_1 : wr.cell? ⟨gb139, 1, none⟩ = some (.int .i64 t136) := (blk_cell BK139.out 1).trans rfl
                have hcz45_2 : wr.cell? ⟨gb139, 2, none⟩ = some (.int .i64 t137) := (blk_cell BK139.out 2).trans rfl
                have hcz45_3 : wr.cell? ⟨gb139, 3, none⟩ = some (.int .i64 t138) := (blk_cell BK139.out 3).trans rfl
                have hfz45_0 := blk_frozen BK139.out 0
                have hfz45_1 := blk_frozen BK139.out 1
                have hfz45_2 := blk_frozen BK139.out 2
                have hfz45_3 := blk_frozen BK139.out 3
                go_wp2
                repeat (go_quiet (fail); try go_wp2)
                go_ret
                exact ⟨by first | rfl | (simp [errW_none, errW_some] <;> rfl) | (simp [*, errW_none, errW_some] <;> rfl), by repeat (first | (with_reducible first | exact HB.out | apply below_alloc | apply pw_below_drewN | apply below_drew1 | refine below_set ?_ GE139.out) | exact HB.out)⟩

/-- THE ONE PURE STATEMENT of stratumlaw01_CellTells: yours. -/
def stratumlaw01_CellTells.Pure : Prop := ∀ (l0 : List Int), l0.length ≤ maxLen → l0.length * 8 ≤ 140737488351232 → (∀ x ∈ l0, (Lit.int .i64 x).wf = true) → ∃ k, stratumlaw01_CellTells.f k l0 = some true
theorem stratumlaw01_CellTells.walk (P : stratumlaw01_CellTells.Pure) (a0 : Option Addr) (len0 cap0 : Nat) (z0 : List Int) (w : World) (w0 : (a0 = none ∧ len0 = 0 ∧ cap0 = 0 ∧ z0 = []) ∨ ∃ x, a0 = some x ∧ len0 ≤ cap0 ∧ cap0 ≤ maxLen ∧ z0.length = cap0 ∧ (∀ i, i < z0.length → w.cell? (x.add i) = some (.int .i64 (z0.getD i 0))) ∧ ∀ n ∈ z0, (Lit.int .i64 n).wf = true) (y0 : len0 * 8 ≤ 140737488351232) :
    Calls Try.prog 5 #[.slice a0 len0 cap0] w fun e w' => e = .returned (.bool true) ∧ Below w.heap.size w w' := by
  obtain ⟨l0, rfl, hr0, hm0, hw0, hc0⟩ := ReadsInt.ofRowC w0
  obtain ⟨k, h⟩ := P l0 hm0 y0 hw0
  refine (stratumlaw01_CellTells.calls k _ _ l0 true w (Kd.C_of_reads (d := (0 : Int)) (h1 := fun _ => rfl) hr0) hc0 h).mono ?_
  rintro e w' ⟨rfl, hd⟩
  exact ⟨rfl, hd⟩

end Go.Proofs.Ytfepnokgadacnaa.PCellTells
