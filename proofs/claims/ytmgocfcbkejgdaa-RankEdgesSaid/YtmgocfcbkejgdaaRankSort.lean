/- What is proved here: what the call of the function that rank.Order hands to the sort comes to (conditions: the rows read as given). -/
import Derived.Test.YtmgocfcbkejgdaaRankBase
import Derived.Shelf.SlSortCmp.Insertion1
import Derived.Ground.SlsfProg
namespace Go.Proofs.Ytmgocfcbkejgdaa.RankSort
set_option linter.unusedSimpArgs false
set_option linter.unusedVariables false
open Go.Shelf Go.RowKit Go.Lib Go.Sort Go.Proofs Go.Proofs.Ytmgocfcbkejgdaa.RankBase
open Go.Proofs.YtmgocfcbkejgdaaW.PrintWords Go.Proofs.YtmgocfcbkejgdaaW.PrintLast Go.Proofs.YtmgocfcbkejgdaaW.PrintMore
/-- draws, and blocks laid behind -/
def Grown (w w' : World) : Prop := ∃ q os, w' = grow (w.drewN q) os
theorem Grown.trans {a b c : World} (h : Grown a b) (h' : Grown b c) : Grown a c := by
  obtain ⟨q, os, rfl⟩ := h
  obtain ⟨q', os', rfl⟩ := h'
  refine ⟨q + q', os ++ os', ?_⟩
  show grow (grow ((a.drewN q).drewN q') os) os' = _
  rw [grow_grow, World.drewN_drewN]
theorem Grown.of_drawn {a b : World} (h : Drawn0 a b) : Grown a b := by
  obtain ⟨n, rfl⟩ := h
  exact ⟨n, #[], (grow_empty _).symm⟩
theorem Grown.drew (a : World) : Grown a a.drew := ⟨1, #[], (grow_empty _).symm⟩
theorem keep {w w' : World} {a : Addr} {v : Value} (h : w.cell? a = some v) (g : Grown w w') : w'.cell? a = some v := by
  obtain ⟨q, os, rfl⟩ := g
  rw [cell?_grow _ _ _ (World.block_lt_of_cell? (w.drewN q) _ h)]; exact h
set_option maxRecDepth 100000 in
theorem mean_grown (n s a b : Int) (w : World) : Calls Try.prog 13 #[.agg #[.int .i64 n, .int .i64 s, .int .i64 a, .int .i64 b]] w fun e w' => (∃ r, e = .returned (.float .f64 r) ∧ MeanIs n s r) ∧ Grown w w' := by
  cases hq : floatBits .quo .f64 (floatOfInt .f64 s) (floatOfInt .f64 n) with
  | some q =>
    have hd := fun w => run_float_arith (P := Try.prog) w .quo 26 .f64 (floatOfInt .f64 s) (floatOfInt .f64 n) q hq
    go_enter Try.func13, Try.ntmps13
    go_wp2
    go_ret
    exact ⟨⟨q, rfl, fun q' h => by rw [hq] at h; exact Option.some.inj h, fun h => by rw [hq] at h; cases h⟩, 0, _, by rw [alloc_eq_grow]; rfl⟩
  | none =>
    have hd := fun w => run_nan 26 (floatOfInt .f64 s) (floatOfInt .f64 n) hq w
    go_enter Try.func13, Try.ntmps13
    go_wp2
    go_ret
    exact ⟨⟨_, rfl, fun q' h => (by rw [hq] at h; cases h), fun _ => nanOf_nan _ _ _⟩, 1, _, by rw [alloc_eq_grow]; rfl⟩
def clo.T : Bool × List (List Nat × List Nat) := (true, [([], []), ([], []), ([0, 1], [0, 1]), ([2], [2]), ([3], [3]), ([4], [4]), ([], []), ([], []), ([6, 7], [6, 7]), ([8], [8]), ([9], [9]), ([10, 5], [10]), ([5, 11, 11], [5, 11]), ([12, 12, 0, 1, 2, 3, 4, 5, 6, 7, 8, 9, 10, 11, 12], [12])])
def clo.B : List Nat := [0, 0, 3, 7, 15, 31, 0, 0, 192, 448, 960, 2047, 4095, 8191]
theorem clo.tab : rtab .any (opsOf Try.f28 1) = clo.T := by kernel_rfl
theorem clo.bits : waitsOk clo.T.2 clo.B = true := by kernel_rfl
set_option maxRecDepth 100000 in
set_option maxHeartbeats 4000000 in
theorem closure_calls (x y : Nat) (bx : Addr) (ab ao n c : Nat) (C : Nat → Nat → Int) (W : World) (hb : W.cell? bx = some (.slice (some ⟨ab, ao, none⟩) n c)) (hx : x < n) (hy : y < n)
   (hr : ∀ i, i < n → ∀ j, j < 4 → W.cell? ⟨ab, ao + i * 5 + 1 + j, none⟩ = some (.int .i64 (C i j))) :
   Calls Try.prog 28 #[.int .i64 x, .int .i64 y, .pointer (some bx)] W fun e w' => (∃ r1 r2, MeanIs (C x 0) (C x 1) r1 ∧ MeanIs (C y 0) (C y 1) r2 ∧ e = .returned (.int .i64 (cmpI (highI r1) (highI r2)))) ∧ Grown W w' := by
  have hu37 := Try.underlying37
  have hu49 := Try.underlying49
  have hx0 := hr x hx 0 (by omega); have hx1 := hr x hx 1 (by omega); have hx2 := hr x hx 2 (by omega); have hx3 := hr x hx 3 (by omega)
  have hy0 := hr y hy 0 (by omega); have hy1 := hr y hy 1 (by omega); have hy2 := hr y hy 2 (by omega); have hy3 := hr y hy 3 (by omega)
  go_enter Try.func28, Try.ntmps28
  go_wp2_with fail
  refine start_ (n := 14) (S := fun w' => w'.cell? bx = some (.slice (some ⟨ab, ao, none⟩) n c) ∧ w'.cell? ⟨ab, ao + x * 5 + 1, none⟩ = some (.int .i64 (C x 0)) ∧ w'.cell? ⟨ab, ao + x * 5 + 1 + 1, none⟩ = some (.int .i64 (C x 1)) ∧ w'.cell? ⟨ab, ao + x * 5 + 1 + 2, none⟩ = some (.int .i64 (C x 2)) ∧ w'.cell? ⟨ab, ao + x * 5 + 1 + 3, none⟩ = some (.int .i64 (C x 3)) ∧ w'.cell? ⟨ab, ao + y * 5 + 1, none⟩ = some (.int .i64 (C y 0)) ∧ w'.cell? ⟨ab, ao + y * 5 + 1 + 1, none⟩ = some (.int .i64 (C y 1)) ∧ w'.cell? ⟨ab, ao + y * 5 + 1 + 2, none⟩ = some (.int .i64 (C y 2)) ∧ w'.cell? ⟨ab, ao + y * 5 + 1 + 3, none⟩ = some (.int .i64 (C y 3))) (ds := []) #[false, false, false, false, false, false, false, false, false, false, false, false, false, false] (by kernel_rfl) rfl rfl ⟨hb, hx0, hx1, hx2, hx3, hy0, hy1, hy2, hy3⟩ (fun hHeld => ?_)
  refine with_tabW clo.tab clo.bits (fun HT_ HW_ => ?_)
  have HG := Aside0.mk (Grown.drew W)
  refine take_ (i := 0) (N := some 6) (v := ?_) (a' := ?_) #[true, false, false, false, false, false, false, false, false, false, false, false, false, false] rfl rfl (take_ofW HT_.out HW_.out (by kernel_rfl)) (fun _ _ _ h => h) (Or.inl ⟨by rfl, ?_⟩) hHeld ?_ ?_
  rotate_left
  · rintro w' ⟨s0, s1, s2, s3, s4, s5, s6, s7, s8⟩
    go_simp
    with_reducible rfl
  rotate_left
  · simp only [Act.put, List.setIfInBounds_toArray, List.set_cons_zero, List.set_cons_succ, i64_w, i32_w]
    rfl
  refine pure_ (i := 1) (N := some 7) (v := ?_) (a' := ?_) #[true, true, false, false, false, false, false, false, false, false, false, false, false, false] rfl rfl (any_of HT_.out (by kernel_rfl)) (fun _ _ _ h => h) (Or.inl ⟨by rfl, ?_⟩) ?_ ?_
  rotate_left
  · intro w'
    go_simp
    with_reducible rfl
  rotate_left
  · simp only [Act.put, List.setIfInBounds_toArray, List.set_cons_zero, List.set_cons_succ, i64_w, i32_w]
    rfl
  refine pure_ (i := 2) (N := some 8) (v := ?_) (a' := ?_) #[true, true, true, false, false, false, false, false, false, false, false, false, false, false] rfl rfl (any_of HT_.out (by kernel_rfl)) (fun _ _ _ h => h) (Or.inl ⟨by rfl, ?_⟩) ?_ ?_
  rotate_left
  · intro w'
    go_simp
    with_reducible rfl
  rotate_left
  · simp only [Act.put, List.setIfInBounds_toArray, List.set_cons_zero, List.set_cons_succ, i64_w, i32_w]
    rfl
  refine pure_ (i := 3) (N := some 9) (v := ?_) (a' := ?_) #[true, true, true, true, false, false, false, false, false, false, false, false, false, false] rfl rfl (any_of HT_.out (by kernel_rfl)) (fun _ _ _ h => h) (Or.inl ⟨by rfl, ?_⟩) ?_ ?_
  rotate_left
  · intro w'
    go_simp
    with_reducible rfl
  rotate_left
  · simp only [Act.put, List.setIfInBounds_toArray, List.set_cons_zero, List.set_cons_succ, i64_w, i32_w]
    rfl
  refine take_ (i := 4) (N := some 10) (v := ?_) (a' := ?_) #[true, true, true, true, true, false, false, false, false, false, false, false, false, false] rfl rfl (take_ofW HT_.out HW_.out (by kernel_rfl)) (fun _ _ _ h => h) (Or.inl ⟨by rfl, ?_⟩) hHeld ?_ ?_
  rotate_left
  · rintro w' ⟨s0, s1, s2, s3, s4, s5, s6, s7, s8⟩
    go_simp
    with_reducible rfl
  rotate_left
  · simp only [Act.put, List.setIfInBounds_toArray, List.set_cons_zero, List.set_cons_succ, i64_w, i32_w]
    rfl
  refine take_ (i := 6) (N := some 12) (v := ?_) (a' := ?_) #[true, true, true, true, true, false, true, false, false, false, false, false, false, false] rfl rfl (take_ofW HT_.out HW_.out (by kernel_rfl)) (fun _ _ _ h => h) (Or.inl ⟨by rfl, ?_⟩) hHeld ?_ ?_
  rotate_left
  · rintro w' ⟨s0, s1, s2, s3, s4, s5, s6, s7, s8⟩
    go_simp
    with_reducible rfl
  rotate_left
  · simp only [Act.put, List.setIfInBounds_toArray, List.set_cons_zero, List.set_cons_succ, i64_w, i32_w]
    rfl
  refine pure_ (i := 7) (N := some 13) (v := ?_) (a' := ?_) #[true, true, true, true, true, false, true, true, false, false, false, false, false, false] rfl rfl (any_of HT_.out (by kernel_rfl)) (fun _ _ _ h => h) (Or.inl ⟨by rfl, ?_⟩) ?_ ?_
  rotate_left
  · intro w'
    go_simp
    with_reducible rfl
  rotate_left
  · simp only [Act.put, List.setIfInBounds_toArray, List.set_cons_zero, List.set_cons_succ, i64_w, i32_w]
    rfl
  refine pure_ (i := 8) (N := some 14) (v := ?_) (a' := ?_) #[true, true, true, true, true, false, true, true, true, false, false, false, false, false] rfl rfl (any_of HT_.out (by kernel_rfl)) (fun _ _ _ h => h) (Or.inl ⟨by rfl, ?_⟩) ?_ ?_
  rotate_left
  · intro w'
    go_simp
    with_reducible rfl
  rotate_left
  · simp only [Act.put, List.setIfInBounds_toArray, List.set_cons_zero, List.set_cons_succ, i64_w, i32_w]
    rfl
  refine pure_ (i := 9) (N := some 15) (v := ?_) (a' := ?_) #[true, true, true, true, true, false, true, true, true, true, false, false, false, false] rfl rfl (any_of HT_.out (by kernel_rfl)) (fun _ _ _ h => h) (Or.inl ⟨by rfl, ?_⟩) ?_ ?_
  rotate_left
  · intro w'
    go_simp
    with_reducible rfl
  rotate_left
  · simp only [Act.put, List.setIfInBounds_toArray, List.set_cons_zero, List.set_cons_succ, i64_w, i32_w]
    rfl
  refine take_ (i := 10) (N := some 16) (v := ?_) (a' := ?_) #[true, true, true, true, true, false, true, true, true, true, true, false, false, false] rfl rfl (take_ofW HT_.out HW_.out (by kernel_rfl)) (fun _ _ _ h => h) (Or.inl ⟨by rfl, ?_⟩) hHeld ?_ ?_
  rotate_left
  · rintro w' ⟨s0, s1, s2, s3, s4, s5, s6, s7, s8⟩
    go_simp
    with_reducible rfl
  rotate_left
  · simp only [Act.put, List.setIfInBounds_toArray, List.set_cons_zero, List.set_cons_succ, i64_w, i32_w]
    rfl
  refine one_ (i := 5) (N := some 11) #[true, true, true, true, true, true, true, true, true, true, true, false, false, false] rfl rfl (one_of HT_.out (by kernel_rfl)) (by decide) (fun K hK => ?_)
  refine goes_ Try.func13 (by kernel_rfl) rfl #[.agg #[.int .i64 (C x 0), .int .i64 (C x 1), .int .i64 (C x 2), .int .i64 (C x 3)]] (by rfl) rfl rfl (by (try simp only [List.map_toArray, List.map_cons, List.map_nil]); first | done | rfl) ?_
  refine (mean_grown (C x 0) (C x 1) (C x 2) (C x 3) _).mono ?_
  rintro e wr1 ⟨⟨r1, rfl, hr1⟩, hg⟩
  refine ⟨_, rfl, ?_⟩
  replace HG := Aside0.mk (HG.out.trans hg)
  refine hK.out _ _ ⟨keep hHeld.1 hg, keep hHeld.2.1 hg, keep hHeld.2.2.1 hg, keep hHeld.2.2.2.1 hg, keep hHeld.2.2.2.2.1 hg, keep hHeld.2.2.2.2.2.1 hg, keep hHeld.2.2.2.2.2.2.1 hg, keep hHeld.2.2.2.2.2.2.2.1 hg, keep hHeld.2.2.2.2.2.2.2.2 hg⟩ (fun hHeld => ?_)
  clear hK K
  refine norm_ (a' := ?_) ?_ ?_
  rotate_left
  · show Act.put _ (some 11) _ = _
    simp only [Act.put, List.setIfInBounds_toArray, List.set_cons_zero, List.set_cons_succ, i64_w, i32_w]
    rfl
  refine one_ (i := 11) (N := some 17) #[true, true, true, true, true, true, true, true, true, true, true, true, false, false] rfl rfl (one_of HT_.out (by kernel_rfl)) (by decide) (fun K hK => ?_)
  refine goes_ Try.func13 (by kernel_rfl) rfl #[.agg #[.int .i64 (C y 0), .int .i64 (C y 1), .int .i64 (C y 2), .int .i64 (C y 3)]] (by rfl) rfl rfl (by (try simp only [List.map_toArray, List.map_cons, List.map_nil]); first | done | rfl) ?_
  refine (mean_grown (C y 0) (C y 1) (C y 2) (C y 3) _).mono ?_
  rintro e wr2 ⟨⟨r2, rfl, hr2⟩, hg⟩
  refine ⟨_, rfl, ?_⟩
  replace HG := Aside0.mk (HG.out.trans hg)
  refine hK.out _ _ ⟨keep hHeld.1 hg, keep hHeld.2.1 hg, keep hHeld.2.2.1 hg, keep hHeld.2.2.2.1 hg, keep hHeld.2.2.2.2.1 hg, keep hHeld.2.2.2.2.2.1 hg, keep hHeld.2.2.2.2.2.2.1 hg, keep hHeld.2.2.2.2.2.2.2.1 hg, keep hHeld.2.2.2.2.2.2.2.2 hg⟩ (fun hHeld => ?_)
  clear hK K
  refine norm_ (a' := ?_) ?_ ?_
  rotate_left
  · show Act.put _ (some 17) _ = _
    simp only [Act.put, List.setIfInBounds_toArray, List.set_cons_zero, List.set_cons_succ, i64_w, i32_w]
    rfl
  refine one_ (i := 12) (N := some 18) #[true, true, true, true, true, true, true, true, true, true, true, true, true, false] rfl rfl (one_of HT_.out (by kernel_rfl)) (by decide) (fun K hK => ?_)
  refine goes_ Try.func12 (by kernel_rfl) rfl #[.float .f64 r1, .float .f64 r2] (by rfl) rfl rfl (by (try simp only [List.map_toArray, List.map_cons, List.map_nil]); first | done | rfl) ?_
  refine (cmp_calls r1 r2 _).mono ?_
  rintro e w3 ⟨rfl, hd⟩
  have hg := Grown.of_drawn hd
  refine ⟨_, rfl, ?_⟩
  replace HG := Aside0.mk (HG.out.trans hg)
  refine hK.out _ _ ⟨keep hHeld.1 hg, keep hHeld.2.1 hg, keep hHeld.2.2.1 hg, keep hHeld.2.2.2.1 hg, keep hHeld.2.2.2.2.1 hg, keep hHeld.2.2.2.2.2.1 hg, keep hHeld.2.2.2.2.2.2.1 hg, keep hHeld.2.2.2.2.2.2.2.1 hg, keep hHeld.2.2.2.2.2.2.2.2 hg⟩ (fun hHeld => ?_)
  clear hK K
  refine norm_ (a' := ?_) ?_ ?_
  rotate_left
  · show Act.put _ (some 18) _ = _
    simp only [Act.put, List.setIfInBounds_toArray, List.set_cons_zero, List.set_cons_succ, i64_w, i32_w]
    rfl
  refine pure_ (i := 13) (N := some 5) (v := ?_) (a' := ?_) #[true, true, true, true, true, true, true, true, true, true, true, true, true, true] rfl rfl (any_of HT_.out (by kernel_rfl)) (fun _ _ _ h => h) (Or.inl ⟨by rfl, ?_⟩) ?_ ?_
  rotate_left
  · intro w'
    go_simp
    with_reducible rfl
  rotate_left
  · simp only [Act.put, List.setIfInBounds_toArray, List.set_cons_zero, List.set_cons_succ, i64_w, i32_w]
    rfl
  refine done_ (done_of HT_.out (by kernel_rfl)) ?_
  go_wp2
  go_ret
  exact ⟨⟨r1, r2, hr1, hr2, rfl⟩, HG.out⟩
end Go.Proofs.Ytmgocfcbkejgdaa.RankSort
