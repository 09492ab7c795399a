/- What is proved here: what a call of the reference's Order comes to: the places of its rows in the one order by key and place (conditions: those that each theorem names). -/
import Derived.Test.YtmgocfcbkejgdaaRankRefPlain
namespace Go.Proofs.Ytmgocfcbkejgdaa.RankSort
set_option linter.unusedSimpArgs false
set_option linter.unusedVariables false
open Go.Shelf Go.RowKit Go.Lib Go.Sort Go.Proofs Go.Proofs.Ytmgocfcbkejgdaa.RankBase Go.Proofs.Ytmgocfcbkejgdaa.RankMerge
open Go.Proofs.YtmgocfcbkejgdaaW.PrintWords Go.Proofs.YtmgocfcbkejgdaaW.PrintLast Go.Proofs.YtmgocfcbkejgdaaW.PrintMore
open Go.Proofs.Ytmgocfcbkejgdaa.PRankOrders
def ref.T : Bool × List (List Nat × List Nat) := (true, [([], []), ([], []), ([1], [1]), ([0, 2], [0, 2]), ([3], [3]), ([4], [4]), ([4], [4]), ([4], [4]), ([6, 7, 4], [4, 6, 7]), ([8, 4], [4, 8]), ([5, 9, 4], [4, 5, 9]), ([10, 4], [4, 10]), ([11, 4], [4, 11]), ([12, 4, 4], [4, 12]), ([4], [4]), ([4], [4]), ([14, 15, 4], [4, 14, 15]), ([16, 4], [4, 16]), ([17, 4], [4, 17]), ([18, 13, 4], [4, 18]), ([13, 19, 19, 4], [4, 13, 19]), ([20, 4], [4, 20]), ([4, 21], [4, 21])])
def ref.B : List Nat := [0, 0, 2, 7, 15, 31, 31, 31, 223, 479, 1023, 2047, 4095, 8191, 31, 31, 49183, 114719, 245791, 524287, 1048575, 2097151, 4194303]
theorem ref.tab : rtab .any (opsOf Try.f24 7) = ref.T := by kernel_rfl
theorem ref.bits : waitsOk ref.T.2 ref.B = true := by kernel_rfl
set_option maxHeartbeats 16000000 in
set_option maxRecDepth 1000000 in
theorem ref_order (gr ao m c : Nat) (C : Nat → Nat → Int) (w : World) (hm : m + 1 ≤ 200) (hbd : ∀ i, i < m + 1 → (C i 0).natAbs < 2 ^ 64 ∧ (C i 1).natAbs < 2 ^ 64)
    (hr : ∀ i, i < m + 1 → ∀ j, j < 4 → w.cell? ⟨gr, ao + i * 5 + 1 + j, none⟩ = some (.int .i64 (C i j))) :
    Calls Try.prog 24 #[.slice (some ⟨gr, ao, none⟩) (m + 1) c] w fun e w' => (∃ v, e = .returned v ∧ ∃ L, Good (fun i => keyI (C i 0) (C i 1)) (m + 1) L ∧ Kd.R (Kd.int .i64) 3 w' w.heap.size (fun _ => True) v (L.map (fun z : Nat => (z : Int)))) ∧ Below w.heap.size w w' := by
  have mixed : Try.prog.follows Departure.mixedOrders = true := by kernel_rfl
  have u35 := Try.underlying35
  have hu37 := Try.underlying37
  have hu49 := Try.underlying49
  obtain ⟨i0, hi0, hz0⟩ := Option.map_eq_some_iff.1 info3
  have hz1 : i0.size = 1 := by simp only [Prod.mk.injEq] at hz0; exact hz0.2.1
  clear hz0
  have HBD := Aside0.mk hbd
  have HRW := Aside0.mk hr
  have HI0 := Aside0.mk hi0
  have HZ1 := Aside0.mk hz1
  clear hbd hr hi0 hz1
  go_enter Try.func24, Try.ntmps24
  go_wp2_with fail
  go_loopg [3, 4] (m + 1) (fun gq v3 v4 w' => ∃ (i : Nat) (ns : List Nat), v4 = .int .i64 i ∧ i ≤ m + 1 ∧ m + 1 - i ≤ gq ∧ Aside0 (Good (fun i => keyI (C i 0) (C i 1)) i ns) ∧ Aside0 (Kd.R (Kd.int .i64) 3 w' w.heap.size (fun _ => True) v3 (ns.map (fun z : Nat => (z : Int)))) ∧ Aside0 (Below w.heap.size w w'))
  case atStart => exact ⟨0, [], rfl, by omega, by omega, ⟨Good.nil _⟩, ⟨Kd.R_nil _ _ _ _ _⟩, ⟨Below.refl _ _⟩⟩
  case round =>
    obtain ⟨i, ns, rfl, him, hg1, HGd, HO, HBo⟩ := hrel
    by_cases hlt : i < m + 1
    · have hltz : (i : Int) < (m : Int) + 1 := by omega
      obtain ⟨wo, hwo⟩ : ∃ z, z = wr := ⟨wr, rfl⟩
      subst hwo
      have hnl : Aside0 (ns.length = i) := ⟨HGd.out.length⟩
      obtain ⟨A, c0, hv, hle0, hC0⟩ := Kd.R_reads HO.out
      rw [List.length_map, hnl.out] at hv hle0
      subst hv
      have hic : i ≤ c0 := hle0
      have HC0 := Aside0.mk hC0
      clear hle0 hC0 HO
      go_wp2_with fail
      go_loopg [5, 6] i (fun g2 v5 v6 w' => ∃ k : Nat, v6 = .int .i64 k ∧ k ≤ i ∧ i - k ≤ g2 ∧ Aside0 (∀ j x, j < k → ns[j]? = some x → keyI (C x 0) (C x 1) ≤ keyI (C i 0) (C i 1)) ∧ Aside0 (Kd.R (Kd.int .i64) 3 w' wo.heap.size (fun _ => True) v5 ((ns.take k).map (fun z : Nat => (z : Int)))) ∧ Aside0 (Below wo.heap.size wo w'))
      case atStart => exact ⟨0, rfl, by omega, by omega, ⟨fun j x h => by omega⟩, ⟨Kd.R_nil _ _ _ _ _⟩, ⟨Below.refl _ _⟩⟩
      case round =>
        obtain ⟨k, rfl, hki, hg2, HPf, HN, HW⟩ := hrel
        have hi0 := HI0.out
        have hz1 := HZ1.out
        by_cases c1 : k < i
        · have c1z : decide ((k : Int) < (i : Int)) = true := by rw [decide_eq_true_iff]; omega
          obtain ⟨x, hx⟩ : ∃ x, ns[k]? = some x := ⟨_, List.getElem?_eq_getElem (by rw [hnl.out]; exact c1)⟩
          have hxi : x < i := HGd.out.lt (List.mem_of_getElem? hx)
          obtain ⟨ad, eA, ga0⟩ := Kd.at_int HC0.out (k : Int) (by omega) (by rw [List.length_map, hnl.out]; omega)
          subst eA
          have erd : rd (ns.map (fun z : Nat => (z : Int))) (k : Int) = (x : Int) := by
            unfold rd
            rw [Int.toNat_natCast, List.getD_eq_getElem?_getD, List.getElem?_map, hx]; rfl
          rw [erd, Int.toNat_natCast] at ga0
          have ga := keepb HW.out ga0
          have bw : Below w.heap.size w wr := HBo.out.trans (HW.out.mono HBo.out.size)
          have hxm : (x : Int) < (m : Int) + 1 := by omega
          have hx0 : (0 : Int) ≤ (x : Int) := by omega
          have gx0 := keepb bw (HRW.out x (by omega) 0 (by omega)); have gx1 := keepb bw (HRW.out x (by omega) 1 (by omega)); have gx2 := keepb bw (HRW.out x (by omega) 2 (by omega)); have gx3 := keepb bw (HRW.out x (by omega) 3 (by omega))
          have gi0 := keepb bw (HRW.out i hlt 0 (by omega)); have gi1 := keepb bw (HRW.out i hlt 1 (by omega)); have gi2 := keepb bw (HRW.out i hlt 2 (by omega)); have gi3 := keepb bw (HRW.out i hlt 3 (by omega))
          rw [Nat.add_zero] at gx0 gi0
          have HX := Aside0.mk hx
          clear hx erd ga0 bw
          by_cases hle : keyI (C x 0) (C x 1) ≤ keyI (C i 0) (C i 1)
          · have HLE := Aside0.mk hle
            clear hle
            go_wp2_with fail
            refine start_ (n := 23) (S := fun w' => w'.cell? (ad.add k) = some (.int .i64 (x : Int)) ∧ w'.cell? ⟨gr, ao + x * 5 + 1, none⟩ = some (.int .i64 (C x 0)) ∧ w'.cell? ⟨gr, ao + x * 5 + 1 + 1, none⟩ = some (.int .i64 (C x 1)) ∧ w'.cell? ⟨gr, ao + x * 5 + 1 + 2, none⟩ = some (.int .i64 (C x 2)) ∧ w'.cell? ⟨gr, ao + x * 5 + 1 + 3, none⟩ = some (.int .i64 (C x 3)) ∧ w'.cell? ⟨gr, ao + i * 5 + 1, none⟩ = some (.int .i64 (C i 0)) ∧ w'.cell? ⟨gr, ao + i * 5 + 1 + 1, none⟩ = some (.int .i64 (C i 1)) ∧ w'.cell? ⟨gr, ao + i * 5 + 1 + 2, none⟩ = some (.int .i64 (C i 2)) ∧ w'.cell? ⟨gr, ao + i * 5 + 1 + 3, none⟩ = some (.int .i64 (C i 3))) (ds := []) #[false, false, false, false, false, false, false, false, false, false, false, false, false, false, false, false, false, false, false, false, false, false, false] (by kernel_rfl) rfl rfl ⟨ga, gx0, gx1, gx2, gx3, gi0, gi1, gi2, gi3⟩ (fun hHeld => ?_)
            refine with_tabW ref.tab ref.bits (fun HT_ HW_ => ?_)
            have HG := Aside0.mk (Below.refl wr.heap.size wr).drew
            refine pure_ (i := 0) (N := some 13) (v := ?_) (a' := ?_) #[true, false, false, false, false, false, false, false, false, false, false, false, false, false, false, false, false, false, false, false, false, false, false] rfl rfl (any_of HT_.out (by kernel_rfl)) (fun _ _ _ h => h) (Or.inl ⟨by rfl, ?_⟩) ?_ ?_
            rotate_left
            · intro w'
              go_simp
              with_reducible rfl
            rotate_left
            · simp only [Act.put, List.setIfInBounds_toArray, List.set_cons_zero, List.set_cons_succ, i64_w, i32_w]
              rfl
            refine pure_ (i := 1) (N := some 14) (v := ?_) (a' := ?_) #[true, true, false, false, false, false, false, false, false, false, false, false, false, false, false, false, false, false, false, false, false, false, false] rfl rfl (any_of HT_.out (by kernel_rfl)) (fun _ _ _ h => h) (Or.inl ⟨by rfl, ?_⟩) ?_ ?_
            rotate_left
            · intro w'
              go_simp
              with_reducible rfl
            rotate_left
            · simp only [Act.put, List.setIfInBounds_toArray, List.set_cons_zero, List.set_cons_succ, i64_w, i32_w]
              rfl
            refine pure_ (i := 2) (N := some 15) (v := ?_) (a' := ?_) #[true, true, true, false, false, false, false, false, false, false, false, false, false, false, false, false, false, false, false, false, false, false, false] rfl rfl (any_of HT_.out (by kernel_rfl)) (fun _ _ _ h => h) (Or.inl ⟨by rfl, ?_⟩) ?_ ?_
            rotate_left
            · intro w'
              go_simp
              with_reducible rfl
            rotate_left
            · simp only [Act.put, List.setIfInBounds_toArray, List.set_cons_zero, List.set_cons_succ, i64_w, i32_w]
              rfl
            refine pure_ (i := 3) (N := some 16) (v := ?_) (a' := ?_) #[true, true, true, true, false, false, false, false, false, false, false, false, false, false, false, false, false, false, false, false, false, false, false] rfl rfl (any_of HT_.out (by kernel_rfl)) (fun _ _ _ h => h) (Or.inl ⟨by rfl, ?_⟩) ?_ ?_
            rotate_left
            · intro w'
              go_simp
              with_reducible rfl
            rotate_left
            · simp only [Act.put, List.setIfInBounds_toArray, List.set_cons_zero, List.set_cons_succ, i64_w, i32_w]
              rfl
            refine pure_ (i := 4) (N := some 17) (v := ?_) (a' := ?_) #[true, true, true, true, true, false, false, false, false, false, false, false, false, false, false, false, false, false, false, false, false, false, false] rfl rfl (any_of HT_.out (by kernel_rfl)) (fun _ _ _ h => h) (Or.inl ⟨by rfl, ?_⟩) ?_ ?_
            rotate_left
            · intro w'
              go_simp
              with_reducible rfl
            rotate_left
            · simp only [Act.put, List.setIfInBounds_toArray, List.set_cons_zero, List.set_cons_succ, i64_w, i32_w]
              rfl
            refine pure_ (i := 5) (N := some 18) (v := ?_) (a' := ?_) #[true, true, true, true, true, true, false, false, false, false, false, false, false, false, false, false, false, false, false, false, false, false, false] rfl rfl (any_of HT_.out (by kernel_rfl)) (fun _ _ _ h => h) (Or.inl ⟨by rfl, ?_⟩) ?_ ?_
            rotate_left
            · intro w'
              go_simp
              with_reducible rfl
            rotate_left
            · simp only [Act.put, List.setIfInBounds_toArray, List.set_cons_zero, List.set_cons_succ, i64_w, i32_w]
              rfl
            refine pure_ (i := 6) (N := some 19) (v := ?_) (a' := ?_) #[true, true, true, true, true, true, true, false, false, false, false, false, false, false, false, false, false, false, false, false, false, false, false] rfl rfl (any_of HT_.out (by kernel_rfl)) (fun _ _ _ h => h) (Or.inl ⟨by rfl, ?_⟩) ?_ ?_
            rotate_left
            · intro w'
              go_simp
              with_reducible rfl
            rotate_left
            · simp only [Act.put, List.setIfInBounds_toArray, List.set_cons_zero, List.set_cons_succ, i64_w, i32_w]
              rfl
            refine pure_ (i := 7) (N := some 20) (v := ?_) (a' := ?_) #[true, true, true, true, true, true, true, true, false, false, false, false, false, false, false, false, false, false, false, false, false, false, false] rfl rfl (any_of HT_.out (by kernel_rfl)) (fun _ _ _ h => h) (Or.inl ⟨by rfl, ?_⟩) ?_ ?_
            rotate_left
            · intro w'
              go_simp
              with_reducible rfl
            rotate_left
            · simp only [Act.put, List.setIfInBounds_toArray, List.set_cons_zero, List.set_cons_succ, i64_w, i32_w]
              rfl
            refine pure_ (i := 8) (N := some 21) (v := ?_) (a' := ?_) #[true, true, true, true, true, true, true, true, true, false, false, false, false, false, false, false, false, false, false, false, false, false, false] rfl rfl (any_of HT_.out (by kernel_rfl)) (fun _ _ _ h => h) (Or.inl ⟨by rfl, ?_⟩) ?_ ?_
            rotate_left
            · intro w'
              go_simp
              with_reducible rfl
            rotate_left
            · simp only [Act.put, List.setIfInBounds_toArray, List.set_cons_zero, List.set_cons_succ, i64_w, i32_w]
              rfl
            refine take_ (i := 9) (N := some 22) (v := ?_) (a' := ?_) #[true, true, true, true, true, true, true, true, true, true, false, false, false, false, false, false, false, false, false, false, false, false, false] rfl rfl (take_ofW HT_.out HW_.out (by kernel_rfl)) (fun _ _ _ h => h) (Or.inl ⟨by rfl, ?_⟩) hHeld ?_ ?_
            rotate_left
            · rintro w' ⟨s0, s1, s2, s3, s4, s5, s6, s7, s8⟩
              go_simp
              with_reducible rfl
            rotate_left
            · simp only [Act.put, List.setIfInBounds_toArray, List.set_cons_zero, List.set_cons_succ, i64_w, i32_w]
              rfl
            refine pure_ (i := 10) (N := some 23) (v := ?_) (a' := ?_) #[true, true, true, true, true, true, true, true, true, true, true, false, false, false, false, false, false, false, false, false, false, false, false] rfl rfl (any_of HT_.out (by kernel_rfl)) (fun _ _ _ h => h) (Or.inl ⟨by rfl, ?_⟩) ?_ ?_
            rotate_left
            · intro w'
              go_simp
              with_reducible rfl
            rotate_left
            · simp only [Act.put, List.setIfInBounds_toArray, List.set_cons_zero, List.set_cons_succ, i64_w, i32_w]
              rfl
            refine pure_ (i := 11) (N := some 24) (v := ?_) (a' := ?_) #[true, true, true, true, true, true, true, true, true, true, true, true, false, false, false, false, false, false, false, false, false, false, false] rfl rfl (any_of HT_.out (by kernel_rfl)) (fun _ _ _ h => h) (Or.inl ⟨by rfl, ?_⟩) ?_ ?_
            rotate_left
            · intro w'
              go_simp
              with_reducible rfl
            rotate_left
            · simp only [Act.put, List.setIfInBounds_toArray, List.set_cons_zero, List.set_cons_succ, i64_w, i32_w]
              rfl
            refine take_ (i := 12) (N := some 25) (v := ?_) (a' := ?_) #[true, true, true, true, true, true, true, true, true, true, true, true, true, false, false, false, false, false, false, false, false, false, false] rfl rfl (take_ofW HT_.out HW_.out (by kernel_rfl)) (fun _ _ _ h => h) (Or.inl ⟨by rfl, ?_⟩) hHeld ?_ ?_
            rotate_left
            · rintro w' ⟨s0, s1, s2, s3, s4, s5, s6, s7, s8⟩
              go_simp
              with_reducible rfl
            rotate_left
            · simp only [Act.put, List.setIfInBounds_toArray, List.set_cons_zero, List.set_cons_succ, i64_w, i32_w]
              rfl
            refine pure_ (i := 14) (N := some 27) (v := ?_) (a' := ?_) #[true, true, true, true, true, true, true, true, true, true, true, true, true, false, true, false, false, false, false, false, false, false, false] rfl rfl (any_of HT_.out (by kernel_rfl)) (fun _ _ _ h => h) (Or.inl ⟨by rfl, ?_⟩) ?_ ?_
            rotate_left
            · intro w'
              go_simp
              with_reducible rfl
            rotate_left
            · simp only [Act.put, List.setIfInBounds_toArray, List.set_cons_zero, List.set_cons_succ, i64_w, i32_w]
              rfl
            refine pure_ (i := 15) (N := some 28) (v := ?_) (a' := ?_) #[true, true, true, true, true, true, true, true, true, true, true, true, true, false, true, true, false, false, false, false, false, false, false] rfl rfl (any_of HT_.out (by kernel_rfl)) (fun _ _ _ h => h) (Or.inl ⟨by rfl, ?_⟩) ?_ ?_
            rotate_left
            · intro w'
              go_simp
              with_reducible rfl
            rotate_left
            · simp only [Act.put, List.setIfInBounds_toArray, List.set_cons_zero, List.set_cons_succ, i64_w, i32_w]
              rfl
            refine pure_ (i := 16) (N := some 29) (v := ?_) (a' := ?_) #[true, true, true, true, true, true, true, true, true, true, true, true, true, false, true, true, true, false, false, false, false, false, false] rfl rfl (any_of HT_.out (by kernel_rfl)) (fun _ _ _ h => h) (Or.inl ⟨by rfl, ?_⟩) ?_ ?_
            rotate_left
            · intro w'
              go_simp
              with_reducible rfl
            rotate_left
            · simp only [Act.put, List.setIfInBounds_toArray, List.set_cons_zero, List.set_cons_succ, i64_w, i32_w]
              rfl
            refine pure_ (i := 17) (N := some 30) (v := ?_) (a' := ?_) #[true, true, true, true, true, true, true, true, true, true, true, true, true, false, true, true, true, true, false, false, false, false, false] rfl rfl (any_of HT_.out (by kernel_rfl)) (fun _ _ _ h => h) (Or.inl ⟨by rfl, ?_⟩) ?_ ?_
            rotate_left
            · intro w'
              go_simp
              with_reducible rfl
            rotate_left
            · simp only [Act.put, List.setIfInBounds_toArray, List.set_cons_zero, List.set_cons_succ, i64_w, i32_w]
              rfl
            refine take_ (i := 18) (N := some 31) (v := ?_) (a' := ?_) #[true, true, true, true, true, true, true, true, true, true, true, true, true, false, true, true, true, true, true, false, false, false, false] rfl rfl (take_ofW HT_.out HW_.out (by kernel_rfl)) (fun _ _ _ h => h) (Or.inl ⟨by rfl, ?_⟩) hHeld ?_ ?_
            rotate_left
            · rintro w' ⟨s0, s1, s2, s3, s4, s5, s6, s7, s8⟩
              go_simp
              with_reducible rfl
            rotate_left
            · simp only [Act.put, List.setIfInBounds_toArray, List.set_cons_zero, List.set_cons_succ, i64_w, i32_w]
              rfl
            refine one_ (i := 13) (N := some 26) #[true, true, true, true, true, true, true, true, true, true, true, true, true, true, true, true, true, true, true, false, false, false, false] rfl rfl (one_of HT_.out (by kernel_rfl)) (by decide) (fun K hK => ?_)
            refine goes_ Try.func17 (by kernel_rfl) rfl #[.agg #[.int .i64 (C x 0), .int .i64 (C x 1), .int .i64 (C x 2), .int .i64 (C x 3)]] (by rfl) rfl rfl (by (try simp only [List.map_toArray, List.map_cons, List.map_nil]); first | done | rfl) ?_
            refine (refmean_calls _ _ _ _ _).mono ?_
            rintro e wr1 ⟨⟨r1, rfl, hr1⟩, hg⟩
            refine ⟨_, rfl, ?_⟩
            replace HG := Aside0.mk (HG.out.trans (hg.mono HG.out.size))
            refine hK.out _ _ ⟨keepb hg hHeld.1, keepb hg hHeld.2.1, keepb hg hHeld.2.2.1, keepb hg hHeld.2.2.2.1, keepb hg hHeld.2.2.2.2.1, keepb hg hHeld.2.2.2.2.2.1, keepb hg hHeld.2.2.2.2.2.2.1, keepb hg hHeld.2.2.2.2.2.2.2.1, keepb hg hHeld.2.2.2.2.2.2.2.2⟩ (fun hHeld => ?_)
            clear hK K
            refine norm_ (a' := ?_) ?_ ?_
            rotate_left
            · show Act.put _ (some 26) _ = _
              simp only [Act.put, List.setIfInBounds_toArray, List.set_cons_zero, List.set_cons_succ, i64_w, i32_w]
              rfl
            refine one_ (i := 19) (N := some 32) #[true, true, true, true, true, true, true, true, true, true, true, true, true, true, true, true, true, true, true, true, false, false, false] rfl rfl (one_of HT_.out (by kernel_rfl)) (by decide) (fun K hK => ?_)
            refine goes_ Try.func17 (by kernel_rfl) rfl #[.agg #[.int .i64 (C i 0), .int .i64 (C i 1), .int .i64 (C i 2), .int .i64 (C i 3)]] (by rfl) rfl rfl (by (try simp only [List.map_toArray, List.map_cons, List.map_nil]); first | done | rfl) ?_
            refine (refmean_calls _ _ _ _ _).mono ?_
            rintro e wr2 ⟨⟨r2, rfl, hr2⟩, hg⟩
            refine ⟨_, rfl, ?_⟩
            replace HG := Aside0.mk (HG.out.trans (hg.mono HG.out.size))
            refine hK.out _ _ ⟨keepb hg hHeld.1, keepb hg hHeld.2.1, keepb hg hHeld.2.2.1, keepb hg hHeld.2.2.2.1, keepb hg hHeld.2.2.2.2.1, keepb hg hHeld.2.2.2.2.2.1, keepb hg hHeld.2.2.2.2.2.2.1, keepb hg hHeld.2.2.2.2.2.2.2.1, keepb hg hHeld.2.2.2.2.2.2.2.2⟩ (fun hHeld => ?_)
            clear hK K
            refine norm_ (a' := ?_) ?_ ?_
            rotate_left
            · show Act.put _ (some 32) _ = _
              simp only [Act.put, List.setIfInBounds_toArray, List.set_cons_zero, List.set_cons_succ, i64_w, i32_w]
              rfl
            refine one_ (i := 20) (N := some 33) #[true, true, true, true, true, true, true, true, true, true, true, true, true, true, true, true, true, true, true, true, true, false, false] rfl rfl (one_of HT_.out (by kernel_rfl)) (by decide) (fun K hK => ?_)
            refine goes_ Try.func23 (by kernel_rfl) rfl #[.float .f64 r1, .float .f64 r2] (by rfl) rfl rfl (by (try simp only [List.map_toArray, List.map_cons, List.map_nil]); first | done | rfl) ?_
            refine (refcmp_calls r1 r2 _).mono ?_
            rintro e w8 ⟨rfl, hd⟩
            have hg := below_drawn hd
            have zN0 := ref_le (HBD.out x (by omega)).1 (HBD.out x (by omega)).2 (HBD.out i (by omega)).1 (HBD.out i (by omega)).2 hr1 hr2
            rw [decide_eq_true HLE.out] at zN0
            generalize refI r1 r2 = NN at *
            refine ⟨_, rfl, ?_⟩
            replace HG := Aside0.mk (HG.out.trans (hg.mono HG.out.size))
            refine hK.out _ _ ⟨keepb hg hHeld.1, keepb hg hHeld.2.1, keepb hg hHeld.2.2.1, keepb hg hHeld.2.2.2.1, keepb hg hHeld.2.2.2.2.1, keepb hg hHeld.2.2.2.2.2.1, keepb hg hHeld.2.2.2.2.2.2.1, keepb hg hHeld.2.2.2.2.2.2.2.1, keepb hg hHeld.2.2.2.2.2.2.2.2⟩ (fun hHeld => ?_)
            clear hK K
            refine norm_ (a' := ?_) ?_ ?_
            rotate_left
            · show Act.put _ (some 33) _ = _
              simp only [Act.put, List.setIfInBounds_toArray, List.set_cons_zero, List.set_cons_succ, i64_w, i32_w]
              rfl
            refine pure_ (i := 21) (N := some 34) (v := ?_) (a' := ?_) #[true, true, true, true, true, true, true, true, true, true, true, true, true, true, true, true, true, true, true, true, true, true, false] rfl rfl (any_of HT_.out (by kernel_rfl)) (fun _ _ _ h => h) (Or.inl ⟨by rfl, ?_⟩) ?_ ?_
            rotate_left
            · intro w'
              go_simp
              with_reducible rfl
            rotate_left
            · simp only [Act.put, List.setIfInBounds_toArray, List.set_cons_zero, List.set_cons_succ, i64_w, i32_w]
              rfl
            refine pure_ (i := 22) (N := some 35) (v := ?_) (a' := ?_) #[true, true, true, true, true, true, true, true, true, true, true, true, true, true, true, true, true, true, true, true, true, true, true] rfl rfl (any_of HT_.out (by kernel_rfl)) (fun _ _ _ h => h) (Or.inl ⟨by rfl, ?_⟩) ?_ ?_
            rotate_left
            · intro w'
              go_simp
              with_reducible rfl
            rotate_left
            · simp only [Act.put, List.setIfInBounds_toArray, List.set_cons_zero, List.set_cons_succ, i64_w, i32_w]
              rfl
            refine done_ (done_of HT_.out (by kernel_rfl)) ?_
            clear gx0 gx1 gx2 gx3 gi0 gi1 gi2 gi3
            have ga2 := keepb HG.out ga
            have HN2 := Aside0.mk (Kd.R_below HN.out HG.out)
            have HW2 := Aside0.mk (HW.out.trans (HG.out.mono HW.out.size))
            clear HN HW ga HG hr1 hr2
            have HN := HN2
            have HW := HW2
            clear HN2 HW2
            have LN := Aside0.mk (show ((ns.take k).map (fun z : Nat => (z : Int))).length ≤ 200 from by rw [List.length_map, List.length_take]; omega)
            go_wp2_with (first | ((with_reducible refine gate_builtin (b := .append) (xs := #[.tmp 36, .tmp 41]) rfl ?_); at_builtin; refine Kd.R_append (Kd.int .i64) (w0 := wo) wo.heap.size rfl (.tmp 36) (.tmp 41) 35 3 (.int .i64 0) 8 rfl Try.underlying35 info3 rfl (by decide) (by omega) _ ((ns.take k).map (fun z : Nat => (z : Int))) (x : Int) [.int .i64 (x : Int)] (fun _ => True) (fun _ => False) rfl rfl ?aP (fun _ hk => hk.elim) ?aF ?aO ?aB ?aS ?aL ?_; (case aP => exact rfl); (case aB => exact (by repeat (first | (with_reducible first | exact HW.out | apply below_alloc | apply pw_below_drewN | apply below_drew1) | exact HW.out))); (case aF => exact (fun _ _ => trivial)); (case aO => exact (by (with_reducible repeat (first | apply Kd.R_alloc | apply Kd.R_drewN | apply Kd.R_drew)); exact HN.out)); (case aS => exact (below_size (by repeat (first | (with_reducible first | exact HW.out | apply below_alloc | apply pw_below_drewN | apply below_drew1) | exact HW.out)))); (case aL => have := LN.out; omega); intro v9 w9 ho hb hg hat; have n0_ := Aside0.mk (hb); have n1_ := Aside0.mk (ho); clear HW; clear HN; have HW := n0_; have HN := n1_; clear n0_ n1_; clear ho hb hg hat))
            go_roundg (i - (k + 1))
            case measure => omega
            case rel => exact ⟨k + 1, by go_num, by omega, by omega, ⟨fun j y h1 h2 => by
                by_cases q : j < k
                · exact HPf.out j y q h2
                · obtain rfl : j = k := by omega
                  have h3 := HX.out.symm.trans h2
                  obtain rfl := Option.some.inj h3
                  exact HLE.out⟩, ⟨by
                have e : (ns.take (k + 1)).map (fun z : Nat => (z : Int)) = (ns.take k).map (fun z : Nat => (z : Int)) ++ [(x : Int)] := by rw [List.take_add_one, HX.out, List.map_append]; rfl
                rw [e]; exact HN.out⟩, HW⟩
          · have HLE := Aside0.mk hle
            clear hle
            go_wp2_with fail
            refine start_ (n := 23) (S := fun w' => w'.cell? (ad.add k) = some (.int .i64 (x : Int)) ∧ w'.cell? ⟨gr, ao + x * 5 + 1, none⟩ = some (.int .i64 (C x 0)) ∧ w'.cell? ⟨gr, ao + x * 5 + 1 + 1, none⟩ = some (.int .i64 (C x 1)) ∧ w'.cell? ⟨gr, ao + x * 5 + 1 + 2, none⟩ = some (.int .i64 (C x 2)) ∧ w'.cell? ⟨gr, ao + x * 5 + 1 + 3, none⟩ = some (.int .i64 (C x 3)) ∧ w'.cell? ⟨gr, ao + i * 5 + 1, none⟩ = some (.int .i64 (C i 0)) ∧ w'.cell? ⟨gr, ao + i * 5 + 1 + 1, none⟩ = some (.int .i64 (C i 1)) ∧ w'.cell? ⟨gr, ao + i * 5 + 1 + 2, none⟩ = some (.int .i64 (C i 2)) ∧ w'.cell? ⟨gr, ao + i * 5 + 1 + 3, none⟩ = some (.int .i64 (C i 3))) (ds := []) #[false, false, false, false, false, false, false, false, false, false, false, false, false, false, false, false, false, false, false, false, false, false, false] (by kernel_rfl) rfl rfl ⟨ga, gx0, gx1, gx2, gx3, gi0, gi1, gi2, gi3⟩ (fun hHeld => ?_)
            refine with_tabW ref.tab ref.bits (fun HT_ HW_ => ?_)
            have HG := Aside0.mk (Below.refl wr.heap.size wr).drew
            refine pure_ (i := 0) (N := some 13) (v := ?_) (a' := ?_) #[true, false, false, false, false, false, false, false, false, false, false, false, false, false, false, false, false, false, false, false, false, false, false] rfl rfl (any_of HT_.out (by kernel_rfl)) (fun _ _ _ h => h) (Or.inl ⟨by rfl, ?_⟩) ?_ ?_
            rotate_left
            · intro w'
              go_simp
              with_reducible rfl
            rotate_left
            · simp only [Act.put, List.setIfInBounds_toArray, List.set_cons_zero, List.set_cons_succ, i64_w, i32_w]
              rfl
            refine pure_ (i := 1) (N := some 14) (v := ?_) (a' := ?_) #[true, true, false, false, false, false, false, false, false, false, false, false, false, false, false, false, false, false, false, false, false, false, false] rfl rfl (any_of HT_.out (by kernel_rfl)) (fun _ _ _ h => h) (Or.inl ⟨by rfl, ?_⟩) ?_ ?_
            rotate_left
            · intro w'
              go_simp
              with_reducible rfl
            rotate_left
            · simp only [Act.put, List.setIfInBounds_toArray, List.set_cons_zero, List.set_cons_succ, i64_w, i32_w]
              rfl
            refine pure_ (i := 2) (N := some 15) (v := ?_) (a' := ?_) #[true, true, true, false, false, false, false, false, false, false, false, false, false, false, false, false, false, false, false, false, false, false, false] rfl rfl (any_of HT_.out (by kernel_rfl)) (fun _ _ _ h => h) (Or.inl ⟨by rfl, ?_⟩) ?_ ?_
            rotate_left
            · intro w'
              go_simp
              with_reducible rfl
            rotate_left
            · simp only [Act.put, List.setIfInBounds_toArray, List.set_cons_zero, List.set_cons_succ, i64_w, i32_w]
              rfl
            refine pure_ (i := 3) (N := some 16) (v := ?_) (a' := ?_) #[true, true, true, true, false, false, false, false, false, false, false, false, false, false, false, false, false, false, false, false, false, false, false] rfl rfl (any_of HT_.out (by kernel_rfl)) (fun _ _ _ h => h) (Or.inl ⟨by rfl, ?_⟩) ?_ ?_
            rotate_left
            · intro w'
              go_simp
              with_reducible rfl
            rotate_left
            · simp only [Act.put, List.setIfInBounds_toArray, List.set_cons_zero, List.set_cons_succ, i64_w, i32_w]
              rfl
            refine pure_ (i := 4) (N := some 17) (v := ?_) (a' := ?_) #[true, true, true, true, true, false, false, false, false, false, false, false, false, false, false, false, false, false, false, false, false, false, false] rfl rfl (any_of HT_.out (by kernel_rfl)) (fun _ _ _ h => h) (Or.inl ⟨by rfl, ?_⟩) ?_ ?_
            rotate_left
            · intro w'
              go_simp
              with_reducible rfl
            rotate_left
            · simp only [Act.put, List.setIfInBounds_toArray, List.set_cons_zero, List.set_cons_succ, i64_w, i32_w]
              rfl
            refine pure_ (i := 5) (N := some 18) (v := ?_) (a' := ?_) #[true, true, true, true, true, true, false, false, false, false, false, false, false, false, false, false, false, false, false, false, false, false, false] rfl rfl (any_of HT_.out (by kernel_rfl)) (fun _ _ _ h => h) (Or.inl ⟨by rfl, ?_⟩) ?_ ?_
            rotate_left
            · intro w'
              go_simp
              with_reducible rfl
            rotate_left
            · simp only [Act.put, List.setIfInBounds_toArray, List.set_cons_zero, List.set_cons_succ, i64_w, i32_w]
              rfl
            refine pure_ (i := 6) (N := some 19) (v := ?_) (a' := ?_) #[true, true, true, true, true, true, true, false, false, false, false, false, false, false, false, false, false, false, false, false, false, false, false] rfl rfl (any_of HT_.out (by kernel_rfl)) (fun _ _ _ h => h) (Or.inl ⟨by rfl, ?_⟩) ?_ ?_
            rotate_left
            · intro w'
              go_simp
              with_reducible rfl
            rotate_left
            · simp only [Act.put, List.setIfInBounds_toArray, List.set_cons_zero, List.set_cons_succ, i64_w, i32_w]
              rfl
            refine pure_ (i := 7) (N := some 20) (v := ?_) (a' := ?_) #[true, true, true, true, true, true, true, true, false, false, false, false, false, false, false, false, false, false, false, false, false, false, false] rfl rfl (any_of HT_.out (by kernel_rfl)) (fun _ _ _ h => h) (Or.inl ⟨by rfl, ?_⟩) ?_ ?_
            rotate_left
            · intro w'
              go_simp
              with_reducible rfl
            rotate_left
            · simp only [Act.put, List.setIfInBounds_toArray, List.set_cons_zero, List.set_cons_succ, i64_w, i32_w]
              rfl
            refine pure_ (i := 8) (N := some 21) (v := ?_) (a' := ?_) #[true, true, true, true, true, true, true, true, true, false, false, false, false, false, false, false, false, false, false, false, false, false, false] rfl rfl (any_of HT_.out (by kernel_rfl)) (fun _ _ _ h => h) (Or.inl ⟨by rfl, ?_⟩) ?_ ?_
            rotate_left
            · intro w'
              go_simp
              with_reducible rfl
            rotate_left
            · simp only [Act.put, List.setIfInBounds_toArray, List.set_cons_zero, List.set_cons_succ, i64_w, i32_w]
              rfl
            refine take_ (i := 9) (N := some 22) (v := ?_) (a' := ?_) #[true, true, true, true, true, true, true, true, true, true, false, false, false, false, false, false, false, false, false, false, false, false, false] rfl rfl (take_ofW HT_.out HW_.out (by kernel_rfl)) (fun _ _ _ h => h) (Or.inl ⟨by rfl, ?_⟩) hHeld ?_ ?_
            rotate_left
            · rintro w' ⟨s0, s1, s2, s3, s4, s5, s6, s7, s8⟩
              go_simp
              with_reducible rfl
            rotate_left
            · simp only [Act.put, List.setIfInBounds_toArray, List.set_cons_zero, List.set_cons_succ, i64_w, i32_w]
              rfl
            refine pure_ (i := 10) (N := some 23) (v := ?_) (a' := ?_) #[true, true, true, true, true, true, true, true, true, true, true, false, false, false, false, false, false, false, false, false, false, false, false] rfl rfl (any_of HT_.out (by kernel_rfl)) (fun _ _ _ h => h) (Or.inl ⟨by rfl, ?_⟩) ?_ ?_
            rotate_left
            · intro w'
              go_simp
              with_reducible rfl
            rotate_left
            · simp only [Act.put, List.setIfInBounds_toArray, List.set_cons_zero, List.set_cons_succ, i64_w, i32_w]
              rfl
            refine pure_ (i := 11) (N := some 24) (v := ?_) (a' := ?_) #[true, true, true, true, true, true, true, true, true, true, true, true, false, false, false, false, false, false, false, false, false, false, false] rfl rfl (any_of HT_.out (by kernel_rfl)) (fun _ _ _ h => h) (Or.inl ⟨by rfl, ?_⟩) ?_ ?_
            rotate_left
            · intro w'
              go_simp
              with_reducible rfl
            rotate_left
            · simp only [Act.put, List.setIfInBounds_toArray, List.set_cons_zero, List.set_cons_succ, i64_w, i32_w]
              rfl
            refine take_ (i := 12) (N := some 25) (v := ?_) (a' := ?_) #[true, true, true, true, true, true, true, true, true, true, true, true, true, false, false, false, false, false, false, false, false, false, false] rfl rfl (take_ofW HT_.out HW_.out (by kernel_rfl)) (fun _ _ _ h => h) (Or.inl ⟨by rfl, ?_⟩) hHeld ?_ ?_
            rotate_left
            · rintro w' ⟨s0, s1, s2, s3, s4, s5, s6, s7, s8⟩
              go_simp
              with_reducible rfl
            rotate_left
            · simp only [Act.put, List.setIfInBounds_toArray, List.set_cons_zero, List.set_cons_succ, i64_w, i32_w]
              rfl
            refine pure_ (i := 14) (N := some 27) (v := ?_) (a' := ?_) #[true, true, true, true, true, true, true, true, true, true, true, true, true, false, true, false, false, false, false, false, false, false, false] rfl rfl (any_of HT_.out (by kernel_rfl)) (fun _ _ _ h => h) (Or.inl ⟨by rfl, ?_⟩) ?_ ?_
            rotate_left
            · intro w'
              go_simp
              with_reducible rfl
            rotate_left
            · simp only [Act.put, List.setIfInBounds_toArray, List.set_cons_zero, List.set_cons_succ, i64_w, i32_w]
              rfl
            refine pure_ (i := 15) (N := some 28) (v := ?_) (a' := ?_) #[true, true, true, true, true, true, true, true, true, true, true, true, true, false, true, true, false, false, false, false, false, false, false] rfl rfl (any_of HT_.out (by kernel_rfl)) (fun _ _ _ h => h) (Or.inl ⟨by rfl, ?_⟩) ?_ ?_
            rotate_left
            · intro w'
              go_simp
              with_reducible rfl
            rotate_left
            · simp only [Act.put, List.setIfInBounds_toArray, List.set_cons_zero, List.set_cons_succ, i64_w, i32_w]
              rfl
            refine pure_ (i := 16) (N := some 29) (v := ?_) (a' := ?_) #[true, true, true, true, true, true, true, true, true, true, true, true, true, false, true, true, true, false, false, false, false, false, false] rfl rfl (any_of HT_.out (by kernel_rfl)) (fun _ _ _ h => h) (Or.inl ⟨by rfl, ?_⟩) ?_ ?_
            rotate_left
            · intro w'
              go_simp
              with_reducible rfl
            rotate_left
            · simp only [Act.put, List.setIfInBounds_toArray, List.set_cons_zero, List.set_cons_succ, i64_w, i32_w]
              rfl
            refine pure_ (i := 17) (N := some 30) (v := ?_) (a' := ?_) #[true, true, true, true, true, true, true, true, true, true, true, true, true, false, true, true, true, true, false, false, false, false, false] rfl rfl (any_of HT_.out (by kernel_rfl)) (fun _ _ _ h => h) (Or.inl ⟨by rfl, ?_⟩) ?_ ?_
            rotate_left
            · intro w'
              go_simp
              with_reducible rfl
            rotate_left
            · simp only [Act.put, List.setIfInBounds_toArray, List.set_cons_zero, List.set_cons_succ, i64_w, i32_w]
              rfl
            refine take_ (i := 18) (N := some 31) (v := ?_) (a' := ?_) #[true, true, true, true, true, true, true, true, true, true, true, true, true, false, true, true, true, true, true, false, false, false, false] rfl rfl (take_ofW HT_.out HW_.out (by kernel_rfl)) (fun _ _ _ h => h) (Or.inl ⟨by rfl, ?_⟩) hHeld ?_ ?_
            rotate_left
            · rintro w' ⟨s0, s1, s2, s3, s4, s5, s6, s7, s8⟩
              go_simp
              with_reducible rfl
            rotate_left
            · simp only [Act.put, List.setIfInBounds_toArray, List.set_cons_zero, List.set_cons_succ, i64_w, i32_w]
              rfl
            refine one_ (i := 13) (N := some 26) #[true, true, true, true, true, true, true, true, true, true, true, true, true, true, true, true, true, true, true, false, false, false, false] rfl rfl (one_of HT_.out (by kernel_rfl)) (by decide) (fun K hK => ?_)
            refine goes_ Try.func17 (by kernel_rfl) rfl #[.agg #[.int .i64 (C x 0), .int .i64 (C x 1), .int .i64 (C x 2), .int .i64 (C x 3)]] (by rfl) rfl rfl (by (try simp only [List.map_toArray, List.map_cons, List.map_nil]); first | done | rfl) ?_
            refine (refmean_calls _ _ _ _ _).mono ?_
            rintro e wr1 ⟨⟨r1, rfl, hr1⟩, hg⟩
            refine ⟨_, rfl, ?_⟩
            replace HG := Aside0.mk (HG.out.trans (hg.mono HG.out.size))
            refine hK.out _ _ ⟨keepb hg hHeld.1, keepb hg hHeld.2.1, keepb hg hHeld.2.2.1, keepb hg hHeld.2.2.2.1, keepb hg hHeld.2.2.2.2.1, keepb hg hHeld.2.2.2.2.2.1, keepb hg hHeld.2.2.2.2.2.2.1, keepb hg hHeld.2.2.2.2.2.2.2.1, keepb hg hHeld.2.2.2.2.2.2.2.2⟩ (fun hHeld => ?_)
            clear hK K
            refine norm_ (a' := ?_) ?_ ?_
            rotate_left
            · show Act.put _ (some 26) _ = _
              simp only [Act.put, List.setIfInBounds_toArray, List.set_cons_zero, List.set_cons_succ, i64_w, i32_w]
              rfl
            refine one_ (i := 19) (N := some 32) #[true, true, true, true, true, true, true, true, true, true, true, true, true, true, true, true, true, true, true, true, false, false, false] rfl rfl (one_of HT_.out (by kernel_rfl)) (by decide) (fun K hK => ?_)
            refine goes_ Try.func17 (by kernel_rfl) rfl #[.agg #[.int .i64 (C i 0), .int .i64 (C i 1), .int .i64 (C i 2), .int .i64 (C i 3)]] (by rfl) rfl rfl (by (try simp only [List.map_toArray, List.map_cons, List.map_nil]); first | done | rfl) ?_
            refine (refmean_calls _ _ _ _ _).mono ?_
            rintro e wr2 ⟨⟨r2, rfl, hr2⟩, hg⟩
            refine ⟨_, rfl, ?_⟩
            replace HG := Aside0.mk (HG.out.trans (hg.mono HG.out.size))
            refine hK.out _ _ ⟨keepb hg hHeld.1, keepb hg hHeld.2.1, keepb hg hHeld.2.2.1, keepb hg hHeld.2.2.2.1, keepb hg hHeld.2.2.2.2.1, keepb hg hHeld.2.2.2.2.2.1, keepb hg hHeld.2.2.2.2.2.2.1, keepb hg hHeld.2.2.2.2.2.2.2.1, keepb hg hHeld.2.2.2.2.2.2.2.2⟩ (fun hHeld => ?_)
            clear hK K
            refine norm_ (a' := ?_) ?_ ?_
            rotate_left
            · show Act.put _ (some 32) _ = _
              simp only [Act.put, List.setIfInBounds_toArray, List.set_cons_zero, List.set_cons_succ, i64_w, i32_w]
              rfl
            refine one_ (i := 20) (N := some 33) #[true, true, true, true, true, true, true, true, true, true, true, true, true, true, true, true, true, true, true, true, true, false, false] rfl rfl (one_of HT_.out (by kernel_rfl)) (by decide) (fun K hK => ?_)
            refine goes_ Try.func23 (by kernel_rfl) rfl #[.float .f64 r1, .float .f64 r2] (by rfl) rfl rfl (by (try simp only [List.map_toArray, List.map_cons, List.map_nil]); first | done | rfl) ?_
            refine (refcmp_calls r1 r2 _).mono ?_
            rintro e w8 ⟨rfl, hd⟩
            have hg := below_drawn hd
            have zN0 := ref_le (HBD.out x (by omega)).1 (HBD.out x (by omega)).2 (HBD.out i (by omega)).1 (HBD.out i (by omega)).2 hr1 hr2
            rw [decide_eq_false (show ¬ (keyI (C x 0) (C x 1) ≤ keyI (C i 0) (C i 1)) from by have := HLE.out; omega)] at zN0
            generalize refI r1 r2 = NN at *
            refine ⟨_, rfl, ?_⟩
            replace HG := Aside0.mk (HG.out.trans (hg.mono HG.out.size))
            refine hK.out _ _ ⟨keepb hg hHeld.1, keepb hg hHeld.2.1, keepb hg hHeld.2.2.1, keepb hg hHeld.2.2.2.1, keepb hg hHeld.2.2.2.2.1, keepb hg hHeld.2.2.2.2.2.1, keepb hg hHeld.2.2.2.2.2.2.1, keepb hg hHeld.2.2.2.2.2.2.2.1, keepb hg hHeld.2.2.2.2.2.2.2.2⟩ (fun hHeld => ?_)
            clear hK K
            refine norm_ (a' := ?_) ?_ ?_
            rotate_left
            · show Act.put _ (some 33) _ = _
              simp only [Act.put, List.setIfInBounds_toArray, List.set_cons_zero, List.set_cons_succ, i64_w, i32_w]
              rfl
            refine pure_ (i := 21) (N := some 34) (v := ?_) (a' := ?_) #[true, true, true, true, true, true, true, true, true, true, true, true, true, true, true, true, true, true, true, true, true, true, false] rfl rfl (any_of HT_.out (by kernel_rfl)) (fun _ _ _ h => h) (Or.inl ⟨by rfl, ?_⟩) ?_ ?_
            rotate_left
            · intro w'
              go_simp
              with_reducible rfl
            rotate_left
            · simp only [Act.put, List.setIfInBounds_toArray, List.set_cons_zero, List.set_cons_succ, i64_w, i32_w]
              rfl
            refine pure_ (i := 22) (N := some 35) (v := ?_) (a' := ?_) #[true, true, true, true, true, true, true, true, true, true, true, true, true, true, true, true, true, true, true, true, true, true, true] rfl rfl (any_of HT_.out (by kernel_rfl)) (fun _ _ _ h => h) (Or.inl ⟨by rfl, ?_⟩) ?_ ?_
            rotate_left
            · intro w'
              go_simp
              with_reducible rfl
            rotate_left
            · simp only [Act.put, List.setIfInBounds_toArray, List.set_cons_zero, List.set_cons_succ, i64_w, i32_w]
              rfl
            refine done_ (done_of HT_.out (by kernel_rfl)) ?_
            clear gx0 gx1 gx2 gx3 gi0 gi1 gi2 gi3
            have HN2 := Aside0.mk (Kd.R_below HN.out HG.out)
            have HW2 := Aside0.mk (HW.out.trans (HG.out.mono HW.out.size))
            clear HN HW ga HG hr1 hr2
            have HN := HN2
            have HW := HW2
            clear HN2 HW2
            have HSf : Aside0 (∀ y, ns[k]? = some y → keyI (C i 0) (C i 1) < keyI (C y 0) (C y 1)) := ⟨fun y hy => by
              have h3 := HX.out.symm.trans hy
              obtain rfl := Option.some.inj h3
              have := HLE.out
              omega⟩
            clear HLE
            generalize hAA : (some ad : Option Addr) = A at *
            -- behind the inner loop: append(next, i); append(next, out[k:]...)
            have hcut := cut_from 35 3 .i64 Try.underlying35 hi0 1 hz1 A i c0 (k : Int) (by omega) (by omega)
            rw [Int.toNat_natCast, Nat.mul_one] at hcut
            obtain ⟨A1, hA1⟩ : ∃ z, z = (if c0 = k then A else A.map (·.add k)) := ⟨_, rfl⟩
            rw [← hA1] at hcut
            have LN := Aside0.mk (show ((ns.take k).map (fun z : Nat => (z : Int))).length ≤ 200 from by rw [List.length_map, List.length_take]; omega)
            have LR := Aside0.mk (show (((ns.take k).map (fun z : Nat => (z : Int))) ++ [(i : Int)]).length + (i - k) ≤ 500 from by rw [List.length_append, List.length_map, List.length_take, List.length_singleton]; omega)
            have HDR : Aside0 (∀ W, Below wo.heap.size wo W → ReadsRow ((Kd.int .i64).K wo) (Kd.int .i64).sz W A1 (i - k) ((ns.drop k).map (fun z : Nat => (z : Int)))) := ⟨fun W hb => by
              have h := Kd.C_drop (m := k) (Kd.C_below HC0.out hb) (by rw [List.length_map, hnl.out]; exact hki) (by rw [List.length_map, hnl.out]; exact hic)
              rw [← List.map_drop, List.length_map, List.length_drop, hnl.out] at h
              have e : k * (Kd.int .i64).sz = k := Nat.mul_one k
              rw [e, ← hA1] at h
              exact h⟩
            clear hA1
            go_wp2_with (first | ((with_reducible refine gate_builtin (b := .append) (xs := #[.tmp 45, .tmp 47]) rfl ?_); at_builtin; refine Kd.R_append (Kd.int .i64) (w0 := wo) wo.heap.size rfl (.tmp 45) (.tmp 47) 35 3 (.int .i64 0) 8 rfl Try.underlying35 info3 rfl (by decide) (by omega) _ ((ns.take k).map (fun z : Nat => (z : Int))) (i : Int) [.int .i64 (i : Int)] (fun _ => True) (fun _ => False) rfl rfl ?aP (fun _ hk => hk.elim) ?aF ?aO ?aB ?aS ?aL ?_; (case aP => exact rfl); (case aB => exact (by repeat (first | (with_reducible first | exact HW.out | apply below_alloc | apply pw_below_drewN | apply below_drew1) | exact HW.out))); (case aF => exact (fun _ _ => trivial)); (case aO => exact (by (with_reducible repeat (first | apply Kd.R_alloc | apply Kd.R_drewN | apply Kd.R_drew)); exact HN.out)); (case aS => exact (below_size (by repeat (first | (with_reducible first | exact HW.out | apply below_alloc | apply pw_below_drewN | apply below_drew1) | exact HW.out)))); (case aL => have := LN.out; omega); intro v10 w10 ho hb hg hat; have n0_ := Aside0.mk (hb); have n1_ := Aside0.mk (ho); clear HW; clear HN; have HW := n0_; have HN := n1_; clear n0_ n1_; clear ho hb hg hat) | ((with_reducible refine gate_builtin (b := .append) (xs := #[.tmp 49, .tmp 52]) rfl ?_); at_builtin; refine Kd.R_append_rows (Kd.int .i64) (Rr := (Kd.int .i64).K wo) (w0 := wo) wo.heap.size rfl (.tmp 49) (.tmp 52) 35 3 (.int .i64 0) 8 rfl Try.underlying35 info3 rfl (by decide) (by omega) _ (((ns.take k).map (fun z : Nat => (z : Int))) ++ [(i : Int)]) ((ns.drop k).map (fun z : Nat => (z : Int))) _ _ _ (fun _ => True) (fun _ => False) rfl rfl ?aO ?aR (fun _ _ h => h) (fun _ hk => hk.elim) (fun _ _ => trivial) ?aB ?aS ?aL ?_; (case aO => exact (by (with_reducible repeat (first | apply Kd.R_alloc | apply Kd.R_drewN | apply Kd.R_drew)); exact HN.out)); (case aR => exact (HDR.out _ (by repeat (first | (with_reducible first | exact HW.out | apply below_alloc | apply pw_below_drewN | apply below_drew1) | exact HW.out)))); (case aB => exact (by repeat (first | (with_reducible first | exact HW.out | apply below_alloc | apply pw_below_drewN | apply below_drew1) | exact HW.out))); (case aS => exact (below_size (by repeat (first | (with_reducible first | exact HW.out | apply below_alloc | apply pw_below_drewN | apply below_drew1) | exact HW.out)))); (case aL => have := LR.out; omega); intro v11 w11 ho hb hg hat; have n0_ := Aside0.mk (hb); have n1_ := Aside0.mk (ho); clear HW; clear HN; have HW := n0_; have HN := n1_; clear n0_ n1_; clear ho hb hg hat))
            go_roundg (m - i)
            case measure => omega
            case rel => exact ⟨i + 1, ns.take k ++ [i] ++ ns.drop k, by go_num, by omega, by omega, ⟨HGd.out.ins hki HPf.out HSf.out⟩, ⟨by
                have h := Kd.R_lower HN.out HBo.out.size
                rw [List.map_append, List.map_append]
                exact h⟩, ⟨HBo.out.trans (HW.out.mono HBo.out.size)⟩⟩
        · have c1z : decide ((k : Int) < (i : Int)) = false := by rw [decide_eq_false_iff_not]; omega
          have HSf : Aside0 (∀ y, ns[k]? = some y → keyI (C i 0) (C i 1) < keyI (C y 0) (C y 1)) := ⟨fun y hy => by
            rw [List.getElem?_eq_none (by rw [hnl.out]; omega)] at hy; cases hy⟩
          go_wp2_with fail
          go_big_region_o
          have HN2 := Aside0.mk (Kd.R_below HN.out (Below.refl _ _).drew)
          have HW2 := Aside0.mk HW.out.drew
          clear HN HW
          generalize wr.drew = w9 at HN2 HW2 ⊢
          have HN := HN2
          have HW := HW2
          clear HN2 HW2
          -- behind the inner loop: append(next, i); append(next, out[k:]...)
          have hcut := cut_from 35 3 .i64 Try.underlying35 hi0 1 hz1 A i c0 (k : Int) (by omega) (by omega)
          rw [Int.toNat_natCast, Nat.mul_one] at hcut
          obtain ⟨A1, hA1⟩ : ∃ z, z = (if c0 = k then A else A.map (·.add k)) := ⟨_, rfl⟩
          rw [← hA1] at hcut
          have LN := Aside0.mk (show ((ns.take k).map (fun z : Nat => (z : Int))).length ≤ 200 from by rw [List.length_map, List.length_take]; omega)
          have LR := Aside0.mk (show (((ns.take k).map (fun z : Nat => (z : Int))) ++ [(i : Int)]).length + (i - k) ≤ 500 from by rw [List.length_append, List.length_map, List.length_take, List.length_singleton]; omega)
          have HDR : Aside0 (∀ W, Below wo.heap.size wo W → ReadsRow ((Kd.int .i64).K wo) (Kd.int .i64).sz W A1 (i - k) ((ns.drop k).map (fun z : Nat => (z : Int)))) := ⟨fun W hb => by
            have h := Kd.C_drop (m := k) (Kd.C_below HC0.out hb) (by rw [List.length_map, hnl.out]; exact hki) (by rw [List.length_map, hnl.out]; exact hic)
            rw [← List.map_drop, List.length_map, List.length_drop, hnl.out] at h
            have e : k * (Kd.int .i64).sz = k := Nat.mul_one k
            rw [e, ← hA1] at h
            exact h⟩
          clear hA1
          go_wp2_with (first | ((with_reducible refine gate_builtin (b := .append) (xs := #[.tmp 45, .tmp 47]) rfl ?_); at_builtin; refine Kd.R_append (Kd.int .i64) (w0 := wo) wo.heap.size rfl (.tmp 45) (.tmp 47) 35 3 (.int .i64 0) 8 rfl Try.underlying35 info3 rfl (by decide) (by omega) _ ((ns.take k).map (fun z : Nat => (z : Int))) (i : Int) [.int .i64 (i : Int)] (fun _ => True) (fun _ => False) rfl rfl ?aP (fun _ hk => hk.elim) ?aF ?aO ?aB ?aS ?aL ?_; (case aP => exact rfl); (case aB => exact (by repeat (first | (with_reducible first | exact HW.out | apply below_alloc | apply pw_below_drewN | apply below_drew1) | exact HW.out))); (case aF => exact (fun _ _ => trivial)); (case aO => exact (by (with_reducible repeat (first | apply Kd.R_alloc | apply Kd.R_drewN | apply Kd.R_drew)); exact HN.out)); (case aS => exact (below_size (by repeat (first | (with_reducible first | exact HW.out | apply below_alloc | apply pw_below_drewN | apply below_drew1) | exact HW.out)))); (case aL => have := LN.out; omega); intro v10 w10 ho hb hg hat; have n0_ := Aside0.mk (hb); have n1_ := Aside0.mk (ho); clear HW; clear HN; have HW := n0_; have HN := n1_; clear n0_ n1_; clear ho hb hg hat) | ((with_reducible refine gate_builtin (b := .append) (xs := #[.tmp 49, .tmp 52]) rfl ?_); at_builtin; refine Kd.R_append_rows (Kd.int .i64) (Rr := (Kd.int .i64).K wo) (w0 := wo) wo.heap.size rfl (.tmp 49) (.tmp 52) 35 3 (.int .i64 0) 8 rfl Try.underlying35 info3 rfl (by decide) (by omega) _ (((ns.take k).map (fun z : Nat => (z : Int))) ++ [(i : Int)]) ((ns.drop k).map (fun z : Nat => (z : Int))) _ _ _ (fun _ => True) (fun _ => False) rfl rfl ?aO ?aR (fun _ _ h => h) (fun _ hk => hk.elim) (fun _ _ => trivial) ?aB ?aS ?aL ?_; (case aO => exact (by (with_reducible repeat (first | apply Kd.R_alloc | apply Kd.R_drewN | apply Kd.R_drew)); exact HN.out)); (case aR => exact (HDR.out _ (by repeat (first | (with_reducible first | exact HW.out | apply below_alloc | apply pw_below_drewN | apply below_drew1) | exact HW.out)))); (case aB => exact (by repeat (first | (with_reducible first | exact HW.out | apply below_alloc | apply pw_below_drewN | apply below_drew1) | exact HW.out))); (case aS => exact (below_size (by repeat (first | (with_reducible first | exact HW.out | apply below_alloc | apply pw_below_drewN | apply below_drew1) | exact HW.out)))); (case aL => have := LR.out; omega); intro v11 w11 ho hb hg hat; have n0_ := Aside0.mk (hb); have n1_ := Aside0.mk (ho); clear HW; clear HN; have HW := n0_; have HN := n1_; clear n0_ n1_; clear ho hb hg hat))
          go_roundg (m - i)
          case measure => omega
          case rel => exact ⟨i + 1, ns.take k ++ [i] ++ ns.drop k, by go_num, by omega, by omega, ⟨HGd.out.ins hki HPf.out HSf.out⟩, ⟨by
              have h := Kd.R_lower HN.out HBo.out.size
              rw [List.map_append, List.map_append]
              exact h⟩, ⟨HBo.out.trans (HW.out.mono HBo.out.size)⟩⟩
    · obtain rfl : i = m + 1 := by omega
      have hltz : ¬ (((m + 1 : Nat) : Int) < (m : Int) + 1) := by omega
      go_wp2_with fail
      go_ret
      exact ⟨⟨_, rfl, ns, HGd.out, HO.out⟩, HBo.out⟩
end Go.Proofs.Ytmgocfcbkejgdaa.RankSort
