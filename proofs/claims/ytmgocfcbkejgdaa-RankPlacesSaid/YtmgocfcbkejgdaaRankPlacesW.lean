/- What is proved here: the law RankPlaces returns true whatever row came in (conditions: those that each theorem names). -/
import Derived.Test.YtmgocfcbkejgdaaRankPlaceFacts
import Derived.Test.YtmgocfcbkejgdaaRankKnown
namespace Go.Proofs.Ytmgocfcbkejgdaa.RankSort
set_option linter.unusedSimpArgs false
set_option linter.unusedVariables false
open Go.Shelf Go.RowKit Go.Lib Go.Sort Go.Proofs Go.Proofs.Ytmgocfcbkejgdaa.RankBase Go.Proofs.Ytmgocfcbkejgdaa.RankMerge
open Go.Proofs.YtmgocfcbkejgdaaW.PrintWords Go.Proofs.YtmgocfcbkejgdaaW.PrintLast Go.Proofs.YtmgocfcbkejgdaaW.PrintMore
open Go.Proofs.Ytmgocfcbkejgdaa.PRankOrders
def plc.T : Bool × List (List Nat × List Nat) := (true, [([], []), ([], []), ([], []), ([2], [2]), ([1, 3], [1, 3]), ([4], [4]), ([0, 5], [0, 5]), ([6], [6]), ([7], [7]), ([], []), ([], []), ([], []), ([10, 11], [10, 11]), ([12], [12]), ([9, 13], [9, 13]), ([14], [14]), ([15, 8], [15]), ([8, 16, 16], [8, 16]), ([17, 17, 0, 1, 2, 3, 4, 5, 6, 7, 8, 9, 10, 11, 12, 13, 14, 15, 16, 17], [17])])
def plc.B : List Nat := [0, 0, 0, 4, 14, 30, 63, 127, 255, 0, 0, 0, 3072, 7168, 15872, 32256, 65535, 131071, 262143]
theorem plc.tab : rtab .any (opsOf Try.f6 12) = plc.T := by kernel_rfl
theorem plc.bits : waitsOk plc.T.2 plc.B = true := by kernel_rfl
set_option maxHeartbeats 16000000 in
set_option maxRecDepth 1000000 in
theorem places_some (l : List S23) (ad : Addr) (c m : Nat) (w : World) (hC : Kd.C k23 w (some ad) l.length l) (hc : l.length ≤ c) (hm : l.length = m + 1) (hl : m + 1 ≤ 200)
    (hrow : ∀ i, i < l.length → w.cell? (ad.add (i * 4)) = some (.int .i64 (cellN l i 0)) ∧ w.cell? ⟨(ad.add (i * 4)).block, (ad.add (i * 4)).off + 1, none⟩ = some (.int .i64 (cellN l i 1)) ∧
      w.cell? ⟨(ad.add (i * 4)).block, (ad.add (i * 4)).off + 2, none⟩ = some (.int .i64 (cellN l i 2)) ∧ w.cell? ⟨(ad.add (i * 4)).block, (ad.add (i * 4)).off + 3, none⟩ = some (.int .i64 (cellN l i 3))) :
    Calls Try.prog 6 #[.slice (some ad) (m + 1) c] w fun e w' => e = .returned (.bool true) ∧ Below w.heap.size w w' := by
  have mixed : Try.prog.follows Departure.mixedOrders = true := by kernel_rfl
  have u3 := Try.underlying3
  have u34 := Try.underlying34
  have u35 := Try.underlying35
  have z200 : decide ((m : Int) + 1 > 200) = false := by rw [decide_eq_false_iff_not]; omega
  have HROWS : ∀ W, Below w.heap.size w W → Calls Try.prog 16 #[.slice (some ad) (m + 1) c] W fun e w' => (∃ g cap, e = .returned (.slice (some ⟨g, 0, none⟩) (m + 1) cap) ∧ (∀ i, i < m + 1 → ∀ j, j < 4 → w'.cell? ⟨g, 0 + i * 5 + 1 + j, none⟩ = some (.int .i64 (cellN l i j)))) ∧ Below W.heap.size W w' := fun W hB => by
    have h := rows_get l (some ad) c W (Kd.C_below hC hB) hc (by omega) (by omega)
    rw [hm] at h
    exact h
  have HR := Aside0.mk HROWS
  have HL := Aside0.mk hrow
  have HM := Aside0.mk hm
  clear hC hc HROWS hrow hm
  go_enter Try.func6, Try.ntmps6
  go_wp2_with (first
    | (go_at_call 11; refine (known_calls _).mono ?_; rintro e w1 ⟨rfl, hB1⟩)
    | (go_at_call 16; refine (HR.out _ hB1).mono ?_; rintro e w2 ⟨⟨g0, cap0, rfl, hcells⟩, hB2⟩; have HCL := Aside0.mk hcells; clear hcells)
    | (go_at_call 15; refine (order_gen g0 0 m cap0 (cellN l) _ (by omega) HCL.out).mono ?_; rintro e w3 ⟨⟨g, cap, d, rfl, hcap, hg, hgs, hp, hH⟩, hB3⟩; have HP := Aside0.mk hp; have HH := Aside0.mk hH; clear hp hH)
    | (at_make; refine Kd.R_make (Kd.int .i64) (w0 := _) _ 3 rfl rfl 35 (.tmp 19) (.tmp 19) rfl (((m + 1 : Nat)) : Int) rfl rfl Try.underlying35 (.int .i64 0) 8 info3 rfl (by decide) (by omega) (0 : Int) (ok := fun _ => True) (okp := fun _ => False) rfl (fun _ h => h.elim) trivial (by omega) (by omega) (Below.refl _ _) (Nat.le_refl _) ?_; intro v4 w4 hR4 hB4 hg4 hat4))
  have hlen : (List.replicate (((m + 1 : Nat) : Int)).toNat (0 : Int)).length = m + 1 := by simp
  obtain ⟨s, caps, hv, hcs, hbs, hss, hS0⟩ := open_ints hR4 (by rw [hlen]; omega)
  rw [hlen] at hv hcs
  subst hv
  have b2 := hB1.trans (hB2.mono hB1.size)
  have b3 := b2.trans (hB3.mono b2.size)
  have b4 := b3.trans (hB4.mono b3.size)
  have hds : d.size = m + 1 := by rw [HP.out.1.1, idArr_size]
  have F0 : Aside (PF m l ad d w g s 0 w4) := ⟨b4, ⟨Nat.lt_of_lt_of_le hgs hB4.size, hss, by omega, Nat.le_trans b3.size hbs⟩,
    fun j hj => keepb hB4 (by have := (HH.out j (by omega)).1; rw [Nat.zero_add] at this; exact this),
    fun p hp => by
      have := hS0 p 0 (by rw [List.getElem?_replicate, if_pos (by simpa using hp)])
      rw [seenF_zero]; exact this,
    fun i hi => by
      obtain ⟨r1, r2, r3, r4⟩ := HL.out i (by rw [HM.out]; exact hi)
      exact ⟨keepb b4 r1, keepb b4 r2, keepb b4 r3, keepb b4 r4⟩,
    fun i hi => World.block_lt_of_cell? w _ (HL.out i (by rw [HM.out]; exact hi)).1⟩
  clear hS0 hR4 hB1 hB2 hB3 hB4 hg4 hat4 HCL b2 b3 b4 HL HR HH hlen hcs hbs hss hg hgs
  go_loopg [5] (m + 1) (fun g1 vi wr => ∃ i : Nat, vi = .int .i64 i ∧ i ≤ m + 1 ∧ m + 1 - i ≤ g1 ∧ Aside (PF m l ad d w g s i wr))
  case atStart => exact ⟨0, rfl, by omega, by omega, F0⟩
  case round =>
    clear F0
    obtain ⟨i, rfl, him, hg1, F⟩ := hrel
    by_cases hlt : i < m + 1
    · have hltz : (i : Int) < (m : Int) + 1 := by omega
      obtain ⟨x, hx⟩ : ∃ x, x = (d[i]!).val := ⟨_, rfl⟩
      have hxl : x < m + 1 := by rw [hx]; exact (d[i]!).isLt
      have hx0 : (0 : Int) ≤ (x : Int) := by omega
      have hxz : (x : Int) < (m : Int) + 1 := by omega
      have z1 : decide ((x : Int) < 0) = false := by rw [decide_eq_false_iff_not]; omega
      have z2 : decide ((x : Int) ≥ (m : Int) + 1) = false := by rw [decide_eq_false_iff_not]; omega
      have ca : wr.cell? ⟨g, i, none⟩ = some (.int .i64 (x : Int)) := by rw [hx]; exact F.out.ord i hlt
      have cs : wr.cell? ⟨s, x, none⟩ = some (.int .i64 0) := by
        have h := (F.out.seen x hxl).1
        rw [hx, seenF_new HP.out.1 hlt, ← hx] at h
        exact h
      have fs : wr.frozen? ⟨s, x, none⟩ = false := (F.out.seen x hxl).2
      have F2 : Aside (PF m l ad d w g s (i + 1) (wr.setCell ⟨s, x, none⟩ (.int .i64 1))) := by rw [hx]; exact F.out.store hlt
      have HX : Hid (x = (d[i]!).val) := hx
      clear hx F
      by_cases hi0 : i = 0
      · subst hi0
        go_wp2_with fail
        go_roundg m
        case measure => omega
        case rel => exact ⟨1, by go_num, by omega, by omega, F2⟩
      · have hi0z : ((i : Int) == 0) = false := by simp; omega
        go_wp2_with fail
        generalize wr.setCell ⟨s, x, none⟩ (.int .i64 1) = w5 at F2 ⊢
        clear ca cs fs
        obtain ⟨ip, hip⟩ : ∃ q, q + 1 = i := ⟨i - 1, by omega⟩
        have zi : (i : Int) - 1 = (ip : Int) := by omega
        have hipl : ip < m + 1 := by omega
        have ww : IntKind.i64.wrap (ip : Int) = (ip : Int) := by rw [IntKind.wrap_i64]; omega
        have hipz : (ip : Int) < (m : Int) + 1 := by omega
        have hip0 : (0 : Int) ≤ (ip : Int) := by omega
        obtain ⟨y, hy⟩ : ∃ y, y = (d[ip]!).val := ⟨_, rfl⟩
        have hyl : y < m + 1 := by rw [hy]; exact (d[ip]!).isLt
        have hy0 : (0 : Int) ≤ (y : Int) := by omega
        have hyz : (y : Int) < (m : Int) + 1 := by omega
        have ga : w5.cell? ⟨g, ip, none⟩ = some (.int .i64 (y : Int)) := by rw [hy]; exact F2.out.ord ip hipl
        have gb : w5.cell? ⟨g, i, none⟩ = some (.int .i64 (x : Int)) := by rw [HX.out]; exact F2.out.ord i hlt
        have gy := F2.out.row y hyl
        have gx := F2.out.row x hxl
        have HY : Hid (y = (d[ip]!).val) := hy
        have HI : Hid (ip + 1 = i) := hip
        clear hy hip
        refine start_ (n := 19) (S := fun w' => w'.cell? ⟨g, ip, none⟩ = some (.int .i64 (y : Int)) ∧ w'.cell? ⟨g, i, none⟩ = some (.int .i64 (x : Int)) ∧ w'.cell? (ad.add (y * 4)) = some (.int .i64 (cellN l y 0)) ∧ w'.cell? ⟨(ad.add (y * 4)).block, (ad.add (y * 4)).off + 1, none⟩ = some (.int .i64 (cellN l y 1)) ∧ w'.cell? ⟨(ad.add (y * 4)).block, (ad.add (y * 4)).off + 2, none⟩ = some (.int .i64 (cellN l y 2)) ∧ w'.cell? ⟨(ad.add (y * 4)).block, (ad.add (y * 4)).off + 3, none⟩ = some (.int .i64 (cellN l y 3)) ∧ w'.cell? (ad.add (x * 4)) = some (.int .i64 (cellN l x 0)) ∧ w'.cell? ⟨(ad.add (x * 4)).block, (ad.add (x * 4)).off + 1, none⟩ = some (.int .i64 (cellN l x 1)) ∧ w'.cell? ⟨(ad.add (x * 4)).block, (ad.add (x * 4)).off + 2, none⟩ = some (.int .i64 (cellN l x 2)) ∧ w'.cell? ⟨(ad.add (x * 4)).block, (ad.add (x * 4)).off + 3, none⟩ = some (.int .i64 (cellN l x 3))) (ds := []) #[false, false, false, false, false, false, false, false, false, false, false, false, false, false, false, false, false, false, false] (by kernel_rfl) rfl rfl ⟨ga, gb, gy.1, gy.2.1, gy.2.2.1, gy.2.2.2, gx.1, gx.2.1, gx.2.2.1, gx.2.2.2⟩ (fun hHeld => ?_)
        refine with_tabW plc.tab plc.bits (fun HT_ HW_ => ?_)
        have HG := Aside0.mk (Below.refl w5.heap.size w5).drew
        refine pure_ (i := 0) (N := some 59) (v := ?_) (a' := ?_) #[true, false, false, false, false, false, false, false, false, false, false, false, false, false, false, false, false, false, false] rfl rfl (any_of HT_.out (by kernel_rfl)) (fun _ _ _ h => h) (Or.inl ⟨by rfl, ?_⟩) ?_ ?_
        rotate_left
        · intro w'
          go_simp
          with_reducible rfl
        rotate_left
        · simp only [Act.put, List.setIfInBounds_toArray, List.set_cons_zero, List.set_cons_succ, i64_w, i32_w]
          rfl
        refine pure_ (i := 1) (N := some 60) (v := ?_) (a' := ?_) #[true, true, false, false, false, false, false, false, false, false, false, false, false, false, false, false, false, false, false] rfl rfl (any_of HT_.out (by kernel_rfl)) (fun _ _ _ h => h) (Or.inl ⟨by rfl, ?_⟩) ?_ ?_
        rotate_left
        · intro w'
          go_simp
          with_reducible rfl
        rotate_left
        · simp only [Act.put, List.setIfInBounds_toArray, List.set_cons_zero, List.set_cons_succ, i64_w, i32_w]
          rfl
        refine pure_ (i := 2) (N := some 61) (v := ?_) (a' := ?_) #[true, true, true, false, false, false, false, false, false, false, false, false, false, false, false, false, false, false, false] rfl rfl (any_of HT_.out (by kernel_rfl)) (fun _ _ _ h => h) (Or.inl ⟨by rfl, ?_⟩) ?_ ?_
        rotate_left
        · intro w'
          go_simp
          with_reducible rfl
        rotate_left
        · simp only [Act.put, List.setIfInBounds_toArray, List.set_cons_zero, List.set_cons_succ, i64_w, i32_w]
          rfl
        refine pure_ (i := 3) (N := some 62) (v := ?_) (a' := ?_) #[true, true, true, true, false, false, false, false, false, false, false, false, false, false, false, false, false, false, false] rfl rfl (any_of HT_.out (by kernel_rfl)) (fun _ _ _ h => h) (Or.inl ⟨by rfl, ?_⟩) ?_ ?_
        rotate_left
        · intro w'
          go_simp
          with_reducible rfl
        rotate_left
        · simp only [Act.put, List.setIfInBounds_toArray, List.set_cons_zero, List.set_cons_succ, i64_w, i32_w]
          rfl
        refine pure_ (i := 4) (N := some 63) (v := ?_) (a' := ?_) #[true, true, true, true, true, false, false, false, false, false, false, false, false, false, false, false, false, false, false] rfl rfl (any_of HT_.out (by kernel_rfl)) (fun _ _ _ h => h) (Or.inl ⟨by rfl, ?_⟩) ?_ ?_
        rotate_left
        · intro w'
          go_simp
          with_reducible rfl
        rotate_left
        · simp only [Act.put, List.setIfInBounds_toArray, List.set_cons_zero, List.set_cons_succ, i64_w, i32_w]
          rfl
        refine take_ (i := 5) (N := some 64) (v := ?_) (a' := ?_) #[true, true, true, true, true, true, false, false, false, false, false, false, false, false, false, false, false, false, false] rfl rfl (take_ofW HT_.out HW_.out (by kernel_rfl)) (fun _ _ _ h => h) (Or.inl ⟨by rfl, ?_⟩) hHeld ?_ ?_
        rotate_left
        · rintro w' ⟨s0, s1, s2, s3, s4, s5, s6, s7, s8, s9⟩
          go_simp
          with_reducible rfl
        rotate_left
        · simp only [Act.put, List.setIfInBounds_toArray, List.set_cons_zero, List.set_cons_succ, i64_w, i32_w]
          rfl
        refine pure_ (i := 6) (N := some 65) (v := ?_) (a' := ?_) #[true, true, true, true, true, true, true, false, false, false, false, false, false, false, false, false, false, false, false] rfl rfl (any_of HT_.out (by kernel_rfl)) (fun _ _ _ h => h) (Or.inl ⟨by rfl, ?_⟩) ?_ ?_
        rotate_left
        · intro w'
          go_simp
          with_reducible rfl
        rotate_left
        · simp only [Act.put, List.setIfInBounds_toArray, List.set_cons_zero, List.set_cons_succ, i64_w, i32_w]
          rfl
        refine take_ (i := 7) (N := some 66) (v := ?_) (a' := ?_) #[true, true, true, true, true, true, true, true, false, false, false, false, false, false, false, false, false, false, false] rfl rfl (take_ofW HT_.out HW_.out (by kernel_rfl)) (fun _ _ _ h => h) (Or.inl ⟨by rfl, ?_⟩) hHeld ?_ ?_
        rotate_left
        · rintro w' ⟨s0, s1, s2, s3, s4, s5, s6, s7, s8, s9⟩
          go_simp
          with_reducible rfl
        rotate_left
        · simp only [Act.put, List.setIfInBounds_toArray, List.set_cons_zero, List.set_cons_succ, i64_w, i32_w]
          rfl
        refine pure_ (i := 9) (N := some 68) (v := ?_) (a' := ?_) #[true, true, true, true, true, true, true, true, false, true, false, false, false, false, false, false, false, false, false] rfl rfl (any_of HT_.out (by kernel_rfl)) (fun _ _ _ h => h) (Or.inl ⟨by rfl, ?_⟩) ?_ ?_
        rotate_left
        · intro w'
          go_simp
          with_reducible rfl
        rotate_left
        · simp only [Act.put, List.setIfInBounds_toArray, List.set_cons_zero, List.set_cons_succ, i64_w, i32_w]
          rfl
        refine pure_ (i := 10) (N := some 69) (v := ?_) (a' := ?_) #[true, true, true, true, true, true, true, true, false, true, true, false, false, false, false, false, false, false, false] rfl rfl (any_of HT_.out (by kernel_rfl)) (fun _ _ _ h => h) (Or.inl ⟨by rfl, ?_⟩) ?_ ?_
        rotate_left
        · intro w'
          go_simp
          with_reducible rfl
        rotate_left
        · simp only [Act.put, List.setIfInBounds_toArray, List.set_cons_zero, List.set_cons_succ, i64_w, i32_w]
          rfl
        refine pure_ (i := 11) (N := some 70) (v := ?_) (a' := ?_) #[true, true, true, true, true, true, true, true, false, true, true, true, false, false, false, false, false, false, false] rfl rfl (any_of HT_.out (by kernel_rfl)) (fun _ _ _ h => h) (Or.inl ⟨by rfl, ?_⟩) ?_ ?_
        rotate_left
        · intro w'
          go_simp
          with_reducible rfl
        rotate_left
        · simp only [Act.put, List.setIfInBounds_toArray, List.set_cons_zero, List.set_cons_succ, i64_w, i32_w]
          rfl
        refine pure_ (i := 12) (N := some 71) (v := ?_) (a' := ?_) #[true, true, true, true, true, true, true, true, false, true, true, true, true, false, false, false, false, false, false] rfl rfl (any_of HT_.out (by kernel_rfl)) (fun _ _ _ h => h) (Or.inl ⟨by rfl, ?_⟩) ?_ ?_
        rotate_left
        · intro w'
          go_simp
          with_reducible rfl
        rotate_left
        · simp only [Act.put, List.setIfInBounds_toArray, List.set_cons_zero, List.set_cons_succ, i64_w, i32_w]
          rfl
        refine take_ (i := 13) (N := some 72) (v := ?_) (a' := ?_) #[true, true, true, true, true, true, true, true, false, true, true, true, true, true, false, false, false, false, false] rfl rfl (take_ofW HT_.out HW_.out (by kernel_rfl)) (fun _ _ _ h => h) (Or.inl ⟨by rfl, ?_⟩) hHeld ?_ ?_
        rotate_left
        · rintro w' ⟨s0, s1, s2, s3, s4, s5, s6, s7, s8, s9⟩
          go_simp
          with_reducible rfl
        rotate_left
        · simp only [Act.put, List.setIfInBounds_toArray, List.set_cons_zero, List.set_cons_succ, i64_w, i32_w]
          rfl
        refine pure_ (i := 14) (N := some 73) (v := ?_) (a' := ?_) #[true, true, true, true, true, true, true, true, false, true, true, true, true, true, true, false, false, false, false] rfl rfl (any_of HT_.out (by kernel_rfl)) (fun _ _ _ h => h) (Or.inl ⟨by rfl, ?_⟩) ?_ ?_
        rotate_left
        · intro w'
          go_simp
          with_reducible rfl
        rotate_left
        · simp only [Act.put, List.setIfInBounds_toArray, List.set_cons_zero, List.set_cons_succ, i64_w, i32_w]
          rfl
        refine take_ (i := 15) (N := some 74) (v := ?_) (a' := ?_) #[true, true, true, true, true, true, true, true, false, true, true, true, true, true, true, true, false, false, false] rfl rfl (take_ofW HT_.out HW_.out (by kernel_rfl)) (fun _ _ _ h => h) (Or.inl ⟨by rfl, ?_⟩) hHeld ?_ ?_
        rotate_left
        · rintro w' ⟨s0, s1, s2, s3, s4, s5, s6, s7, s8, s9⟩
          go_simp
          with_reducible rfl
        rotate_left
        · simp only [Act.put, List.setIfInBounds_toArray, List.set_cons_zero, List.set_cons_succ, i64_w, i32_w]
          rfl
        refine one_ (i := 8) (N := some 67) #[true, true, true, true, true, true, true, true, true, true, true, true, true, true, true, true, false, false, false] rfl rfl (one_of HT_.out (by kernel_rfl)) (by decide) (fun K hK => ?_)
        refine goes_ Try.func13 (by kernel_rfl) rfl #[.agg #[.int .i64 (cellN l y 0), .int .i64 (cellN l y 1), .int .i64 (cellN l y 2), .int .i64 (cellN l y 3)]] (by rfl) rfl rfl (by (try simp only [List.map_toArray, List.map_cons, List.map_nil]); first | done | rfl) ?_
        refine (mean_calls _ _ _ _ _).mono ?_
        rintro e wr1 ⟨⟨r1, rfl, hr1⟩, hg⟩
        refine ⟨_, rfl, ?_⟩
        replace HG := Aside0.mk (HG.out.trans (hg.mono HG.out.size))
        refine hK.out _ _ ⟨keepb hg hHeld.1, keepb hg hHeld.2.1, keepb hg hHeld.2.2.1, keepb hg hHeld.2.2.2.1, keepb hg hHeld.2.2.2.2.1, keepb hg hHeld.2.2.2.2.2.1, keepb hg hHeld.2.2.2.2.2.2.1, keepb hg hHeld.2.2.2.2.2.2.2.1, keepb hg hHeld.2.2.2.2.2.2.2.2.1, keepb hg hHeld.2.2.2.2.2.2.2.2.2⟩ (fun hHeld => ?_)
        clear hK K
        refine norm_ (a' := ?_) ?_ ?_
        rotate_left
        · show Act.put _ (some 67) _ = _
          simp only [Act.put, List.setIfInBounds_toArray, List.set_cons_zero, List.set_cons_succ, i64_w, i32_w]
          rfl
        refine one_ (i := 16) (N := some 75) #[true, true, true, true, true, true, true, true, true, true, true, true, true, true, true, true, true, false, false] rfl rfl (one_of HT_.out (by kernel_rfl)) (by decide) (fun K hK => ?_)
        refine goes_ Try.func13 (by kernel_rfl) rfl #[.agg #[.int .i64 (cellN l x 0), .int .i64 (cellN l x 1), .int .i64 (cellN l x 2), .int .i64 (cellN l x 3)]] (by rfl) rfl rfl (by (try simp only [List.map_toArray, List.map_cons, List.map_nil]); first | done | rfl) ?_
        refine (mean_calls _ _ _ _ _).mono ?_
        rintro e wr2 ⟨⟨r2, rfl, hr2⟩, hg⟩
        refine ⟨_, rfl, ?_⟩
        replace HG := Aside0.mk (HG.out.trans (hg.mono HG.out.size))
        refine hK.out _ _ ⟨keepb hg hHeld.1, keepb hg hHeld.2.1, keepb hg hHeld.2.2.1, keepb hg hHeld.2.2.2.1, keepb hg hHeld.2.2.2.2.1, keepb hg hHeld.2.2.2.2.2.1, keepb hg hHeld.2.2.2.2.2.2.1, keepb hg hHeld.2.2.2.2.2.2.2.1, keepb hg hHeld.2.2.2.2.2.2.2.2.1, keepb hg hHeld.2.2.2.2.2.2.2.2.2⟩ (fun hHeld => ?_)
        clear hK K
        refine norm_ (a' := ?_) ?_ ?_
        rotate_left
        · show Act.put _ (some 75) _ = _
          simp only [Act.put, List.setIfInBounds_toArray, List.set_cons_zero, List.set_cons_succ, i64_w, i32_w]
          rfl
        refine one_ (i := 17) (N := some 76) #[true, true, true, true, true, true, true, true, true, true, true, true, true, true, true, true, true, true, false] rfl rfl (one_of HT_.out (by kernel_rfl)) (by decide) (fun K hK => ?_)
        refine goes_ Try.func12 (by kernel_rfl) rfl #[.float .f64 r1, .float .f64 r2] (by rfl) rfl rfl (by (try simp only [List.map_toArray, List.map_cons, List.map_nil]); first | done | rfl) ?_
        refine (cmp_calls r1 r2 _).mono ?_
        rintro e w8 ⟨rfl, hd⟩
        have hg := below_drawn hd
        refine ⟨_, rfl, ?_⟩
        replace HG := Aside0.mk (HG.out.trans (hg.mono HG.out.size))
        refine hK.out _ _ ⟨keepb hg hHeld.1, keepb hg hHeld.2.1, keepb hg hHeld.2.2.1, keepb hg hHeld.2.2.2.1, keepb hg hHeld.2.2.2.2.1, keepb hg hHeld.2.2.2.2.2.1, keepb hg hHeld.2.2.2.2.2.2.1, keepb hg hHeld.2.2.2.2.2.2.2.1, keepb hg hHeld.2.2.2.2.2.2.2.2.1, keepb hg hHeld.2.2.2.2.2.2.2.2.2⟩ (fun hHeld => ?_)
        clear hK K
        refine norm_ (a' := ?_) ?_ ?_
        rotate_left
        · show Act.put _ (some 76) _ = _
          simp only [Act.put, List.setIfInBounds_toArray, List.set_cons_zero, List.set_cons_succ, i64_w, i32_w]
          rfl
        refine pure_ (i := 18) (N := some 6) (v := ?_) (a' := ?_) #[true, true, true, true, true, true, true, true, true, true, true, true, true, true, true, true, true, true, true] rfl rfl (any_of HT_.out (by kernel_rfl)) (fun _ _ _ h => h) (Or.inl ⟨by rfl, ?_⟩) ?_ ?_
        rotate_left
        · intro w'
          go_simp
          with_reducible rfl
        rotate_left
        · simp only [Act.put, List.setIfInBounds_toArray, List.set_cons_zero, List.set_cons_succ, i64_w, i32_w]
          rfl
        refine done_ (done_of HT_.out (by kernel_rfl)) ?_
        clear gy gx ga gb
        have F3 : Aside (PF m l ad d w g s (i + 1) _) := F2.out.grown HG.out
        obtain ⟨n, hn⟩ : ∃ n, n = cmpI (highI r1) (highI r2) := ⟨_, rfl⟩
        rw [← hn]
        have hcase : n = -1 ∨ (n = 0 ∧ ¬ x < y) := by
          rw [hn, key_of hr1, key_of hr2]
          have so := T_false.1 (HP.out.2 ip i (by omega) (by have := HI.out; omega) hlt)
          have e1 : keyC (cellN l) m d[i]! = keyI (cellN l x 0) (cellN l x 1) := by unfold keyC; rw [HX.out]
          have e2 : keyC (cellN l) m d[ip]! = keyI (cellN l y 0) (cellN l y 1) := by unfold keyC; rw [HY.out]
          rw [e1, e2, ← HX.out, ← HY.out] at so
          unfold cmpI
          by_cases q : keyI (cellN l y 0) (cellN l y 1) < keyI (cellN l x 0) (cellN l x 1)
          · rw [if_pos q]; exact .inl rfl
          · rw [if_neg q, if_neg (by omega)]; exact .inr ⟨rfl, by omega⟩
        have gb := F3.out.ord i hlt
        have ga := F3.out.ord ip hipl
        rw [← HX.out] at gb
        rw [← HY.out] at ga
        clear hn hr1 hr2 HG F2
        rcases hcase with rfl | ⟨rfl, hxy⟩
        · go_wp2_with fail
          go_big_region_o
          go_wp2_with fail
          go_roundg (m - i)
          case measure => omega
          case rel => exact ⟨i + 1, by go_num, by omega, by omega, F3.out.grown (Below.refl _ _).drew⟩
        · have zxy : decide ((x : Int) < (y : Int)) = false := by rw [decide_eq_false_iff_not]; omega
          go_wp2_with fail
          go_big_region_o
          go_wp2_with fail
          go_roundg (m - i)
          case measure => omega
          case rel => exact ⟨i + 1, by go_num, by omega, by omega, F3.out.grown (Below.refl _ _).drew⟩
    · obtain rfl : i = m + 1 := by omega
      have hltz : ¬ (((m + 1 : Nat) : Int) < (m : Int) + 1) := by omega
      go_wp2_with fail
      go_ret
      exact ⟨by simp, F.out.below⟩
set_option maxRecDepth 100000 in
theorem places_big (A : Option Addr) (n c : Nat) (w : World) (hn : 200 < n) : Calls Try.prog 6 #[.slice A n c] w fun e w' => e = .returned (.bool true) ∧ Below w.heap.size w w' := by
  have z200 : decide ((n : Int) > 200) = true := by rw [decide_eq_true_iff]; omega
  go_enter Try.func6, Try.ntmps6
  go_wp2_with (first
    | (go_at_call 11; refine (known_calls _).mono ?_; rintro e w1 ⟨rfl, hB1⟩))
  go_ret
  exact ⟨rfl, hB1⟩
set_option maxRecDepth 100000 in
theorem places_nil (A : Option Addr) (c : Nat) (w : World) : Calls Try.prog 6 #[.slice A 0 c] w fun e w' => e = .returned (.bool true) ∧ Below w.heap.size w w' := by
  go_enter Try.func6, Try.ntmps6
  go_wp2_with (first
    | (go_at_call 11; refine (known_calls _).mono ?_; rintro e w1 ⟨rfl, hB1⟩)
    | (go_at_call 16; refine (rows_nil _ _ _).mono ?_; rintro e w2 ⟨rfl, hB2⟩)
    | (go_at_call 15; refine (order_nil _).mono ?_; rintro e w3 ⟨rfl, hB3⟩)
    | (at_make; refine Kd.R_make (Kd.int .i64) (w0 := _) _ 3 rfl rfl 35 (.tmp 19) (.tmp 19) rfl (0 : Int) rfl rfl Try.underlying35 (.int .i64 0) 8 info3 rfl (by decide) (by omega) (0 : Int) (ok := fun _ => True) (okp := fun _ => False) rfl (fun _ h => h.elim) trivial (by omega) (by decide) (Below.refl _ _) (Nat.le_refl _) ?_; intro v4 w4 hR4 hB4 hg4 hat4))
  have b2 := hB1.trans (hB2.mono hB1.size)
  have b3 := b2.trans (hB3.mono b2.size)
  have b4 := b3.trans (hB4.mono b3.size)
  clear hR4 hat4 hg4
  go_loopg [5] 0 (fun kq v5 w' => v5 = .int .i64 0 ∧ w' = w4)
  case atStart => exact ⟨rfl, rfl⟩
  case round =>
    obtain ⟨rfl, rfl⟩ := hrel
    go_wp2_with fail
    go_ret
    exact ⟨rfl, b4⟩
theorem places_calls (l : List S23) (A : Option Addr) (c : Nat) (w : World) (hC : Kd.C k23 w A l.length l) (hc : l.length ≤ c) : Calls Try.prog 6 #[.slice A l.length c] w fun e w' => e = .returned (.bool true) ∧ Below w.heap.size w w' := by
  by_cases h : 200 < l.length
  · exact places_big A _ c w h
  · by_cases h0 : l.length = 0
    · rw [h0]; exact places_nil A c w
    · obtain ⟨ad, rfl, hr⟩ := cells_of hC (by omega)
      obtain ⟨m, hm⟩ : ∃ m, l.length = m + 1 := ⟨l.length - 1, by omega⟩
      have := places_some l ad c m w hC hc hm (by omega) hr
      rw [← hm] at this
      exact this
end Go.Proofs.Ytmgocfcbkejgdaa.RankSort
