/- What is proved here: the law RankOrders returns true whatever row came in (conditions: those that each theorem names). -/
import Derived.Test.YtmgocfcbkejgdaaRankRefW
import Derived.Test.YtmgocfcbkejgdaaRankKnown
namespace Go.Proofs.Ytmgocfcbkejgdaa.RankSort
set_option linter.unusedSimpArgs false
set_option linter.unusedVariables false
open Go.Shelf Go.RowKit Go.Lib Go.Sort Go.Proofs Go.Proofs.Ytmgocfcbkejgdaa.RankBase Go.Proofs.Ytmgocfcbkejgdaa.RankMerge
open Go.Proofs.YtmgocfcbkejgdaaW.PrintWords Go.Proofs.YtmgocfcbkejgdaaW.PrintLast Go.Proofs.YtmgocfcbkejgdaaW.PrintMore
open Go.Proofs.Ytmgocfcbkejgdaa.PRankOrders
set_option maxHeartbeats 16000000 in
set_option maxRecDepth 1000000 in
theorem orders_some (l : List S23) (A : Option Addr) (c m : Nat) (w : World) (hC : Kd.C k23 w A l.length l) (hc : l.length ≤ c) (hm : l.length = m + 1) (hl : m + 1 ≤ 200)
    (hbd : ∀ i, i < m + 1 → (cellN l i 0).natAbs < 2 ^ 64 ∧ (cellN l i 1).natAbs < 2 ^ 64) :
    Calls Try.prog 10 #[.slice A (m + 1) c] w fun e w' => e = .returned (.bool true) ∧ Below w.heap.size w w' := by
  have mixed : Try.prog.follows Departure.mixedOrders = true := by kernel_rfl
  have u3 := Try.underlying3
  have u34 := Try.underlying34
  have u35 := Try.underlying35
  have z200 : decide ((m : Int) + 1 > 200) = false := by rw [decide_eq_false_iff_not]; omega
  have HROWS : ∀ W, Below w.heap.size w W → Calls Try.prog 16 #[.slice A (m + 1) c] W fun e w' => (∃ g cap, e = .returned (.slice (some ⟨g, 0, none⟩) (m + 1) cap) ∧ (∀ i, i < m + 1 → ∀ j, j < 4 → w'.cell? ⟨g, 0 + i * 5 + 1 + j, none⟩ = some (.int .i64 (cellN l i j)))) ∧ Below W.heap.size W w' := fun W hB => by
    have h := rows_get l A c W (Kd.C_below hC hB) hc (by omega) (by omega)
    rw [hm] at h
    exact h
  have HR := Aside0.mk HROWS
  have HBD := Aside0.mk hbd
  clear hC hc HROWS hm hbd
  go_enter Try.func10, Try.ntmps10
  go_wp2_with (first
    | (go_at_call 11; refine (known_calls _).mono ?_; rintro e w1 ⟨rfl, hB1⟩)
    | (go_at_call 16; refine (HR.out _ hB1).mono ?_; rintro e w2 ⟨⟨g0, cap0, rfl, hcells⟩, hB2⟩; have HCL := Aside0.mk hcells; clear hcells)
    | (go_at_call 15; refine (order_gen g0 0 m cap0 (cellN l) _ (by omega) HCL.out).mono ?_; rintro e w3 ⟨⟨g, cap, d, rfl, hcap, hg, hgs, hp, hH⟩, hB3⟩; have HP := Aside0.mk hp; have HH := Aside0.mk hH; clear hp hH; have HCL3 := Aside0.mk (fun i hi j hj => keepb hB3 (HCL.out i hi j hj)))
    | (go_at_call 24; refine (ref_order g0 0 m cap0 (cellN l) _ hl HBD.out HCL3.out).mono ?_; rintro e w4 ⟨⟨vb, rfl, L, hL, hRb⟩, hB4⟩; have HL := Aside0.mk hL; clear hL; obtain ⟨gb, capb, hvb, hcb, hbb, hsb, hcelb⟩ := open_ints hRb (by rw [List.length_map, HL.out.length]; omega); rw [List.length_map, HL.out.length] at hvb; subst hvb; have HCB := Aside0.mk hcelb; clear hcelb hRb))
  have hds : d.size = m + 1 := by rw [HP.out.1.1, idArr_size]
  have HE : Aside0 (∀ j, j < m + 1 → w4.cell? ⟨g, j, none⟩ = some (.int .i64 ((d[j]!).val : Int)) ∧ w4.cell? ⟨gb, j, none⟩ = some (.int .i64 ((d[j]!).val : Int))) := ⟨fun j hj => by
    constructor
    · have := keepb hB4 (HH.out j (by omega)).1
      rw [Nat.zero_add] at this; exact this
    · have e := HL.out.unique (arr_good HP.out)
      have q : (L.map (fun z : Nat => (z : Int)))[j]? = some ((d[j]!).val : Int) := by
        rw [e, List.map_map, List.getElem?_map, List.getElem?_range' (by omega)]
        simp
      exact (HCB.out j _ q).1⟩
  have b2 := hB1.trans (hB2.mono hB1.size)
  have b3 := b2.trans (hB3.mono b2.size)
  have b4 := b3.trans (hB4.mono b3.size)
  clear HH HL HCB HP HCL HCL3 HR HBD hB1 hB2 hB3 hB4 b2 b3
  go_loopg [6] (m + 1) (fun g1 vi wr => ∃ i : Nat, vi = .int .i64 i ∧ i ≤ m + 1 ∧ m + 1 - i ≤ g1 ∧ Aside0 (Below w4.heap.size w4 wr))
  case atStart => exact ⟨0, rfl, by omega, by omega, ⟨Below.refl _ _⟩⟩
  case round =>
    obtain ⟨i, rfl, him, hg1, HB⟩ := hrel
    by_cases hlt : i < m + 1
    · have hltz : (i : Int) < (m : Int) + 1 := by omega
      have ca := keepb HB.out (HE.out i hlt).1
      have cb := keepb HB.out (HE.out i hlt).2
      go_wp2_with fail
      go_big_region_o
      go_wp2_with fail
      go_roundg (m - i)
      case measure => omega
      case rel => exact ⟨i + 1, by go_num, by omega, by omega, ⟨HB.out.drew⟩⟩
    · obtain rfl : i = m + 1 := by omega
      have hltz : ¬ (((m + 1 : Nat) : Int) < (m : Int) + 1) := by omega
      go_wp2_with fail
      go_ret
      exact ⟨rfl, b4.trans (HB.out.mono b4.size)⟩
set_option maxRecDepth 100000 in
theorem orders_big (A : Option Addr) (n c : Nat) (w : World) (hn : 200 < n) : Calls Try.prog 10 #[.slice A n c] w fun e w' => e = .returned (.bool true) ∧ Below w.heap.size w w' := by
  have z200 : decide ((n : Int) > 200) = true := by rw [decide_eq_true_iff]; omega
  go_enter Try.func10, Try.ntmps10
  go_wp2_with (first
    | (go_at_call 11; refine (known_calls _).mono ?_; rintro e w1 ⟨rfl, hB1⟩))
  go_ret
  exact ⟨rfl, hB1⟩
set_option maxRecDepth 100000 in
theorem orders_nil (A : Option Addr) (c : Nat) (w : World) : Calls Try.prog 10 #[.slice A 0 c] w fun e w' => e = .returned (.bool true) ∧ Below w.heap.size w w' := by
  go_enter Try.func10, Try.ntmps10
  go_wp2_with (first
    | (go_at_call 11; refine (known_calls _).mono ?_; rintro e w1 ⟨rfl, hB1⟩)
    | (go_at_call 16; refine (rows_nil _ _ _).mono ?_; rintro e w2 ⟨rfl, hB2⟩)
    | (go_at_call 15; refine (order_nil _).mono ?_; rintro e w3 ⟨rfl, hB3⟩)
    | (go_at_call 24; refine (ref_nil _).mono ?_; rintro e w4 ⟨rfl, hB4⟩))
  have b2 := hB1.trans (hB2.mono hB1.size)
  have b3 := b2.trans (hB3.mono b2.size)
  have b4 := b3.trans (hB4.mono b3.size)
  go_loopg [6] 0 (fun kq v5 w' => v5 = .int .i64 0 ∧ w' = w4)
  case atStart => exact ⟨rfl, rfl⟩
  case round =>
    obtain ⟨rfl, rfl⟩ := hrel
    go_wp2_with fail
    go_ret
    exact ⟨rfl, b4⟩
theorem orders_calls (l : List S23) (A : Option Addr) (c : Nat) (w : World) (hC : Kd.C k23 w A l.length l) (hc : l.length ≤ c) (hbd : ∀ i, i < l.length → (cellN l i 0).natAbs < 2 ^ 64 ∧ (cellN l i 1).natAbs < 2 ^ 64) :
    Calls Try.prog 10 #[.slice A l.length c] w fun e w' => e = .returned (.bool true) ∧ Below w.heap.size w w' := by
  by_cases h : 200 < l.length
  · exact orders_big A _ c w h
  · by_cases h0 : l.length = 0
    · rw [h0]; exact orders_nil A c w
    · obtain ⟨m, hm⟩ : ∃ m, l.length = m + 1 := ⟨l.length - 1, by omega⟩
      have := orders_some l A c m w hC hc hm (by omega) (by rw [← hm]; exact hbd)
      rw [← hm] at this
      exact this
end Go.Proofs.Ytmgocfcbkejgdaa.RankSort
