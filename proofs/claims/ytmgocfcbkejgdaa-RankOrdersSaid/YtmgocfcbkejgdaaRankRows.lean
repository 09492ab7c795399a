/- What is proved here: what a call of the law's rows comes to (conditions: those that each theorem names). -/
import Derived.Test.YtmgocfcbkejgdaaRankNil
import Derived.Test.YtmgocfcbkejgdaaPRankOrdersx1
namespace Go.Proofs.Ytmgocfcbkejgdaa.RankSort
set_option linter.unusedSimpArgs false
set_option linter.unusedVariables false
open Go.Shelf Go.RowKit Go.Lib Go.Sort Go.Proofs Go.Proofs.Ytmgocfcbkejgdaa.RankBase Go.Proofs.Ytmgocfcbkejgdaa.RankMerge
open Go.Proofs.YtmgocfcbkejgdaaW.PrintWords Go.Proofs.YtmgocfcbkejgdaaW.PrintLast Go.Proofs.YtmgocfcbkejgdaaW.PrintMore
open Go.Proofs.Ytmgocfcbkejgdaa.PRankOrders
/-- the j-th number of the i-th cell -/
def cellN (l : List S23) (i j : Nat) : Int := if j = 0 then (rd_T23 l i).f0 else if j = 1 then (rd_T23 l i).f1 else if j = 2 then (rd_T23 l i).f2 else (rd_T23 l i).f3
def mkRow (x : S23) : S49 := ⟨[], x⟩
theorem rows_loop (l : List S23) (hl : l.length ≤ 200) : ∀ (k i : Nat), i ≤ l.length → l.length - i < k → stratumlaw02_rows.l0 k l ((l.take i).map mkRow) (i : Int) = some (l.map mkRow)
  | 0, i, _, h => by omega
  | k + 1, i, h1, h2 => by
    rw [stratumlaw02_rows.l0]
    by_cases c : i < l.length
    · have ht : ((l.take i).map mkRow).length < 2513169434916 := by
        rw [List.length_map, List.length_take]; omega
      rw [if_pos (by omega), if_pos (by omega), if_pos ht]
      have e : wrap64 ((i : Int) + 1) = ((i + 1 : Nat) : Int) := by unfold wrap64; omega
      have g : (rd_T23 l i) = l[i] := by
        unfold rd_T23
        rw [Int.toNat_natCast, List.getD_eq_getElem?_getD, List.getElem?_eq_getElem c]; rfl
      have p : (l.take i).map mkRow ++ [(⟨([] : List Int), (⟨(rd_T23 l i).f0, (rd_T23 l i).f1, (rd_T23 l i).f2, (rd_T23 l i).f3⟩ : S23)⟩ : S49)] = (l.take (i + 1)).map mkRow := by
        rw [g, List.take_add_one, List.getElem?_eq_getElem c, List.map_append]; rfl
      rw [e, p]
      exact rows_loop l hl k (i + 1) (by omega) (by omega)
    · have : i = l.length := by omega
      subst this
      rw [if_neg (by omega), List.take_length]
theorem rd_rows (l : List S23) (i : Nat) (h : i < l.length) : (rd_T49 (l.map mkRow) i).f1 = rd_T23 l i := by
  unfold rd_T49 rd_T23
  rw [Int.toNat_natCast, List.getD_eq_getElem?_getD, List.getD_eq_getElem?_getD, List.getElem?_map, List.getElem?_eq_getElem h]
  rfl
theorem rows_get (l : List S23) (A : Option Addr) (c : Nat) (w : World) (hC : Kd.C k23 w A l.length l) (hc : l.length ≤ c) (hl : l.length ≤ 200) (h0 : 0 < l.length) :
    Calls Try.prog 16 #[.slice A l.length c] w fun e w' => (∃ g cap, e = .returned (.slice (some ⟨g, 0, none⟩) l.length cap) ∧ (∀ i, i < l.length → ∀ j, j < 4 → w'.cell? ⟨g, 0 + i * 5 + 1 + j, none⟩ = some (.int .i64 (cellN l i j)))) ∧ Below w.heap.size w w' := by
  refine (stratumlaw02_rows.calls (l.length + 1) A c l (l.map mkRow) w hC hc (rows_loop l hl (l.length + 1) 0 (by omega) (by omega))).mono ?_
  rintro e w' ⟨v0, rfl, hS, hB⟩
  refine ⟨?_, hB⟩
  have hR := Kd.S_R hS
  obtain ⟨A', c', rfl, hle, hC'⟩ := Kd.R_reads hR
  have hlen : (l.map mkRow).length = l.length := List.length_map _
  obtain ⟨ad, _, _, rfl, _⟩ := at_T49 hC' 0 (by omega) (by omega)
  obtain ⟨g, rfl⟩ := Kd.R_head hR
  refine ⟨g, c', by rw [hlen], fun i hi j hj => ?_⟩
  obtain ⟨ad, _, _, e, _, h1, h2, h3, h4, _⟩ := at_T49 hC' (i : Int) (by omega) (by omega)
  obtain rfl : (⟨g, 0, none⟩ : Addr) = ad := Option.some.inj e
  rw [rd_rows l i hi] at h1 h2 h3 h4
  rw [Int.toNat_natCast, add_at] at h1 h2 h3 h4
  unfold cellN
  rcases (by omega : j = 0 ∨ j = 1 ∨ j = 2 ∨ j = 3) with rfl | rfl | rfl | rfl
  · exact h1
  · exact h2
  · exact h3
  · exact h4
end Go.Proofs.Ytmgocfcbkejgdaa.RankSort
