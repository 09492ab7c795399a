/- What is proved here: the law package own check of the chapter examples returns true (conditions: none). -/
import Derived.Test.YtmgocfcbkejgdaaRankOrder
namespace Go.Proofs.Ytmgocfcbkejgdaa.RankSort
set_option linter.unusedSimpArgs false
set_option linter.unusedVariables false
open Go.Shelf Go.RowKit Go.Lib Go.Sort Go.Proofs Go.Proofs.Ytmgocfcbkejgdaa.RankBase
open Go.Proofs.YtmgocfcbkejgdaaW.PrintWords Go.Proofs.YtmgocfcbkejgdaaW.PrintLast Go.Proofs.YtmgocfcbkejgdaaW.PrintMore
def two : Nat → Nat → Int
  | 0, 0 => 1
  | 0, 1 => 2
  | 1, 0 => 1
  | 1, 1 => 1
  | _, _ => 0
theorem two_sorted : insertionSort (ltOf (cfC two)) (idArr 1) 0 (1 + 1) = #[1, 0] := by decide +kernel
theorem two_size : (insertionSort (ltOf (cfC two)) (idArr 1) 0 (1 + 1)).size = (idArr 1).size := by rw [two_sorted]; rfl
theorem two_cells {g : Nat} (w : World) (hg : g = w.heap.size) : ∀ i, i < 1 + 1 → ∀ j, j < 4 → (w.alloc (Obj.cells #[.slice none 0 0, .int .i64 1, .int .i64 2, .int .i64 0, .int .i64 0, .slice none 0 0, .int .i64 1, .int .i64 1, .int .i64 0, .int .i64 0] 49)).cell? ⟨g, 0 + i * 5 + 1 + j, none⟩ = some (.int .i64 (two i j)) := by
  intro i hi j hj
  subst hg
  have h1 : i = 0 ∨ i = 1 := by omega
  have h2 : j = 0 ∨ j = 1 ∨ j = 2 ∨ j = 3 := by omega
  rcases h1 with rfl | rfl <;> rcases h2 with rfl | rfl | rfl | rfl <;> simp [two]
set_option maxRecDepth 100000 in
set_option maxHeartbeats 2000000 in
theorem known_calls (w : World) : Calls Try.prog 11 #[] w fun e w' => e = .returned (.bool true) ∧ Below w.heap.size w w' := by
  have HB := Aside0.mk (Below.refl w.heap.size w)
  go_enter Try.func11, Try.ntmps11
  have n1 : cmpI (highI 9221120237041090561) (highI 18442240474082181120) = -1 := by decide +kernel
  have n2 : copyI 0 13830554455654793216 = 9223372036854775808 := by decide +kernel
  have n3 : cmpI (highI 9223372036854775808) (highI 0) = -1 := by decide +kernel
  have n4 : floatBits .quo .f64 (floatOfInt .f64 3) (floatOfInt .f64 2) = some 4609434218613702656 := by decide +kernel
  have n5 : (FloatKind.f64.format.order 4609434218613702656 4609434218613702656 == some .eq) = true := by decide +kernel
  go_wp2_with (first
    | (go_at_call 15; refine (order_small w.heap.size 0 1 2 two _ (by decide) two_size ?hr).mono ?_; (case hr => exact (two_cells _ rfl)); rintro e w2 ⟨⟨g, cap, rfl, hcap, hg, hgs, hH⟩, hb⟩; rw [two_sorted] at hH; have l0 : w2.cell? ⟨g, 0, none⟩ = some (.int .i64 1) := (hH 0 (by decide)).1)
    | (go_at_call 21; refine (nan_calls _).mono ?_; rintro e w3 ⟨rfl, ⟨q1, rfl⟩⟩)
    | (go_at_call 20; refine (inf_calls _ _).mono ?_; rintro e w3 ⟨rfl, ⟨q1, rfl⟩⟩)
    | (go_at_call 12; refine (cmp_calls _ _ _).mono ?_; rintro e w3 ⟨rfl, ⟨q1, rfl⟩⟩)
    | (go_at_call 22; refine (copysign_calls _ _ _).mono ?_; rintro e w3 ⟨rfl, ⟨q1, rfl⟩⟩)
    | (go_at_call 13; refine (mean_calls _ _ _ _ _).mono ?_; rintro e w4 ⟨⟨r, rfl, hr⟩, hb4⟩; obtain rfl := hr.1 _ n4))
  go_ret
  have h1 : Below w.heap.size w w2 := (below_alloc (Below.refl _ _) _).trans (below_wide hb (by simp))
  exact ⟨rfl, Below.trans (by first | exact h1 | (apply pw_below_drewN; exact h1) | (apply below_drew1; exact h1)) (below_wide hb4 (by have := h1.size; simpa using this))⟩
end Go.Proofs.Ytmgocfcbkejgdaa.RankSort
