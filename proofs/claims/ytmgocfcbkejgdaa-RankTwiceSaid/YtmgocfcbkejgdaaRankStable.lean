/- What is proved here: slices.SortStableFunc of fewer than twenty elements comes to the insertion sort; the comparison that rank.Order hands to it (conditions: those that each theorem names). -/
import Derived.Test.YtmgocfcbkejgdaaRankSort
namespace Go.Proofs
open Go.Shelf Go.RowKit Go.Lib Go.Sort
/-- which numbers of the shelf's own program stand for which of this one -/
def Ytmgocfcbkejgdaa.RankSort.laid_ren : Go.Shelf.Ren := ⟨fun | 20 => 32 | n => n, fun | 24 => 3 | 22 => 35 | 3 => 3 | 25 => 52 | 4 => 4 | 0 => 0 | n => n, fun | n => n⟩
theorem Ytmgocfcbkejgdaa.RankSort.laid : Go.Proofs.SlLaysF.n20 Try.prog Ytmgocfcbkejgdaa.RankSort.laid_ren := {
  mixed := by kernel_rfl
  f20 := ⟨Try.f32.name, by decide, Try.func32.trans (congrArg some (by kernel_rfl))⟩
  t0 := Try.underlying0
  a0 := Try.isAgg0
  z0 := Try.sizeOf0
  v0 := Try.zeroValue0
  t3 := Try.underlying3
  a3 := Try.isAgg3
  z3 := Try.sizeOf3
  v3 := Try.zeroValue3
  t4 := Try.underlying4
  a4 := Try.isAgg4
  z4 := Try.sizeOf4
  v4 := Try.zeroValue4
  t22 := Try.underlying35
  a22 := Try.isAgg35
  z22 := Try.sizeOf35
  v22 := Try.zeroValue35
  a24 := Try.isAgg3
  z24 := Try.sizeOf3
  t25 := Try.underlying52
  a25 := Try.isAgg52
  z25 := Try.sizeOf52
  v25 := Try.zeroValue52 }
end Go.Proofs
namespace Go.Proofs.Ytmgocfcbkejgdaa.RankSort
set_option linter.unusedSimpArgs false
set_option linter.unusedVariables false
open Go.Shelf Go.RowKit Go.Lib Go.Sort Go.Proofs Go.Proofs.Ytmgocfcbkejgdaa.RankBase
open Go.Proofs.YtmgocfcbkejgdaaW.PrintWords Go.Proofs.YtmgocfcbkejgdaaW.PrintLast Go.Proofs.YtmgocfcbkejgdaaW.PrintMore
set_option maxRecDepth 100000 in
theorem stable_small {α : Type} [Inhabited α] (enc : α → Value) (cf : α → α → Int) (g : Nat) (cb : Array Value) (blk off cap : Nat) (d0 d : Array α) (w0 w : World)
    (eg : ∀ args w, (callFunc g args).run Try.prog w = .ok (.enter g args) w) (hcmp : CmpLays1 Try.prog g cb enc cf blk off d0.size w0) (R : Row1 enc w0 blk off d0) (hs : d0.size = d.size) (S : SW enc w0 blk off d w) (hsz : d.size < 20) :
    Calls Try.prog 31 #[.slice (some ⟨blk, off, none⟩) d.size cap, .int .i64 d.size, .func (.func g) #[] cb] w fun e w' => e = .returned (.tuple #[]) ∧ SW enc w0 blk off (Sort.insertionSort (ltOf cf) d 0 d.size) w' := by
  have hi : ∀ W, SW enc w0 blk off d W → Calls Try.prog 32 #[.slice (some ⟨blk, off, none⟩) d.size cap, Value.int .i64 0, .int .i64 d.size, .func (.func g) #[] cb] W fun e w' => e = .returned (.tuple #[]) ∧ SW enc w0 blk off (Sort.insertionSort (ltOf cf) d 0 d.size) w' := fun W h =>
    Any.insertionSortCmpFunc_s laid enc cf g cb blk off cap 0 d.size d0 d w0 W eg hcmp R hs h (by omega) (by omega) (by omega)
  have S0 := Aside0.mk S
  have hi0 := Aside0.mk hi
  clear hi
  go_enter Try.func31, Try.ntmps31
  go_wp2_with fail
  have h20 : decide ((20 : Int) ≤ (d.size : Int)) = false := by rw [decide_eq_false_iff_not]; omega
  have l20 : decide ((20 : Int) < (d.size : Int)) = false := by rw [decide_eq_false_iff_not]; omega
  go_loopg [7, 8] 0 (fun kq v7 v8 w' => v7 = .int .i64 0 ∧ v8 = .int .i64 20 ∧ w' = w)
  case atStart => exact ⟨rfl, rfl, rfl⟩
  case round =>
    obtain ⟨rfl, rfl, rfl⟩ := hrel
    go_wp2_with (first | (go_at_call 32; refine (hi0.out _ (S0.out)).mono ?_; rintro e w1 ⟨rfl, hS⟩))
    go_loopg [6, 7, 8] 0 (fun kq v6 v7 v8 w' => v6 = .int .i64 20 ∧ v7 = .int .i64 0 ∧ v8 = .int .i64 20 ∧ w' = w1)
    case atStart => exact ⟨rfl, rfl, rfl, rfl⟩
    case round =>
      obtain ⟨rfl, rfl, rfl, rfl⟩ := hrel
      go_wp2_with fail
      go_end0
      exact ⟨rfl, hS⟩
set_option maxRecDepth 100000 in
theorem sortstable_small {α : Type} [Inhabited α] (enc : α → Value) (cf : α → α → Int) (g : Nat) (cb : Array Value) (blk off cap : Nat) (d : Array α) (w : World)
    (eg : ∀ args w, (callFunc g args).run Try.prog w = .ok (.enter g args) w) (hcmp : CmpLays1 Try.prog g cb enc cf blk off d.size w) (R : Row1 enc w blk off d) (hsz : d.size < 20) :
    Calls Try.prog 27 #[.slice (some ⟨blk, off, none⟩) d.size cap, .func (.func g) #[] cb] w fun e w' => e = .returned (.tuple #[]) ∧ SW enc w blk off (Sort.insertionSort (ltOf cf) d 0 d.size) w' := by
  have hi : ∀ q, Calls Try.prog 31 #[.slice (some ⟨blk, off, none⟩) d.size cap, .int .i64 d.size, .func (.func g) #[] cb] (w.drewN q) fun e w' => e = .returned (.tuple #[]) ∧ SW enc w blk off (Sort.insertionSort (ltOf cf) d 0 d.size) w' := fun q =>
    stable_small enc cf g cb blk off cap d d w (w.drewN q) eg hcmp R rfl ((SW.start R.hH).drewN q) hsz
  have hi0 := Aside0.mk hi
  clear hi
  go_enter Try.func27, Try.ntmps27
  go_wp2_with (first | (go_at_call 31; (first | (refine (hi0.out 0).mono ?_) | (refine (hi0.out 1).mono ?_)); rintro e w1 ⟨rfl, hS⟩))
  go_end0
  exact ⟨rfl, hS⟩
theorem cell_sortWorld {α : Type} [Inhabited α] (enc : α → Value) (w : World) (blk off m : Nat) (dk : Array α) (os : Array Obj) {a : Addr} {v : Value} (h : w.cell? a = some v) (hne : a.block ≠ blk) : (sortWorld enc w blk off m dk os).cell? a = some v := by
  have h1 : (putRow enc (Sort.ahead w m) blk off dk).cell? a = some v := by rw [cell?_putRow_other _ _ _ _ _ _ (Or.inl hne)]; exact h
  unfold sortWorld
  rw [cell?_grow _ _ _ (World.block_lt_of_cell? _ _ h1)]; exact h1
theorem cell_SW {α : Type} [Inhabited α] {enc : α → Value} {w w1 : World} {blk off : Nat} {dk : Array α} (hS : SW enc w blk off dk w1) {a : Addr} {v : Value} (h : w.cell? a = some v) (hne : a.block ≠ blk) : w1.cell? a = some v := by
  obtain ⟨m, os, rfl⟩ := hS
  exact cell_sortWorld enc w blk off m dk os h hne
/-- a mean's place, of a cell's numbers -/
def keyI (n s : Int) : Int := match floatBits .quo .f64 (floatOfInt .f64 s) (floatOfInt .f64 n) with | none => 0 | some q => highI q
theorem key_of {n s : Int} {r : Nat} (h : MeanIs n s r) : highI r = keyI n s := by
  unfold keyI
  cases c : floatBits .quo .f64 (floatOfInt .f64 s) (floatOfInt .f64 n) with
  | some q => rw [h.1 q c]
  | none =>
    obtain ⟨h1, h2⟩ := h.2 c
    rw [highI_eq r h2]
    unfold RankPlain.hi
    rw [h1]; rfl
def encF {n : Nat} (x : Fin n) : Value := .int .i64 x.val
def cfC (C : Nat → Nat → Int) {n : Nat} (x y : Fin n) : Int := cmpI (keyI (C x.val 0) (C x.val 1)) (keyI (C y.val 0) (C y.val 1))
theorem closure_lays (bx : Addr) (ab ao m c blk off size : Nat) (C : Nat → Nat → Int) (w : World) (hb : w.cell? bx = some (.slice (some ⟨ab, ao, none⟩) (m + 1) c)) (h1 : bx.block ≠ blk) (h2 : ab ≠ blk)
    (hr : ∀ i, i < m + 1 → ∀ j, j < 4 → w.cell? ⟨ab, ao + i * 5 + 1 + j, none⟩ = some (.int .i64 (C i j))) : CmpLays1 Try.prog 28 #[.pointer (some bx)] (encF (n := m + 1)) (cfC C) blk off size w := by
  intro q os dk _ x y
  refine (closure_calls x.val y.val bx ab ao (m + 1) c C _ (cell_sortWorld _ _ _ _ _ _ _ hb h1) x.isLt y.isLt (fun i hi j hj => cell_sortWorld _ _ _ _ _ _ _ (hr i hi j hj) h2)).mono ?_
  rintro e w' ⟨⟨r1, r2, m1, m2, rfl⟩, hg⟩
  refine ⟨?_, hg⟩
  unfold cfC
  rw [key_of m1, key_of m2]
end Go.Proofs.Ytmgocfcbkejgdaa.RankSort
