/- What is proved here: rank.Order of fewer than twenty rows comes to the insertion sort of their places (conditions: the rows read as given). -/
import Derived.Test.YtmgocfcbkejgdaaRankStable
namespace Go.Proofs.Ytmgocfcbkejgdaa.RankSort
set_option linter.unusedSimpArgs false
set_option linter.unusedVariables false
open Go.Shelf Go.RowKit Go.Lib Go.Sort Go.Proofs Go.Proofs.Ytmgocfcbkejgdaa.RankBase
open Go.Proofs.YtmgocfcbkejgdaaW.PrintWords Go.Proofs.YtmgocfcbkejgdaaW.PrintLast Go.Proofs.YtmgocfcbkejgdaaW.PrintMore
def upto (n : Nat) : List Int := (List.range n).map (fun i : Nat => (i : Int))
theorem upto_get (n j : Nat) (h : j < n) : (upto n)[j]? = some (j : Int) := by simp [upto, h]
theorem upto_length (n : Nat) : (upto n).length = n := by simp [upto]
def idArr (m : Nat) : Array (Fin (m + 1)) := Array.ofFn (fun i => i)
theorem idArr_size (m : Nat) : (idArr m).size = m + 1 := by simp [idArr]
theorem idArr_get (m j : Nat) (h : j < m + 1) : (idArr m)[j]! = ⟨j, h⟩ := by
  rw [getElem!_pos _ j (by rw [idArr_size]; exact h)]
  simp [idArr]
theorem open_row {w : World} {base : Nat} {ok : Nat → Prop} {v : Value} {m : Nat} (h : Kd.R (Kd.int .i64) 3 w base ok v (upto (m + 1))) :
    ∃ g cap, v = .slice (some ⟨g, 0, none⟩) (m + 1) cap ∧ m + 1 ≤ cap ∧ base ≤ g ∧ g < w.heap.size ∧ Holds (encF (n := m + 1)) w g 0 (idArr m) := by
  obtain ⟨_, inner, ho, hr⟩ := h
  have ho' := ho
  obtain ⟨hl, hd⟩ := ho
  rw [upto_length] at hl hd
  rcases hd with ⟨_, h0⟩ | ⟨g, cap, cur, rfl, hb, hg, hn, hc, hs, ht⟩
  · omega
  · refine ⟨g, cap, rfl, hn, hb, (Array.getElem?_eq_some_iff.1 hg).1, fun j hj => ?_⟩
    rw [idArr_size] at hj
    have hp := hr.2 j (j : Int) (upto_get (m + 1) j hj)
    constructor
    · have hlen : inner.length = m + 1 := by simpa [Kd.int, Kd.scalar] using hl
      have e : inner[j]? = some (.int .i64 (j : Int)) := by
        have : (inner.drop (j * 1)).take 1 = [.int .i64 (j : Int)] := hp
        rw [Nat.mul_one] at this
        have h2 := congrArg (fun l => l[0]?) this
        simpa using h2
      have := ho'.cells (g := g) rfl j _ e
      rw [idArr_get m j hj, Nat.zero_add]
      by_cases hj0 : j = 0
      · subst hj0; simpa [Addr.add, encF] using this
      · simpa [Addr.add, encF, hj0] using this
    · simp [World.frozen?, hg]
theorem info3 : (Try.prog.info? 3).map (fun i => (i.zero, i.size, i.bytes)) = some (some (.int .i64 0), 1, 8) := by kernel_rfl
theorem upto_succ (n : Nat) : upto (n + 1) = upto n ++ [(n : Int)] := by simp [upto, List.range_succ]
theorem below_wide {B b : Nat} {w w' : World} (h : Below B w w') (hb : b ≤ B) : Below b w w' := ⟨h.os, h.tape, h.output, h.size, fun k hk => h.block k (by omega)⟩
theorem below_SW {α : Type} [Inhabited α] {enc : α → Value} {w w1 : World} {blk off B : Nat} {dk : Array α} (hS : SW enc w blk off dk w1) (hB : B ≤ blk) (hw : B ≤ w.heap.size) : Below B w w1 := by
  obtain ⟨m, os, rfl⟩ := hS
  refine ⟨rfl, rfl, rfl, ?_, fun k hk => ?_⟩
  · unfold sortWorld; rw [size_grow, size_putRow]; exact Nat.le_add_right _ _
  · have h1 : (putRow enc (Sort.ahead w m) blk off dk).heap[k]? = w.heap[k]? := by
      unfold putRow mapBlock Sort.ahead
      simp only [Array.getElem?_modify]
      rw [if_neg (by omega)]
    unfold sortWorld grow
    simp only
    rw [Array.getElem?_append_left (by rw [size_putRow]; exact Nat.lt_of_lt_of_le hk hw)]
    exact h1
set_option maxRecDepth 100000 in
theorem order_small (ab ao m c : Nat) (C : Nat → Nat → Int) (w : World) (hm : m + 1 < 20) (hz : (insertionSort (ltOf (cfC C)) (idArr m) 0 (m + 1)).size = (idArr m).size)
    (hr : ∀ i, i < m + 1 → ∀ j, j < 4 → w.cell? ⟨ab, ao + i * 5 + 1 + j, none⟩ = some (.int .i64 (C i j))) :
    Calls Try.prog 15 #[.slice (some ⟨ab, ao, none⟩) (m + 1) c] w fun e w' => (∃ g cap, e = .returned (.slice (some ⟨g, 0, none⟩) (m + 1) cap) ∧ m + 1 ≤ cap ∧ w.heap.size ≤ g ∧ g < w'.heap.size ∧ Holds (encF (n := m + 1)) w' g 0 (insertionSort (ltOf (cfC C)) (idArr m) 0 (m + 1))) ∧ Below w.heap.size w w' := by
  go_enter Try.func15, Try.ntmps15
  go_wp2_with fail
  have hbox : (w.alloc (Obj.cells #[Value.slice (some ⟨ab, ao, none⟩) (m + 1) c] 37)).cell? ⟨w.heap.size, 0, none⟩ = some (Value.slice (some ⟨ab, ao, none⟩) (m + 1) c) := by simp
  have HB0 : Below w.heap.size w (w.alloc (Obj.cells #[Value.slice (some ⟨ab, ao, none⟩) (m + 1) c] 37)) := below_alloc (Below.refl _ _) _
  have hr1 : ∀ i, i < m + 1 → ∀ j, j < 4 → (w.alloc (Obj.cells #[Value.slice (some ⟨ab, ao, none⟩) (m + 1) c] 37)).cell? ⟨ab, ao + i * 5 + 1 + j, none⟩ = some (.int .i64 (C i j)) := fun i hi j hj =>
    (HB0.cell (World.block_lt_of_cell? w _ (hr i hi j hj))).trans (hr i hi j hj)
  have habl : ab < w.heap.size := World.block_lt_of_cell? w _ (hr 0 (by omega) 0 (by omega))
  generalize hw1 : w.alloc (Obj.cells #[Value.slice (some ⟨ab, ao, none⟩) (m + 1) c] 37) = w1 at *
  have hsz1 : w1.heap.size = w.heap.size + 1 := by rw [← hw1]; simp
  have HBX := Aside0.mk hbox
  have HR1 := Aside0.mk hr1
  have HB00 := Aside0.mk HB0
  clear hr hbox hr1 HB0 hw1
  have HB := Aside0.mk (Below.refl w1.heap.size w1)
  go_loopg [3, 4, 7] (m + 1) (fun kq v3 v4 v7 w' => ∃ i : Nat, i + kq = m + 1 ∧ v7 = .int .i64 i ∧ Aside0 (Kd.R (Kd.int .i64) 3 w' w1.heap.size (fun _ => True) v3 (upto i)) ∧ Aside0 (Below w1.heap.size w1 w'))
  case atStart => exact ⟨0, by omega, rfl, ⟨(Kd.R_nil _ _ _ _ _ : Kd.R (Kd.int .i64) 3 w1 w1.heap.size (fun _ => True) (.slice none 0 0) [])⟩, HB⟩
  case round =>
    obtain ⟨i, hi, rfl, HO, HB⟩ := hrel
    cases gk with
    | zero =>
      obtain rfl : i = m + 1 := by omega
      have c1 : decide (((m + 1 : Nat) : Int) < ((m : Int) + 1)) = false := by rw [decide_eq_false_iff_not]; omega
      obtain ⟨g, cap, rfl, hcap, hbg, hg, hH⟩ := open_row HO.out
      have hR : Row1 (encF (n := m + 1)) wr g 0 (idArr m) := ⟨fun _ => rfl, hH, hg⟩
      have hbx := (HB.out.cell (World.block_lt_of_cell? w1 _ HBX.out)).trans HBX.out
      have hrw : ∀ i, i < m + 1 → ∀ j, j < 4 → wr.cell? ⟨ab, ao + i * 5 + 1 + j, none⟩ = some (.int .i64 (C i j)) := fun i hi j hj =>
        (HB.out.cell (World.block_lt_of_cell? w1 _ (HR1.out i hi j hj))).trans (HR1.out i hi j hj)
      have hcl := closure_lays ⟨w.heap.size, 0, none⟩ ab ao m c g 0 (idArr m).size C wr hbx (by show w.heap.size ≠ g; omega) (by omega) hrw
      have eg : ∀ args w, (callFunc 28 args).run Try.prog w = .ok (.enter 28 args) w := enters_of Try.func28 (by kernel_rfl) rfl
      have hs := fun (_ : Nat) => sortstable_small (encF (n := m + 1)) (cfC C) 28 #[.pointer (some ⟨w.heap.size, 0, none⟩)] g 0 cap (idArr m) wr eg hcl hR (by rw [idArr_size]; exact hm)
      rw [idArr_size] at hs
      have hs0 := Aside0.mk (hs 0)
      clear hs hcl hrw hbx eg
      go_wp2_with (first | (go_at_call 27; refine hs0.out.mono ?_; rintro e w2 ⟨rfl, hS⟩))
      go_ret
      exact ⟨⟨g, cap, rfl, hcap, by omega, hS.lt hg, hS.holds hg hH hz⟩, HB00.out.trans (below_wide (HB.out.trans (below_SW hS hbg (below_size HB.out))) (by omega))⟩
    | succ k1 =>
      have c1 : decide ((i : Int) < ((m : Int) + 1)) = true := by rw [decide_eq_true_eq]; omega
      have LM : (upto i).length < 17592186044416 := by rw [upto_length]; omega
      have LMc7 := Aside0.mk LM
      clear LM
      go_wp2_with (first | ((with_reducible refine gate_builtin (b := .append) (xs := #[.tmp 10, .tmp 12]) rfl ?_); at_builtin; refine Kd.R_append (Kd.int .i64) (w0 := w1) w1.heap.size rfl (.tmp 10) (.tmp 12) 35 3 (.int .i64 0) 8 rfl Try.underlying35 info3 rfl (by decide) (by omega) u3 (upto i) (i : Int) [.int .i64 (i : Int)] (fun _ => True) (fun _ => False) rfl rfl ?aP (fun _ hk => hk.elim) ?aF ?aO ?aB ?aS ?aL ?_; (case aP => exact rfl); (case aB => exact (by repeat (first | (with_reducible first | exact HB.out | apply below_alloc | apply pw_below_drewN | apply below_drew1) | exact HB.out))); (case aF => exact (fun _ _ => trivial)); (case aO => exact (by (with_reducible repeat (first | apply Kd.R_alloc | apply Kd.R_drewN | apply Kd.R_drew)); exact HO.out)); (case aS => exact (below_size (by repeat (first | (with_reducible first | exact HB.out | apply below_alloc | apply pw_below_drewN | apply below_drew1) | exact HB.out)))); (case aL => have := LMc7.out; omega); intro v167 w8 ho hb hg hat; have n0_ := Aside0.mk (hb); have n1_ := Aside0.mk (ho); clear HB; clear HO; have HB := n0_; have HO := n1_; clear n0_ n1_; clear ho hb hg hat))
      go_roundg k1
      case measure => omega
      case rel => exact ⟨i + 1, by omega, by simp, ⟨by rw [upto_succ]; (with_reducible repeat (first | apply Kd.R_alloc | apply Kd.R_drewN | apply Kd.R_drew)); exact HO.out⟩, ⟨by repeat (first | (with_reducible first | exact HB.out | apply below_alloc | apply pw_below_drewN | apply below_drew1) | exact HB.out)⟩⟩
end Go.Proofs.Ytmgocfcbkejgdaa.RankSort
