/- What is proved here: what a call of rank.Order comes to: the places of its rows, sorted by the means' places among all numbers and by place (conditions: those that each theorem names). -/
import Derived.Test.YtmgocfcbkejgdaaRankGen
import Derived.Test.YtmgocfcbkejgdaaRankOrder
namespace Go.Proofs.Ytmgocfcbkejgdaa.RankSort
set_option linter.unusedSimpArgs false
set_option linter.unusedVariables false
open Go.Shelf Go.RowKit Go.Lib Go.Sort Go.Proofs Go.Proofs.Ytmgocfcbkejgdaa.RankBase Go.Proofs.Ytmgocfcbkejgdaa.RankMerge
open Go.Proofs.YtmgocfcbkejgdaaW.PrintWords Go.Proofs.YtmgocfcbkejgdaaW.PrintLast Go.Proofs.YtmgocfcbkejgdaaW.PrintMore
/-- a row's key -/
def keyC (C : Nat → Nat → Int) (m : Nat) (x : Fin (m + 1)) : Int := keyI (C x.val 0) (C x.val 1)
theorem cmpI_neg (x y : Int) : cmpI x y < 0 ↔ x < y := by
  unfold cmpI
  by_cases c : x < y
  · rw [if_pos c]; omega
  · rw [if_neg c]; split <;> omega
theorem lt_key (C : Nat → Nat → Int) (m : Nat) (x y : Fin (m + 1)) : ltOf (cfC C) x y = decide (keyC C m x < keyC C m y) := by
  show decide (cmpI _ _ < 0) = _
  rw [decide_eq_decide]
  exact cmpI_neg _ _
set_option maxRecDepth 100000 in
theorem order_gen (ab ao m c : Nat) (C : Nat → Nat → Int) (w : World) (hm : m + 1 < 100000)
    (hr : ∀ i, i < m + 1 → ∀ j, j < 4 → w.cell? ⟨ab, ao + i * 5 + 1 + j, none⟩ = some (.int .i64 (C i j))) :
    Calls Try.prog 15 #[.slice (some ⟨ab, ao, none⟩) (m + 1) c] w fun e w' => (∃ g cap d', e = .returned (.slice (some ⟨g, 0, none⟩) (m + 1) cap) ∧ m + 1 ≤ cap ∧ w.heap.size ≤ g ∧ g < w'.heap.size ∧ (PermIn 0 (m + 1) (idArr m) d' ∧ SortedIn (T (keyC C m) Fin.val) 0 (m + 1) d') ∧ Holds (encF (n := m + 1)) w' g 0 d') ∧ Below w.heap.size w w' := by
  go_enter Try.func15, Try.ntmps15
  go_wp2_with fail
  have hbox : (w.alloc (Obj.cells #[Value.slice (some ⟨ab, ao, none⟩) (m + 1) c] 37)).cell? ⟨w.heap.size, 0, none⟩ = some (Value.slice (some ⟨ab, ao, none⟩) (m + 1) c) := by simp
  have HB0 : Below w.heap.size w (w.alloc (Obj.cells #[Value.slice (some ⟨ab, ao, none⟩) (m + 1) c] 37)) := below_alloc (Below.refl _ _) _
  have hr1 : ∀ i, i < m + 1 → ∀ j, j < 4 → (w.alloc (Obj.cells #[Value.slice (some ⟨ab, ao, none⟩) (m + 1) c] 37)).cell? ⟨ab, ao + i * 5 + 1 + j, none⟩ = some (.int .i64 (C i j)) := fun i hi j hj =>
    (HB0.cell (World.block_lt_of_cell? w _ (hr i hi j hj))).trans (hr i hi j hj)
  have habl : ab < w.heap.size := World.block_lt_of_cell? w _ (hr 0 (by omega) 0 (by omega))
  generalize hw1 : w.alloc (Obj.cells #[Value.slice (some ⟨ab, ao, none⟩) (m + 1) c] 37) = w1 at *
  have hsz1 : w1.heap.size = w.heap.size + 1 := by rw [← hw1]; simp
  have HBX := Aside0.mk hbox
  have HR1 := Aside0.mk hr1
  have HB00 := Aside0.mk HB0
  clear hr hbox hr1 HB0 hw1
  have HB := Aside0.mk (Below.refl w1.heap.size w1)
  go_loopg [3, 4, 7] (m + 1) (fun kq v3 v4 v7 w' => ∃ i : Nat, i + kq = m + 1 ∧ v7 = .int .i64 i ∧ Aside0 (Kd.R (Kd.int .i64) 3 w' w1.heap.size (fun _ => True) v3 (upto i)) ∧ Aside0 (Below w1.heap.size w1 w'))
  case atStart => exact ⟨0, by omega, rfl, ⟨(Kd.R_nil _ _ _ _ _ : Kd.R (Kd.int .i64) 3 w1 w1.heap.size (fun _ => True) (.slice none 0 0) [])⟩, HB⟩
  case round =>
    obtain ⟨i, hi, rfl, HO, HB⟩ := hrel
    cases gk with
    | zero =>
      obtain rfl : i = m + 1 := by omega
      have c1 : decide (((m + 1 : Nat) : Int) < ((m : Int) + 1)) = false := by rw [decide_eq_false_iff_not]; omega
      obtain ⟨g, cap, rfl, hcap, hbg, hg, hH⟩ := open_row HO.out
      have hR : Row1 (encF (n := m + 1)) wr g 0 (idArr m) := ⟨fun _ => rfl, hH, hg⟩
      have hbx := (HB.out.cell (World.block_lt_of_cell? w1 _ HBX.out)).trans HBX.out
      have hrw : ∀ i, i < m + 1 → ∀ j, j < 4 → wr.cell? ⟨ab, ao + i * 5 + 1 + j, none⟩ = some (.int .i64 (C i j)) := fun i hi j hj =>
        (HB.out.cell (World.block_lt_of_cell? w1 _ (HR1.out i hi j hj))).trans (HR1.out i hi j hj)
      have hcl := closure_lays ⟨w.heap.size, 0, none⟩ ab ao m c g 0 (idArr m).size C wr hbx (by show w.heap.size ≠ g; omega) (by omega) hrw
      have eg : ∀ args w, (callFunc 28 args).run Try.prog w = .ok (.enter 28 args) w := enters_of Try.func28 (by kernel_rfl) rfl
      have hs := fun (_ : Nat) => sortstable_gen (encF (n := m + 1)) (cfC C) (keyC C m) Fin.val 28 #[.pointer (some ⟨w.heap.size, 0, none⟩)] g 0 cap (idArr m) wr eg hcl hR (lt_key C m) (fun i hi => by rw [idArr_get m i (by rw [idArr_size] at hi; exact hi)]) (by rw [idArr_size]; omega)
      rw [idArr_size] at hs
      have hs0 := Aside0.mk (hs 0)
      clear hs hcl hrw hbx eg
      go_wp2_with (first | (go_at_call 27; refine hs0.out.mono ?_; rintro e w2 ⟨rfl, d', hp, hS⟩))
      go_ret
      exact ⟨⟨g, cap, d', rfl, hcap, by omega, hS.lt hg, hp, hS.holds hg hH hp.1.1⟩, HB00.out.trans (below_wide (HB.out.trans (below_SW hS hbg (below_size HB.out))) (by omega))⟩
    | succ k1 =>
      have c1 : decide ((i : Int) < ((m : Int) + 1)) = true := by rw [decide_eq_true_eq]; omega
      have LM : (upto i).length < 17592186044416 := by rw [upto_length]; omega
      have LMc7 := Aside0.mk LM
      clear LM
      go_wp2_with (first | ((with_reducible refine gate_builtin (b := .append) (xs := #[.tmp 10, .tmp 12]) rfl ?_); at_builtin; refine Kd.R_append (Kd.int .i64) (w0 := w1) w1.heap.size rfl (.tmp 10) (.tmp 12) 35 3 (.int .i64 0) 8 rfl Try.underlying35 info3 rfl (by decide) (by omega) u3 (upto i) (i : Int) [.int .i64 (i : Int)] (fun _ => True) (fun _ => False) rfl rfl ?aP (fun _ hk => hk.elim) ?aF ?aO ?aB ?aS ?aL ?_; (case aP => exact rfl); (case aB => exact (by repeat (first | (with_reducible first | exact HB.out | apply below_alloc | apply pw_below_drewN | apply below_drew1) | exact HB.out))); (case aF => exact (fun _ _ => trivial)); (case aO => exact (by (with_reducible repeat (first | apply Kd.R_alloc | apply Kd.R_drewN | apply Kd.R_drew)); exact HO.out)); (case aS => exact (below_size (by repeat (first | (with_reducible first | exact HB.out | apply below_alloc | apply pw_below_drewN | apply below_drew1) | exact HB.out)))); (case aL => have := LMc7.out; omega); intro v167 w8 ho hb hg hat; have n0_ := Aside0.mk (hb); have n1_ := Aside0.mk (ho); clear HB; clear HO; have HB := n0_; have HO := n1_; clear n0_ n1_; clear ho hb hg hat))
      go_roundg k1
      case measure => omega
      case rel => exact ⟨i + 1, by omega, by simp, ⟨by rw [upto_succ]; (with_reducible repeat (first | apply Kd.R_alloc | apply Kd.R_drewN | apply Kd.R_drew)); exact HO.out⟩, ⟨by repeat (first | (with_reducible first | exact HB.out | apply below_alloc | apply pw_below_drewN | apply below_drew1) | exact HB.out)⟩⟩
end Go.Proofs.Ytmgocfcbkejgdaa.RankSort
