/- Written for this claim by a program of the session: Go functions that the law reaches as plain Lean functions, each with the proof that its call comes to just that; conditions: those that each theorem names, no other. -/
import Derived.Test.YtefpmpmkodogeaaPDimsRisex0
import Derived.Test.YtefpmpmkodogeaaPDimsRisex2
namespace Go.Proofs.Ytefpmpmkodogeaa.PDimsRise
open Go.RowKit Go.Proofs.YtefpmpmkodogeaaW.PrintWords Go.Proofs.YtefpmpmkodogeaaW.PrintLast Go.Proofs.YtefpmpmkodogeaaW.PrintMore
attribute [local go_sem] max2_int min2_int max_two min_two max_three min_three max_four min_four   -- for this text's walks alone
set_option linter.unusedVariables false
set_option linter.unusedSimpArgs false

/-! ### stratumlaw03_known: function 12 -/
def stratumlaw03_known.f (k : Nat)  : Option (Bool) := (some (([5, 20] : List Int) : List Int)).bind fun y144 => ((dims_Sound.f k (([(⟨100, y144⟩ : S28)] : List (S28)))).bind fun t151 => (if t151 = true then ((dims_Up.f k 100 y144 0 1 47).bind fun t152 => (if t152 = 9 then ((dims_Up.f k 100 y144 0 2 47).bind fun t153 => (if t153 = 2 then ((dims_Up.f k 100 y144 0 3 47).bind fun t154 => (if t154 = 0 then ((dims_Up.f k 100 y144 1 2 9).bind fun t155 => (if t155 = 2 then ((dims_Levels.f 100 y144).bind fun t156 => (if t156 = 4 then ((dims_Cmp.f k (([1] : List Int)) (([1, 0] : List Int))).bind fun t163 => (some (t163 == (-1)))) else (some false))) else (some false))) else (some false))) else (some false))) else (some false))) else (some false)))
theorem stratumlaw03_known.mono : ∀ k, LeO (stratumlaw03_known.f k ) (stratumlaw03_known.f (k + 1) ) := by
  intro  k
  unfold stratumlaw03_known.f
  repeat' first
      | (with_reducible exact dims_Cmp.mono _ _ _)
      | (with_reducible exact dims_Sound.mono _ _)
      | (with_reducible exact dims_Up.mono _ _ _ _ _ _)
      | (with_reducible exact LeO.refl _)
      | (with_reducible exact LeO.none _)
      | (with_reducible refine LeO.ite ?_ ?_)
      | (with_reducible refine LeO.bind ?_ (fun _ => ?_))
      | exact dims_Cmp.mono _ _ _
      | exact dims_Sound.mono _ _
      | exact dims_Up.mono _ _ _ _ _ _
      | exact LeO.none _
      | refine LeO.ite ?_ ?_
      | refine LeO.bind ?_ (fun _ => ?_)
theorem known_ints (W : World) (b : Nat) (l : List Int) (cs : Array Value) (h : W.heap[b]? = some (.cells cs 3 (0, 0))) (hl : l.length ≤ 9223372036854775807) (hc : ∀ (j : Nat) (p : Int), l[j]? = some p → cs[j]? = some (Value.int .i64 p)) :
    Kd.C (Kd.int .i64) W (some ⟨b, 0, none⟩) l.length l :=
  ⟨rfl, hl, fun _ => ⟨⟨b, 0, none⟩, rfl, fun j p hp => ⟨[.int .i64 p], rfl, rfl, fun i u hu => by
    cases i with
    | zero =>
      have e : Value.int .i64 p = u := by simpa using hu
      subst e
      have := (blk_cell h j).trans (hc j p hp)
      cases j with
      | zero => simpa [Go.Addr.add, Kd.int, Kd.scalar] using this
      | succ j => simpa [Go.Addr.add, Kd.int, Kd.scalar] using this
    | succ i => simp at hu⟩⟩⟩
theorem known_dims (W : World) (b c : Nat) (h1 : W.heap[b]? = some (.cells #[.int .i64 5, .int .i64 20] 3 (0, 0))) (h2 : W.heap[c]? = some (.cells #[.int .i64 100, .slice (some ⟨b, 0, none⟩) 2 2] 28 (0, 0))) :
    Kd.C k28 W (some ⟨c, 0, none⟩) ([(⟨100, [5, 20]⟩ : S28)] : List S28).length ([(⟨100, [5, 20]⟩ : S28)] : List S28) :=
  ⟨rfl, by decide, fun _ => ⟨⟨c, 0, none⟩, rfl, fun j p hp => by
    cases j with
    | zero =>
      have e : (⟨100, [5, 20]⟩ : S28) = p := by simpa using hp
      subst e
      refine ⟨[.int .i64 100, .slice (some ⟨b, 0, none⟩) 2 2], rfl, k28_mk W ⟨100, [5, 20]⟩ (A1 := some ⟨b, 0, none⟩) (c1 := 2) (by decide) (known_ints W b [5, 20] _ h1 (by decide) (fun j p hp => by
        match j, hp with
        | 0, hp => simp at hp; subst hp; rfl
        | 1, hp => simp at hp; subst hp; rfl
        | j + 2, hp => simp at hp)), fun i u hu => ?_⟩
      match i, hu with
      | 0, hu =>
        have e : Value.int .i64 100 = u := by simpa using hu
        subst e
        simpa [Go.Addr.add] using (blk_cell h2 0).trans rfl
      | 1, hu =>
        have e : Value.slice (some ⟨b, 0, none⟩) 2 2 = u := by simpa using hu
        subst e
        simpa [Go.Addr.add] using (blk_cell h2 1).trans rfl
      | i + 2, hu => simp at hu
    | succ j => simp at hp⟩⟩
theorem known_two : ∀ (j : Nat) (p : Int), ([5, 20] : List Int)[j]? = some p → (#[Value.int .i64 5, Value.int .i64 20] : Array Value)[j]? = some (Value.int .i64 p) := fun j p hp => by
  match j, hp with
  | 0, hp => simp at hp; subst hp; rfl
  | 1, hp => simp at hp; subst hp; rfl
  | j + 2, hp => simp at hp
theorem known_one {α : Type} {g : Nat → Option α} (hg : ∀ k, LeO (g k) (g (k + 1))) {K k : Nat} {a t : α} (h0 : g K = some a) (h : g k = some t) : t = a := by
  have h1 := at_rounds hg (Nat.le_max_left k K) h
  have h2 := at_rounds hg (Nat.le_max_right k K) h0
  rw [h1] at h2
  exact Option.some.inj h2
set_option maxHeartbeats 8000000 in
set_option maxRecDepth 100000 in
theorem stratumlaw03_known.calls (k : Nat)  (r : Bool) (w : World) (h : stratumlaw03_known.f k  = some r) :
    Calls Try.prog 12 #[] w fun e w' => e = .returned (.bool r) ∧ Below w.heap.size w w' := by
  have hu28 := Try.underlying28
  unfold stratumlaw03_known.f at h
  rw [Option.bind_some] at h
  replace h := Option.bind_eq_some_iff.mp h
  obtain ⟨t1, A1, h⟩ := h
  obtain rfl := known_one (fun k => dims_Sound.mono [(⟨100, [5, 20]⟩ : S28)] k) (K := 30) (a := true) (by kernel_rfl) A1
  rw [if_pos rfl] at h
  replace h := Option.bind_eq_some_iff.mp h
  obtain ⟨t2, A2, h⟩ := h
  obtain rfl := known_one (fun k => dims_Up.mono 100 [5, 20] 0 1 47 k) (K := 30) (a := 9) (by kernel_rfl) A2
  rw [if_pos rfl] at h
  replace h := Option.bind_eq_some_iff.mp h
  obtain ⟨t3, A3, h⟩ := h
  obtain rfl := known_one (fun k => dims_Up.mono 100 [5, 20] 0 2 47 k) (K := 30) (a := 2) (by kernel_rfl) A3
  rw [if_pos rfl] at h
  replace h := Option.bind_eq_some_iff.mp h
  obtain ⟨t4, A4, h⟩ := h
  obtain rfl := known_one (fun k => dims_Up.mono 100 [5, 20] 0 3 47 k) (K := 30) (a := 0) (by kernel_rfl) A4
  rw [if_pos rfl] at h
  replace h := Option.bind_eq_some_iff.mp h
  obtain ⟨t5, A5, h⟩ := h
  obtain rfl := known_one (fun k => dims_Up.mono 100 [5, 20] 1 2 9 k) (K := 30) (a := 2) (by kernel_rfl) A5
  rw [if_pos rfl] at h
  replace h := Option.bind_eq_some_iff.mp h
  obtain ⟨t6, A6, h⟩ := h
  obtain rfl : t6 = 4 := Option.some.inj (A6.symm.trans (by kernel_rfl))
  rw [if_pos rfl] at h
  replace h := Option.bind_eq_some_iff.mp h
  obtain ⟨t7, A7, h⟩ := h
  obtain rfl := known_one (fun k => dims_Cmp.mono [1] [1, 0] k) (K := 30) (a := -1) (by kernel_rfl) A7
  obtain rfl : r = true := (Option.some.inj h).symm.trans rfl
  clear h
  have B1 := Aside0.mk A1
  have B2 := Aside0.mk A2
  have B3 := Aside0.mk A3
  have B4 := Aside0.mk A4
  have B5 := Aside0.mk A5
  have B6 := Aside0.mk A6
  have B7 := Aside0.mk A7
  clear A1 A2 A3 A4 A5 A6 A7
  go_enter Try.func12, Try.ntmps12
  go_wp2_with fail
  have HA := Aside0.mk (blk_alloc (blk_alloc (blk_new w (.cells #[.int .i64 5, .int .i64 20] 3)) (.cells #[.int .i64 100, .slice (some ⟨w.heap.size, 0, none⟩) 2 2] 28)) (.cells #[.int .i64 100, .slice (some ⟨w.heap.size, 0, none⟩) 2 2] 28))
  have HD := Aside0.mk (show (((w.alloc (.cells #[.int .i64 5, .int .i64 20] 3)).alloc (.cells #[.int .i64 100, .slice (some ⟨w.heap.size, 0, none⟩) 2 2] 28)).alloc (.cells #[.int .i64 100, .slice (some ⟨w.heap.size, 0, none⟩) 2 2] 28)).heap[w.heap.size + 1]? = some (.cells #[.int .i64 100, .slice (some ⟨w.heap.size, 0, none⟩) 2 2] 28 (0, 0)) from blk_alloc (by simpa using blk_new (w.alloc (.cells #[.int .i64 5, .int .i64 20] 3)) (.cells #[.int .i64 100, .slice (some ⟨w.heap.size, 0, none⟩) 2 2] 28)) _)
  have HB := Aside0.mk (below_alloc (below_alloc (below_alloc (Below.refl w.heap.size w) (.cells #[.int .i64 5, .int .i64 20] 3)) (.cells #[.int .i64 100, .slice (some ⟨w.heap.size, 0, none⟩) 2 2] 28)) (.cells #[.int .i64 100, .slice (some ⟨w.heap.size, 0, none⟩) 2 2] 28))
  refine (dims_Sound.calls k _ _ [(⟨100, [5, 20]⟩ : S28)] true _ ?hr ?hc B1.out).mono ?_
  case hr => exact known_dims _ w.heap.size _ HA.out (by simpa using blk_new ((w.alloc (.cells #[.int .i64 5, .int .i64 20] 3)).alloc (.cells #[.int .i64 100, .slice (some ⟨w.heap.size, 0, none⟩) 2 2] 28)) (.cells #[.int .i64 100, .slice (some ⟨w.heap.size, 0, none⟩) 2 2] 28))
  case hc => decide
  rintro e w1 ⟨rfl, hb⟩
  have HA2 := Aside0.mk (blk_below HA.out hb)
  have HD2 := Aside0.mk (blk_below HD.out hb)
  have HB2 := Aside0.mk (below_step HB.out hb)
  clear HA HD HB hb
  have HA := HA2
  have HD := HD2
  have HB := HB2
  clear HA2 HD2 HB2
  have d10 : w1.cell? ⟨w.heap.size + 1, 0, none⟩ = some (.int .i64 100) := (blk_cell HD.out 0).trans rfl
  have d11 : w1.cell? ⟨w.heap.size + 1, 1, none⟩ = some (.slice (some ⟨w.heap.size, 0, none⟩) 2 2) := (blk_cell HD.out 1).trans rfl
  go_wp2_with fail
  refine (dims_Up.calls k 100 _ _ [5, 20] 0 1 47 9 _ ?u0 ?v0 B2.out).mono ?_
  case u0 => exact known_ints _ w.heap.size [5, 20] _ HA.out (by decide) known_two
  case v0 => decide
  rintro e w2 ⟨rfl, hb⟩
  have HA2 := Aside0.mk (blk_below HA.out hb)
  have HD2 := Aside0.mk (blk_below HD.out hb)
  have HB2 := Aside0.mk (below_step HB.out hb)
  clear HA HD HB hb
  have HA := HA2
  have HD := HD2
  have HB := HB2
  clear HA2 HD2 HB2
  have d20 : w2.cell? ⟨w.heap.size + 1, 0, none⟩ = some (.int .i64 100) := (blk_cell HD.out 0).trans rfl
  have d21 : w2.cell? ⟨w.heap.size + 1, 1, none⟩ = some (.slice (some ⟨w.heap.size, 0, none⟩) 2 2) := (blk_cell HD.out 1).trans rfl
  go_wp2_with fail
  refine (dims_Up.calls k 100 _ _ [5, 20] 0 2 47 2 _ ?u1 ?v1 B3.out).mono ?_
  case u1 => exact known_ints _ w.heap.size [5, 20] _ HA.out (by decide) known_two
  case v1 => decide
  rintro e w3 ⟨rfl, hb⟩
  have HA2 := Aside0.mk (blk_below HA.out hb)
  have HD2 := Aside0.mk (blk_below HD.out hb)
  have HB2 := Aside0.mk (below_step HB.out hb)
  clear HA HD HB hb
  have HA := HA2
  have HD := HD2
  have HB := HB2
  clear HA2 HD2 HB2
  have d30 : w3.cell? ⟨w.heap.size + 1, 0, none⟩ = some (.int .i64 100) := (blk_cell HD.out 0).trans rfl
  have d31 : w3.cell? ⟨w.heap.size + 1, 1, none⟩ = some (.slice (some ⟨w.heap.size, 0, none⟩) 2 2) := (blk_cell HD.out 1).trans rfl
  go_wp2_with fail
  refine (dims_Up.calls k 100 _ _ [5, 20] 0 3 47 0 _ ?u2 ?v2 B4.out).mono ?_
  case u2 => exact known_ints _ w.heap.size [5, 20] _ HA.out (by decide) known_two
  case v2 => decide
  rintro e w4 ⟨rfl, hb⟩
  have HA2 := Aside0.mk (blk_below HA.out hb)
  have HD2 := Aside0.mk (blk_below HD.out hb)
  have HB2 := Aside0.mk (below_step HB.out hb)
  clear HA HD HB hb
  have HA := HA2
  have HD := HD2
  have HB := HB2
  clear HA2 HD2 HB2
  have d40 : w4.cell? ⟨w.heap.size + 1, 0, none⟩ = some (.int .i64 100) := (blk_cell HD.out 0).trans rfl
  have d41 : w4.cell? ⟨w.heap.size + 1, 1, none⟩ = some (.slice (some ⟨w.heap.size, 0, none⟩) 2 2) := (blk_cell HD.out 1).trans rfl
  go_wp2_with fail
  refine (dims_Up.calls k 100 _ _ [5, 20] 1 2 9 2 _ ?u3 ?v3 B5.out).mono ?_
  case u3 => exact known_ints _ w.heap.size [5, 20] _ HA.out (by decide) known_two
  case v3 => decide
  rintro e w5 ⟨rfl, hb⟩
  have HA2 := Aside0.mk (blk_below HA.out hb)
  have HD2 := Aside0.mk (blk_below HD.out hb)
  have HB2 := Aside0.mk (below_step HB.out hb)
  clear HA HD HB hb
  have HA := HA2
  have HD := HD2
  have HB := HB2
  clear HA2 HD2 HB2
  have d50 : w5.cell? ⟨w.heap.size + 1, 0, none⟩ = some (.int .i64 100) := (blk_cell HD.out 0).trans rfl
  have d51 : w5.cell? ⟨w.heap.size + 1, 1, none⟩ = some (.slice (some ⟨w.heap.size, 0, none⟩) 2 2) := (blk_cell HD.out 1).trans rfl
  go_wp2_with fail
  refine (dims_Levels.calls 100 _ _ [5, 20] 4 _ ?l1 ?l2 B6.out).mono ?_
  case l1 => exact known_ints _ w.heap.size [5, 20] _ HA.out (by decide) known_two
  case l2 => decide
  rintro e w6 ⟨rfl, hb⟩
  have HA2 := Aside0.mk (blk_below HA.out hb)
  have HD2 := Aside0.mk (blk_below HD.out hb)
  have HB2 := Aside0.mk (below_step HB.out hb)
  clear HA HD HB hb
  have HA := HA2
  have HD := HD2
  have HB := HB2
  clear HA2 HD2 HB2
  have d60 : w6.cell? ⟨w.heap.size + 1, 0, none⟩ = some (.int .i64 100) := (blk_cell HD.out 0).trans rfl
  have d61 : w6.cell? ⟨w.heap.size + 1, 1, none⟩ = some (.slice (some ⟨w.heap.size, 0, none⟩) 2 2) := (blk_cell HD.out 1).trans rfl
  go_wp2_with fail
  refine (dims_Cmp.calls k _ _ [1] _ _ [1, 0] (-1) _ ?m1 ?m2 ?m3 ?m4 B7.out).mono ?_
  case m1 => exact known_ints _ w6.heap.size [1] _ (blk_alloc (blk_new w6 (.cells #[.int .i64 1] 3)) _) (by decide) (fun j p hp => by
    match j, hp with
    | 0, hp => simp at hp; subst hp; rfl
    | j + 1, hp => simp at hp)
  case m2 => decide
  case m3 => exact known_ints _ (w6.heap.size + 1) [1, 0] _ (by simpa using blk_new (w6.alloc (.cells #[.int .i64 1] 3)) (.cells #[.int .i64 1, .int .i64 0] 3)) (by decide) (fun j p hp => by
    match j, hp with
    | 0, hp => simp at hp; subst hp; rfl
    | 1, hp => simp at hp; subst hp; rfl
    | j + 2, hp => simp at hp)
  case m4 => decide
  rintro e w7 ⟨rfl, hb⟩
  have HB2 := Aside0.mk (below_step (below_alloc (below_alloc HB.out _) _) hb)
  clear hb
  go_wp2
  go_ret
  exact ⟨rfl, HB2.out⟩

/-! ### stratumref03_Levels: function 16 -/
def stratumref03_Levels.f (a0_0 : Int) (l0_1 : List Int) : Option (Int) := some (wrap64 ((l0_1.length : Int) + 2))
set_option maxHeartbeats 8000000 in
set_option maxRecDepth 100000 in
theorem stratumref03_Levels.calls (a0_0 : Int) (A0_1 : Option Addr) (c0_1 : Nat) (l0_1 : List Int) (r : Int) (w : World) (hr0_1 : Kd.C (Kd.int .i64) w A0_1 l0_1.length l0_1) (hc0_1 : l0_1.length ≤ c0_1) (h : stratumref03_Levels.f a0_0 l0_1 = some r) :
    Calls Try.prog 16 #[.agg #[.int .i64 a0_0, .slice A0_1 l0_1.length c0_1]] w fun e w' => e = .returned (.int .i64 r) ∧ Below w.heap.size w w' := by
  have hu28 := Try.underlying28
  have HR0_1 := Aside0.mk hr0_1
  have HC0_1 := Aside0.mk hc0_1
  clear hr0_1 hc0_1
  have HB := Aside0.mk (Below.refl w.heap.size w)
  have H : (some (wrap64 ((l0_1.length : Int) + 2))) = some r := h
  clear h
  obtain rfl := Option.some.inj H
  go_enter Try.func16, Try.ntmps16
  go_wp2_with (first | ((with_reducible refine gate_dst (N := 1) rfl ?_); refine box_event ?hg (N := 1) ?hd (cs := #[.int .i64 a0_0, .slice A0_1 l0_1.length c0_1]) (t := 28) ?hr ?_; (case hd => rfl); (case hg => rfl); (case hr => first | (go_simp; done) | (go_simp; rfl)); intro gb164 hg w2 hbox hb; have n0_ := Aside0.mk (below_step (by repeat (first | (with_reducible first | exact HB.out | apply below_alloc | apply pw_below_drewN | apply below_drew1) | exact HB.out)) hb); have n1_ := Aside0.mk (hbox); have n2_ := Aside0.mk ((by rw [hg]; exact (below_size (by repeat (first | (with_reducible first | exact HB.out | apply below_alloc | apply pw_below_drewN | apply below_drew1) | exact HB.out))) : w.heap.size ≤ gb164)); have n3_ := Aside0.mk ((by rw [hg]; exact (below_size (by repeat (first | (with_reducible first | exact HB.out | apply below_alloc | apply pw_below_drewN | apply below_drew1) | exact HB.out))) : w.heap.size ≤ gb164)); clear HB; have HB := n0_; have BK164 := n1_; have GW164 := n2_; have GE164 := n3_; clear n0_ n1_ n2_ n3_; clear hb hbox hg; have hcz3_0 : w2.cell? ⟨gb164, 0, none⟩ = some (.int .i64 a0_0) := (blk_cell BK164.out 0).trans rfl; have hcz3_1 : w2.cell? ⟨gb164, 1, none⟩ = some (.slice A0_1 l0_1.length c0_1) := (blk_cell BK164.out 1).trans rfl; have hfz3_0 := blk_frozen BK164.out 0; have hfz3_1 := blk_frozen BK164.out 1))
  go_ret
  exact ⟨by first | rfl | (simp [errW_none, errW_some] <;> rfl) | (simp [*, errW_none, errW_some] <;> rfl), by repeat (first | (with_reducible first | exact HB.out | apply below_alloc | apply pw_below_drewN | apply below_drew1 | refine below_set ?_ GE164.out) | exact HB.out)⟩

end Go.Proofs.Ytefpmpmkodogeaa.PDimsRise
