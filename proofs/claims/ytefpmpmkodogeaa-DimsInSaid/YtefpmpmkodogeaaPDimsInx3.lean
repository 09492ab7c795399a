/- Written for this claim by a program of the session: Go functions that the law reaches as plain Lean functions, each with the proof that its call comes to just that; conditions: those that each theorem names, no other. -/
import Derived.Test.YtefpmpmkodogeaaPDimsInx0
import Derived.Test.YtefpmpmkodogeaaPDimsInx1
import Derived.Test.YtefpmpmkodogeaaPDimsInx2
namespace Go.Proofs.Ytefpmpmkodogeaa.PDimsIn
open Go.RowKit Go.Proofs.YtefpmpmkodogeaaW.PrintWords Go.Proofs.YtefpmpmkodogeaaW.PrintLast Go.Proofs.YtefpmpmkodogeaaW.PrintMore
attribute [local go_sem] max2_int min2_int max_two min_two max_three min_three max_four min_four   -- for this text's walks alone
set_option linter.unusedVariables false
set_option linter.unusedSimpArgs false

/-! ### stratumlaw03_known: function 12 -/
def stratumlaw03_known.f (k : Nat)  : Option (Bool) := (some (([5, 20] : List Int) : List Int)).bind fun y144 => ((dims_Sound.f k (([(⟨100, y144⟩ : S28)] : List (S28)))).bind fun t151 => (if t151 = true then ((dims_Up.f k 100 y144 0 1 47).bind fun t152 => (if t152 = 9 then ((dims_Up.f k 100 y144 0 2 47).bind fun t153 => (if t153 = 2 then ((dims_Up.f k 100 y144 0 3 47).bind fun t154 => (if t154 = 0 then ((dims_Up.f k 100 y144 1 2 9).bind fun t155 => (if t155 = 2 then ((dims_Levels.f 100 y144).bind fun t156 => (if t156 = 4 then ((dims_Cmp.f k (([1] : List Int)) (([1, 0] : List Int))).bind fun t163 => (some (t163 == (-1)))) else (some false))) else (some false))) else (some false))) else (some false))) else (some false))) else (some false)))
theorem stratumlaw03_known.mono : ∀ k, LeO (stratumlaw03_known.f k ) (stratumlaw03_known.f (k + 1) ) := by
  intro  k
  unfold stratumlaw03_known.f
  repeat' first
      | (with_reducible exact dims_Cmp.mono _ _ _)
      | (with_reducible exact dims_Sound.mono _ _)
      | (with_reducible exact dims_Up.mono _ _ _ _ _ _)
      | (with_reducible exact LeO.refl _)
      | (with_reducible exact LeO.none _)
      | (with_reducible refine LeO.ite ?_ ?_)
      | (with_reducible refine LeO.bind ?_ (fun _ => ?_))
      | exact dims_Cmp.mono _ _ _
      | exact dims_Sound.mono _ _
      | exact dims_Up.mono _ _ _ _ _ _
      | exact LeO.none _
      | refine LeO.ite ?_ ?_
      | refine LeO.bind ?_ (fun _ => ?_)
theorem known_ints (W : World) (b : Nat) (l : List Int) (cs : Array Value) (h : W.heap[b]? = some (.cells cs 3 (0, 0))) (hl : l.length ≤ 9223372036854775807) (hc : ∀ (j : Nat) (p : Int), l[j]? = some p → cs[j]? = some (Value.int .i64 p)) :
    Kd.C (Kd.int .i64) W (some ⟨b, 0, none⟩) l.length l :=
  ⟨rfl, hl, fun _ => ⟨⟨b, 0, none⟩, rfl, fun j p hp => ⟨[.int .i64 p], rfl, rfl, fun i u hu => by
    cases i with
    | zero =>
      have e : Value.int .i64 p = u := by simpa using hu
      subst e
      have := (blk_cell h j).trans (hc j p hp)
      cases j with
      | zero => simpa [Go.Addr.add, Kd.int, Kd.scalar] using this
      | succ j => simpa [Go.Addr.add, Kd.int, Kd.scalar] using this
    | succ i => simp at hu⟩⟩⟩
theorem known_dims (W : World) (b c : Nat) (h1 : W.heap[b]? = some (.cells #[.int .i64 5, .int .i64 20] 3 (0, 0))) (h2 : W.heap[c]? = some (.cells #[.int .i64 100, .slice (some ⟨b, 0, none⟩) 2 2] 28 (0, 0))) :
    Kd.C k28 W (some ⟨c, 0, none⟩) ([(⟨100, [5, 20]⟩ : S28)] : List S28).length ([(⟨100, [5, 20]⟩ : S28)] : List S28) :=
  ⟨rfl, by decide, fun _ => ⟨⟨c, 0, none⟩, rfl, fun j p hp => by
    cases j with
    | zero =>
      have e : (⟨100, [5, 20]⟩ : S28) = p := by simpa using hp
      subst e
      refine ⟨[.int .i64 100, .slice (some ⟨b, 0, none⟩) 2 2], rfl, k28_mk W ⟨100, [5, 20]⟩ (A1 := some ⟨b, 0, none⟩) (c1 := 2) (by decide) (known_ints W b [5, 20] _ h1 (by decide) (fun j p hp => by
        match j, hp with
        | 0, hp => simp at hp; subst hp; rfl
        | 1, hp => simp at hp; subst hp; rfl
        | j + 2, hp => simp at hp)), fun i u hu => ?_⟩
      match i, hu with
      | 0, hu =>
        have e : Value.int .i64 100 = u := by simpa using hu
        subst e
        simpa [Go.Addr.add] using (blk_cell h2 0).trans rfl
      | 1, hu =>
        have e : Value.slice (some ⟨b, 0, none⟩) 2 2 = u := by simpa using hu
        subst e
        simpa [Go.Addr.add] using (blk_cell h2 1).trans rfl
      | i + 2, hu => simp at hu
    | succ j => simp at hp⟩⟩
theorem known_two : ∀ (j : Nat) (p : Int), ([5, 20] : List Int)[j]? = some p → (#[Value.int .i64 5, Value.int .i64 20] : Array Value)[j]? = some (Value.int .i64 p) := fun j p hp => by
  match j, hp with
  | 0, hp => simp at hp; subst hp; rfl
  | 1, hp => simp at hp; subst hp; rfl
  | j + 2, hp => simp at hp
theorem known_one {α : Type} {g : Nat → Option α} (hg : ∀ k, LeO (g k) (g (k + 1))) {K k : Nat} {a t : α} (h0 : g K = some a) (h : g k = some t) : t = a := by
  have h1 := at_rounds hg (Nat.le_max_left k K) h
  have h2 := at_rounds hg (Nat.le_max_right k K) h0
  rw [h1] at h2
  exact Option.some.inj h2
set_option maxHeartbeats 8000000 in
set_option maxRecDepth 100000 in
theorem stratumlaw03_known.calls (k : Nat)  (r : Bool) (w : World) (h : stratumlaw03_known.f k  = some r) :
    Calls Try.prog 12 #[] w fun e w' => e = .returned (.bool r) ∧ Below w.heap.size w w' := by
  have hu28 := Try.underlying28
  unfold stratumlaw03_known.f at h
  rw [Option.bind_some] at h
  replace h := Option.bind_eq_some_iff.mp h
  obtain ⟨t1, A1, h⟩ := h
  obtain rfl := known_one (fun k => dims_Sound.mono [(⟨100, [5, 20]⟩ : S28)] k) (K := 30) (a := true) (by kernel_rfl) A1
  rw [if_pos rfl] at h
  replace h := Option.bind_eq_some_iff.mp h
  obtain ⟨t2, A2, h⟩ := h
  obtain rfl := known_one (fun k => dims_Up.mono 100 [5, 20] 0 1 47 k) (K := 30) (a := 9) (by kernel_rfl) A2
  rw [if_pos rfl] at h
  replace h := Option.bind_eq_some_iff.mp h
  obtain ⟨t3, A3, h⟩ := h
  obtain rfl := known_one (fun k => dims_Up.mono 100 [5, 20] 0 2 47 k) (K := 30) (a := 2) (by kernel_rfl) A3
  rw [if_pos rfl] at h
  replace h := Option.bind_eq_some_iff.mp h
  obtain ⟨t4, A4, h⟩ := h
  obtain rfl := known_one (fun k => dims_Up.mono 100 [5, 20] 0 3 47 k) (K := 30) (a := 0) (by kernel_rfl) A4
  rw [if_pos rfl] at h
  replace h := Option.bind_eq_some_iff.mp h
  obtain ⟨t5, A5, h⟩ := h
  obtain rfl := known_one (fun k => dims_Up.mono 100 [5, 20] 1 2 9 k) (K := 30) (a := 2) (by kernel_rfl) A5
  rw [if_pos rfl] at h
  replace h := Option.bind_eq_some_iff.mp h
  obtain ⟨t6, A6, h⟩ := h
  obtain rfl : t6 = 4 := Option.some.inj (A6.symm.trans (by kernel_rfl))
  rw [if_pos rfl] at h
  replace h := Option.bind_eq_some_iff.mp h
  obtain ⟨t7, A7, h⟩ := h
  obtain rfl := known_one (fun k => dims_Cmp.mono [1] [1, 0] k) (K := 30) (a := -1) (by kernel_rfl) A7
  obtain rfl : r = true := (Option.some.inj h).symm.trans rfl
  clear h
  have B1 := Aside0.mk A1
  have B2 := Aside0.mk A2
  have B3 := Aside0.mk A3
  have B4 := Aside0.mk A4
  have B5 := Aside0.mk A5
  have B6 := Aside0.mk A6
  have B7 := Aside0.mk A7
  clear A1 A2 A3 A4 A5 A6 A7
  go_enter Try.func12, Try.ntmps12
  go_wp2_with fail
  have HA := Aside0.mk (blk_alloc (blk_alloc (blk_new w (.cells #[.int .i64 5, .int .i64 20] 3)) (.cells #[.int .i64 100, .slice (some ⟨w.heap.size, 0, none⟩) 2 2] 28)) (.cells #[.int .i64 100, .slice (some ⟨w.heap.size, 0, none⟩) 2 2] 28))
  have HD := Aside0.mk (show (((w.alloc (.cells #[.int .i64 5, .int .i64 20] 3)).alloc (.cells #[.int .i64 100, .slice (some ⟨w.heap.size, 0, none⟩) 2 2] 28)).alloc (.cells #[.int .i64 100, .slice (some ⟨w.heap.size, 0, none⟩) 2 2] 28)).heap[w.heap.size + 1]? = some (.cells #[.int .i64 100, .slice (some ⟨w.heap.size, 0, none⟩) 2 2] 28 (0, 0)) from blk_alloc (by simpa using blk_new (w.alloc (.cells #[.int .i64 5, .int .i64 20] 3)) (.cells #[.int .i64 100, .slice (some ⟨w.heap.size, 0, none⟩) 2 2] 28)) _)
  have HB := Aside0.mk (below_alloc (below_alloc (below_alloc (Below.refl w.heap.size w) (.cells #[.int .i64 5, .int .i64 20] 3)) (.cells #[.int .i64 100, .slice (some ⟨w.heap.size, 0, none⟩) 2 2] 28)) (.cells #[.int .i64 100, .slice (some ⟨w.heap.size, 0, none⟩) 2 2] 28))
  refine (dims_Sound.calls k _ _ [(⟨100, [5, 20]⟩ : S28)] true _ ?hr ?hc B1.out).mono ?_
  case hr => exact known_dims _ w.heap.size _ HA.out (by simpa using blk_new ((w.alloc (.cells #[.int .i64 5, .int .i64 20] 3)).alloc (.cells #[.int .i64 100, .slice (some ⟨w.heap.size, 0, none⟩) 2 2] 28)) (.cells #[.int .i64 100, .slice (some ⟨w.heap.size, 0, none⟩) 2 2] 28))
  case hc => decide
  rintro e w1 ⟨rfl, hb⟩
  have HA2 := Aside0.mk (blk_below HA.out hb)
  have HD2 := Aside0.mk (blk_below HD.out hb)
  have HB2 := Aside0.mk (below_step HB.out hb)
  clear HA HD HB hb
  have HA := HA2
  have HD := HD2
  have HB := HB2
  clear HA2 HD2 HB2
  have d10 : w1.cell? ⟨w.heap.size + 1, 0, none⟩ = some (.int .i64 100) := (blk_cell HD.out 0).trans rfl
  have d11 : w1.cell? ⟨w.heap.size + 1, 1, none⟩ = some (.slice (some ⟨w.heap.size, 0, none⟩) 2 2) := (blk_cell HD.out 1).trans rfl
  go_wp2_with fail
  refine (dims_Up.calls k 100 _ _ [5, 20] 0 1 47 9 _ ?u0 ?v0 B2.out).mono ?_
  case u0 => exact known_ints _ w.heap.size [5, 20] _ HA.out (by decide) known_two
  case v0 => decide
  rintro e w2 ⟨rfl, hb⟩
  have HA2 := Aside0.mk (blk_below HA.out hb)
  have HD2 := Aside0.mk (blk_below HD.out hb)
  have HB2 := Aside0.mk (below_step HB.out hb)
  clear HA HD HB hb
  have HA := HA2
  have HD := HD2
  have HB := HB2
  clear HA2 HD2 HB2
  have d20 : w2.cell? ⟨w.heap.size + 1, 0, none⟩ = some (.int .i64 100) := (blk_cell HD.out 0).trans rfl
  have d21 : w2.cell? ⟨w.heap.size + 1, 1, none⟩ = some (.slice (some ⟨w.heap.size, 0, none⟩) 2 2) := (blk_cell HD.out 1).trans rfl
  go_wp2_with fail
  refine (dims_Up.calls k 100 _ _ [5, 20] 0 2 47 2 _ ?u1 ?v1 B3.out).mono ?_
  case u1 => exact known_ints _ w.heap.size [5, 20] _ HA.out (by decide) known_two
  case v1 => decide
  rintro e w3 ⟨rfl, hb⟩
  have HA2 := Aside0.mk (blk_below HA.out hb)
  have HD2 := Aside0.mk (blk_below HD.out hb)
  have HB2 := Aside0.mk (below_step HB.out hb)
  clear HA HD HB hb
  have HA := HA2
  have HD := HD2
  have HB := HB2
  clear HA2 HD2 HB2
  have d30 : w3.cell? ⟨w.heap.size + 1, 0, none⟩ = some (.int .i64 100) := (blk_cell HD.out 0).trans rfl
  have d31 : w3.cell? ⟨w.heap.size + 1, 1, none⟩ = some (.slice (some ⟨w.heap.size, 0, none⟩) 2 2) := (blk_cell HD.out 1).trans rfl
  go_wp2_with fail
  refine (dims_Up.calls k 100 _ _ [5, 20] 0 3 47 0 _ ?u2 ?v2 B4.out).mono ?_
  case u2 => exact known_ints _ w.heap.size [5, 20] _ HA.out (by decide) known_two
  case v2 => decide
  rintro e w4 ⟨rfl, hb⟩
  have HA2 := Aside0.mk (blk_below HA.out hb)
  have HD2 := Aside0.mk (blk_below HD.out hb)
  have HB2 := Aside0.mk (below_step HB.out hb)
  clear HA HD HB hb
  have HA := HA2
  have HD := HD2
  have HB := HB2
  clear HA2 HD2 HB2
  have d40 : w4.cell? ⟨w.heap.size + 1, 0, none⟩ = some (.int .i64 100) := (blk_cell HD.out 0).trans rfl
  have d41 : w4.cell? ⟨w.heap.size + 1, 1, none⟩ = some (.slice (some ⟨w.heap.size, 0, none⟩) 2 2) := (blk_cell HD.out 1).trans rfl
  go_wp2_with fail
  refine (dims_Up.calls k 100 _ _ [5, 20] 1 2 9 2 _ ?u3 ?v3 B5.out).mono ?_
  case u3 => exact known_ints _ w.heap.size [5, 20] _ HA.out (by decide) known_two
  case v3 => decide
  rintro e w5 ⟨rfl, hb⟩
  have HA2 := Aside0.mk (blk_below HA.out hb)
  have HD2 := Aside0.mk (blk_below HD.out hb)
  have HB2 := Aside0.mk (below_step HB.out hb)
  clear HA HD HB hb
  have HA := HA2
  have HD := HD2
  have HB := HB2
  clear HA2 HD2 HB2
  have d50 : w5.cell? ⟨w.heap.size + 1, 0, none⟩ = some (.int .i64 100) := (blk_cell HD.out 0).trans rfl
  have d51 : w5.cell? ⟨w.heap.size + 1, 1, none⟩ = some (.slice (some ⟨w.heap.size, 0, none⟩) 2 2) := (blk_cell HD.out 1).trans rfl
  go_wp2_with fail
  refine (dims_Levels.calls 100 _ _ [5, 20] 4 _ ?l1 ?l2 B6.out).mono ?_
  case l1 => exact known_ints _ w.heap.size [5, 20] _ HA.out (by decide) known_two
  case l2 => decide
  rintro e w6 ⟨rfl, hb⟩
  have HA2 := Aside0.mk (blk_below HA.out hb)
  have HD2 := Aside0.mk (blk_below HD.out hb)
  have HB2 := Aside0.mk (below_step HB.out hb)
  clear HA HD HB hb
  have HA := HA2
  have HD := HD2
  have HB := HB2
  clear HA2 HD2 HB2
  have d60 : w6.cell? ⟨w.heap.size + 1, 0, none⟩ = some (.int .i64 100) := (blk_cell HD.out 0).trans rfl
  have d61 : w6.cell? ⟨w.heap.size + 1, 1, none⟩ = some (.slice (some ⟨w.heap.size, 0, none⟩) 2 2) := (blk_cell HD.out 1).trans rfl
  go_wp2_with fail
  refine (dims_Cmp.calls k _ _ [1] _ _ [1, 0] (-1) _ ?m1 ?m2 ?m3 ?m4 B7.out).mono ?_
  case m1 => exact known_ints _ w6.heap.size [1] _ (blk_alloc (blk_new w6 (.cells #[.int .i64 1] 3)) _) (by decide) (fun j p hp => by
    match j, hp with
    | 0, hp => simp at hp; subst hp; rfl
    | j + 1, hp => simp at hp)
  case m2 => decide
  case m3 => exact known_ints _ (w6.heap.size + 1) [1, 0] _ (by simpa using blk_new (w6.alloc (.cells #[.int .i64 1] 3)) (.cells #[.int .i64 1, .int .i64 0] 3)) (by decide) (fun j p hp => by
    match j, hp with
    | 0, hp => simp at hp; subst hp; rfl
    | 1, hp => simp at hp; subst hp; rfl
    | j + 2, hp => simp at hp)
  case m4 => decide
  rintro e w7 ⟨rfl, hb⟩
  have HB2 := Aside0.mk (below_step (below_alloc (below_alloc HB.out _) _) hb)
  clear hb
  go_wp2
  go_ret
  exact ⟨rfl, HB2.out⟩

/-! ### stratumlaw03_Key: function 24 -/
def stratumlaw03_Key.l0 : Nat → List (S28) → List Int → List Int → Int → Option (List Int)
  | 0, _, _, _, _ => none
  | k + 1, x0, x1, x5, x6 => if x6 < (x0.length : Int) then (if x6 < (x1.length : Int) then (if 0 ≤ x6 then (if ((rd_T28 x0 x6).f0) = 0 then (none) else (if x5.length < 17592186044416 then (stratumlaw03_Key.l0 k x0 x1 (x5 ++ [Int.tmod (wrap64 (rd x1 x6)) ((rd_T28 x0 x6).f0)]) (wrap64 (x6 + 1))) else (none))) else (none)) else (if 0 ≤ x6 then (if ((rd_T28 x0 x6).f0) = 0 then (none) else (if x5.length < 17592186044416 then (stratumlaw03_Key.l0 k x0 x1 (x5 ++ [0]) (wrap64 (x6 + 1))) else (none))) else (none))) else (some x5)
def stratumlaw03_Key.f (k : Nat) (l0 : List (S28)) (l1 : List Int) : Option (List Int) := stratumlaw03_Key.l0 k l0 l1 ([] : List Int) 0
theorem stratumlaw03_Key.mono_l : ∀ k, (∀ y0 y1 y2 y3, LeO (stratumlaw03_Key.l0 k y0 y1 y2 y3) (stratumlaw03_Key.l0 (k + 1) y0 y1 y2 y3))
  | 0 => fun _ _ _ _ r h => by simp [stratumlaw03_Key.l0] at h
  | k + 1 => by
    have ih0 := stratumlaw03_Key.mono_l k
    · intro y0 y1 y2 y3
      unfold stratumlaw03_Key.l0
      repeat' first
      | (with_reducible exact ih0 _ _ _ _)
      | (with_reducible exact LeO.refl _)
      | (with_reducible exact LeO.none _)
      | (with_reducible refine LeO.ite ?_ ?_)
      | (with_reducible refine LeO.bind ?_ (fun _ => ?_))
      | exact ih0 _ _ _ _
      | exact LeO.none _
      | refine LeO.ite ?_ ?_
      | refine LeO.bind ?_ (fun _ => ?_)
theorem stratumlaw03_Key.mono : ∀ a0 a1 k, LeO (stratumlaw03_Key.f k a0 a1) (stratumlaw03_Key.f (k + 1) a0 a1) := by
  intro a0 a1 k
  have ih0 := stratumlaw03_Key.mono_l k
  unfold stratumlaw03_Key.f
  repeat' first
      | (with_reducible exact ih0 _ _ _ _)
      | (with_reducible exact LeO.refl _)
      | (with_reducible exact LeO.none _)
      | (with_reducible refine LeO.ite ?_ ?_)
      | (with_reducible refine LeO.bind ?_ (fun _ => ?_))
      | exact ih0 _ _ _ _
      | exact LeO.none _
      | refine LeO.ite ?_ ?_
      | refine LeO.bind ?_ (fun _ => ?_)
set_option maxHeartbeats 8000000 in
set_option maxRecDepth 100000 in
theorem stratumlaw03_Key.calls (k : Nat) (A0 : Option Addr) (c0 : Nat) (l0 : List (S28)) (A1 : Option Addr) (c1 : Nat) (l1 : List Int) (r : List Int) (w : World) (hr0 : Kd.C k28 w A0 l0.length l0) (hc0 : l0.length ≤ c0) (hr1 : Kd.C (Kd.int .u16) w A1 l1.length l1) (hc1 : l1.length ≤ c1) (h : stratumlaw03_Key.f k l0 l1 = some r) :
    Calls Try.prog 24 #[.slice A0 l0.length c0, .slice A1 l1.length c1] w fun e w' => ∃ v0_ : Value, e = .returned (v0_) ∧ Kd.R (Kd.int .i64) 3 w' w.heap.size (fun _ => True) v0_ r ∧ Below w.heap.size w w' := by
  have HR0 := Aside0.mk hr0
  have HC0 := Aside0.mk hc0
  clear hr0 hc0
  have HR1 := Aside0.mk hr1
  have HC1 := Aside0.mk hc1
  clear hr1 hc1
  have HB := Aside0.mk (Below.refl w.heap.size w)
  have H : (stratumlaw03_Key.l0 k l0 l1 ([] : List Int) 0) = some r := h
  clear h
  have H' := Aside0.mk H
  clear H
  go_enter Try.func24, Try.ntmps24
  go_wp2
  go_loopg [5, 6] k (fun kq v5 v6 w' => ∃ (x5_1 : List Int) (x6_1 : Int), v6 = .int .i64 x6_1 ∧ Aside0 (stratumlaw03_Key.l0 kq l0 l1 x5_1 x6_1 = some r) ∧ Aside0 (kq ≤ k) ∧ Aside0 (Kd.R (Kd.int .i64) 3 w' w.heap.size (fun _ => True) v5 x5_1) ∧ Aside0 (Below w.heap.size w w'))
  case atStart => exact ⟨(([] : List Int)), (0), (by first | rfl | (simp; done) | (simp [*]; done)), H', ⟨Nat.le_refl _⟩, ⟨by first | exact Kd.R_nil _ _ _ _ _ | exact Kd.N_nil _ _ _ _ _ | exact Kd.V_nil _ _ _ _ _ | exact Kd.Q_nil _ _ _ _ _ | exact Kd.S_nil _ _ _ _ _⟩, ⟨by repeat (first | (with_reducible first | exact HB.out | apply below_alloc | apply pw_below_drewN | apply below_drew1) | exact HB.out)⟩⟩
  case round =>
    clear H'
    try clear c1
    try clear c2
    try clear p2
    obtain ⟨x5_1, x6_1, rfl, HA, HK1, HO_5, HB⟩ := hrel
    cases gk with
    | zero => exact absurd HA.out (by simp [stratumlaw03_Key.l0])
    | succ k1 =>
      have H := HA.out
      clear HA
      simp only [stratumlaw03_Key.l0] at H
      by_cases c3 : x6_1 < (l0.length : Int)
      · rw [if_pos c3] at H
        have c3b0 : decide (x6_1 < (l0.length : Int)) = true := decide_eq_true c3
        clear c3
        by_cases c4 : x6_1 < (l1.length : Int)
        · rw [if_pos c4] at H
          have c4b0 : decide (x6_1 < (l1.length : Int)) = true := decide_eq_true c4
          clear c4
          by_cases c5 : 0 ≤ x6_1
          · rw [if_pos c5] at H
            have c5b0 : decide (0 ≤ x6_1) = true := decide_eq_true c5
            clear c5
            by_cases c6 : ((rd_T28 l0 x6_1).f0) = 0
            · rw [if_pos c6] at H
              exact absurd H (by simp)
            · rw [if_neg c6] at H
              have c6b0 : (((rd_T28 l0 x6_1).f0) == 0) = false := beq_eq_false_iff_ne.mpr c6
              have c6b1 : (((rd_T28 l0 x6_1).f0) != 0) = true := bne_iff_ne.mpr c6
              by_cases c7 : x5_1.length < 17592186044416
              · rw [if_pos c7] at H
                have LMc7 := Aside0.mk c7
                clear c7
                obtain ⟨y166, hy166⟩ : ∃ y_ : List Int, y_ = (x5_1 ++ [Int.tmod (wrap64 (rd l1 x6_1)) ((rd_T28 l0 x6_1).f0)]) := ⟨_, rfl⟩
                replace H : (stratumlaw03_Key.l0 k1 l0 l1 y166 (wrap64 (x6_1 + 1))) = some r := by first | (rw [hy166]; with_reducible exact H) | (have H2_ := (Option.bind_some _ _).symm.trans H; rw [hy166]; with_reducible exact H2_) | (have H2_ := (Option.bind_some _ _).symm.trans H; with_reducible exact H2_) | with_reducible exact H | (rw [hy166]; exact H) | exact H
                have Ny166 := Aside0.mk hy166
                clear hy166
                have H' := Aside0.mk H
                clear H
                have p164 : 0 ≤ (x6_1 : Int) := of_decide_eq_true (by first | (with_reducible assumption) | assumption)
                have q164 : x6_1 < (l1.length : Int) := of_decide_eq_true (by first | (with_reducible assumption) | assumption)
                obtain ⟨ad164, e164, hx164_0⟩ := Kd.at_int HR1.out x6_1 p164 q164
                cases e164
                replace hx164_0 := (HB.out.cell (World.block_lt_of_cell? w _ hx164_0)).trans hx164_0
                replace p164 := eq_true p164
                replace q164 := eq_true q164
                have p165 : 0 ≤ (x6_1 : Int) := of_decide_eq_true (by first | (with_reducible assumption) | assumption)
                have q165 : x6_1 < (l0.length : Int) := of_decide_eq_true (by first | (with_reducible assumption) | assumption)
                obtain ⟨ad165, A165_1, c165_1, e165, hx165_0, hx165_1, hl165_1, hi165_1⟩ := at_T28 HR0.out x6_1 p165 q165
                cases e165
                replace hx165_0 := (HB.out.cell (World.block_lt_of_cell? w _ hx165_0)).trans hx165_0
                replace hx165_1 := (HB.out.cell (World.block_lt_of_cell? w _ hx165_1)).trans hx165_1
                have HR165_1 := Aside0.mk hi165_1
                have HC165_1 := Aside0.mk hl165_1
                clear hi165_1 hl165_1
                replace p165 := eq_true p165
                replace q165 := eq_true q165
                go_wp2_with (first | ((with_reducible refine gate_builtin (b := .append) (xs := #[.tmp 23, .tmp 31]) rfl ?_); at_builtin; refine Kd.R_append (Kd.int .i64) (w0 := w) w.heap.size rfl (.tmp 23) (.tmp 31) 26 3 (.int .i64 0) 8 rfl Try.underlying26 info3 rfl (by decide) (by omega) u5 x5_1 (Int.tmod (wrap64 (rd l1 x6_1)) ((rd_T28 l0 x6_1).f0)) [.int .i64 (Int.tmod (wrap64 (rd l1 x6_1)) ((rd_T28 l0 x6_1).f0))] (fun _ => True) (fun _ => False) rfl rfl ?aP (fun _ hk => hk.elim) ?aF ?aO ?aB ?aS ?aL ?_; (case aP => exact rfl); (case aB => exact (by repeat (first | (with_reducible first | exact HB.out | apply below_alloc | apply pw_below_drewN | apply below_drew1) | exact HB.out))); (case aF => exact (fun _ _ => trivial)); (case aO => exact (by (with_reducible repeat (first | apply Kd.R_alloc | apply Kd.R_drewN | apply Kd.R_drew)); exact HO_5.out)); (case aS => exact (below_size (by repeat (first | (with_reducible first | exact HB.out | apply below_alloc | apply pw_below_drewN | apply below_drew1) | exact HB.out)))); (case aL => have := LMc7.out; omega); intro v167 w8 ho hb hg hat; rw [← Ny166.out] at ho; have n0_ := Aside0.mk (hb); have n1_ := Aside0.mk (ho); clear HB; clear HO_5; have HB := n0_; have HO168 := n1_; clear n0_ n1_; clear ho hb hg hat))
                go_roundg k1
                case measure => have := HK1.out; omega
                case rel => exact ⟨(y166), (wrap64 (x6_1 + 1)), (by first | rfl | (simp; done) | (simp [*]; done)), H', ⟨by have := HK1.out; omega⟩, ⟨by (with_reducible repeat (first | apply Kd.R_alloc | apply Kd.R_drewN | apply Kd.R_drew)); exact HO168.out⟩, ⟨by repeat (first | (with_reducible first | exact HB.out | apply below_alloc | apply pw_below_drewN | apply below_drew1) | exact HB.out)⟩⟩
              · rw [if_neg c7] at H
                exact absurd H (by simp)
          · rw [if_neg c5] at H
            exact absurd H (by simp)
        · rw [if_neg c4] at H
          have c4b0 : decide (x6_1 < (l1.length : Int)) = false := decide_eq_false c4
          clear c4
          by_cases c9 : 0 ≤ x6_1
          · rw [if_pos c9] at H
            have c9b0 : decide (0 ≤ x6_1) = true := decide_eq_true c9
            clear c9
            by_cases c10 : ((rd_T28 l0 x6_1).f0) = 0
            · rw [if_pos c10] at H
              exact absurd H (by simp)
            · rw [if_neg c10] at H
              have c10b0 : (((rd_T28 l0 x6_1).f0) == 0) = false := beq_eq_false_iff_ne.mpr c10
              have c10b1 : (((rd_T28 l0 x6_1).f0) != 0) = true := bne_iff_ne.mpr c10
              by_cases c11 : x5_1.length < 17592186044416
              · rw [if_pos c11] at H
                have LMc11 := Aside0.mk c11
                clear c11
                obtain ⟨y170, hy170⟩ : ∃ y_ : List Int, y_ = (x5_1 ++ [0]) := ⟨_, rfl⟩
                replace H : (stratumlaw03_Key.l0 k1 l0 l1 y170 (wrap64 (x6_1 + 1))) = some r := by first | (rw [hy170]; with_reducible exact H) | (have H2_ := (Option.bind_some _ _).symm.trans H; rw [hy170]; with_reducible exact H2_) | (have H2_ := (Option.bind_some _ _).symm.trans H; with_reducible exact H2_) | with_reducible exact H | (rw [hy170]; exact H) | exact H
                have Ny170 := Aside0.mk hy170
                clear hy170
                have H' := Aside0.mk H
                clear H
                have p169 : 0 ≤ (x6_1 : Int) := of_decide_eq_true (by first | (with_reducible assumption) | assumption)
                have q169 : x6_1 < (l0.length : Int) := of_decide_eq_true (by first | (with_reducible assumption) | assumption)
                obtain ⟨ad169, A169_1, c169_1, e169, hx169_0, hx169_1, hl169_1, hi169_1⟩ := at_T28 HR0.out x6_1 p169 q169
                cases e169
                replace hx169_0 := (HB.out.cell (World.block_lt_of_cell? w _ hx169_0)).trans hx169_0
                replace hx169_1 := (HB.out.cell (World.block_lt_of_cell? w _ hx169_1)).trans hx169_1
                have HR169_1 := Aside0.mk hi169_1
                have HC169_1 := Aside0.mk hl169_1
                clear hi169_1 hl169_1
                replace p169 := eq_true p169
                replace q169 := eq_true q169
                go_wp2_with (first | ((with_reducible refine gate_builtin (b := .append) (xs := #[.tmp 23, .tmp 31]) rfl ?_); at_builtin; refine Kd.R_append (Kd.int .i64) (w0 := w) w.heap.size rfl (.tmp 23) (.tmp 31) 26 3 (.int .i64 0) 8 rfl Try.underlying26 info3 rfl (by decide) (by omega) u5 x5_1 0 [.int .i64 0] (fun _ => True) (fun _ => False) rfl rfl ?aP (fun _ hk => hk.elim) ?aF ?aO ?aB ?aS ?aL ?_; (case aP => exact rfl); (case aB => exact (by repeat (first | (with_reducible first | exact HB.out | apply below_alloc | apply pw_below_drewN | apply below_drew1) | exact HB.out))); (case aF => exact (fun _ _ => trivial)); (case aO => exact (by (with_reducible repeat (first | apply Kd.R_alloc | apply Kd.R_drewN | apply Kd.R_drew)); exact HO_5.out)); (case aS => exact (below_size (by repeat (first | (with_reducible first | exact HB.out | apply below_alloc | apply pw_below_drewN | apply below_drew1) | exact HB.out)))); (case aL => have := LMc11.out; omega); intro v171 w12 ho hb hg hat; rw [← Ny170.out] at ho; have n0_ := Aside0.mk (hb); have n1_ := Aside0.mk (ho); clear HB; clear HO_5; have HB := n0_; have HO172 := n1_; clear n0_ n1_; clear ho hb hg hat))
                go_roundg k1
                case measure => have := HK1.out; omega
                case rel => exact ⟨(y170), (wrap64 (x6_1 + 1)), (by first | rfl | (simp; done) | (simp [*]; done)), H', ⟨by have := HK1.out; omega⟩, ⟨by (with_reducible repeat (first | apply Kd.R_alloc | apply Kd.R_drewN | apply Kd.R_drew)); exact HO172.out⟩, ⟨by repeat (first | (with_reducible first | exact HB.out | apply below_alloc | apply pw_below_drewN | apply below_drew1) | exact HB.out)⟩⟩
              · rw [if_neg c11] at H
                exact absurd H (by simp)
          · rw [if_neg c9] at H
            exact absurd H (by simp)
      · rw [if_neg c3] at H
        have c3b0 : decide (x6_1 < (l0.length : Int)) = false := decide_eq_false c3
        clear c3
        obtain rfl := Option.some.inj H
        go_wp2
        go_ret
        exact ⟨_, by first | rfl | (simp [errW_none, errW_some] <;> rfl) | (simp [*, errW_none, errW_some] <;> rfl), by (with_reducible repeat (first | apply Kd.R_alloc | apply Kd.R_drewN | apply Kd.R_drew)); exact HO_5.out, by repeat (first | (with_reducible first | exact HB.out | apply below_alloc | apply pw_below_drewN | apply below_drew1) | exact HB.out)⟩

/-! ### dims_In_1: function 36 -/
def dims_In_1.f (a0_0 : Int) (l0_1 : List Int) (a1 : Int) : Option (Bool) := if a1 ≥ 0 then (some (decide (a1 < a0_0))) else (some false)
set_option maxHeartbeats 8000000 in
set_option maxRecDepth 100000 in
theorem dims_In_1.calls (a0_0 : Int) (A0_1 : Option Addr) (c0_1 : Nat) (l0_1 : List Int) (a1 : Int) (r : Bool) (w : World) (hr0_1 : Kd.C (Kd.int .i64) w A0_1 l0_1.length l0_1) (hc0_1 : l0_1.length ≤ c0_1) (h : dims_In_1.f a0_0 l0_1 a1 = some r) :
    Calls Try.prog 36 #[.agg #[.int .i64 a0_0, .slice A0_1 l0_1.length c0_1], .int .i64 a1] w fun e w' => e = .returned (.bool r) ∧ Below w.heap.size w w' := by
  have hu28 := Try.underlying28
  have HR0_1 := Aside0.mk hr0_1
  have HC0_1 := Aside0.mk hc0_1
  clear hr0_1 hc0_1
  have HB := Aside0.mk (Below.refl w.heap.size w)
  have H : (if a1 ≥ 0 then (some (decide (a1 < a0_0))) else (some false)) = some r := h
  clear h
  by_cases c3 : a1 ≥ 0
  · rw [if_pos c3] at H
    have c3b0 : decide (0 ≤ a1) = true := decide_eq_true c3
    clear c3
    obtain rfl := Option.some.inj H
    go_enter Try.func36, Try.ntmps36
    go_wp2_with (first | ((with_reducible refine gate_dst (N := 2) rfl ?_); refine box_event ?hg (N := 2) ?hd (cs := #[.int .i64 a0_0, .slice A0_1 l0_1.length c0_1]) (t := 28) ?hr ?_; (case hd => rfl); (case hg => rfl); (case hr => first | (go_simp; done) | (go_simp; rfl)); intro gb173 hg w4 hbox hb; have n0_ := Aside0.mk (below_step (by repeat (first | (with_reducible first | exact HB.out | apply below_alloc | apply pw_below_drewN | apply below_drew1) | exact HB.out)) hb); have n1_ := Aside0.mk (hbox); have n2_ := Aside0.mk ((by rw [hg]; exact (below_size (by repeat (first | (with_reducible first | exact HB.out | apply below_alloc | apply pw_below_drewN | apply below_drew1) | exact HB.out))) : w.heap.size ≤ gb173)); have n3_ := Aside0.mk ((by rw [hg]; exact (below_size (by repeat (first | (with_reducible first | exact HB.out | apply below_alloc | apply pw_below_drewN | apply below_drew1) | exact HB.out))) : w.heap.size ≤ gb173)); clear HB; have HB := n0_; have BK173 := n1_; have GW173 := n2_; have GE173 := n3_; clear n0_ n1_ n2_ n3_; clear hb hbox hg; have hcz5_0 : w4.cell? ⟨gb173, 0, none⟩ = some (.int .i64 a0_0) := (blk_cell BK173.out 0).trans rfl; have hcz5_1 : w4.cell? ⟨gb173, 1, none⟩ = some (.slice A0_1 l0_1.length c0_1) := (blk_cell BK173.out 1).trans rfl; have hfz5_0 := blk_frozen BK173.out 0; have hfz5_1 := blk_frozen BK173.out 1))
    go_ret
    exact ⟨by first | rfl | (simp [errW_none, errW_some] <;> rfl) | (simp [*, errW_none, errW_some] <;> rfl), by repeat (first | (with_reducible first | exact HB.out | apply below_alloc | apply pw_below_drewN | apply below_drew1 | refine below_set ?_ GE173.out) | exact HB.out)⟩
  · rw [if_neg c3] at H
    have c3b0 : decide (0 ≤ a1) = false := decide_eq_false c3
    clear c3
    obtain rfl := Option.some.inj H
    go_enter Try.func36, Try.ntmps36
    go_wp2_with (first | ((with_reducible refine gate_dst (N := 2) rfl ?_); refine box_event ?hg (N := 2) ?hd (cs := #[.int .i64 a0_0, .slice A0_1 l0_1.length c0_1]) (t := 28) ?hr ?_; (case hd => rfl); (case hg => rfl); (case hr => first | (go_simp; done) | (go_simp; rfl)); intro gb173 hg w6 hbox hb; have n0_ := Aside0.mk (below_step (by repeat (first | (with_reducible first | exact HB.out | apply below_alloc | apply pw_below_drewN | apply below_drew1) | exact HB.out)) hb); have n1_ := Aside0.mk (hbox); have n2_ := Aside0.mk ((by rw [hg]; exact (below_size (by repeat (first | (with_reducible first | exact HB.out | apply below_alloc | apply pw_below_drewN | apply below_drew1) | exact HB.out))) : w.heap.size ≤ gb173)); have n3_ := Aside0.mk ((by rw [hg]; exact (below_size (by repeat (first | (with_reducible first | exact HB.out | apply below_alloc | apply pw_below_drewN | apply below_drew1) | exact HB.out))) : w.heap.size ≤ gb173)); clear HB; have HB := n0_; have BK173 := n1_; have GW173 := n2_; have GE173 := n3_; clear n0_ n1_ n2_ n3_; clear hb hbox hg))
    go_ret
    exact ⟨by first | rfl | (simp [errW_none, errW_some] <;> rfl) | (simp [*, errW_none, errW_some] <;> rfl), by repeat (first | (with_reducible first | exact HB.out | apply below_alloc | apply pw_below_drewN | apply below_drew1 | refine below_set ?_ GE173.out) | exact HB.out)⟩

/-! ### api_Dim_int: function 35 -/
def api_Dim_int.l0 : Nat → List Int → List (S28) → Int → Int → Option (Bool)
  | 0, _, _, _, _ => none
  | k + 1, x1, x15, x16, x17 => if x17 < x16 then (if 0 ≤ x17 then (if x17 < (x15.length : Int) then (if x17 < (x1.length : Int) then ((dims_In_1.f ((rd_T28 x15 x17).f0) ((rd_T28 x15 x17).f1) (rd x1 x17)).bind fun t177 => (if t177 = true then (api_Dim_int.l0 k x1 x15 x16 (wrap64 (x17 + 1))) else (some false))) else (none)) else (none)) else (none)) else (some true)
def api_Dim_int.f (k : Nat) (l0 : List (S28)) (l1 : List Int) (a2 : Unit) : Option (Bool) := if (l0.length : Int) = (l1.length : Int) then (api_Dim_int.l0 k l1 l0 (l0.length : Int) 0) else (some false)
theorem api_Dim_int.mono_l : ∀ k, (∀ y0 y1 y2 y3, LeO (api_Dim_int.l0 k y0 y1 y2 y3) (api_Dim_int.l0 (k + 1) y0 y1 y2 y3))
  | 0 => fun _ _ _ _ r h => by simp [api_Dim_int.l0] at h
  | k + 1 => by
    have ih0 := api_Dim_int.mono_l k
    · intro y0 y1 y2 y3
      unfold api_Dim_int.l0
      repeat' first
      | (with_reducible exact ih0 _ _ _ _)
      | (with_reducible exact LeO.refl _)
      | (with_reducible exact LeO.none _)
      | (with_reducible refine LeO.ite ?_ ?_)
      | (with_reducible refine LeO.bind ?_ (fun _ => ?_))
      | exact ih0 _ _ _ _
      | exact LeO.none _
      | refine LeO.ite ?_ ?_
      | refine LeO.bind ?_ (fun _ => ?_)
theorem api_Dim_int.mono : ∀ a0 a1 a2 k, LeO (api_Dim_int.f k a0 a1 a2) (api_Dim_int.f (k + 1) a0 a1 a2) := by
  intro a0 a1 a2 k
  have ih0 := api_Dim_int.mono_l k
  unfold api_Dim_int.f
  repeat' first
      | (with_reducible exact ih0 _ _ _ _)
      | (with_reducible exact LeO.refl _)
      | (with_reducible exact LeO.none _)
      | (with_reducible refine LeO.ite ?_ ?_)
      | (with_reducible refine LeO.bind ?_ (fun _ => ?_))
      | exact ih0 _ _ _ _
      | exact LeO.none _
      | refine LeO.ite ?_ ?_
      | refine LeO.bind ?_ (fun _ => ?_)
set_option maxHeartbeats 8000000 in
set_option maxRecDepth 100000 in
theorem api_Dim_int.calls (k : Nat) (A0 : Option Addr) (c0 : Nat) (l0 : List (S28)) (A1 : Option Addr) (c1 : Nat) (l1 : List Int) (a2 : Unit) (r : Bool) (w : World) (hr0 : Kd.C k28 w A0 l0.length l0) (hc0 : l0.length ≤ c0) (hr1 : Kd.C (Kd.int .i64) w A1 l1.length l1) (hc1 : l1.length ≤ c1) (h : api_Dim_int.f k l0 l1 a2 = some r) :
    Calls Try.prog 35 #[.slice A0 l0.length c0, .slice A1 l1.length c1, .func (.func 36) #[] #[]] w fun e w' => e = .returned (.bool r) ∧ Below w.heap.size w w' := by
  have hu28 := Try.underlying28
  have HR0 := Aside0.mk hr0
  have HC0 := Aside0.mk hc0
  clear hr0 hc0
  have HR1 := Aside0.mk hr1
  have HC1 := Aside0.mk hc1
  clear hr1 hc1
  have HB := Aside0.mk (Below.refl w.heap.size w)
  have H : (if (l0.length : Int) = (l1.length : Int) then (api_Dim_int.l0 k l1 l0 (l0.length : Int) 0) else (some false)) = some r := h
  clear h
  by_cases c4 : (l0.length : Int) = (l1.length : Int)
  · rw [if_pos c4] at H
    have c4b0 : ((l0.length : Int) == (l1.length : Int)) = true := beq_iff_eq.mpr c4
    have c4b1 : ((l0.length : Int) != (l1.length : Int)) = false := bne_eq_false_iff_eq.mpr c4
    have c4b2 : (l0.length == l1.length) = true := by first | simpa using c4 | (simp at c4 ⊢; omega)
    clear c4
    have H' := Aside0.mk H
    clear H
    go_enter Try.func35, Try.ntmps35
    go_wp2
    go_loopg [17] k (fun kq v17 w' => ∃ (x17_1 : Int), v17 = .int .i64 x17_1 ∧ Aside0 (api_Dim_int.l0 kq l1 l0 (l0.length : Int) x17_1 = some r) ∧ Aside0 (kq ≤ k) ∧ Aside0 (Below w.heap.size w w'))
    case atStart => exact ⟨(0), (by first | rfl | (simp; done) | (simp [*]; done)), H', ⟨Nat.le_refl _⟩, ⟨by repeat (first | (with_reducible first | exact HB.out | apply below_alloc | apply pw_below_drewN | apply below_drew1) | exact HB.out)⟩⟩
    case round =>
      clear H'
      try clear c1
      try clear p2
      try clear c3
      try clear c4
      try clear c4b0
      try clear c4b1
      try clear c4b2
      obtain ⟨x17_1, rfl, HA, HK1, HB⟩ := hrel
      cases gk with
      | zero => exact absurd HA.out (by simp [api_Dim_int.l0])
      | succ k1 =>
        have H := HA.out
        clear HA
        simp only [api_Dim_int.l0] at H
        by_cases c5 : x17_1 < (l0.length : Int)
        · rw [if_pos c5] at H
          have c5b0 : decide (x17_1 < (l0.length : Int)) = true := decide_eq_true c5
          clear c5
          by_cases c6 : 0 ≤ x17_1
          · rw [if_pos c6] at H
            have c6b0 : decide (0 ≤ x17_1) = true := decide_eq_true c6
            clear c6
            by_cases c7 : x17_1 < (l0.length : Int)
            · rw [if_pos c7] at H
              have c7b0 : decide (x17_1 < (l0.length : Int)) = true := decide_eq_true c7
              clear c7
              by_cases c8 : x17_1 < (l1.length : Int)
              · rw [if_pos c8] at H
                have c8b0 : decide (x17_1 < (l1.length : Int)) = true := decide_eq_true c8
                clear c8
                replace H := Option.bind_eq_some_iff.mp H
                obtain ⟨t177, A90, H⟩ := H
                replace H : (if t177 = true then (api_Dim_int.l0 k1 l1 l0 (l0.length : Int) (wrap64 (x17_1 + 1))) else (some false)) = some r := H
                have A9 := Aside0.mk A90
                clear A90
                by_cases c10 : t177 = true
                · subst c10
                  have H1 : (api_Dim_int.l0 k1 l1 l0 (l0.length : Int) (wrap64 (x17_1 + 1))) = some r := by rw [if_pos rfl] at H; exact H
                  clear H
                  have H := H1
                  clear H1
                  have H' := Aside0.mk H
                  clear H
                  have p174 : 0 ≤ (x17_1 : Int) := of_decide_eq_true (by first | (with_reducible assumption) | assumption)
                  have q174 : x17_1 < (l0.length : Int) := of_decide_eq_true (by first | (with_reducible assumption) | assumption)
                  obtain ⟨ad174, A174_1, c174_1, e174, hx174_0, hx174_1, hl174_1, hi174_1⟩ := at_T28 HR0.out x17_1 p174 q174
                  cases e174
                  replace hx174_0 := (HB.out.cell (World.block_lt_of_cell? w _ hx174_0)).trans hx174_0
                  replace hx174_1 := (HB.out.cell (World.block_lt_of_cell? w _ hx174_1)).trans hx174_1
                  have HR174_1 := Aside0.mk hi174_1
                  have HC174_1 := Aside0.mk hl174_1
                  clear hi174_1 hl174_1
                  replace p174 := eq_true p174
                  replace q174 := eq_true q174
                  go_wp2_with (first | ((with_reducible refine gate_dst (N := 8) rfl ?_); refine box_event ?hg (N := 8) ?hd (cs := #[.int .i64 0, .slice none 0 0]) (t := 28) ?hr ?_; (case hd => rfl); (case hg => rfl); (case hr => first | (go_simp; done) | (go_simp; rfl)); intro gb175 hg w11 hbox hb; have n0_ := Aside0.mk (below_step (by repeat (first | (with_reducible first | exact HB.out | apply below_alloc | apply pw_below_drewN | apply below_drew1) | exact HB.out)) hb); have n1_ := Aside0.mk (hbox); have n2_ := Aside0.mk ((by rw [hg]; exact (below_size (by repeat (first | (with_reducible first | exact HB.out | apply below_alloc | apply pw_below_drewN | apply below_drew1) | exact HB.out))) : w.heap.size ≤ gb175)); have n3_ := Aside0.mk ((by rw [hg]; exact (below_size (by repeat (first | (with_reducible first | exact HB.out | apply below_alloc | apply pw_below_drewN | apply below_drew1) | exact HB.out))) : w.heap.size ≤ gb175)); clear HB; have HB := n0_; have BK175 := n1_; have GW175 := n2_; have GE175 := n3_; clear n0_ n1_ n2_ n3_; clear hb hbox hg; have hcz12_0 : w11.cell? ⟨gb175, 0, none⟩ = some (.int .i64 0) := (blk_cell BK175.out 0).trans rfl; have hcz12_1 : w11.cell? ⟨gb175, 1, none⟩ = some (.slice none 0 0) := (blk_cell BK175.out 1).trans rfl; have hfz12_0 := blk_frozen BK175.out 0; have hfz12_1 := blk_frozen BK175.out 1; have p176 : 0 ≤ (x17_1 : Int) := of_decide_eq_true (by first | (with_reducible assumption) | assumption); have q176 : x17_1 < (l1.length : Int) := of_decide_eq_true (by first | (with_reducible assumption) | assumption); obtain ⟨ad176, e176, hx176_0⟩ := Kd.at_int HR1.out x17_1 p176 q176; cases e176; have hn176_0 : ad176.block ≠ gb175 := Nat.ne_of_lt (Nat.lt_of_lt_of_le (by have := World.block_lt_of_cell? _ _ hx176_0; first | rwa [add_block] at this | exact this) GW175.out); have hn176_1 : ad176.block ≠ gb175 := Nat.ne_of_lt (Nat.lt_of_lt_of_le (by have := World.block_lt_of_cell? _ _ hx176_0; first | rwa [add_block] at this | exact this) GW175.out); replace hx176_0 := (HB.out.cell (World.block_lt_of_cell? w _ hx176_0)).trans hx176_0; replace hx176_0 := (cell_far (p := ⟨gb175, 0, none⟩) (by first | (rw [add_block]; exact hn176_0) | (show (Addr.add _ _).block ≠ _; rw [add_block]; exact hn176_0) | exact hn176_0) (.int .i64 ((rd_T28 l0 x17_1).f0))).trans hx176_0; replace hx176_0 := (cell_far (p := ⟨gb175, 1, none⟩) (by first | (rw [add_block]; exact hn176_1) | (show (Addr.add _ _).block ≠ _; rw [add_block]; exact hn176_1) | exact hn176_1) (.slice A174_1 ((rd_T28 l0 x17_1).f1).length c174_1)).trans hx176_0; clear hn176_0; clear hn176_1; replace p176 := eq_true p176; replace q176 := eq_true q176) | (go_at_call 36; (with_reducible refine (dims_In_1.calls ((rd_T28 l0 x17_1).f0) _ _ ((rd_T28 l0 x17_1).f1) (rd l1 x17_1) true _ ?side1 ?side2 A9.out).mono ?_); (case side1 => exact Kd.C_below HR174_1.out (by repeat (first | (with_reducible first | exact HB.out | apply below_alloc | apply pw_below_drewN | apply below_drew1 | refine below_set ?_ GE175.out) | exact HB.out))); (case side2 => exact HC174_1.out); rintro e w13 ⟨rfl, hb⟩; have n0_ := Aside0.mk (blk_below (g := gb175) (o := .cells #[.int .i64 ((rd_T28 l0 x17_1).f0), .slice A174_1 ((rd_T28 l0 x17_1).f1).length c174_1] 28 (0, 0)) (by (with_reducible repeat (first | refine blk_drewN ?_ _ | refine blk_drew ?_ | refine blk_alloc ?_ _)); refine blk_put (cs := #[.int .i64 ((rd_T28 l0 x17_1).f0), .slice none 0 0]) ?_ 1 _ rfl; (with_reducible repeat (first | refine blk_drewN ?_ _ | refine blk_drew ?_ | refine blk_alloc ?_ _)); refine blk_put (cs := #[.int .i64 0, .slice none 0 0]) ?_ 0 _ rfl; (with_reducible repeat (first | refine blk_drewN ?_ _ | refine blk_drew ?_ | refine blk_alloc ?_ _)); exact BK175.out) hb); have n1_ := Aside0.mk (below_step (by repeat (first | (with_reducible first | exact HB.out | apply below_alloc | apply pw_below_drewN | apply below_drew1 | refine below_set ?_ GE175.out) | exact HB.out)) hb); clear BK175; clear HB; have BK175 := n0_; have HB := n1_; clear n0_ n1_; (try clear hb); (try clear hb2); (try clear hk); (try clear hi)))
                  go_roundg k1
                  case measure => have := HK1.out; omega
                  case rel => exact ⟨(wrap64 (x17_1 + 1)), (by first | rfl | (simp; done) | (simp [*]; done)), H', ⟨by have := HK1.out; omega⟩, ⟨by repeat (first | (with_reducible first | exact HB.out | apply below_alloc | apply pw_below_drewN | apply below_drew1 | refine below_set ?_ GE175.out) | exact HB.out)⟩⟩
                · replace c10 := Bool.eq_false_iff.mpr c10
                  subst c10
                  have H1 : (some false) = some r := by rw [if_neg (show ¬ (false = true) by decide)] at H; exact H
                  clear H
                  have H := H1
                  clear H1
                  obtain rfl := Option.some.inj H
                  have p174 : 0 ≤ (x17_1 : Int) := of_decide_eq_true (by first | (with_reducible assumption) | assumption)
                  have q174 : x17_1 < (l0.length : Int) := of_decide_eq_true (by first | (with_reducible assumption) | assumption)
                  obtain ⟨ad174, A174_1, c174_1, e174, hx174_0, hx174_1, hl174_1, hi174_1⟩ := at_T28 HR0.out x17_1 p174 q174
                  cases e174
                  replace hx174_0 := (HB.out.cell (World.block_lt_of_cell? w _ hx174_0)).trans hx174_0
                  replace hx174_1 := (HB.out.cell (World.block_lt_of_cell? w _ hx174_1)).trans hx174_1
                  have HR174_1 := Aside0.mk hi174_1
                  have HC174_1 := Aside0.mk hl174_1
                  clear hi174_1 hl174_1
                  replace p174 := eq_true p174
                  replace q174 := eq_true q174
                  go_wp2_with (first | ((with_reducible refine gate_dst (N := 8) rfl ?_); refine box_event ?hg (N := 8) ?hd (cs := #[.int .i64 0, .slice none 0 0]) (t := 28) ?hr ?_; (case hd => rfl); (case hg => rfl); (case hr => first | (go_simp; done) | (go_simp; rfl)); intro gb175 hg w14 hbox hb; have n0_ := Aside0.mk (below_step (by repeat (first | (with_reducible first | exact HB.out | apply below_alloc | apply pw_below_drewN | apply below_drew1) | exact HB.out)) hb); have n1_ := Aside0.mk (hbox); have n2_ := Aside0.mk ((by rw [hg]; exact (below_size (by repeat (first | (with_reducible first | exact HB.out | apply below_alloc | apply pw_below_drewN | apply below_drew1) | exact HB.out))) : w.heap.size ≤ gb175)); have n3_ := Aside0.mk ((by rw [hg]; exact (below_size (by repeat (first | (with_reducible first | exact HB.out | apply below_alloc | apply pw_below_drewN | apply below_drew1) | exact HB.out))) : w.heap.size ≤ gb175)); clear HB; have HB := n0_; have BK175 := n1_; have GW175 := n2_; have GE175 := n3_; clear n0_ n1_ n2_ n3_; clear hb hbox hg; have hcz15_0 : w14.cell? ⟨gb175, 0, none⟩ = some (.int .i64 0) := (blk_cell BK175.out 0).trans rfl; have hcz15_1 : w14.cell? ⟨gb175, 1, none⟩ = some (.slice none 0 0) := (blk_cell BK175.out 1).trans rfl; have hfz15_0 := blk_frozen BK175.out 0; have hfz15_1 := blk_frozen BK175.out 1; have p176 : 0 ≤ (x17_1 : Int) := of_decide_eq_true (by first | (with_reducible assumption) | assumption); have q176 : x17_1 < (l1.length : Int) := of_decide_eq_true (by first | (with_reducible assumption) | assumption); obtain ⟨ad176, e176, hx176_0⟩ := Kd.at_int HR1.out x17_1 p176 q176; cases e176; have hn176_0 : ad176.block ≠ gb175 := Nat.ne_of_lt (Nat.lt_of_lt_of_le (by have := World.block_lt_of_cell? _ _ hx176_0; first | rwa [add_block] at this | exact this) GW175.out); have hn176_1 : ad176.block ≠ gb175 := Nat.ne_of_lt (Nat.lt_of_lt_of_le (by have := World.block_lt_of_cell? _ _ hx176_0; first | rwa [add_block] at this | exact this) GW175.out); replace hx176_0 := (HB.out.cell (World.block_lt_of_cell? w _ hx176_0)).trans hx176_0; replace hx176_0 := (cell_far (p := ⟨gb175, 0, none⟩) (by first | (rw [add_block]; exact hn176_0) | (show (Addr.add _ _).block ≠ _; rw [add_block]; exact hn176_0) | exact hn176_0) (.int .i64 ((rd_T28 l0 x17_1).f0))).trans hx176_0; replace hx176_0 := (cell_far (p := ⟨gb175, 1, none⟩) (by first | (rw [add_block]; exact hn176_1) | (show (Addr.add _ _).block ≠ _; rw [add_block]; exact hn176_1) | exact hn176_1) (.slice A174_1 ((rd_T28 l0 x17_1).f1).length c174_1)).trans hx176_0; clear hn176_0; clear hn176_1; replace p176 := eq_true p176; replace q176 := eq_true q176) | (go_at_call 36; (with_reducible refine (dims_In_1.calls ((rd_T28 l0 x17_1).f0) _ _ ((rd_T28 l0 x17_1).f1) (rd l1 x17_1) false _ ?side1 ?side2 A9.out).mono ?_); (case side1 => exact Kd.C_below HR174_1.out (by repeat (first | (with_reducible first | exact HB.out | apply below_alloc | apply pw_below_drewN | apply below_drew1 | refine below_set ?_ GE175.out) | exact HB.out))); (case side2 => exact HC174_1.out); rintro e w16 ⟨rfl, hb⟩; have n0_ := Aside0.mk (blk_below (g := gb175) (o := .cells #[.int .i64 ((rd_T28 l0 x17_1).f0), .slice A174_1 ((rd_T28 l0 x17_1).f1).length c174_1] 28 (0, 0)) (by (with_reducible repeat (first | refine blk_drewN ?_ _ | refine blk_drew ?_ | refine blk_alloc ?_ _)); refine blk_put (cs := #[.int .i64 ((rd_T28 l0 x17_1).f0), .slice none 0 0]) ?_ 1 _ rfl; (with_reducible repeat (first | refine blk_drewN ?_ _ | refine blk_drew ?_ | refine blk_alloc ?_ _)); refine blk_put (cs := #[.int .i64 0, .slice none 0 0]) ?_ 0 _ rfl; (with_reducible repeat (first | refine blk_drewN ?_ _ | refine blk_drew ?_ | refine blk_alloc ?_ _)); exact BK175.out) hb); have n1_ := Aside0.mk (below_step (by repeat (first | (with_reducible first | exact HB.out | apply below_alloc | apply pw_below_drewN | apply below_drew1 | refine below_set ?_ GE175.out) | exact HB.out)) hb); clear BK175; clear HB; have BK175 := n0_; have HB := n1_; clear n0_ n1_; (try clear hb); (try clear hb2); (try clear hk); (try clear hi)))
                  go_ret
                  exact ⟨by first | rfl | (simp [errW_none, errW_some] <;> rfl) | (simp [*, errW_none, errW_some] <;> rfl), by repeat (first | (with_reducible first | exact HB.out | apply below_alloc | apply pw_below_drewN | apply below_drew1 | refine below_set ?_ GE175.out) | exact HB.out)⟩
              · rw [if_neg c8] at H
                exact absurd H (by simp)
            · rw [if_neg c7] at H
              exact absurd H (by simp)
          · rw [if_neg c6] at H
            exact absurd H (by simp)
        · rw [if_neg c5] at H
          have c5b0 : decide (x17_1 < (l0.length : Int)) = false := decide_eq_false c5
          clear c5
          obtain rfl := Option.some.inj H
          go_wp2
          go_ret
          exact ⟨by first | rfl | (simp [errW_none, errW_some] <;> rfl) | (simp [*, errW_none, errW_some] <;> rfl), by repeat (first | (with_reducible first | exact HB.out | apply below_alloc | apply pw_below_drewN | apply below_drew1) | exact HB.out)⟩
  · rw [if_neg c4] at H
    have c4b0 : ((l0.length : Int) == (l1.length : Int)) = false := beq_eq_false_iff_ne.mpr c4
    have c4b1 : ((l0.length : Int) != (l1.length : Int)) = true := bne_iff_ne.mpr c4
    have c4b2 : (l0.length == l1.length) = false := by first | simpa using c4 | (simp at c4 ⊢; omega)
    obtain rfl := Option.some.inj H
    go_enter Try.func35, Try.ntmps35
    go_wp2
    go_ret
    exact ⟨by first | rfl | (simp [errW_none, errW_some] <;> rfl) | (simp [*, errW_none, errW_some] <;> rfl), by repeat (first | (with_reducible first | exact HB.out | apply below_alloc | apply pw_below_drewN | apply below_drew1) | exact HB.out)⟩

/-! ### dims_In: function 26 -/
def dims_In.f (k : Nat) (l0 : List (S28)) (l1 : List Int) : Option (Bool) := (api_Dim_int.f k l0 l1 ()).bind fun t178 => (some t178)
theorem dims_In.mono : ∀ a0 a1 k, LeO (dims_In.f k a0 a1) (dims_In.f (k + 1) a0 a1) := by
  intro a0 a1 k
  unfold dims_In.f
  repeat' first
      | (with_reducible exact api_Dim_int.mono _ _ _ _)
      | (with_reducible exact LeO.refl _)
      | (with_reducible exact LeO.none _)
      | (with_reducible refine LeO.ite ?_ ?_)
      | (with_reducible refine LeO.bind ?_ (fun _ => ?_))
      | exact api_Dim_int.mono _ _ _ _
      | exact LeO.none _
      | refine LeO.ite ?_ ?_
      | refine LeO.bind ?_ (fun _ => ?_)
set_option maxHeartbeats 8000000 in
set_option maxRecDepth 100000 in
theorem dims_In.calls (k : Nat) (A0 : Option Addr) (c0 : Nat) (l0 : List (S28)) (A1 : Option Addr) (c1 : Nat) (l1 : List Int) (r : Bool) (w : World) (hr0 : Kd.C k28 w A0 l0.length l0) (hc0 : l0.length ≤ c0) (hr1 : Kd.C (Kd.int .i64) w A1 l1.length l1) (hc1 : l1.length ≤ c1) (h : dims_In.f k l0 l1 = some r) :
    Calls Try.prog 26 #[.slice A0 l0.length c0, .slice A1 l1.length c1] w fun e w' => e = .returned (.bool r) ∧ Below w.heap.size w w' := by
  have HR0 := Aside0.mk hr0
  have HC0 := Aside0.mk hc0
  clear hr0 hc0
  have HR1 := Aside0.mk hr1
  have HC1 := Aside0.mk hc1
  clear hr1 hc1
  have HB := Aside0.mk (Below.refl w.heap.size w)
  have H : ((api_Dim_int.f k l0 l1 ()).bind fun t178 => (some t178)) = some r := h
  clear h
  replace H := Option.bind_eq_some_iff.mp H
  obtain ⟨t178, A30, H⟩ := H
  replace H : (some t178) = some r := H
  have A3 := Aside0.mk A30
  clear A30
  obtain rfl := Option.some.inj H
  go_enter Try.func26, Try.ntmps26
  go_wp2_with (first | ((with_reducible refine gate_callee (f := 35) rfl ?_); refine goesL_ (some 7) rfl rfl Try.func35 (by kernel_rfl) rfl #[.slice A0 l0.length c0, .slice A1 l1.length c1, .func (.func 36) #[] #[]] rfl (by (try simp only [List.map_toArray, List.map_cons, List.map_nil]); first | done | rfl | (simp only [List.length_drop, List.length_take]; rfl)) ?_; (with_reducible refine (api_Dim_int.calls k _ _ l0 _ _ l1 () t178 _ ?side1 ?side2 ?side3 ?side4 A3.out).mono ?_); (case side1 => repeat (first | exact HR0.out | (with_reducible refine Kd.C_alloc ?_ _) | (with_reducible refine Kd.C_drewN ?_ _) | (with_reducible refine Kd.C_drew ?_))); (case side2 => exact HC0.out); (case side3 => repeat (first | exact HR1.out | (with_reducible refine Kd.C_alloc ?_ _) | (with_reducible refine Kd.C_drewN ?_ _) | (with_reducible refine Kd.C_drew ?_))); (case side4 => exact HC1.out); rintro e w4 ⟨rfl, hb⟩; refine ⟨_, rfl, ?_⟩; have n0_ := Aside0.mk (below_step (by repeat (first | (with_reducible first | exact HB.out | apply below_alloc | apply pw_below_drewN | apply below_drew1) | exact HB.out)) hb); clear HB; have HB := n0_; clear n0_; (try clear hb); (try clear hb2); (try clear hk); (try clear hi)))
  go_ret
  exact ⟨by first | rfl | (simp [errW_none, errW_some] <;> rfl) | (simp [*, errW_none, errW_some] <;> rfl), by repeat (first | (with_reducible first | exact HB.out | apply below_alloc | apply pw_below_drewN | apply below_drew1) | exact HB.out)⟩

/-! ### stratumlaw03_DimsIn: function 9 -/
def stratumlaw03_DimsIn.f (k : Nat) (l0 : List (S25)) (l1 : List Int) (a2 : Int) (a3 : Int) : Option (Bool) := (stratumlaw03_Of.f k l0).bind fun t179 => ((stratumlaw03_Key.f k t179 l1).bind fun t182 => (if (t179.length : Int) = 0 then (none) else (if ([] : List Int).length + t182.length < 17592186044416 then ((some (([] : List Int) ++ t182 : List Int)).bind fun y185 => (if 0 ≤ (Int.tmod (wrap64 (a2)) (t179.length : Int)) then (if (Int.tmod (wrap64 (a2)) (t179.length : Int)) < (t179.length : Int) then (if (Int.tmod (wrap64 (a2)) (t179.length : Int)) < (y185.length : Int) then ((some (([] : List Int) ++ t182 : List Int)).bind fun y190 => (if y190.length < 17592186044416 then ((stratumlaw03_known.f k).bind fun t196 => (if t196 = true then ((dims_In.f k t179 t182).bind fun t197 => (if t197 = true then ((dims_In.f k t179 (y185.set ((Int.tmod (wrap64 (a2)) (t179.length : Int)) : Int).toNat (wrap64 (((rd_T28 t179 (Int.tmod (wrap64 (a2)) (t179.length : Int))).f0) + (wrap64 (a3)))))).bind fun t198 => (if t198 = true then (some false) else ((dims_In.f k t179 (y190 ++ [0])).bind fun t199 => (if t199 = true then (some false) else (if 1 ≤ (t182.length : Int) then ((dims_In.f k t179 (t182.drop 1)).bind fun t204 => (some (!t204))) else (none)))))) else (some false))) else (some false))) else (none))) else (none)) else (none)) else (none))) else (none))))
theorem stratumlaw03_DimsIn.mono : ∀ a0 a1 a2 a3 k, LeO (stratumlaw03_DimsIn.f k a0 a1 a2 a3) (stratumlaw03_DimsIn.f (k + 1) a0 a1 a2 a3) := by
  intro a0 a1 a2 a3 k
  unfold stratumlaw03_DimsIn.f
  repeat' first
      | (with_reducible exact dims_In.mono _ _ _)
      | (with_reducible exact stratumlaw03_Key.mono _ _ _)
      | (with_reducible exact stratumlaw03_Of.mono _ _)
      | (with_reducible exact stratumlaw03_known.mono _)
      | (with_reducible exact LeO.refl _)
      | (with_reducible exact LeO.none _)
      | (with_reducible refine LeO.ite ?_ ?_)
      | (with_reducible refine LeO.bind ?_ (fun _ => ?_))
      | exact dims_In.mono _ _ _
      | exact stratumlaw03_Key.mono _ _ _
      | exact stratumlaw03_Of.mono _ _
      | exact stratumlaw03_known.mono _
      | exact LeO.none _
      | refine LeO.ite ?_ ?_
      | refine LeO.bind ?_ (fun _ => ?_)
set_option maxHeartbeats 8000000 in
set_option maxRecDepth 100000 in
theorem stratumlaw03_DimsIn.calls (k : Nat) (A0 : Option Addr) (c0 : Nat) (l0 : List (S25)) (A1 : Option Addr) (c1 : Nat) (l1 : List Int) (a2 : Int) (a3 : Int) (r : Bool) (w : World) (hr0 : Kd.C k25 w A0 l0.length l0) (hc0 : l0.length ≤ c0) (hr1 : Kd.C (Kd.int .u16) w A1 l1.length l1) (hc1 : l1.length ≤ c1) (h : stratumlaw03_DimsIn.f k l0 l1 a2 a3 = some r) (hr : Aside0 (r = true)) :
    Calls Try.prog 9 #[.slice A0 l0.length c0, .slice A1 l1.length c1, .int .u8 a2, .int .u8 a3] w fun e w' => e = .returned (.bool r) ∧ Below w.heap.size w w' := by
  have HR0 := Aside0.mk hr0
  have HC0 := Aside0.mk hc0
  clear hr0 hc0
  have HR1 := Aside0.mk hr1
  have HC1 := Aside0.mk hc1
  clear hr1 hc1
  have HB := Aside0.mk (Below.refl w.heap.size w)
  have H : ((stratumlaw03_Of.f k l0).bind fun t179 => ((stratumlaw03_Key.f k t179 l1).bind fun t182 => (if (t179.length : Int) = 0 then (none) else (if ([] : List Int).length + t182.length < 17592186044416 then ((some (([] : List Int) ++ t182 : List Int)).bind fun y185 => (if 0 ≤ (Int.tmod (wrap64 (a2)) (t179.length : Int)) then (if (Int.tmod (wrap64 (a2)) (t179.length : Int)) < (t179.length : Int) then (if (Int.tmod (wrap64 (a2)) (t179.length : Int)) < (y185.length : Int) then ((some (([] : List Int) ++ t182 : List Int)).bind fun y190 => (if y190.length < 17592186044416 then ((stratumlaw03_known.f k).bind fun t196 => (if t196 = true then ((dims_In.f k t179 t182).bind fun t197 => (if t197 = true then ((dims_In.f k t179 (y185.set ((Int.tmod (wrap64 (a2)) (t179.length : Int)) : Int).toNat (wrap64 (((rd_T28 t179 (Int.tmod (wrap64 (a2)) (t179.length : Int))).f0) + (wrap64 (a3)))))).bind fun t198 => (if t198 = true then (some false) else ((dims_In.f k t179 (y190 ++ [0])).bind fun t199 => (if t199 = true then (some false) else (if 1 ≤ (t182.length : Int) then ((dims_In.f k t179 (t182.drop 1)).bind fun t204 => (some (!t204))) else (none)))))) else (some false))) else (some false))) else (none))) else (none)) else (none)) else (none))) else (none))))) = some r := h
  clear h
  replace H := Option.bind_eq_some_iff.mp H
  obtain ⟨t179, A50, H⟩ := H
  replace H : ((stratumlaw03_Key.f k t179 l1).bind fun t182 => (if (t179.length : Int) = 0 then (none) else (if ([] : List Int).length + t182.length < 17592186044416 then ((some (([] : List Int) ++ t182 : List Int)).bind fun y185 => (if 0 ≤ (Int.tmod (wrap64 (a2)) (t179.length : Int)) then (if (Int.tmod (wrap64 (a2)) (t179.length : Int)) < (t179.length : Int) then (if (Int.tmod (wrap64 (a2)) (t179.length : Int)) < (y185.length : Int) then ((some (([] : List Int) ++ t182 : List Int)).bind fun y190 => (if y190.length < 17592186044416 then ((stratumlaw03_known.f k).bind fun t196 => (if t196 = true then ((dims_In.f k t179 t182).bind fun t197 => (if t197 = true then ((dims_In.f k t179 (y185.set ((Int.tmod (wrap64 (a2)) (t179.length : Int)) : Int).toNat (wrap64 (((rd_T28 t179 (Int.tmod (wrap64 (a2)) (t179.length : Int))).f0) + (wrap64 (a3)))))).bind fun t198 => (if t198 = true then (some false) else ((dims_In.f k t179 (y190 ++ [0])).bind fun t199 => (if t199 = true then (some false) else (if 1 ≤ (t182.length : Int) then ((dims_In.f k t179 (t182.drop 1)).bind fun t204 => (some (!t204))) else (none)))))) else (some false))) else (some false))) else (none))) else (none)) else (none)) else (none))) else (none)))) = some r := H
  have A5 := Aside0.mk A50
  clear A50
  replace H := Option.bind_eq_some_iff.mp H
  obtain ⟨t182, A60, H⟩ := H
  replace H : (if (t179.length : Int) = 0 then (none) else (if ([] : List Int).length + t182.length < 17592186044416 then ((some (([] : List Int) ++ t182 : List Int)).bind fun y185 => (if 0 ≤ (Int.tmod (wrap64 (a2)) (t179.length : Int)) then (if (Int.tmod (wrap64 (a2)) (t179.length : Int)) < (t179.length : Int) then (if (Int.tmod (wrap64 (a2)) (t179.length : Int)) < (y185.length : Int) then ((some (([] : List Int) ++ t182 : List Int)).bind fun y190 => (if y190.length < 17592186044416 then ((stratumlaw03_known.f k).bind fun t196 => (if t196 = true then ((dims_In.f k t179 t182).bind fun t197 => (if t197 = true then ((dims_In.f k t179 (y185.set ((Int.tmod (wrap64 (a2)) (t179.length : Int)) : Int).toNat (wrap64 (((rd_T28 t179 (Int.tmod (wrap64 (a2)) (t179.length : Int))).f0) + (wrap64 (a3)))))).bind fun t198 => (if t198 = true then (some false) else ((dims_In.f k t179 (y190 ++ [0])).bind fun t199 => (if t199 = true then (some false) else (if 1 ≤ (t182.length : Int) then ((dims_In.f k t179 (t182.drop 1)).bind fun t204 => (some (!t204))) else (none)))))) else (some false))) else (some false))) else (none))) else (none)) else (none)) else (none))) else (none))) = some r := H
  have A6 := Aside0.mk A60
  clear A60
  by_cases c7 : (t179.length : Int) = 0
  · rw [if_pos c7] at H
    exact absurd H (by simp)
  · rw [if_neg c7] at H
    have c7b0 : ((t179.length : Int) == 0) = false := beq_eq_false_iff_ne.mpr c7
    have c7b1 : ((t179.length : Int) != 0) = true := bne_iff_ne.mpr c7
    have c7b2 : ¬ (t179 = []) := fun h_ => c7 (by rw [h_]; rfl)
    by_cases c8 : ([] : List Int).length + t182.length < 17592186044416
    · rw [if_pos c8] at H
      have LMc8 := Aside0.mk c8
      clear c8
      obtain ⟨y185, hy185⟩ : ∃ y_ : List Int, y_ = (([] : List Int) ++ t182) := ⟨_, rfl⟩
      replace H : (if 0 ≤ (Int.tmod (wrap64 (a2)) (t179.length : Int)) then (if (Int.tmod (wrap64 (a2)) (t179.length : Int)) < (t179.length : Int) then (if (Int.tmod (wrap64 (a2)) (t179.length : Int)) < (y185.length : Int) then ((some (([] : List Int) ++ t182 : List Int)).bind fun y190 => (if y190.length < 17592186044416 then ((stratumlaw03_known.f k).bind fun t196 => (if t196 = true then ((dims_In.f k t179 t182).bind fun t197 => (if t197 = true then ((dims_In.f k t179 (y185.set ((Int.tmod (wrap64 (a2)) (t179.length : Int)) : Int).toNat (wrap64 (((rd_T28 t179 (Int.tmod (wrap64 (a2)) (t179.length : Int))).f0) + (wrap64 (a3)))))).bind fun t198 => (if t198 = true then (some false) else ((dims_In.f k t179 (y190 ++ [0])).bind fun t199 => (if t199 = true then (some false) else (if 1 ≤ (t182.length : Int) then ((dims_In.f k t179 (t182.drop 1)).bind fun t204 => (some (!t204))) else (none)))))) else (some false))) else (some false))) else (none))) else (none)) else (none)) else (none)) = some r := by first | (rw [hy185]; with_reducible exact H) | (have H2_ := (Option.bind_some _ _).symm.trans H; rw [hy185]; with_reducible exact H2_) | (have H2_ := (Option.bind_some _ _).symm.trans H; with_reducible exact H2_) | with_reducible exact H | (rw [hy185]; exact H) | exact H
      have Ny185 := Aside0.mk hy185
      clear hy185
      obtain ⟨ji9, hji9⟩ : ∃ j_ : Int, (Int.tmod (wrap64 (a2)) (t179.length : Int)) = j_ := ⟨_, rfl⟩
      replace H : (if 0 ≤ (ji9) then (if (ji9) < (t179.length : Int) then (if (ji9) < (y185.length : Int) then ((some (([] : List Int) ++ t182 : List Int)).bind fun y190 => (if y190.length < 17592186044416 then ((stratumlaw03_known.f k).bind fun t196 => (if t196 = true then ((dims_In.f k t179 t182).bind fun t197 => (if t197 = true then ((dims_In.f k t179 (y185.set ((ji9) : Int).toNat (wrap64 (((rd_T28 t179 (ji9)).f0) + (wrap64 (a3)))))).bind fun t198 => (if t198 = true then (some false) else ((dims_In.f k t179 (y190 ++ [0])).bind fun t199 => (if t199 = true then (some false) else (if 1 ≤ (t182.length : Int) then ((dims_In.f k t179 (t182.drop 1)).bind fun t204 => (some (!t204))) else (none)))))) else (some false))) else (some false))) else (none))) else (none)) else (none)) else (none)) = some r := by first | (rw [hji9] at H; exact H) | (simp only [hji9] at H ⊢; exact H)
      (try rw [hji9] at A5)
      (try rw [hji9] at A6)
      by_cases c10 : 0 ≤ (ji9)
      · rw [if_pos c10] at H
        have c10b0 : decide (0 ≤ (ji9)) = true := decide_eq_true c10
        clear c10
        by_cases c11 : (ji9) < (t179.length : Int)
        · rw [if_pos c11] at H
          have c11b0 : decide ((ji9) < (t179.length : Int)) = true := decide_eq_true c11
          clear c11
          by_cases c12 : (ji9) < (y185.length : Int)
          · rw [if_pos c12] at H
            have c12b0 : decide ((ji9) < (y185.length : Int)) = true := decide_eq_true c12
            clear c12
            obtain ⟨y189, hy189⟩ : ∃ y_ : List Int, y_ = (y185.set ((ji9) : Int).toNat (wrap64 (((rd_T28 t179 (ji9)).f0) + (wrap64 (a3))))) := ⟨_, rfl⟩
            replace H : ((some (([] : List Int) ++ t182 : List Int)).bind fun y190 => (if y190.length < 17592186044416 then ((stratumlaw03_known.f k).bind fun t196 => (if t196 = true then ((dims_In.f k t179 t182).bind fun t197 => (if t197 = true then ((dims_In.f k t179 y189).bind fun t198 => (if t198 = true then (some false) else ((dims_In.f k t179 (y190 ++ [0])).bind fun t199 => (if t199 = true then (some false) else (if 1 ≤ (t182.length : Int) then ((dims_In.f k t179 (t182.drop 1)).bind fun t204 => (some (!t204))) else (none)))))) else (some false))) else (some false))) else (none))) = some r := by first | (rw [hy189]; with_reducible exact H) | (have H2_ := (Option.bind_some _ _).symm.trans H; rw [hy189]; with_reducible exact H2_) | (have H2_ := (Option.bind_some _ _).symm.trans H; with_reducible exact H2_) | with_reducible exact H | (rw [hy189]; exact H) | exact H
            have Ny189 := Aside0.mk hy189
            clear hy189
            obtain ⟨y190, hy190⟩ : ∃ y_ : List Int, y_ = (([] : List Int) ++ t182) := ⟨_, rfl⟩
            replace H : (if y190.length < 17592186044416 then ((stratumlaw03_known.f k).bind fun t196 => (if t196 = true then ((dims_In.f k t179 t182).bind fun t197 => (if t197 = true then ((dims_In.f k t179 y189).bind fun t198 => (if t198 = true then (some false) else ((dims_In.f k t179 (y190 ++ [0])).bind fun t199 => (if t199 = true then (some false) else (if 1 ≤ (t182.length : Int) then ((dims_In.f k t179 (t182.drop 1)).bind fun t204 => (some (!t204))) else (none)))))) else (some false))) else (some false))) else (none)) = some r := by first | (rw [hy190]; with_reducible exact H) | (have H2_ := (Option.bind_some _ _).symm.trans H; rw [hy190]; with_reducible exact H2_) | (have H2_ := (Option.bind_some _ _).symm.trans H; with_reducible exact H2_) | with_reducible exact H | (rw [hy190]; exact H) | exact H
            have Ny190 := Aside0.mk hy190
            clear hy190
            by_cases c14 : y190.length < 17592186044416
            · rw [if_pos c14] at H
              have LMc14 := Aside0.mk c14
              clear c14
              obtain ⟨y193, hy193⟩ : ∃ y_ : List Int, y_ = (y190 ++ [0]) := ⟨_, rfl⟩
              replace H : ((stratumlaw03_known.f k).bind fun t196 => (if t196 = true then ((dims_In.f k t179 t182).bind fun t197 => (if t197 = true then ((dims_In.f k t179 y189).bind fun t198 => (if t198 = true then (some false) else ((dims_In.f k t179 y193).bind fun t199 => (if t199 = true then (some false) else (if 1 ≤ (t182.length : Int) then ((dims_In.f k t179 (t182.drop 1)).bind fun t204 => (some (!t204))) else (none)))))) else (some false))) else (some false))) = some r := by first | (rw [hy193]; with_reducible exact H) | (have H2_ := (Option.bind_some _ _).symm.trans H; rw [hy193]; with_reducible exact H2_) | (have H2_ := (Option.bind_some _ _).symm.trans H; with_reducible exact H2_) | with_reducible exact H | (rw [hy193]; exact H) | exact H
              have Ny193 := Aside0.mk hy193
              clear hy193
              replace H := Option.bind_eq_some_iff.mp H
              obtain ⟨t196, A150, H⟩ := H
              replace H : (if t196 = true then ((dims_In.f k t179 t182).bind fun t197 => (if t197 = true then ((dims_In.f k t179 y189).bind fun t198 => (if t198 = true then (some false) else ((dims_In.f k t179 y193).bind fun t199 => (if t199 = true then (some false) else (if 1 ≤ (t182.length : Int) then ((dims_In.f k t179 (t182.drop 1)).bind fun t204 => (some (!t204))) else (none)))))) else (some false))) else (some false)) = some r := H
              have A15 := Aside0.mk A150
              clear A150
              by_cases c16 : t196 = true
              · subst c16
                have H1 : ((dims_In.f k t179 t182).bind fun t197 => (if t197 = true then ((dims_In.f k t179 y189).bind fun t198 => (if t198 = true then (some false) else ((dims_In.f k t179 y193).bind fun t199 => (if t199 = true then (some false) else (if 1 ≤ (t182.length : Int) then ((dims_In.f k t179 (t182.drop 1)).bind fun t204 => (some (!t204))) else (none)))))) else (some false))) = some r := by rw [if_pos rfl] at H; exact H
                clear H
                have H := H1
                clear H1
                replace H := Option.bind_eq_some_iff.mp H
                obtain ⟨t197, A170, H⟩ := H
                replace H : (if t197 = true then ((dims_In.f k t179 y189).bind fun t198 => (if t198 = true then (some false) else ((dims_In.f k t179 y193).bind fun t199 => (if t199 = true then (some false) else (if 1 ≤ (t182.length : Int) then ((dims_In.f k t179 (t182.drop 1)).bind fun t204 => (some (!t204))) else (none)))))) else (some false)) = some r := H
                have A17 := Aside0.mk A170
                clear A170
                by_cases c18 : t197 = true
                · subst c18
                  have H1 : ((dims_In.f k t179 y189).bind fun t198 => (if t198 = true then (some false) else ((dims_In.f k t179 y193).bind fun t199 => (if t199 = true then (some false) else (if 1 ≤ (t182.length : Int) then ((dims_In.f k t179 (t182.drop 1)).bind fun t204 => (some (!t204))) else (none)))))) = some r := by rw [if_pos rfl] at H; exact H
                  clear H
                  have H := H1
                  clear H1
                  replace H := Option.bind_eq_some_iff.mp H
                  obtain ⟨t198, A190, H⟩ := H
                  replace H : (if t198 = true then (some false) else ((dims_In.f k t179 y193).bind fun t199 => (if t199 = true then (some false) else (if 1 ≤ (t182.length : Int) then ((dims_In.f k t179 (t182.drop 1)).bind fun t204 => (some (!t204))) else (none))))) = some r := H
                  have A19 := Aside0.mk A190
                  clear A190
                  by_cases c20 : t198 = true
                  · subst c20
                    have H1 : (some false) = some r := by rw [if_pos rfl] at H; exact H
                    clear H
                    have H := H1
                    clear H1
                    obtain rfl := Option.some.inj H
                    exact absurd hr.out (by simp)
                  · replace c20 := Bool.eq_false_iff.mpr c20
                    subst c20
                    have H1 : ((dims_In.f k t179 y193).bind fun t199 => (if t199 = true then (some false) else (if 1 ≤ (t182.length : Int) then ((dims_In.f k t179 (t182.drop 1)).bind fun t204 => (some (!t204))) else (none)))) = some r := by rw [if_neg (show ¬ (false = true) by decide)] at H; exact H
                    clear H
                    have H := H1
                    clear H1
                    replace H := Option.bind_eq_some_iff.mp H
                    obtain ⟨t199, A330, H⟩ := H
                    replace H : (if t199 = true then (some false) else (if 1 ≤ (t182.length : Int) then ((dims_In.f k t179 (t182.drop 1)).bind fun t204 => (some (!t204))) else (none))) = some r := H
                    have A33 := Aside0.mk A330
                    clear A330
                    by_cases c34 : t199 = true
                    · subst c34
                      have H1 : (some false) = some r := by rw [if_pos rfl] at H; exact H
                      clear H
                      have H := H1
                      clear H1
                      obtain rfl := Option.some.inj H
                      exact absurd hr.out (by simp)
                    · replace c34 := Bool.eq_false_iff.mpr c34
                      subst c34
                      have H1 : (if 1 ≤ (t182.length : Int) then ((dims_In.f k t179 (t182.drop 1)).bind fun t204 => (some (!t204))) else (none)) = some r := by rw [if_neg (show ¬ (false = true) by decide)] at H; exact H
                      clear H
                      have H := H1
                      clear H1
                      by_cases c49 : 1 ≤ (t182.length : Int)
                      · rw [if_pos c49] at H
                        have c49b0 := eq_true c49
                        have c49b1 : decide (1 ≤ (t182.length : Int)) = true := decide_eq_true c49
                        clear c49
                        obtain ⟨y200, hy200⟩ : ∃ y_ : List Int, y_ = (t182.drop 1) := ⟨_, rfl⟩
                        replace H : ((dims_In.f k t179 y200).bind fun t204 => (some (!t204))) = some r := by first | (rw [hy200]; with_reducible exact H) | (have H2_ := (Option.bind_some _ _).symm.trans H; rw [hy200]; with_reducible exact H2_) | (have H2_ := (Option.bind_some _ _).symm.trans H; with_reducible exact H2_) | with_reducible exact H | (rw [hy200]; exact H) | exact H
                        have Ny200 := Aside0.mk hy200
                        clear hy200
                        replace H := Option.bind_eq_some_iff.mp H
                        obtain ⟨t204, A500, H⟩ := H
                        replace H : (some (!t204)) = some r := H
                        have A50 := Aside0.mk A500
                        clear A500
                        obtain rfl := Option.some.inj H
                        clear hr
                        go_enter Try.func9, Try.ntmps9
                        go_wp2_with (first | ((with_reducible refine gate_callee (f := 11) rfl ?_); refine goesL_ (some 15) rfl rfl Try.func11 (by kernel_rfl) rfl #[.slice A0 l0.length c0] rfl (by (try simp only [List.map_toArray, List.map_cons, List.map_nil]); first | done | rfl | (simp only [List.length_drop, List.length_take]; rfl)) ?_; (with_reducible refine (stratumlaw03_Of.calls k _ _ l0 t179 _ ?side1 ?side2 A5.out).mono ?_); (case side1 => repeat (first | exact HR0.out | (with_reducible refine Kd.C_alloc ?_ _) | (with_reducible refine Kd.C_drewN ?_ _) | (with_reducible refine Kd.C_drew ?_))); (case side2 => exact HC0.out); rintro e w51 ⟨v180, rfl, ho0, hb⟩; refine ⟨_, rfl, ?_⟩; have n0_ := Aside0.mk (Kd.S_lower ho0 (below_size (by repeat (first | (with_reducible first | exact HB.out | apply below_alloc | apply pw_below_drewN | apply below_drew1) | exact HB.out)))); have n1_ := Aside0.mk (below_step (by repeat (first | (with_reducible first | exact HB.out | apply below_alloc | apply pw_below_drewN | apply below_drew1) | exact HB.out)) hb); clear HB; have HO181 := n0_; have HB := n1_; clear n0_ n1_; (try clear hb); (try clear hb2); (try clear hk); (try clear hi); (try clear ho0); obtain ⟨Ao52, co52, eo52⟩ := Kd.S_slice HO181.out; subst eo52) | ((with_reducible refine gate_callee (f := 24) rfl ?_); refine goesL_ (some 18) rfl rfl Try.func24 (by kernel_rfl) rfl #[.slice Ao52 t179.length co52, .slice A1 l1.length c1] rfl (by (try simp only [List.map_toArray, List.map_cons, List.map_nil]); first | done | rfl | (simp only [List.length_drop, List.length_take]; rfl)) ?_; (with_reducible refine (stratumlaw03_Key.calls k _ _ t179 _ _ l1 t182 _ ?side1 ?side2 ?side3 ?side4 A6.out).mono ?_); (case side1 => repeat (first | exact (Kd.S_reads' HO181.out).2.2 | (with_reducible refine Kd.C_alloc ?_ _) | (with_reducible refine Kd.C_drewN ?_ _) | (with_reducible refine Kd.C_drew ?_))); (case side2 => exact (Kd.S_reads' HO181.out).2.1); (case side3 => repeat (first | exact (Kd.C_below HR1.out HB.out) | (with_reducible refine Kd.C_alloc ?_ _) | (with_reducible refine Kd.C_drewN ?_ _) | (with_reducible refine Kd.C_drew ?_))); (case side4 => exact HC1.out); rintro e w53 ⟨v183, rfl, ho0, hb⟩; refine ⟨_, rfl, ?_⟩; have n0_ := Aside0.mk (Kd.S_elder' (by (with_reducible repeat (first | apply Kd.S_alloc | apply Kd.S_drewN | apply Kd.S_drew)); exact HO181.out) (Kd.R_base ho0) hb); have n1_ := Aside0.mk (Kd.R_lower ho0 (below_size (by repeat (first | (with_reducible first | exact HB.out | apply below_alloc | apply pw_below_drewN | apply below_drew1) | exact HB.out)))); have n2_ := Aside0.mk (below_step (by repeat (first | (with_reducible first | exact HB.out | apply below_alloc | apply pw_below_drewN | apply below_drew1) | exact HB.out)) hb); clear HO181; clear HB; have HO181 := n0_; have HO184 := n1_; have HB := n2_; clear n0_ n1_ n2_; (try clear hb); (try clear hb2); (try clear hk); (try clear hi); (try clear ho0); obtain ⟨Ao55, co55, eo55⟩ := Kd.R_slice HO184.out; subst eo55) | ((with_reducible refine gate_builtin (b := .append) (xs := #[.tmp 24, .tmp 25]) rfl ?_); at_builtin; refine Kd.R_append_rows (Kd.int .i64) (w0 := w) w.heap.size rfl (.tmp 24) (.tmp 25) 26 3 (.int .i64 0) 8 rfl Try.underlying26 info3 rfl (by decide) (by omega) (.slice none 0 0) ([] : List Int) t182 _ _ _ (fun k_ => some k_ ≠ (.slice Ao55 t182.length co55 : Value).ownBlock) (fun _ => False) rfl rfl ?aO ?aR (fun _ _ h => h) (fun _ h => h.elim) ?aF ?aB ?aS ?aL ?_; (case aR => repeat (first | exact (Kd.R_reads' HO184.out).2.2 | (with_reducible refine Kd.C_alloc ?_ _) | (with_reducible refine Kd.C_drewN ?_ _) | (with_reducible refine Kd.C_drew ?_))); (case aB => exact (by repeat (first | (with_reducible first | exact HB.out | apply below_alloc | apply pw_below_drewN | apply below_drew1) | exact HB.out))); (case aF => exact (fun k_ hk => Kd.fresh' (Kd.R_lt (by (with_reducible repeat (first | apply Kd.R_alloc | apply Kd.R_drewN | apply Kd.R_drew)); exact HO184.out)) k_ hk)); (case aO => exact ((Kd.R_nil _ _ _ _ (fun k_ => some k_ ≠ (.slice Ao55 t182.length co55 : Value).ownBlock)))); (case aS => exact (below_size (by repeat (first | (with_reducible first | exact HB.out | apply below_alloc | apply pw_below_drewN | apply below_drew1) | exact HB.out)))); (case aL => have := LMc8.out; omega); intro v186 w54 ho hb hg hat; rw [← Ny185.out] at ho; have n0_ := Aside0.mk (Kd.S_after (Kd.S_apart_nil (by (with_reducible repeat (first | apply Kd.S_alloc | apply Kd.S_drewN | apply Kd.S_drew)); exact HO181.out)) hg hat); have n1_ := Aside0.mk (Kd.R_after (Kd.R_apart_nil (by (with_reducible repeat (first | apply Kd.R_alloc | apply Kd.R_drewN | apply Kd.R_drew)); exact HO184.out)) hg hat); have n2_ := Aside0.mk (hb); have n3_ := Aside0.mk (ho); clear HO181; clear HO184; clear HB; have HO181 := n0_; have HO184 := n1_; have HB := n2_; have HO187 := n3_; clear n0_ n1_ n2_ n3_; clear ho hb hg hat; have p188 : 0 ≤ ((ji9) : Int) := of_decide_eq_true (by first | (with_reducible assumption) | assumption); have q188 : (ji9) < (t179.length : Int) := of_decide_eq_true (by first | (with_reducible assumption) | assumption); obtain ⟨ad188, A188_1, c188_1, e188, hx188_0, hx188_1, hl188_1, hi188_1⟩ := at_T28 (Kd.S_reads' HO181.out).2.2 (ji9) p188 q188; cases e188; obtain ⟨ce188, hce188, hMe188, hcc188⟩ := Kd.S_get HO181.out z28 (ji9) p188 (by first | exact q188 | exact of_decide_eq_true (by first | (with_reducible assumption) | assumption) | (have e_ := (Kd.S_reads' HO181.out).1; omega)); obtain ⟨ve188_1, rfl, ge188_1⟩ := k28_openM hMe188; have hv188_1 := hcc188 1 _ rfl; rw [add_field _ _ 1 (by omega)] at hv188_1; replace hv188_1 := Option.some.inj (hv188_1.symm.trans hx188_1); rw [hv188_1] at ge188_1; have HL188_1 := Aside0.mk (show Kd.R (Kd.int .i64) 3 _ _ _ _ ((rd_T28 t179 (ji9)).f1) from ge188_1); clear hv188_1 ge188_1; clear hcc188 hce188; have HR188_1 := Aside0.mk hi188_1; have HC188_1 := Aside0.mk hl188_1; clear hi188_1 hl188_1; replace p188 := eq_true p188; replace q188 := eq_true q188; have p13 : 0 ≤ ((ji9) : Int) := of_decide_eq_true (by first | (with_reducible assumption) | assumption); have q13 : ((ji9) : Int) < ((y185.length : Int) : Int) := of_decide_eq_true (by first | (with_reducible assumption) | assumption); obtain ⟨go13, co13, eo13, gb13, gl13, cl13, HG13⟩ := Kd.R_form HO187.out (by omega); (first | cases eo13 | (injection eo13 with ea_ en_ ec_; (first | subst ea_ | (injection ea_ with ea_; subst ea_)); subst ec_; clear en_)); have GB13 := Aside0.mk gb13; have GG13 := Aside0.mk HG13; clear gb13 gl13 HG13; obtain ⟨hx13_0, hf13_0⟩ := Kd.R_celln 0 HO187.out ((ji9) : Int) p13 q13; replace p13 := eq_true p13; replace q13 := eq_true q13; obtain ⟨hy56_, hz56_⟩ := Kd.R_celln 0 HO187.out ((ji9) : Int) (of_decide_eq_true (by first | (with_reducible assumption) | assumption)) (of_decide_eq_true (by first | (with_reducible assumption) | assumption)); have HP56 := Kd.R_putg HO187.out ((ji9) : Int) (wrap64 (((rd_T28 t179 (ji9)).f0) + (wrap64 (a3))))) | ((with_reducible refine gate_store (t := 3) (p := 37) rfl ?_); refine store_event (t := 3) (p := 37) (v := ?vo_w57) (w1 := (w54.setCell ⟨go13, ((ji9) : Int).toNat, none⟩ (.int .i64 (wrap64 (((rd_T28 t179 (ji9)).f0) + (wrap64 (a3))))))) ?hg ?ho ?hn ?hr ?_; (case ho => rfl); (case hg => rfl); (case hn => rfl); (case hr => first | (go_simp; done) | (go_simp; rfl)); intro w57 hw; have hg : w54.grownBy w57 (some go13) := (by rw [hw]; exact HP56.2); have hp_ : Kd.R (Kd.int .i64) 3 w57 w.heap.size (fun k_ => some k_ ≠ (.slice Ao55 t182.length co55 : Value).ownBlock) (.slice (some ⟨go13, 0, none⟩) y185.length co13) y189 := (by rw [hw, Ny189.out]; exact HP56.1); clear HP56; have n0_ := Aside0.mk (Kd.S_after (v := (.slice (some ⟨go13, 0, none⟩) y185.length co13)) (v1 := (.slice (some ⟨go13, 0, none⟩) y185.length co13)) (ok := (fun k_ => some k_ ≠ (.slice Ao55 t182.length co55 : Value).ownBlock)) (by (with_reducible repeat (first | apply Kd.S_alloc | apply Kd.S_drewN | apply Kd.S_drew)); exact Kd.S_mono HO181.out (fun _ hk => ⟨hk.1.2, hk.2⟩)) hg (.inl rfl)); have n1_ := Aside0.mk (Kd.R_after (v := (.slice (some ⟨go13, 0, none⟩) y185.length co13)) (v1 := (.slice (some ⟨go13, 0, none⟩) y185.length co13)) (ok := (fun _ => True)) (by (with_reducible repeat (first | apply Kd.R_alloc | apply Kd.R_drewN | apply Kd.R_drew)); exact HO184.out) hg (.inl rfl)); have n2_ := Aside0.mk (hp_); have n3_ := Aside0.mk (Kd.R_after (v := (.slice (some ⟨go13, 0, none⟩) y185.length co13)) (v1 := (.slice (some ⟨go13, 0, none⟩) y185.length co13)) (ok := (fun k_ => some k_ ≠ (.slice (some ad188) t179.length co52 : Value).ownBlock ∧ some k_ ≠ (.slice Ao55 t182.length co55 : Value).ownBlock)) (by (with_reducible repeat (first | apply Kd.R_alloc | apply Kd.R_drewN | apply Kd.R_drew)); exact Kd.R_mono HL188_1.out (fun _ hk => ⟨⟨hk.2, hk.1.1.2⟩, hk.1.2⟩)) hg (.inl rfl)); have n4_ := Aside0.mk ((by rw [hw]; exact below_set (HB.out) GB13.out : Below w.heap.size w w57)); clear HO181; clear HO184; clear HO187; clear HL188_1; clear HB; have HO181 := n0_; have HO184 := n1_; have HO187 := n2_; have HL188_1 := n3_; have HB := n4_; clear n0_ n1_ n2_ n3_ n4_; clear hg hw hp_) | ((with_reducible refine gate_builtin (b := .append) (xs := #[.tmp 38, .tmp 39]) rfl ?_); at_builtin; refine Kd.R_append_rows (Kd.int .i64) (w0 := w) w.heap.size rfl (.tmp 38) (.tmp 39) 26 3 (.int .i64 0) 8 rfl Try.underlying26 info3 rfl (by decide) (by omega) (.slice none 0 0) ([] : List Int) t182 _ _ _ (fun k_ => some k_ ≠ (.slice Ao55 t182.length co55 : Value).ownBlock ∧ some k_ ≠ (.slice (some ⟨go13, 0, none⟩) y185.length co13 : Value).ownBlock ∧ some k_ ≠ (.slice A188_1 ((rd_T28 t179 (ji9)).f1).length c188_1 : Value).ownBlock) (fun _ => False) rfl rfl ?aO ?aR (fun _ _ h => h) (fun _ h => h.elim) ?aF ?aB ?aS ?aL ?_; (case aR => repeat (first | exact (Kd.R_reads' HO184.out).2.2 | (with_reducible refine Kd.C_alloc ?_ _) | (with_reducible refine Kd.C_drewN ?_ _) | (with_reducible refine Kd.C_drew ?_))); (case aB => exact (by repeat (first | (with_reducible first | exact HB.out | apply below_alloc | apply pw_below_drewN | apply below_drew1) | exact HB.out))); (case aF => exact (fun k_ hk => ⟨Kd.fresh' (Kd.R_lt (by (with_reducible repeat (first | apply Kd.R_alloc | apply Kd.R_drewN | apply Kd.R_drew)); exact HO184.out)) k_ hk, Kd.fresh' (Kd.R_lt (by (with_reducible repeat (first | apply Kd.R_alloc | apply Kd.R_drewN | apply Kd.R_drew)); exact HO187.out)) k_ hk, Kd.fresh' (Kd.R_lt (by (with_reducible repeat (first | apply Kd.R_alloc | apply Kd.R_drewN | apply Kd.R_drew)); exact HL188_1.out)) k_ hk⟩)); (case aO => exact ((Kd.R_nil _ _ _ _ (fun k_ => some k_ ≠ (.slice Ao55 t182.length co55 : Value).ownBlock ∧ some k_ ≠ (.slice (some ⟨go13, 0, none⟩) y185.length co13 : Value).ownBlock ∧ some k_ ≠ (.slice A188_1 ((rd_T28 t179 (ji9)).f1).length c188_1 : Value).ownBlock)))); (case aS => exact (below_size (by repeat (first | (with_reducible first | exact HB.out | apply below_alloc | apply pw_below_drewN | apply below_drew1) | exact HB.out)))); (case aL => have := LMc8.out; omega); intro v191 w58 ho hb hg hat; rw [← Ny190.out] at ho; have n0_ := Aside0.mk (Kd.S_after (Kd.S_apart_nil (by (with_reducible repeat (first | apply Kd.S_alloc | apply Kd.S_drewN | apply Kd.S_drew)); exact HO181.out)) hg hat); have n1_ := Aside0.mk (Kd.R_after (Kd.R_apart_nil (by (with_reducible repeat (first | apply Kd.R_alloc | apply Kd.R_drewN | apply Kd.R_drew)); exact HO184.out)) hg hat); have n2_ := Aside0.mk (Kd.R_after (Kd.R_apart_nil (by (with_reducible repeat (first | apply Kd.R_alloc | apply Kd.R_drewN | apply Kd.R_drew)); exact HO187.out)) hg hat); have n3_ := Aside0.mk (Kd.R_after (Kd.R_apart_nil (by (with_reducible repeat (first | apply Kd.R_alloc | apply Kd.R_drewN | apply Kd.R_drew)); exact HL188_1.out)) hg hat); have n4_ := Aside0.mk (hb); have n5_ := Aside0.mk (ho); clear HO181; clear HO184; clear HO187; clear HL188_1; clear HB; have HO181 := n0_; have HO184 := n1_; have HO187 := n2_; have HL188_1 := n3_; have HB := n4_; have HO192 := n5_; clear n0_ n1_ n2_ n3_ n4_ n5_; clear ho hb hg hat) | ((with_reducible refine gate_builtin (b := .append) (xs := #[.tmp 41, .tmp 42]) rfl ?_); at_builtin; refine Kd.R_append (Kd.int .i64) (w0 := w) w.heap.size rfl (.tmp 41) (.tmp 42) 26 3 (.int .i64 0) 8 rfl Try.underlying26 info3 rfl (by decide) (by omega) v191 y190 0 [.int .i64 0] (fun k_ => some k_ ≠ (.slice Ao55 t182.length co55 : Value).ownBlock ∧ some k_ ≠ (.slice (some ⟨go13, 0, none⟩) y185.length co13 : Value).ownBlock ∧ some k_ ≠ (.slice A188_1 ((rd_T28 t179 (ji9)).f1).length c188_1 : Value).ownBlock) (fun _ => False) rfl rfl ?aP (fun _ hk => hk.elim) ?aF ?aO ?aB ?aS ?aL ?_; (case aP => exact rfl); (case aB => exact (by repeat (first | (with_reducible first | exact HB.out | apply below_alloc | apply pw_below_drewN | apply below_drew1) | exact HB.out))); (case aF => exact (fun k_ hk => ⟨Kd.fresh' (Kd.R_lt (by (with_reducible repeat (first | apply Kd.R_alloc | apply Kd.R_drewN | apply Kd.R_drew)); exact HO184.out)) k_ hk, Kd.fresh' (Kd.R_lt (by (with_reducible repeat (first | apply Kd.R_alloc | apply Kd.R_drewN | apply Kd.R_drew)); exact HO187.out)) k_ hk, Kd.fresh' (Kd.R_lt (by (with_reducible repeat (first | apply Kd.R_alloc | apply Kd.R_drewN | apply Kd.R_drew)); exact HL188_1.out)) k_ hk⟩)); (case aO => exact (by (with_reducible repeat (first | apply Kd.R_alloc | apply Kd.R_drewN | apply Kd.R_drew)); exact HO192.out)); (case aS => exact (below_size (by repeat (first | (with_reducible first | exact HB.out | apply below_alloc | apply pw_below_drewN | apply below_drew1) | exact HB.out)))); (case aL => have := LMc14.out; omega); intro v194 w59 ho hb hg hat; rw [← Ny193.out] at ho; have n0_ := Aside0.mk (Kd.S_after (ok := (fun k_ => some k_ ≠ (.slice Ao55 t182.length co55 : Value).ownBlock ∧ some k_ ≠ (.slice (some ⟨go13, 0, none⟩) y185.length co13 : Value).ownBlock)) (by (with_reducible repeat (first | apply Kd.S_alloc | apply Kd.S_drewN | apply Kd.S_drew)); exact HO181.out) hg hat); have n1_ := Aside0.mk (Kd.R_after (ok := (fun k_ => some k_ ≠ (.slice (some ⟨go13, 0, none⟩) y185.length co13 : Value).ownBlock)) (by (with_reducible repeat (first | apply Kd.R_alloc | apply Kd.R_drewN | apply Kd.R_drew)); exact Kd.R_mono HO184.out (fun _ hk => ⟨hk.1.2, hk.2⟩)) hg hat); have n2_ := Aside0.mk (Kd.R_after (ok := (fun k_ => some k_ ≠ (.slice Ao55 t182.length co55 : Value).ownBlock)) (by (with_reducible repeat (first | apply Kd.R_alloc | apply Kd.R_drewN | apply Kd.R_drew)); exact HO187.out) hg hat); have n3_ := Aside0.mk (Kd.R_after (ok := (fun k_ => some k_ ≠ (.slice (some ad188) t179.length co52 : Value).ownBlock ∧ some k_ ≠ (.slice Ao55 t182.length co55 : Value).ownBlock ∧ some k_ ≠ (.slice (some ⟨go13, 0, none⟩) y185.length co13 : Value).ownBlock)) (by (with_reducible repeat (first | apply Kd.R_alloc | apply Kd.R_drewN | apply Kd.R_drew)); exact Kd.R_mono HL188_1.out (fun _ hk => ⟨⟨hk.1.1.1, ⟨hk.1.1.2, hk.1.2⟩⟩, hk.2⟩)) hg hat); have n4_ := Aside0.mk (hb); have n5_ := Aside0.mk (ho); clear HO181; clear HO184; clear HO187; clear HL188_1; clear HB; clear HO192; have HO181 := n0_; have HO184 := n1_; have HO187 := n2_; have HL188_1 := n3_; have HB := n4_; have HO195 := n5_; clear n0_ n1_ n2_ n3_ n4_ n5_; clear ho hb hg hat) | ((with_reducible refine gate_callee (f := 12) rfl ?_); refine goesL_ (some 44) rfl rfl Try.func12 (by kernel_rfl) rfl #[] rfl (by (try simp only [List.map_toArray, List.map_cons, List.map_nil]); first | done | rfl | (simp only [List.length_drop, List.length_take]; rfl)) ?_; (with_reducible refine (stratumlaw03_known.calls k  true _ A15.out).mono ?_); rintro e w60 ⟨rfl, hb⟩; refine ⟨_, rfl, ?_⟩; have n0_ := Aside0.mk (Kd.S_below (by (with_reducible repeat (first | apply Kd.S_alloc | apply Kd.S_drewN | apply Kd.S_drew)); exact HO181.out) hb); have n1_ := Aside0.mk (Kd.R_below (by (with_reducible repeat (first | apply Kd.R_alloc | apply Kd.R_drewN | apply Kd.R_drew)); exact HO184.out) hb); have n2_ := Aside0.mk (Kd.R_below (by (with_reducible repeat (first | apply Kd.R_alloc | apply Kd.R_drewN | apply Kd.R_drew)); exact HO187.out) hb); have n3_ := Aside0.mk (Kd.R_below (by (with_reducible repeat (first | apply Kd.R_alloc | apply Kd.R_drewN | apply Kd.R_drew)); exact HL188_1.out) hb); have n4_ := Aside0.mk (Kd.R_below (by (with_reducible repeat (first | apply Kd.R_alloc | apply Kd.R_drewN | apply Kd.R_drew)); exact HO195.out) hb); have n5_ := Aside0.mk (below_step (by repeat (first | (with_reducible first | exact HB.out | apply below_alloc | apply pw_below_drewN | apply below_drew1) | exact HB.out)) hb); clear HO181; clear HO184; clear HO187; clear HL188_1; clear HO195; clear HB; have HO181 := n0_; have HO184 := n1_; have HO187 := n2_; have HL188_1 := n3_; have HO195 := n4_; have HB := n5_; clear n0_ n1_ n2_ n3_ n4_ n5_; (try clear hb); (try clear hb2); (try clear hk); (try clear hi)) | (go_at_call 26; (with_reducible refine (dims_In.calls k _ _ t179 _ _ t182 true _ ?side1 ?side2 ?side3 ?side4 A17.out).mono ?_); (case side1 => repeat (first | exact (Kd.S_reads' HO181.out).2.2 | (with_reducible refine Kd.C_alloc ?_ _) | (with_reducible refine Kd.C_drewN ?_ _) | (with_reducible refine Kd.C_drew ?_))); (case side2 => exact (Kd.S_reads' HO181.out).2.1); (case side3 => repeat (first | exact (Kd.R_reads' HO184.out).2.2 | (with_reducible refine Kd.C_alloc ?_ _) | (with_reducible refine Kd.C_drewN ?_ _) | (with_reducible refine Kd.C_drew ?_))); (case side4 => exact (Kd.R_reads' HO184.out).2.1); rintro e w61 ⟨rfl, hb⟩; have n0_ := Aside0.mk (Kd.S_below (by (with_reducible repeat (first | apply Kd.S_alloc | apply Kd.S_drewN | apply Kd.S_drew)); exact HO181.out) hb); have n1_ := Aside0.mk (Kd.R_below (by (with_reducible repeat (first | apply Kd.R_alloc | apply Kd.R_drewN | apply Kd.R_drew)); exact HO184.out) hb); have n2_ := Aside0.mk (Kd.R_below (by (with_reducible repeat (first | apply Kd.R_alloc | apply Kd.R_drewN | apply Kd.R_drew)); exact HO187.out) hb); have n3_ := Aside0.mk (Kd.R_below (by (with_reducible repeat (first | apply Kd.R_alloc | apply Kd.R_drewN | apply Kd.R_drew)); exact HL188_1.out) hb); have n4_ := Aside0.mk (Kd.R_below (by (with_reducible repeat (first | apply Kd.R_alloc | apply Kd.R_drewN | apply Kd.R_drew)); exact HO195.out) hb); have n5_ := Aside0.mk (below_step (by repeat (first | (with_reducible first | exact HB.out | apply below_alloc | apply pw_below_drewN | apply below_drew1) | exact HB.out)) hb); clear HO181; clear HO184; clear HO187; clear HL188_1; clear HO195; clear HB; have HO181 := n0_; have HO184 := n1_; have HO187 := n2_; have HL188_1 := n3_; have HO195 := n4_; have HB := n5_; clear n0_ n1_ n2_ n3_ n4_ n5_; (try clear hb); (try clear hb2); (try clear hk); (try clear hi)) | (go_at_call 26; refine calls_of_args (args' := #[.slice (some ad188) t179.length co52, .slice (some ⟨go13, 0, none⟩) y189.length co13]) (by first | (rw [show y189.length = y185.length from (Kd.R_reads' HO187.out).1.symm] <;> rfl) | rfl) ?_; (with_reducible refine (dims_In.calls k _ _ t179 _ _ y189 false _ ?side1 ?side2 ?side3 ?side4 A19.out).mono ?_); (case side1 => repeat (first | exact (Kd.S_reads' HO181.out).2.2 | (with_reducible refine Kd.C_alloc ?_ _) | (with_reducible refine Kd.C_drewN ?_ _) | (with_reducible refine Kd.C_drew ?_))); (case side2 => exact (Kd.S_reads' HO181.out).2.1); (case side3 => repeat (first | exact (Kd.R_reads' HO187.out).2.2 | (with_reducible refine Kd.C_alloc ?_ _) | (with_reducible refine Kd.C_drewN ?_ _) | (with_reducible refine Kd.C_drew ?_))); (case side4 => rw [show y189.length = y185.length from (Kd.R_reads' HO187.out).1.symm]; exact (Kd.R_reads' HO187.out).2.1); rintro e w62 ⟨rfl, hb⟩; have n0_ := Aside0.mk (Kd.S_below (by (with_reducible repeat (first | apply Kd.S_alloc | apply Kd.S_drewN | apply Kd.S_drew)); exact HO181.out) hb); have n1_ := Aside0.mk (Kd.R_below (by (with_reducible repeat (first | apply Kd.R_alloc | apply Kd.R_drewN | apply Kd.R_drew)); exact HO184.out) hb); have n2_ := Aside0.mk (Kd.R_below (by (with_reducible repeat (first | apply Kd.R_alloc | apply Kd.R_drewN | apply Kd.R_drew)); exact HO187.out) hb); have n3_ := Aside0.mk (Kd.R_below (by (with_reducible repeat (first | apply Kd.R_alloc | apply Kd.R_drewN | apply Kd.R_drew)); exact HL188_1.out) hb); have n4_ := Aside0.mk (Kd.R_below (by (with_reducible repeat (first | apply Kd.R_alloc | apply Kd.R_drewN | apply Kd.R_drew)); exact HO195.out) hb); have n5_ := Aside0.mk (below_step (by repeat (first | (with_reducible first | exact HB.out | apply below_alloc | apply pw_below_drewN | apply below_drew1) | exact HB.out)) hb); clear HO181; clear HO184; clear HO187; clear HL188_1; clear HO195; clear HB; have HO181 := n0_; have HO184 := n1_; have HO187 := n2_; have HL188_1 := n3_; have HO195 := n4_; have HB := n5_; clear n0_ n1_ n2_ n3_ n4_ n5_; (try clear hb); (try clear hb2); (try clear hk); (try clear hi); obtain ⟨Ao63, co63, eo63⟩ := Kd.R_slice HO195.out; subst eo63) | (go_at_call 26; (with_reducible refine (dims_In.calls k _ _ t179 _ _ y193 false _ ?side1 ?side2 ?side3 ?side4 A33.out).mono ?_); (case side1 => repeat (first | exact (Kd.S_reads' HO181.out).2.2 | (with_reducible refine Kd.C_alloc ?_ _) | (with_reducible refine Kd.C_drewN ?_ _) | (with_reducible refine Kd.C_drew ?_))); (case side2 => exact (Kd.S_reads' HO181.out).2.1); (case side3 => repeat (first | exact (Kd.R_reads' HO195.out).2.2 | (with_reducible refine Kd.C_alloc ?_ _) | (with_reducible refine Kd.C_drewN ?_ _) | (with_reducible refine Kd.C_drew ?_))); (case side4 => exact (Kd.R_reads' HO195.out).2.1); rintro e w64 ⟨rfl, hb⟩; have n0_ := Aside0.mk (Kd.S_below (by (with_reducible repeat (first | apply Kd.S_alloc | apply Kd.S_drewN | apply Kd.S_drew)); exact HO181.out) hb); have n1_ := Aside0.mk (Kd.R_below (by (with_reducible repeat (first | apply Kd.R_alloc | apply Kd.R_drewN | apply Kd.R_drew)); exact HO184.out) hb); have n2_ := Aside0.mk (Kd.R_below (by (with_reducible repeat (first | apply Kd.R_alloc | apply Kd.R_drewN | apply Kd.R_drew)); exact HO187.out) hb); have n3_ := Aside0.mk (Kd.R_below (by (with_reducible repeat (first | apply Kd.R_alloc | apply Kd.R_drewN | apply Kd.R_drew)); exact HL188_1.out) hb); have n4_ := Aside0.mk (Kd.R_below (by (with_reducible repeat (first | apply Kd.R_alloc | apply Kd.R_drewN | apply Kd.R_drew)); exact HO195.out) hb); have n5_ := Aside0.mk (below_step (by repeat (first | (with_reducible first | exact HB.out | apply below_alloc | apply pw_below_drewN | apply below_drew1) | exact HB.out)) hb); clear HO181; clear HO184; clear HO187; clear HL188_1; clear HO195; clear HB; have HO181 := n0_; have HO184 := n1_; have HO187 := n2_; have HL188_1 := n3_; have HO195 := n4_; have HB := n5_; clear n0_ n1_ n2_ n3_ n4_ n5_; (try clear hb); (try clear hb2); (try clear hk); (try clear hi); have q65 : (1 : Int) ≤ ((t182.length : Int) : Int) := of_decide_eq_true (by first | (with_reducible assumption) | assumption); obtain ⟨i065, hi065, _, hsz65, _⟩ := info_parts info3; have hroom65 : t182.length ≤ co55 := (Kd.R_reads' HO184.out).2.1; have hC65 : Kd.C (Kd.int .i64) _ Ao55 t182.length t182 := (Kd.R_reads' HO184.out).2.2; have hcut65 := cut_from (P := Try.prog) 26 3 .i64 Try.underlying26 hi065 1 hsz65 Ao55 t182.length co55 1 (by omega) q65; have hr65 := Kd.C_drop (m := (1 : Int).toNat) (c := co55) hC65 (by omega) hroom65; obtain ⟨A65, hA65⟩ : ∃ A1, A1 = (if co55 = (1 : Int).toNat then Ao55 else (Ao55 : Option Addr).map (·.add ((1 : Int).toNat * 1))) := ⟨_, rfl⟩; obtain ⟨c65, hc65⟩ : ∃ c1, c1 = co55 - (1 : Int).toNat := ⟨_, rfl⟩; have hy65 : y200.length = t182.length - (1 : Int).toNat := (by rw [Ny200.out, List.length_drop] <;> omega); rw [show (t182).drop (1 : Int).toNat = y200 from Ny200.out.symm] at hr65; replace hr65 : Kd.C (Kd.int .i64) _ A65 y200.length y200 := (by rw [hA65]; exact hr65); rw [← hy65, ← hA65, ← hc65] at hcut65; have HR203 := Aside0.mk hr65; have HC203 := Aside0.mk (show y200.length ≤ c65 from by rw [hy65, hc65]; exact Nat.sub_le_sub_right hroom65 _); clear hr65 hC65 hroom65 hi065 hsz65 hc65; have KY65 := Aside0.mk hy65; have KA65 := Aside0.mk hA65; clear hy65 hA65; have KL65 := Aside0.mk (show 1 ≤ t182.length from by omega); replace q65 := eq_true q65) | (go_at_call 26; (with_reducible refine (dims_In.calls k _ _ t179 _ _ y200 t204 _ ?side1 ?side2 ?side3 ?side4 A50.out).mono ?_); (case side1 => repeat (first | exact (Kd.S_reads' HO181.out).2.2 | (with_reducible refine Kd.C_alloc ?_ _) | (with_reducible refine Kd.C_drewN ?_ _) | (with_reducible refine Kd.C_drew ?_))); (case side2 => exact (Kd.S_reads' HO181.out).2.1); (case side3 => repeat (first | exact (by repeat (first | (with_reducible exact HR203.out) | (with_reducible refine Kd.C_alloc ?_ _) | (with_reducible refine Kd.C_drewN ?_ _) | (with_reducible refine Kd.C_drew ?_) | exact HR203.out)) | (with_reducible refine Kd.C_alloc ?_ _) | (with_reducible refine Kd.C_drewN ?_ _) | (with_reducible refine Kd.C_drew ?_))); (case side4 => exact HC203.out); rintro e w66 ⟨rfl, hb⟩; have n0_ := Aside0.mk (Kd.S_below (by (with_reducible repeat (first | apply Kd.S_alloc | apply Kd.S_drewN | apply Kd.S_drew)); exact HO181.out) hb); have n1_ := Aside0.mk (Kd.R_below (by (with_reducible repeat (first | apply Kd.R_alloc | apply Kd.R_drewN | apply Kd.R_drew)); exact HO184.out) hb); have n2_ := Aside0.mk (Kd.R_below (by (with_reducible repeat (first | apply Kd.R_alloc | apply Kd.R_drewN | apply Kd.R_drew)); exact HO187.out) hb); have n3_ := Aside0.mk (Kd.R_below (by (with_reducible repeat (first | apply Kd.R_alloc | apply Kd.R_drewN | apply Kd.R_drew)); exact HL188_1.out) hb); have n4_ := Aside0.mk (Kd.R_below (by (with_reducible repeat (first | apply Kd.R_alloc | apply Kd.R_drewN | apply Kd.R_drew)); exact HO195.out) hb); have n5_ := Aside0.mk (Kd.C_below (by repeat (first | (with_reducible exact HR203.out) | (with_reducible refine Kd.C_alloc ?_ _) | (with_reducible refine Kd.C_drewN ?_ _) | (with_reducible refine Kd.C_drew ?_) | exact HR203.out)) hb); have n6_ := Aside0.mk (below_step (by repeat (first | (with_reducible first | exact HB.out | apply below_alloc | apply pw_below_drewN | apply below_drew1) | exact HB.out)) hb); clear HO181; clear HO184; clear HO187; clear HL188_1; clear HO195; clear HR203; clear HB; have HO181 := n0_; have HO184 := n1_; have HO187 := n2_; have HL188_1 := n3_; have HO195 := n4_; have HR203 := n5_; have HB := n6_; clear n0_ n1_ n2_ n3_ n4_ n5_ n6_; (try clear hb); (try clear hb2); (try clear hk); (try clear hi)))
                        go_ret
                        exact ⟨by first | rfl | (simp [errW_none, errW_some] <;> rfl) | (simp only [← hji9]; first | rfl | (simp [errW_none, errW_some] <;> rfl)) | (simp [*, errW_none, errW_some] <;> rfl), by repeat (first | (with_reducible first | exact HB.out | apply below_alloc | apply pw_below_drewN | apply below_drew1) | exact HB.out)⟩
                      · rw [if_neg c49] at H
                        exact absurd H (by simp)
                · replace c18 := Bool.eq_false_iff.mpr c18
                  subst c18
                  have H1 : (some false) = some r := by rw [if_neg (show ¬ (false = true) by decide)] at H; exact H
                  clear H
                  have H := H1
                  clear H1
                  obtain rfl := Option.some.inj H
                  exact absurd hr.out (by simp)
              · replace c16 := Bool.eq_false_iff.mpr c16
                subst c16
                have H1 : (some false) = some r := by rw [if_neg (show ¬ (false = true) by decide)] at H; exact H
                clear H
                have H := H1
                clear H1
                obtain rfl := Option.some.inj H
                exact absurd hr.out (by simp)
            · rw [if_neg c14] at H
              exact absurd H (by simp)
          · rw [if_neg c12] at H
            exact absurd H (by simp)
        · rw [if_neg c11] at H
          exact absurd H (by simp)
      · rw [if_neg c10] at H
        exact absurd H (by simp)
    · rw [if_neg c8] at H
      exact absurd H (by simp)

end Go.Proofs.Ytefpmpmkodogeaa.PDimsIn
