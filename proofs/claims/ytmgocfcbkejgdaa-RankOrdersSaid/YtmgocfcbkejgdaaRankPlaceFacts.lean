/- What is proved here: plain facts about the places and about the worlds that the law RankPlaces goes through (conditions: those that each theorem names). -/
import Derived.Test.YtmgocfcbkejgdaaRankRows
namespace Go.Proofs.Ytmgocfcbkejgdaa.RankSort
set_option linter.unusedSimpArgs false
set_option linter.unusedVariables false
open Go.Shelf Go.RowKit Go.Lib Go.Sort Go.Proofs Go.Proofs.Ytmgocfcbkejgdaa.RankBase Go.Proofs.Ytmgocfcbkejgdaa.RankMerge
open Go.Proofs.YtmgocfcbkejgdaaW.PrintWords Go.Proofs.YtmgocfcbkejgdaaW.PrintLast Go.Proofs.YtmgocfcbkejgdaaW.PrintMore
open Go.Proofs.Ytmgocfcbkejgdaa.PRankOrders
theorem low_tr {w w1 : World} {q : Nat} (h : Below (w.drewN q).heap.size (w.drewN q) w1) : Below w.heap.size w w1 := ⟨h.os, h.tape, h.output, h.size, h.block⟩
theorem keepb {w w' : World} {p : Addr} {v : Value} (hB : Below w.heap.size w w') (h : w.cell? p = some v) : w'.cell? p = some v := (hB.cell (World.block_lt_of_cell? _ _ h)).trans h
theorem below_drawn {a b : World} (h : Drawn0 a b) : Below a.heap.size a b := by obtain ⟨n, rfl⟩ := h; exact ⟨rfl, rfl, rfl, Nat.le_refl _, fun _ _ => rfl⟩
/-- a row of numbers of the call's own, opened -/
theorem open_ints {w : World} {base : Nat} {ok : Nat → Prop} {v : Value} {xs : List Int} (h : Kd.R (Kd.int .i64) 3 w base ok v xs) (h0 : 0 < xs.length) :
    ∃ g cap, v = .slice (some ⟨g, 0, none⟩) xs.length cap ∧ xs.length ≤ cap ∧ base ≤ g ∧ g < w.heap.size ∧ ∀ j x, xs[j]? = some x → w.cell? ⟨g, j, none⟩ = some (.int .i64 x) ∧ w.frozen? ⟨g, j, none⟩ = false := by
  obtain ⟨_, inner, ho, hr⟩ := h
  have ho' := ho
  obtain ⟨hl, hd⟩ := ho
  rcases hd with ⟨_, h1⟩ | ⟨g, cap, cur, rfl, hb, hg, hn, hc, hs, ht⟩
  · omega
  · refine ⟨g, cap, rfl, hn, hb, (Array.getElem?_eq_some_iff.1 hg).1, fun j x hj => ?_⟩
    have hp := hr.2 j x hj
    have hjl : j < xs.length := by
      apply Decidable.byContradiction; intro c
      rw [List.getElem?_eq_none (by omega)] at hj; cases hj
    constructor
    · have hlen : inner.length = xs.length := by simpa [Kd.int, Kd.scalar] using hl
      have e : inner[j]? = some (.int .i64 x) := by
        have : (inner.drop (j * 1)).take 1 = [.int .i64 x] := hp
        rw [Nat.mul_one] at this
        have h2 := congrArg (fun l => l[0]?) this
        simpa using h2
      have := ho'.cells (g := g) rfl j _ e
      by_cases hj0 : j = 0
      · subst hj0; simpa [Addr.add] using this
      · simpa [Addr.add, hj0] using this
    · simp [World.frozen?, hg]
/-- the cells of the row that came in -/
theorem cells_of {l : List S23} {A : Option Addr} {w : World} (hC : Kd.C k23 w A l.length l) (h0 : 0 < l.length) :
    ∃ ad, A = some ad ∧ ∀ i, i < l.length → w.cell? (ad.add (i * 4)) = some (.int .i64 (cellN l i 0)) ∧ w.cell? ⟨(ad.add (i * 4)).block, (ad.add (i * 4)).off + 1, none⟩ = some (.int .i64 (cellN l i 1)) ∧
      w.cell? ⟨(ad.add (i * 4)).block, (ad.add (i * 4)).off + 2, none⟩ = some (.int .i64 (cellN l i 2)) ∧ w.cell? ⟨(ad.add (i * 4)).block, (ad.add (i * 4)).off + 3, none⟩ = some (.int .i64 (cellN l i 3)) := by
  obtain ⟨ad, rfl, _⟩ := at_T23 hC 0 (by omega) (by omega)
  refine ⟨ad, rfl, fun i hi => ?_⟩
  obtain ⟨ad', e, h1, h2, h3, h4⟩ := at_T23 hC (i : Int) (by omega) (by omega)
  obtain rfl : ad = ad' := Option.some.inj e
  rw [Int.toNat_natCast] at h1 h2 h3 h4
  exact ⟨h1, h2, h3, h4⟩

/-! ### the places, each once -/
theorem id_nodup (m : Nat) : List.Pairwise (· ≠ ·) ((List.range' 0 (m + 1 - 0)).map (fun i => (idArr m)[i]!)) := by
  rw [List.pairwise_iff_getElem]
  intro i j hi hj hij
  rw [List.length_map, List.length_range'] at hi hj
  rw [List.getElem_map, List.getElem_map, List.getElem_range', List.getElem_range', idArr_get m (0 + 1 * i) (by omega), idArr_get m (0 + 1 * j) (by omega)]
  intro e
  have := congrArg Fin.val e
  simp at this
  omega
theorem distinct {m : Nat} {d : Array (Fin (m + 1))} (p : PermIn 0 (m + 1) (idArr m) d) {i j : Nat} (hij : i < j) (hj : j < m + 1) : d[i]! ≠ d[j]! := by
  have hs : d.size = m + 1 := by rw [p.1, idArr_size]
  have q := p.2.2
  rw [extract_toList d 0 (m + 1) (by omega), extract_toList (idArr m) 0 (m + 1) (by rw [idArr_size]; omega)] at q
  have n := q.nodup_iff.2 (id_nodup m)
  have := List.pairwise_iff_getElem.1 n i j (by simp; omega) (by simp; omega) hij
  simpa using this
/-- what stands in 'seen' at p after i rounds -/
def seenF {m : Nat} (d : Array (Fin (m + 1))) (i p : Nat) : Int := if (List.range i).any (fun j => (d[j]!).val == p) then 1 else 0
theorem seenF_zero {m : Nat} (d : Array (Fin (m + 1))) (p : Nat) : seenF d 0 p = 0 := rfl
theorem seenF_new {m : Nat} {d : Array (Fin (m + 1))} (h : PermIn 0 (m + 1) (idArr m) d) {i : Nat} (hi : i < m + 1) : seenF d i (d[i]!).val = 0 := by
  unfold seenF
  rw [if_neg]
  intro c
  rw [List.any_eq_true] at c
  obtain ⟨j, hj, e⟩ := c
  have hj' : j < i := List.mem_range.1 hj
  exact distinct h hj' hi (Fin.ext (by simpa using e))
theorem seenF_succ {m : Nat} (d : Array (Fin (m + 1))) (i p : Nat) : seenF d (i + 1) p = if p = (d[i]!).val then 1 else seenF d i p := by
  unfold seenF
  rw [List.range_succ, List.any_append]
  by_cases c : p = (d[i]!).val
  · rw [if_pos c]; simp [c]
  · rw [if_neg c]
    have : ((d[i]!).val == p) = false := by simp; omega
    simp [this]
/-- what holds at the head of round i -/
structure PF (m : Nat) (l : List S23) (ad : Addr) (d : Array (Fin (m + 1))) (w : World) (g s i : Nat) (wr : World) : Prop where
  below : Below w.heap.size w wr
  new : g < wr.heap.size ∧ s < wr.heap.size ∧ g ≠ s ∧ w.heap.size ≤ s
  ord : ∀ j, j < m + 1 → wr.cell? ⟨g, j, none⟩ = some (.int .i64 ((d[j]!).val : Int))
  seen : ∀ p, p < m + 1 → wr.cell? ⟨s, p, none⟩ = some (.int .i64 (seenF d i p)) ∧ wr.frozen? ⟨s, p, none⟩ = false
  row : ∀ i, i < m + 1 → wr.cell? (ad.add (i * 4)) = some (.int .i64 (cellN l i 0)) ∧ wr.cell? ⟨(ad.add (i * 4)).block, (ad.add (i * 4)).off + 1, none⟩ = some (.int .i64 (cellN l i 1)) ∧
      wr.cell? ⟨(ad.add (i * 4)).block, (ad.add (i * 4)).off + 2, none⟩ = some (.int .i64 (cellN l i 2)) ∧ wr.cell? ⟨(ad.add (i * 4)).block, (ad.add (i * 4)).off + 3, none⟩ = some (.int .i64 (cellN l i 3))
  old : ∀ i, i < m + 1 → (ad.add (i * 4)).block < w.heap.size
theorem PF.grown {m : Nat} {l : List S23} {ad : Addr} {d : Array (Fin (m + 1))} {w : World} {g s i : Nat} {wr w1 : World} (h : PF m l ad d w g s i wr) (b : Below wr.heap.size wr w1) : PF m l ad d w g s i w1 :=
  ⟨h.below.trans (b.mono h.below.size), ⟨Nat.lt_of_lt_of_le h.new.1 b.size, Nat.lt_of_lt_of_le h.new.2.1 b.size, h.new.2.2⟩, fun j hj => keepb b (h.ord j hj),
    fun p hp => ⟨keepb b (h.seen p hp).1, (b.frozen h.new.2.1).trans (h.seen p hp).2⟩,
    fun i hi => ⟨keepb b (h.row i hi).1, keepb b (h.row i hi).2.1, keepb b (h.row i hi).2.2.1, keepb b (h.row i hi).2.2.2⟩, h.old⟩
theorem PF.store {m : Nat} {l : List S23} {ad : Addr} {d : Array (Fin (m + 1))} {w : World} {g s i : Nat} {wr : World} (h : PF m l ad d w g s i wr) (hi : i < m + 1) :
    PF m l ad d w g s (i + 1) (wr.setCell ⟨s, (d[i]!).val, none⟩ (.int .i64 1)) := by
  obtain ⟨n1, n2, n3, n4⟩ := h.new
  have far : ∀ (p : Addr) (v : Value), p.block ≠ s → wr.cell? p = some v → (wr.setCell ⟨s, (d[i]!).val, none⟩ (.int .i64 1)).cell? p = some v := fun p v hp hv => by
    rw [World.cell?_setCell_other _ _ _ _ (by intro e; exact hp (by rw [← e]))]; exact hv
  refine ⟨h.below.setCell n4 _, ⟨by simpa using n1, by simpa using n2, n3, n4⟩, fun j hj => far _ _ n3 (h.ord j hj), fun p hp => ⟨?_, ?_⟩, fun k hk => ?_, h.old⟩
  · rw [seenF_succ]
    by_cases c : p = (d[i]!).val
    · rw [if_pos c, c]
      exact World.cell?_setCell_same' _ _ _ (by rw [(h.seen _ (d[i]!).isLt).1]; rfl)
    · rw [if_neg c, World.cell?_setCell_other _ _ _ _ (by intro e; simp only [Addr.mk.injEq] at e; exact c e.2.1.symm)]
      exact (h.seen p hp).1
  · rw [World.frozen?_setCell]; exact (h.seen p hp).2
  · have o := h.old k hk
    obtain ⟨r1, r2, r3, r4⟩ := h.row k hk
    have ne : (ad.add (k * 4)).block ≠ s := by omega
    exact ⟨far _ _ ne r1, far _ _ ne r2, far _ _ ne r3, far _ _ ne r4⟩
end Go.Proofs.Ytmgocfcbkejgdaa.RankSort
