/- What is proved here: plain facts about the reference's order: it is the one order by key and place (conditions: those that each theorem names). -/
import Derived.Test.YtmgocfcbkejgdaaRankPlaceFacts
namespace Go.Proofs.Ytmgocfcbkejgdaa.RankSort
set_option linter.unusedSimpArgs false
set_option linter.unusedVariables false
open Go.Shelf Go.RowKit Go.Lib Go.Sort Go.Proofs Go.Proofs.Ytmgocfcbkejgdaa.RankBase Go.Proofs.Ytmgocfcbkejgdaa.RankMerge
open Go.Proofs.YtmgocfcbkejgdaaW.PrintWords Go.Proofs.YtmgocfcbkejgdaaW.PrintLast Go.Proofs.YtmgocfcbkejgdaaW.PrintMore
open Go.Proofs.Ytmgocfcbkejgdaa.PRankOrders
/-- by key and, of one key, by place -/
def TN (K : Nat → Int) (x y : Nat) : Prop := K x < K y ∨ (K x = K y ∧ x < y)
/-- the places below i, each once, in order -/
structure Good (K : Nat → Int) (i : Nat) (ns : List Nat) : Prop where
  perm : ns.Perm (List.range i)
  pair : ns.Pairwise (TN K)
theorem Good.nil (K : Nat → Int) : Good K 0 [] := ⟨List.Perm.refl _, List.Pairwise.nil⟩
theorem Good.length {K : Nat → Int} {i : Nat} {ns : List Nat} (h : Good K i ns) : ns.length = i := by rw [h.perm.length_eq, List.length_range]
theorem Good.lt {K : Nat → Int} {i : Nat} {ns : List Nat} (h : Good K i ns) {x : Nat} (hx : x ∈ ns) : x < i := List.mem_range.1 (h.perm.mem_iff.1 hx)
theorem Good.ins {K : Nat → Int} {i k : Nat} {ns : List Nat} (h : Good K i ns) (hk : k ≤ i) (hp : ∀ j x, j < k → ns[j]? = some x → K x ≤ K i) (hs : ∀ x, ns[k]? = some x → K i < K x) : Good K (i + 1) (ns.take k ++ [i] ++ ns.drop k) := by
  have P : ns.Pairwise (TN K) := h.pair
  have e : ns.take k ++ ns.drop k = ns := List.take_append_drop k ns
  have P2 := P
  rw [← e, List.pairwise_append] at P2
  obtain ⟨q1, q2, q3⟩ := P2
  have A : ∀ a, a ∈ ns.take k → TN K a i := fun a ha => by
    obtain ⟨j, hj, rfl⟩ := List.mem_take_iff_getElem.1 ha
    have hj2 : j < ns.length := by omega
    have l1 := h.lt (List.getElem_mem hj2)
    have l2 := hp j _ (by omega) (List.getElem?_eq_getElem hj2)
    unfold TN; omega
  have B : ∀ b, b ∈ ns.drop k → TN K i b := fun b hb => by
    obtain ⟨j, hj, rfl⟩ := List.mem_drop_iff_getElem.1 hb
    have hk2 : k < ns.length := by omega
    have l1 := hs _ (List.getElem?_eq_getElem hk2)
    by_cases c : j = 0
    · subst c; exact .inl l1
    · have := List.pairwise_iff_getElem.1 P k (k + j) hk2 (by omega) (by omega)
      unfold TN at this ⊢; omega
  constructor
  · have p1 : (ns.take k ++ [i] ++ ns.drop k).Perm ((ns.take k ++ ns.drop k) ++ [i]) := by
      rw [List.append_assoc, List.append_assoc]
      exact List.Perm.append_left _ List.perm_append_comm
    rw [e] at p1
    rw [List.range_succ]
    exact p1.trans (List.Perm.append_right _ h.perm)
  · rw [List.pairwise_append, List.pairwise_append]
    refine ⟨⟨q1, List.pairwise_singleton _ _, fun a ha b hb => by rw [List.mem_singleton] at hb; subst hb; exact A a ha⟩, q2, fun a ha b hb => ?_⟩
    rcases List.mem_append.1 ha with ha | ha
    · exact q3 a ha b hb
    · rw [List.mem_singleton] at ha; subst ha; exact B b hb
theorem Good.unique {K : Nat → Int} {i : Nat} {ns ms : List Nat} (h : Good K i ns) (g : Good K i ms) : ns = ms :=
  List.Perm.eq_of_pairwise (le := TN K) (fun a b _ _ h1 h2 => by unfold TN at h1 h2; omega) h.pair g.pair (h.perm.trans g.perm.symm)
/-- what the sort has left, as a list -/
theorem arr_good {C : Nat → Nat → Int} {m : Nat} {d : Array (Fin (m + 1))} (h : PermIn 0 (m + 1) (idArr m) d ∧ SortedIn (T (keyC C m) Fin.val) 0 (m + 1) d) :
    Good (fun i => keyI (C i 0) (C i 1)) (m + 1) ((List.range' 0 (m + 1 - 0)).map (fun i => (d[i]!).val)) := by
  obtain ⟨p, s⟩ := h
  have hs : d.size = m + 1 := by rw [p.1, idArr_size]
  constructor
  · have q := p.2.2
    rw [extract_toList d 0 (m + 1) (by omega), extract_toList (idArr m) 0 (m + 1) (by rw [idArr_size]; omega)] at q
    have q2 := q.map Fin.val
    rw [List.map_map, List.map_map] at q2
    have e : (List.range' 0 (m + 1 - 0)).map (Fin.val ∘ fun i => (idArr m)[i]!) = List.range (m + 1) := by
      apply List.ext_getElem
      · simp
      · intro k h1 h2
        rw [List.getElem_map, List.getElem_range', List.getElem_range]
        rw [List.length_range] at h2
        show ((idArr m)[0 + 1 * k]!).val = k
        rw [idArr_get m (0 + 1 * k) (by omega)]
        show 0 + 1 * k = k
        omega
    rw [e] at q2
    exact q2
  · rw [List.pairwise_iff_getElem]
    intro i j hi hj hij
    rw [List.length_map, List.length_range'] at hi hj
    rw [List.getElem_map, List.getElem_map, List.getElem_range', List.getElem_range']
    have so := T_false.1 (s (0 + 1 * i) (0 + 1 * j) (by omega) (by omega) (by omega))
    have ne := distinct p (i := 0 + 1 * i) (j := 0 + 1 * j) (by omega) (by omega)
    have ne2 : (d[0 + 1 * i]!).val ≠ (d[0 + 1 * j]!).val := fun e => ne (Fin.ext e)
    unfold keyC at so
    show (keyI (C (d[0 + 1 * i]!).val 0) (C (d[0 + 1 * i]!).val 1) < keyI (C (d[0 + 1 * j]!).val 0) (C (d[0 + 1 * j]!).val 1)) ∨ (keyI (C (d[0 + 1 * i]!).val 0) (C (d[0 + 1 * i]!).val 1) = keyI (C (d[0 + 1 * j]!).val 0) (C (d[0 + 1 * j]!).val 1) ∧ (d[0 + 1 * i]!).val < (d[0 + 1 * j]!).val)
    omega
/-- the reference's comparison, of two means -/
theorem mean_lt64 {n s : Int} (hn : n.natAbs < 2 ^ 64) (hs : s.natAbs < 2 ^ 64) {r : Nat} (h : MeanIs n s r) : r < 2 ^ 64 := by
  rcases RankPlain.mean_cases s n hs hn with ⟨h1, h2, h3⟩ | ⟨_, q, h3, h4, h5⟩
  · exact (h.2 h3).2
  · rw [h.1 q h3]; exact h5
theorem ref_le {n s n' s' : Int} (hn : n.natAbs < 2 ^ 64) (hs : s.natAbs < 2 ^ 64) (hn' : n'.natAbs < 2 ^ 64) (hs' : s'.natAbs < 2 ^ 64) {r r' : Nat} (h : MeanIs n s r) (h' : MeanIs n' s' r') :
    decide (refI r r' ≤ 0) = decide (keyI n s ≤ keyI n' s') := by
  rw [refI_eq r r' (mean_lt64 hn hs h) (mean_lt64 hn' hs' h'), key_of h, key_of h', decide_eq_decide]
  unfold cmpI
  by_cases c : keyI n s < keyI n' s'
  · rw [if_pos c]; omega
  · rw [if_neg c]; split <;> omega
end Go.Proofs.Ytmgocfcbkejgdaa.RankSort
