/- What is proved here: plain facts about the merging of two sorted runs by rotation (conditions: those that each theorem names). -/
import Derived.Sort.LotA
namespace Go.Proofs.Ytmgocfcbkejgdaa.RankMerge
open Go.Sort
variable {α : Type} [Inhabited α] {lt : α → α → Bool}
set_option linter.unusedVariables false
/-- what stands at k when the runs [a, m) and [m, b) have changed places -/
def tgt (d : Array α) (a m b k : Nat) : α := if a ≤ k ∧ k < a + (b - m) then d[k + (m - a)]! else if a + (b - m) ≤ k ∧ k < b then d[k - (b - m)]! else d[k]!

/-- the runs [a, m) and [m, b) have changed places -/
structure Rot (d : Array α) (a m b : Nat) (d' : Array α) : Prop where
  perm : PermIn a b d d'
  get : ∀ k, d'[k]! = tgt d a m b k

theorem Rot.size {d d' : Array α} {a m b : Nat} (h : Rot d a m b d') : d'.size = d.size := h.perm.1

/-- i places of [a, ..) and [b, ..) have been exchanged, of n -/
structure Sr (d : Array α) (a b n i : Nat) (d' : Array α) : Prop where
  perm : PermIn a (b + n) d d'
  get : ∀ k, d'[k]! = if a ≤ k ∧ k < a + i then d[k + (b - a)]! else if b ≤ k ∧ k < b + i then d[k - (b - a)]! else d[k]!

theorem Sr.start (d : Array α) (a b n : Nat) : Sr d a b n 0 d :=
  ⟨permIn_refl _ _ _, fun k => by rw [if_neg (by omega), if_neg (by omega)]⟩

theorem Sr.step {d d' : Array α} {a b n i : Nat} (h : Sr d a b n i d') (hi : i < n) (hab : a + n ≤ b) (hb : b + n ≤ d.size) : Sr d a b n (i + 1) (swp d' (a + i) (b + i)) := by
  have hs : d'.size = d.size := h.perm.1
  refine ⟨permIn_trans _ _ _ _ _ h.perm (swp_permIn d' a (b + n) (a + i) (b + i) (by omega) (by omega) (by omega) (by omega) (by omega)), fun k => ?_⟩
  rw [swp_get d' (by omega) (by omega)]
  by_cases c1 : k = b + i
  · subst c1
    rw [if_pos rfl, h.get, if_neg (by omega), if_neg (by omega), if_neg (by omega), if_pos (by omega), show b + i - (b - a) = a + i from by omega]
  · rw [if_neg c1]
    by_cases c2 : k = a + i
    · subst c2
      rw [if_pos rfl, h.get, if_neg (by omega), if_neg (by omega), if_pos (by omega), show a + i + (b - a) = b + i from by omega]
    · rw [if_neg c2, h.get]
      by_cases c3 : a ≤ k ∧ k < a + i
      · rw [if_pos c3, if_pos (by omega)]
      · rw [if_neg c3, if_neg (by omega : ¬ (a ≤ k ∧ k < a + (i + 1)))]
        by_cases c4 : b ≤ k ∧ k < b + i
        · rw [if_pos c4, if_pos (by omega)]
        · rw [if_neg c4, if_neg (by omega)]

/-- what is left to rotate: [m - i, m) with [m, m + j); the rest is done -/
structure Ro (d : Array α) (a m b i j : Nat) (d' : Array α) : Prop where
  perm : PermIn a b d d'
  hi : a + i ≤ m
  him : i ≤ m
  hj : m + j ≤ b
  get : ∀ k, tgt d' (m - i) m (m + j) k = tgt d a m b k

theorem Ro.start {d : Array α} {a m b : Nat} (h1 : a ≤ m) (h2 : m ≤ b) : Ro d a m b (m - a) (b - m) d :=
  ⟨permIn_refl _ _ _, by omega, by omega, by omega, fun k => by rw [show m - (m - a) = a from by omega, show m + (b - m) = b from by omega]⟩

theorem Ro.left {d d' e : Array α} {a m b i j : Nat} (h : Ro d a m b i j d') (hij : j < i) (hb : b ≤ d.size) (s : Sr d' (m - i) m j j e) : Ro d a m b (i - j) j e := by
  have hs : d'.size = d.size := h.perm.1
  have q1 := h.hi; have q2 := h.him; have q3 := h.hj
  refine ⟨permIn_trans _ _ _ _ _ h.perm (permIn_mono _ _ (m - i) (m + j) a b (by omega) (by omega) (by omega) s.perm), by omega, by omega, by omega, fun k => ?_⟩
  rw [← h.get k]
  unfold tgt
  have g := s.get
  by_cases c1 : m - (i - j) ≤ k ∧ k < m - (i - j) + (m + j - m)
  · rw [if_pos c1, g, if_neg (by omega), if_pos (by omega), if_neg (by omega), if_pos (by omega)]
    congr 1; omega
  · rw [if_neg c1]
    by_cases c2 : m - (i - j) + (m + j - m) ≤ k ∧ k < m + j
    · rw [if_pos c2, g, if_neg (by omega), if_neg (by omega), if_neg (by omega), if_pos (by omega)]
    · rw [if_neg c2, g]
      by_cases c3 : m - i ≤ k ∧ k < m - i + j
      · rw [if_pos c3, if_pos (by omega)]
      · rw [if_neg c3, if_neg (by omega), if_neg (by omega), if_neg (by omega)]

theorem Ro.right {d d' e : Array α} {a m b i j : Nat} (h : Ro d a m b i j d') (hij : i < j) (hb : b ≤ d.size) (s : Sr d' (m - i) (m + j - i) i i e) : Ro d a m b i (j - i) e := by
  have hs : d'.size = d.size := h.perm.1
  have q1 := h.hi; have q2 := h.him; have q3 := h.hj
  refine ⟨permIn_trans _ _ _ _ _ h.perm (permIn_mono _ _ (m - i) (m + j - i + i) a b (by omega) (by omega) (by omega) s.perm), by omega, by omega, by omega, fun k => ?_⟩
  rw [← h.get k]
  unfold tgt
  have g := s.get
  by_cases c1 : m - i ≤ k ∧ k < m - i + (m + (j - i) - m)
  · rw [if_pos c1, g, if_pos (by omega : m - i ≤ k ∧ k < m - i + (m + j - m))]
    by_cases c2 : k + (m - (m - i)) < m - i + i
    · rw [if_pos (by omega)]; omega
    · rw [if_neg (by omega), if_neg (by omega)]
  · rw [if_neg c1]
    by_cases c2 : m - i + (m + (j - i) - m) ≤ k ∧ k < m + (j - i)
    · rw [if_pos c2, g, if_pos (by omega), if_pos (by omega)]
      congr 1; omega
    · rw [if_neg c2, g]
      by_cases c3 : m + j - i ≤ k ∧ k < m + j - i + i
      · rw [if_neg (by omega), if_pos c3, if_neg (by omega), if_pos (by omega)]
        congr 1; omega
      · rw [if_neg (by omega), if_neg c3, if_neg (by omega), if_neg (by omega)]

theorem Ro.done {d d' e : Array α} {a m b i : Nat} (h : Ro d a m b i i d') (hb : b ≤ d.size) (s : Sr d' (m - i) m i i e) : Rot d a m b e := by
  have hs : d'.size = d.size := h.perm.1
  have q1 := h.hi; have q2 := h.him; have q3 := h.hj
  refine ⟨permIn_trans _ _ _ _ _ h.perm (permIn_mono _ _ (m - i) (m + i) a b (by omega) (by omega) (by omega) s.perm), fun k => ?_⟩
  rw [← h.get k, s.get]
  unfold tgt
  rw [show m + i - m = i from by omega, show m - (m - i) = i from by omega]
  by_cases c1 : m - i ≤ k ∧ k < m - i + i
  · rw [if_pos c1, if_pos c1]
  · rw [if_neg c1, if_neg c1, show m - i + i = m from by omega]

/-- one element, at a, is moved up: so far to k -/
theorem up_start (d : Array α) (a : Nat) : Rot d a (a + 1) (a + 1) d := by
  refine ⟨permIn_refl _ _ _, fun k => ?_⟩
  unfold tgt
  rw [if_neg (by omega)]
  by_cases c : a + (a + 1 - (a + 1)) ≤ k ∧ k < a + 1
  · rw [if_pos c, show k - (a + 1 - (a + 1)) = k from by omega]
  · rw [if_neg c]
theorem up_step {d d' : Array α} {a k : Nat} (h : Rot d a (a + 1) (k + 1) d') (hk : a ≤ k) (hb : k + 1 < d.size) : Rot d a (a + 1) (k + 2) (swp d' k (k + 1)) := by
  have hs := h.size
  refine ⟨permIn_trans _ _ _ _ _ (permIn_mono _ _ a (k + 1) a (k + 2) (by omega) (by omega) (by omega) h.perm) (swp_permIn d' a (k + 2) k (k + 1) (by omega) (by omega) (by omega) (by omega) (by omega)), fun x => ?_⟩
  rw [swp_get d' (by omega) (by omega), h.get, h.get, h.get]
  unfold tgt
  by_cases c1 : x = k + 1
  · subst c1
    rw [if_pos rfl, if_neg (by omega), if_pos (by omega), if_neg (by omega), if_pos (by omega)]
    congr 1; omega
  · rw [if_neg c1]
    by_cases c2 : x = k
    · subst c2
      rw [if_pos rfl, if_neg (by omega), if_neg (by omega), if_pos (by omega)]
      congr 1; omega
    · rw [if_neg c2]
      by_cases c3 : a ≤ x ∧ x < k
      · rw [if_pos (by omega), if_pos (by omega)]
      · rw [if_neg (by omega), if_neg (by omega), if_neg (by omega), if_neg (by omega)]

/-- one element, at m, is moved down: so far to k -/
theorem down_start (d : Array α) (m : Nat) : Rot d m m (m + 1) d := by
  refine ⟨permIn_refl _ _ _, fun k => ?_⟩
  unfold tgt
  by_cases c : m ≤ k ∧ k < m + (m + 1 - m)
  · rw [if_pos c]; congr 1; omega
  · rw [if_neg c, if_neg (by omega)]
theorem down_step {d d' : Array α} {k m : Nat} (h : Rot d (k + 1) m (m + 1) d') (hk : k < m) (hb : m < d.size) : Rot d k m (m + 1) (swp d' (k + 1) k) := by
  have hs := h.size
  refine ⟨permIn_trans _ _ _ _ _ (permIn_mono _ _ (k + 1) (m + 1) k (m + 1) (by omega) (by omega) (by omega) h.perm) (swp_permIn d' k (m + 1) (k + 1) k (by omega) (by omega) (by omega) (by omega) (by omega)), fun x => ?_⟩
  rw [swp_get d' (by omega) (by omega), h.get, h.get, h.get]
  unfold tgt
  by_cases c1 : x = k
  · subst c1
    rw [if_pos rfl, if_pos (by omega), if_pos (by omega)]
    congr 1; omega
  · rw [if_neg c1]
    by_cases c2 : x = k + 1
    · subst c2
      rw [if_pos rfl, if_neg (by omega), if_neg (by omega), if_neg (by omega), if_pos (by omega)]
      congr 1; omega
    · rw [if_neg c2]
      by_cases c3 : k + 2 ≤ x ∧ x < m + 1
      · rw [if_neg (by omega), if_pos (by omega), if_neg (by omega), if_pos (by omega)]
      · rw [if_neg (by omega), if_neg (by omega), if_neg (by omega), if_neg (by omega)]

/-! ### merging -/
/-- two sorted runs side by side, and what the comparison says of a right one with a left one is what the order says -/
structure Runs (lt le : α → α → Bool) (a m b : Nat) (d : Array α) : Prop where
  left : SortedIn lt a m d
  right : SortedIn lt m b d
  agree : ∀ x y, a ≤ x → x < m → m ≤ y → y < b → le d[y]! d[x]! = lt d[y]! d[x]!

theorem sorted_self (hS : SWO lt) {a b : Nat} {d : Array α} (h : SortedIn lt a b d) {i j : Nat} (hi : a ≤ i) (hij : i ≤ j) (hj : j < b) : lt d[j]! d[i]! = false := by
  by_cases c : i = j
  · subst c; exact hS.irrefl _
  · exact h i j hi (by omega) hj

/-- where the one on the left goes: the search -/
structure Up (lt : α → α → Bool) (a m b i j : Nat) (d : Array α) : Prop where
  him : m ≤ i
  hij : i ≤ j
  hjb : j ≤ b
  lo : ∀ x, m ≤ x → x < i → lt d[x]! d[a]! = true
  hi : ∀ x, j ≤ x → x < b → lt d[x]! d[a]! = false
theorem Up.start (lt : α → α → Bool) (d : Array α) {a m b : Nat} (h : m ≤ b) : Up lt a m b m b d := ⟨by omega, by omega, by omega, fun x h1 h2 => by omega, fun x h1 h2 => by omega⟩
theorem Up.less (hS : SWO lt) {a m b i j h : Nat} {d : Array α} (u : Up lt a m b i j d) (s : SortedIn lt m b d) (h1 : i ≤ h) (h2 : h < j) (c : lt d[h]! d[a]! = true) : Up lt a m b (h + 1) j d := by
  have q1 := u.him; have q2 := u.hij; have q3 := u.hjb
  refine ⟨by omega, by omega, u.hjb, fun x x1 x2 => ?_, u.hi⟩
  cases e : lt d[x]! d[a]! with
  | true => rfl
  | false => rw [hS.ntrans _ _ _ (sorted_self hS s x1 (by omega : x ≤ h) (by omega)) e] at c; cases c
theorem Up.not (hS : SWO lt) {a m b i j h : Nat} {d : Array α} (u : Up lt a m b i j d) (s : SortedIn lt m b d) (h1 : i ≤ h) (h2 : h < j) (c : lt d[h]! d[a]! = false) : Up lt a m b i h d := by
  have q1 := u.him; have q2 := u.hij; have q3 := u.hjb
  exact ⟨u.him, by omega, by omega, u.lo, fun x x1 x2 => hS.ntrans _ _ _ (sorted_self hS s (by omega) x1 x2) c⟩
theorem Up.sorted (hS : SWO lt) {a b i : Nat} {d e : Array α} (u : Up lt a (a + 1) b i i d) (s : SortedIn lt (a + 1) b d) (r : Rot d a (a + 1) i e) : SortedIn lt a b e := by
  have q1 := u.him; have q2 := u.hij; have q3 := u.hjb
  intro x y hx hxy hy
  rw [r.get, r.get]
  unfold tgt
  by_cases c1 : y < i - 1
  · rw [if_pos (by omega), if_pos (by omega)]
    exact s _ _ (by omega) (by omega) (by omega)
  · by_cases c2 : y = i - 1
    · rw [if_neg (by omega), if_pos (by omega), if_pos (by omega), show y - (i - (a + 1)) = a from by omega]
      exact hS.asymmA (u.lo _ (by omega) (by omega))
    · rw [if_neg (by omega), if_neg (by omega)]
      by_cases c3 : x < i - 1
      · rw [if_pos (by omega)]; exact s _ _ (by omega) (by omega) (by omega)
      · by_cases c4 : x = i - 1
        · rw [if_neg (by omega), if_pos (by omega), show x - (i - (a + 1)) = a from by omega]
          exact u.hi _ (by omega) (by omega)
        · rw [if_neg (by omega), if_neg (by omega)]
          exact s _ _ (by omega) (by omega) (by omega)

/-- where the one on the right goes -/
structure Dn (lt : α → α → Bool) (a m i j : Nat) (d : Array α) : Prop where
  him : a ≤ i
  hij : i ≤ j
  hjb : j ≤ m
  lo : ∀ x, a ≤ x → x < i → lt d[m]! d[x]! = false
  hi : ∀ x, j ≤ x → x < m → lt d[m]! d[x]! = true
theorem Dn.start (lt : α → α → Bool) (d : Array α) {a m : Nat} (h : a ≤ m) : Dn lt a m a m d := ⟨by omega, by omega, by omega, fun x h1 h2 => by omega, fun x h1 h2 => by omega⟩
theorem Dn.not (hS : SWO lt) {a m i j h : Nat} {d : Array α} (u : Dn lt a m i j d) (s : SortedIn lt a m d) (h1 : i ≤ h) (h2 : h < j) (c : lt d[m]! d[h]! = false) : Dn lt a m (h + 1) j d := by
  have q1 := u.him; have q2 := u.hij; have q3 := u.hjb
  exact ⟨by omega, by omega, u.hjb, fun x x1 x2 => hS.ntrans _ _ _ c (sorted_self hS s x1 (by omega) (by omega)), u.hi⟩
theorem Dn.less (hS : SWO lt) {a m i j h : Nat} {d : Array α} (u : Dn lt a m i j d) (s : SortedIn lt a m d) (h1 : i ≤ h) (h2 : h < j) (c : lt d[m]! d[h]! = true) : Dn lt a m i h d := by
  have q1 := u.him; have q2 := u.hij; have q3 := u.hjb
  refine ⟨u.him, by omega, by omega, u.lo, fun x x1 x2 => ?_⟩
  cases e : lt d[m]! d[x]! with
  | true => rfl
  | false => rw [hS.ntrans _ _ _ e (sorted_self hS s (by omega : a ≤ h) x1 x2)] at c; cases c
theorem Dn.sorted (hS : SWO lt) {a m i : Nat} {d e : Array α} (u : Dn lt a m i i d) (s : SortedIn lt a m d) (r : Rot d i m (m + 1) e) : SortedIn lt a (m + 1) e := by
  have q1 := u.him; have q2 := u.hij; have q3 := u.hjb
  intro x y hx hxy hy
  rw [r.get, r.get]
  unfold tgt
  by_cases c1 : y < i
  · rw [if_neg (by omega), if_neg (by omega), if_neg (by omega), if_neg (by omega)]
    exact s _ _ (by omega) (by omega) (by omega)
  · by_cases c2 : y = i
    · rw [if_pos (by omega), if_neg (by omega), if_neg (by omega), show y + (m - i) = m from by omega]
      exact u.lo _ (by omega) (by omega)
    · rw [if_neg (by omega), if_pos (by omega)]
      by_cases c3 : x < i
      · rw [if_neg (by omega), if_neg (by omega)]; exact s _ _ (by omega) (by omega) (by omega)
      · by_cases c4 : x = i
        · rw [if_pos (by omega), show x + (m - i) = m from by omega]
          exact hS.asymmA (u.hi _ (by omega) (by omega))
        · rw [if_neg (by omega), if_pos (by omega)]
          exact s _ _ (by omega) (by omega) (by omega)

/-- the search for where to part the two runs: s0 to r0 is where it began -/
structure Mid (lt : α → α → Bool) (n s0 r0 s r : Nat) (d : Array α) : Prop where
  h0 : s0 ≤ s
  h1 : s ≤ r
  h2 : r ≤ r0
  lo : ∀ x, s0 ≤ x → x < s → lt d[n - 1 - x]! d[x]! = false
  hi : ∀ x, r ≤ x → x < r0 → lt d[n - 1 - x]! d[x]! = true
/-- where the search begins -/
structure Beg (a m b n s0 r0 : Nat) : Prop where
  ham : a < m
  hmb : m < b
  hn : n = (a + b) / 2 + m
  at0 : (m > (a + b) / 2 ∧ s0 = n - b ∧ r0 = (a + b) / 2) ∨ (m ≤ (a + b) / 2 ∧ s0 = a ∧ r0 = m)
theorem Beg.le {a m b n s0 r0 : Nat} (h : Beg a m b n s0 r0) : a ≤ s0 ∧ s0 ≤ r0 ∧ r0 ≤ m ∧ n ≤ a + b + (m - a) ∧ (∀ x, s0 ≤ x → x < r0 → m ≤ n - 1 - x ∧ n - 1 - x < b ∧ x + 1 ≤ n) := by
  have q1 := h.ham; have q2 := h.hmb; have q3 := h.hn
  rcases h.at0 with ⟨c1, c2, c3⟩ | ⟨c1, c2, c3⟩
  · refine ⟨by omega, by omega, by omega, by omega, fun x h1 h2 => ⟨by omega, by omega, by omega⟩⟩
  · refine ⟨by omega, by omega, by omega, by omega, fun x h1 h2 => ⟨by omega, by omega, by omega⟩⟩
theorem Mid.start (lt : α → α → Bool) (d : Array α) {a m b n s0 r0 : Nat} (h : Beg a m b n s0 r0) : Mid lt n s0 r0 s0 r0 d :=
  ⟨by omega, h.le.2.1, by omega, fun x h1 h2 => by omega, fun x h1 h2 => by omega⟩
theorem Mid.not (hS : SWO lt) {le : α → α → Bool} {a m b n s0 r0 s r c : Nat} {d : Array α} (B : Beg a m b n s0 r0) (R : Runs lt le a m b d) (u : Mid lt n s0 r0 s r d) (h1 : s ≤ c) (h2 : c < r) (e : lt d[n - 1 - c]! d[c]! = false) : Mid lt n s0 r0 (c + 1) r d := by
  have q1 := u.h0; have q2 := u.h1; have q3 := u.h2
  obtain ⟨b1, b2, b3, _, b4⟩ := B.le
  refine ⟨by omega, by omega, by omega, fun x x1 x2 => ?_, u.hi⟩
  obtain ⟨p1, p2, p3⟩ := b4 x x1 (by omega)
  obtain ⟨p4, p5, p6⟩ := b4 c (by omega) (by omega)
  exact hS.ntrans _ _ _ (sorted_self hS R.right p4 (by omega) p2) (hS.ntrans _ _ _ e (sorted_self hS R.left (by omega) (by omega) (by omega)))
theorem Mid.less (hS : SWO lt) {le : α → α → Bool} {a m b n s0 r0 s r c : Nat} {d : Array α} (B : Beg a m b n s0 r0) (R : Runs lt le a m b d) (u : Mid lt n s0 r0 s r d) (h1 : s ≤ c) (h2 : c < r) (e : lt d[n - 1 - c]! d[c]! = true) : Mid lt n s0 r0 s c d := by
  have q1 := u.h0; have q2 := u.h1; have q3 := u.h2
  obtain ⟨b1, b2, b3, _, b4⟩ := B.le
  refine ⟨by omega, by omega, by omega, u.lo, fun x x1 x2 => ?_⟩
  obtain ⟨p1, p2, p3⟩ := b4 x (by omega) (by omega)
  obtain ⟨p4, p5, p6⟩ := b4 c (by omega) (by omega)
  cases f : lt d[n - 1 - x]! d[x]! with
  | true => rfl
  | false =>
    rw [hS.ntrans _ _ _ (sorted_self hS R.right p1 (by omega) p5) (hS.ntrans _ _ _ f (sorted_self hS R.left (by omega) x1 (by omega)))] at e
    cases e
/-- what has been found: the runs are to be parted at st and at e -/
structure Found (lt : α → α → Bool) (a m b st e : Nat) (d : Array α) : Prop where
  ha : a ≤ st
  hm : st ≤ m
  he : m ≤ e
  hb : e ≤ b
  hmid : st + (e - m) = (a + b) / 2
  out : ∀ x y, a ≤ x → x < st → e ≤ y → y < b → lt d[y]! d[x]! = false
  inn : ∀ x y, m ≤ x → x < e → st ≤ y → y < m → lt d[y]! d[x]! = false
theorem Mid.found (hS : SWO lt) {le : α → α → Bool} {a m b n s0 r0 s : Nat} {d : Array α} (B : Beg a m b n s0 r0) (R : Runs lt le a m b d) (u : Mid lt n s0 r0 s s d) : Found lt a m b s (n - s) d := by
  have q1 := u.h0; have q3 := u.h2
  obtain ⟨b1, b2, b3, _, b4⟩ := B.le
  have g1 := B.ham; have g2 := B.hmb; have g3 := B.hn; have g4 := B.at0
  refine ⟨by omega, by omega, by omega, by omega, by omega, fun x y x1 x2 y1 y2 => ?_, fun x y x1 x2 y1 y2 => ?_⟩
  · by_cases c : s0 < s
    · have f := u.lo (s - 1) (by omega) (by omega)
      rw [show n - 1 - (s - 1) = n - s from by omega] at f
      exact hS.ntrans _ _ _ (sorted_self hS R.right (by omega) y1 y2) (hS.ntrans _ _ _ f (sorted_self hS R.left x1 (by omega) (by omega)))
    · exfalso; omega
  · by_cases c : s < r0
    · have f := u.hi s (by omega) c
      apply hS.asymmA
      cases g : lt d[x]! d[y]! with
      | true => rfl
      | false =>
        rw [hS.ntrans _ _ _ (sorted_self hS R.right x1 (by omega : x ≤ n - 1 - s) (by omega)) (hS.ntrans _ _ _ g (sorted_self hS R.left (by omega : a ≤ s) y1 y2))] at f
        cases f
    · exfalso; omega

theorem Rot.none (d : Array α) {a m b : Nat} (h1 : a ≤ m) (h2 : m ≤ b) (h : a = m ∨ m = b) : Rot d a m b d := by
  refine ⟨permIn_refl _ _ _, fun k => ?_⟩
  unfold tgt
  by_cases c : a ≤ k ∧ k < a + (b - m)
  · rw [if_pos c, show k + (m - a) = k from by omega]
  · rw [if_neg c]
    by_cases c2 : a + (b - m) ≤ k ∧ k < b
    · rw [if_pos c2, show k - (b - m) = k from by omega]
    · rw [if_neg c2]

theorem Found.low {le : α → α → Bool} {a m b st e : Nat} {d d1 : Array α} (F : Found lt a m b st e d) (R : Runs lt le a m b d) (r : Rot d st m e d1) : Runs lt le a st ((a + b) / 2) d1 := by
  have q1 := F.ha; have q2 := F.hm; have q3 := F.he; have q4 := F.hb; have q5 := F.hmid
  refine ⟨fun i j h1 h2 h3 => ?_, fun i j h1 h2 h3 => ?_, fun x y x1 x2 y1 y2 => ?_⟩ <;> rw [r.get, r.get] <;> unfold tgt
  · rw [if_neg (by omega), if_neg (by omega), if_neg (by omega), if_neg (by omega)]
    exact R.left _ _ h1 h2 (by omega)
  · rw [if_pos (by omega), if_pos (by omega)]
    exact R.right _ _ (by omega) (by omega) (by omega)
  · rw [if_pos (by omega), if_neg (by omega), if_neg (by omega)]
    exact R.agree _ _ x1 (by omega) (by omega) (by omega)
theorem Found.high {le : α → α → Bool} {a m b st e : Nat} {d d1 d2 : Array α} (F : Found lt a m b st e d) (R : Runs lt le a m b d) (r : Rot d st m e d1) (p : PermIn a ((a + b) / 2) d1 d2) : Runs lt le ((a + b) / 2) e b d2 := by
  have q1 := F.ha; have q2 := F.hm; have q3 := F.he; have q4 := F.hb; have q5 := F.hmid
  refine ⟨fun i j h1 h2 h3 => ?_, fun i j h1 h2 h3 => ?_, fun x y x1 x2 y1 y2 => ?_⟩ <;> rw [p.2.1 _ (by omega), p.2.1 _ (by omega), r.get, r.get] <;> unfold tgt
  · rw [if_neg (by omega), if_pos (by omega), if_neg (by omega), if_pos (by omega)]
    exact R.left _ _ (by omega) (by omega) (by omega)
  · rw [if_neg (by omega), if_neg (by omega), if_neg (by omega), if_neg (by omega)]
    exact R.right _ _ (by omega) (by omega) (by omega)
  · rw [if_neg (by omega), if_neg (by omega), if_neg (by omega), if_pos (by omega)]
    exact R.agree _ _ (by omega) (by omega) (by omega) (by omega)
theorem Found.cross {le : α → α → Bool} {a m b st e : Nat} {d d1 : Array α} (F : Found lt a m b st e d) (R : Runs lt le a m b d) (r : Rot d st m e d1) :
    ∀ x y, a ≤ x → x < (a + b) / 2 → (a + b) / 2 ≤ y → y < b → lt d1[y]! d1[x]! = false := by
  have q1 := F.ha; have q2 := F.hm; have q3 := F.he; have q4 := F.hb; have q5 := F.hmid
  intro x y x1 x2 y1 y2
  rw [r.get, r.get]; unfold tgt
  by_cases c : x < st
  · rw [if_neg (by omega : ¬ (st ≤ x ∧ x < st + (e - m))), if_neg (by omega : ¬ (st + (e - m) ≤ x ∧ x < e)), if_neg (by omega)]
    by_cases c2 : y < e
    · rw [if_pos (by omega)]; exact R.left _ _ x1 (by omega) (by omega)
    · rw [if_neg (by omega)]; exact F.out _ _ x1 c (by omega) y2
  · rw [if_pos (by omega : (st ≤ x ∧ x < st + (e - m))), if_neg (by omega)]
    by_cases c2 : y < e
    · rw [if_pos (by omega)]; exact F.inn _ _ (by omega) (by omega) (by omega) (by omega)
    · rw [if_neg (by omega)]; exact R.right _ _ (by omega) (by omega) (by omega)
/-- both halves done: the whole is sorted -/
theorem Found.whole {le : α → α → Bool} {a m b st e : Nat} {d d1 d2 d3 : Array α} (F : Found lt a m b st e d) (R : Runs lt le a m b d) (hb : b ≤ d.size) (r : Rot d st m e d1)
    (p : PermIn a ((a + b) / 2) d1 d2) (s : SortedIn lt a ((a + b) / 2) d2) (p2 : PermIn ((a + b) / 2) b d2 d3) (s2 : SortedIn lt ((a + b) / 2) b d3) : PermIn a b d d3 ∧ SortedIn lt a b d3 := by
  have q1 := F.ha; have q2 := F.hm; have q3 := F.he; have q4 := F.hb; have q5 := F.hmid
  have z1 : d1.size = d.size := r.size
  have z2 : d2.size = d.size := p.1.trans z1
  have X := F.cross R r
  constructor
  · exact permIn_trans _ _ _ _ _ (permIn_mono _ _ st e a b (by omega) (by omega) (by omega) r.perm)
      (permIn_trans _ _ _ _ _ (permIn_mono _ _ a ((a + b) / 2) a b (by omega) (by omega) (by omega) p) (permIn_mono _ _ ((a + b) / 2) b a b (by omega) (by omega) (by omega) p2))
  · intro i j h1 h2 h3
    by_cases c : j < (a + b) / 2
    · rw [p2.2.1 i (by omega), p2.2.1 j (by omega)]; exact s i j h1 h2 c
    · by_cases c2 : i < (a + b) / 2
      · have A : ∀ x, a ≤ x → x < (a + b) / 2 → ∀ y, (a + b) / 2 ≤ y → y < b → lt d1[y]! d2[x]! = false :=
          permIn_all d1 d2 a ((a + b) / 2) (fun u => ∀ y, (a + b) / 2 ≤ y → y < b → lt d1[y]! u = false) (by omega) p (fun x x1 x2 y y1 y2 => X x y x1 x2 y1 y2)
        have B : ∀ y, (a + b) / 2 ≤ y → y < b → lt d3[y]! d2[i]! = false :=
          permIn_all d2 d3 ((a + b) / 2) b (fun u => lt u d2[i]! = false) (by omega) p2 (fun y y1 y2 => by rw [p.2.1 y (by omega)]; exact A i h1 c2 y y1 y2)
        rw [p2.2.1 i (by omega)]
        exact B j (by omega) h3
      · exact s2 i j (by omega) h2 h3
/-- a half that is one run alone -/
theorem Runs.one {le : α → α → Bool} {a m b : Nat} {d : Array α} (R : Runs lt le a m b d) (h : ¬ (a < m ∧ m < b)) (h1 : a ≤ m) (h2 : m ≤ b) : SortedIn lt a b d := by
  by_cases c : a = m
  · subst c; exact R.right
  · have : m = b := by omega
    subst this; exact R.left
/-- the order by a key and, of one key, by the place -/
def T {β : Type} (K : β → Int) (ix : β → Nat) (x y : β) : Bool := decide (K x < K y) || (decide (K x = K y) && decide (ix x < ix y))
theorem T_true {β : Type} {K : β → Int} {ix : β → Nat} {x y : β} : T K ix x y = true ↔ K x < K y ∨ (K x = K y ∧ ix x < ix y) := by unfold T; simp
theorem T_false {β : Type} {K : β → Int} {ix : β → Nat} {x y : β} : T K ix x y = false ↔ ¬ (K x < K y ∨ (K x = K y ∧ ix x < ix y)) := by
  rw [← T_true]; cases T K ix x y <;> simp
theorem T_swo {β : Type} (K : β → Int) (ix : β → Nat) : SWO (T K ix) := {
  irrefl := fun x => T_false.2 (by omega)
  trans := fun x y z h1 h2 => T_true.2 (by have a := T_true.1 h1; have b := T_true.1 h2; omega)
  ntrans := fun x y z h1 h2 => T_false.2 (by have a := T_false.1 h1; have b := T_false.1 h2; omega) }
theorem T_agree {β : Type} {K : β → Int} {ix : β → Nat} {x y : β} (h : ix x < ix y) : T K ix y x = decide (K y < K x) := by
  unfold T
  rw [decide_eq_false (show ¬ ix y < ix x by omega), Bool.and_false, Bool.or_false]

variable {K : α → Int} {ix : α → Nat} {lc : α → α → Bool}

/-! ### the insertion sort of a row in which the places rise -/
theorem insInner_perm (a b : Nat) : ∀ (j : Nat) (d : Array α), a ≤ j → j < b → b ≤ d.size → PermIn a b d (insInner lt a j d)
  | 0, d, _, _, _ => by unfold insInner; exact permIn_refl d a b
  | j + 1, d, haj, hji, hb => by
    unfold insInner
    split
    · rename_i hc
      simp only [Bool.and_eq_true, decide_eq_true_eq] at hc
      exact permIn_trans _ _ _ a b (swp_permIn d a b (j + 1) j haj (by omega) (by omega) (by omega) hb) (insInner_perm a b j _ (by omega) (by omega) (by rw [swp_size]; exact hb))
    · exact permIn_refl d a b
theorem insInner_agree (hc : ∀ x y, lc x y = decide (K x < K y)) (a : Nat) : ∀ (j : Nat) (d : Array α), j < d.size → (∀ i, a ≤ i → i < j → ix d[i]! < ix d[j]!) → insInner lc a j d = insInner (T K ix) a j d
  | 0, d, _, _ => by unfold insInner; rfl
  | j + 1, d, hj, h => by
    unfold insInner
    by_cases c : a < j + 1
    · have e : lc d[j + 1]! d[j]! = T K ix d[j + 1]! d[j]! := by rw [T_agree (h j (by omega) (by omega)), hc]
      rw [e]
      split
      · refine insInner_agree hc a j _ (by rw [swp_size]; omega) (fun i h1 h2 => ?_)
        rw [swp_get d hj (by omega), swp_get d hj (by omega), if_neg (by omega), if_neg (by omega), if_pos rfl]
        exact h i h1 (by omega)
      · rfl
    · rw [if_neg (by simp; omega), if_neg (by simp; omega)]
theorem insOuter_agree (hc : ∀ x y, lc x y = decide (K x < K y)) (a b : Nat) : ∀ (n i : Nat) (d : Array α), b - i = n → a < i → b ≤ d.size → (∀ q, i ≤ q → q < b → ∀ p, a ≤ p → p < q → ix d[p]! < ix d[q]!) → insOuter lc a b i d = insOuter (T K ix) a b i d
  | 0, i, d, hn, ha, hb, h => by
    rw [insOuter, if_neg (by omega), insOuter, if_neg (by omega)]
  | n + 1, i, d, hn, ha, hb, h => by
    have hlt : i < b := by omega
    rw [insOuter, if_pos hlt, insOuter.eq_1 (T K ix), if_pos hlt, insInner_agree hc a i d (by omega) (fun p h1 h2 => h i (Nat.le_refl _) hlt p h1 h2)]
    have P := insInner_perm (lt := T K ix) a (i + 1) i d (by omega) (by omega) (by omega)
    refine insOuter_agree hc a b n (i + 1) _ (by omega) (by omega) (by rw [P.1]; exact hb) (fun q q1 q2 p p1 p2 => ?_)
    rw [P.2.1 q (by omega)]
    by_cases c : p < i + 1
    · exact permIn_all d _ a (i + 1) (fun u => ix u < ix d[q]!) (by omega) P (fun x x1 x2 => h q (by omega) q2 x x1 (by omega)) p p1 c
    · rw [P.2.1 p (by omega)]; exact h q (by omega) q2 p p1 p2
theorem insertionSort_agree (hc : ∀ x y, lc x y = decide (K x < K y)) (a b : Nat) (d : Array α) (hb : b ≤ d.size) (h : ∀ i, a ≤ i → i < b → ix d[i]! = i) : insertionSort lc d a b = insertionSort (T K ix) d a b := by
  unfold insertionSort
  exact insOuter_agree hc a b _ (a + 1) d rfl (by omega) hb (fun q q1 q2 p p1 p2 => by rw [h p p1 (by omega), h q (by omega) q2]; exact p2)

/-! ### blocks -/
/-- the places lo to hi are held by just the elements of those places, sorted -/
structure Blk (K : α → Int) (ix : α → Nat) (lo hi : Nat) (d : Array α) : Prop where
  sorted : SortedIn (T K ix) lo hi d
  dom : ∀ i, lo ≤ i → i < hi → lo ≤ ix d[i]! ∧ ix d[i]! < hi
theorem Blk.runs {a m b : Nat} {d : Array α} (hc : ∀ x y, lc x y = decide (K x < K y)) (h1 : Blk K ix a m d) (h2 : Blk K ix m b d) : Runs (T K ix) lc a m b d :=
  ⟨h1.sorted, h2.sorted, fun x y x1 x2 y1 y2 => by
    have p := h1.dom x x1 x2
    have q := h2.dom y y1 y2
    rw [T_agree (by omega), hc]⟩
theorem Blk.merged {a m b : Nat} {d e : Array α} (h1 : Blk K ix a m d) (h2 : Blk K ix m b d) (ham : a ≤ m) (hmb : m ≤ b) (hb : b ≤ d.size) (p : PermIn a b d e) (s : SortedIn (T K ix) a b e) : Blk K ix a b e :=
  ⟨s, permIn_all d e a b (fun u => a ≤ ix u ∧ ix u < b) hb p (fun i i1 i2 => by
    by_cases c : i < m
    · have := h1.dom i i1 c; omega
    · have := h2.dom i (by omega) i2; omega)⟩
theorem Blk.keep {a b lo hi : Nat} {d e : Array α} (h : Blk K ix lo hi d) (p : PermIn a b d e) (hd : hi ≤ a ∨ b ≤ lo) : Blk K ix lo hi e :=
  ⟨fun i j h1 h2 h3 => by rw [p.2.1 i (by omega), p.2.1 j (by omega)]; exact h.sorted i j h1 h2 h3, fun i h1 h2 => by rw [p.2.1 i (by omega)]; exact h.dom i h1 h2⟩
theorem Blk.empty {lo hi : Nat} (d : Array α) (h : hi ≤ lo) : Blk K ix lo hi d := ⟨fun i j h1 h2 h3 => by omega, fun i h1 h2 => by omega⟩

/-- every block of s, up to n -/
def All (K : α → Int) (ix : α → Nat) (n s : Nat) (d : Array α) : Prop := ∀ t, Blk K ix (s * t) (min (s * t + s) n) d

/-- the insertion sorts have come to a -/
structure Beg0 (K : α → Int) (ix : α → Nat) (n a : Nat) (d : Array α) : Prop where
  mult : ∃ k, a = 20 * k
  le : a ≤ n
  done : ∀ t, 20 * t + 20 ≤ a → Blk K ix (20 * t) (20 * t + 20) d
  rest : ∀ i, a ≤ i → i < n → ix d[i]! = i
theorem Beg0.blk (hc : ∀ x y, lc x y = decide (K x < K y)) {n a b : Nat} {d : Array α} (h : Beg0 K ix n a d) (hn : n ≤ d.size) (hab : a ≤ b) (hb : b ≤ n) : PermIn a b d (insertionSort lc d a b) ∧ Blk K ix a b (insertionSort lc d a b) := by
  rw [insertionSort_agree hc a b d (by omega) (fun i i1 i2 => h.rest i i1 (by omega))]
  obtain ⟨p, s⟩ := insertionSort_holds (T_swo K ix) d a b hab (by omega)
  exact ⟨p, s, permIn_all d _ a b (fun u => a ≤ ix u ∧ ix u < b) (by omega) p (fun i i1 i2 => by rw [h.rest i i1 (by omega)]; exact ⟨i1, i2⟩)⟩
theorem Beg0.step (hc : ∀ x y, lc x y = decide (K x < K y)) {n a : Nat} {d : Array α} (h : Beg0 K ix n a d) (hn : n ≤ d.size) (hb : a + 20 ≤ n) : Beg0 K ix n (a + 20) (insertionSort lc d a (a + 20)) := by
  obtain ⟨p, B⟩ := h.blk hc hn (by omega : a ≤ a + 20) hb
  obtain ⟨k, hk⟩ := h.mult
  refine ⟨⟨k + 1, by omega⟩, hb, fun t ht => ?_, fun i i1 i2 => by rw [p.2.1 i (by omega)]; exact h.rest i (by omega) i2⟩
  by_cases c : 20 * t + 20 ≤ a
  · exact (h.done t c).keep p (Or.inl c)
  · have e : 20 * t = a := by omega
    rw [e]; exact B
theorem Beg0.last (hc : ∀ x y, lc x y = decide (K x < K y)) {n a : Nat} {d : Array α} (h : Beg0 K ix n a d) (hn : n ≤ d.size) (hb : n < a + 20) : All K ix n 20 (insertionSort lc d a n) := by
  obtain ⟨p, B⟩ := h.blk hc hn h.le (Nat.le_refl n)
  obtain ⟨k, hk⟩ := h.mult
  have hle := h.le
  intro t
  by_cases c : 20 * t + 20 ≤ a
  · rw [Nat.min_eq_left (by omega)]; exact (h.done t c).keep p (Or.inl c)
  · by_cases e : 20 * t = a
    · rw [e, Nat.min_eq_right (by omega)]; exact B
    · exact Blk.empty _ (by omega)

/-- a pass over blocks of s has come to a -/
structure Pass (K : α → Int) (ix : α → Nat) (n s a : Nat) (d : Array α) : Prop where
  mult : ∃ k, a = 2 * s * k
  le : a ≤ n
  done : ∀ t, 2 * s * t + 2 * s ≤ a → Blk K ix (2 * s * t) (2 * s * t + 2 * s) d
  todo : ∀ t, a ≤ s * t → Blk K ix (s * t) (min (s * t + s) n) d
theorem Pass.start {n s : Nat} {d : Array α} (h : All K ix n s d) (hs : 0 < s) : Pass K ix n s 0 d :=
  ⟨⟨0, rfl⟩, by omega, fun t ht => by omega, fun t _ => h t⟩
theorem Pass.first {n s a : Nat} {d : Array α} (h : Pass K ix n s a d) : Blk K ix a (min (a + s) n) d := by
  obtain ⟨k, hk⟩ := h.mult
  have e : s * (2 * k) = a := by rw [hk, ← Nat.mul_assoc, Nat.mul_comm s 2]
  have := h.todo (2 * k) (by omega)
  rw [e] at this; exact this
theorem Pass.second {n s a : Nat} {d : Array α} (h : Pass K ix n s a d) : Blk K ix (a + s) (min (a + s + s) n) d := by
  obtain ⟨k, hk⟩ := h.mult
  have e : s * (2 * k + 1) = a + s := by rw [Nat.mul_add, hk, ← Nat.mul_assoc, Nat.mul_comm s 2, Nat.mul_one]
  have := h.todo (2 * k + 1) (by omega)
  rw [e] at this; exact this
theorem Pass.runs {n s a : Nat} {d : Array α} (hc : ∀ x y, lc x y = decide (K x < K y)) (h : Pass K ix n s a d) (hn : a + 2 * s ≤ n) : Runs (T K ix) lc a (a + s) (a + 2 * s) d := by
  have h1 := h.first; have h2 := h.second
  rw [Nat.min_eq_left (by omega)] at h1 h2
  rw [show a + s + s = a + 2 * s from by omega] at h2
  exact h1.runs hc h2
theorem mul_gap {c t k : Nat} (h : ¬ c * t + c ≤ c * k) : k ≤ t := by
  apply Decidable.byContradiction
  intro g
  have : c * (t + 1) ≤ c * k := Nat.mul_le_mul_left c (by omega)
  rw [Nat.mul_add, Nat.mul_one] at this
  exact h this
theorem Pass.step {n s a : Nat} {d e : Array α} (h : Pass K ix n s a d) (hn : a + 2 * s ≤ n) (hd : n ≤ d.size) (hs : 0 < s) (p : PermIn a (a + 2 * s) d e) (so : SortedIn (T K ix) a (a + 2 * s) e) : Pass K ix n s (a + 2 * s) e := by
  have h1 := h.first; have h2 := h.second
  rw [Nat.min_eq_left (by omega)] at h1 h2
  rw [show a + s + s = a + 2 * s from by omega] at h2
  have B := h1.merged h2 (by omega) (by omega) (by omega) p so
  obtain ⟨k, hk⟩ := h.mult
  refine ⟨⟨k + 1, by rw [Nat.mul_add, hk, Nat.mul_one]⟩, hn, fun t ht => ?_, fun t ht => (h.todo t (by omega)).keep p (Or.inr ht)⟩
  by_cases c : 2 * s * t + 2 * s ≤ a
  · exact (h.done t c).keep p (Or.inl c)
  · have g := mul_gap (c := 2 * s) (t := t) (k := k) (by rw [← hk]; exact c)
    have g2 : t = k := by
      apply Decidable.byContradiction
      intro ne
      have : 2 * s * (k + 1) ≤ 2 * s * t := Nat.mul_le_mul_left _ (by omega)
      rw [Nat.mul_add, Nat.mul_one, ← hk] at this
      omega
    subst g2
    rw [← hk]; exact B
/-- the end of a pass: what is behind a is one block -/
theorem Pass.done_all {n s a : Nat} {d e : Array α} (h : Pass K ix n s a d) (hn : n < a + 2 * s) (p : PermIn a n d e) (B : Blk K ix a n e) : All K ix n (2 * s) e := by
  obtain ⟨k, hk⟩ := h.mult
  have hle := h.le
  intro t
  by_cases c : 2 * s * t + 2 * s ≤ a
  · rw [Nat.min_eq_left (by omega)]; exact (h.done t c).keep p (Or.inl c)
  · have g := mul_gap (c := 2 * s) (t := t) (k := k) (by rw [← hk]; exact c)
    by_cases g2 : t = k
    · subst g2
      rw [← hk, Nat.min_eq_right (by omega)]; exact B
    · have : 2 * s * (k + 1) ≤ 2 * s * t := Nat.mul_le_mul_left _ (by omega)
      rw [Nat.mul_add, Nat.mul_one, ← hk] at this
      exact Blk.empty _ (by omega)
theorem Pass.last_runs {n s a : Nat} {d : Array α} (hc : ∀ x y, lc x y = decide (K x < K y)) (h : Pass K ix n s a d) (hn : n < a + 2 * s) (hm : a + s < n) : Runs (T K ix) lc a (a + s) n d := by
  have h1 := h.first; have h2 := h.second
  rw [Nat.min_eq_left (by omega)] at h1
  rw [Nat.min_eq_right (by omega)] at h2
  exact h1.runs hc h2
theorem Pass.last {n s a : Nat} {d e : Array α} (h : Pass K ix n s a d) (hn : n < a + 2 * s) (hm : a + s < n) (hd : n ≤ d.size) (p : PermIn a n d e) (so : SortedIn (T K ix) a n e) : All K ix n (2 * s) e := by
  have h1 := h.first; have h2 := h.second
  rw [Nat.min_eq_left (by omega)] at h1
  rw [Nat.min_eq_right (by omega)] at h2
  exact h.done_all hn p (h1.merged h2 (by omega) (by omega) hd p so)
theorem Pass.last_none {n s a : Nat} {d : Array α} (h : Pass K ix n s a d) (hn : n < a + 2 * s) (hm : ¬ a + s < n) : All K ix n (2 * s) d := by
  have h1 := h.first
  rw [Nat.min_eq_right (by omega)] at h1
  exact h.done_all hn (permIn_refl _ _ _) h1
theorem All.sorted {n s : Nat} {d : Array α} (h : All K ix n s d) (hn : n ≤ s) : SortedIn (T K ix) 0 n d := by
  have := h 0
  rw [Nat.mul_zero, Nat.min_eq_right (by omega)] at this
  exact this.sorted
end Go.Proofs.Ytmgocfcbkejgdaa.RankMerge
