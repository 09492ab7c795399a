/- What is proved here: what a call of slices.symMergeCmpFunc comes to where one of the two runs is one element (conditions: those that each theorem names). -/
import Derived.Test.YtmgocfcbkejgdaaRankWalks
namespace Go.Proofs.Ytmgocfcbkejgdaa.RankSort
set_option linter.unusedSimpArgs false
set_option linter.unusedVariables false
open Go.Shelf Go.RowKit Go.Lib Go.Sort Go.Proofs Go.Proofs.Ytmgocfcbkejgdaa.RankBase Go.Proofs.Ytmgocfcbkejgdaa.RankMerge
open Go.Proofs.YtmgocfcbkejgdaaW.PrintWords Go.Proofs.YtmgocfcbkejgdaaW.PrintLast Go.Proofs.YtmgocfcbkejgdaaW.PrintMore
set_option maxHeartbeats 16000000 in
set_option maxRecDepth 1000000 in
theorem merge_left {α : Type} [Inhabited α] (enc : α → Value) (cf : α → α → Int) (lt : α → α → Bool) (g : Nat) (cb : Array Value) (blk off cap a m b : Nat) (d0 d : Array α) (w0 w : World)
    (eg : ∀ args w, (callFunc g args).run Try.prog w = .ok (.enter g args) w) (hcmp : CmpLays1 Try.prog g cb enc cf blk off d0.size w0) (R : Row1 enc w0 blk off d0) (hs : d0.size = d.size) (S : SW enc w0 blk off d w)
    (hO : SWO lt) (hR : Runs lt (ltOf cf) a m b d) (ham : a < m) (hmb : m < b) (hb : b ≤ d.size) (hsz : d.size < 4611686018427387904) (h1 : m = a + 1) :
    Calls Try.prog 33 #[.slice (some ⟨blk, off, none⟩) d.size cap, .int .i64 a, .int .i64 m, .int .i64 b, .func (.func g) #[] cb] w fun e w' => e = .returned (.tuple #[]) ∧ ∃ d', (PermIn a b d d' ∧ SortedIn lt a b d') ∧ SW enc w0 blk off d' w' := by
  have mixed : Try.prog.follows Departure.mixedOrders = true := by kernel_rfl
  have u3 := Try.underlying3
  have u35 := Try.underlying35
  have u56 := Try.underlying56
  have hcl0 := R.hO.cells
  simp only [Value.cells] at hcl0
  have hst := R.hO.store Try.prog
  have S0 : Aside (SW enc w0 blk off d w) := S
  have HC : Aside _ := hcmp
  have HR : Aside (Runs lt (ltOf cf) a m b d) := hR
  clear S hcmp hR
  have hc1 : ((m : Int) - (a : Int) == 1) = true := by simp; omega
  have H1 : Hid (m = a + 1) := h1
  clear h1
  go_enter Try.func33, Try.ntmps33
  go_wp2_with fail
  go_loopg [10, 11] (b - m) (fun g1 vi vj wr => ∃ (i j : Nat), vi = .int .i64 i ∧ vj = .int .i64 j ∧ j - i ≤ g1 ∧ i ≤ j ∧ j ≤ b ∧ Aside (SW enc w0 blk off d wr) ∧ Aside (Up lt a m b i j d))
  case atStart => exact ⟨m, b, by go_num, by go_num, by omega, by omega, by omega, S0, Up.start lt d (by omega)⟩
  case round =>
    clear S0
    obtain ⟨i, j, rfl, rfl, hg1, hij, hjb, S1, U1⟩ := hrel
    have q1 := U1.out.him
    by_cases hlt : i < j
    · have hltz : (i : Int) < (j : Int) := by omega
      obtain ⟨h, hh⟩ : ∃ h, h = (i + j) / 2 := ⟨_, rfl⟩
      have hih : i ≤ h := by omega
      have hhj : h < j := by omega
      have zh : ((i : Int) + (j : Int)) / 2 = (h : Int) := by omega
      clear hh
      cases hlv : (ltOf cf) d[h]! d[a]! with
      | true =>
        obtain ⟨iN1a, hiN1a⟩ : ∃ q, q = h := ⟨_, rfl⟩
        have ea1a : ((h : Int)).toNat = iN1a := by omega
        have pa1a : (0 : Int) ≤ (h : Int) := by omega
        have ba1a : (h : Int) < (d.size : Int) := by omega
        have ra1a : IntKind.i64.wrap ((h : Int)) = (h : Int) := by rw [IntKind.wrap_i64]; omega
        obtain ⟨iN1b, hiN1b⟩ : ∃ q, q = a := ⟨_, rfl⟩
        have ea1b : ((a : Int)).toNat = iN1b := by omega
        have pa1b : (0 : Int) ≤ (a : Int) := by omega
        have ba1b : (a : Int) < (d.size : Int) := by omega
        have ra1b : IntKind.i64.wrap ((a : Int)) = (a : Int) := by rw [IntKind.wrap_i64]; omega
        obtain ⟨x1, hx1⟩ : ∃ x, x = d[h]! := ⟨_, rfl⟩
        obtain ⟨y1, hy1⟩ : ∃ x, x = d[a]! := ⟨_, rfl⟩
        have l1a := S1.out.cl R (by omega) (h) (by omega)
        have l1b := S1.out.cl R (by omega) (a) (by omega)
        rw [← hx1, ← hiN1a] at l1a
        rw [← hy1, ← hiN1b] at l1b
        have hc1 := S1.out.cmp HC.out (by omega) x1 y1
        have hv1 : cf x1 y1 < 0 := by rw [hx1, hy1]; exact of_decide_eq_true hlv
        have hd1 : decide (cf x1 y1 < 0) = true := decide_eq_true hv1
        clear hx1 hy1 hiN1a hiN1b
        go_wp2_with fail
        go_quiet_grown (first | (go_at_fn g; refine Calls.grown_of (hc1 _ _)))
        have S2 : Aside (SW enc w0 blk off d (grow (wr.drewN nq) osq)) := S1.out.grown nq osq
        clear l1a l1b hc1 S1
        generalize grow (wr.drewN nq) osq = w2 at S2 ⊢
        clear nq osq
        clear ea1a ea1b
        go_wp2
        go_roundg (j - (h + 1))
        case measure => omega
        case rel => exact ⟨h + 1, j, by go_num, rfl, by omega, by omega, hjb, S2, U1.out.less hO HR.out.right hih hhj (by rw [← HR.out.agree a h (by omega) (by omega) (by omega) (by omega)]; exact hlv)⟩
      | false =>
        obtain ⟨iN1a, hiN1a⟩ : ∃ q, q = h := ⟨_, rfl⟩
        have ea1a : ((h : Int)).toNat = iN1a := by omega
        have pa1a : (0 : Int) ≤ (h : Int) := by omega
        have ba1a : (h : Int) < (d.size : Int) := by omega
        have ra1a : IntKind.i64.wrap ((h : Int)) = (h : Int) := by rw [IntKind.wrap_i64]; omega
        obtain ⟨iN1b, hiN1b⟩ : ∃ q, q = a := ⟨_, rfl⟩
        have ea1b : ((a : Int)).toNat = iN1b := by omega
        have pa1b : (0 : Int) ≤ (a : Int) := by omega
        have ba1b : (a : Int) < (d.size : Int) := by omega
        have ra1b : IntKind.i64.wrap ((a : Int)) = (a : Int) := by rw [IntKind.wrap_i64]; omega
        obtain ⟨x1, hx1⟩ : ∃ x, x = d[h]! := ⟨_, rfl⟩
        obtain ⟨y1, hy1⟩ : ∃ x, x = d[a]! := ⟨_, rfl⟩
        have l1a := S1.out.cl R (by omega) (h) (by omega)
        have l1b := S1.out.cl R (by omega) (a) (by omega)
        rw [← hx1, ← hiN1a] at l1a
        rw [← hy1, ← hiN1b] at l1b
        have hc1 := S1.out.cmp HC.out (by omega) x1 y1
        have hv1 : ¬ cf x1 y1 < 0 := by rw [hx1, hy1]; exact of_decide_eq_false hlv
        have hd1 : decide (cf x1 y1 < 0) = false := decide_eq_false hv1
        clear hx1 hy1 hiN1a hiN1b
        go_wp2_with fail
        go_quiet_grown (first | (go_at_fn g; refine Calls.grown_of (hc1 _ _)))
        have S2 : Aside (SW enc w0 blk off d (grow (wr.drewN nq) osq)) := S1.out.grown nq osq
        clear l1a l1b hc1 S1
        generalize grow (wr.drewN nq) osq = w2 at S2 ⊢
        clear nq osq
        clear ea1a ea1b
        go_wp2
        go_roundg (h - i)
        case measure => omega
        case rel => exact ⟨i, h, rfl, by go_num, by omega, by omega, by omega, S2, U1.out.not hO HR.out.right hih hhj (by rw [← HR.out.agree a h (by omega) (by omega) (by omega) (by omega)]; exact hlv)⟩
    · obtain rfl : i = j := by omega
      have hltz : ¬ (i : Int) < (i : Int) := by omega
      go_wp2_with fail
      go_loopg [13] i (fun g2 vk wr2 => ∃ (k : Nat) (dk : Array α), vk = .int .i64 k ∧ a ≤ k ∧ k + 1 ≤ i ∧ i - 1 - k ≤ g2 ∧ dk.size = d.size ∧ Aside (SW enc w0 blk off dk wr2) ∧ Aside (Rot d a (a + 1) (k + 1) dk))
      case atStart => exact ⟨a, d, by go_num, by omega, by omega, by omega, rfl, S1, up_start d a⟩
      case round =>
        clear S1
        obtain ⟨k, dk, rfl, hak, hki, hg2, hsk, SK, QK⟩ := hrel
        by_cases hlt2 : k < i - 1
        · have hltz2 : (k : Int) < (i : Int) - 1 := by omega
          obtain ⟨iN2a, hiN2a⟩ : ∃ q, q = k := ⟨_, rfl⟩
          have ea2a : ((k : Int)).toNat = iN2a := by omega
          have pa2a : (0 : Int) ≤ (k : Int) := by omega
          have ba2a : (k : Int) < (d.size : Int) := by omega
          have ra2a : IntKind.i64.wrap ((k : Int)) = (k : Int) := by rw [IntKind.wrap_i64]; omega
          obtain ⟨iN2b, hiN2b⟩ : ∃ q, q = k + 1 := ⟨_, rfl⟩
          have ea2b : ((k : Int) + 1).toNat = iN2b := by omega
          have pa2b : (0 : Int) ≤ (k : Int) + 1 := by omega
          have ba2b : (k : Int) + 1 < (d.size : Int) := by omega
          have ra2b : IntKind.i64.wrap ((k : Int) + 1) = (k : Int) + 1 := by rw [IntKind.wrap_i64]; omega
          obtain ⟨x2, hx2⟩ : ∃ x, x = dk[k]! := ⟨_, rfl⟩
          obtain ⟨y2, hy2⟩ : ∃ x, x = dk[k + 1]! := ⟨_, rfl⟩
          have S3 : Aside (SW enc w0 blk off (swp dk (k) (k + 1)) ((wr.setCell ⟨blk, off + iN2a, none⟩ (enc y2)).setCell ⟨blk, off + iN2b, none⟩ (enc x2)).drew) := by rw [hiN2a, hiN2b, hx2, hy2]; exact SK.out.swapped R (k) (k + 1) (by omega) (by omega)
          have c2a := SK.out.c1 R (by omega) (k) (by omega)
          have c2b := SK.out.c1 R (by omega) (k + 1) (by omega)
          have f2a := SK.out.f1 R (by omega) (k) (by omega)
          have f2b := SK.out.f1 R (by omega) (k + 1) (by omega)
          obtain ⟨u2, c2c⟩ := SK.out.c2 R (by omega) (k) (k + 1) (by omega) (by omega) (enc y2)
          first | (rw [← hiN2b, ← hiN2a] at c2c) | (rw [← hiN2a, ← hiN2b] at c2c)
          rw [← hx2, ← hiN2a] at c2a
          rw [← hy2, ← hiN2b] at c2b
          rw [← hiN2a] at f2a
          rw [← hiN2b] at f2b
          clear SK hx2 hy2 hiN2a hiN2b
          go_wp2_with fail
          go_big_region_o
          clear c2a c2b c2c f2a f2b
          generalize ((wr.setCell ⟨blk, off + iN2a, none⟩ (enc y2)).setCell ⟨blk, off + iN2b, none⟩ (enc x2)).drew = w3 at S3 ⊢
          clear ea2a ea2b
          go_wp2
          go_roundg (i - 1 - (k + 1))
          case measure => omega
          case rel => exact ⟨k + 1, _, by go_num, by omega, by omega, by omega, by rw [size_swp]; exact hsk, S3, up_step QK.out hak (by omega)⟩
        · have hltz2 : ¬ (k : Int) < (i : Int) - 1 := by omega
          go_wp2
          refine bodyPost_ret (results_none rfl _ _ _) rfl ?_
          have e := H1.out
          subst e
          obtain rfl : i = k + 1 := by omega
          exact ⟨rfl, dk, ⟨permIn_mono _ _ a (k + 1) a b (by omega) (by omega) (by omega) QK.out.perm, U1.out.sorted hO HR.out.right QK.out⟩, SK.out⟩
set_option maxHeartbeats 16000000 in
set_option maxRecDepth 1000000 in
theorem merge_right {α : Type} [Inhabited α] (enc : α → Value) (cf : α → α → Int) (lt : α → α → Bool) (g : Nat) (cb : Array Value) (blk off cap a m b : Nat) (d0 d : Array α) (w0 w : World)
    (eg : ∀ args w, (callFunc g args).run Try.prog w = .ok (.enter g args) w) (hcmp : CmpLays1 Try.prog g cb enc cf blk off d0.size w0) (R : Row1 enc w0 blk off d0) (hs : d0.size = d.size) (S : SW enc w0 blk off d w)
    (hO : SWO lt) (hR : Runs lt (ltOf cf) a m b d) (ham : a < m) (hmb : m < b) (hb : b ≤ d.size) (hsz : d.size < 4611686018427387904) (h1 : b = m + 1) (h2 : m ≠ a + 1) :
    Calls Try.prog 33 #[.slice (some ⟨blk, off, none⟩) d.size cap, .int .i64 a, .int .i64 m, .int .i64 b, .func (.func g) #[] cb] w fun e w' => e = .returned (.tuple #[]) ∧ ∃ d', (PermIn a b d d' ∧ SortedIn lt a b d') ∧ SW enc w0 blk off d' w' := by
  have mixed : Try.prog.follows Departure.mixedOrders = true := by kernel_rfl
  have u3 := Try.underlying3
  have u35 := Try.underlying35
  have u56 := Try.underlying56
  have hcl0 := R.hO.cells
  simp only [Value.cells] at hcl0
  have hst := R.hO.store Try.prog
  have S0 : Aside (SW enc w0 blk off d w) := S
  have HC : Aside _ := hcmp
  have HR : Aside (Runs lt (ltOf cf) a m b d) := hR
  clear S hcmp hR
  have hc1 : ((m : Int) - (a : Int) == 1) = false := by simp; omega
  have hc2 : ((b : Int) - (m : Int) == 1) = true := by simp; omega
  have H1 : Hid (b = m + 1) := h1
  clear h1 h2
  go_enter Try.func33, Try.ntmps33
  go_wp2_with fail
  go_loopg [14, 15] (m - a) (fun g1 vi vj wr => ∃ (i j : Nat), vi = .int .i64 i ∧ vj = .int .i64 j ∧ j - i ≤ g1 ∧ i ≤ j ∧ j ≤ m ∧ Aside (SW enc w0 blk off d wr) ∧ Aside (Dn lt a m i j d))
  case atStart => exact ⟨a, m, by go_num, by go_num, by omega, by omega, by omega, S0, Dn.start lt d (by omega)⟩
  case round =>
    clear S0
    obtain ⟨i, j, rfl, rfl, hg1, hij, hjb, S1, U1⟩ := hrel
    have q1 := U1.out.him
    by_cases hlt : i < j
    · have hltz : (i : Int) < (j : Int) := by omega
      obtain ⟨h, hh⟩ : ∃ h, h = (i + j) / 2 := ⟨_, rfl⟩
      have hih : i ≤ h := by omega
      have hhj : h < j := by omega
      have zh : ((i : Int) + (j : Int)) / 2 = (h : Int) := by omega
      clear hh
      cases hlv : (ltOf cf) d[m]! d[h]! with
      | true =>
        obtain ⟨iN1a, hiN1a⟩ : ∃ q, q = m := ⟨_, rfl⟩
        have ea1a : ((m : Int)).toNat = iN1a := by omega
        have pa1a : (0 : Int) ≤ (m : Int) := by omega
        have ba1a : (m : Int) < (d.size : Int) := by omega
        have ra1a : IntKind.i64.wrap ((m : Int)) = (m : Int) := by rw [IntKind.wrap_i64]; omega
        obtain ⟨iN1b, hiN1b⟩ : ∃ q, q = h := ⟨_, rfl⟩
        have ea1b : ((h : Int)).toNat = iN1b := by omega
        have pa1b : (0 : Int) ≤ (h : Int) := by omega
        have ba1b : (h : Int) < (d.size : Int) := by omega
        have ra1b : IntKind.i64.wrap ((h : Int)) = (h : Int) := by rw [IntKind.wrap_i64]; omega
        obtain ⟨x1, hx1⟩ : ∃ x, x = d[m]! := ⟨_, rfl⟩
        obtain ⟨y1, hy1⟩ : ∃ x, x = d[h]! := ⟨_, rfl⟩
        have l1a := S1.out.cl R (by omega) (m) (by omega)
        have l1b := S1.out.cl R (by omega) (h) (by omega)
        rw [← hx1, ← hiN1a] at l1a
        rw [← hy1, ← hiN1b] at l1b
        have hc1 := S1.out.cmp HC.out (by omega) x1 y1
        have hv1 : cf x1 y1 < 0 := by rw [hx1, hy1]; exact of_decide_eq_true hlv
        have hd1 : decide (cf x1 y1 < 0) = true := decide_eq_true hv1
        clear hx1 hy1 hiN1a hiN1b
        go_wp2_with fail
        go_quiet_grown (first | (go_at_fn g; refine Calls.grown_of (hc1 _ _)))
        have S2 : Aside (SW enc w0 blk off d (grow (wr.drewN nq) osq)) := S1.out.grown nq osq
        clear l1a l1b hc1 S1
        generalize grow (wr.drewN nq) osq = w2 at S2 ⊢
        clear nq osq
        clear ea1a ea1b
        go_wp2
        go_roundg (h - i)
        case measure => omega
        case rel => exact ⟨i, h, rfl, by go_num, by omega, by omega, by omega, S2, U1.out.less hO HR.out.left hih hhj (by rw [← HR.out.agree h m (by omega) (by omega) (by omega) (by omega)]; exact hlv)⟩
      | false =>
        obtain ⟨iN1a, hiN1a⟩ : ∃ q, q = m := ⟨_, rfl⟩
        have ea1a : ((m : Int)).toNat = iN1a := by omega
        have pa1a : (0 : Int) ≤ (m : Int) := by omega
        have ba1a : (m : Int) < (d.size : Int) := by omega
        have ra1a : IntKind.i64.wrap ((m : Int)) = (m : Int) := by rw [IntKind.wrap_i64]; omega
        obtain ⟨iN1b, hiN1b⟩ : ∃ q, q = h := ⟨_, rfl⟩
        have ea1b : ((h : Int)).toNat = iN1b := by omega
        have pa1b : (0 : Int) ≤ (h : Int) := by omega
        have ba1b : (h : Int) < (d.size : Int) := by omega
        have ra1b : IntKind.i64.wrap ((h : Int)) = (h : Int) := by rw [IntKind.wrap_i64]; omega
        obtain ⟨x1, hx1⟩ : ∃ x, x = d[m]! := ⟨_, rfl⟩
        obtain ⟨y1, hy1⟩ : ∃ x, x = d[h]! := ⟨_, rfl⟩
        have l1a := S1.out.cl R (by omega) (m) (by omega)
        have l1b := S1.out.cl R (by omega) (h) (by omega)
        rw [← hx1, ← hiN1a] at l1a
        rw [← hy1, ← hiN1b] at l1b
        have hc1 := S1.out.cmp HC.out (by omega) x1 y1
        have hv1 : ¬ cf x1 y1 < 0 := by rw [hx1, hy1]; exact of_decide_eq_false hlv
        have hd1 : decide (cf x1 y1 < 0) = false := decide_eq_false hv1
        clear hx1 hy1 hiN1a hiN1b
        go_wp2_with fail
        go_quiet_grown (first | (go_at_fn g; refine Calls.grown_of (hc1 _ _)))
        have S2 : Aside (SW enc w0 blk off d (grow (wr.drewN nq) osq)) := S1.out.grown nq osq
        clear l1a l1b hc1 S1
        generalize grow (wr.drewN nq) osq = w2 at S2 ⊢
        clear nq osq
        clear ea1a ea1b
        go_wp2
        go_roundg (j - (h + 1))
        case measure => omega
        case rel => exact ⟨h + 1, j, by go_num, rfl, by omega, by omega, hjb, S2, U1.out.not hO HR.out.left hih hhj (by rw [← HR.out.agree h m (by omega) (by omega) (by omega) (by omega)]; exact hlv)⟩
    · obtain rfl : i = j := by omega
      have hltz : ¬ (i : Int) < (i : Int) := by omega
      go_wp2_with fail
      go_loopg [17] (m - i) (fun g2 vk wr2 => ∃ (k : Nat) (dk : Array α), vk = .int .i64 k ∧ i ≤ k ∧ k ≤ m ∧ k - i ≤ g2 ∧ dk.size = d.size ∧ Aside (SW enc w0 blk off dk wr2) ∧ Aside (Rot d k m (m + 1) dk))
      case atStart => exact ⟨m, d, by go_num, by omega, by omega, by omega, rfl, S1, down_start d m⟩
      case round =>
        clear S1
        obtain ⟨k, dk, rfl, hak, hki, hg2, hsk, SK, QK⟩ := hrel
        by_cases hlt2 : i < k
        · obtain ⟨p, hp⟩ : ∃ p, p + 1 = k := ⟨k - 1, by omega⟩
          have zp : (k : Int) = (p : Int) + 1 := by omega
          have hltz2 : (i : Int) < (p : Int) + 1 := by omega
          have QP : Aside (Rot d (p + 1) m (m + 1) dk) := by rw [hp]; exact QK.out
          clear QK
          obtain ⟨iN2a, hiN2a⟩ : ∃ q, q = p + 1 := ⟨_, rfl⟩
          have ea2a : ((p : Int) + 1).toNat = iN2a := by omega
          have pa2a : (0 : Int) ≤ (p : Int) + 1 := by omega
          have ba2a : (p : Int) + 1 < (d.size : Int) := by omega
          have ra2a : IntKind.i64.wrap ((p : Int) + 1) = (p : Int) + 1 := by rw [IntKind.wrap_i64]; omega
          obtain ⟨iN2b, hiN2b⟩ : ∃ q, q = p := ⟨_, rfl⟩
          have ea2b : ((p : Int)).toNat = iN2b := by omega
          have pa2b : (0 : Int) ≤ (p : Int) := by omega
          have ba2b : (p : Int) < (d.size : Int) := by omega
          have ra2b : IntKind.i64.wrap ((p : Int)) = (p : Int) := by rw [IntKind.wrap_i64]; omega
          obtain ⟨x2, hx2⟩ : ∃ x, x = dk[p + 1]! := ⟨_, rfl⟩
          obtain ⟨y2, hy2⟩ : ∃ x, x = dk[p]! := ⟨_, rfl⟩
          have S3 : Aside (SW enc w0 blk off (swp dk (p + 1) (p)) ((wr.setCell ⟨blk, off + iN2a, none⟩ (enc y2)).setCell ⟨blk, off + iN2b, none⟩ (enc x2)).drew) := by rw [hiN2a, hiN2b, hx2, hy2]; exact SK.out.swapped R (p + 1) (p) (by omega) (by omega)
          have c2a := SK.out.c1 R (by omega) (p + 1) (by omega)
          have c2b := SK.out.c1 R (by omega) (p) (by omega)
          have f2a := SK.out.f1 R (by omega) (p + 1) (by omega)
          have f2b := SK.out.f1 R (by omega) (p) (by omega)
          obtain ⟨u2, c2c⟩ := SK.out.c2 R (by omega) (p + 1) (p) (by omega) (by omega) (enc y2)
          first | (rw [← hiN2b, ← hiN2a] at c2c) | (rw [← hiN2a, ← hiN2b] at c2c)
          rw [← hx2, ← hiN2a] at c2a
          rw [← hy2, ← hiN2b] at c2b
          rw [← hiN2a] at f2a
          rw [← hiN2b] at f2b
          clear SK hx2 hy2 hiN2a hiN2b
          go_wp2_with fail
          go_big_region_o
          clear c2a c2b c2c f2a f2b
          generalize ((wr.setCell ⟨blk, off + iN2a, none⟩ (enc y2)).setCell ⟨blk, off + iN2b, none⟩ (enc x2)).drew = w3 at S3 ⊢
          clear ea2a ea2b
          go_wp2
          go_roundg (p - i)
          case measure => omega
          case rel => exact ⟨p, _, by go_num, by omega, by omega, by omega, by rw [size_swp]; exact hsk, S3, down_step QP.out (by omega) (by omega)⟩
        · have hltz2 : ¬ (i : Int) < (k : Int) := by omega
          go_wp2
          refine bodyPost_ret (results_none rfl _ _ _) rfl ?_
          have e := H1.out
          subst e
          obtain rfl : i = k := by omega
          exact ⟨rfl, dk, ⟨permIn_mono _ _ i (m + 1) a (m + 1) (by omega) (by omega) (by omega) QK.out.perm, U1.out.sorted hO HR.out.left QK.out⟩, SK.out⟩
end Go.Proofs.Ytmgocfcbkejgdaa.RankSort
