/- What is proved here: what the calls of slices.swapRangeCmpFunc and rotateCmpFunc come to, over a row of one-cell elements (conditions: those that each theorem names). -/
import Derived.Test.YtmgocfcbkejgdaaRankStable
import Derived.Test.YtmgocfcbkejgdaaRankMerge
namespace Go.Proofs.Ytmgocfcbkejgdaa.RankSort
set_option linter.unusedSimpArgs false
set_option linter.unusedVariables false
open Go.Shelf Go.RowKit Go.Lib Go.Sort Go.Proofs Go.Proofs.Ytmgocfcbkejgdaa.RankBase Go.Proofs.Ytmgocfcbkejgdaa.RankMerge
open Go.Proofs.YtmgocfcbkejgdaaW.PrintWords Go.Proofs.YtmgocfcbkejgdaaW.PrintLast Go.Proofs.YtmgocfcbkejgdaaW.PrintMore
set_option maxHeartbeats 16000000 in
set_option maxRecDepth 1000000 in
theorem swap_range {α : Type} [Inhabited α] (enc : α → Value) (g : Nat) (cb : Array Value) (blk off cap a b n : Nat) (d0 d : Array α) (w0 w : World)
    (R : Row1 enc w0 blk off d0) (hs : d0.size = d.size) (S : SW enc w0 blk off d w) (hab : a + n ≤ b) (hb : b + n ≤ d.size) (hsz : d.size < 4611686018427387904) :
    Calls Try.prog 35 #[.slice (some ⟨blk, off, none⟩) d.size cap, .int .i64 a, .int .i64 b, .int .i64 n, .func (.func g) #[] cb] w fun e w' => e = .returned (.tuple #[]) ∧ ∃ d', Sr d a b n n d' ∧ SW enc w0 blk off d' w' := by
  have mixed : Try.prog.follows Departure.mixedOrders = true := by kernel_rfl
  have u3 := Try.underlying3
  have u35 := Try.underlying35
  have hcl0 := R.hO.cells
  simp only [Value.cells] at hcl0
  have hst := R.hO.store Try.prog
  have S0 : Aside (SW enc w0 blk off d w) := S
  clear S
  go_enter Try.func35, Try.ntmps35
  go_wp2_with fail
  go_loopg [10] n (fun g1 vi wr => ∃ (i : Nat) (dk : Array α), vi = .int .i64 i ∧ i ≤ n ∧ n - i ≤ g1 ∧ dk.size = d.size ∧ Aside (SW enc w0 blk off dk wr) ∧ Aside (Sr d a b n i dk))
  case atStart => exact ⟨0, d, rfl, by omega, by omega, rfl, S0, Sr.start d a b n⟩
  case round =>
    clear S0
    obtain ⟨i, dk, rfl, hin, hg1, hsk, S1, Q1⟩ := hrel
    by_cases hlt : i < n
    · have hltz : (i : Int) < (n : Int) := by omega
      obtain ⟨iN1a, hiN1a⟩ : ∃ q, q = a + i := ⟨_, rfl⟩
      have ea1a : ((a : Int) + (i : Int)).toNat = iN1a := by omega
      have pa1a : (0 : Int) ≤ (a : Int) + (i : Int) := by omega
      have ba1a : (a : Int) + (i : Int) < (d.size : Int) := by omega
      have ra1a : IntKind.i64.wrap ((a : Int) + (i : Int)) = (a : Int) + (i : Int) := by rw [IntKind.wrap_i64]; omega
      obtain ⟨iN1b, hiN1b⟩ : ∃ q, q = b + i := ⟨_, rfl⟩
      have ea1b : ((b : Int) + (i : Int)).toNat = iN1b := by omega
      have pa1b : (0 : Int) ≤ (b : Int) + (i : Int) := by omega
      have ba1b : (b : Int) + (i : Int) < (d.size : Int) := by omega
      have ra1b : IntKind.i64.wrap ((b : Int) + (i : Int)) = (b : Int) + (i : Int) := by rw [IntKind.wrap_i64]; omega
      obtain ⟨x1, hx1⟩ : ∃ x, x = dk[a + i]! := ⟨_, rfl⟩
      obtain ⟨y1, hy1⟩ : ∃ x, x = dk[b + i]! := ⟨_, rfl⟩
      have S3 : Aside (SW enc w0 blk off (swp dk (a + i) (b + i)) ((wr.setCell ⟨blk, off + iN1a, none⟩ (enc y1)).setCell ⟨blk, off + iN1b, none⟩ (enc x1)).drew) := by rw [hiN1a, hiN1b, hx1, hy1]; exact S1.out.swapped R (a + i) (b + i) (by omega) (by omega)
      have c1a := S1.out.c1 R (by omega) (a + i) (by omega)
      have c1b := S1.out.c1 R (by omega) (b + i) (by omega)
      have f1a := S1.out.f1 R (by omega) (a + i) (by omega)
      have f1b := S1.out.f1 R (by omega) (b + i) (by omega)
      obtain ⟨u1, c1c⟩ := S1.out.c2 R (by omega) (a + i) (b + i) (by omega) (by omega) (enc y1)
      first | (rw [← hiN1b, ← hiN1a] at c1c) | (rw [← hiN1a, ← hiN1b] at c1c)
      rw [← hx1, ← hiN1a] at c1a
      rw [← hy1, ← hiN1b] at c1b
      rw [← hiN1a] at f1a
      rw [← hiN1b] at f1b
      clear S1 hx1 hy1 hiN1a hiN1b
      go_wp2_with fail
      go_big_region_o
      clear c1a c1b c1c f1a f1b
      generalize ((wr.setCell ⟨blk, off + iN1a, none⟩ (enc y1)).setCell ⟨blk, off + iN1b, none⟩ (enc x1)).drew = w3 at S3 ⊢
      clear ea1a ea1b
      go_wp2
      go_roundg (n - (i + 1))
      case measure => omega
      case rel => exact ⟨i + 1, _, by go_num, by omega, by omega, by rw [size_swp]; exact hsk, S3, Q1.out.step hlt hab hb⟩
    · have hltz : ¬ (i : Int) < (n : Int) := by omega
      obtain rfl : i = n := by omega
      go_wp2
      go_end0
      exact ⟨rfl, dk, Q1.out, S1.out⟩
set_option maxHeartbeats 16000000 in
set_option maxRecDepth 1000000 in
theorem rotate {α : Type} [Inhabited α] (enc : α → Value) (g : Nat) (cb : Array Value) (blk off cap a m b : Nat) (d0 d : Array α) (w0 w : World)
    (R : Row1 enc w0 blk off d0) (hs : d0.size = d.size) (S : SW enc w0 blk off d w) (ham : a < m) (hmb : m < b) (hb : b ≤ d.size) (hsz : d.size < 4611686018427387904) :
    Calls Try.prog 34 #[.slice (some ⟨blk, off, none⟩) d.size cap, .int .i64 a, .int .i64 m, .int .i64 b, .func (.func g) #[] cb] w fun e w' => e = .returned (.tuple #[]) ∧ ∃ d', Rot d a m b d' ∧ SW enc w0 blk off d' w' := by
  have u3 := Try.underlying3
  have u35 := Try.underlying35
  have S0 : Aside (SW enc w0 blk off d w) := S
  clear S
  go_enter Try.func34, Try.ntmps34
  go_wp2_with fail
  go_loopg [10, 11] (b - a) (fun g1 vi vj wr => ∃ (i j : Nat) (dk : Array α), vi = .int .i64 i ∧ vj = .int .i64 j ∧ 0 < i ∧ 0 < j ∧ i ≤ m ∧ j ≤ b ∧ i + j ≤ g1 ∧ dk.size = d.size ∧ Aside (SW enc w0 blk off dk wr) ∧ Aside (Ro d a m b i j dk))
  case atStart => exact ⟨m - a, b - m, d, by go_num, by go_num, by omega, by omega, by omega, by omega, by omega, rfl, S0, Ro.start (by omega) (by omega)⟩
  case round =>
    clear S0
    obtain ⟨i, j, dk, rfl, rfl, hi0, hj0, him, hjb, hg1, hsk, S1, Q1⟩ := hrel
    have q1 := Q1.out.hi
    have q3 := Q1.out.hj
    by_cases hij : i = j
    · subst hij
      have hc := swap_range enc g cb blk off cap (m - i) m i d0 dk w0 wr R (by omega) S1.out (by omega) (by omega) (by omega)
      have zc : ((m - i : Nat) : Int) = (m : Int) - (i : Int) := by omega
      rw [zc, hsk] at hc
      have HC := Aside0.mk hc
      clear hc zc
      go_wp2_with (first | (go_at_call 35; refine HC.out.mono ?_; rintro e w1 ⟨rfl, d', hQ, hS⟩))
      go_end0
      exact ⟨rfl, d', Q1.out.done hb hQ, hS⟩
    · have hne : ((i : Int) == (j : Int)) = false := by simp; omega
      by_cases hlt : j < i
      · have hltz : (j : Int) < (i : Int) := by omega
        have hc := swap_range enc g cb blk off cap (m - i) m j d0 dk w0 wr R (by omega) S1.out (by omega) (by omega) (by omega)
        have zc : ((m - i : Nat) : Int) = (m : Int) - (i : Int) := by omega
        rw [zc, hsk] at hc
        have HC := Aside0.mk hc
        clear hc zc
        go_wp2_with (first | (go_at_call 35; refine HC.out.mono ?_; rintro e w1 ⟨rfl, d', hQ, hS⟩))
        go_roundg (i + j - 1)
        case measure => omega
        case rel => exact ⟨i - j, j, d', by go_num, rfl, by omega, by omega, by omega, by omega, by omega, by rw [hQ.perm.1]; exact hsk, hS, Q1.out.left hlt hb hQ⟩
      · have hltz : ¬ (j : Int) < (i : Int) := by omega
        have hc := swap_range enc g cb blk off cap (m - i) (m + j - i) i d0 dk w0 wr R (by omega) S1.out (by omega) (by omega) (by omega)
        have zc : ((m - i : Nat) : Int) = (m : Int) - (i : Int) := by omega
        have zd : ((m + j - i : Nat) : Int) = (m : Int) + (j : Int) - (i : Int) := by omega
        rw [zc, zd, hsk] at hc
        have HC := Aside0.mk hc
        clear hc zc zd
        go_wp2_with (first | (go_at_call 35; refine HC.out.mono ?_; rintro e w1 ⟨rfl, d', hQ, hS⟩))
        go_roundg (i + j - 1)
        case measure => omega
        case rel => exact ⟨i, j - i, d', rfl, by go_num, by omega, by omega, by omega, by omega, by omega, by rw [hQ.perm.1]; exact hsk, hS, Q1.out.right (by omega) hb hQ⟩
end Go.Proofs.Ytmgocfcbkejgdaa.RankSort
