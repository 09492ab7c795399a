/- What is proved here: what a call of slices.SortStableFunc comes to over a row of one-cell elements: sorted by key and place (conditions: those that each theorem names). -/
import Derived.Test.YtmgocfcbkejgdaaRankMain
namespace Go.Proofs.Ytmgocfcbkejgdaa.RankSort
set_option linter.unusedSimpArgs false
set_option linter.unusedVariables false
open Go.Shelf Go.RowKit Go.Lib Go.Sort Go.Proofs Go.Proofs.Ytmgocfcbkejgdaa.RankBase Go.Proofs.Ytmgocfcbkejgdaa.RankMerge
open Go.Proofs.YtmgocfcbkejgdaaW.PrintWords Go.Proofs.YtmgocfcbkejgdaaW.PrintLast Go.Proofs.YtmgocfcbkejgdaaW.PrintMore
set_option maxHeartbeats 16000000 in
set_option maxRecDepth 1000000 in
theorem stable_gen {α : Type} [Inhabited α] (enc : α → Value) (cf : α → α → Int) (K : α → Int) (ix : α → Nat) (g : Nat) (cb : Array Value) (blk off cap : Nat) (d0 d : Array α) (w0 w : World)
    (eg : ∀ args w, (callFunc g args).run Try.prog w = .ok (.enter g args) w) (hcmp : CmpLays1 Try.prog g cb enc cf blk off d0.size w0) (R : Row1 enc w0 blk off d0) (hs : d0.size = d.size) (S : SW enc w0 blk off d w)
    (hK : ∀ x y, ltOf cf x y = decide (K x < K y)) (hix : ∀ i, i < d.size → ix d[i]! = i) (hsz : d.size < 1152921504606846976) :
    Calls Try.prog 31 #[.slice (some ⟨blk, off, none⟩) d.size cap, .int .i64 d.size, .func (.func g) #[] cb] w fun e w' => e = .returned (.tuple #[]) ∧ ∃ d', (PermIn 0 d.size d d' ∧ SortedIn (T K ix) 0 d.size d') ∧ SW enc w0 blk off d' w' := by
  have u3 := Try.underlying3
  have u35 := Try.underlying35
  have S0 : Aside (SW enc w0 blk off d w) := S
  have HC : Aside _ := hcmp
  have HK := Aside0.mk hK
  have HX := Aside0.mk hix
  clear S hcmp hK hix
  go_enter Try.func31, Try.ntmps31
  go_wp2_with fail
  go_loopg [7, 8] d.size (fun g1 va vb wr => ∃ (a : Nat) (dk : Array α), va = .int .i64 a ∧ vb = .int .i64 ((a : Int) + 20) ∧ a ≤ d.size ∧ d.size - a ≤ g1 ∧ dk.size = d.size ∧ Aside (SW enc w0 blk off dk wr) ∧ Aside (Beg0 K ix d.size a dk) ∧ Aside (PermIn 0 d.size d dk))
  case atStart => exact ⟨0, d, rfl, rfl, by omega, by omega, rfl, S0, ⟨⟨0, rfl⟩, by omega, fun t ht => by omega, fun i _ h => HX.out i h⟩, permIn_refl _ _ _⟩
  case round =>
    clear S0
    obtain ⟨a, dk, rfl, rfl, han, hg1, hsk, S1, Q1, P1⟩ := hrel
    by_cases hlt : a + 20 ≤ d.size
    · have hltz : (a : Int) + 20 ≤ (d.size : Int) := by omega
      have hc := Any.insertionSortCmpFunc_s laid enc cf g cb blk off cap a (a + 20) d0 dk w0 wr eg HC.out R (by omega) S1.out (by omega) (by omega) (by omega)
      have zc : ((a + 20 : Nat) : Int) = (a : Int) + 20 := by omega
      rw [zc, hsk] at hc
      have HCr := Aside0.mk hc
      clear hc zc
      go_wp2_with (first | (go_at_call 32; refine HCr.out.mono ?_; rintro e w1 ⟨rfl, hS⟩))
      go_roundg (d.size - (a + 20))
      case measure => omega
      case rel =>
        have p := (Q1.out.blk HK.out (by omega) (by omega : a ≤ a + 20) hlt).1
        exact ⟨a + 20, _, by go_num, by go_num, by omega, by omega, by rw [p.1]; exact hsk, hS, Q1.out.step HK.out (by omega) hlt, permIn_trans _ _ _ _ _ P1.out (permIn_mono _ _ a (a + 20) 0 d.size (by omega) (by omega) (by omega) p)⟩
    · have hltz : ¬ (a : Int) + 20 ≤ (d.size : Int) := by omega
      have hc := Any.insertionSortCmpFunc_s laid enc cf g cb blk off cap a d.size d0 dk w0 wr eg HC.out R (by omega) S1.out (by omega) (by omega) (by omega)
      have p := (Q1.out.blk HK.out (by omega) han (Nat.le_refl _)).1
      have AL := Q1.out.last HK.out (by omega) (by omega)
      have zp : (insertionSort (ltOf cf) dk a d.size).size = d.size := by rw [p.1]; exact hsk
      have P2 : Aside (PermIn 0 d.size d (insertionSort (ltOf cf) dk a d.size)) := permIn_trans _ _ _ _ _ P1.out (permIn_mono _ _ a d.size 0 d.size (by omega) (by omega) (by omega) p)
      rw [hsk] at hc
      have HCr := Aside0.mk hc
      have A2 : Aside (All K ix d.size 20 (insertionSort (ltOf cf) dk a d.size)) := AL
      clear hc p AL P1 Q1
      go_wp2_with (first | (go_at_call 32; refine HCr.out.mono ?_; rintro e w1 ⟨rfl, hS⟩))
      clear HCr S1
      generalize insertionSort (ltOf cf) dk a d.size = D at *
      have S2 : Aside (SW enc w0 blk off D w1) := hS
      clear hS
      go_loopg [6] d.size (fun g1 vs wr => ∃ (s : Nat) (dk : Array α), vs = .int .i64 s ∧ 20 ≤ s ∧ d.size - s ≤ g1 ∧ dk.size = d.size ∧ Aside (SW enc w0 blk off dk wr) ∧ Aside (All K ix d.size s dk) ∧ Aside (PermIn 0 d.size d dk))
      case atStart => exact ⟨20, D, rfl, by omega, by omega, zp, S2, A2, P2⟩
      case round =>
        clear S2 A2 P2
        obtain ⟨s, dk, rfl, hs20, hg1, hsk, S1, Q1, P1⟩ := hrel
        by_cases hlt2 : s < d.size
        · have hltz2 : (s : Int) < (d.size : Int) := by omega
          go_wp2_with fail
          go_loopg [7, 8] d.size (fun g1 va vb wr => ∃ (a : Nat) (dj : Array α), va = .int .i64 a ∧ vb = .int .i64 ((a : Int) + 2 * (s : Int)) ∧ a ≤ d.size ∧ d.size - a ≤ g1 ∧ dj.size = d.size ∧ Aside (SW enc w0 blk off dj wr) ∧ Aside (Pass K ix d.size s a dj) ∧ Aside (PermIn 0 d.size d dj))
          case atStart => exact ⟨0, dk, rfl, by go_num, by omega, by omega, hsk, S1, Pass.start Q1.out (by omega), P1⟩
          case round =>
            clear S1 P1 Q1
            obtain ⟨a, dj, rfl, rfl, han, hg2, hsj, SJ, QJ, PJ⟩ := hrel
            by_cases hlt3 : a + 2 * s ≤ d.size
            · have hltz3 : (a : Int) + 2 * (s : Int) ≤ (d.size : Int) := by omega
              have hc := sym_merge enc cf (T K ix) g cb blk off cap d0 w0 eg HC.out R (T_swo K ix) (by omega) (2 * s) a (a + s) (a + 2 * s) dj wr (by omega) (by omega) SJ.out (QJ.out.runs HK.out hlt3) (by omega) (by omega) (by omega)
              have zc : ((a + s : Nat) : Int) = (a : Int) + (s : Int) := by omega
              have zd : ((a + 2 * s : Nat) : Int) = (a : Int) + 2 * (s : Int) := by omega
              rw [zc, zd, hsj] at hc
              have HCr := Aside0.mk hc
              clear hc zc zd
              go_wp2_with (first | (go_at_call 33; refine HCr.out.mono ?_; rintro e w2 ⟨rfl, d', ⟨hp, hso⟩, hS⟩))
              go_roundg (d.size - (a + 2 * s))
              case measure => omega
              case rel => exact ⟨a + 2 * s, d', by go_num, by go_num, by omega, by omega, by rw [hp.1]; exact hsj, hS, QJ.out.step hlt3 (by omega) (by omega) hp hso, permIn_trans _ _ _ _ _ PJ.out (permIn_mono _ _ a (a + 2 * s) 0 d.size (by omega) (by omega) (by omega) hp)⟩
            · have hltz3 : ¬ (a : Int) + 2 * (s : Int) ≤ (d.size : Int) := by omega
              by_cases hlt4 : a + s < d.size
              · have hltz4 : (a : Int) + (s : Int) < (d.size : Int) := by omega
                have hc := sym_merge enc cf (T K ix) g cb blk off cap d0 w0 eg HC.out R (T_swo K ix) (by omega) d.size a (a + s) d.size dj wr (by omega) (by omega) SJ.out (QJ.out.last_runs HK.out (by omega) hlt4) (by omega) (by omega) (by omega)
                have zc : ((a + s : Nat) : Int) = (a : Int) + (s : Int) := by omega
                rw [zc, hsj] at hc
                have HCr := Aside0.mk hc
                clear hc zc
                go_wp2_with (first | (go_at_call 33; refine HCr.out.mono ?_; rintro e w2 ⟨rfl, d', ⟨hp, hso⟩, hS⟩))
                go_roundg (d.size - 2 * s)
                case measure => omega
                case rel => exact ⟨2 * s, d', by go_num, by omega, by omega, by rw [hp.1]; exact hsj, hS, QJ.out.last (by omega) hlt4 (by omega) hp hso, permIn_trans _ _ _ _ _ PJ.out (permIn_mono _ _ a d.size 0 d.size (by omega) (by omega) (by omega) hp)⟩
              · have hltz4 : ¬ (a : Int) + (s : Int) < (d.size : Int) := by omega
                go_wp2_with fail
                go_roundg (d.size - 2 * s)
                case measure => omega
                case rel => exact ⟨2 * s, dj, by go_num, by omega, by omega, hsj, SJ, QJ.out.last_none (by omega) hlt4, PJ⟩
        · have hltz2 : ¬ (s : Int) < (d.size : Int) := by omega
          go_wp2_with fail
          go_end0
          exact ⟨rfl, dk, ⟨P1.out, Q1.out.sorted (by omega)⟩, S1.out⟩
set_option maxRecDepth 100000 in
theorem sortstable_gen {α : Type} [Inhabited α] (enc : α → Value) (cf : α → α → Int) (K : α → Int) (ix : α → Nat) (g : Nat) (cb : Array Value) (blk off cap : Nat) (d : Array α) (w : World)
    (eg : ∀ args w, (callFunc g args).run Try.prog w = .ok (.enter g args) w) (hcmp : CmpLays1 Try.prog g cb enc cf blk off d.size w) (R : Row1 enc w blk off d)
    (hK : ∀ x y, ltOf cf x y = decide (K x < K y)) (hix : ∀ i, i < d.size → ix d[i]! = i) (hsz : d.size < 1152921504606846976) :
    Calls Try.prog 27 #[.slice (some ⟨blk, off, none⟩) d.size cap, .func (.func g) #[] cb] w fun e w' => e = .returned (.tuple #[]) ∧ ∃ d', (PermIn 0 d.size d d' ∧ SortedIn (T K ix) 0 d.size d') ∧ SW enc w blk off d' w' := by
  have hi : ∀ q, Calls Try.prog 31 #[.slice (some ⟨blk, off, none⟩) d.size cap, .int .i64 d.size, .func (.func g) #[] cb] (w.drewN q) fun e w' => e = .returned (.tuple #[]) ∧ ∃ d', (PermIn 0 d.size d d' ∧ SortedIn (T K ix) 0 d.size d') ∧ SW enc w blk off d' w' := fun q =>
    stable_gen enc cf K ix g cb blk off cap d d w (w.drewN q) eg hcmp R rfl ((SW.start R.hH).drewN q) hK hix hsz
  have hi0 := Aside0.mk hi
  clear hi hK hix
  go_enter Try.func27, Try.ntmps27
  go_wp2_with (first | (go_at_call 31; (first | (refine (hi0.out 0).mono ?_) | (refine (hi0.out 1).mono ?_)); rintro e w1 ⟨rfl, hS⟩))
  go_end0
  exact ⟨rfl, hS⟩
end Go.Proofs.Ytmgocfcbkejgdaa.RankSort
