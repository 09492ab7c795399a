/- What is proved here: what a call of slices.symMergeCmpFunc comes to: the row sorted between its bounds (conditions: those that each theorem names). -/
import Derived.Test.YtmgocfcbkejgdaaRankSides
import Derived.Deep.CutRange
namespace Go.Proofs.Ytmgocfcbkejgdaa.RankSort
set_option linter.unusedSimpArgs false
set_option linter.unusedVariables false
open Go.Shelf Go.RowKit Go.Lib Go.Sort Go.Proofs Go.Proofs.Ytmgocfcbkejgdaa.RankBase Go.Proofs.Ytmgocfcbkejgdaa.RankMerge
open Go.Proofs.YtmgocfcbkejgdaaW.PrintWords Go.Proofs.YtmgocfcbkejgdaaW.PrintLast Go.Proofs.YtmgocfcbkejgdaaW.PrintMore
set_option maxHeartbeats 16000000 in
set_option maxRecDepth 1000000 in
theorem merge_main {α : Type} [Inhabited α] (enc : α → Value) (cf : α → α → Int) (lt : α → α → Bool) (g : Nat) (cb : Array Value) (blk off cap a m b : Nat) (d0 d : Array α) (w0 w : World)
    (eg : ∀ args w, (callFunc g args).run Try.prog w = .ok (.enter g args) w) (hcmp : CmpLays1 Try.prog g cb enc cf blk off d0.size w0) (R : Row1 enc w0 blk off d0) (hs : d0.size = d.size) (S : SW enc w0 blk off d w)
    (hO : SWO lt) (hR : Runs lt (ltOf cf) a m b d) (ham : a < m) (hmb : m < b) (hb : b ≤ d.size) (hsz : d.size < 4611686018427387904) (h1 : m ≠ a + 1) (h2 : b ≠ m + 1)
    (IH : ∀ (a' m' b' : Nat) (d' : Array α) (w' : World), b' - a' < b - a → d0.size = d'.size → SW enc w0 blk off d' w' → Runs lt (ltOf cf) a' m' b' d' → a' < m' → m' < b' → b' ≤ d'.size →
      Calls Try.prog 33 #[.slice (some ⟨blk, off, none⟩) d'.size cap, .int .i64 a', .int .i64 m', .int .i64 b', .func (.func g) #[] cb] w' fun e w' => e = .returned (.tuple #[]) ∧ ∃ d'', (PermIn a' b' d' d'' ∧ SortedIn lt a' b' d'') ∧ SW enc w0 blk off d'' w') :
    Calls Try.prog 33 #[.slice (some ⟨blk, off, none⟩) d.size cap, .int .i64 a, .int .i64 m, .int .i64 b, .func (.func g) #[] cb] w fun e w' => e = .returned (.tuple #[]) ∧ ∃ d', (PermIn a b d d' ∧ SortedIn lt a b d') ∧ SW enc w0 blk off d' w' := by
  have mixed : Try.prog.follows Departure.mixedOrders = true := by kernel_rfl
  have u3 := Try.underlying3
  have u35 := Try.underlying35
  have u56 := Try.underlying56
  have hcl0 := R.hO.cells
  simp only [Value.cells] at hcl0
  have hst := R.hO.store Try.prog
  have S0 : Aside (SW enc w0 blk off d w) := S
  have HC : Aside _ := hcmp
  have HR : Aside (Runs lt (ltOf cf) a m b d) := hR
  clear S hcmp hR
  have hc1 : ((m : Int) - (a : Int) == 1) = false := by simp; omega
  have hc2 : ((b : Int) - (m : Int) == 1) = false := by simp; omega
  have IH0 := Aside0.mk IH
  clear h1 h2 IH
  obtain ⟨q, hq0⟩ : ∃ q, q = (a + b) / 2 := ⟨_, rfl⟩
  have zq : ((a : Int) + (b : Int)) / 2 = (q : Int) := by omega
  have qlo : 2 * q ≤ a + b := by omega
  have qhi : a + b ≤ 2 * q + 1 := by omega
  have hq : Hid (q = (a + b) / 2) := hq0
  clear hq0
  go_enter Try.func33, Try.ntmps33
  go_upto_if 140 with fail
  go_cut [20, 21] from 138 to 146 (fun s20 s21 wc => ∃ s0 r0 : Nat, s20 = .int .i64 s0 ∧ s21 = .int .i64 r0 ∧ Aside (Beg a m b (q + m) s0 r0) ∧ wc = w)
  case first =>
    by_cases hmq : q < m
    · have hmz : (q : Int) < (m : Int) := by omega
      go_wp2_with fail
      go_meet
      case rel => exact ⟨q + m - b, q, by go_num, by go_num, ⟨ham, hmb, by rw [hq.out], .inl ⟨by rw [← hq.out]; exact hmq, rfl, hq.out⟩⟩, rfl⟩
    · have hmz : ¬ (q : Int) < (m : Int) := by omega
      go_wp2_with fail
      go_meet
      case rel => exact ⟨a, m, rfl, rfl, ⟨ham, hmb, by rw [hq.out], .inr ⟨by rw [← hq.out]; omega, rfl, rfl⟩⟩, rfl⟩
  case rest =>
    obtain ⟨s0, r0, rfl, rfl, HB, rfl⟩ := hcut
    obtain ⟨b1, b2, b3, b4, b5⟩ := HB.out.le
    have B5 := Aside0.mk b5
    clear b5
    go_wp2_with fail
    go_loopg [20, 21] (r0 - s0) (fun g1 vs vr wr => ∃ (s r : Nat), vs = .int .i64 s ∧ vr = .int .i64 r ∧ r - s ≤ g1 ∧ s0 ≤ s ∧ s ≤ r ∧ r ≤ r0 ∧ Aside (SW enc w0 blk off d wr) ∧ Aside (Mid lt (q + m) s0 r0 s r d))
    case atStart => exact ⟨s0, r0, rfl, rfl, by omega, by omega, by omega, by omega, S0, Mid.start lt d HB.out⟩
    case round =>
      clear S0
      obtain ⟨s, r, rfl, rfl, hg1, hs0, hsr, hr0, S1, U1⟩ := hrel
      by_cases hlt : s < r
      · have hltz : (s : Int) < (r : Int) := by omega
        obtain ⟨c, hh⟩ : ∃ c, c = (s + r) / 2 := ⟨_, rfl⟩
        have hih : s ≤ c := by omega
        have hhj : c < r := by omega
        have zh : ((s : Int) + (r : Int)) / 2 = (c : Int) := by omega
        clear hh
        obtain ⟨p1, p2, p3⟩ := B5.out c (by omega) (by omega)
        obtain ⟨y, hy⟩ : ∃ y, y = q + m - 1 - c := ⟨_, rfl⟩
        have zy : (q : Int) + (m : Int) - 1 - (c : Int) = (y : Int) := by omega
        have y1 : m ≤ y := by omega
        have y2 : y < b := by omega
        have HY : Hid (y = q + m - 1 - c) := hy
        clear hy p1 p2 p3
        cases hlv : (ltOf cf) d[y]! d[c]! with
        | true =>
          obtain ⟨iN1a, hiN1a⟩ : ∃ q, q = y := ⟨_, rfl⟩
          have ea1a : ((y : Int)).toNat = iN1a := by omega
          have pa1a : (0 : Int) ≤ (y : Int) := by omega
          have ba1a : (y : Int) < (d.size : Int) := by omega
          have ra1a : IntKind.i64.wrap ((y : Int)) = (y : Int) := by rw [IntKind.wrap_i64]; omega
          obtain ⟨iN1b, hiN1b⟩ : ∃ q, q = c := ⟨_, rfl⟩
          have ea1b : ((c : Int)).toNat = iN1b := by omega
          have pa1b : (0 : Int) ≤ (c : Int) := by omega
          have ba1b : (c : Int) < (d.size : Int) := by omega
          have ra1b : IntKind.i64.wrap ((c : Int)) = (c : Int) := by rw [IntKind.wrap_i64]; omega
          obtain ⟨x1, hx1⟩ : ∃ x, x = d[y]! := ⟨_, rfl⟩
          obtain ⟨y1, hy1⟩ : ∃ x, x = d[c]! := ⟨_, rfl⟩
          have l1a := S1.out.cl R (by omega) (y) (by omega)
          have l1b := S1.out.cl R (by omega) (c) (by omega)
          rw [← hx1, ← hiN1a] at l1a
          rw [← hy1, ← hiN1b] at l1b
          have hc1 := S1.out.cmp HC.out (by omega) x1 y1
          have hv1 : cf x1 y1 < 0 := by rw [hx1, hy1]; exact of_decide_eq_true hlv
          have hd1 : decide (cf x1 y1 < 0) = true := decide_eq_true hv1
          clear hx1 hy1 hiN1a hiN1b
          go_wp2_with fail
          go_quiet_grown (first | (go_at_fn g; refine Calls.grown_of (hc1 _ _)))
          have S2 : Aside (SW enc w0 blk off d (grow (wr.drewN nq) osq)) := S1.out.grown nq osq
          clear l1a l1b hc1 S1
          generalize grow (wr.drewN nq) osq = w2 at S2 ⊢
          clear nq osq
          clear ea1a ea1b
          go_wp2
          go_roundg (c - s)
          case measure => omega
          case rel => exact ⟨s, c, rfl, by go_num, by omega, by omega, by omega, by omega, S2, U1.out.less hO HB.out HR.out hih hhj (by rw [← HY.out, ← HR.out.agree c y (by omega) (by omega) (by omega) (by omega)]; exact hlv)⟩
        | false =>
          obtain ⟨iN1a, hiN1a⟩ : ∃ q, q = y := ⟨_, rfl⟩
          have ea1a : ((y : Int)).toNat = iN1a := by omega
          have pa1a : (0 : Int) ≤ (y : Int) := by omega
          have ba1a : (y : Int) < (d.size : Int) := by omega
          have ra1a : IntKind.i64.wrap ((y : Int)) = (y : Int) := by rw [IntKind.wrap_i64]; omega
          obtain ⟨iN1b, hiN1b⟩ : ∃ q, q = c := ⟨_, rfl⟩
          have ea1b : ((c : Int)).toNat = iN1b := by omega
          have pa1b : (0 : Int) ≤ (c : Int) := by omega
          have ba1b : (c : Int) < (d.size : Int) := by omega
          have ra1b : IntKind.i64.wrap ((c : Int)) = (c : Int) := by rw [IntKind.wrap_i64]; omega
          obtain ⟨x1, hx1⟩ : ∃ x, x = d[y]! := ⟨_, rfl⟩
          obtain ⟨y1, hy1⟩ : ∃ x, x = d[c]! := ⟨_, rfl⟩
          have l1a := S1.out.cl R (by omega) (y) (by omega)
          have l1b := S1.out.cl R (by omega) (c) (by omega)
          rw [← hx1, ← hiN1a] at l1a
          rw [← hy1, ← hiN1b] at l1b
          have hc1 := S1.out.cmp HC.out (by omega) x1 y1
          have hv1 : ¬ cf x1 y1 < 0 := by rw [hx1, hy1]; exact of_decide_eq_false hlv
          have hd1 : decide (cf x1 y1 < 0) = false := decide_eq_false hv1
          clear hx1 hy1 hiN1a hiN1b
          go_wp2_with fail
          go_quiet_grown (first | (go_at_fn g; refine Calls.grown_of (hc1 _ _)))
          have S2 : Aside (SW enc w0 blk off d (grow (wr.drewN nq) osq)) := S1.out.grown nq osq
          clear l1a l1b hc1 S1
          generalize grow (wr.drewN nq) osq = w2 at S2 ⊢
          clear nq osq
          clear ea1a ea1b
          go_wp2
          go_roundg (r - (c + 1))
          case measure => omega
          case rel => exact ⟨c + 1, r, by go_num, rfl, by omega, by omega, by omega, by omega, S2, U1.out.not hO HB.out HR.out hih hhj (by rw [← HY.out, ← HR.out.agree c y (by omega) (by omega) (by omega) (by omega)]; exact hlv)⟩
      · obtain rfl : s = r := by omega
        have hltz : ¬ (s : Int) < (s : Int) := by omega
        have F := U1.out.found hO HB.out HR.out
        obtain ⟨en, hen⟩ : ∃ en, en = q + m - s := ⟨_, rfl⟩
        rw [← hen] at F
        have f1 := F.ha; have f2 := F.hm; have f3 := F.he; have f4 := F.hb; have f5 := F.hmid
        rw [← hq.out] at f5
        have zen : (q : Int) + (m : Int) - (s : Int) = (en : Int) := by omega
        have HF := Aside0.mk F
        clear F hen U1
        go_upto_region 39 with fail
        go_cut [185] from 178 to 185 (fun s185 wx => ∃ B : Bool, s185 = .bool B ∧ Aside (B = true ↔ (s < m ∧ m < en)) ∧ wx = wr)
        case first =>
          by_cases e1 : s < m <;> by_cases e2 : m < en
          all_goals (try (exfalso; omega))
          all_goals (
            first | (have e1z : (s : Int) < (m : Int) := by omega) | (have e1z : ¬ (s : Int) < (m : Int) := by omega)
            first | (have e2z : (m : Int) < (en : Int) := by omega) | (have e2z : ¬ (m : Int) < (en : Int) := by omega)
            go_wp2_with fail
            go_meet
            exact ⟨_, rfl, (show (_ = true ↔ _) from by simp [e1, e2]), rfl⟩)
        case rest =>
          obtain ⟨B, rfl, HBB, rfl⟩ := hcut
          go_upto_if 185 with fail
          go_cut [] from 178 to 191 (fun wx => ∃ d1 : Array α, Aside (Rot d s m en d1) ∧ Aside (SW enc w0 blk off d1 wx))
          case first =>
            cases B
            case true =>
              have e12 := HBB.out.1 rfl
              have hc := rotate enc g cb blk off cap s m en d0 d w0 _ R hs S1.out e12.1 e12.2 (by omega) hsz
              have HCr := Aside0.mk hc
              clear hc e12
              go_wp2_with (first | (go_at_call 34; refine HCr.out.mono ?_; rintro e w1 ⟨rfl, d1, hQ, hS⟩))
              go_meet
              case rel => exact ⟨d1, hQ, hS⟩
            case false =>
              have e12 : ¬ (s < m ∧ m < en) := fun h => (by cases HBB.out.2 h)
              go_wp2_with fail
              go_meet
              case rel => exact ⟨d, Rot.none d f2 f3 (by omega), S1⟩
          case rest =>
            clear S1
            obtain ⟨d1, HQ1, S2⟩ := hcut
            have z1 : d1.size = d.size := HQ1.out.size
            have low := HF.out.low HR.out HQ1.out
            rw [← hq.out] at low
            have LOW := Aside0.mk low
            clear low
            go_upto_region 41 with fail
            go_cut [199] from 192 to 199 (fun s199 wx => ∃ B : Bool, s199 = .bool B ∧ Aside (B = true ↔ (a < s ∧ s < q)) ∧ wx = wc)
            case first =>
              by_cases e1 : a < s <;> by_cases e2 : s < q
              all_goals (try (exfalso; omega))
              all_goals (
                first | (have e1z : (a : Int) < (s : Int) := by omega) | (have e1z : ¬ (a : Int) < (s : Int) := by omega)
                first | (have e2z : (s : Int) < (q : Int) := by omega) | (have e2z : ¬ (s : Int) < (q : Int) := by omega)
                go_wp2_with fail
                go_meet
                exact ⟨_, rfl, (show (_ = true ↔ _) from by simp [e1, e2]), rfl⟩)
            case rest =>
              obtain ⟨B, rfl, HBB, rfl⟩ := hcut
              go_upto_if 199 with fail
              go_cut [] from 192 to 205 (fun wx => ∃ d2 : Array α, Aside (PermIn a q d1 d2 ∧ SortedIn lt a q d2) ∧ Aside (SW enc w0 blk off d2 wx))
              case first =>
                cases B
                case true =>
                  have e12 := HBB.out.1 rfl
                  have hc := IH0.out a s q d1 _ (by omega) (by omega) S2.out LOW.out e12.1 e12.2 (by omega)
                  rw [z1] at hc
                  have HCr := Aside0.mk hc
                  clear hc e12
                  go_wp2_with (first | (go_at_call 33; refine HCr.out.mono ?_; rintro e w1 ⟨rfl, d2, hQ, hS⟩))
                  go_meet
                  case rel => exact ⟨d2, hQ, hS⟩
                case false =>
                  have e12 : ¬ (a < s ∧ s < q) := fun h => (by cases HBB.out.2 h)
                  go_wp2_with fail
                  go_meet
                  case rel => exact ⟨d1, ⟨permIn_refl _ _ _, LOW.out.one e12 f1 (by omega)⟩, S2⟩
              case rest =>
                clear S2
                obtain ⟨d2, HQ2, S3⟩ := hcut
                have z2 : d2.size = d.size := HQ2.out.1.1.trans z1
                have high := HF.out.high HR.out HQ1.out (by rw [← hq.out]; exact HQ2.out.1)
                rw [← hq.out] at high
                have HIGH := Aside0.mk high
                clear high
                have whole : ∀ d3 : Array α, PermIn q b d2 d3 → SortedIn lt q b d3 → PermIn a b d d3 ∧ SortedIn lt a b d3 := fun d3 k1 k2 =>
                  HF.out.whole HR.out hb HQ1.out (by rw [← hq.out]; exact HQ2.out.1) (by rw [← hq.out]; exact HQ2.out.2) (by rw [← hq.out]; exact k1) (by rw [← hq.out]; exact k2)
                have WH := Aside0.mk whole
                clear whole
                go_upto_region 43 with fail
                go_cut [213] from 206 to 213 (fun s213 wx => ∃ B : Bool, s213 = .bool B ∧ Aside (B = true ↔ (q < en ∧ en < b)) ∧ wx = wc)
                case first =>
                  by_cases e1 : q < en <;> by_cases e2 : en < b
                  all_goals (try (exfalso; omega))
                  all_goals (
                    first | (have e1z : (q : Int) < (en : Int) := by omega) | (have e1z : ¬ (q : Int) < (en : Int) := by omega)
                    first | (have e2z : (en : Int) < (b : Int) := by omega) | (have e2z : ¬ (en : Int) < (b : Int) := by omega)
                    go_wp2_with fail
                    go_meet
                    exact ⟨_, rfl, (show (_ = true ↔ _) from by simp [e1, e2]), rfl⟩)
                case rest =>
                  obtain ⟨B, rfl, HBB, rfl⟩ := hcut
                  cases B
                  case true =>
                    have e12 := HBB.out.1 rfl
                    have hc := IH0.out q en b d2 _ (by omega) (by omega) S3.out HIGH.out e12.1 e12.2 (by omega)
                    rw [z2] at hc
                    have HCr := Aside0.mk hc
                    clear hc e12
                    go_wp2_with (first | (go_at_call 33; refine HCr.out.mono ?_; rintro e w1 ⟨rfl, d3, hQ, hS⟩))
                    go_end0
                    exact ⟨rfl, d3, WH.out d3 hQ.1 hQ.2, hS⟩
                  case false =>
                    have e12 : ¬ (q < en ∧ en < b) := fun h => (by cases HBB.out.2 h)
                    go_wp2_with fail
                    go_end0
                    exact ⟨rfl, d2, WH.out d2 (permIn_refl _ _ _) (HIGH.out.one e12 (by omega) (by omega)), S3.out⟩
set_option maxRecDepth 100000 in
theorem sym_merge {α : Type} [Inhabited α] (enc : α → Value) (cf : α → α → Int) (lt : α → α → Bool) (g : Nat) (cb : Array Value) (blk off cap : Nat) (d0 : Array α) (w0 : World)
    (eg : ∀ args w, (callFunc g args).run Try.prog w = .ok (.enter g args) w) (hcmp : CmpLays1 Try.prog g cb enc cf blk off d0.size w0) (R : Row1 enc w0 blk off d0) (hO : SWO lt) (hsz : d0.size < 4611686018427387904) :
    ∀ (n a m b : Nat) (d : Array α) (w : World), b - a ≤ n → d0.size = d.size → SW enc w0 blk off d w → Runs lt (ltOf cf) a m b d → a < m → m < b → b ≤ d.size →
    Calls Try.prog 33 #[.slice (some ⟨blk, off, none⟩) d.size cap, .int .i64 a, .int .i64 m, .int .i64 b, .func (.func g) #[] cb] w fun e w' => e = .returned (.tuple #[]) ∧ ∃ d', (PermIn a b d d' ∧ SortedIn lt a b d') ∧ SW enc w0 blk off d' w' := by
  intro n
  induction n with
  | zero => intro a m b d w hn hs S hR ham hmb hb; omega
  | succ n ih =>
    intro a m b d w hn hs S hR ham hmb hb
    by_cases h1 : m = a + 1
    · exact merge_left enc cf lt g cb blk off cap a m b d0 d w0 w eg hcmp R hs S hO hR ham hmb hb (by omega) h1
    · by_cases h2 : b = m + 1
      · exact merge_right enc cf lt g cb blk off cap a m b d0 d w0 w eg hcmp R hs S hO hR ham hmb hb (by omega) h2 h1
      · exact merge_main enc cf lt g cb blk off cap a m b d0 d w0 w eg hcmp R hs S hO hR ham hmb hb (by omega) h1 h2
          (fun a' m' b' d' w' k1 k2 k3 k4 k5 k6 k7 => ih a' m' b' d' w' (by omega) k2 k3 k4 k5 k6 k7)
end Go.Proofs.Ytmgocfcbkejgdaa.RankSort
