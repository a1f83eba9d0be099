import Derived.Test.YtladdncfhjjppaaHSym3
namespace Go.Proofs.Ytladdncfhjjppaa.HSort
open Go.RowKit Go.Proofs.YtladdncfhjjppaaW.PrintWords Go.Proofs.YtladdncfhjjppaaW.XRow
set_option linter.unusedVariables false

theorem rot_none (q : Nat → Nat) (st m E s : Nat) (h : st = m ∨ E = m) : rot q st m E s = q s := by
  unfold rot
  by_cases g : st ≤ s ∧ s < st + (E - m)
  · rw [if_pos g]; rcases h with h | h <;> (congr 1; omega)
  · rw [if_neg g]
    by_cases g2 : st + (E - m) ≤ s ∧ s < E
    · rw [if_pos g2]; rcases h with h | h <;> (congr 1; omega)
    · rw [if_neg g2]
theorem win_bnd {n a b : Nat} {q q' : Nat → Nat} (h : Win a b q q') (hq : ∀ s, s < n → q s < n) (hb : b ≤ n) (s : Nat) (hs : s < n) : q' s < n := by
  by_cases g : a ≤ s ∧ s < b
  · obtain ⟨t, t1, t2, e⟩ := h.into s g.1 g.2
    rw [e]; exact hq t (by omega)
  · rw [h.out s (by omega)]; exact hq s hs
theorem srt_out {cf : Nat → Nat → Int} {a b c d : Nat} {q q' : Nat → Nat} (h : Win a b q q') (hS : Srt cf c d q) (hc : b ≤ c) : Srt cf c d q' := fun s t s1 s2 s3 => by
  rw [h.out s (by omega), h.out t (by omega)]; exact hS s t s1 s2 s3
theorem sym_win {cf : Nat → Nat → Int} {a m b mid st E : Nat} {q q2 q3 : Nat → Nat} (h : Cut cf a m b mid st E q) (h1 : a ≤ mid) (h2 : mid ≤ b) (hW2 : Win a mid (rot q st m E) q2) (hW3 : Win mid b q2 q3) : Win a b q q3 :=
  ((rot_win q a m b mid st E h.eq h.le1 h.le2 h.ge h.top).trans (hW2.widen (Nat.le_refl _) h2)).trans (hW3.widen h1 (Nat.le_refl _))
theorem sym_srt {cf : Nat → Nat → Int} {a b mid : Nat} {q1 q2 q3 : Nat → Nat} (hX : ∀ s t, a ≤ s → s < mid → mid ≤ t → t < b → lt' cf (q1 s) (q1 t)) (hW2 : Win a mid q1 q2) (hW3 : Win mid b q2 q3) (hS2 : Srt cf a mid q2) (hS3 : Srt cf mid b q3) : Srt cf a b q3 :=
  halves_srt hX (fun s t s1 s2 s3 => by rw [hW3.out s (by omega), hW3.out t (by omega)]; exact hS2 s t s1 s2 s3) hS3
    (fun s s1 s2 => by rw [hW3.out s (by omega)]; exact hW2.into s s1 s2)
    (fun s s1 s2 => by
      obtain ⟨u, u1, u2, e⟩ := hW3.into s s1 s2
      exact ⟨u, u1, u2, by rw [e, hW2.out u (by omega)]⟩)
theorem mono_lo {n : Nat} {cf : Nat → Nat → Int} (hO : Ord n cf) {x x' y y' : Nat} (hx : x < n) (hx' : x' < n) (hy : y < n) (hy' : y' < n) (h : ¬ cf x y < 0) (e1 : x = x' ∨ lt' cf x x') (e2 : y' = y ∨ lt' cf y' y) : ¬ cf x' y' < 0 := fun k => by
  have k1 : cf x y' < 0 := by
    rcases e1 with e1 | e1
    · rw [e1]; exact k
    · exact lt0_of hO hx hx' hy' e1 k
  rcases e2 with e2 | e2
  · rw [e2] at k1; exact h k1
  · exact h (lt0_of2 hO hx hy' hy k1 e2)

set_option maxHeartbeats 16000000 in
set_option maxRecDepth 100000 in
theorem sym_stepA (blk n cap : Nat) (ce : Nat → El) (cf : Nat → Nat → Int) (w00 : World) (hC : CmpOK blk n ce cf w00) (hO : Ord n cf) (hn : n < 4611686018427387904) (d : Nat) (IH0 : Said blk n cap ce cf w00 d) (a m b mid : Nat) (q : Nat → Nat) (w : World) (hmid : mid = (a + b) / 2) (hd : b - a ≤ d + 1) (ham : a + 1 < m) (hmb : m + 1 < b) (hbn : b ≤ n) (hR : RowAt w blk 25 n cap ce q) (hw : But blk w00 w) (hq : ∀ s, s < n → q s < n) (hS : Srt cf a m q) (hT : Srt cf m b q) (hX : ∀ s t, a ≤ s → s < m → m ≤ t → t < b → q s < q t) (lo hi : Nat) (hlh : mid < m ∧ lo + b = mid + m ∧ hi = mid) :
    Calls Try.prog 39 #[.slice (some ⟨blk, 0, none⟩) n cap, .int .i64 a, .int .i64 m, .int .i64 b, FV] w fun r W => r = .returned (.tuple #[]) ∧ ∃ q', RowAt W blk 25 n cap ce q' ∧ But blk w W ∧ Win a b q q' ∧ Srt cf a b q' := by
  obtain ⟨hcm, hlo, hhi⟩ := hlh
  have m1 : a < mid := by omega
  have m2 : mid < b := by omega
  have l1 : a ≤ lo := by omega
  have l2 : lo ≤ hi := by omega
  have l3 : hi ≤ m := by omega
  have l4 : hi ≤ mid := by omega
  have l5 : mid + m ≤ lo + b := by omega
  have IH := Aside0.mk IH0
  have HC := Aside0.mk hC
  have HO := Aside0.mk hO
  have HR := Aside0.mk hR
  have HW := Aside0.mk hw
  have HQ := Aside0.mk hq
  have HS := Aside0.mk hS
  have HT := Aside0.mk hT
  have HX := Aside0.mk hX
  clear hC hO hR hw hq hS hT hX IH0
  have emid : ((a : Int) + (b : Int)) / 2 = (mid : Int) := by omega
  have Hmid := Aside0.mk emid
  have Hlo := Aside0.mk hlo
  have Hhi := Aside0.mk hhi
  have Hm := Aside0.mk hmid
  clear emid hlo hhi hmid
  have c0 : ((m : Int) - (a : Int) == 1) = false := by simp; omega
  have c1 : ((b : Int) - (m : Int) == 1) = false := by simp; omega
  have hcz : decide ((m : Int) > (((a : Int) + (b : Int)) / 2)) = true := decide_eq_true (by rw [Hmid.out]; omega)
  have hcz2 : (((a : Int) + (b : Int)) / 2) < (m : Int) := by rw [Hmid.out]; omega
  go_enter Try.func39, Try.ntmps39
  go_wp2
  simp only [Hmid.out]
  go_loopg [20, 21] b (fun g vi vj wr => ∃ st r : Nat, vi = .int .i64 st ∧ vj = .int .i64 r ∧ lo ≤ st ∧ st ≤ r ∧ r ≤ hi ∧ r - st ≤ g ∧ Aside0 (∀ c, lo ≤ c → c < st → ¬ cf (q (mid + m - 1 - c)) (q c) < 0) ∧ Aside0 (∀ c, r ≤ c → c < hi → cf (q (mid + m - 1 - c)) (q c) < 0) ∧ Aside0 (Below w.heap.size w wr))
  case atStart => exact ⟨lo, hi, by have := Hlo.out; go_num, by have := Hhi.out; go_num, by omega, by omega, by omega, by omega, ⟨fun s h1 h2 => by omega⟩, ⟨fun s h1 h2 => by omega⟩, ⟨Below.refl _ _⟩⟩
  case round =>
    obtain ⟨st, r, rfl, rfl, hi1, hij, hj, hg, HL, HG, HB⟩ := hrel
    by_cases hlt : st < r
    · have hltz : (st : Int) < (r : Int) := by omega
      obtain ⟨h, hh⟩ : ∃ h, h = (st + r) / 2 := ⟨_, rfl⟩
      have hh1 : st ≤ h := by omega
      have hh2 : h < r := by omega
      have eh : ((st : Int) + (r : Int)) / 2 = (h : Int) := by omega
      have HHh := Aside0.mk hh
      clear hh
      obtain ⟨pc, hpc⟩ : ∃ pc, pc = mid + m - 1 - h := ⟨_, rfl⟩
      have hpc1 : m ≤ pc := by omega
      have hpc2 : pc < b := by omega
      have epc : IntKind.i64.wrap ((mid : Int) + (m : Int) - 1 - (h : Int)) = (pc : Int) := by rw [IntKind.wrap_i64]; omega
      have Hpc := Aside0.mk hpc
      clear hpc
      obtain ⟨x, hx⟩ : ∃ x, q pc = x := ⟨_, rfl⟩
      obtain ⟨y, hy⟩ : ∃ y, q h = y := ⟨_, rfl⟩
      have hxn : x < n := by rw [← hx]; exact HQ.out pc (by omega)
      have hyn : y < n := by rw [← hy]; exact HQ.out h (by omega)
      have k0 := (HR.out.below HB.out).cell0 pc (by omega)
      have k1 := (HR.out.below HB.out).cell1 pc (by omega)
      have k2 := (HR.out.below HB.out).cell0 h (by omega)
      have k3 := (HR.out.below HB.out).cell1 h (by omega)
      rw [hx] at k0 k1
      rw [hy] at k2 k3
      have d0 := fun p : BelowOf wr => cellB k0 p
      have d1 := fun p : BelowOf wr => cellB k1 p
      have d2 := fun p : BelowOf wr => cellB k2 p
      have d3 := fun p : BelowOf wr => cellB k3 p
      have hcB : ∀ p : BelowOf wr, Calls Try.prog 17 #[.agg #[.slice (ce x).A (ce x).l (ce x).c, .int .i64 (ce x).z], .agg #[.slice (ce y).A (ce y).l (ce y).c, .int .i64 (ce y).z]] p.val (fun e w'' => e = .returned (.int .i64 (cf x y)) ∧ ∃ q : BelowOf wr, w'' = q.val) := fun p => callsB (HC.out.calls x y p.val (hxn) (hyn) ((HW.out.below HB.out).below p.prop))
      clear k0 k1 k2 k3
      have HX' := Aside0.mk hx
      have HY := Aside0.mk hy
      clear hx hy
      have z1 : (h : Int) < (n : Int) := by omega
      have z2 : (pc : Int) < (n : Int) := by omega
      have Heh := Aside0.mk eh
      clear eh
      by_cases hlv : cf x y < 0
      · have hlz : decide (cf x y < 0) = true := decide_eq_true hlv
        go_wp2_with fail
        simp only [Heh.out]
        refine wp_region_quiet_below (by kernel_rfl) (by kernel_rfl) ?_
        repeat (quiet_step ((go_at_call 17; exact hcB _)))
        refine wpQuiet_nil ?_
        intro W2 hw'
        have hb2 : Below wr.heap.size wr W2 := by
          obtain ⟨pq, hpq⟩ := hw'
          rw [hpq]; exact pq.prop
        clear hw'
        clear d0 d1 d2 d3 hcB
        clear epc
        go_wp2
        go_roundg (h - st)
        case measure => omega
        case rel =>
          refine ⟨st, h, rfl, rfl, by omega, by omega, by omega, by omega, HL, ⟨fun s s1 s2 => ?_⟩, ⟨HB.out.trans (hb2.mono HB.out.size)⟩⟩
          by_cases e : s = h
          · rw [e, ← Hpc.out, HX'.out, HY.out]; exact hlv
          · have l1 := HS.out h s (by omega) (by omega) (by omega)
            have l2 := HT.out (mid + m - 1 - s) pc (by omega) (by have := Hpc.out; omega) (by omega)
            rw [HY.out] at l1
            rw [HX'.out] at l2
            exact lt0_of2 HO.out (HQ.out _ (by omega)) hyn (HQ.out _ (by omega)) (lt0_of HO.out (HQ.out _ (by omega)) hxn hyn l2 hlv) l1
      · have hlz : decide (cf x y < 0) = false := decide_eq_false hlv
        go_wp2_with fail
        simp only [Heh.out]
        refine wp_region_quiet_below (by kernel_rfl) (by kernel_rfl) ?_
        repeat (quiet_step ((go_at_call 17; exact hcB _)))
        refine wpQuiet_nil ?_
        intro W2 hw'
        have hb2 : Below wr.heap.size wr W2 := by
          obtain ⟨pq, hpq⟩ := hw'
          rw [hpq]; exact pq.prop
        clear hw'
        clear d0 d1 d2 d3 hcB
        clear epc
        go_wp2
        go_roundg (r - (h + 1))
        case measure => omega
        case rel =>
          refine ⟨h + 1, r, by go_num, rfl, by omega, by omega, by omega, by omega, ⟨fun s s1 s2 => ?_⟩, HG, ⟨HB.out.trans (hb2.mono HB.out.size)⟩⟩
          have hlv' : ¬ cf x y < 0 := by omega
          by_cases e : s = h
          · rw [e, ← Hpc.out, HX'.out, HY.out]; omega
          · have l1 := HS.out s h (by omega) (by omega) (by omega)
            have l2 := HT.out pc (mid + m - 1 - s) (by omega) (by have := Hpc.out; omega) (by omega)
            rw [HY.out] at l1
            rw [HX'.out] at l2
            have := mono_lo HO.out hxn (HQ.out (mid + m - 1 - s) (by omega)) hyn (HQ.out s (by omega)) hlv' (.inr l2) (.inr l1)
            omega
    · have hltz : ¬ (st : Int) < (r : Int) := by omega
      obtain rfl : st = r := by omega
      obtain ⟨E, hE⟩ : ∃ E, E = mid + m - st := ⟨_, rfl⟩
      have hE1 : E + st = mid + m := by omega
      have hE2 : E ≤ b := by omega
      have Hlt := Aside0.mk hlt
      have HRw := Aside0.mk (HR.out.below HB.out)
      have HBw := Aside0.mk (But.of_below (b := blk) HB.out)
      have HC2 : Aside0 (Cut cf a m b mid st E q) := by
        refine ⟨hE1, by omega, by omega, by omega, hE2, fun g1 g2 => ?_, fun g1 g2 => ?_⟩
        · have k := HL.out (st - 1) (by have := Hlo.out; omega) (by omega)
          rw [show mid + m - 1 - (st - 1) = E by omega] at k
          exact lt'_of_ge HO.out (HQ.out _ (by omega)) (HQ.out _ (by omega)) (HX.out _ _ (by omega) (by omega) (by omega) (by omega)) (by omega)
        · have k := HG.out st (Nat.le_refl _) (by have := Hhi.out; omega)
          rw [show mid + m - 1 - st = E - 1 by omega] at k
          exact .inl k
      have HX2 := Aside0.mk (HC2.out.cross HO.out hbn m2 HQ.out HS.out HT.out)
      have HH := Aside0.mk (HC2.out.halves hbn HQ.out HS.out HT.out HX.out m2)
      have HHE := Aside0.mk hE
      clear hE HL HG HB hg hlt
      have y1 : st < m := by omega
      by_cases y2 : st < mid
      · by_cases y3 : a < st
        · by_cases y4 : E < b
          · skip
            have x1 : decide ((st : Int) < (m : Int)) = true := decide_eq_true (by omega)
            have x2 : decide ((m : Int) < (mid : Int) + (m : Int) - (st : Int)) = true := decide_eq_true (by omega)
            have x3 : decide ((a : Int) < (st : Int)) = true := decide_eq_true (by omega)
            have x4 : decide ((st : Int) < (mid : Int)) = true := decide_eq_true (by omega)
            have x5 : decide ((mid : Int) < (mid : Int) + (m : Int) - (st : Int)) = true := decide_eq_true (by omega)
            have x6 : decide ((mid : Int) + (m : Int) - (st : Int) < (b : Int)) = true := decide_eq_true (by omega)
            go_wp2_with fail
            refine (rotate blk n cap st m E _ _ _ rfl rfl (by omega) ce q _ HRw.out (by omega) (by omega) (by omega) hn).mono ?_
            rintro r1_ W1 ⟨rfl, hR1, hB1⟩
            have HR1 := Aside0.mk hR1
            have HB1 := Aside0.mk (HBw.out.trans hB1)
            clear hR1 hB1
            go_wp2_with fail
            refine (IH.out a st mid _ _ _ (rot q st m E) _ rfl rfl rfl (by omega) (by omega) (by omega) (by omega) HR1.out (HW.out.trans HB1.out) HH.out.1 HH.out.2.1 HH.out.2.2.1 HH.out.2.2.2.2.2.1).mono ?_
            rintro r2_ W2 ⟨rfl, q2, hR2, hB2, hW2, hS2⟩
            have HR2 := Aside0.mk hR2
            have HB2 := Aside0.mk (HB1.out.trans hB2)
            have HW2 := Aside0.mk hW2
            have HS2 := Aside0.mk hS2
            clear hR2 hB2 hW2 hS2
            go_wp2_with fail
            refine (IH.out mid E b _ _ _ q2 _ rfl (by omega) rfl (by omega) (by omega) (by omega) hbn HR2.out (HW.out.trans HB2.out) (fun s hs => win_bnd HW2.out HH.out.1 (by omega) s hs) (srt_out HW2.out HH.out.2.2.2.1 (Nat.le_refl _)) (srt_out HW2.out HH.out.2.2.2.2.1 (by omega)) (fun s t s1 s2 t1 t2 => by rw [HW2.out.out s (by omega), HW2.out.out t (by omega)]; exact HH.out.2.2.2.2.2.2 s t s1 s2 t1 t2)).mono ?_
            rintro r3_ W3 ⟨rfl, q3, hR3, hB3, hW3, hS3⟩
            have HR3 := Aside0.mk hR3
            have HB3 := Aside0.mk (HB2.out.trans hB3)
            have HW3 := Aside0.mk hW3
            have HS3 := Aside0.mk hS3
            clear hR3 hB3 hW3 hS3
            go_wp2_with fail
            go_end0
            exact ⟨rfl, q3, HR3.out, HB3.out, sym_win HC2.out (by omega) (by omega) HW2.out HW3.out, sym_srt HX2.out HW2.out HW3.out HS2.out HS3.out⟩
          · skip
            have x1 : decide ((st : Int) < (m : Int)) = true := decide_eq_true (by omega)
            have x2 : decide ((m : Int) < (mid : Int) + (m : Int) - (st : Int)) = true := decide_eq_true (by omega)
            have x3 : decide ((a : Int) < (st : Int)) = true := decide_eq_true (by omega)
            have x4 : decide ((st : Int) < (mid : Int)) = true := decide_eq_true (by omega)
            have x5 : decide ((mid : Int) < (mid : Int) + (m : Int) - (st : Int)) = true := decide_eq_true (by omega)
            have x6 : decide ((mid : Int) + (m : Int) - (st : Int) < (b : Int)) = false := decide_eq_false (by omega)
            go_wp2_with fail
            refine (rotate blk n cap st m E _ _ _ rfl rfl (by omega) ce q _ HRw.out (by omega) (by omega) (by omega) hn).mono ?_
            rintro r1_ W1 ⟨rfl, hR1, hB1⟩
            have HR1 := Aside0.mk hR1
            have HB1 := Aside0.mk (HBw.out.trans hB1)
            clear hR1 hB1
            go_wp2_with fail
            refine (IH.out a st mid _ _ _ (rot q st m E) _ rfl rfl rfl (by omega) (by omega) (by omega) (by omega) HR1.out (HW.out.trans HB1.out) HH.out.1 HH.out.2.1 HH.out.2.2.1 HH.out.2.2.2.2.2.1).mono ?_
            rintro r2_ W2 ⟨rfl, q2, hR2, hB2, hW2, hS2⟩
            have HR2 := Aside0.mk hR2
            have HB2 := Aside0.mk (HB1.out.trans hB2)
            have HW2 := Aside0.mk hW2
            have HS2 := Aside0.mk hS2
            clear hR2 hB2 hW2 hS2
            go_wp2_with fail
            obtain ⟨q3, hq3⟩ : ∃ q3, q3 = q2 := ⟨_, rfl⟩
            have HW3 : Aside0 (Win mid b q2 q3) := ⟨by rw [hq3]; exact Win.refl _ _ _⟩
            have HS3 : Aside0 (Srt cf mid b q3) := ⟨by rw [hq3]; first | (have h_ := srt_out HW2.out HH.out.2.2.2.2.1 (by omega); rw [show E = mid by omega] at h_; exact h_) | (have h_ := srt_out HW2.out HH.out.2.2.2.1 (Nat.le_refl _); rw [show E = b by omega] at h_; exact h_)⟩
            have HR3 : Aside0 (RowAt _ blk 25 n cap ce q3) := ⟨by rw [hq3]; exact HR2.out⟩
            have HB3 := HB2
            clear hq3
            go_end0
            exact ⟨rfl, q3, HR3.out, HB3.out, sym_win HC2.out (by omega) (by omega) HW2.out HW3.out, sym_srt HX2.out HW2.out HW3.out HS2.out HS3.out⟩
        · by_cases y4 : E < b
          · skip
            have x1 : decide ((st : Int) < (m : Int)) = true := decide_eq_true (by omega)
            have x2 : decide ((m : Int) < (mid : Int) + (m : Int) - (st : Int)) = true := decide_eq_true (by omega)
            have x3 : decide ((a : Int) < (st : Int)) = false := decide_eq_false (by omega)
            have x4 : decide ((st : Int) < (mid : Int)) = true := decide_eq_true (by omega)
            have x5 : decide ((mid : Int) < (mid : Int) + (m : Int) - (st : Int)) = true := decide_eq_true (by omega)
            have x6 : decide ((mid : Int) + (m : Int) - (st : Int) < (b : Int)) = true := decide_eq_true (by omega)
            go_wp2_with fail
            refine (rotate blk n cap st m E _ _ _ rfl rfl (by omega) ce q _ HRw.out (by omega) (by omega) (by omega) hn).mono ?_
            rintro r1_ W1 ⟨rfl, hR1, hB1⟩
            have HR1 := Aside0.mk hR1
            have HB1 := Aside0.mk (HBw.out.trans hB1)
            clear hR1 hB1
            go_wp2_with fail
            obtain ⟨q2, hq2⟩ : ∃ q2, q2 = rot q st m E := ⟨_, rfl⟩
            have HW2 : Aside0 (Win a mid (rot q st m E) q2) := ⟨by rw [hq2]; exact Win.refl _ _ _⟩
            have HS2 : Aside0 (Srt cf a mid q2) := ⟨by rw [hq2]; first | (rw [show mid = st by omega]; exact HH.out.2.1) | (rw [show a = st by omega]; exact HH.out.2.2.1)⟩
            have HR2 : Aside0 (RowAt _ blk 25 n cap ce q2) := ⟨by rw [hq2]; exact HR1.out⟩
            have HB2 := HB1
            clear hq2
            refine (IH.out mid E b _ _ _ q2 _ rfl (by omega) rfl (by omega) (by omega) (by omega) hbn HR2.out (HW.out.trans HB2.out) (fun s hs => win_bnd HW2.out HH.out.1 (by omega) s hs) (srt_out HW2.out HH.out.2.2.2.1 (Nat.le_refl _)) (srt_out HW2.out HH.out.2.2.2.2.1 (by omega)) (fun s t s1 s2 t1 t2 => by rw [HW2.out.out s (by omega), HW2.out.out t (by omega)]; exact HH.out.2.2.2.2.2.2 s t s1 s2 t1 t2)).mono ?_
            rintro r3_ W3 ⟨rfl, q3, hR3, hB3, hW3, hS3⟩
            have HR3 := Aside0.mk hR3
            have HB3 := Aside0.mk (HB2.out.trans hB3)
            have HW3 := Aside0.mk hW3
            have HS3 := Aside0.mk hS3
            clear hR3 hB3 hW3 hS3
            go_wp2_with fail
            go_end0
            exact ⟨rfl, q3, HR3.out, HB3.out, sym_win HC2.out (by omega) (by omega) HW2.out HW3.out, sym_srt HX2.out HW2.out HW3.out HS2.out HS3.out⟩
          · skip
            have x1 : decide ((st : Int) < (m : Int)) = true := decide_eq_true (by omega)
            have x2 : decide ((m : Int) < (mid : Int) + (m : Int) - (st : Int)) = true := decide_eq_true (by omega)
            have x3 : decide ((a : Int) < (st : Int)) = false := decide_eq_false (by omega)
            have x4 : decide ((st : Int) < (mid : Int)) = true := decide_eq_true (by omega)
            have x5 : decide ((mid : Int) < (mid : Int) + (m : Int) - (st : Int)) = true := decide_eq_true (by omega)
            have x6 : decide ((mid : Int) + (m : Int) - (st : Int) < (b : Int)) = false := decide_eq_false (by omega)
            go_wp2_with fail
            refine (rotate blk n cap st m E _ _ _ rfl rfl (by omega) ce q _ HRw.out (by omega) (by omega) (by omega) hn).mono ?_
            rintro r1_ W1 ⟨rfl, hR1, hB1⟩
            have HR1 := Aside0.mk hR1
            have HB1 := Aside0.mk (HBw.out.trans hB1)
            clear hR1 hB1
            go_wp2_with fail
            obtain ⟨q2, hq2⟩ : ∃ q2, q2 = rot q st m E := ⟨_, rfl⟩
            have HW2 : Aside0 (Win a mid (rot q st m E) q2) := ⟨by rw [hq2]; exact Win.refl _ _ _⟩
            have HS2 : Aside0 (Srt cf a mid q2) := ⟨by rw [hq2]; first | (rw [show mid = st by omega]; exact HH.out.2.1) | (rw [show a = st by omega]; exact HH.out.2.2.1)⟩
            have HR2 : Aside0 (RowAt _ blk 25 n cap ce q2) := ⟨by rw [hq2]; exact HR1.out⟩
            have HB2 := HB1
            clear hq2
            obtain ⟨q3, hq3⟩ : ∃ q3, q3 = q2 := ⟨_, rfl⟩
            have HW3 : Aside0 (Win mid b q2 q3) := ⟨by rw [hq3]; exact Win.refl _ _ _⟩
            have HS3 : Aside0 (Srt cf mid b q3) := ⟨by rw [hq3]; first | (have h_ := srt_out HW2.out HH.out.2.2.2.2.1 (by omega); rw [show E = mid by omega] at h_; exact h_) | (have h_ := srt_out HW2.out HH.out.2.2.2.1 (Nat.le_refl _); rw [show E = b by omega] at h_; exact h_)⟩
            have HR3 : Aside0 (RowAt _ blk 25 n cap ce q3) := ⟨by rw [hq3]; exact HR2.out⟩
            have HB3 := HB2
            clear hq3
            go_end0
            exact ⟨rfl, q3, HR3.out, HB3.out, sym_win HC2.out (by omega) (by omega) HW2.out HW3.out, sym_srt HX2.out HW2.out HW3.out HS2.out HS3.out⟩
      · have y3 : a < st := by omega
        have y4 : E < b := by omega
        have x1 : decide ((st : Int) < (m : Int)) = true := decide_eq_true (by omega)
        have x2 : decide ((m : Int) < (mid : Int) + (m : Int) - (st : Int)) = false := decide_eq_false (by omega)
        have x3 : decide ((a : Int) < (st : Int)) = true := decide_eq_true (by omega)
        have x4 : decide ((st : Int) < (mid : Int)) = false := decide_eq_false (by omega)
        have x5 : decide ((mid : Int) < (mid : Int) + (m : Int) - (st : Int)) = true := decide_eq_true (by omega)
        have x6 : decide ((mid : Int) + (m : Int) - (st : Int) < (b : Int)) = true := decide_eq_true (by omega)
        go_wp2_with fail
        have HR1 := Aside0.mk (HRw.out.congr (q' := rot q st m E) (fun s _ => rot_none q st m E s (by omega)))
        have HB1 := HBw
        obtain ⟨q2, hq2⟩ : ∃ q2, q2 = rot q st m E := ⟨_, rfl⟩
        have HW2 : Aside0 (Win a mid (rot q st m E) q2) := ⟨by rw [hq2]; exact Win.refl _ _ _⟩
        have HS2 : Aside0 (Srt cf a mid q2) := ⟨by rw [hq2]; first | (rw [show mid = st by omega]; exact HH.out.2.1) | (rw [show a = st by omega]; exact HH.out.2.2.1)⟩
        have HR2 : Aside0 (RowAt _ blk 25 n cap ce q2) := ⟨by rw [hq2]; exact HR1.out⟩
        have HB2 := HB1
        clear hq2
        refine (IH.out mid E b _ _ _ q2 _ rfl (by omega) rfl (by omega) (by omega) (by omega) hbn HR2.out (HW.out.trans HB2.out) (fun s hs => win_bnd HW2.out HH.out.1 (by omega) s hs) (srt_out HW2.out HH.out.2.2.2.1 (Nat.le_refl _)) (srt_out HW2.out HH.out.2.2.2.2.1 (by omega)) (fun s t s1 s2 t1 t2 => by rw [HW2.out.out s (by omega), HW2.out.out t (by omega)]; exact HH.out.2.2.2.2.2.2 s t s1 s2 t1 t2)).mono ?_
        rintro r3_ W3 ⟨rfl, q3, hR3, hB3, hW3, hS3⟩
        have HR3 := Aside0.mk hR3
        have HB3 := Aside0.mk (HB2.out.trans hB3)
        have HW3 := Aside0.mk hW3
        have HS3 := Aside0.mk hS3
        clear hR3 hB3 hW3 hS3
        go_wp2_with fail
        go_end0
        exact ⟨rfl, q3, HR3.out, HB3.out, sym_win HC2.out (by omega) (by omega) HW2.out HW3.out, sym_srt HX2.out HW2.out HW3.out HS2.out HS3.out⟩
end Go.Proofs.Ytladdncfhjjppaa.HSort
