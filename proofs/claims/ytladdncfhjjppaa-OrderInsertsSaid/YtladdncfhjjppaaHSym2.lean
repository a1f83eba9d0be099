import Derived.Test.YtladdncfhjjppaaHSym
namespace Go.Proofs.Ytladdncfhjjppaa.HSort
open Go.RowKit Go.Proofs.YtladdncfhjjppaaW.PrintWords Go.Proofs.YtladdncfhjjppaaW.XRow
set_option linter.unusedVariables false
theorem lt0_of2 {n : Nat} {cf : Nat → Nat → Int} (h : Ord n cf) {x y z : Nat} (hx : x < n) (hy : y < n) (hz : z < n) (h1 : cf x y < 0) (h2 : lt' cf y z) : cf x z < 0 := by
  have t := h.trans x y z hx hy hz
  have t1 := h.trans y z x hy hz hx
  have a3 := h.anti y z hy hz
  have a5 := h.anti x z hx hz
  have a6 := h.anti z x hz hx
  have a7 := h.anti x y hx hy
  have a8 := h.anti y x hy hx
  unfold lt' at *
  omega
theorem shr_zero (q : Nat → Nat) (m s : Nat) : shr q m m s = q s := by
  unfold shr
  split
  · rename_i h; rw [h]
  · rw [if_neg (by omega)]
theorem shr_succ (q : Nat → Nat) (m k s : Nat) (h : k + 1 ≤ m) : shr q m k s = sw (shr q m (k + 1)) (k + 1) k s := by
  unfold sw
  by_cases h1 : s = k
  · rw [if_pos h1]; unfold shr
    rw [if_pos h1, if_pos rfl]
  · by_cases h2 : s = k + 1
    · rw [if_neg h1, if_pos h2]; unfold shr
      rw [if_neg (by omega), if_pos (by omega), if_neg (by omega), if_neg (by omega)]; congr 1; omega
    · rw [if_neg h1, if_neg h2]; unfold shr
      by_cases h3 : k < s ∧ s ≤ m
      · rw [if_neg h1, if_pos h3, if_neg h2, if_pos (by omega)]
      · rw [if_neg h1, if_neg h3, if_neg h2, if_neg (by omega)]
theorem shr_win (q : Nat → Nat) (a k m : Nat) (h : a ≤ k) (hb : k ≤ m) : Win a (m + 1) q (shr q m k) where
  out := fun s hs => by unfold shr; rw [if_neg (by omega), if_neg (by omega)]
  into := fun s h1 h2 => by
    unfold shr
    by_cases e : s = k
    · rw [if_pos e]; exact ⟨m, by omega, by omega, rfl⟩
    · rw [if_neg e]
      by_cases e2 : k < s ∧ s ≤ m
      · rw [if_pos e2]; exact ⟨s - 1, by omega, by omega, rfl⟩
      · rw [if_neg e2]; exact ⟨s, h1, h2, rfl⟩
  onto := fun t h1 h2 => by
    by_cases e : t = m
    · exact ⟨k, h, by omega, by unfold shr; rw [if_pos rfl, e]⟩
    · by_cases e2 : k ≤ t
      · exact ⟨t + 1, by omega, by omega, by unfold shr; rw [if_neg (by omega), if_pos (by omega)]; congr 1⟩
      · exact ⟨t, h1, h2, by unfold shr; rw [if_neg (by omega), if_neg (by omega)]⟩
theorem shr_srt {n : Nat} {cf : Nat → Nat → Int} (q : Nat → Nat) (a k m : Nat) (hO : Ord n cf) (hbn : m + 1 ≤ n) (hq : ∀ s, s < n → q s < n) (hS : Srt cf a m q) (hX : ∀ s, a ≤ s → s < m → q s < q m) (h : a ≤ k) (hb : k ≤ m)
    (hL : ∀ s, a ≤ s → s < k → ¬ cf (q m) (q s) < 0) (hG : ∀ s, k ≤ s → s < m → cf (q m) (q s) < 0) : Srt cf a (m + 1) (shr q m k) := fun s t h1 h2 h3 => by
  unfold shr
  by_cases e1 : s = k
  · rw [if_pos e1, if_neg (by omega), if_pos (by omega)]; exact .inl (hG _ (by omega) (by omega))
  · rw [if_neg e1]
    by_cases e2 : k < s ∧ s ≤ m
    · rw [if_pos e2, if_neg (by omega), if_pos (by omega)]; exact hS _ _ (by omega) (by omega) (by omega)
    · rw [if_neg e2]
      by_cases e3 : t = k
      · rw [if_pos e3]; exact lt'_of_ge hO (hq m (by omega)) (hq s (by omega)) (hX s h1 (by omega)) (hL s h1 (by omega))
      · rw [if_neg e3]
        by_cases e4 : k < t ∧ t ≤ m
        · rw [if_pos e4]; exact hS _ _ (by omega) (by omega) (by omega)
        · rw [if_neg e4]; exact hS _ _ (by omega) (by omega) (by omega)

set_option maxHeartbeats 4000000 in
set_option maxRecDepth 100000 in
theorem sym_last (blk n cap a m : Nat) (ce : Nat → El) (cf : Nat → Nat → Int) (q : Nat → Nat) (w00 w : World) (hC : CmpOK blk n ce cf w00) (hO : Ord n cf) (hR : RowAt w blk 25 n cap ce q) (hw : But blk w00 w) (ham : a + 1 < m) (hbn : m + 1 ≤ n) (hn : n < 4611686018427387904) (hq : ∀ s, s < n → q s < n) (hS : Srt cf a m q) (hX : ∀ s, a ≤ s → s < m → q s < q m) :
    Calls Try.prog 39 #[.slice (some ⟨blk, 0, none⟩) n cap, .int .i64 a, .int .i64 m, .int .i64 ((m : Int) + 1), FV] w fun r W => r = .returned (.tuple #[]) ∧ ∃ q', RowAt W blk 25 n cap ce q' ∧ But blk w W ∧ Win a (m + 1) q q' ∧ Srt cf a (m + 1) q' := by
  have HC := Aside0.mk hC
  have HO := Aside0.mk hO
  have HR := Aside0.mk hR
  have HW := Aside0.mk hw
  have HQ := Aside0.mk hq
  have HS := Aside0.mk hS
  have HX := Aside0.mk hX
  clear hC hO hR hw hq hS hX
  have c0 : ((m : Int) - (a : Int) == 1) = false := by simp; omega
  have c1 : ((m : Int) + 1 - (m : Int) == 1) = true := by simp; omega
  go_enter Try.func39, Try.ntmps39
  go_wp2
  go_loopg [14, 15] m (fun g vi vj wr => ∃ i j : Nat, vi = .int .i64 i ∧ vj = .int .i64 j ∧ a ≤ i ∧ i ≤ j ∧ j ≤ m ∧ j - i ≤ g ∧ Aside0 (∀ s, a ≤ s → s < i → ¬ cf (q m) (q s) < 0) ∧ Aside0 (∀ s, j ≤ s → s < m → cf (q m) (q s) < 0) ∧ Aside0 (Below w.heap.size w wr))
  case atStart => exact ⟨a, m, rfl, rfl, by omega, by omega, by omega, by omega, ⟨fun s h1 h2 => by omega⟩, ⟨fun s h1 h2 => by omega⟩, ⟨Below.refl _ _⟩⟩
  case round =>
    obtain ⟨i, j, rfl, rfl, hi, hij, hj, hg, HL, HG, HB⟩ := hrel
    by_cases hlt : i < j
    · have hltz : (i : Int) < (j : Int) := by omega
      obtain ⟨h, hh⟩ : ∃ h, h = (i + j) / 2 := ⟨_, rfl⟩
      have hh1 : i ≤ h := by omega
      have hh2 : h < j := by omega
      have eh : ((i : Int) + (j : Int)) / 2 = (h : Int) := by omega
      have HH := Aside0.mk hh
      clear hh
      obtain ⟨y, hy⟩ : ∃ y, q h = y := ⟨_, rfl⟩
      obtain ⟨x, hx⟩ : ∃ x, q m = x := ⟨_, rfl⟩
      have hxn : x < n := by rw [← hx]; exact HQ.out m (by omega)
      have hyn : y < n := by rw [← hy]; exact HQ.out h (by omega)
      have k0 := (HR.out.below HB.out).cell0 m (by omega)
      have k1 := (HR.out.below HB.out).cell1 m (by omega)
      have k2 := (HR.out.below HB.out).cell0 h (by omega)
      have k3 := (HR.out.below HB.out).cell1 h (by omega)
      rw [hx] at k0 k1
      rw [hy] at k2 k3
      have d0 := fun p : BelowOf wr => cellB k0 p
      have d1 := fun p : BelowOf wr => cellB k1 p
      have d2 := fun p : BelowOf wr => cellB k2 p
      have d3 := fun p : BelowOf wr => cellB k3 p
      have hcB : ∀ p : BelowOf wr, Calls Try.prog 17 #[.agg #[.slice (ce x).A (ce x).l (ce x).c, .int .i64 (ce x).z], .agg #[.slice (ce y).A (ce y).l (ce y).c, .int .i64 (ce y).z]] p.val (fun e w'' => e = .returned (.int .i64 (cf x y)) ∧ ∃ q : BelowOf wr, w'' = q.val) := fun p => callsB (HC.out.calls x y p.val (hxn) (hyn) ((HW.out.below HB.out).below p.prop))
      clear k0 k1 k2 k3
      have HX' := Aside0.mk hx
      have HY := Aside0.mk hy
      clear hx hy
      have z1 : (h : Int) < (n : Int) := by omega
      have z2 : (m : Int) < (n : Int) := by omega
      have Heh := Aside0.mk eh
      clear eh
      by_cases hlv : cf x y < 0
      · have hlz : decide (cf x y < 0) = true := decide_eq_true hlv
        go_wp2_with fail
        simp only [Heh.out]
        refine wp_region_quiet_below (by kernel_rfl) (by kernel_rfl) ?_
        repeat (quiet_step ((go_at_call 17; exact hcB _)))
        refine wpQuiet_nil ?_
        intro W2 hw'
        have hb2 : Below wr.heap.size wr W2 := by
          obtain ⟨pq, hpq⟩ := hw'
          rw [hpq]; exact pq.prop
        clear hw'
        clear d0 d1 d2 d3 hcB
        go_wp2
        go_roundg (h - i)
        case measure => omega
        case rel =>
          refine ⟨i, h, rfl, rfl, by omega, by omega, by omega, by omega, HL, ⟨fun s s1 s2 => ?_⟩, ⟨HB.out.trans (hb2.mono HB.out.size)⟩⟩
          rw [HX'.out]
          by_cases e : s = h
          · rw [e, HY.out]; exact hlv
          · have l1 := HS.out h s (by omega) (by omega) (by omega)
            rw [HY.out] at l1
            exact lt0_of2 HO.out hxn hyn (HQ.out s (by omega)) hlv l1
      · have hlz : decide (cf x y < 0) = false := decide_eq_false hlv
        go_wp2_with fail
        simp only [Heh.out]
        refine wp_region_quiet_below (by kernel_rfl) (by kernel_rfl) ?_
        repeat (quiet_step ((go_at_call 17; exact hcB _)))
        refine wpQuiet_nil ?_
        intro W2 hw'
        have hb2 : Below wr.heap.size wr W2 := by
          obtain ⟨pq, hpq⟩ := hw'
          rw [hpq]; exact pq.prop
        clear hw'
        clear d0 d1 d2 d3 hcB
        go_wp2
        go_roundg (j - (h + 1))
        case measure => omega
        case rel =>
          refine ⟨h + 1, j, by go_num, rfl, by omega, by omega, by omega, by omega, ⟨fun s s1 s2 => ?_⟩, HG, ⟨HB.out.trans (hb2.mono HB.out.size)⟩⟩
          rw [HX'.out]
          by_cases e : s = h
          · rw [e, HY.out]; omega
          · have l1 := HS.out s h (by omega) (by omega) (by omega)
            rw [HY.out] at l1
            have : ¬ cf x (q s) < 0 := fun h3 => (show ¬ cf x y < 0 by omega) (lt0_of2 HO.out hxn (HQ.out s (by omega)) hyn h3 l1)
            omega
    · have hltz : ¬ (i : Int) < (j : Int) := by omega
      obtain rfl : i = j := by omega
      have HRw := Aside0.mk (HR.out.below HB.out)
      have HBw := Aside0.mk (But.of_below (b := blk) HB.out)
      clear HB
      go_wp2
      go_loopg [17] (m + 1) (fun g vk wr => ∃ k : Nat, vk = .int .i64 k ∧ i ≤ k ∧ k ≤ m ∧ k - i ≤ g ∧ Aside0 (RowAt wr blk 25 n cap ce (shr q m k)) ∧ Aside0 (But blk w wr))
      case atStart => exact ⟨m, rfl, by omega, by omega, by omega, ⟨HRw.out.congr (fun s _ => shr_zero q m s)⟩, HBw⟩
      case round =>
        obtain ⟨k, rfl, hik, hkm, hg, HR2, HB2⟩ := hrel
        by_cases hlt2 : i < k
        · have hltz2 : (i : Int) < (k : Int) := by omega
          obtain ⟨kp, rfl⟩ : ∃ kp, k = kp + 1 := ⟨k - 1, by omega⟩
          have q0 := HR2.out.cell0 (kp + 1) (by omega)
          have q1 := HR2.out.cell1 (kp + 1) (by omega)
          have q2 := HR2.out.cell0 kp (by omega)
          have q3 := HR2.out.cell1 kp (by omega)
          have f0 := HR2.out.frozen ((kp + 1) * 2)
          have f1 := HR2.out.frozen ((kp + 1) * 2 + 1)
          have f2 := HR2.out.frozen (kp * 2)
          have f3 := HR2.out.frozen (kp * 2 + 1)
          have ec : ((kp + 1 : Nat) : Int) = (kp : Int) + 1 := by omega
          rw [ec]
          rw [ec] at hltz2
          clear ec
          have z0 : (0 : Int) ≤ (kp : Int) + 1 := by omega
          have z1 : (kp : Int) + 1 < (n : Int) := by omega
          have z2 : (kp : Int) < (n : Int) := by omega
          have e0 : ((kp : Int) + 1).toNat = kp + 1 := by omega
          have hwp : IntKind.i64.wrap (kp : Int) = (kp : Int) := by rw [IntKind.wrap_i64]; omega
          go_wp2_with fail
          go_region
          have HR3 := Aside0.mk ((HR2.out.swap (kp + 1) kp (by omega) (by omega)).drew.congr (fun s _ => shr_succ q m kp s hkm))
          have HB3 := Aside0.mk (((((HB2.out.set ((kp + 1) * 2) (.slice (ce (shr q m (kp + 1) kp)).A (ce (shr q m (kp + 1) kp)).l (ce (shr q m (kp + 1) kp)).c)).set ((kp + 1) * 2 + 1) (.int .i64 (ce (shr q m (kp + 1) kp)).z)).set (kp * 2) (.slice (ce (shr q m (kp + 1) (kp + 1))).A (ce (shr q m (kp + 1) (kp + 1))).l (ce (shr q m (kp + 1) (kp + 1))).c)).set (kp * 2 + 1) (.int .i64 (ce (shr q m (kp + 1) (kp + 1))).z)).drew)
          clear q0 q1 q2 q3 f0 f1 f2 f3 e0
          go_wp2
          go_roundg (kp - i)
          case measure => omega
          case rel => exact ⟨kp, by go_num, by omega, by omega, by omega, HR3, HB3⟩
        · have hltz2 : ¬ (i : Int) < (k : Int) := by omega
          obtain rfl : i = k := by omega
          go_wp2
          (try simp only [Exit.inBlock, Exit.then])
          refine bodyPost_ret (results_none rfl _ _ _) rfl ?_
          exact ⟨rfl, _, HR2.out, HB2.out, shr_win q a i m hi hkm, shr_srt q a i m HO.out hbn HQ.out HS.out HX.out hi hkm (fun s s1 s2 => by have := HL.out s s1 s2; omega) HG.out⟩
end Go.Proofs.Ytladdncfhjjppaa.HSort
