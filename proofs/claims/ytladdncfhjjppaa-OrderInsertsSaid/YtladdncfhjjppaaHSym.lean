import Derived.Test.YtladdncfhjjppaaHIns
namespace Go.Proofs.Ytladdncfhjjppaa.HSort
open Go.RowKit Go.Proofs.YtladdncfhjjppaaW.PrintWords Go.Proofs.YtladdncfhjjppaaW.XRow
set_option linter.unusedVariables false
/-- Element a is laid behind those up to k. -/
def shl (q : Nat → Nat) (a k : Nat) : Nat → Nat := fun s => if a ≤ s ∧ s < k then q (s + 1) else if s = k then q a else q s
/-- Element m is laid ahead of those from k on. -/
def shr (q : Nat → Nat) (m k : Nat) : Nat → Nat := fun s => if s = k then q m else if k < s ∧ s ≤ m then q (s - 1) else q s

/-- What a merge asks and gives. -/
def Said (blk n cap : Nat) (ce : Nat → El) (cf : Nat → Nat → Int) (w00 : World) (d : Nat) : Prop :=
  ∀ (a m b : Nat) (ai mi bi : Int) (q : Nat → Nat) (w : World), ai = a → mi = m → bi = b → b - a ≤ d → a < m → m < b → b ≤ n → RowAt w blk 25 n cap ce q → But blk w00 w → (∀ s, s < n → q s < n) → Srt cf a m q → Srt cf m b q → (∀ s t, a ≤ s → s < m → m ≤ t → t < b → q s < q t) →
    Calls Try.prog 39 #[.slice (some ⟨blk, 0, none⟩) n cap, .int .i64 ai, .int .i64 mi, .int .i64 bi, FV] w fun r W => r = .returned (.tuple #[]) ∧ ∃ q', RowAt W blk 25 n cap ce q' ∧ But blk w W ∧ Win a b q q' ∧ Srt cf a b q'

theorem lt0_of {n : Nat} {cf : Nat → Nat → Int} (h : Ord n cf) {x y z : Nat} (hx : x < n) (hy : y < n) (hz : z < n) (h1 : lt' cf x y) (h2 : cf y z < 0) : cf x z < 0 := by
  have t := h.trans x y z hx hy hz
  have t1 := h.trans z x y hz hx hy
  have a3 := h.anti y z hy hz
  have a5 := h.anti x z hx hz
  have a6 := h.anti z x hz hx
  unfold lt' at *
  omega
theorem ge0_of {n : Nat} {cf : Nat → Nat → Int} (h : Ord n cf) {x y z : Nat} (hx : x < n) (hy : y < n) (hz : z < n) (h1 : lt' cf x y) (h2 : ¬ cf x z < 0) : ¬ cf y z < 0 := fun h3 => h2 (lt0_of h hx hy hz h1 h3)

theorem shl_zero (q : Nat → Nat) (a s : Nat) : shl q a a s = q s := by
  unfold shl
  rw [if_neg (by omega)]
  split
  · rename_i h; rw [h]
  · rfl
theorem shl_succ (q : Nat → Nat) (a k s : Nat) (h : a ≤ k) : shl q a (k + 1) s = sw (shl q a k) k (k + 1) s := by
  unfold sw
  by_cases h1 : s = k + 1
  · rw [if_pos h1]; unfold shl
    rw [if_neg (by omega), if_pos h1, if_neg (by omega), if_pos rfl]
  · by_cases h2 : s = k
    · rw [if_neg h1, if_pos h2]; unfold shl
      rw [if_pos (by omega), if_neg (by omega), if_neg (by omega), h2]
    · rw [if_neg h1, if_neg h2]; unfold shl
      by_cases h3 : a ≤ s ∧ s < k
      · rw [if_pos h3, if_pos (by omega)]
      · rw [if_neg h3, if_neg (by omega), if_neg h1, if_neg h2]
theorem shl_win (q : Nat → Nat) (a k b : Nat) (h : a ≤ k) (hb : k < b) : Win a b q (shl q a k) where
  out := fun s hs => by unfold shl; rw [if_neg (by omega), if_neg (by omega)]
  into := fun s h1 h2 => by
    unfold shl
    by_cases e : a ≤ s ∧ s < k
    · rw [if_pos e]; exact ⟨s + 1, by omega, by omega, rfl⟩
    · rw [if_neg e]
      by_cases e2 : s = k
      · rw [if_pos e2]; exact ⟨a, by omega, by omega, rfl⟩
      · rw [if_neg e2]; exact ⟨s, h1, h2, rfl⟩
  onto := fun t h1 h2 => by
    by_cases e : t = a
    · exact ⟨k, h, hb, by unfold shl; rw [if_neg (by omega), if_pos rfl, e]⟩
    · by_cases e2 : t ≤ k
      · exact ⟨t - 1, by omega, by omega, by unfold shl; rw [if_pos (by omega)]; congr 1; omega⟩
      · exact ⟨t, h1, h2, by unfold shl; rw [if_neg (by omega), if_neg (by omega)]⟩
theorem shl_srt {n : Nat} {cf : Nat → Nat → Int} (q : Nat → Nat) (a k b : Nat) (hO : Ord n cf) (hbn : b ≤ n) (hq : ∀ s, s < n → q s < n) (hS : Srt cf (a + 1) b q) (hX : ∀ t, a + 1 ≤ t → t < b → q a < q t) (h : a ≤ k) (hb : k < b)
    (hL : ∀ s, a + 1 ≤ s → s < k + 1 → cf (q s) (q a) < 0) (hG : ∀ s, k + 1 ≤ s → s < b → ¬ cf (q s) (q a) < 0) : Srt cf a b (shl q a k) := fun s t h1 h2 h3 => by
  unfold shl
  by_cases e1 : a ≤ s ∧ s < k
  · rw [if_pos e1]
    by_cases e2 : a ≤ t ∧ t < k
    · rw [if_pos e2]; exact hS _ _ (by omega) (by omega) (by omega)
    · rw [if_neg e2]
      by_cases e3 : t = k
      · rw [if_pos e3]; exact .inl (hL _ (by omega) (by omega))
      · rw [if_neg e3]; exact hS _ _ (by omega) (by omega) (by omega)
  · rw [if_neg e1]
    by_cases e4 : s = k
    · rw [if_pos e4, if_neg (by omega), if_neg (by omega)]
      exact lt'_of_ge hO (hq t (by omega)) (hq a (by omega)) (hX t (by omega) h3) (hG t (by omega) h3)
    · rw [if_neg e4, if_neg (by omega), if_neg (by omega)]; exact hS _ _ (by omega) h2 h3

set_option maxHeartbeats 4000000 in
set_option maxRecDepth 100000 in
theorem sym_one (blk n cap a b : Nat) (ce : Nat → El) (cf : Nat → Nat → Int) (q : Nat → Nat) (w00 w : World) (hC : CmpOK blk n ce cf w00) (hO : Ord n cf) (hR : RowAt w blk 25 n cap ce q) (hw : But blk w00 w) (hmb : a + 1 < b) (hbn : b ≤ n) (hn : n < 4611686018427387904) (hq : ∀ s, s < n → q s < n) (hS : Srt cf (a + 1) b q) (hX : ∀ t, a + 1 ≤ t → t < b → q a < q t) :
    Calls Try.prog 39 #[.slice (some ⟨blk, 0, none⟩) n cap, .int .i64 a, .int .i64 ((a : Int) + 1), .int .i64 b, FV] w fun r W => r = .returned (.tuple #[]) ∧ ∃ q', RowAt W blk 25 n cap ce q' ∧ But blk w W ∧ Win a b q q' ∧ Srt cf a b q' := by
  have HC := Aside0.mk hC
  have HO := Aside0.mk hO
  have HR := Aside0.mk hR
  have HW := Aside0.mk hw
  have HQ := Aside0.mk hq
  have HS := Aside0.mk hS
  have HX := Aside0.mk hX
  clear hC hO hR hw hq hS hX
  have c0 : ((a : Int) + 1 - (a : Int) == 1) = true := by simp; omega
  go_enter Try.func39, Try.ntmps39
  go_wp2
  go_loopg [10, 11] b (fun g vi vj wr => ∃ i j : Nat, vi = .int .i64 i ∧ vj = .int .i64 j ∧ a + 1 ≤ i ∧ i ≤ j ∧ j ≤ b ∧ j - i ≤ g ∧ Aside0 (∀ s, a + 1 ≤ s → s < i → cf (q s) (q a) < 0) ∧ Aside0 (∀ s, j ≤ s → s < b → ¬ cf (q s) (q a) < 0) ∧ Aside0 (Below w.heap.size w wr))
  case atStart => exact ⟨a + 1, b, by go_num, rfl, by omega, by omega, by omega, by omega, ⟨fun s h1 h2 => by omega⟩, ⟨fun s h1 h2 => by omega⟩, ⟨Below.refl _ _⟩⟩
  case round =>
    obtain ⟨i, j, rfl, rfl, hi, hij, hj, hg, HL, HG, HB⟩ := hrel
    by_cases hlt : i < j
    · have hltz : (i : Int) < (j : Int) := by omega
      obtain ⟨h, hh⟩ : ∃ h, h = (i + j) / 2 := ⟨_, rfl⟩
      have hh1 : i ≤ h := by omega
      have hh2 : h < j := by omega
      have eh : ((i : Int) + (j : Int)) / 2 = (h : Int) := by omega
      have HH := Aside0.mk hh
      clear hh
      obtain ⟨x, hx⟩ : ∃ x, q h = x := ⟨_, rfl⟩
      obtain ⟨y, hy⟩ : ∃ y, q a = y := ⟨_, rfl⟩
      have hxn : x < n := by rw [← hx]; exact HQ.out h (by omega)
      have hyn : y < n := by rw [← hy]; exact HQ.out a (by omega)
      have c0 := (HR.out.below HB.out).cell0 h (by omega)
      have c1 := (HR.out.below HB.out).cell1 h (by omega)
      have c2 := (HR.out.below HB.out).cell0 a (by omega)
      have c3 := (HR.out.below HB.out).cell1 a (by omega)
      rw [hx] at c0 c1
      rw [hy] at c2 c3
      have d0 := fun p : BelowOf wr => cellB c0 p
      have d1 := fun p : BelowOf wr => cellB c1 p
      have d2 := fun p : BelowOf wr => cellB c2 p
      have d3 := fun p : BelowOf wr => cellB c3 p
      have hcB : ∀ p : BelowOf wr, Calls Try.prog 17 #[.agg #[.slice (ce x).A (ce x).l (ce x).c, .int .i64 (ce x).z], .agg #[.slice (ce y).A (ce y).l (ce y).c, .int .i64 (ce y).z]] p.val (fun e w'' => e = .returned (.int .i64 (cf x y)) ∧ ∃ q : BelowOf wr, w'' = q.val) := fun p => callsB (HC.out.calls x y p.val (hxn) (hyn) ((HW.out.below HB.out).below p.prop))
      clear c0 c1 c2 c3
      have HX' := Aside0.mk hx
      have HY := Aside0.mk hy
      clear hx hy
      have z1 : (h : Int) < (n : Int) := by omega
      have z2 : (a : Int) < (n : Int) := by omega
      have Heh := Aside0.mk eh
      clear eh
      by_cases hlv : cf x y < 0
      · have hlz : decide (cf x y < 0) = true := decide_eq_true hlv
        go_wp2_with fail
        simp only [Heh.out]
        refine wp_region_quiet_below (by kernel_rfl) (by kernel_rfl) ?_
        repeat (quiet_step ((go_at_call 17; exact hcB _)))
        refine wpQuiet_nil ?_
        intro W2 hw'
        have hb2 : Below wr.heap.size wr W2 := by
          obtain ⟨pq, hpq⟩ := hw'
          rw [hpq]; exact pq.prop
        clear hw'
        clear d0 d1 d2 d3 hcB
        go_wp2
        go_roundg (j - (h + 1))
        case measure => omega
        case rel =>
          refine ⟨h + 1, j, by go_num, rfl, by omega, by omega, by omega, by omega, ⟨fun s s1 s2 => ?_⟩, HG, ⟨HB.out.trans (hb2.mono HB.out.size)⟩⟩
          rw [HY.out]
          by_cases e : s = h
          · rw [e, HX'.out]; exact hlv
          · have l1 := HS.out s h (by omega) (by omega) (by omega)
            rw [HX'.out] at l1
            exact lt0_of HO.out (HQ.out s (by omega)) hxn hyn l1 hlv
      · have hlz : decide (cf x y < 0) = false := decide_eq_false hlv
        go_wp2_with fail
        simp only [Heh.out]
        refine wp_region_quiet_below (by kernel_rfl) (by kernel_rfl) ?_
        repeat (quiet_step ((go_at_call 17; exact hcB _)))
        refine wpQuiet_nil ?_
        intro W2 hw'
        have hb2 : Below wr.heap.size wr W2 := by
          obtain ⟨pq, hpq⟩ := hw'
          rw [hpq]; exact pq.prop
        clear hw'
        clear d0 d1 d2 d3 hcB
        go_wp2
        go_roundg (h - i)
        case measure => omega
        case rel =>
          refine ⟨i, h, rfl, rfl, by omega, by omega, by omega, by omega, HL, ⟨fun s s1 s2 => ?_⟩, ⟨HB.out.trans (hb2.mono HB.out.size)⟩⟩
          rw [HY.out]
          by_cases e : s = h
          · rw [e, HX'.out]; omega
          · have l1 := HS.out h s (by omega) (by omega) (by omega)
            rw [HX'.out] at l1
            have := ge0_of HO.out hxn (HQ.out s (by omega)) hyn l1 (by omega)
            omega
    · have hltz : ¬ (i : Int) < (j : Int) := by omega
      obtain rfl : i = j := by omega
      have HRw := Aside0.mk (HR.out.below HB.out)
      have HBw := Aside0.mk (But.of_below (b := blk) HB.out)
      clear HB
      have HHi := Aside0.mk hi
      obtain ⟨ip, rfl⟩ : ∃ ip, i = ip + 1 := ⟨i - 1, by omega⟩
      go_wp2
      go_loopg [13] (ip + 1) (fun g vk wr => ∃ k : Nat, vk = .int .i64 k ∧ a ≤ k ∧ k ≤ ip ∧ ip - k ≤ g ∧ Aside0 (RowAt wr blk 25 n cap ce (shl q a k)) ∧ Aside0 (But blk w wr))
      case atStart => exact ⟨a, rfl, by omega, by omega, by omega, ⟨HRw.out.congr (fun s _ => shl_zero q a s)⟩, HBw⟩
      case round =>
        obtain ⟨k, rfl, hak, hki, hg, HR2, HB2⟩ := hrel
        by_cases hlt2 : k < ip
        · have hltz2 : (k : Int) < (ip : Int) := by omega
          have q0 := HR2.out.cell0 k (by omega)
          have q1 := HR2.out.cell1 k (by omega)
          have q2 := HR2.out.cell0 (k + 1) (by omega)
          have q3 := HR2.out.cell1 (k + 1) (by omega)
          have f0 := HR2.out.frozen (k * 2)
          have f1 := HR2.out.frozen (k * 2 + 1)
          have f2 := HR2.out.frozen ((k + 1) * 2)
          have f3 := HR2.out.frozen ((k + 1) * 2 + 1)
          have z0 : (0 : Int) ≤ (k : Int) + 1 := by omega
          have z1 : (k : Int) + 1 < (n : Int) := by omega
          have z2 : (k : Int) < (n : Int) := by omega
          have e0 : ((k : Int) + 1).toNat = k + 1 := by omega
          go_wp2_with fail
          go_region
          have HR3 := Aside0.mk ((HR2.out.swap k (k + 1) (by omega) (by omega)).drew.congr (fun s _ => shl_succ q a k s hak))
          have HB3 := Aside0.mk (((((HB2.out.set (k * 2) (.slice (ce (shl q a k (k + 1))).A (ce (shl q a k (k + 1))).l (ce (shl q a k (k + 1))).c)).set (k * 2 + 1) (.int .i64 (ce (shl q a k (k + 1))).z)).set ((k + 1) * 2) (.slice (ce (shl q a k k)).A (ce (shl q a k k)).l (ce (shl q a k k)).c)).set ((k + 1) * 2 + 1) (.int .i64 (ce (shl q a k k)).z)).drew)
          clear q0 q1 q2 q3 f0 f1 f2 f3 e0
          go_wp2
          go_roundg (ip - (k + 1))
          case measure => omega
          case rel => exact ⟨k + 1, by go_num, by omega, by omega, by omega, HR3, HB3⟩
        · have hltz2 : ¬ (k : Int) < (ip : Int) := by omega
          obtain rfl : k = ip := by omega
          go_wp2
          (try simp only [Exit.inBlock, Exit.then])
          refine bodyPost_ret (results_none rfl _ _ _) rfl ?_
          exact ⟨rfl, _, HR2.out, HB2.out, shl_win q a k b hak (by omega), shl_srt q a k b HO.out hbn HQ.out HS.out HX.out hak (by omega) HL.out (fun s s1 s2 => by have := HG.out s s1 s2; omega)⟩
end Go.Proofs.Ytladdncfhjjppaa.HSort
