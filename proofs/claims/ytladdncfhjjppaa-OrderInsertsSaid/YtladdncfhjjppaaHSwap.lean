import Derived.Test.YtladdncfhjjppaaXRow
import Derived.Test.YtladdncfhjjppaaPAx3
import Derived.BigRegion
namespace Go.Proofs.Ytladdncfhjjppaa.HSort
open Go.RowKit Go.Proofs.YtladdncfhjjppaaW.PrintWords Go.Proofs.YtladdncfhjjppaaW.XRow
set_option linter.unusedVariables false
abbrev FV : Value := .func (.func 17) #[] #[]

/-- The blocks at a and at e, each of c places, exchanged up to i. -/
def xch (q : Nat → Nat) (a e i : Nat) : Nat → Nat := fun s => if a ≤ s ∧ s < a + i then q (s - a + e) else if e ≤ s ∧ s < e + i then q (s - e + a) else q s

theorem xch_zero (q : Nat → Nat) (a e s : Nat) : xch q a e 0 s = q s := by
  unfold xch
  rw [if_neg (by omega), if_neg (by omega)]

theorem xch_succ (q : Nat → Nat) (a e i s : Nat) (h : a + i < e) : xch q a e (i + 1) s = sw (xch q a e i) (a + i) (e + i) s := by
  unfold sw
  by_cases h1 : s = e + i
  · subst h1
    rw [if_pos rfl]
    unfold xch
    rw [if_neg (by omega), if_pos (by omega), if_neg (by omega), if_neg (by omega)]
    congr 1; omega
  · by_cases h2 : s = a + i
    · subst h2
      rw [if_neg h1, if_pos rfl]
      unfold xch
      rw [if_pos (by omega), if_neg (by omega), if_neg (by omega)]
      congr 1; omega
    · rw [if_neg h1, if_neg h2]
      unfold xch
      by_cases h3 : a ≤ s ∧ s < a + i
      · rw [if_pos h3, if_pos (by omega)]
      · rw [if_neg h3, if_neg (by omega)]
        by_cases h4 : e ≤ s ∧ s < e + i
        · rw [if_pos h4, if_pos (by omega)]
        · rw [if_neg h4, if_neg (by omega)]

set_option maxHeartbeats 2000000 in
set_option maxRecDepth 100000 in
theorem swapRange (blk n cap a e c : Nat) (ce : Nat → El) (q : Nat → Nat) (w : World) (hR : RowAt w blk 25 n cap ce q) (hae : a + c ≤ e) (hen : e + c ≤ n) (hn : n < 4611686018427387904) :
    Calls Try.prog 41 #[.slice (some ⟨blk, 0, none⟩) n cap, .int .i64 a, .int .i64 e, .int .i64 c, FV] w fun r W => r = .returned (.tuple #[]) ∧ RowAt W blk 25 n cap ce (xch q a e c) ∧ But blk w W := by
  have HR := Aside0.mk hR
  clear hR
  go_enter Try.func41, Try.ntmps41
  go_wp2
  go_loopg [10] c (fun g vi wr => ∃ i : Nat, vi = .int .i64 i ∧ i ≤ c ∧ c - i ≤ g ∧ Aside0 (RowAt wr blk 25 n cap ce (xch q a e i)) ∧ Aside0 (But blk w wr))
  case atStart => exact ⟨0, by go_num, by omega, by omega, ⟨HR.out.congr (fun j _ => xch_zero q a e j)⟩, ⟨But.refl _ _⟩⟩
  case round =>
    obtain ⟨i, rfl, hic, hg, HRi, HB⟩ := hrel
    by_cases hlt : i < c
    · have hltz : (i : Int) < (c : Int) := by omega
      have q0 := HRi.out.cell0 (a + i) (by omega)
      have q1 := HRi.out.cell1 (a + i) (by omega)
      have q2 := HRi.out.cell0 (e + i) (by omega)
      have q3 := HRi.out.cell1 (e + i) (by omega)
      have f0 := HRi.out.frozen ((a + i) * 2)
      have f1 := HRi.out.frozen ((a + i) * 2 + 1)
      have f2 := HRi.out.frozen ((e + i) * 2)
      have f3 := HRi.out.frozen ((e + i) * 2 + 1)
      go_wp2
      have b0 : (0:Int) ≤ (a:Int) + (i:Int) := by omega
      have b1 : (a:Int) + (i:Int) < (n:Int) := by omega
      have b2 : (0:Int) ≤ (e:Int) + (i:Int) := by omega
      have b3 : (e:Int) + (i:Int) < (n:Int) := by omega
      have e0 : ((a:Int) + (i:Int)).toNat = a + i := by omega
      have e1 : ((e:Int) + (i:Int)).toNat = e + i := by omega
      go_region
      have HR2 := Aside0.mk ((HRi.out.swap (a + i) (e + i) (by omega) (by omega)).drew.congr (fun s _ => xch_succ q a e i s (by omega)))
      have HB2 := Aside0.mk (((((HB.out.set ((a + i) * 2) (.slice (ce (xch q a e i (e + i))).A (ce (xch q a e i (e + i))).l (ce (xch q a e i (e + i))).c)).set ((a + i) * 2 + 1) (.int .i64 (ce (xch q a e i (e + i))).z)).set ((e + i) * 2) (.slice (ce (xch q a e i (a + i))).A (ce (xch q a e i (a + i))).l (ce (xch q a e i (a + i))).c)).set ((e + i) * 2 + 1) (.int .i64 (ce (xch q a e i (a + i))).z)).drew)
      clear q0 q1 q2 q3 f0 f1 f2 f3 e0 e1
      go_wp2
      go_roundg (c - (i + 1))
      case measure => omega
      case rel => exact ⟨i + 1, by go_num, by omega, by omega, HR2, HB2⟩
    · have hltz : ¬ (i : Int) < (c : Int) := by omega
      go_wp2
      go_end0
      obtain rfl : i = c := by omega
      exact ⟨rfl, HRi.out, HB.out⟩
theorem swapRangeI (blk n cap a e c : Nat) (ai ei ci : Int) (ha : ai = a) (he : ei = e) (hc : ci = c) (ce : Nat → El) (q : Nat → Nat) (w : World) (hR : RowAt w blk 25 n cap ce q) (hae : a + c ≤ e) (hen : e + c ≤ n) (hn : n < 4611686018427387904) :
    Calls Try.prog 41 #[.slice (some ⟨blk, 0, none⟩) n cap, .int .i64 ai, .int .i64 ei, .int .i64 ci, FV] w fun r W => r = .returned (.tuple #[]) ∧ RowAt W blk 25 n cap ce (xch q a e c) ∧ But blk w W := by
  subst ha he hc
  exact swapRange blk n cap a e c ce q w hR hae hen hn

/-- The places from a to m go behind those from m to e. -/
def rot (q : Nat → Nat) (a m e : Nat) : Nat → Nat := fun s => if a ≤ s ∧ s < a + (e - m) then q (s - a + m) else if a + (e - m) ≤ s ∧ s < e then q (s - (a + (e - m)) + a) else q s
theorem rot_eq (q : Nat → Nat) (m i s : Nat) (h : i ≤ m) : xch q (m - i) m i s = rot q (m - i) m (m + i) s := by
  unfold xch rot
  repeat' split
  all_goals first | omega | rfl | (congr 1; omega)
theorem rot_gt (q : Nat → Nat) (m i j s : Nat) (h : j < i) (hm : i ≤ m) : rot (xch q (m - i) m j) (m - (i - j)) m (m + j) s = rot q (m - i) m (m + j) s := by
  unfold rot xch
  repeat' split
  all_goals first | omega | rfl | (congr 1; omega)
theorem rot_lt (q : Nat → Nat) (m i j s : Nat) (h : i < j) (hm : i ≤ m) : rot (xch q (m - i) (m + j - i) i) (m - i) m (m + (j - i)) s = rot q (m - i) m (m + j) s := by
  unfold rot xch
  repeat' split
  all_goals first | omega | rfl | (congr 1; omega)

set_option maxHeartbeats 2000000 in
set_option maxRecDepth 100000 in
theorem rotate (blk n cap a m e : Nat) (ai mi ei : Int) (ha : ai = a) (hm : mi = m) (he : ei = e) (ce : Nat → El) (q : Nat → Nat) (w : World) (hR : RowAt w blk 25 n cap ce q) (ham : a < m) (hme : m < e) (hen : e ≤ n) (hn : n < 4611686018427387904) :
    Calls Try.prog 40 #[.slice (some ⟨blk, 0, none⟩) n cap, .int .i64 ai, .int .i64 mi, .int .i64 ei, FV] w fun r W => r = .returned (.tuple #[]) ∧ RowAt W blk 25 n cap ce (rot q a m e) ∧ But blk w W := by
  subst ha hm he
  have HR := Aside0.mk hR
  clear hR
  go_enter Try.func40, Try.ntmps40
  go_wp2
  go_loopg [10, 11] e (fun g vi vj wr => ∃ (i j : Nat) (q' : Nat → Nat), vi = .int .i64 i ∧ vj = .int .i64 j ∧ 1 ≤ i ∧ 1 ≤ j ∧ i ≤ m ∧ m + j ≤ e ∧ i + j ≤ g ∧ a ≤ m - i ∧ Aside0 (∀ s, rot q' (m - i) m (m + j) s = rot q a m e s) ∧ Aside0 (RowAt wr blk 25 n cap ce q') ∧ Aside0 (But blk w wr))
  case atStart => exact ⟨m - a, e - m, q, by go_num, by go_num, by omega, by omega, by omega, by omega, by omega, by omega, ⟨fun s => by rw [show m - (m - a) = a by omega, show m + (e - m) = e by omega]⟩, HR, ⟨But.refl _ _⟩⟩
  case round =>
    obtain ⟨i, j, q', rfl, rfl, hi, hj, him, hje, hg, hai, HQ, HRi, HB⟩ := hrel
    rcases Nat.lt_trichotomy i j with hlt | heq | hgt
    · have c1 : ((i : Int) == (j : Int)) = false := by simp; omega
      have c2 : ((i : Int) != (j : Int)) = true := by simp; omega
      have c3 : ¬ (j : Int) < (i : Int) := by omega
      go_wp2_with (go_at_call 41; refine (swapRangeI blk n cap (m - i) (m + j - i) i _ _ _ (by omega) (by omega) rfl ce q' _ HRi.out (by omega) (by omega) hn).mono ?_; rintro r W1 ⟨rfl, hR1, hB1⟩; have HR1 := Aside0.mk hR1; have HB1 := Aside0.mk (HB.out.trans hB1); clear hR1 hB1)
      go_roundg j
      case measure => omega
      case rel => exact ⟨i, j - i, _, rfl, by go_num, by omega, by omega, by omega, by omega, by omega, by omega, ⟨fun s => (rot_lt q' m i j s hlt him).trans (HQ.out s)⟩, HR1, HB1⟩
    · subst heq
      have c1 : ((i : Int) == (i : Int)) = true := by simp
      have c2 : ((i : Int) != (i : Int)) = false := by simp
      go_wp2_with (go_at_call 41; refine (swapRangeI blk n cap (m - i) m i _ _ _ (by omega) (by omega) rfl ce q' _ HRi.out (by omega) (by omega) hn).mono ?_; rintro r W1 ⟨rfl, hR1, hB1⟩; have HR1 := Aside0.mk hR1; have HB1 := Aside0.mk (HB.out.trans hB1); clear hR1 hB1)
      go_end0
      exact ⟨rfl, HR1.out.congr (fun s _ => by rw [← HQ.out s]; exact (rot_eq q' m i s him).symm), HB1.out⟩
    · have c1 : ((i : Int) == (j : Int)) = false := by simp; omega
      have c2 : ((i : Int) != (j : Int)) = true := by simp; omega
      have c3 : (j : Int) < (i : Int) := by omega
      go_wp2_with (go_at_call 41; refine (swapRangeI blk n cap (m - i) m j _ _ _ (by omega) (by omega) rfl ce q' _ HRi.out (by omega) (by omega) hn).mono ?_; rintro r W1 ⟨rfl, hR1, hB1⟩; have HR1 := Aside0.mk hR1; have HB1 := Aside0.mk (HB.out.trans hB1); clear hR1 hB1)
      go_roundg i
      case measure => omega
      case rel => exact ⟨i - j, j, _, by go_num, rfl, by omega, by omega, by omega, by omega, by omega, by omega, ⟨fun s => (rot_gt q' m i j s hgt him).trans (HQ.out s)⟩, HR1, HB1⟩
end Go.Proofs.Ytladdncfhjjppaa.HSort
