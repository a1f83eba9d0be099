import Derived.Test.YtladdncfhjjppaaHSym5
namespace Go.Proofs.Ytladdncfhjjppaa.HSort
open Go.RowKit Go.Proofs.YtladdncfhjjppaaW.PrintWords Go.Proofs.YtladdncfhjjppaaW.XRow
set_option linter.unusedVariables false

theorem symMerge (blk n cap : Nat) (ce : Nat → El) (cf : Nat → Nat → Int) (w00 : World) (hC : CmpOK blk n ce cf w00) (hO : Ord n cf) (hn : n < 4611686018427387904) (d : Nat) : Said blk n cap ce cf w00 d := by
  induction d with
  | zero => intro a m b ai mi bi q w _ _ _ hd ham hmb; omega
  | succ d ih =>
    intro a m b ai mi bi q w ha hm hb hd ham hmb hbn hR hw hq hS hT hX
    subst ha hm hb
    by_cases h1 : m = a + 1
    · subst h1
      have h := sym_one blk n cap a b ce cf q w00 w hC hO hR hw (by omega) hbn hn hq hT (fun t t1 t2 => hX a t (by omega) (by omega) t1 t2)
      exact h
    · by_cases h2 : b = m + 1
      · subst h2
        have h := sym_last blk n cap a m ce cf q w00 w hC hO hR hw (by omega) hbn hn hq hS (fun s s1 s2 => hX s m s1 s2 (by omega) (by omega))
        exact h
      · by_cases h3 : (a + b) / 2 < m
        · exact sym_stepA blk n cap ce cf w00 hC hO hn d ih a m b ((a + b) / 2) q w rfl hd (by omega) (by omega) hbn hR hw hq hS hT hX ((a + b) / 2 + m - b) ((a + b) / 2) ⟨h3, by omega, rfl⟩
        · exact sym_stepB blk n cap ce cf w00 hC hO hn d ih a m b ((a + b) / 2) q w rfl hd (by omega) (by omega) hbn hR hw hq hS hT hX a m ⟨by omega, rfl, rfl⟩

/-- Up to e each stretch of z places is sorted. -/
def Blk (cf : Nat → Nat → Int) (z e : Nat) (q : Nat → Nat) : Prop := ∀ c s t, z * c ≤ s → s < t → t < z * c + z → t < e → lt' cf (q s) (q t)
/-- Each stretch of z places holds its own elements. -/
def Loc (n z : Nat) (q : Nat → Nat) : Prop := ∀ c s, z * c ≤ s → s < z * c + z → s < n → z * c ≤ q s ∧ q s < z * c + z
theorem Loc.lt {n z : Nat} {q : Nat → Nat} (h : Loc n z q) {c s t : Nat} (h1 : z * c ≤ s) (h2 : s < z * c + z) (h3 : z * (c + 1) ≤ t) (h4 : t < z * (c + 1) + z) (ht : t < n) (hs : s < n) : q s < q t := by
  have a := h c s h1 h2 hs
  have b := h (c + 1) t h3 h4 ht
  have e : z * (c + 1) = z * c + z := Nat.mul_succ z c
  omega
theorem win_id_bnd {n : Nat} {q : Nat → Nat} (h : Win 0 n (fun s => s) q) (s : Nat) (hs : s < n) : q s < n := by
  obtain ⟨t, _, t2, e⟩ := h.into s (by omega) hs
  rw [e]; exact t2
/-- A stretch sorted, the others as they were. -/
theorem blk_ins {n : Nat} {cf : Nat → Nat → Int} {z a e k : Nat} {q q' : Nat → Nat} (hz : 0 < z) (ha : a = z * k) (he : a ≤ e) (hez : e ≤ a + z) (hen : e ≤ n) (hB : Blk cf z a q) (hL : Loc n z q) (hW : Win a e q q') (hS : Srt cf a e q') : Blk cf z e q' ∧ Loc n z q' := by
  refine ⟨fun c s t h1 h2 h3 h4 => ?_, fun c s h1 h2 h3 => ?_⟩
  · by_cases g : t < a
    · rw [hW.out s (by omega), hW.out t (by omega)]; exact hB c s t h1 h2 h3 g
    · have hck : c = k := by
        rcases Nat.lt_trichotomy c k with l | l | l
        · have := Nat.mul_le_mul_left z (show c + 1 ≤ k from l)
          rw [Nat.mul_succ] at this; omega
        · exact l
        · have := Nat.mul_le_mul_left z (show k + 1 ≤ c from l)
          rw [Nat.mul_succ] at this; omega
      subst hck
      exact hS s t (by omega) h2 h4
  · by_cases g : a ≤ s ∧ s < e
    · have hck : c = k := by
        rcases Nat.lt_trichotomy c k with l | l | l
        · have := Nat.mul_le_mul_left z (show c + 1 ≤ k from l)
          rw [Nat.mul_succ] at this; omega
        · exact l
        · have := Nat.mul_le_mul_left z (show k + 1 ≤ c from l)
          rw [Nat.mul_succ] at this; omega
      subst hck
      obtain ⟨t, t1, t2, e1⟩ := hW.into s g.1 g.2
      rw [e1]
      exact hL c t (by omega) (by omega) (by omega)
    · rw [hW.out s (by omega)]; exact hL c s h1 h2 h3

theorem loc_double {n z y : Nat} {q : Nat → Nat} (hy : y = z * 2) (h : Loc n z q) : Loc n y q := fun c s h1 h2 h3 => by
  subst hy
  have e0 : z * 2 * c = z * (2 * c) := by rw [Nat.mul_assoc]
  have e1 : z * (2 * c + 1) = z * (2 * c) + z := Nat.mul_succ _ _
  by_cases g : s < z * (2 * c) + z
  · have := h (2 * c) s (by omega) g h3
    omega
  · have := h (2 * c + 1) s (by omega) (by omega) h3
    omega
theorem pre_merge {n : Nat} {cf : Nat → Nat → Int} {z y a k : Nat} {q q' : Nat → Nat} (hy : y = z * 2) (ha : a = y * k) (hB : Blk cf z n q) (hL : Loc n z q) (hq : ∀ s, a ≤ s → q' s = q s) :
    (∀ e, e ≤ a + z → e ≤ n → Srt cf a e q') ∧ (∀ e, e ≤ a + z + z → e ≤ n → Srt cf (a + z) e q') ∧ (∀ s t, a ≤ s → s < a + z → a + z ≤ t → t < a + z + z → t < n → q' s < q' t) := by
  have e0 : z * (2 * k) = a := by rw [ha, hy, Nat.mul_assoc]
  have e1 : z * (2 * k + 1) = a + z := by rw [Nat.mul_succ, e0]
  refine ⟨fun e h1 h2 s t s1 s2 s3 => ?_, fun e h1 h2 s t s1 s2 s3 => ?_, fun s t s1 s2 t1 t2 t3 => ?_⟩
  · rw [hq s s1, hq t (by omega)]; exact hB (2 * k) s t (by omega) s2 (by omega) (by omega)
  · rw [hq s (by omega), hq t (by omega)]; exact hB (2 * k + 1) s t (by omega) s2 (by omega) (by omega)
  · rw [hq s s1, hq t (by omega)]; exact hL.lt (c := 2 * k) (by omega) (by omega) (by omega) (by omega) t3 (by omega)

set_option maxHeartbeats 4000000 in
set_option maxRecDepth 100000 in
theorem stable (blk n cap : Nat) (ni : Int) (hni : ni = n) (ce : Nat → El) (cf : Nat → Nat → Int) (w00 w : World) (hC : CmpOK blk n ce cf w00) (hO : Ord n cf) (hR : RowAt w blk 25 n cap ce (fun s => s)) (hw : But blk w00 w) (hn : n < 1000000000000) :
    Calls Try.prog 36 #[.slice (some ⟨blk, 0, none⟩) n cap, .int .i64 ni, FV] w fun r W => r = .returned (.tuple #[]) ∧ ∃ q', RowAt W blk 25 n cap ce q' ∧ But blk w W ∧ Win 0 n (fun s => s) q' ∧ Srt cf 0 n q' := by
  subst hni
  have HC := Aside0.mk hC
  have HO := Aside0.mk hO
  have HR := Aside0.mk hR
  have HW := Aside0.mk hw
  have HM := Aside0.mk (symMerge blk n cap ce cf w00 hC hO (by omega) n)
  clear hC hO hR hw
  go_enter Try.func36, Try.ntmps36
  go_wp2
  go_loopg [7, 8] n (fun g va vb wr => ∃ (k : Nat) (q1 : Nat → Nat), va = .int .i64 ((20 * k : Nat) : Int) ∧ vb = .int .i64 (((20 * k : Nat) : Int) + 20) ∧ 20 * k ≤ n ∧ n - 20 * k ≤ g ∧ Aside0 (Win 0 n (fun s => s) q1) ∧ Aside0 (∀ s, 20 * k ≤ s → q1 s = s) ∧ Aside0 (Blk cf 20 (20 * k) q1) ∧ Aside0 (Loc n 20 q1) ∧ Aside0 (RowAt wr blk 25 n cap ce q1) ∧ Aside0 (But blk w wr))
  case atStart => exact ⟨0, fun s => s, by go_num, by go_num, by omega, by omega, ⟨Win.refl _ _ _⟩, ⟨fun s _ => rfl⟩, ⟨fun c s t h1 h2 h3 h4 => by omega⟩, ⟨fun c s h1 h2 _ => ⟨h1, h2⟩⟩, HR, ⟨But.refl _ _⟩⟩
  case round =>
    obtain ⟨k, q1, rfl, rfl, hkn, hg, HWn, HQ, HB, HL, HR1, HB1⟩ := hrel
    obtain ⟨a, ha⟩ : ∃ a, a = 20 * k := ⟨_, rfl⟩
    rw [← ha] at hkn hg HQ HB ⊢
    have Ha := Aside0.mk ha
    clear ha
    by_cases hlt : a + 20 ≤ n
    · have hltz : (a : Int) + 20 ≤ (n : Int) := by omega
      go_wp2_with (go_at_call 38; refine (insertionSort blk n cap a (a + 20) _ _ rfl (by omega) ce cf q1 w00 _ HC.out HO.out HR1.out (HW.out.trans HB1.out) (by omega) hlt (by omega) (fun t t1 t2 => HQ.out t t1)).mono ?_; rintro r_ W1 ⟨rfl, q2, hR2, hB2, hW2, hS2⟩; have HR2 := Aside0.mk hR2; have HB2 := Aside0.mk (HB1.out.trans hB2); have HW2 := Aside0.mk hW2; have HS2 := Aside0.mk hS2; clear hR2 hB2 hW2 hS2)
      go_roundg (n - (a + 20))
      case measure => omega
      case rel =>
        have hbi := blk_ins (z := 20) (a := a) (e := a + 20) (k := k) (by omega) Ha.out (by omega) (by omega) hlt HB.out HL.out HW2.out HS2.out
        have hq : ∀ s, a + 20 ≤ s → q2 s = s := fun s s1 => (HW2.out.out s (by omega)).trans (HQ.out s (by omega))
        have hk : 20 * (k + 1) = a + 20 := by rw [Ha.out]; omega
        refine ⟨k + 1, q2, by rw [hk]; go_num, by rw [hk]; go_num, by omega, by omega, ⟨HWn.out.trans (HW2.out.widen (by omega) hlt)⟩, ⟨by rw [hk]; exact hq⟩, ⟨by rw [hk]; exact hbi.1⟩, ⟨hbi.2⟩, HR2, HB2⟩
    · have hltz : ¬ (a : Int) + 20 ≤ (n : Int) := by omega
      go_wp2_with (go_at_call 38; refine (insertionSort blk n cap a n _ _ rfl rfl ce cf q1 w00 _ HC.out HO.out HR1.out (HW.out.trans HB1.out) hkn (Nat.le_refl _) (by omega) (fun t t1 t2 => HQ.out t t1)).mono ?_; rintro r_ W1 ⟨rfl, q2, hR2, hB2, hW2, hS2⟩; have HR2 := Aside0.mk hR2; have HB2 := Aside0.mk (HB1.out.trans hB2); have HW2 := Aside0.mk hW2; have HS2 := Aside0.mk hS2; clear hR2 hB2 hW2 hS2)
      have hbi := blk_ins (z := 20) (a := a) (e := n) (k := k) (by omega) Ha.out hkn (by omega) (Nat.le_refl _) HB.out HL.out HW2.out HS2.out
      have HBn := Aside0.mk hbi.1
      have HLn := Aside0.mk hbi.2
      have HWt := Aside0.mk (HWn.out.trans (HW2.out.widen (Nat.zero_le _) (Nat.le_refl _)))
      clear hbi HB HL HWn HQ HW2 HS2 HR1 HB1 Ha hg
      go_loopg [6] (n + 1) (fun g vz wr => ∃ (z : Nat) (q3 : Nat → Nat), vz = .int .i64 z ∧ 1 ≤ z ∧ z ≤ 2 * n + 20 ∧ n - z ≤ g ∧ Aside0 (Win 0 n (fun s => s) q3) ∧ Aside0 (Blk cf z n q3) ∧ Aside0 (Loc n z q3) ∧ Aside0 (RowAt wr blk 25 n cap ce q3) ∧ Aside0 (But blk w wr))
      case atStart => exact ⟨20, q2, by go_num, by omega, by omega, by omega, HWt, HBn, HLn, HR2, HB2⟩
      case round =>
        clear HBn HLn HWt HR2 HB2
        obtain ⟨z, q3, rfl, hz1, hz2, hg, HW3, HB3, HL3, HR3, HU3⟩ := hrel
        by_cases hlz : z < n
        · have hlzz : (z : Int) < (n : Int) := by omega
          obtain ⟨y, hy⟩ : ∃ y, y = z * 2 := ⟨_, rfl⟩
          have HLy := Aside0.mk (loc_double hy HL3.out)
          have Hy := Aside0.mk hy
          have hy1 : z < y := by omega
          have hy2 : y ≤ 2 * n + 20 := by omega
          have hy3 : y - z ≤ z := by omega
          clear hy
          go_wp2_with fail
          go_loopg [7, 8] n (fun g2 va vb wr => ∃ (k a : Nat) (q4 : Nat → Nat), va = .int .i64 a ∧ vb = .int .i64 ((a : Int) + 2 * (z : Int)) ∧ a ≤ n ∧ n - a ≤ g2 ∧ Aside0 (a = y * k) ∧ Aside0 (Win 0 n (fun s => s) q4) ∧ Aside0 (∀ s, a ≤ s → q4 s = q3 s) ∧ Aside0 (Blk cf y a q4) ∧ Aside0 (Loc n y q4) ∧ Aside0 (RowAt wr blk 25 n cap ce q4) ∧ Aside0 (But blk w wr))
          case atStart => exact ⟨0, 0, q3, rfl, by go_num, by omega, by omega, ⟨rfl⟩, HW3, ⟨fun s _ => rfl⟩, ⟨fun c s t h1 h2 h3 h4 => by omega⟩, HLy, HR3, HU3⟩
          case round =>
            obtain ⟨k, a, q4, rfl, rfl, han, hg2, Ha, HW4, HQ4, HB4, HL4, HR4, HU4⟩ := hrel
            have hpre := Aside0.mk (pre_merge (z := z) (y := y) (a := a) (k := k) Hy.out Ha.out HB3.out HL3.out HQ4.out)
            by_cases hlt : a + y ≤ n
            · have hy := Hy.out
              have hltz : (a : Int) + 2 * (z : Int) ≤ (n : Int) := by omega
              have hm1 : a + z ≤ n := by omega
              clear hy
              go_wp2_with (go_at_call 39; refine (HM.out a (a + z) (a + y) _ _ _ q4 _ rfl (by omega) (by have := Hy.out; omega) (by omega) (by omega) (by omega) hlt HR4.out (HW.out.trans HU4.out) (win_id_bnd HW4.out) (hpre.out.1 _ (Nat.le_refl _) hm1) (hpre.out.2.1 _ (by have := Hy.out; omega) hlt) (fun s t s1 s2 t1 t2 => hpre.out.2.2 s t s1 s2 t1 (by have := Hy.out; omega) (by omega))).mono ?_; rintro r_ W1 ⟨rfl, q5, hR5, hB5, hW5, hS5⟩; have HR5 := Aside0.mk hR5; have HU5 := Aside0.mk (HU4.out.trans hB5); have HW5 := Aside0.mk hW5; have HS5 := Aside0.mk hS5; clear hR5 hB5 hW5 hS5)
              go_roundg (n - (a + y))
              case measure => omega
              case rel =>
                have hbi := blk_ins (z := y) (a := a) (e := a + y) (k := k) (by omega) Ha.out (by omega) (Nat.le_refl _) hlt HB4.out HL4.out HW5.out HS5.out
                have hy := Hy.out
                refine ⟨k + 1, a + y, q5, by go_num, by go_num, by omega, by omega, ⟨by rw [Nat.mul_succ, ← Ha.out]⟩, ⟨HW4.out.trans (HW5.out.widen (by omega) hlt)⟩, ⟨fun s s1 => (HW5.out.out s (by omega)).trans (HQ4.out s (by omega))⟩, ⟨hbi.1⟩, ⟨hbi.2⟩, HR5, HU5⟩
            · have hy := Hy.out
              have hltz : ¬ (a : Int) + 2 * (z : Int) ≤ (n : Int) := by omega
              clear hy
              by_cases hm : a + z < n
              · have hmz : (a : Int) + (z : Int) < (n : Int) := by omega
                go_wp2_with (go_at_call 39; refine (HM.out a (a + z) n _ _ _ q4 _ rfl (by omega) rfl (by omega) (by omega) hm (Nat.le_refl _) HR4.out (HW.out.trans HU4.out) (win_id_bnd HW4.out) (hpre.out.1 _ (Nat.le_refl _) (by omega)) (hpre.out.2.1 _ (by have := Hy.out; omega) (Nat.le_refl _)) (fun s t s1 s2 t1 t2 => hpre.out.2.2 s t s1 s2 t1 (by have := Hy.out; omega) t2)).mono ?_; rintro r_ W1 ⟨rfl, q5, hR5, hB5, hW5, hS5⟩; have HR5 := Aside0.mk hR5; have HU5 := Aside0.mk (HU4.out.trans hB5); have HW5 := Aside0.mk hW5; have HS5 := Aside0.mk hS5; clear hR5 hB5 hW5 hS5)
                go_roundg (n - y)
                case measure => omega
                case rel =>
                  have hbi := blk_ins (z := y) (a := a) (e := n) (k := k) (by omega) Ha.out (by omega) (by omega) (Nat.le_refl _) HB4.out HL4.out HW5.out HS5.out
                  exact ⟨y, q5, by rw [Hy.out]; go_num, by omega, hy2, by omega, ⟨HW4.out.trans (HW5.out.widen (by omega) (Nat.le_refl _))⟩, ⟨hbi.1⟩, ⟨hbi.2⟩, HR5, HU5⟩
              · have hmz : ¬ (a : Int) + (z : Int) < (n : Int) := by omega
                go_wp2_with fail
                go_roundg (n - y)
                case measure => omega
                case rel =>
                  have hbi := blk_ins (z := y) (a := a) (e := n) (k := k) (by omega) Ha.out (by omega) (by omega) (Nat.le_refl _) HB4.out HL4.out (Win.refl _ _ _) (hpre.out.1 n (by omega) (Nat.le_refl _))
                  exact ⟨y, q4, by rw [Hy.out]; go_num, by omega, hy2, by omega, HW4, ⟨hbi.1⟩, ⟨hbi.2⟩, HR4, HU4⟩
        · have hlzz : ¬ (z : Int) < (n : Int) := by omega
          go_wp2_with fail
          go_end0
          exact ⟨rfl, q3, HR3.out, HU3.out, HW3.out, fun s t s1 s2 s3 => HB3.out 0 s t (by omega) s2 (by omega) s3⟩

set_option maxHeartbeats 400000 in
/-- slices.SortStableFunc over a row, by order.Compare. -/
theorem sortStable (blk n cap : Nat) (ce : Nat → El) (cf : Nat → Nat → Int) (w00 w : World) (hC : CmpOK blk n ce cf w00) (hO : Ord n cf) (hR : RowAt w blk 25 n cap ce (fun s => s)) (hw : But blk w00 w) (hn : n < 1000000000000) :
    Calls Try.prog 24 #[.slice (some ⟨blk, 0, none⟩) n cap, FV] w fun r W => r = .returned (.tuple #[]) ∧ ∃ q', RowAt W blk 25 n cap ce q' ∧ But blk w W ∧ Win 0 n (fun s => s) q' ∧ Srt cf 0 n q' := by
  have H := Aside0.mk (stable blk n cap n rfl ce cf w00 w hC hO hR hw hn)
  clear hC hO hR hw
  go_enter Try.func24, Try.ntmps24
  go_wp2_with fail
  refine H.out.mono ?_
  rintro r_ W1 ⟨rfl, h⟩
  have Hh := Aside0.mk h
  clear h
  go_wp2
  go_end0
  exact ⟨rfl, Hh.out⟩
#print axioms sortStable
end Go.Proofs.Ytladdncfhjjppaa.HSort
