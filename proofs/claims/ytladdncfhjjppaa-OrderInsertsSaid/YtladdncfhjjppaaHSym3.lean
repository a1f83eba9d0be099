import Derived.Test.YtladdncfhjjppaaHSym2
namespace Go.Proofs.Ytladdncfhjjppaa.HSort
open Go.RowKit Go.Proofs.YtladdncfhjjppaaW.PrintWords Go.Proofs.YtladdncfhjjppaaW.XRow
set_option linter.unusedVariables false

/-- Behind the rotation. -/
theorem rot_parts (q : Nat → Nat) (a m b mid st E : Nat) (hE : E + st = mid + m) (h1 : st ≤ m) (h2 : st ≤ mid) :
    (∀ s, s < st → rot q st m E s = q s) ∧ (∀ s, st ≤ s → s < mid → rot q st m E s = q (s - st + m)) ∧ (∀ s, mid ≤ s → s < E → rot q st m E s = q (s - mid + st)) ∧ (∀ s, E ≤ s → rot q st m E s = q s) := by
  refine ⟨fun s g => ?_, fun s g1 g2 => ?_, fun s g1 g2 => ?_, fun s g => ?_⟩
  · unfold rot; rw [if_neg (by omega), if_neg (by omega)]
  · unfold rot; rw [if_pos (by omega)]
  · unfold rot; rw [if_neg (by omega), if_pos (by omega)]; congr 1; omega
  · unfold rot; rw [if_neg (by omega), if_neg (by omega)]
theorem rot_win (q : Nat → Nat) (a m b mid st E : Nat) (hE : E + st = mid + m) (h1 : st ≤ m) (h2 : st ≤ mid) (ha : a ≤ st) (hb : E ≤ b) : Win a b q (rot q st m E) := by
  obtain ⟨r1, r2, r3, r4⟩ := rot_parts q a m b mid st E hE h1 h2
  refine ⟨fun s hs => ?_, fun s s1 s2 => ?_, fun t t1 t2 => ?_⟩
  · by_cases g : s < st
    · exact r1 s g
    · exact r4 s (by omega)
  · by_cases g1 : s < st
    · exact ⟨s, s1, s2, r1 s g1⟩
    · by_cases g2 : s < mid
      · exact ⟨_, by omega, by omega, r2 s (by omega) g2⟩
      · by_cases g3 : s < E
        · exact ⟨_, by omega, by omega, r3 s (by omega) g3⟩
        · exact ⟨s, s1, s2, r4 s (by omega)⟩
  · by_cases g1 : t < st
    · exact ⟨t, t1, t2, r1 t g1⟩
    · by_cases g2 : t < m
      · exact ⟨t - st + mid, by omega, by omega, by rw [r3 _ (by omega) (by omega)]; congr 1; omega⟩
      · by_cases g3 : t < E
        · exact ⟨t - m + st, by omega, by omega, by rw [r2 _ (by omega) (by omega)]; congr 1; omega⟩
        · exact ⟨t, t1, t2, r4 t (by omega)⟩
structure Cut (cf : Nat → Nat → Int) (a m b mid st E : Nat) (q : Nat → Nat) : Prop where
  eq : E + st = mid + m
  le1 : st ≤ m
  le2 : st ≤ mid
  ge : a ≤ st
  top : E ≤ b
  left : a < st → E < b → lt' cf (q (st - 1)) (q E)
  right : st < m → m < E → lt' cf (q (E - 1)) (q st)
theorem Cut.cross {n : Nat} {cf : Nat → Nat → Int} {a m b mid st E : Nat} {q : Nat → Nat} (h : Cut cf a m b mid st E q) (hO : Ord n cf) (hbn : b ≤ n) (hmb : mid < b) (hq : ∀ s, s < n → q s < n) (hS : Srt cf a m q) (hT : Srt cf m b q) :
    ∀ s t, a ≤ s → s < mid → mid ≤ t → t < b → lt' cf (rot q st m E s) (rot q st m E t) := fun s t s1 s2 t1 t2 => by
  have e1 := h.eq
  have e2 := h.le1
  have e3 := h.le2
  have e4 := h.ge
  have e5 := h.top
  obtain ⟨r1, r2, r3, r4⟩ := rot_parts q a m b mid st E h.eq h.le1 h.le2
  have le_l : ∀ x, a ≤ x → x < st → st ≤ m → x = st - 1 ∨ lt' cf (q x) (q (st - 1)) := fun x x1 x2 _ => by
    by_cases e : x = st - 1
    · exact .inl e
    · exact .inr (hS x (st - 1) x1 (by omega) (by omega))
  have ge_r : ∀ y, E ≤ y → y < b → m ≤ E → y = E ∨ lt' cf (q E) (q y) := fun y y1 y2 _ => by
    by_cases e : y = E
    · exact .inl e
    · exact .inr (hT E y (by omega) (by omega) y2)
  by_cases g1 : s < st
  · rw [r1 s g1]
    by_cases g2 : t < E
    · rw [r3 t t1 g2]; exact hS _ _ s1 (by omega) (by omega)
    · rw [r4 t (by omega)]
      have k := h.left (by omega) (by omega)
      rcases le_l s s1 g1 e2 with c1 | c1
      · rcases ge_r t (by omega) t2 (by omega) with c2 | c2
        · rw [c1, c2]; exact k
        · rw [c1]; exact lt'_trans hO (hq _ (by omega)) (hq _ (by omega)) (hq _ (by omega)) k c2
      · rcases ge_r t (by omega) t2 (by omega) with c2 | c2
        · rw [c2]; exact lt'_trans hO (hq _ (by omega)) (hq _ (by omega)) (hq _ (by omega)) c1 k
        · exact lt'_trans hO (hq _ (by omega)) (hq _ (by omega)) (hq _ (by omega)) c1 (lt'_trans hO (hq _ (by omega)) (hq _ (by omega)) (hq _ (by omega)) k c2)
  · rw [r2 s (by omega) s2]
    by_cases g2 : t < E
    · rw [r3 t t1 g2]
      have k := h.right (by omega) (by omega)
      have c1 : s - st + m = E - 1 ∨ lt' cf (q (s - st + m)) (q (E - 1)) := by
        by_cases e : s - st + m = E - 1
        · exact .inl e
        · exact .inr (hT _ _ (by omega) (by omega) (by omega))
      have c2 : t - mid + st = st ∨ lt' cf (q st) (q (t - mid + st)) := by
        by_cases e : t - mid + st = st
        · exact .inl e
        · exact .inr (hS _ _ (by omega) (by omega) (by omega))
      rcases c1 with c1 | c1
      · rcases c2 with c2 | c2
        · rw [c1, c2]; exact k
        · rw [c1]; exact lt'_trans hO (hq _ (by omega)) (hq _ (by omega)) (hq _ (by omega)) k c2
      · rcases c2 with c2 | c2
        · rw [c2]; exact lt'_trans hO (hq _ (by omega)) (hq _ (by omega)) (hq _ (by omega)) c1 k
        · exact lt'_trans hO (hq _ (by omega)) (hq _ (by omega)) (hq _ (by omega)) c1 (lt'_trans hO (hq _ (by omega)) (hq _ (by omega)) (hq _ (by omega)) k c2)
    · rw [r4 t (by omega)]; exact hT _ _ (by omega) (by omega) t2
/-- What the two halves ask. -/
theorem Cut.halves {n : Nat} {cf : Nat → Nat → Int} {a m b mid st E : Nat} {q : Nat → Nat} (h : Cut cf a m b mid st E q) (hbn : b ≤ n) (hq : ∀ s, s < n → q s < n) (hS : Srt cf a m q) (hT : Srt cf m b q) (hX : ∀ s t, a ≤ s → s < m → m ≤ t → t < b → q s < q t) (hmb : mid < b) :
    (∀ s, s < n → rot q st m E s < n) ∧ Srt cf a st (rot q st m E) ∧ Srt cf st mid (rot q st m E) ∧ Srt cf mid E (rot q st m E) ∧ Srt cf E b (rot q st m E) ∧
      (∀ s t, a ≤ s → s < st → st ≤ t → t < mid → rot q st m E s < rot q st m E t) ∧ (∀ s t, mid ≤ s → s < E → E ≤ t → t < b → rot q st m E s < rot q st m E t) := by
  have e1 := h.eq
  have e2 := h.le1
  have e3 := h.le2
  have e4 := h.ge
  have e5 := h.top
  obtain ⟨r1, r2, r3, r4⟩ := rot_parts q a m b mid st E h.eq h.le1 h.le2
  refine ⟨fun s hs => ?_, fun s t s1 s2 s3 => ?_, fun s t s1 s2 s3 => ?_, fun s t s1 s2 s3 => ?_, fun s t s1 s2 s3 => ?_, fun s t s1 s2 t1 t2 => ?_, fun s t s1 s2 t1 t2 => ?_⟩
  · by_cases g1 : s < st
    · rw [r1 s g1]; exact hq s hs
    · by_cases g2 : s < mid
      · rw [r2 s (by omega) g2]; exact hq _ (by omega)
      · by_cases g3 : s < E
        · rw [r3 s (by omega) g3]; exact hq _ (by omega)
        · rw [r4 s (by omega)]; exact hq s hs
  · rw [r1 s (by omega), r1 t s3]; exact hS s t s1 s2 (by omega)
  · rw [r2 s s1 (by omega), r2 t (by omega) s3]; exact hT _ _ (by omega) (by omega) (by omega)
  · rw [r3 s s1 (by omega), r3 t (by omega) s3]; exact hS _ _ (by omega) (by omega) (by omega)
  · rw [r4 s s1, r4 t (by omega)]; exact hT _ _ (by omega) s2 s3
  · rw [r1 s s2, r2 t t1 t2]; exact hX _ _ s1 (by omega) (by omega) (by omega)
  · rw [r3 s s1 s2, r4 t t1]; exact hX _ _ (by omega) (by omega) (by omega) t2
/-- Two halves that are sorted, all of one ahead of all of the other, are. -/
theorem halves_srt {cf : Nat → Nat → Int} {a b mid : Nat} {q q' : Nat → Nat} (hc : ∀ s t, a ≤ s → s < mid → mid ≤ t → t < b → lt' cf (q s) (q t)) (h1 : Srt cf a mid q') (h2 : Srt cf mid b q')
    (i1 : ∀ s, a ≤ s → s < mid → ∃ u, a ≤ u ∧ u < mid ∧ q' s = q u) (i2 : ∀ s, mid ≤ s → s < b → ∃ u, mid ≤ u ∧ u < b ∧ q' s = q u) : Srt cf a b q' := fun s t s1 s2 s3 => by
  by_cases g1 : t < mid
  · exact h1 s t s1 s2 g1
  · by_cases g2 : mid ≤ s
    · exact h2 s t g2 s2 s3
    · obtain ⟨u, u1, u2, e1⟩ := i1 s s1 (by omega)
      obtain ⟨v, v1, v2, e2⟩ := i2 t (by omega) s3
      rw [e1, e2]; exact hc u v u1 u2 v1 v2
end Go.Proofs.Ytladdncfhjjppaa.HSort
