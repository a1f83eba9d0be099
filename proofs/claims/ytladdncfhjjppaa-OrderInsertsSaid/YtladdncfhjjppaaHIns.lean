import Derived.Test.YtladdncfhjjppaaHSwap
namespace Go.Proofs.Ytladdncfhjjppaa.HSort
open Go.RowKit Go.Proofs.YtladdncfhjjppaaW.PrintWords Go.Proofs.YtladdncfhjjppaaW.XRow
set_option linter.unusedVariables false

/-- An element as a value. -/
def av (e : El) : Value := .agg #[.slice e.A e.l e.c, .int .i64 e.z]
/-- The comparison does what cf says, in each world that is as w00 but for the row. -/
structure CmpOK (blk n : Nat) (ce : Nat → El) (cf : Nat → Nat → Int) (w00 : World) : Prop where
  calls : ∀ x y W, x < n → y < n → But blk w00 W → Calls Try.prog 17 #[.agg #[.slice (ce x).A (ce x).l (ce x).c, .int .i64 (ce x).z], .agg #[.slice (ce y).A (ce y).l (ce y).c, .int .i64 (ce y).z]] W fun e W' => e = .returned (.int .i64 (cf x y)) ∧ Below W.heap.size W W'
/-- The order is one. -/
structure Ord (n : Nat) (cf : Nat → Nat → Int) : Prop where
  anti : ∀ x y, x < n → y < n → (cf x y < 0 ↔ 0 < cf y x)
  trans : ∀ x y z, x < n → y < n → z < n → cf x y ≤ 0 → cf y z ≤ 0 → cf x z ≤ 0
/-- Ahead, or at one place and told first. -/
def lt' (cf : Nat → Nat → Int) (x y : Nat) : Prop := cf x y < 0 ∨ (cf x y = 0 ∧ x < y)
section
variable {n : Nat} {cf : Nat → Nat → Int}
theorem Ord.zero (h : Ord n cf) {x y : Nat} (hx : x < n) (hy : y < n) (e : cf x y = 0) : cf y x = 0 := by
  have h1 := h.anti x y hx hy
  have h2 := h.anti y x hy hx
  omega
theorem lt'_trans (h : Ord n cf) {x y z : Nat} (hx : x < n) (hy : y < n) (hz : z < n) (h1 : lt' cf x y) (h2 : lt' cf y z) : lt' cf x z := by
  have t := h.trans x y z hx hy hz
  have t1 := h.trans z x y hz hx hy
  have t2 := h.trans y z x hy hz hx
  have a1 := h.anti x y hx hy
  have a2 := h.anti y x hy hx
  have a3 := h.anti y z hy hz
  have a4 := h.anti z y hz hy
  have a5 := h.anti x z hx hz
  have a6 := h.anti z x hz hx
  unfold lt' at *
  omega
theorem lt'_of_ge (h : Ord n cf) {x y : Nat} (hx : x < n) (hy : y < n) (hxy : y < x) (h1 : ¬ cf x y < 0) : lt' cf y x := by
  have a1 := h.anti x y hx hy
  have a2 := h.anti y x hy hx
  unfold lt'
  omega
end
/-- From a up to b the same elements stand in another order; all else is as it was. -/
structure Win (a b : Nat) (q q' : Nat → Nat) : Prop where
  out : ∀ s, s < a ∨ b ≤ s → q' s = q s
  into : ∀ s, a ≤ s → s < b → ∃ t, a ≤ t ∧ t < b ∧ q' s = q t
  onto : ∀ t, a ≤ t → t < b → ∃ s, a ≤ s ∧ s < b ∧ q' s = q t
theorem Win.refl (a b : Nat) (q : Nat → Nat) : Win a b q q := ⟨fun _ _ => rfl, fun s h1 h2 => ⟨s, h1, h2, rfl⟩, fun t h1 h2 => ⟨t, h1, h2, rfl⟩⟩
theorem Win.trans {a b : Nat} {q q' r : Nat → Nat} (h : Win a b q q') (k : Win a b q' r) : Win a b q r :=
  ⟨fun s hs => (k.out s hs).trans (h.out s hs), fun s h1 h2 => by
    obtain ⟨t, t1, t2, e⟩ := k.into s h1 h2
    obtain ⟨u, u1, u2, e2⟩ := h.into t t1 t2
    exact ⟨u, u1, u2, e.trans e2⟩, fun t h1 h2 => by
    obtain ⟨s, s1, s2, e⟩ := h.onto t h1 h2
    obtain ⟨u, u1, u2, e2⟩ := k.onto s s1 s2
    exact ⟨u, u1, u2, e2.trans e⟩⟩
theorem Win.widen {a b a' b' : Nat} {q q' : Nat → Nat} (h : Win a b q q') (ha : a' ≤ a) (hb : b ≤ b') : Win a' b' q q' :=
  ⟨fun s hs => h.out s (by omega), fun s h1 h2 => by
    by_cases hs : a ≤ s ∧ s < b
    · obtain ⟨t, t1, t2, e⟩ := h.into s hs.1 hs.2
      exact ⟨t, by omega, by omega, e⟩
    · exact ⟨s, h1, h2, h.out s (by omega)⟩, fun t h1 h2 => by
    by_cases hs : a ≤ t ∧ t < b
    · obtain ⟨s, t1, t2, e⟩ := h.onto t hs.1 hs.2
      exact ⟨s, by omega, by omega, e⟩
    · exact ⟨t, h1, h2, h.out t (by omega)⟩⟩
theorem Win.swap {a b : Nat} (q : Nat → Nat) (i j : Nat) (hi : a ≤ i) (hi2 : i < b) (hj : a ≤ j) (hj2 : j < b) : Win a b q (sw q i j) :=
  ⟨fun s hs => by unfold sw; rw [if_neg (by omega), if_neg (by omega)], fun s h1 h2 => by
    unfold sw
    by_cases e1 : s = j
    · rw [if_pos e1]; exact ⟨i, hi, hi2, rfl⟩
    · rw [if_neg e1]
      by_cases e2 : s = i
      · rw [if_pos e2]; exact ⟨j, hj, hj2, rfl⟩
      · rw [if_neg e2]; exact ⟨s, h1, h2, rfl⟩, fun t h1 h2 => by
    by_cases e1 : t = j
    · subst e1
      exact ⟨i, hi, hi2, by unfold sw; by_cases e2 : i = t; (rw [if_pos e2, e2]); (rw [if_neg e2, if_pos rfl])⟩
    · by_cases e2 : t = i
      · subst e2
        exact ⟨j, hj, hj2, by unfold sw; rw [if_pos rfl]⟩
      · exact ⟨t, h1, h2, by unfold sw; rw [if_neg e1, if_neg e2]⟩⟩
/-- From a up to b each is ahead of those behind it. -/
def Srt (cf : Nat → Nat → Int) (a b : Nat) (q : Nat → Nat) : Prop := ∀ s t, a ≤ s → s < t → t < b → lt' cf (q s) (q t)

/-- In the midst of laying element i at its place: it stands at j. -/
structure Mid (cf : Nat → Nat → Int) (a i j : Nat) (q : Nat → Nat) : Prop where
  at_ : q j = i
  low : ∀ s, a ≤ s → s ≤ i → s ≠ j → q s < i
  srt : ∀ s t, a ≤ s → s < t → t ≤ i → s ≠ j → t ≠ j → lt' cf (q s) (q t)
  up : ∀ t, j < t → t ≤ i → lt' cf i (q t)
theorem Mid.step {cf : Nat → Nat → Int} {a i j : Nat} {q : Nat → Nat} (h : Mid cf a i (j + 1) q) (haj : a ≤ j) (hji : j + 1 ≤ i) (hlt : cf i (q j) < 0) : Mid cf a i j (sw q (j + 1) j) where
  at_ := by unfold sw; rw [if_pos rfl]; exact h.at_
  low := fun s h1 h2 h3 => by
    unfold sw; rw [if_neg h3]
    by_cases e : s = j + 1
    · rw [if_pos e]; exact h.low j haj (by omega) (by omega)
    · rw [if_neg e]; exact h.low s h1 h2 e
  srt := fun s t h1 h2 h3 h4 h5 => by
    unfold sw; rw [if_neg h4, if_neg h5]
    by_cases e : s = j + 1
    · rw [if_pos e, if_neg (by omega)]; exact h.srt j t haj (by omega) h3 (by omega) (by omega)
    · by_cases e2 : t = j + 1
      · rw [if_neg e, if_pos e2]; exact h.srt s j h1 (by omega) (by omega) e (by omega)
      · rw [if_neg e, if_neg e2]; exact h.srt s t h1 h2 h3 e e2
  up := fun t h1 h2 => by
    unfold sw; rw [if_neg (by omega)]
    by_cases e : t = j + 1
    · rw [if_pos e]; exact .inl hlt
    · rw [if_neg e]; exact h.up t (by omega) h2
theorem Mid.done {n : Nat} {cf : Nat → Nat → Int} {a i j : Nat} {q : Nat → Nat} (h : Mid cf a i j q) (hO : Ord n cf) (hin : i < n) (haj : a ≤ j) (hji : j ≤ i) (hs : j = a ∨ ¬ cf i (q (j - 1)) < 0) : Srt cf a (i + 1) q := fun s t h1 h2 h3 => by
  by_cases e : s = j
  · subst e; rw [h.at_]; exact h.up t h2 (by omega)
  · by_cases e2 : t = j
    · subst e2
      rw [h.at_]
      rcases hs with hs | hs
      · omega
      · have l1 := h.low (t - 1) (by omega) (by omega) (by omega)
        have l2 := lt'_of_ge hO hin (by omega) l1 hs
        by_cases e3 : s = t - 1
        · rw [e3]; exact l2
        · exact lt'_trans hO (by have := h.low s h1 (by omega) e; omega) (by omega) hin (h.srt s (t - 1) h1 (by omega) (by omega) e (by omega)) l2
    · exact h.srt s t h1 h2 (by omega) e e2

set_option maxHeartbeats 4000000 in
set_option maxRecDepth 100000 in
theorem insertionSort (blk n cap a b : Nat) (ai bi : Int) (ha : ai = a) (hb : bi = b) (ce : Nat → El) (cf : Nat → Nat → Int) (q : Nat → Nat) (w00 w : World) (hC : CmpOK blk n ce cf w00) (hO : Ord n cf) (hR : RowAt w blk 25 n cap ce q) (hw : But blk w00 w) (hab : a ≤ b) (hbn : b ≤ n) (hn : n < 4611686018427387904) (hq : ∀ t, a ≤ t → t < b → q t = t) :
    Calls Try.prog 38 #[.slice (some ⟨blk, 0, none⟩) n cap, .int .i64 ai, .int .i64 bi, FV] w fun r W => r = .returned (.tuple #[]) ∧ ∃ q', RowAt W blk 25 n cap ce q' ∧ But blk w W ∧ Win a b q q' ∧ Srt cf a b q' := by
  subst ha hb
  have HC := Aside0.mk hC
  have HO := Aside0.mk hO
  have HR := Aside0.mk hR
  have HW := Aside0.mk hw
  have HQ := Aside0.mk hq
  clear hC hO hR hw hq
  go_enter Try.func38, Try.ntmps38
  go_wp2
  go_loopg [8] (b + 1) (fun g vi wr => ∃ (i : Nat) (q1 : Nat → Nat), vi = .int .i64 i ∧ a < i ∧ i ≤ b + 1 ∧ b + 1 - i ≤ g ∧ Aside0 (Win a (min i b) q q1) ∧ Aside0 (Srt cf a (min i b) q1) ∧ Aside0 (RowAt wr blk 25 n cap ce q1) ∧ Aside0 (But blk w wr))
  case atStart => exact ⟨a + 1, q, by go_num, by omega, by omega, by omega, ⟨Win.refl _ _ _⟩, ⟨fun s t h1 h2 h3 => by omega⟩, HR, ⟨But.refl _ _⟩⟩
  case round =>
    obtain ⟨i, q1, rfl, hai, hib, hg, HWn, HS, HR1, HB⟩ := hrel
    by_cases hlt : i < b
    · have hltz : (i : Int) < (b : Int) := by omega
      go_wp2
      go_loopg [9] (i + 1) (fun g2 vj wr2 => ∃ (j : Nat) (q2 : Nat → Nat), vj = .int .i64 j ∧ a ≤ j ∧ j ≤ i ∧ j ≤ g2 ∧ Aside0 (Win a (i + 1) q q2) ∧ Aside0 (Mid cf a i j q2) ∧ Aside0 (RowAt wr2 blk 25 n cap ce q2) ∧ Aside0 (But blk w wr2))
      case atStart =>
        refine ⟨i, q1, rfl, by omega, by omega, by omega, ⟨?_⟩, ⟨?_⟩, HR1, HB⟩
        · have := HWn.out; rw [Nat.min_eq_left (by omega)] at this; exact this.widen (Nat.le_refl _) (by omega)
        · have h1 := HWn.out
          have h2 := HS.out
          rw [Nat.min_eq_left (by omega)] at h1 h2
          refine ⟨(h1.out i (by omega)).trans (HQ.out i (by omega) hlt), fun s s1 s2 s3 => ?_, fun s t s1 s2 s3 s4 s5 => h2 s t s1 s2 (by omega), fun t t1 t2 => by omega⟩
          obtain ⟨t, t1, t2, e⟩ := h1.into s s1 (by omega)
          rw [e, HQ.out t t1 (by omega)]; exact t2
      case round =>
        obtain ⟨j, q2, rfl, haj, hji, hg2, HW2, HM, HR2, HB2⟩ := hrel
        by_cases hja : a < j
        · obtain ⟨jp, rfl⟩ : ∃ jp, j = jp + 1 := ⟨j - 1, by omega⟩
          obtain ⟨y, hy⟩ : ∃ y, q2 jp = y := ⟨_, rfl⟩
          have hyl : y < i := by rw [← hy]; exact HM.out.low jp (by omega) (by omega) (by omega)
          have b0 : (a : Int) < ((jp + 1 : Nat) : Int) := by omega
          have c0 := HR2.out.cell0 (jp + 1) (by omega)
          have c1 := HR2.out.cell1 (jp + 1) (by omega)
          have c2 := HR2.out.cell0 jp (by omega)
          have c3 := HR2.out.cell1 jp (by omega)
          rw [HM.out.at_] at c0 c1
          rw [hy] at c2 c3
          have HY := Aside0.mk hy
          clear hy
          have ec : ((jp + 1 : Nat) : Int) = (jp : Int) + 1 := by omega
          rw [ec]
          rw [ec] at b0
          clear ec
          have d0 := fun p : BelowOf wr => cellB c0 p
          have d1 := fun p : BelowOf wr => cellB c1 p
          have d2 := fun p : BelowOf wr => cellB c2 p
          have d3 := fun p : BelowOf wr => cellB c3 p
          have hcB : ∀ p : BelowOf wr, Calls Try.prog 17 #[.agg #[.slice (ce i).A (ce i).l (ce i).c, .int .i64 (ce i).z], .agg #[.slice (ce y).A (ce y).l (ce y).c, .int .i64 (ce y).z]] p.val (fun e w'' => e = .returned (.int .i64 (cf i y)) ∧ ∃ q : BelowOf wr, w'' = q.val) := fun p => callsB (HC.out.calls i y p.val (by omega) (by omega) ((HW.out.trans HB2.out).below p.prop))
          have z0 : (0 : Int) ≤ (jp : Int) + 1 := by omega
          have z1 : (jp : Int) + 1 < (n : Int) := by omega
          have z2 : (jp : Int) < (n : Int) := by omega
          have e0 : ((jp : Int) + 1).toNat = jp + 1 := by omega
          have hwp : IntKind.i64.wrap (jp : Int) = (jp : Int) := by rw [IntKind.wrap_i64]; omega
          clear c0 c1 c2 c3
          by_cases hlv : cf i y < 0
          · have hlz : decide (cf i y < 0) = true := decide_eq_true hlv
            go_wp2_with fail
            refine wp_region_quiet_below (by kernel_rfl) (by kernel_rfl) ?_
            repeat (quiet_step ((go_at_call 17; exact hcB _)))
            refine wpQuiet_nil ?_
            intro W2 hw'
            have hb2 : Below wr.heap.size wr W2 := by
              obtain ⟨pq, hpq⟩ := hw'
              rw [hpq]; exact pq.prop
            clear hw'
            clear d0 d1 d2 d3 hcB
            have HR3 := Aside0.mk (HR2.out.below hb2)
            have HB3 := Aside0.mk (HB2.out.below hb2)
            clear hb2 HR2 HB2
            have c0 := HR3.out.cell0 (jp + 1) (by omega)
            have c1 := HR3.out.cell1 (jp + 1) (by omega)
            have c2 := HR3.out.cell0 jp (by omega)
            have c3 := HR3.out.cell1 jp (by omega)
            rw [HM.out.at_] at c0 c1
            rw [HY.out] at c2 c3
            have f0 := HR3.out.frozen ((jp + 1) * 2)
            have f1 := HR3.out.frozen ((jp + 1) * 2 + 1)
            have f2 := HR3.out.frozen (jp * 2)
            have f3 := HR3.out.frozen (jp * 2 + 1)
            go_wp2_with fail
            go_region
            have hsw := HR3.out.swap (jp + 1) jp (by omega) (by omega)
            rw [HM.out.at_, HY.out] at hsw
            have HR4 := Aside0.mk hsw.drew
            have HB4 := Aside0.mk (((((HB3.out.set ((jp + 1) * 2) (.slice (ce y).A (ce y).l (ce y).c)).set ((jp + 1) * 2 + 1) (.int .i64 (ce y).z)).set (jp * 2) (.slice (ce i).A (ce i).l (ce i).c)).set (jp * 2 + 1) (.int .i64 (ce i).z)).drew)
            clear c0 c1 c2 c3 f0 f1 f2 f3 hsw e0
            go_wp2
            go_roundg jp
            case measure => omega
            case rel => exact ⟨jp, sw q2 (jp + 1) jp, by go_num, by omega, by omega, by omega, ⟨HW2.out.trans (Win.swap q2 (jp + 1) jp (by omega) (by omega) (by omega) (by omega))⟩, ⟨HM.out.step (by omega) hji (by rw [HY.out]; exact hlv)⟩, HR4, HB4⟩
          · have hlz : decide (cf i y < 0) = false := decide_eq_false hlv
            go_wp2_with fail
            refine wp_region_quiet_below (by kernel_rfl) (by kernel_rfl) ?_
            repeat (quiet_step ((go_at_call 17; exact hcB _)))
            refine wpQuiet_nil ?_
            intro W2 hw'
            have hb2 : Below wr.heap.size wr W2 := by
              obtain ⟨pq, hpq⟩ := hw'
              rw [hpq]; exact pq.prop
            clear hw'
            clear d0 d1 d2 d3 hcB
            have HR3 := Aside0.mk (HR2.out.below hb2)
            have HB3 := Aside0.mk (HB2.out.below hb2)
            clear hb2 HR2 HB2
            go_wp2
            go_roundg (b + 1 - (i + 1))
            case measure => omega
            case rel => exact ⟨i + 1, q2, by go_num, by omega, by omega, by omega, ⟨by rw [Nat.min_eq_left (by omega)]; exact HW2.out⟩, ⟨by rw [Nat.min_eq_left (by omega)]; exact HM.out.done HO.out (by omega) haj hji (Or.inr (by rw [Nat.add_sub_cancel, HY.out]; omega))⟩, HR3, HB3⟩
        · obtain rfl : j = a := by omega
          have hjz : decide ((j : Int) < (j : Int)) = false := decide_eq_false (by omega)
          have hjz2 : decide ((j : Int) > (j : Int)) = false := decide_eq_false (by omega)
          go_wp2_with fail
          go_quiet (fail)
          have HR3 : Aside0 (RowAt (wr.drewN nq) blk 25 n cap ce q2) := ⟨HR2.out.move rfl⟩
          have HB3 : Aside0 (But blk w (wr.drewN nq)) := ⟨HB2.out.trans ⟨rfl, rfl, rfl, Nat.le_refl _, fun _ _ _ => rfl⟩⟩
          go_wp2
          go_roundg (b + 1 - (i + 1))
          case measure => omega
          case rel => exact ⟨i + 1, q2, by go_num, by omega, by omega, by omega, ⟨by rw [Nat.min_eq_left (by omega)]; exact HW2.out⟩, ⟨by rw [Nat.min_eq_left (by omega)]; exact HM.out.done HO.out (by omega) (Nat.le_refl _) hji (Or.inl rfl)⟩, HR3, HB3⟩
    · have hltz : ¬ (i : Int) < (b : Int) := by omega
      go_wp2
      go_end0
      rw [Nat.min_eq_right (by omega)] at HWn HS
      exact ⟨rfl, q1, HR1.out, HB.out, HWn.out, HS.out⟩
end Go.Proofs.Ytladdncfhjjppaa.HSort
