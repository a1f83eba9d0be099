import Derived.Test.YtladdncfhjjppaaHSta
import Derived.Lib.SliceRun
namespace Go.Proofs.Ytladdncfhjjppaa.HSort
open Go.RowKit Go.Proofs.YtladdncfhjjppaaW.PrintWords Go.Proofs.YtladdncfhjjppaaW.XRow
set_option linter.unusedVariables false
abbrev FE : Value := .func (.func 26) #[] #[]

set_option maxHeartbeats 1000000 in
theorem eq_any {blk n : Nat} {ce : Nat → El} {cf : Nat → Nat → Int} {w00 : World} (hC : CmpOK blk n ce cf w00) (x y : Nat) (W : World) (hx : x < n) (hy : y < n) (hw : But blk w00 W) :
    Calls Try.prog 26 #[.agg #[.slice (ce x).A (ce x).l (ce x).c, .int .i64 (ce x).z], .agg #[.slice (ce y).A (ce y).l (ce y).c, .int .i64 (ce y).z]] W fun e W' => e = .returned (.bool (cf x y == 0)) ∧ Below W.heap.size W W' := by
  have HC := Aside0.mk hC
  have HW := Aside0.mk hw
  clear hC hw
  go_enter Try.func26, Try.ntmps26
  go_wp2_with fail
  have hb0 := Aside0.mk (below_alloc (below_alloc (Below.refl W.heap.size W) (.cells #[.slice (ce x).A (ce x).l (ce x).c, .int .i64 (ce x).z] 25)) (.cells #[.slice (ce y).A (ce y).l (ce y).c, .int .i64 (ce y).z] 25))
  refine (HC.out.calls x y _ hx hy (HW.out.below hb0.out)).mono ?_
  rintro e w1 ⟨rfl, hb⟩
  have hb1 := Aside0.mk (hb0.out.trans (hb.mono hb0.out.size))
  clear hb hb0
  go_wp2
  go_ret
  exact ⟨rfl, hb1.out⟩

/-- What is left of a sorted row: of each place the first. -/
structure Cmp (n : Nat) (cf : Nat → Nat → Int) (q : Nat → Nat) (pos k : Nat) (r : Nat → Nat) : Prop where
  sub : ∀ s, s < k → ∃ t, t < pos ∧ r s = q t
  strict : ∀ s t, s < t → t < k → cf (r s) (r t) < 0
  cover : ∀ t, t < pos → ∃ s, s < k ∧ cf (r s) (q t) = 0 ∧ r s ≤ q t
/-- In the midst of it: the last one that was kept is at the place of the last one that was looked at; what is ahead is as it was. -/
structure CmpIn (n : Nat) (cf : Nat → Nat → Int) (q : Nat → Nat) (pos k : Nat) (r : Nat → Nat) : Prop extends Cmp n cf q pos k r where
  k1 : 1 ≤ k
  kp : k ≤ pos
  last : cf (r (k - 1)) (q (pos - 1)) = 0 ∧ r (k - 1) ≤ q (pos - 1)
  rest : ∀ s, k ≤ s → r s = q s
section
variable {n : Nat} {cf : Nat → Nat → Int} {q r : Nat → Nat} {pos k : Nat}
theorem cf_refl (hO : Ord n cf) {x : Nat} (hx : x < n) : cf x x = 0 := by
  have := hO.anti x x hx hx
  omega
theorem cf_eq_trans (hO : Ord n cf) {x y z : Nat} (hx : x < n) (hy : y < n) (hz : z < n) (h1 : cf x y = 0) (h2 : cf y z = 0) : cf x z = 0 := by
  have a1 := hO.trans x y z hx hy hz
  have a2 := hO.trans z y x hz hy hx
  have a3 := hO.zero hx hy h1
  have a4 := hO.zero hy hz h2
  have a5 := hO.anti x z hx hz
  have a6 := hO.anti z x hz hx
  omega
theorem cf_eq_lt (hO : Ord n cf) {x y z : Nat} (hx : x < n) (hy : y < n) (hz : z < n) (h1 : cf x y = 0) (h2 : cf y z < 0) : cf x z < 0 := by
  have a1 := hO.trans x y z hx hy hz
  have a2 := hO.trans y x z hy hx hz
  have a3 := hO.zero hx hy h1
  have a4 := hO.trans z x y hz hx hy
  have a5 := hO.anti x z hx hz
  have a6 := hO.anti z x hz hx
  have a7 := hO.anti y z hy hz
  have a8 := hO.anti z y hz hy
  omega
/-- One more that is at no new place. -/
theorem CmpIn.skip (hO : Ord n cf) (hq : ∀ s, s < n → q s < n) (h : CmpIn n cf q pos k r) (hp : pos < n) (hS : lt' cf (q (pos - 1)) (q pos)) (he : cf (q pos) (q (pos - 1)) = 0) : CmpIn n cf q (pos + 1) k r := by
  have hk := h.k1
  have hkp := h.kp
  have hl := h.last
  have e1 := hO.zero (hq pos hp) (hq (pos - 1) (by omega)) he
  have hlt : q (pos - 1) < q pos := by
    rcases hS with l | ⟨_, l⟩
    · omega
    · exact l
  have hrk : r (k - 1) < n := by
    obtain ⟨t, t1, e⟩ := h.sub (k - 1) (by omega)
    rw [e]; exact hq t (by omega)
  have e2 := cf_eq_trans hO hrk (hq _ (by omega)) (hq pos hp) hl.1 e1
  refine ⟨⟨fun s hs => ?_, h.strict, fun t ht => ?_⟩, hk, by omega, ?_, h.rest⟩
  · obtain ⟨t, t1, e⟩ := h.sub s hs
    exact ⟨t, by omega, e⟩
  · by_cases g : t = pos
    · subst g; exact ⟨k - 1, by omega, e2, by omega⟩
    · exact h.cover t (by omega)
  · rw [Nat.add_sub_cancel]; exact ⟨e2, by omega⟩
/-- One more that is at a new place: it is laid behind the others. -/
theorem CmpIn.keep (hO : Ord n cf) (hq : ∀ s, s < n → q s < n) (h : CmpIn n cf q pos k r) (hp : pos < n) (hS : lt' cf (q (pos - 1)) (q pos)) (he : cf (q pos) (q (pos - 1)) ≠ 0) : CmpIn n cf q (pos + 1) (k + 1) (fun s => if s = k then q pos else r s) := by
  have hk := h.k1
  have hkp := h.kp
  have hl := h.last
  have hrk : ∀ s, s < k → r s < n := fun s hs => by
    obtain ⟨t, t1, e⟩ := h.sub s hs
    rw [e]; exact hq t (by omega)
  have hlt : cf (q (pos - 1)) (q pos) < 0 := by
    rcases hS with l | ⟨l, _⟩
    · exact l
    · exact absurd (hO.zero (hq _ (by omega)) (hq pos hp) l) he
  have e2 := cf_eq_lt hO (hrk (k - 1) (by omega)) (hq _ (by omega)) (hq pos hp) hl.1 hlt
  refine ⟨⟨fun s hs => ?_, fun s t hst ht => ?_, fun t ht => ?_⟩, by omega, by omega, ?_, fun s hs => ?_⟩
  · by_cases g : s = k
    · rw [if_pos g]; exact ⟨pos, by omega, rfl⟩
    · rw [if_neg g]
      obtain ⟨t, t1, e⟩ := h.sub s (by omega)
      exact ⟨t, by omega, e⟩
  · by_cases g : t = k
    · rw [if_neg (by omega), if_pos g]
      by_cases g2 : s = k - 1
      · rw [g2]; exact e2
      · exact lt0_of2 hO (hrk s (by omega)) (hrk (k - 1) (by omega)) (hq pos hp) (h.strict s (k - 1) (by omega) (by omega)) (.inl e2)
    · rw [if_neg (by omega), if_neg g]; exact h.strict s t hst (by omega)
  · by_cases g : t = pos
    · subst g; exact ⟨k, by omega, by rw [if_pos rfl]; exact cf_refl hO (hq t hp), by rw [if_pos rfl]; exact Nat.le_refl _⟩
    · obtain ⟨s, s1, s2, s3⟩ := h.cover t (by omega)
      exact ⟨s, by omega, by rw [if_neg (by omega)]; exact s2, by rw [if_neg (by omega)]; exact s3⟩
  · rw [Nat.add_sub_cancel, Nat.add_sub_cancel, if_pos rfl]; exact ⟨cf_refl hO (hq pos hp), Nat.le_refl _⟩
  · rw [if_neg (by omega)]; exact h.rest s (by omega)
theorem CmpIn.one (hO : Ord n cf) (hq : ∀ s, s < n → q s < n) (hn : 0 < n) : CmpIn n cf q 1 1 q :=
  ⟨⟨fun s hs => ⟨s, hs, rfl⟩, fun s t h1 h2 => by omega, fun t ht => ⟨t, ht, cf_refl hO (hq t (by omega)), Nat.le_refl _⟩⟩, Nat.le_refl _, Nat.le_refl _, ⟨cf_refl hO (hq _ (by omega)), Nat.le_refl _⟩, fun s _ => rfl⟩
end
end Go.Proofs.Ytladdncfhjjppaa.HSort
