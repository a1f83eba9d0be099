import Derived.Test.YtladdncfhjjppaaHSml
import Derived.Test.YtladdncfhjjppaaHCmp
namespace Go.Proofs.Ytladdncfhjjppaa.PA
open Go.RowKit Go.Proofs.YtladdncfhjjppaaW.PrintWords Go.Proofs.YtladdncfhjjppaaW.PrintLast Go.Proofs.YtladdncfhjjppaaW.PrintMore
set_option linter.unusedVariables false
set_option linter.unusedSimpArgs false

/-- order.Compare, of two routes. -/
theorem cmp_any {A0 A1 : Option Addr} {c0 c1 : Nat} (x y : S25) (w : World) (h0 : Kd.C k34 w A0 x.f0.length x.f0) (i0 : x.f0.length ≤ c0) (h1 : Kd.C k34 w A1 y.f0.length y.f0) (i1 : y.f0.length ≤ c1) (hx : x.f0.length < 17592186044416) (hy : y.f0.length < 17592186044416) :
    Calls Try.prog 17 #[.agg #[.slice A0 x.f0.length c0, .int .i64 x.f1], .agg #[.slice A1 y.f0.length c1, .int .i64 y.f1]] w fun e w' => e = .returned (.int .i64 (cmpR x y)) ∧ Below w.heap.size w w' :=
  order_Compare.calls (x.f0.length + y.f0.length + 3) _ _ x.f0 x.f1 _ _ y.f0 y.f1 _ _ h0 i0 h1 i1 (compare_is x y _ hx hy (by omega) (by omega) (by omega))
/-- order.Less. -/
theorem less_any {A0 A1 : Option Addr} {c0 c1 : Nat} (x y : S25) (w : World) (h0 : Kd.C k34 w A0 x.f0.length x.f0) (i0 : x.f0.length ≤ c0) (h1 : Kd.C k34 w A1 y.f0.length y.f0) (i1 : y.f0.length ≤ c1) (hx : x.f0.length < 17592186044416) (hy : y.f0.length < 17592186044416) :
    Calls Try.prog 19 #[.agg #[.slice A0 x.f0.length c0, .int .i64 x.f1], .agg #[.slice A1 y.f0.length c1, .int .i64 y.f1]] w fun e w' => e = .returned (.bool (decide (cmpR x y < 0))) ∧ Below w.heap.size w w' :=
  order_Less.calls (x.f0.length + y.f0.length + 3) _ _ x.f0 x.f1 _ _ y.f0 y.f1 _ _ h0 i0 h1 i1 (by unfold order_Less.f; rw [compare_is x y _ hx hy (by omega) (by omega) (by omega)]; rfl)

set_option maxHeartbeats 4000000 in
theorem one_any (A0 A1 A2 : Option Addr) (c0 c1 c2 : Nat) (x y z : S25) (w : World) (h0 : Kd.C k34 w A0 x.f0.length x.f0) (i0 : x.f0.length ≤ c0) (h1 : Kd.C k34 w A1 y.f0.length y.f0) (i1 : y.f0.length ≤ c1) (h2 : Kd.C k34 w A2 z.f0.length z.f0) (i2 : z.f0.length ≤ c2) :
    Calls Try.prog 5 #[.agg #[.slice A0 x.f0.length c0, .int .i64 x.f1], .agg #[.slice A1 y.f0.length c1, .int .i64 y.f1], .agg #[.slice A2 z.f0.length c2, .int .i64 z.f1]] w fun e w' => e = .returned (.bool true) ∧ Below w.heap.size w w' := by
  have H0 := Aside0.mk h0
  have H1 := Aside0.mk h1
  have H2 := Aside0.mk h2
  clear h0 h1 h2
  go_enter Try.func5, Try.ntmps5
  go_wp2_with fail
  obtain ⟨W, hW⟩ : ∃ W, W = ((w.alloc (.cells #[.slice A0 x.f0.length c0, .int .i64 x.f1] 25)).alloc (.cells #[.slice A1 y.f0.length c1, .int .i64 y.f1] 25)).alloc (.cells #[.slice A2 z.f0.length c2, .int .i64 z.f1] 25) := ⟨_, rfl⟩
  have hb : Below w.heap.size w W := by rw [hW]; repeat (first | exact Below.refl _ _ | refine below_alloc ?_ _)
  have b0 : W.heap[w.heap.size]? = some (.cells #[.slice A0 x.f0.length c0, .int .i64 x.f1] 25 (0, 0)) := by rw [hW]; exact blk_alloc (blk_alloc (blk_new _ _) _) _
  have b1 : W.heap[w.heap.size + 1]? = some (.cells #[.slice A1 y.f0.length c1, .int .i64 y.f1] 25 (0, 0)) := by
    rw [hW]; refine blk_alloc ?_ _
    have := blk_new (w.alloc (.cells #[.slice A0 x.f0.length c0, .int .i64 x.f1] 25)) (.cells #[.slice A1 y.f0.length c1, .int .i64 y.f1] 25)
    rwa [World.size_alloc] at this
  have b2 : W.heap[w.heap.size + 1 + 1]? = some (.cells #[.slice A2 z.f0.length c2, .int .i64 z.f1] 25 (0, 0)) := by
    rw [hW]
    have := blk_new ((w.alloc (.cells #[.slice A0 x.f0.length c0, .int .i64 x.f1] 25)).alloc (.cells #[.slice A1 y.f0.length c1, .int .i64 y.f1] 25)) (.cells #[.slice A2 z.f0.length c2, .int .i64 z.f1] 25)
    rwa [World.size_alloc, World.size_alloc] at this
  rw [← hW]
  clear hW
  have HB := Aside0.mk hb
  have B0 := Aside0.mk b0
  have B1 := Aside0.mk b1
  have B2 := Aside0.mk b2
  clear hb b0 b1 b2
  refine (small_any _).mono ?_
  rintro e w1 ⟨rfl, hb⟩
  have n0_ := Aside0.mk (below_step HB.out hb)
  have n1_ := Aside0.mk (blk_below B0.out hb)
  have n2_ := Aside0.mk (blk_below B1.out hb)
  have n3_ := Aside0.mk (blk_below B2.out hb)
  clear HB B0 B1 B2 hb W
  have HB := n0_
  have B0 := n1_
  have B1 := n2_
  have B2 := n3_
  clear n0_ n1_ n2_ n3_
  have x0 := blk_cell B0.out 0
  have x1 := blk_cell B0.out 1
  have y0 := blk_cell B1.out 0
  have y1 := blk_cell B1.out 1
  have z0 := blk_cell B2.out 0
  have z1 := blk_cell B2.out 1
  simp only [List.getElem?_toArray, List.getElem?_cons_zero, List.getElem?_cons_succ] at x0 x1 y0 y1 z0 z1
  by_cases px : (x.f0.length : Int) > 50
  · have dx : decide ((x.f0.length : Int) > 50) = true := decide_eq_true px
    go_wp2_with fail
    go_ret
    exact ⟨rfl, HB.out⟩
  have dx : decide ((x.f0.length : Int) > 50) = false := decide_eq_false px
  by_cases py : (y.f0.length : Int) > 50
  · have dy : decide ((y.f0.length : Int) > 50) = true := decide_eq_true py
    go_wp2_with fail
    go_ret
    exact ⟨rfl, HB.out⟩
  have dy : decide ((y.f0.length : Int) > 50) = false := decide_eq_false py
  by_cases pz : (z.f0.length : Int) > 50
  · have dz : decide ((z.f0.length : Int) > 50) = true := decide_eq_true pz
    go_wp2_with fail
    go_ret
    exact ⟨rfl, HB.out⟩
  have dz : decide ((z.f0.length : Int) > 50) = false := decide_eq_false pz
  go_wp2_with fail
  refine (cmp_any x y _ (Kd.C_below H0.out HB.out) i0 (Kd.C_below H1.out HB.out) i1 (by omega) (by omega)).mono ?_
  rintro e w' ⟨rfl, hb⟩
  have n0_ := Aside0.mk (below_step HB.out hb)
  have n1_ := Aside0.mk (blk_below B0.out hb)
  have n2_ := Aside0.mk (blk_below B1.out hb)
  have n3_ := Aside0.mk (blk_below B2.out hb)
  clear HB B0 B1 B2 hb x0 x1 y0 y1 z0 z1
  have HB := n0_
  have B0 := n1_
  have B1 := n2_
  have B2 := n3_
  clear n0_ n1_ n2_ n3_
  have x0 := blk_cell B0.out 0
  have x1 := blk_cell B0.out 1
  have y0 := blk_cell B1.out 0
  have y1 := blk_cell B1.out 1
  have z0 := blk_cell B2.out 0
  have z1 := blk_cell B2.out 1
  simp only [List.getElem?_toArray, List.getElem?_cons_zero, List.getElem?_cons_succ] at x0 x1 y0 y1 z0 z1
  go_wp2_with fail
  refine (cmp_any y z _ (Kd.C_below H1.out HB.out) i1 (Kd.C_below H2.out HB.out) i2 (by omega) (by omega)).mono ?_
  rintro e w' ⟨rfl, hb⟩
  have n0_ := Aside0.mk (below_step HB.out hb)
  have n1_ := Aside0.mk (blk_below B0.out hb)
  have n2_ := Aside0.mk (blk_below B1.out hb)
  have n3_ := Aside0.mk (blk_below B2.out hb)
  clear HB B0 B1 B2 hb x0 x1 y0 y1 z0 z1
  have HB := n0_
  have B0 := n1_
  have B1 := n2_
  have B2 := n3_
  clear n0_ n1_ n2_ n3_
  have x0 := blk_cell B0.out 0
  have x1 := blk_cell B0.out 1
  have y0 := blk_cell B1.out 0
  have y1 := blk_cell B1.out 1
  have z0 := blk_cell B2.out 0
  have z1 := blk_cell B2.out 1
  simp only [List.getElem?_toArray, List.getElem?_cons_zero, List.getElem?_cons_succ] at x0 x1 y0 y1 z0 z1
  go_wp2_with fail
  refine (cmp_any x z _ (Kd.C_below H0.out HB.out) i0 (Kd.C_below H2.out HB.out) i2 (by omega) (by omega)).mono ?_
  rintro e w' ⟨rfl, hb⟩
  have n0_ := Aside0.mk (below_step HB.out hb)
  have n1_ := Aside0.mk (blk_below B0.out hb)
  have n2_ := Aside0.mk (blk_below B1.out hb)
  have n3_ := Aside0.mk (blk_below B2.out hb)
  clear HB B0 B1 B2 hb x0 x1 y0 y1 z0 z1
  have HB := n0_
  have B0 := n1_
  have B1 := n2_
  have B2 := n3_
  clear n0_ n1_ n2_ n3_
  have x0 := blk_cell B0.out 0
  have x1 := blk_cell B0.out 1
  have y0 := blk_cell B1.out 0
  have y1 := blk_cell B1.out 1
  have z0 := blk_cell B2.out 0
  have z1 := blk_cell B2.out 1
  simp only [List.getElem?_toArray, List.getElem?_cons_zero, List.getElem?_cons_succ] at x0 x1 y0 y1 z0 z1
  go_wp2_with fail
  refine (cmp_any y x _ (Kd.C_below H1.out HB.out) i1 (Kd.C_below H0.out HB.out) i0 (by omega) (by omega)).mono ?_
  rintro e w' ⟨rfl, hb⟩
  have n0_ := Aside0.mk (below_step HB.out hb)
  have n1_ := Aside0.mk (blk_below B0.out hb)
  have n2_ := Aside0.mk (blk_below B1.out hb)
  have n3_ := Aside0.mk (blk_below B2.out hb)
  clear HB B0 B1 B2 hb x0 x1 y0 y1 z0 z1
  have HB := n0_
  have B0 := n1_
  have B1 := n2_
  have B2 := n3_
  clear n0_ n1_ n2_ n3_
  have x0 := blk_cell B0.out 0
  have x1 := blk_cell B0.out 1
  have y0 := blk_cell B1.out 0
  have y1 := blk_cell B1.out 1
  have z0 := blk_cell B2.out 0
  have z1 := blk_cell B2.out 1
  simp only [List.getElem?_toArray, List.getElem?_cons_zero, List.getElem?_cons_succ] at x0 x1 y0 y1 z0 z1
  have f1 : IntKind.i64.wrap (-cmpR y x) = cmpR x y := by
    have := cmpR_rng x y
    rw [cmpR_anti x y, Int.neg_neg, IntKind.wrap_i64]; omega
  have f2 : (cmpR x y == cmpR x y) = true := by simp
  have rX := cmpR_rng x y
  have f3 : decide (cmpR x y ≥ -1) = true := decide_eq_true rX.1
  have f4 : decide (cmpR x y ≤ 1) = true := decide_eq_true rX.2
  have t1 := cmpR_trans x y z
  have t2 : cmpR x y = 0 → cmpR y z = cmpR x z := fun e => by
    have a1 := cmpR_anti x y
    have a2 := cmpR_anti y z
    have a3 := cmpR_anti x z
    have t2 := cmpR_trans y x z
    have t3 := cmpR_trans x y z
    have t4 := cmpR_trans z x y
    have t5 := cmpR_trans z y x
    have r1 := cmpR_rng y z
    have r2 := cmpR_rng x z
    omega
  clear rX
  by_cases q0 : cmpR x y ≤ 0
  · have d0 : decide (cmpR x y ≤ 0) = true := decide_eq_true q0
    by_cases q1 : cmpR y z ≤ 0
    · have d1 : decide (cmpR y z ≤ 0) = true := decide_eq_true q1
      have d2 : decide (cmpR x z > 0) = false := decide_eq_false (by have := t1 q0 q1; omega)
      by_cases q3 : cmpR x y = 0
      · have d3 : (cmpR x y != 0) = false := by simp [q3]
        have d4 : (cmpR y z == cmpR x z) = true := by simp [t2 q3]
        go_wp2_with fail
        refine (cmp_any x x _ (Kd.C_below H0.out HB.out) i0 (Kd.C_below H0.out HB.out) i0 (by omega) (by omega)).mono ?_
        rintro e w' ⟨rfl, hb⟩
        have n0_ := Aside0.mk (below_step HB.out hb)
        have n1_ := Aside0.mk (blk_below B0.out hb)
        have n2_ := Aside0.mk (blk_below B1.out hb)
        have n3_ := Aside0.mk (blk_below B2.out hb)
        clear HB B0 B1 B2 hb x0 x1 y0 y1 z0 z1
        have HB := n0_
        have B0 := n1_
        have B1 := n2_
        have B2 := n3_
        clear n0_ n1_ n2_ n3_
        have x0 := blk_cell B0.out 0
        have x1 := blk_cell B0.out 1
        have y0 := blk_cell B1.out 0
        have y1 := blk_cell B1.out 1
        have z0 := blk_cell B2.out 0
        have z1 := blk_cell B2.out 1
        simp only [List.getElem?_toArray, List.getElem?_cons_zero, List.getElem?_cons_succ] at x0 x1 y0 y1 z0 z1
        rw [cmpR_refl x]
        have f6 : ((0 : Int) == 0) = true := rfl
        go_wp2_with fail
        refine (less_any x y _ (Kd.C_below H0.out HB.out) i0 (Kd.C_below H1.out HB.out) i1 (by omega) (by omega)).mono ?_
        rintro e w' ⟨rfl, hb⟩
        have n0_ := Aside0.mk (below_step HB.out hb)
        have n1_ := Aside0.mk (blk_below B0.out hb)
        have n2_ := Aside0.mk (blk_below B1.out hb)
        have n3_ := Aside0.mk (blk_below B2.out hb)
        clear HB B0 B1 B2 hb x0 x1 y0 y1 z0 z1
        have HB := n0_
        have B0 := n1_
        have B1 := n2_
        have B2 := n3_
        clear n0_ n1_ n2_ n3_
        have x0 := blk_cell B0.out 0
        have x1 := blk_cell B0.out 1
        have y0 := blk_cell B1.out 0
        have y1 := blk_cell B1.out 1
        have z0 := blk_cell B2.out 0
        have z1 := blk_cell B2.out 1
        simp only [List.getElem?_toArray, List.getElem?_cons_zero, List.getElem?_cons_succ] at x0 x1 y0 y1 z0 z1
        go_wp2
        go_ret
        exact ⟨rfl, HB.out⟩
      · have d3 : (cmpR x y != 0) = true := by simp [q3]
        go_wp2_with fail
        refine (cmp_any x x _ (Kd.C_below H0.out HB.out) i0 (Kd.C_below H0.out HB.out) i0 (by omega) (by omega)).mono ?_
        rintro e w' ⟨rfl, hb⟩
        have n0_ := Aside0.mk (below_step HB.out hb)
        have n1_ := Aside0.mk (blk_below B0.out hb)
        have n2_ := Aside0.mk (blk_below B1.out hb)
        have n3_ := Aside0.mk (blk_below B2.out hb)
        clear HB B0 B1 B2 hb x0 x1 y0 y1 z0 z1
        have HB := n0_
        have B0 := n1_
        have B1 := n2_
        have B2 := n3_
        clear n0_ n1_ n2_ n3_
        have x0 := blk_cell B0.out 0
        have x1 := blk_cell B0.out 1
        have y0 := blk_cell B1.out 0
        have y1 := blk_cell B1.out 1
        have z0 := blk_cell B2.out 0
        have z1 := blk_cell B2.out 1
        simp only [List.getElem?_toArray, List.getElem?_cons_zero, List.getElem?_cons_succ] at x0 x1 y0 y1 z0 z1
        rw [cmpR_refl x]
        have f6 : ((0 : Int) == 0) = true := rfl
        go_wp2_with fail
        refine (less_any x y _ (Kd.C_below H0.out HB.out) i0 (Kd.C_below H1.out HB.out) i1 (by omega) (by omega)).mono ?_
        rintro e w' ⟨rfl, hb⟩
        have n0_ := Aside0.mk (below_step HB.out hb)
        have n1_ := Aside0.mk (blk_below B0.out hb)
        have n2_ := Aside0.mk (blk_below B1.out hb)
        have n3_ := Aside0.mk (blk_below B2.out hb)
        clear HB B0 B1 B2 hb x0 x1 y0 y1 z0 z1
        have HB := n0_
        have B0 := n1_
        have B1 := n2_
        have B2 := n3_
        clear n0_ n1_ n2_ n3_
        have x0 := blk_cell B0.out 0
        have x1 := blk_cell B0.out 1
        have y0 := blk_cell B1.out 0
        have y1 := blk_cell B1.out 1
        have z0 := blk_cell B2.out 0
        have z1 := blk_cell B2.out 1
        simp only [List.getElem?_toArray, List.getElem?_cons_zero, List.getElem?_cons_succ] at x0 x1 y0 y1 z0 z1
        go_wp2
        go_ret
        exact ⟨rfl, HB.out⟩
    · have d1 : decide (cmpR y z ≤ 0) = false := decide_eq_false q1
      by_cases q3 : cmpR x y = 0
      · have d3 : (cmpR x y != 0) = false := by simp [q3]
        have d4 : (cmpR y z == cmpR x z) = true := by simp [t2 q3]
        go_wp2_with fail
        refine (cmp_any x x _ (Kd.C_below H0.out HB.out) i0 (Kd.C_below H0.out HB.out) i0 (by omega) (by omega)).mono ?_
        rintro e w' ⟨rfl, hb⟩
        have n0_ := Aside0.mk (below_step HB.out hb)
        have n1_ := Aside0.mk (blk_below B0.out hb)
        have n2_ := Aside0.mk (blk_below B1.out hb)
        have n3_ := Aside0.mk (blk_below B2.out hb)
        clear HB B0 B1 B2 hb x0 x1 y0 y1 z0 z1
        have HB := n0_
        have B0 := n1_
        have B1 := n2_
        have B2 := n3_
        clear n0_ n1_ n2_ n3_
        have x0 := blk_cell B0.out 0
        have x1 := blk_cell B0.out 1
        have y0 := blk_cell B1.out 0
        have y1 := blk_cell B1.out 1
        have z0 := blk_cell B2.out 0
        have z1 := blk_cell B2.out 1
        simp only [List.getElem?_toArray, List.getElem?_cons_zero, List.getElem?_cons_succ] at x0 x1 y0 y1 z0 z1
        rw [cmpR_refl x]
        have f6 : ((0 : Int) == 0) = true := rfl
        go_wp2_with fail
        refine (less_any x y _ (Kd.C_below H0.out HB.out) i0 (Kd.C_below H1.out HB.out) i1 (by omega) (by omega)).mono ?_
        rintro e w' ⟨rfl, hb⟩
        have n0_ := Aside0.mk (below_step HB.out hb)
        have n1_ := Aside0.mk (blk_below B0.out hb)
        have n2_ := Aside0.mk (blk_below B1.out hb)
        have n3_ := Aside0.mk (blk_below B2.out hb)
        clear HB B0 B1 B2 hb x0 x1 y0 y1 z0 z1
        have HB := n0_
        have B0 := n1_
        have B1 := n2_
        have B2 := n3_
        clear n0_ n1_ n2_ n3_
        have x0 := blk_cell B0.out 0
        have x1 := blk_cell B0.out 1
        have y0 := blk_cell B1.out 0
        have y1 := blk_cell B1.out 1
        have z0 := blk_cell B2.out 0
        have z1 := blk_cell B2.out 1
        simp only [List.getElem?_toArray, List.getElem?_cons_zero, List.getElem?_cons_succ] at x0 x1 y0 y1 z0 z1
        go_wp2
        go_ret
        exact ⟨rfl, HB.out⟩
      · have d3 : (cmpR x y != 0) = true := by simp [q3]
        go_wp2_with fail
        refine (cmp_any x x _ (Kd.C_below H0.out HB.out) i0 (Kd.C_below H0.out HB.out) i0 (by omega) (by omega)).mono ?_
        rintro e w' ⟨rfl, hb⟩
        have n0_ := Aside0.mk (below_step HB.out hb)
        have n1_ := Aside0.mk (blk_below B0.out hb)
        have n2_ := Aside0.mk (blk_below B1.out hb)
        have n3_ := Aside0.mk (blk_below B2.out hb)
        clear HB B0 B1 B2 hb x0 x1 y0 y1 z0 z1
        have HB := n0_
        have B0 := n1_
        have B1 := n2_
        have B2 := n3_
        clear n0_ n1_ n2_ n3_
        have x0 := blk_cell B0.out 0
        have x1 := blk_cell B0.out 1
        have y0 := blk_cell B1.out 0
        have y1 := blk_cell B1.out 1
        have z0 := blk_cell B2.out 0
        have z1 := blk_cell B2.out 1
        simp only [List.getElem?_toArray, List.getElem?_cons_zero, List.getElem?_cons_succ] at x0 x1 y0 y1 z0 z1
        rw [cmpR_refl x]
        have f6 : ((0 : Int) == 0) = true := rfl
        go_wp2_with fail
        refine (less_any x y _ (Kd.C_below H0.out HB.out) i0 (Kd.C_below H1.out HB.out) i1 (by omega) (by omega)).mono ?_
        rintro e w' ⟨rfl, hb⟩
        have n0_ := Aside0.mk (below_step HB.out hb)
        have n1_ := Aside0.mk (blk_below B0.out hb)
        have n2_ := Aside0.mk (blk_below B1.out hb)
        have n3_ := Aside0.mk (blk_below B2.out hb)
        clear HB B0 B1 B2 hb x0 x1 y0 y1 z0 z1
        have HB := n0_
        have B0 := n1_
        have B1 := n2_
        have B2 := n3_
        clear n0_ n1_ n2_ n3_
        have x0 := blk_cell B0.out 0
        have x1 := blk_cell B0.out 1
        have y0 := blk_cell B1.out 0
        have y1 := blk_cell B1.out 1
        have z0 := blk_cell B2.out 0
        have z1 := blk_cell B2.out 1
        simp only [List.getElem?_toArray, List.getElem?_cons_zero, List.getElem?_cons_succ] at x0 x1 y0 y1 z0 z1
        go_wp2
        go_ret
        exact ⟨rfl, HB.out⟩
  · have d0 : decide (cmpR x y ≤ 0) = false := decide_eq_false q0
    have d3 : (cmpR x y != 0) = true := by simp; omega
    go_wp2_with fail
    refine (cmp_any x x _ (Kd.C_below H0.out HB.out) i0 (Kd.C_below H0.out HB.out) i0 (by omega) (by omega)).mono ?_
    rintro e w' ⟨rfl, hb⟩
    have n0_ := Aside0.mk (below_step HB.out hb)
    have n1_ := Aside0.mk (blk_below B0.out hb)
    have n2_ := Aside0.mk (blk_below B1.out hb)
    have n3_ := Aside0.mk (blk_below B2.out hb)
    clear HB B0 B1 B2 hb x0 x1 y0 y1 z0 z1
    have HB := n0_
    have B0 := n1_
    have B1 := n2_
    have B2 := n3_
    clear n0_ n1_ n2_ n3_
    have x0 := blk_cell B0.out 0
    have x1 := blk_cell B0.out 1
    have y0 := blk_cell B1.out 0
    have y1 := blk_cell B1.out 1
    have z0 := blk_cell B2.out 0
    have z1 := blk_cell B2.out 1
    simp only [List.getElem?_toArray, List.getElem?_cons_zero, List.getElem?_cons_succ] at x0 x1 y0 y1 z0 z1
    rw [cmpR_refl x]
    have f6 : ((0 : Int) == 0) = true := rfl
    go_wp2_with fail
    refine (less_any x y _ (Kd.C_below H0.out HB.out) i0 (Kd.C_below H1.out HB.out) i1 (by omega) (by omega)).mono ?_
    rintro e w' ⟨rfl, hb⟩
    have n0_ := Aside0.mk (below_step HB.out hb)
    have n1_ := Aside0.mk (blk_below B0.out hb)
    have n2_ := Aside0.mk (blk_below B1.out hb)
    have n3_ := Aside0.mk (blk_below B2.out hb)
    clear HB B0 B1 B2 hb x0 x1 y0 y1 z0 z1
    have HB := n0_
    have B0 := n1_
    have B1 := n2_
    have B2 := n3_
    clear n0_ n1_ n2_ n3_
    have x0 := blk_cell B0.out 0
    have x1 := blk_cell B0.out 1
    have y0 := blk_cell B1.out 0
    have y1 := blk_cell B1.out 1
    have z0 := blk_cell B2.out 0
    have z1 := blk_cell B2.out 1
    simp only [List.getElem?_toArray, List.getElem?_cons_zero, List.getElem?_cons_succ] at x0 x1 y0 y1 z0 z1
    go_wp2
    go_ret
    exact ⟨rfl, HB.out⟩
end Go.Proofs.Ytladdncfhjjppaa.PA
