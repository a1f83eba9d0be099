-- Written by wip/tools/drv.py (the session's own driver).
import Derived.Test.YtladdncfhjjppaaPAx0
import Derived.Test.YtladdncfhjjppaaPAx3
import Derived.Test.YtladdncfhjjppaaPAx4
import Derived.Test.YtladdncfhjjppaaPAx7
import Derived.Test.YtladdncfhjjppaaPAx8
import Derived.Test.YtladdncfhjjppaaPAx9
namespace Go.Proofs.Ytladdncfhjjppaa.PA
open Go.RowKit Go.Proofs.YtladdncfhjjppaaW.PrintWords Go.Proofs.YtladdncfhjjppaaW.PrintLast Go.Proofs.YtladdncfhjjppaaW.PrintMore
attribute [local go_sem] max2_int min2_int max_two min_two max_three min_three max_four min_four   -- for this text's walks alone
set_option linter.unusedVariables false
set_option linter.unusedSimpArgs false

/-! ### feluccalaw13_OrderSorts: function 4 -/
mutual
def feluccalaw13_OrderSorts.l0 : Nat → List (S25) → Bool → List (S25) → Int → Option (Bool)
  | 0, _, _, _, _ => none
  | k + 1, x0, x3, x5, x6 => if x6 < (x5.length : Int) then (if 0 ≤ (wrap64 (x6 - 1)) then (if (wrap64 (x6 - 1)) < (x5.length : Int) then (if 0 ≤ x6 then ((order_Compare.f k ((rd_T25 x5 (wrap64 (x6 - 1))).f0) ((rd_T25 x5 (wrap64 (x6 - 1))).f1) ((rd_T25 x5 x6).f0) ((rd_T25 x5 x6).f1)).bind fun t276 => (if t276 = (-1) then (feluccalaw13_OrderSorts.l0 k x0 x3 x5 (wrap64 (x6 + 1))) else (some false))) else (none)) else (none)) else (none)) else (feluccalaw13_OrderSorts.l1 k x0 x3 x5 0)
def feluccalaw13_OrderSorts.l1 : Nat → List (S25) → Bool → List (S25) → Int → Option (Bool)
  | 0, _, _, _, _ => none
  | k + 1, x0, x3, x5, x7 => if x7 < (x0.length : Int) then (feluccalaw13_OrderSorts.l2 k x0 x3 x5 x7 0 0) else (feluccalaw13_OrderSorts.l3 k x0 x3 x5 0)
def feluccalaw13_OrderSorts.l2 : Nat → List (S25) → Bool → List (S25) → Int → Int → Int → Option (Bool)
  | 0, _, _, _, _, _, _ => none
  | k + 1, x0, x3, x5, x7, x8, x9 => if x9 < (x5.length : Int) then (if 0 ≤ x9 then (if 0 ≤ x7 then (if x7 < (x0.length : Int) then ((order_Compare.f k ((rd_T25 x5 x9).f0) ((rd_T25 x5 x9).f1) ((rd_T25 x0 x7).f0) ((rd_T25 x0 x7).f1)).bind fun t279 => (if t279 = 0 then (feluccalaw13_OrderSorts.l2 k x0 x3 x5 x7 (wrap64 (x8 + 1)) (wrap64 (x9 + 1))) else (feluccalaw13_OrderSorts.l2 k x0 x3 x5 x7 x8 (wrap64 (x9 + 1))))) else (none)) else (none)) else (none)) else (if x8 = 1 then (feluccalaw13_OrderSorts.l1 k x0 x3 x5 (wrap64 (x7 + 1))) else (some false))
def feluccalaw13_OrderSorts.l3 : Nat → List (S25) → Bool → List (S25) → Int → Option (Bool)
  | 0, _, _, _, _ => none
  | k + 1, x0, x3, x5, x10 => if x10 < (x5.length : Int) then (feluccalaw13_OrderSorts.l4 k x0 x3 x5 x10 false 0) else (if x3 = true then ((order_Sort.f x5).bind fun t280 => ((order_Same.f k t280 x5).bind fun t283 => (some t283))) else (some false))
def feluccalaw13_OrderSorts.l4 : Nat → List (S25) → Bool → List (S25) → Int → Bool → Int → Option (Bool)
  | 0, _, _, _, _, _, _ => none
  | k + 1, x0, x3, x5, x10, x11, x12 => if x12 < (x0.length : Int) then (if 0 ≤ x10 then (if x10 < (x5.length : Int) then (if 0 ≤ x12 then ((order_Compare.f k ((rd_T25 x5 x10).f0) ((rd_T25 x5 x10).f1) ((rd_T25 x0 x12).f0) ((rd_T25 x0 x12).f1)).bind fun t286 => (if t286 = 0 then ((path_Same.f k ((rd_T25 x5 x10).f0) ((rd_T25 x5 x10).f1) ((rd_T25 x0 x12).f0) ((rd_T25 x0 x12).f1)).bind fun t289 => (if t289 = true then (feluccalaw13_OrderSorts.l3 k x0 x3 x5 (wrap64 (x10 + 1))) else (some false))) else (feluccalaw13_OrderSorts.l4 k x0 x3 x5 x10 x11 (wrap64 (x12 + 1))))) else (none)) else (none)) else (none)) else (if x11 = true then (feluccalaw13_OrderSorts.l3 k x0 x3 x5 (wrap64 (x10 + 1))) else (some false))
end
def feluccalaw13_OrderSorts.f (k : Nat) (l0 : List (S25)) : Option (Bool) := (feluccalaw13_small.f).bind fun t269 => ((feluccalaw13_Few.f k l0).bind fun t270 => (if t270 = true then ((order_Sort.f l0).bind fun t271 => (feluccalaw13_OrderSorts.l0 k l0 t269 t271 1)) else (some t269)))
theorem feluccalaw13_OrderSorts.mono_l : ∀ k, (∀ y0 y1 y2 y3, LeO (feluccalaw13_OrderSorts.l0 k y0 y1 y2 y3) (feluccalaw13_OrderSorts.l0 (k + 1) y0 y1 y2 y3)) ∧ (∀ y0 y1 y2 y3, LeO (feluccalaw13_OrderSorts.l1 k y0 y1 y2 y3) (feluccalaw13_OrderSorts.l1 (k + 1) y0 y1 y2 y3)) ∧ (∀ y0 y1 y2 y3 y4 y5, LeO (feluccalaw13_OrderSorts.l2 k y0 y1 y2 y3 y4 y5) (feluccalaw13_OrderSorts.l2 (k + 1) y0 y1 y2 y3 y4 y5)) ∧ (∀ y0 y1 y2 y3, LeO (feluccalaw13_OrderSorts.l3 k y0 y1 y2 y3) (feluccalaw13_OrderSorts.l3 (k + 1) y0 y1 y2 y3)) ∧ (∀ y0 y1 y2 y3 y4 y5, LeO (feluccalaw13_OrderSorts.l4 k y0 y1 y2 y3 y4 y5) (feluccalaw13_OrderSorts.l4 (k + 1) y0 y1 y2 y3 y4 y5))
  | 0 => ⟨fun _ _ _ _ r h => by simp [feluccalaw13_OrderSorts.l0] at h, fun _ _ _ _ r h => by simp [feluccalaw13_OrderSorts.l1] at h, fun _ _ _ _ _ _ r h => by simp [feluccalaw13_OrderSorts.l2] at h, fun _ _ _ _ r h => by simp [feluccalaw13_OrderSorts.l3] at h, fun _ _ _ _ _ _ r h => by simp [feluccalaw13_OrderSorts.l4] at h⟩
  | k + 1 => by
    obtain ⟨ih0, ih1, ih2, ih3, ih4⟩ := feluccalaw13_OrderSorts.mono_l k
    refine ⟨?_, ?_, ?_, ?_, ?_⟩
    · intro y0 y1 y2 y3
      unfold feluccalaw13_OrderSorts.l0
      repeat' first
      | (with_reducible exact ih0 _ _ _ _)
      | (with_reducible exact ih1 _ _ _ _)
      | (with_reducible exact ih2 _ _ _ _ _ _)
      | (with_reducible exact ih3 _ _ _ _)
      | (with_reducible exact ih4 _ _ _ _ _ _)
      | (with_reducible exact feluccalaw13_Few.mono _ _)
      | (with_reducible exact order_Compare.mono _ _ _ _ _)
      | (with_reducible exact order_Same.mono _ _ _)
      | (with_reducible exact path_Same.mono _ _ _ _ _)
      | (with_reducible exact LeO.refl _)
      | (with_reducible exact LeO.none _)
      | (with_reducible refine LeO.ite ?_ ?_)
      | (with_reducible refine LeO.bind ?_ (fun _ => ?_))
      | exact ih0 _ _ _ _
      | exact ih1 _ _ _ _
      | exact ih2 _ _ _ _ _ _
      | exact ih3 _ _ _ _
      | exact ih4 _ _ _ _ _ _
      | exact feluccalaw13_Few.mono _ _
      | exact order_Compare.mono _ _ _ _ _
      | exact order_Same.mono _ _ _
      | exact path_Same.mono _ _ _ _ _
      | exact LeO.none _
      | refine LeO.ite ?_ ?_
      | refine LeO.bind ?_ (fun _ => ?_)
    · intro y0 y1 y2 y3
      unfold feluccalaw13_OrderSorts.l1
      repeat' first
      | (with_reducible exact ih0 _ _ _ _)
      | (with_reducible exact ih1 _ _ _ _)
      | (with_reducible exact ih2 _ _ _ _ _ _)
      | (with_reducible exact ih3 _ _ _ _)
      | (with_reducible exact ih4 _ _ _ _ _ _)
      | (with_reducible exact feluccalaw13_Few.mono _ _)
      | (with_reducible exact order_Compare.mono _ _ _ _ _)
      | (with_reducible exact order_Same.mono _ _ _)
      | (with_reducible exact path_Same.mono _ _ _ _ _)
      | (with_reducible exact LeO.refl _)
      | (with_reducible exact LeO.none _)
      | (with_reducible refine LeO.ite ?_ ?_)
      | (with_reducible refine LeO.bind ?_ (fun _ => ?_))
      | exact ih0 _ _ _ _
      | exact ih1 _ _ _ _
      | exact ih2 _ _ _ _ _ _
      | exact ih3 _ _ _ _
      | exact ih4 _ _ _ _ _ _
      | exact feluccalaw13_Few.mono _ _
      | exact order_Compare.mono _ _ _ _ _
      | exact order_Same.mono _ _ _
      | exact path_Same.mono _ _ _ _ _
      | exact LeO.none _
      | refine LeO.ite ?_ ?_
      | refine LeO.bind ?_ (fun _ => ?_)
    · intro y0 y1 y2 y3 y4 y5
      unfold feluccalaw13_OrderSorts.l2
      repeat' first
      | (with_reducible exact ih0 _ _ _ _)
      | (with_reducible exact ih1 _ _ _ _)
      | (with_reducible exact ih2 _ _ _ _ _ _)
      | (with_reducible exact ih3 _ _ _ _)
      | (with_reducible exact ih4 _ _ _ _ _ _)
      | (with_reducible exact feluccalaw13_Few.mono _ _)
      | (with_reducible exact order_Compare.mono _ _ _ _ _)
      | (with_reducible exact order_Same.mono _ _ _)
      | (with_reducible exact path_Same.mono _ _ _ _ _)
      | (with_reducible exact LeO.refl _)
      | (with_reducible exact LeO.none _)
      | (with_reducible refine LeO.ite ?_ ?_)
      | (with_reducible refine LeO.bind ?_ (fun _ => ?_))
      | exact ih0 _ _ _ _
      | exact ih1 _ _ _ _
      | exact ih2 _ _ _ _ _ _
      | exact ih3 _ _ _ _
      | exact ih4 _ _ _ _ _ _
      | exact feluccalaw13_Few.mono _ _
      | exact order_Compare.mono _ _ _ _ _
      | exact order_Same.mono _ _ _
      | exact path_Same.mono _ _ _ _ _
      | exact LeO.none _
      | refine LeO.ite ?_ ?_
      | refine LeO.bind ?_ (fun _ => ?_)
    · intro y0 y1 y2 y3
      unfold feluccalaw13_OrderSorts.l3
      repeat' first
      | (with_reducible exact ih0 _ _ _ _)
      | (with_reducible exact ih1 _ _ _ _)
      | (with_reducible exact ih2 _ _ _ _ _ _)
      | (with_reducible exact ih3 _ _ _ _)
      | (with_reducible exact ih4 _ _ _ _ _ _)
      | (with_reducible exact feluccalaw13_Few.mono _ _)
      | (with_reducible exact order_Compare.mono _ _ _ _ _)
      | (with_reducible exact order_Same.mono _ _ _)
      | (with_reducible exact path_Same.mono _ _ _ _ _)
      | (with_reducible exact LeO.refl _)
      | (with_reducible exact LeO.none _)
      | (with_reducible refine LeO.ite ?_ ?_)
      | (with_reducible refine LeO.bind ?_ (fun _ => ?_))
      | exact ih0 _ _ _ _
      | exact ih1 _ _ _ _
      | exact ih2 _ _ _ _ _ _
      | exact ih3 _ _ _ _
      | exact ih4 _ _ _ _ _ _
      | exact feluccalaw13_Few.mono _ _
      | exact order_Compare.mono _ _ _ _ _
      | exact order_Same.mono _ _ _
      | exact path_Same.mono _ _ _ _ _
      | exact LeO.none _
      | refine LeO.ite ?_ ?_
      | refine LeO.bind ?_ (fun _ => ?_)
    · intro y0 y1 y2 y3 y4 y5
      unfold feluccalaw13_OrderSorts.l4
      repeat' first
      | (with_reducible exact ih0 _ _ _ _)
      | (with_reducible exact ih1 _ _ _ _)
      | (with_reducible exact ih2 _ _ _ _ _ _)
      | (with_reducible exact ih3 _ _ _ _)
      | (with_reducible exact ih4 _ _ _ _ _ _)
      | (with_reducible exact feluccalaw13_Few.mono _ _)
      | (with_reducible exact order_Compare.mono _ _ _ _ _)
      | (with_reducible exact order_Same.mono _ _ _)
      | (with_reducible exact path_Same.mono _ _ _ _ _)
      | (with_reducible exact LeO.refl _)
      | (with_reducible exact LeO.none _)
      | (with_reducible refine LeO.ite ?_ ?_)
      | (with_reducible refine LeO.bind ?_ (fun _ => ?_))
      | exact ih0 _ _ _ _
      | exact ih1 _ _ _ _
      | exact ih2 _ _ _ _ _ _
      | exact ih3 _ _ _ _
      | exact ih4 _ _ _ _ _ _
      | exact feluccalaw13_Few.mono _ _
      | exact order_Compare.mono _ _ _ _ _
      | exact order_Same.mono _ _ _
      | exact path_Same.mono _ _ _ _ _
      | exact LeO.none _
      | refine LeO.ite ?_ ?_
      | refine LeO.bind ?_ (fun _ => ?_)
theorem feluccalaw13_OrderSorts.mono : ∀ a0 k, LeO (feluccalaw13_OrderSorts.f k a0) (feluccalaw13_OrderSorts.f (k + 1) a0) := by
  intro a0 k
  obtain ⟨ih0, ih1, ih2, ih3, ih4⟩ := feluccalaw13_OrderSorts.mono_l k
  unfold feluccalaw13_OrderSorts.f
  repeat' first
      | (with_reducible exact ih0 _ _ _ _)
      | (with_reducible exact ih1 _ _ _ _)
      | (with_reducible exact ih2 _ _ _ _ _ _)
      | (with_reducible exact ih3 _ _ _ _)
      | (with_reducible exact ih4 _ _ _ _ _ _)
      | (with_reducible exact feluccalaw13_Few.mono _ _)
      | (with_reducible exact order_Compare.mono _ _ _ _ _)
      | (with_reducible exact order_Same.mono _ _ _)
      | (with_reducible exact path_Same.mono _ _ _ _ _)
      | (with_reducible exact LeO.refl _)
      | (with_reducible exact LeO.none _)
      | (with_reducible refine LeO.ite ?_ ?_)
      | (with_reducible refine LeO.bind ?_ (fun _ => ?_))
      | exact ih0 _ _ _ _
      | exact ih1 _ _ _ _
      | exact ih2 _ _ _ _ _ _
      | exact ih3 _ _ _ _
      | exact ih4 _ _ _ _ _ _
      | exact feluccalaw13_Few.mono _ _
      | exact order_Compare.mono _ _ _ _ _
      | exact order_Same.mono _ _ _
      | exact path_Same.mono _ _ _ _ _
      | exact LeO.none _
      | refine LeO.ite ?_ ?_
      | refine LeO.bind ?_ (fun _ => ?_)
def feluccalaw13_OrderSorts.T9 : Bool × List (List Nat × List Nat) := (true, [([], []), ([], []), ([1], [1]), ([0, 2], [0, 2]), ([3], [3]), ([], []), ([], []), ([5, 6], [5, 6]), ([7], [7]), ([4, 8], [4, 8]), ([9], [9])])
def feluccalaw13_OrderSorts.B9 : List Nat := [0, 0, 2, 7, 15, 0, 0, 96, 224, 511, 1023]
theorem feluccalaw13_OrderSorts.tab9 : rtab .any (opsOf Try.f4 9) = feluccalaw13_OrderSorts.T9 := by kernel_rfl
theorem feluccalaw13_OrderSorts.bits9 : waitsOk feluccalaw13_OrderSorts.T9.2 feluccalaw13_OrderSorts.B9 = true := by kernel_rfl
def feluccalaw13_OrderSorts.T18 : Bool × List (List Nat × List Nat) := (true, [([], []), ([], []), ([0, 1], [0, 1]), ([2], [2]), ([], []), ([], []), ([4, 5], [4, 5]), ([6], [6]), ([3, 7], [3, 7]), ([8], [8])])
def feluccalaw13_OrderSorts.B18 : List Nat := [0, 0, 3, 7, 0, 0, 48, 112, 255, 511]
theorem feluccalaw13_OrderSorts.tab18 : rtab .any (opsOf Try.f4 18) = feluccalaw13_OrderSorts.T18 := by kernel_rfl
theorem feluccalaw13_OrderSorts.bits18 : waitsOk feluccalaw13_OrderSorts.T18.2 feluccalaw13_OrderSorts.B18 = true := by kernel_rfl
def feluccalaw13_OrderSorts.T29 : Bool × List (List Nat × List Nat) := (true, [([], []), ([], []), ([0, 1], [0, 1]), ([2], [2]), ([], []), ([], []), ([4, 5], [4, 5]), ([6], [6]), ([3, 7], [3, 7]), ([8], [8])])
def feluccalaw13_OrderSorts.B29 : List Nat := [0, 0, 3, 7, 0, 0, 48, 112, 255, 511]
theorem feluccalaw13_OrderSorts.tab29 : rtab .any (opsOf Try.f4 29) = feluccalaw13_OrderSorts.T29 := by kernel_rfl
theorem feluccalaw13_OrderSorts.bits29 : waitsOk feluccalaw13_OrderSorts.T29.2 feluccalaw13_OrderSorts.B29 = true := by kernel_rfl
def feluccalaw13_OrderSorts.T30 : Bool × List (List Nat × List Nat) := (true, [([], []), ([], []), ([0, 1], [0, 1]), ([2], [2]), ([], []), ([], []), ([4, 5], [4, 5]), ([6], [6]), ([3, 7], [3, 7]), ([8, 8, 0, 1, 2, 3, 4, 5, 6, 7, 8], [8])])
def feluccalaw13_OrderSorts.B30 : List Nat := [0, 0, 3, 7, 0, 0, 48, 112, 255, 511]
theorem feluccalaw13_OrderSorts.tab30 : rtab .any (opsOf Try.f4 30) = feluccalaw13_OrderSorts.T30 := by kernel_rfl
theorem feluccalaw13_OrderSorts.bits30 : waitsOk feluccalaw13_OrderSorts.T30.2 feluccalaw13_OrderSorts.B30 = true := by kernel_rfl
set_option maxHeartbeats 8000000 in
set_option maxRecDepth 100000 in
theorem feluccalaw13_OrderSorts.calls (k : Nat) (A0 : Option Addr) (c0 : Nat) (l0 : List (S25)) (r : Bool) (w : World) (hr0 : Kd.C k25 w A0 l0.length l0) (hc0 : l0.length ≤ c0) (h : feluccalaw13_OrderSorts.f k l0 = some r) :
    Calls Try.prog 4 #[.slice A0 l0.length c0] w fun e w' => e = .returned (.bool r) ∧ Below w.heap.size w w' := by
  have hu25 := Try.underlying25
  have HR0 := Aside0.mk hr0
  have HC0 := Aside0.mk hc0
  clear hr0 hc0
  have HB := Aside0.mk (Below.refl w.heap.size w)
  have H : ((feluccalaw13_small.f).bind fun t269 => ((feluccalaw13_Few.f k l0).bind fun t270 => (if t270 = true then ((order_Sort.f l0).bind fun t271 => (feluccalaw13_OrderSorts.l0 k l0 t269 t271 1)) else (some t269)))) = some r := h
  clear h
  replace H := Option.bind_eq_some_iff.mp H
  obtain ⟨t269, A20, H⟩ := H
  replace H : ((feluccalaw13_Few.f k l0).bind fun t270 => (if t270 = true then ((order_Sort.f l0).bind fun t271 => (feluccalaw13_OrderSorts.l0 k l0 t269 t271 1)) else (some t269))) = some r := H
  have A2 := Aside0.mk A20
  clear A20
  replace H := Option.bind_eq_some_iff.mp H
  obtain ⟨t270, A30, H⟩ := H
  replace H : (if t270 = true then ((order_Sort.f l0).bind fun t271 => (feluccalaw13_OrderSorts.l0 k l0 t269 t271 1)) else (some t269)) = some r := H
  have A3 := Aside0.mk A30
  clear A30
  by_cases c4 : t270 = true
  · subst c4
    have H1 : ((order_Sort.f l0).bind fun t271 => (feluccalaw13_OrderSorts.l0 k l0 t269 t271 1)) = some r := by rw [if_pos rfl] at H; exact H
    clear H
    have H := H1
    clear H1
    replace H := Option.bind_eq_some_iff.mp H
    obtain ⟨t271, A50, H⟩ := H
    replace H : (feluccalaw13_OrderSorts.l0 k l0 t269 t271 1) = some r := H
    have A5 := Aside0.mk A50
    clear A50
    have H' := Aside0.mk H
    clear H
    go_enter Try.func4, Try.ntmps4
    go_wp2_with (first | ((with_reducible refine gate_callee (f := 8) rfl ?_); refine goesL_ (some 13) rfl rfl Try.func8 (by kernel_rfl) rfl #[] rfl (by (try simp only [List.map_toArray, List.map_cons, List.map_nil]); first | done | rfl | (simp only [List.length_drop, List.length_take]; rfl)) ?_; (with_reducible refine (feluccalaw13_small.calls  t269 _ A2.out).mono ?_); rintro e w6 ⟨rfl, hb⟩; refine ⟨_, rfl, ?_⟩; have n0_ := Aside0.mk (below_step (by repeat (first | (with_reducible first | exact HB.out | apply below_alloc | apply pw_below_drewN | apply below_drew1) | exact HB.out)) hb); clear HB; have HB := n0_; clear n0_; (try clear hb); (try clear hb2); (try clear hk); (try clear hi)) | ((with_reducible refine gate_callee (f := 9) rfl ?_); refine goesL_ (some 15) rfl rfl Try.func9 (by kernel_rfl) rfl #[.slice A0 l0.length c0] rfl (by (try simp only [List.map_toArray, List.map_cons, List.map_nil]); first | done | rfl | (simp only [List.length_drop, List.length_take]; rfl)) ?_; (with_reducible refine (feluccalaw13_Few.calls k _ _ l0 true _ ?side1 ?side2 A3.out).mono ?_); (case side1 => repeat (first | exact (Kd.C_below HR0.out HB.out) | (with_reducible refine Kd.C_alloc ?_ _) | (with_reducible refine Kd.C_drewN ?_ _) | (with_reducible refine Kd.C_drew ?_))); (case side2 => exact HC0.out); rintro e w' ⟨rfl, ⟨nd, rfl⟩⟩; refine ⟨_, rfl, ?_⟩) | ((with_reducible refine gate_callee (f := 11) rfl ?_); refine goesL_ (some 20) rfl rfl Try.func11 (by kernel_rfl) rfl #[.slice A0 l0.length c0] rfl (by (try simp only [List.map_toArray, List.map_cons, List.map_nil]); first | done | rfl | (simp only [List.length_drop, List.length_take]; rfl)) ?_; (with_reducible refine (order_Sort.calls _ _ l0 t271 _ ?side1 ?side2 A5.out).mono ?_); (case side1 => repeat (first | exact (Kd.C_below HR0.out (by repeat (first | (with_reducible first | exact HB.out | apply below_alloc | apply pw_below_drewN | apply below_drew1) | exact HB.out))) | (with_reducible refine Kd.C_alloc ?_ _) | (with_reducible refine Kd.C_drewN ?_ _) | (with_reducible refine Kd.C_drew ?_))); (case side2 => exact HC0.out); rintro e w7 ⟨v272, rfl, ho0, hb⟩; refine ⟨_, rfl, ?_⟩; have n0_ := Aside0.mk (Kd.S_lower ho0 (below_size (by repeat (first | (with_reducible first | exact HB.out | apply below_alloc | apply pw_below_drewN | apply below_drew1) | exact HB.out)))); have n1_ := Aside0.mk (below_step (by repeat (first | (with_reducible first | exact HB.out | apply below_alloc | apply pw_below_drewN | apply below_drew1) | exact HB.out)) hb); clear HB; have HO273 := n0_; have HB := n1_; clear n0_ n1_; (try clear hb); (try clear hb2); (try clear hk); (try clear hi); (try clear ho0)))
    go_loopg [6] k (fun kq v6 w' => ∃ (x6_1 : Int), v6 = .int .i64 x6_1 ∧ Aside0 (feluccalaw13_OrderSorts.l0 kq l0 t269 t271 x6_1 = some r) ∧ Aside0 (kq ≤ k) ∧ Aside0 (Kd.S k25 25 w' w.heap.size (fun _ => True) v272 t271) ∧ Aside0 (Below w.heap.size w w'))
    case atStart => exact ⟨(1), (by first | rfl | (simp; done) | (simp [*]; done)), H', ⟨Nat.le_refl _⟩, ⟨by (with_reducible repeat (first | apply Kd.S_alloc | apply Kd.S_drewN | apply Kd.S_drew)); exact HO273.out⟩, ⟨by repeat (first | (with_reducible first | exact HB.out | apply below_alloc | apply pw_below_drewN | apply below_drew1) | exact HB.out)⟩⟩
    case round =>
      clear H'
      try clear c1
      try clear p2
      try clear c4
      obtain ⟨x6_1, rfl, HA, HK1, HO_5, HB⟩ := hrel
      cases gk with
      | zero => exact absurd HA.out (by simp [feluccalaw13_OrderSorts.l0])
      | succ k1 =>
        have H := HA.out
        clear HA
        simp only [feluccalaw13_OrderSorts.l0] at H
        by_cases c8 : x6_1 < (t271.length : Int)
        · rw [if_pos c8] at H
          have c8b0 : decide (x6_1 < (t271.length : Int)) = true := decide_eq_true c8
          clear c8
          obtain ⟨ji9, hji9⟩ : ∃ j_ : Int, (wrap64 (x6_1 - 1)) = j_ := ⟨_, rfl⟩
          replace H : (if 0 ≤ (ji9) then (if (ji9) < (t271.length : Int) then (if 0 ≤ x6_1 then ((order_Compare.f k1 ((rd_T25 t271 (ji9)).f0) ((rd_T25 t271 (ji9)).f1) ((rd_T25 t271 x6_1).f0) ((rd_T25 t271 x6_1).f1)).bind fun t276 => (if t276 = (-1) then (feluccalaw13_OrderSorts.l0 k1 l0 t269 t271 (wrap64 (x6_1 + 1))) else (some false))) else (none)) else (none)) else (none)) = some r := by first | (rw [hji9] at H; exact H) | (simp only [hji9] at H ⊢; exact H)
          have hji9w : (IntKind.i64.wrap (x6_1 - 1)) = ji9 := (i64_w _).trans hji9
          by_cases c10 : 0 ≤ (ji9)
          · rw [if_pos c10] at H
            have c10b0 : decide (0 ≤ (ji9)) = true := decide_eq_true c10
            clear c10
            by_cases c11 : (ji9) < (t271.length : Int)
            · rw [if_pos c11] at H
              have c11b0 : decide ((ji9) < (t271.length : Int)) = true := decide_eq_true c11
              clear c11
              by_cases c12 : 0 ≤ x6_1
              · rw [if_pos c12] at H
                have c12b0 : decide (0 ≤ x6_1) = true := decide_eq_true c12
                clear c12
                replace H := Option.bind_eq_some_iff.mp H
                obtain ⟨t276, A130, H⟩ := H
                replace H : (if t276 = (-1) then (feluccalaw13_OrderSorts.l0 k1 l0 t269 t271 (wrap64 (x6_1 + 1))) else (some false)) = some r := H
                have A13 := Aside0.mk A130
                clear A130
                by_cases c14 : t276 = (-1)
                · rw [if_pos c14] at H
                  have c14b0 : (t276 == (-1)) = true := beq_iff_eq.mpr c14
                  have c14b1 : (t276 != (-1)) = false := bne_eq_false_iff_eq.mpr c14
                  clear c14
                  have H' := Aside0.mk H
                  clear H
                  obtain ⟨Ao15, co15, eo15⟩ := Kd.S_slice HO_5.out
                  subst eo15
                  try go_wp2
                  have n0_ := Aside0.mk (Kd.S_drew HO_5.out)
                  have n1_ := Aside0.mk (below_drew1 HB.out)
                  clear HO_5
                  clear HB
                  have HO_5 := n0_
                  have HB := n1_
                  clear n0_ n1_
                  have p274 : 0 ≤ ((ji9) : Int) := of_decide_eq_true (by first | (with_reducible assumption) | assumption)
                  have q274 : (ji9) < (t271.length : Int) := of_decide_eq_true (by first | (with_reducible assumption) | assumption)
                  obtain ⟨ad274, A274_0, c274_0, e274, hx274_0, hx274_1, hl274_0, hi274_0⟩ := at_T25 (Kd.S_reads' HO_5.out).2.2 (ji9) p274 q274
                  cases e274
                  obtain ⟨ce274, hce274, hMe274, hcc274⟩ := Kd.S_get HO_5.out z25 (ji9) p274 (by first | exact q274 | exact of_decide_eq_true (by first | (with_reducible assumption) | assumption) | (have e_ := (Kd.S_reads' HO_5.out).1; omega))
                  obtain ⟨ve274_0, rfl, ge274_0⟩ := k25_openM hMe274
                  have hv274_0 := hcc274 0 _ rfl
                  rw [Nat.add_zero] at hv274_0
                  replace hv274_0 := Option.some.inj (hv274_0.symm.trans hx274_0)
                  rw [hv274_0] at ge274_0
                  have HL274_0 := Aside0.mk (show Kd.R k34 34 _ _ _ _ ((rd_T25 t271 (ji9)).f0) from ge274_0)
                  clear hv274_0 ge274_0
                  clear hcc274 hce274
                  have HR274_0 := Aside0.mk hi274_0
                  have HC274_0 := Aside0.mk hl274_0
                  clear hi274_0 hl274_0
                  replace p274 := eq_true p274
                  replace q274 := eq_true q274
                  have p275 : 0 ≤ (x6_1 : Int) := of_decide_eq_true (by first | (with_reducible assumption) | assumption)
                  have q275 : x6_1 < (t271.length : Int) := of_decide_eq_true (by first | (with_reducible assumption) | assumption)
                  obtain ⟨ad275, A275_0, c275_0, e275, hx275_0, hx275_1, hl275_0, hi275_0⟩ := at_T25 (Kd.S_reads' HO_5.out).2.2 x6_1 p275 q275
                  obtain rfl : ad274 = ad275 := (by injection e275)
                  obtain ⟨ce275, hce275, hMe275, hcc275⟩ := Kd.S_get HO_5.out z25 x6_1 p275 (by first | exact q275 | exact of_decide_eq_true (by first | (with_reducible assumption) | assumption) | (have e_ := (Kd.S_reads' HO_5.out).1; omega))
                  obtain ⟨ve275_0, rfl, ge275_0⟩ := k25_openM hMe275
                  have hv275_0 := hcc275 0 _ rfl
                  rw [Nat.add_zero] at hv275_0
                  replace hv275_0 := Option.some.inj (hv275_0.symm.trans hx275_0)
                  rw [hv275_0] at ge275_0
                  have HL275_0 := Aside0.mk (show Kd.R k34 34 _ _ _ _ ((rd_T25 t271 x6_1).f0) from ge275_0)
                  clear hv275_0 ge275_0
                  clear hcc275 hce275
                  have HR275_0 := Aside0.mk hi275_0
                  have HC275_0 := Aside0.mk hl275_0
                  clear hi275_0 hl275_0
                  replace p275 := eq_true p275
                  replace q275 := eq_true q275
                  refine start_ (n := 11) (S := fun w' => w'.cell? (ad274.add (((ji9)).toNat * 2)) = some (.slice A274_0 ((rd_T25 t271 (ji9)).f0).length c274_0) ∧ w'.cell? ⟨(ad274.add (((ji9)).toNat * 2)).block, (ad274.add (((ji9)).toNat * 2)).off + 1, none⟩ = some (.int .i64 ((rd_T25 t271 (ji9)).f1)) ∧ w'.cell? (ad274.add ((x6_1).toNat * 2)) = some (.slice A275_0 ((rd_T25 t271 x6_1).f0).length c275_0) ∧ w'.cell? ⟨(ad274.add ((x6_1).toNat * 2)).block, (ad274.add ((x6_1).toNat * 2)).off + 1, none⟩ = some (.int .i64 ((rd_T25 t271 x6_1).f1))) (ds := []) #[false, false, false, false, false, false, false, false, false, false, false] (by kernel_rfl) rfl rfl ⟨hx274_0, hx274_1, hx275_0, hx275_1⟩ (fun hHeld => ?_); refine with_tabW feluccalaw13_OrderSorts.tab9 feluccalaw13_OrderSorts.bits9 (fun HT_ HW_ => ?_)
                  generalize wr.drew = w16 at HO_5 HB HL274_0 HL275_0 HR274_0 HR275_0 hx274_0 hx274_1 hx275_0 hx275_1 hHeld ⊢
                  refine pure_ (i := 0) (N := some 27) (v := ?_) (a' := ?_) #[true, false, false, false, false, false, false, false, false, false, false] rfl rfl (any_of HT_.out (by kernel_rfl)) (fun _ _ _ h => h) (Or.inl ⟨by rfl, ?_⟩) ?_ ?_
                  rotate_left
                  · intro w'
                    go_simp
                    with_reducible rfl
                  rotate_left
                  · simp only [Act.put, List.setIfInBounds_toArray, List.set_cons_zero, List.set_cons_succ, i64_w, i32_w]
                    rfl
                  refine pure_ (i := 1) (N := some 28) (v := ?_) (a' := ?_) #[true, true, false, false, false, false, false, false, false, false, false] rfl rfl (any_of HT_.out (by kernel_rfl)) (fun _ _ _ h => h) (Or.inl ⟨by rfl, ?_⟩) ?_ ?_
                  rotate_left
                  · intro w'
                    go_simp
                    with_reducible rfl
                  rotate_left
                  · simp only [Act.put, List.setIfInBounds_toArray, List.set_cons_zero, List.set_cons_succ, i64_w, i32_w]
                    rfl
                  refine pure_ (i := 2) (N := some 29) (v := ?_) (a' := ?_) #[true, true, true, false, false, false, false, false, false, false, false] rfl rfl (any_of HT_.out (by kernel_rfl)) (fun _ _ _ h => h) (Or.inl ⟨by rfl, ?_⟩) ?_ ?_
                  rotate_left
                  · intro w'
                    go_simp
                    with_reducible rfl
                  rotate_left
                  · simp only [Act.put, List.setIfInBounds_toArray, List.set_cons_zero, List.set_cons_succ, i64_w, i32_w]
                    rfl
                  refine pure_ (i := 3) (N := some 30) (v := ?_) (a' := ?_) #[true, true, true, true, false, false, false, false, false, false, false] rfl rfl (any_of HT_.out (by kernel_rfl)) (fun _ _ _ h => h) (Or.inl ⟨by rfl, ?_⟩) ?_ ?_
                  rotate_left
                  · intro w'
                    go_simp
                    with_reducible rfl
                  rotate_left
                  · simp only [Act.put, List.setIfInBounds_toArray, List.set_cons_zero, List.set_cons_succ, i64_w, i32_w]
                    rfl
                  refine pure_ (i := 5) (N := some 32) (v := ?_) (a' := ?_) #[true, true, true, true, false, true, false, false, false, false, false] rfl rfl (any_of HT_.out (by kernel_rfl)) (fun _ _ _ h => h) (Or.inl ⟨by rfl, ?_⟩) ?_ ?_
                  rotate_left
                  · intro w'
                    go_simp
                    with_reducible rfl
                  rotate_left
                  · simp only [Act.put, List.setIfInBounds_toArray, List.set_cons_zero, List.set_cons_succ, i64_w, i32_w]
                    rfl
                  refine pure_ (i := 6) (N := some 33) (v := ?_) (a' := ?_) #[true, true, true, true, false, true, true, false, false, false, false] rfl rfl (any_of HT_.out (by kernel_rfl)) (fun _ _ _ h => h) (Or.inl ⟨by rfl, ?_⟩) ?_ ?_
                  rotate_left
                  · intro w'
                    go_simp
                    with_reducible rfl
                  rotate_left
                  · simp only [Act.put, List.setIfInBounds_toArray, List.set_cons_zero, List.set_cons_succ, i64_w, i32_w]
                    rfl
                  refine pure_ (i := 7) (N := some 34) (v := ?_) (a' := ?_) #[true, true, true, true, false, true, true, true, false, false, false] rfl rfl (any_of HT_.out (by kernel_rfl)) (fun _ _ _ h => h) (Or.inl ⟨by rfl, ?_⟩) ?_ ?_
                  rotate_left
                  · intro w'
                    go_simp
                    with_reducible rfl
                  rotate_left
                  · simp only [Act.put, List.setIfInBounds_toArray, List.set_cons_zero, List.set_cons_succ, i64_w, i32_w]
                    rfl
                  refine take_ (i := 4) (N := some 31) (v := ?_) (a' := ?_) #[true, true, true, true, true, true, true, true, false, false, false] rfl rfl (take_ofW HT_.out HW_.out (by kernel_rfl)) (fun _ _ _ h => h) (Or.inl ⟨by rfl, ?_⟩) hHeld ?_ ?_
                  rotate_left
                  · rintro w' ⟨s0, s1, s2, s3⟩
                    go_simp
                    with_reducible rfl
                  rotate_left
                  · simp only [Act.put, List.setIfInBounds_toArray, List.set_cons_zero, List.set_cons_succ, i64_w, i32_w]
                    rfl
                  refine take_ (i := 8) (N := some 35) (v := ?_) (a' := ?_) #[true, true, true, true, true, true, true, true, true, false, false] rfl rfl (take_ofW HT_.out HW_.out (by kernel_rfl)) (fun _ _ _ h => h) (Or.inl ⟨by rfl, ?_⟩) hHeld ?_ ?_
                  rotate_left
                  · rintro w' ⟨s0, s1, s2, s3⟩
                    go_simp
                    with_reducible rfl
                  rotate_left
                  · simp only [Act.put, List.setIfInBounds_toArray, List.set_cons_zero, List.set_cons_succ, i64_w, i32_w]
                    rfl
                  refine one_ (i := 9) (N := some 36) #[true, true, true, true, true, true, true, true, true, true, false] rfl rfl (one_of HT_.out (by kernel_rfl)) (by decide) (fun K hK => ?_)
                  refine goes_ Try.func17 (by kernel_rfl) rfl #[.agg #[.slice A274_0 ((rd_T25 t271 (ji9)).f0).length c274_0, .int .i64 ((rd_T25 t271 (ji9)).f1)], .agg #[.slice A275_0 ((rd_T25 t271 x6_1).f0).length c275_0, .int .i64 ((rd_T25 t271 x6_1).f1)]] (by rfl) rfl rfl (by (try simp only [List.map_toArray, List.map_cons, List.map_nil]); first | done | (simp only [hji9]; rfl) | rfl | (simp only [List.length_drop, List.length_take]; rfl)) ?_
                  with_reducible refine (order_Compare.calls k1 _ _ ((rd_T25 t271 (ji9)).f0) ((rd_T25 t271 (ji9)).f1) _ _ ((rd_T25 t271 x6_1).f0) ((rd_T25 t271 x6_1).f1) t276 _ ?side1 ?side2 ?side3 ?side4 A13.out).mono ?_
                  (case side1 => repeat (first | exact (by repeat (first | (with_reducible exact HR274_0.out) | (with_reducible refine Kd.C_alloc ?_ _) | (with_reducible refine Kd.C_drewN ?_ _) | (with_reducible refine Kd.C_drew ?_) | exact HR274_0.out)) | (with_reducible refine Kd.C_alloc ?_ _) | (with_reducible refine Kd.C_drewN ?_ _) | (with_reducible refine Kd.C_drew ?_)))
                  (case side2 => exact HC274_0.out)
                  (case side3 => repeat (first | exact (by repeat (first | (with_reducible exact HR275_0.out) | (with_reducible refine Kd.C_alloc ?_ _) | (with_reducible refine Kd.C_drewN ?_ _) | (with_reducible refine Kd.C_drew ?_) | exact HR275_0.out)) | (with_reducible refine Kd.C_alloc ?_ _) | (with_reducible refine Kd.C_drewN ?_ _) | (with_reducible refine Kd.C_drew ?_)))
                  (case side4 => exact HC275_0.out)
                  rintro e w17 ⟨rfl, hb⟩
                  have HS0_ := (hb.cell (World.block_lt_of_cell? _ _ (hHeld.1))).trans (hHeld.1)
                  have HS1_ := (hb.cell (World.block_lt_of_cell? _ _ (hHeld.2.1))).trans (hHeld.2.1)
                  have HS2_ := (hb.cell (World.block_lt_of_cell? _ _ (hHeld.2.2.1))).trans (hHeld.2.2.1)
                  have HS3_ := (hb.cell (World.block_lt_of_cell? _ _ (hHeld.2.2.2))).trans (hHeld.2.2.2)
                  refine ⟨_, rfl, ?_⟩
                  have n0_ := Aside0.mk (Kd.S_below (by (with_reducible repeat (first | apply Kd.S_alloc | apply Kd.S_drewN | apply Kd.S_drew)); exact HO_5.out) hb)
                  have n1_ := Aside0.mk (Kd.R_below (by (with_reducible repeat (first | apply Kd.R_alloc | apply Kd.R_drewN | apply Kd.R_drew)); exact HL274_0.out) hb)
                  have n2_ := Aside0.mk (Kd.R_below (by (with_reducible repeat (first | apply Kd.R_alloc | apply Kd.R_drewN | apply Kd.R_drew)); exact HL275_0.out) hb)
                  have n3_ := Aside0.mk (Kd.C_below (by repeat (first | (with_reducible exact HR274_0.out) | (with_reducible refine Kd.C_alloc ?_ _) | (with_reducible refine Kd.C_drewN ?_ _) | (with_reducible refine Kd.C_drew ?_) | exact HR274_0.out)) hb)
                  have n4_ := Aside0.mk (Kd.C_below (by repeat (first | (with_reducible exact HR275_0.out) | (with_reducible refine Kd.C_alloc ?_ _) | (with_reducible refine Kd.C_drewN ?_ _) | (with_reducible refine Kd.C_drew ?_) | exact HR275_0.out)) hb)
                  have n5_ := Aside0.mk (below_step (by repeat (first | (with_reducible first | exact HB.out | apply below_alloc | apply pw_below_drewN | apply below_drew1) | exact HB.out)) hb)
                  clear HO_5
                  clear HL274_0
                  clear HL275_0
                  clear HR274_0
                  clear HR275_0
                  clear HB
                  have HO_5 := n0_
                  have HL274_0 := n1_
                  have HL275_0 := n2_
                  have HR274_0 := n3_
                  have HR275_0 := n4_
                  have HB := n5_
                  clear n0_ n1_ n2_ n3_ n4_ n5_
                  (try clear hb)
                  (try clear hb2)
                  (try clear hk)
                  (try clear hi)
                  refine hK.out _ _ ⟨HS0_, HS1_, HS2_, HS3_⟩ (fun hHeld => ?_)
                  clear hK K
                  refine norm_ (a' := ?_) ?_ ?_
                  rotate_left
                  · show Act.put _ (some 36) _ = _
                    simp only [Act.put, List.setIfInBounds_toArray, List.set_cons_zero, List.set_cons_succ, i64_w, i32_w]
                    rfl
                  refine pure_ (i := 10) (N := some 37) (v := ?_) (a' := ?_) #[true, true, true, true, true, true, true, true, true, true, true] rfl rfl (any_of HT_.out (by kernel_rfl)) (fun _ _ _ h => h) (Or.inl ⟨by rfl, ?_⟩) ?_ ?_
                  rotate_left
                  · intro w'
                    go_simp
                    with_reducible rfl
                  rotate_left
                  · simp only [Act.put, List.setIfInBounds_toArray, List.set_cons_zero, List.set_cons_succ, i64_w, i32_w]
                    rfl
                  refine done_ (done_of HT_.out (by kernel_rfl)) ?_
                  try go_wp2
                  go_roundg k1
                  case measure => have := HK1.out; omega
                  case rel => exact ⟨(wrap64 (x6_1 + 1)), (by first | rfl | (simp; done) | (simp [*]; done)), H', ⟨by have := HK1.out; omega⟩, ⟨by (with_reducible repeat (first | apply Kd.S_alloc | apply Kd.S_drewN | apply Kd.S_drew)); exact HO_5.out⟩, ⟨by repeat (first | (with_reducible first | exact HB.out | apply below_alloc | apply pw_below_drewN | apply below_drew1) | exact HB.out)⟩⟩
                · rw [if_neg c14] at H
                  have c14b0 : (t276 == (-1)) = false := beq_eq_false_iff_ne.mpr c14
                  have c14b1 : (t276 != (-1)) = true := bne_iff_ne.mpr c14
                  obtain rfl := Option.some.inj H
                  obtain ⟨Ao18, co18, eo18⟩ := Kd.S_slice HO_5.out
                  subst eo18
                  try go_wp2
                  have n0_ := Aside0.mk (Kd.S_drew HO_5.out)
                  have n1_ := Aside0.mk (below_drew1 HB.out)
                  clear HO_5
                  clear HB
                  have HO_5 := n0_
                  have HB := n1_
                  clear n0_ n1_
                  have p274 : 0 ≤ ((ji9) : Int) := of_decide_eq_true (by first | (with_reducible assumption) | assumption)
                  have q274 : (ji9) < (t271.length : Int) := of_decide_eq_true (by first | (with_reducible assumption) | assumption)
                  obtain ⟨ad274, A274_0, c274_0, e274, hx274_0, hx274_1, hl274_0, hi274_0⟩ := at_T25 (Kd.S_reads' HO_5.out).2.2 (ji9) p274 q274
                  cases e274
                  obtain ⟨ce274, hce274, hMe274, hcc274⟩ := Kd.S_get HO_5.out z25 (ji9) p274 (by first | exact q274 | exact of_decide_eq_true (by first | (with_reducible assumption) | assumption) | (have e_ := (Kd.S_reads' HO_5.out).1; omega))
                  obtain ⟨ve274_0, rfl, ge274_0⟩ := k25_openM hMe274
                  have hv274_0 := hcc274 0 _ rfl
                  rw [Nat.add_zero] at hv274_0
                  replace hv274_0 := Option.some.inj (hv274_0.symm.trans hx274_0)
                  rw [hv274_0] at ge274_0
                  have HL274_0 := Aside0.mk (show Kd.R k34 34 _ _ _ _ ((rd_T25 t271 (ji9)).f0) from ge274_0)
                  clear hv274_0 ge274_0
                  clear hcc274 hce274
                  have HR274_0 := Aside0.mk hi274_0
                  have HC274_0 := Aside0.mk hl274_0
                  clear hi274_0 hl274_0
                  replace p274 := eq_true p274
                  replace q274 := eq_true q274
                  have p275 : 0 ≤ (x6_1 : Int) := of_decide_eq_true (by first | (with_reducible assumption) | assumption)
                  have q275 : x6_1 < (t271.length : Int) := of_decide_eq_true (by first | (with_reducible assumption) | assumption)
                  obtain ⟨ad275, A275_0, c275_0, e275, hx275_0, hx275_1, hl275_0, hi275_0⟩ := at_T25 (Kd.S_reads' HO_5.out).2.2 x6_1 p275 q275
                  obtain rfl : ad274 = ad275 := (by injection e275)
                  obtain ⟨ce275, hce275, hMe275, hcc275⟩ := Kd.S_get HO_5.out z25 x6_1 p275 (by first | exact q275 | exact of_decide_eq_true (by first | (with_reducible assumption) | assumption) | (have e_ := (Kd.S_reads' HO_5.out).1; omega))
                  obtain ⟨ve275_0, rfl, ge275_0⟩ := k25_openM hMe275
                  have hv275_0 := hcc275 0 _ rfl
                  rw [Nat.add_zero] at hv275_0
                  replace hv275_0 := Option.some.inj (hv275_0.symm.trans hx275_0)
                  rw [hv275_0] at ge275_0
                  have HL275_0 := Aside0.mk (show Kd.R k34 34 _ _ _ _ ((rd_T25 t271 x6_1).f0) from ge275_0)
                  clear hv275_0 ge275_0
                  clear hcc275 hce275
                  have HR275_0 := Aside0.mk hi275_0
                  have HC275_0 := Aside0.mk hl275_0
                  clear hi275_0 hl275_0
                  replace p275 := eq_true p275
                  replace q275 := eq_true q275
                  refine start_ (n := 11) (S := fun w' => w'.cell? (ad274.add (((ji9)).toNat * 2)) = some (.slice A274_0 ((rd_T25 t271 (ji9)).f0).length c274_0) ∧ w'.cell? ⟨(ad274.add (((ji9)).toNat * 2)).block, (ad274.add (((ji9)).toNat * 2)).off + 1, none⟩ = some (.int .i64 ((rd_T25 t271 (ji9)).f1)) ∧ w'.cell? (ad274.add ((x6_1).toNat * 2)) = some (.slice A275_0 ((rd_T25 t271 x6_1).f0).length c275_0) ∧ w'.cell? ⟨(ad274.add ((x6_1).toNat * 2)).block, (ad274.add ((x6_1).toNat * 2)).off + 1, none⟩ = some (.int .i64 ((rd_T25 t271 x6_1).f1))) (ds := []) #[false, false, false, false, false, false, false, false, false, false, false] (by kernel_rfl) rfl rfl ⟨hx274_0, hx274_1, hx275_0, hx275_1⟩ (fun hHeld => ?_); refine with_tabW feluccalaw13_OrderSorts.tab9 feluccalaw13_OrderSorts.bits9 (fun HT_ HW_ => ?_)
                  generalize wr.drew = w19 at HO_5 HB HL274_0 HL275_0 HR274_0 HR275_0 hx274_0 hx274_1 hx275_0 hx275_1 hHeld ⊢
                  refine pure_ (i := 0) (N := some 27) (v := ?_) (a' := ?_) #[true, false, false, false, false, false, false, false, false, false, false] rfl rfl (any_of HT_.out (by kernel_rfl)) (fun _ _ _ h => h) (Or.inl ⟨by rfl, ?_⟩) ?_ ?_
                  rotate_left
                  · intro w'
                    go_simp
                    with_reducible rfl
                  rotate_left
                  · simp only [Act.put, List.setIfInBounds_toArray, List.set_cons_zero, List.set_cons_succ, i64_w, i32_w]
                    rfl
                  refine pure_ (i := 1) (N := some 28) (v := ?_) (a' := ?_) #[true, true, false, false, false, false, false, false, false, false, false] rfl rfl (any_of HT_.out (by kernel_rfl)) (fun _ _ _ h => h) (Or.inl ⟨by rfl, ?_⟩) ?_ ?_
                  rotate_left
                  · intro w'
                    go_simp
                    with_reducible rfl
                  rotate_left
                  · simp only [Act.put, List.setIfInBounds_toArray, List.set_cons_zero, List.set_cons_succ, i64_w, i32_w]
                    rfl
                  refine pure_ (i := 2) (N := some 29) (v := ?_) (a' := ?_) #[true, true, true, false, false, false, false, false, false, false, false] rfl rfl (any_of HT_.out (by kernel_rfl)) (fun _ _ _ h => h) (Or.inl ⟨by rfl, ?_⟩) ?_ ?_
                  rotate_left
                  · intro w'
                    go_simp
                    with_reducible rfl
                  rotate_left
                  · simp only [Act.put, List.setIfInBounds_toArray, List.set_cons_zero, List.set_cons_succ, i64_w, i32_w]
                    rfl
                  refine pure_ (i := 3) (N := some 30) (v := ?_) (a' := ?_) #[true, true, true, true, false, false, false, false, false, false, false] rfl rfl (any_of HT_.out (by kernel_rfl)) (fun _ _ _ h => h) (Or.inl ⟨by rfl, ?_⟩) ?_ ?_
                  rotate_left
                  · intro w'
                    go_simp
                    with_reducible rfl
                  rotate_left
                  · simp only [Act.put, List.setIfInBounds_toArray, List.set_cons_zero, List.set_cons_succ, i64_w, i32_w]
                    rfl
                  refine pure_ (i := 5) (N := some 32) (v := ?_) (a' := ?_) #[true, true, true, true, false, true, false, false, false, false, false] rfl rfl (any_of HT_.out (by kernel_rfl)) (fun _ _ _ h => h) (Or.inl ⟨by rfl, ?_⟩) ?_ ?_
                  rotate_left
                  · intro w'
                    go_simp
                    with_reducible rfl
                  rotate_left
                  · simp only [Act.put, List.setIfInBounds_toArray, List.set_cons_zero, List.set_cons_succ, i64_w, i32_w]
                    rfl
                  refine pure_ (i := 6) (N := some 33) (v := ?_) (a' := ?_) #[true, true, true, true, false, true, true, false, false, false, false] rfl rfl (any_of HT_.out (by kernel_rfl)) (fun _ _ _ h => h) (Or.inl ⟨by rfl, ?_⟩) ?_ ?_
                  rotate_left
                  · intro w'
                    go_simp
                    with_reducible rfl
                  rotate_left
                  · simp only [Act.put, List.setIfInBounds_toArray, List.set_cons_zero, List.set_cons_succ, i64_w, i32_w]
                    rfl
                  refine pure_ (i := 7) (N := some 34) (v := ?_) (a' := ?_) #[true, true, true, true, false, true, true, true, false, false, false] rfl rfl (any_of HT_.out (by kernel_rfl)) (fun _ _ _ h => h) (Or.inl ⟨by rfl, ?_⟩) ?_ ?_
                  rotate_left
                  · intro w'
                    go_simp
                    with_reducible rfl
                  rotate_left
                  · simp only [Act.put, List.setIfInBounds_toArray, List.set_cons_zero, List.set_cons_succ, i64_w, i32_w]
                    rfl
                  refine take_ (i := 4) (N := some 31) (v := ?_) (a' := ?_) #[true, true, true, true, true, true, true, true, false, false, false] rfl rfl (take_ofW HT_.out HW_.out (by kernel_rfl)) (fun _ _ _ h => h) (Or.inl ⟨by rfl, ?_⟩) hHeld ?_ ?_
                  rotate_left
                  · rintro w' ⟨s0, s1, s2, s3⟩
                    go_simp
                    with_reducible rfl
                  rotate_left
                  · simp only [Act.put, List.setIfInBounds_toArray, List.set_cons_zero, List.set_cons_succ, i64_w, i32_w]
                    rfl
                  refine take_ (i := 8) (N := some 35) (v := ?_) (a' := ?_) #[true, true, true, true, true, true, true, true, true, false, false] rfl rfl (take_ofW HT_.out HW_.out (by kernel_rfl)) (fun _ _ _ h => h) (Or.inl ⟨by rfl, ?_⟩) hHeld ?_ ?_
                  rotate_left
                  · rintro w' ⟨s0, s1, s2, s3⟩
                    go_simp
                    with_reducible rfl
                  rotate_left
                  · simp only [Act.put, List.setIfInBounds_toArray, List.set_cons_zero, List.set_cons_succ, i64_w, i32_w]
                    rfl
                  refine one_ (i := 9) (N := some 36) #[true, true, true, true, true, true, true, true, true, true, false] rfl rfl (one_of HT_.out (by kernel_rfl)) (by decide) (fun K hK => ?_)
                  refine goes_ Try.func17 (by kernel_rfl) rfl #[.agg #[.slice A274_0 ((rd_T25 t271 (ji9)).f0).length c274_0, .int .i64 ((rd_T25 t271 (ji9)).f1)], .agg #[.slice A275_0 ((rd_T25 t271 x6_1).f0).length c275_0, .int .i64 ((rd_T25 t271 x6_1).f1)]] (by rfl) rfl rfl (by (try simp only [List.map_toArray, List.map_cons, List.map_nil]); first | done | (simp only [hji9]; rfl) | rfl | (simp only [List.length_drop, List.length_take]; rfl)) ?_
                  with_reducible refine (order_Compare.calls k1 _ _ ((rd_T25 t271 (ji9)).f0) ((rd_T25 t271 (ji9)).f1) _ _ ((rd_T25 t271 x6_1).f0) ((rd_T25 t271 x6_1).f1) t276 _ ?side1 ?side2 ?side3 ?side4 A13.out).mono ?_
                  (case side1 => repeat (first | exact (by repeat (first | (with_reducible exact HR274_0.out) | (with_reducible refine Kd.C_alloc ?_ _) | (with_reducible refine Kd.C_drewN ?_ _) | (with_reducible refine Kd.C_drew ?_) | exact HR274_0.out)) | (with_reducible refine Kd.C_alloc ?_ _) | (with_reducible refine Kd.C_drewN ?_ _) | (with_reducible refine Kd.C_drew ?_)))
                  (case side2 => exact HC274_0.out)
                  (case side3 => repeat (first | exact (by repeat (first | (with_reducible exact HR275_0.out) | (with_reducible refine Kd.C_alloc ?_ _) | (with_reducible refine Kd.C_drewN ?_ _) | (with_reducible refine Kd.C_drew ?_) | exact HR275_0.out)) | (with_reducible refine Kd.C_alloc ?_ _) | (with_reducible refine Kd.C_drewN ?_ _) | (with_reducible refine Kd.C_drew ?_)))
                  (case side4 => exact HC275_0.out)
                  rintro e w20 ⟨rfl, hb⟩
                  have HS0_ := (hb.cell (World.block_lt_of_cell? _ _ (hHeld.1))).trans (hHeld.1)
                  have HS1_ := (hb.cell (World.block_lt_of_cell? _ _ (hHeld.2.1))).trans (hHeld.2.1)
                  have HS2_ := (hb.cell (World.block_lt_of_cell? _ _ (hHeld.2.2.1))).trans (hHeld.2.2.1)
                  have HS3_ := (hb.cell (World.block_lt_of_cell? _ _ (hHeld.2.2.2))).trans (hHeld.2.2.2)
                  refine ⟨_, rfl, ?_⟩
                  have n0_ := Aside0.mk (Kd.S_below (by (with_reducible repeat (first | apply Kd.S_alloc | apply Kd.S_drewN | apply Kd.S_drew)); exact HO_5.out) hb)
                  have n1_ := Aside0.mk (Kd.R_below (by (with_reducible repeat (first | apply Kd.R_alloc | apply Kd.R_drewN | apply Kd.R_drew)); exact HL274_0.out) hb)
                  have n2_ := Aside0.mk (Kd.R_below (by (with_reducible repeat (first | apply Kd.R_alloc | apply Kd.R_drewN | apply Kd.R_drew)); exact HL275_0.out) hb)
                  have n3_ := Aside0.mk (Kd.C_below (by repeat (first | (with_reducible exact HR274_0.out) | (with_reducible refine Kd.C_alloc ?_ _) | (with_reducible refine Kd.C_drewN ?_ _) | (with_reducible refine Kd.C_drew ?_) | exact HR274_0.out)) hb)
                  have n4_ := Aside0.mk (Kd.C_below (by repeat (first | (with_reducible exact HR275_0.out) | (with_reducible refine Kd.C_alloc ?_ _) | (with_reducible refine Kd.C_drewN ?_ _) | (with_reducible refine Kd.C_drew ?_) | exact HR275_0.out)) hb)
                  have n5_ := Aside0.mk (below_step (by repeat (first | (with_reducible first | exact HB.out | apply below_alloc | apply pw_below_drewN | apply below_drew1) | exact HB.out)) hb)
                  clear HO_5
                  clear HL274_0
                  clear HL275_0
                  clear HR274_0
                  clear HR275_0
                  clear HB
                  have HO_5 := n0_
                  have HL274_0 := n1_
                  have HL275_0 := n2_
                  have HR274_0 := n3_
                  have HR275_0 := n4_
                  have HB := n5_
                  clear n0_ n1_ n2_ n3_ n4_ n5_
                  (try clear hb)
                  (try clear hb2)
                  (try clear hk)
                  (try clear hi)
                  refine hK.out _ _ ⟨HS0_, HS1_, HS2_, HS3_⟩ (fun hHeld => ?_)
                  clear hK K
                  refine norm_ (a' := ?_) ?_ ?_
                  rotate_left
                  · show Act.put _ (some 36) _ = _
                    simp only [Act.put, List.setIfInBounds_toArray, List.set_cons_zero, List.set_cons_succ, i64_w, i32_w]
                    rfl
                  refine pure_ (i := 10) (N := some 37) (v := ?_) (a' := ?_) #[true, true, true, true, true, true, true, true, true, true, true] rfl rfl (any_of HT_.out (by kernel_rfl)) (fun _ _ _ h => h) (Or.inl ⟨by rfl, ?_⟩) ?_ ?_
                  rotate_left
                  · intro w'
                    go_simp
                    with_reducible rfl
                  rotate_left
                  · simp only [Act.put, List.setIfInBounds_toArray, List.set_cons_zero, List.set_cons_succ, i64_w, i32_w]
                    rfl
                  refine done_ (done_of HT_.out (by kernel_rfl)) ?_
                  try go_wp2
                  go_ret
                  exact ⟨by first | rfl | (simp [errW_none, errW_some] <;> rfl) | (simp only [← hji9]; first | rfl | (simp [errW_none, errW_some] <;> rfl)) | (simp [*, errW_none, errW_some] <;> rfl), by repeat (first | (with_reducible first | exact HB.out | apply below_alloc | apply pw_below_drewN | apply below_drew1) | exact HB.out)⟩
              · rw [if_neg c12] at H
                exact absurd H (by simp)
            · rw [if_neg c11] at H
              exact absurd H (by simp)
          · rw [if_neg c10] at H
            exact absurd H (by simp)
        · rw [if_neg c8] at H
          have c8b0 : decide (x6_1 < (t271.length : Int)) = false := decide_eq_false c8
          clear c8
          have H' := Aside0.mk H
          clear H
          obtain ⟨Ao21, co21, eo21⟩ := Kd.S_slice HO_5.out
          subst eo21
          go_wp2
          go_loopg [7] k1 (fun kq v7 w' => ∃ (x7_2 : Int), v7 = .int .i64 x7_2 ∧ Aside0 (feluccalaw13_OrderSorts.l1 kq l0 t269 t271 x7_2 = some r) ∧ Aside0 (kq ≤ k1) ∧ Aside0 (Kd.S k25 25 w' w.heap.size (fun _ => True) (.slice Ao21 t271.length co21) t271) ∧ Aside0 (Below w.heap.size w w'))
          case atStart => exact ⟨(0), (by first | rfl | (simp; done) | (simp [*]; done)), H', ⟨Nat.le_refl _⟩, ⟨by (with_reducible repeat (first | apply Kd.S_alloc | apply Kd.S_drewN | apply Kd.S_drew)); exact HO_5.out⟩, ⟨by repeat (first | (with_reducible first | exact HB.out | apply below_alloc | apply pw_below_drewN | apply below_drew1) | exact HB.out)⟩⟩
          case round =>
            clear H'
            try clear c1
            try clear c2
            try clear p2
            try clear q2
            try clear hx2
            try clear c4
            try clear p6
            try clear c8
            try clear c8b0
            try clear c9
            try clear c10
            try clear c10b0
            try clear c11
            try clear c11b0
            try clear c12
            try clear c12b0
            try clear c14
            try clear c14b0
            try clear c14b1
            try clear c17
            try clear hx274_0
            try clear hx274_1
            try clear hx275_0
            try clear hx275_1
            try clear p2
            try clear p274
            try clear p275
            try clear q274
            try clear q275
            obtain ⟨x7_2, rfl, HA, HK2, HO_5, HB⟩ := hrel
            cases gk with
            | zero => exact absurd HA.out (by simp [feluccalaw13_OrderSorts.l1])
            | succ k2 =>
              have H := HA.out
              clear HA
              simp only [feluccalaw13_OrderSorts.l1] at H
              by_cases c22 : x7_2 < (l0.length : Int)
              · rw [if_pos c22] at H
                have c22b0 : decide (x7_2 < (l0.length : Int)) = true := decide_eq_true c22
                clear c22
                have H' := Aside0.mk H
                clear H
                go_wp2
                go_loopg [8, 9] k2 (fun kq v8 v9 w' => ∃ (x8_3 : Int) (x9_3 : Int), v8 = .int .i64 x8_3 ∧ v9 = .int .i64 x9_3 ∧ Aside0 (feluccalaw13_OrderSorts.l2 kq l0 t269 t271 x7_2 x8_3 x9_3 = some r) ∧ Aside0 (kq ≤ k2) ∧ Aside0 (Kd.S k25 25 w' w.heap.size (fun _ => True) (.slice Ao21 t271.length co21) t271) ∧ Aside0 (Below w.heap.size w w'))
                case atStart => exact ⟨(0), (0), (by first | rfl | (simp; done) | (simp [*]; done)), (by first | rfl | (simp; done) | (simp [*]; done)), H', ⟨Nat.le_refl _⟩, ⟨by (with_reducible repeat (first | apply Kd.S_alloc | apply Kd.S_drewN | apply Kd.S_drew)); exact HO_5.out⟩, ⟨by repeat (first | (with_reducible first | exact HB.out | apply below_alloc | apply pw_below_drewN | apply below_drew1) | exact HB.out)⟩⟩
                case round =>
                  clear H'
                  try clear c1
                  try clear c2
                  try clear p2
                  try clear q2
                  try clear hx2
                  try clear c4
                  try clear p6
                  try clear c8
                  try clear c8b0
                  try clear c9
                  try clear c10
                  try clear c10b0
                  try clear c11
                  try clear c11b0
                  try clear c12
                  try clear c12b0
                  try clear c14
                  try clear c14b0
                  try clear c14b1
                  try clear c17
                  try clear c22
                  try clear c22b0
                  try clear hx274_0
                  try clear hx274_1
                  try clear hx275_0
                  try clear hx275_1
                  try clear p2
                  try clear p274
                  try clear p275
                  try clear p6
                  try clear q2
                  try clear q274
                  try clear q275
                  obtain ⟨x8_3, x9_3, rfl, rfl, HA, HK3, HO_5, HB⟩ := hrel
                  cases gk with
                  | zero => exact absurd HA.out (by simp [feluccalaw13_OrderSorts.l2])
                  | succ k3 =>
                    have H := HA.out
                    clear HA
                    simp only [feluccalaw13_OrderSorts.l2] at H
                    by_cases c23 : x9_3 < (t271.length : Int)
                    · rw [if_pos c23] at H
                      have c23b0 : decide (x9_3 < (t271.length : Int)) = true := decide_eq_true c23
                      clear c23
                      by_cases c24 : 0 ≤ x9_3
                      · rw [if_pos c24] at H
                        have c24b0 : decide (0 ≤ x9_3) = true := decide_eq_true c24
                        clear c24
                        by_cases c25 : 0 ≤ x7_2
                        · rw [if_pos c25] at H
                          have c25b0 : decide (0 ≤ x7_2) = true := decide_eq_true c25
                          clear c25
                          by_cases c26 : x7_2 < (l0.length : Int)
                          · rw [if_pos c26] at H
                            have c26b0 : decide (x7_2 < (l0.length : Int)) = true := decide_eq_true c26
                            clear c26
                            replace H := Option.bind_eq_some_iff.mp H
                            obtain ⟨t279, A270, H⟩ := H
                            replace H : (if t279 = 0 then (feluccalaw13_OrderSorts.l2 k3 l0 t269 t271 x7_2 (wrap64 (x8_3 + 1)) (wrap64 (x9_3 + 1))) else (feluccalaw13_OrderSorts.l2 k3 l0 t269 t271 x7_2 x8_3 (wrap64 (x9_3 + 1)))) = some r := H
                            have A27 := Aside0.mk A270
                            clear A270
                            by_cases c28 : t279 = 0
                            · rw [if_pos c28] at H
                              have c28b0 : (t279 == 0) = true := beq_iff_eq.mpr c28
                              have c28b1 : (t279 != 0) = false := bne_eq_false_iff_eq.mpr c28
                              clear c28
                              have H' := Aside0.mk H
                              clear H
                              try go_wp2
                              have n0_ := Aside0.mk (Kd.S_drew HO_5.out)
                              have n1_ := Aside0.mk (below_drew1 HB.out)
                              clear HO_5
                              clear HB
                              have HO_5 := n0_
                              have HB := n1_
                              clear n0_ n1_
                              have p277 : 0 ≤ (x9_3 : Int) := of_decide_eq_true (by first | (with_reducible assumption) | assumption)
                              have q277 : x9_3 < (t271.length : Int) := of_decide_eq_true (by first | (with_reducible assumption) | assumption)
                              obtain ⟨ad277, A277_0, c277_0, e277, hx277_0, hx277_1, hl277_0, hi277_0⟩ := at_T25 (Kd.S_reads' HO_5.out).2.2 x9_3 p277 q277
                              cases e277
                              obtain ⟨ce277, hce277, hMe277, hcc277⟩ := Kd.S_get HO_5.out z25 x9_3 p277 (by first | exact q277 | exact of_decide_eq_true (by first | (with_reducible assumption) | assumption) | (have e_ := (Kd.S_reads' HO_5.out).1; omega))
                              obtain ⟨ve277_0, rfl, ge277_0⟩ := k25_openM hMe277
                              have hv277_0 := hcc277 0 _ rfl
                              rw [Nat.add_zero] at hv277_0
                              replace hv277_0 := Option.some.inj (hv277_0.symm.trans hx277_0)
                              rw [hv277_0] at ge277_0
                              have HL277_0 := Aside0.mk (show Kd.R k34 34 _ _ _ _ ((rd_T25 t271 x9_3).f0) from ge277_0)
                              clear hv277_0 ge277_0
                              clear hcc277 hce277
                              have HR277_0 := Aside0.mk hi277_0
                              have HC277_0 := Aside0.mk hl277_0
                              clear hi277_0 hl277_0
                              replace p277 := eq_true p277
                              replace q277 := eq_true q277
                              have p278 : 0 ≤ (x7_2 : Int) := of_decide_eq_true (by first | (with_reducible assumption) | assumption)
                              have q278 : x7_2 < (l0.length : Int) := of_decide_eq_true (by first | (with_reducible assumption) | assumption)
                              obtain ⟨ad278, A278_0, c278_0, e278, hx278_0, hx278_1, hl278_0, hi278_0⟩ := at_T25 HR0.out x7_2 p278 q278
                              have hw278_1 := hx278_1
                              have hw278_0 := hx278_0
                              cases e278
                              replace hx278_0 := (HB.out.cell (World.block_lt_of_cell? w _ hx278_0)).trans hx278_0
                              replace hx278_1 := (HB.out.cell (World.block_lt_of_cell? w _ hx278_1)).trans hx278_1
                              have HR278_0 := Aside0.mk hi278_0
                              have HC278_0 := Aside0.mk hl278_0
                              clear hi278_0 hl278_0
                              replace p278 := eq_true p278
                              replace q278 := eq_true q278
                              refine start_ (n := 10) (S := fun w' => w'.cell? (ad277.add ((x9_3).toNat * 2)) = some (.slice A277_0 ((rd_T25 t271 x9_3).f0).length c277_0) ∧ w'.cell? ⟨(ad277.add ((x9_3).toNat * 2)).block, (ad277.add ((x9_3).toNat * 2)).off + 1, none⟩ = some (.int .i64 ((rd_T25 t271 x9_3).f1)) ∧ w'.cell? (ad278.add ((x7_2).toNat * 2)) = some (.slice A278_0 ((rd_T25 l0 x7_2).f0).length c278_0) ∧ w'.cell? ⟨(ad278.add ((x7_2).toNat * 2)).block, (ad278.add ((x7_2).toNat * 2)).off + 1, none⟩ = some (.int .i64 ((rd_T25 l0 x7_2).f1))) (ds := []) #[false, false, false, false, false, false, false, false, false, false] (by kernel_rfl) rfl rfl ⟨hx277_0, hx277_1, ((HB.out.cell (World.block_lt_of_cell? w _ hw278_0)).trans hw278_0), ((HB.out.cell (World.block_lt_of_cell? w _ hw278_1)).trans hw278_1)⟩ (fun hHeld => ?_); refine with_tabW feluccalaw13_OrderSorts.tab18 feluccalaw13_OrderSorts.bits18 (fun HT_ HW_ => ?_)
                              generalize wr.drew = w29 at HO_5 HB HL277_0 HR277_0 HR278_0 hx277_0 hx277_1 hx278_0 hx278_1 hHeld ⊢
                              refine pure_ (i := 0) (N := some 50) (v := ?_) (a' := ?_) #[true, false, false, false, false, false, false, false, false, false] rfl rfl (any_of HT_.out (by kernel_rfl)) (fun _ _ _ h => h) (Or.inl ⟨by rfl, ?_⟩) ?_ ?_
                              rotate_left
                              · intro w'
                                go_simp
                                with_reducible rfl
                              rotate_left
                              · simp only [Act.put, List.setIfInBounds_toArray, List.set_cons_zero, List.set_cons_succ, i64_w, i32_w]
                                rfl
                              refine pure_ (i := 1) (N := some 51) (v := ?_) (a' := ?_) #[true, true, false, false, false, false, false, false, false, false] rfl rfl (any_of HT_.out (by kernel_rfl)) (fun _ _ _ h => h) (Or.inl ⟨by rfl, ?_⟩) ?_ ?_
                              rotate_left
                              · intro w'
                                go_simp
                                with_reducible rfl
                              rotate_left
                              · simp only [Act.put, List.setIfInBounds_toArray, List.set_cons_zero, List.set_cons_succ, i64_w, i32_w]
                                rfl
                              refine pure_ (i := 2) (N := some 52) (v := ?_) (a' := ?_) #[true, true, true, false, false, false, false, false, false, false] rfl rfl (any_of HT_.out (by kernel_rfl)) (fun _ _ _ h => h) (Or.inl ⟨by rfl, ?_⟩) ?_ ?_
                              rotate_left
                              · intro w'
                                go_simp
                                with_reducible rfl
                              rotate_left
                              · simp only [Act.put, List.setIfInBounds_toArray, List.set_cons_zero, List.set_cons_succ, i64_w, i32_w]
                                rfl
                              refine pure_ (i := 4) (N := some 54) (v := ?_) (a' := ?_) #[true, true, true, false, true, false, false, false, false, false] rfl rfl (any_of HT_.out (by kernel_rfl)) (fun _ _ _ h => h) (Or.inl ⟨by rfl, ?_⟩) ?_ ?_
                              rotate_left
                              · intro w'
                                go_simp
                                with_reducible rfl
                              rotate_left
                              · simp only [Act.put, List.setIfInBounds_toArray, List.set_cons_zero, List.set_cons_succ, i64_w, i32_w]
                                rfl
                              refine pure_ (i := 5) (N := some 55) (v := ?_) (a' := ?_) #[true, true, true, false, true, true, false, false, false, false] rfl rfl (any_of HT_.out (by kernel_rfl)) (fun _ _ _ h => h) (Or.inl ⟨by rfl, ?_⟩) ?_ ?_
                              rotate_left
                              · intro w'
                                go_simp
                                with_reducible rfl
                              rotate_left
                              · simp only [Act.put, List.setIfInBounds_toArray, List.set_cons_zero, List.set_cons_succ, i64_w, i32_w]
                                rfl
                              refine pure_ (i := 6) (N := some 56) (v := ?_) (a' := ?_) #[true, true, true, false, true, true, true, false, false, false] rfl rfl (any_of HT_.out (by kernel_rfl)) (fun _ _ _ h => h) (Or.inl ⟨by rfl, ?_⟩) ?_ ?_
                              rotate_left
                              · intro w'
                                go_simp
                                with_reducible rfl
                              rotate_left
                              · simp only [Act.put, List.setIfInBounds_toArray, List.set_cons_zero, List.set_cons_succ, i64_w, i32_w]
                                rfl
                              refine take_ (i := 3) (N := some 53) (v := ?_) (a' := ?_) #[true, true, true, true, true, true, true, false, false, false] rfl rfl (take_ofW HT_.out HW_.out (by kernel_rfl)) (fun _ _ _ h => h) (Or.inl ⟨by rfl, ?_⟩) hHeld ?_ ?_
                              rotate_left
                              · rintro w' ⟨s0, s1, s2, s3⟩
                                go_simp
                                with_reducible rfl
                              rotate_left
                              · simp only [Act.put, List.setIfInBounds_toArray, List.set_cons_zero, List.set_cons_succ, i64_w, i32_w]
                                rfl
                              refine take_ (i := 7) (N := some 57) (v := ?_) (a' := ?_) #[true, true, true, true, true, true, true, true, false, false] rfl rfl (take_ofW HT_.out HW_.out (by kernel_rfl)) (fun _ _ _ h => h) (Or.inl ⟨by rfl, ?_⟩) hHeld ?_ ?_
                              rotate_left
                              · rintro w' ⟨s0, s1, s2, s3⟩
                                go_simp
                                with_reducible rfl
                              rotate_left
                              · simp only [Act.put, List.setIfInBounds_toArray, List.set_cons_zero, List.set_cons_succ, i64_w, i32_w]
                                rfl
                              refine one_ (i := 8) (N := some 58) #[true, true, true, true, true, true, true, true, true, false] rfl rfl (one_of HT_.out (by kernel_rfl)) (by decide) (fun K hK => ?_)
                              refine goes_ Try.func17 (by kernel_rfl) rfl #[.agg #[.slice A277_0 ((rd_T25 t271 x9_3).f0).length c277_0, .int .i64 ((rd_T25 t271 x9_3).f1)], .agg #[.slice A278_0 ((rd_T25 l0 x7_2).f0).length c278_0, .int .i64 ((rd_T25 l0 x7_2).f1)]] (by rfl) rfl rfl (by (try simp only [List.map_toArray, List.map_cons, List.map_nil]); first | done | rfl | (simp only [List.length_drop, List.length_take]; rfl)) ?_
                              with_reducible refine (order_Compare.calls k3 _ _ ((rd_T25 t271 x9_3).f0) ((rd_T25 t271 x9_3).f1) _ _ ((rd_T25 l0 x7_2).f0) ((rd_T25 l0 x7_2).f1) t279 _ ?side1 ?side2 ?side3 ?side4 A27.out).mono ?_
                              (case side1 => repeat (first | exact (by repeat (first | (with_reducible exact HR277_0.out) | (with_reducible refine Kd.C_alloc ?_ _) | (with_reducible refine Kd.C_drewN ?_ _) | (with_reducible refine Kd.C_drew ?_) | exact HR277_0.out)) | (with_reducible refine Kd.C_alloc ?_ _) | (with_reducible refine Kd.C_drewN ?_ _) | (with_reducible refine Kd.C_drew ?_)))
                              (case side2 => exact HC277_0.out)
                              (case side3 => repeat (first | exact (Kd.C_below HR278_0.out HB.out) | (with_reducible refine Kd.C_alloc ?_ _) | (with_reducible refine Kd.C_drewN ?_ _) | (with_reducible refine Kd.C_drew ?_)))
                              (case side4 => exact HC278_0.out)
                              rintro e w30 ⟨rfl, hb⟩
                              have HS0_ := (hb.cell (World.block_lt_of_cell? _ _ (hHeld.1))).trans (hHeld.1)
                              have HS1_ := (hb.cell (World.block_lt_of_cell? _ _ (hHeld.2.1))).trans (hHeld.2.1)
                              refine ⟨_, rfl, ?_⟩
                              have n0_ := Aside0.mk (Kd.S_below (by (with_reducible repeat (first | apply Kd.S_alloc | apply Kd.S_drewN | apply Kd.S_drew)); exact HO_5.out) hb)
                              have n1_ := Aside0.mk (Kd.R_below (by (with_reducible repeat (first | apply Kd.R_alloc | apply Kd.R_drewN | apply Kd.R_drew)); exact HL277_0.out) hb)
                              have n2_ := Aside0.mk (Kd.C_below (by repeat (first | (with_reducible exact HR277_0.out) | (with_reducible refine Kd.C_alloc ?_ _) | (with_reducible refine Kd.C_drewN ?_ _) | (with_reducible refine Kd.C_drew ?_) | exact HR277_0.out)) hb)
                              have n3_ := Aside0.mk (below_step (by repeat (first | (with_reducible first | exact HB.out | apply below_alloc | apply pw_below_drewN | apply below_drew1) | exact HB.out)) hb)
                              clear HO_5
                              clear HL277_0
                              clear HR277_0
                              clear HB
                              have HO_5 := n0_
                              have HL277_0 := n1_
                              have HR277_0 := n2_
                              have HB := n3_
                              clear n0_ n1_ n2_ n3_
                              (try clear hb)
                              (try clear hb2)
                              (try clear hk)
                              (try clear hi)
                              refine hK.out _ _ ⟨HS0_, HS1_, ((HB.out.cell (World.block_lt_of_cell? w _ hw278_0)).trans hw278_0), ((HB.out.cell (World.block_lt_of_cell? w _ hw278_1)).trans hw278_1)⟩ (fun hHeld => ?_)
                              clear hK K
                              refine norm_ (a' := ?_) ?_ ?_
                              rotate_left
                              · show Act.put _ (some 58) _ = _
                                simp only [Act.put, List.setIfInBounds_toArray, List.set_cons_zero, List.set_cons_succ, i64_w, i32_w]
                                rfl
                              refine pure_ (i := 9) (N := some 59) (v := ?_) (a' := ?_) #[true, true, true, true, true, true, true, true, true, true] rfl rfl (any_of HT_.out (by kernel_rfl)) (fun _ _ _ h => h) (Or.inl ⟨by rfl, ?_⟩) ?_ ?_
                              rotate_left
                              · intro w'
                                go_simp
                                with_reducible rfl
                              rotate_left
                              · simp only [Act.put, List.setIfInBounds_toArray, List.set_cons_zero, List.set_cons_succ, i64_w, i32_w]
                                rfl
                              refine done_ (done_of HT_.out (by kernel_rfl)) ?_
                              try go_wp2
                              go_roundg k3
                              case measure => have := HK1.out; have := HK2.out; have := HK3.out; omega
                              case rel => exact ⟨(wrap64 (x8_3 + 1)), (wrap64 (x9_3 + 1)), (by first | rfl | (simp; done) | (simp [*]; done)), (by first | rfl | (simp; done) | (simp [*]; done)), H', ⟨by have := HK1.out; have := HK2.out; have := HK3.out; omega⟩, ⟨by (with_reducible repeat (first | apply Kd.S_alloc | apply Kd.S_drewN | apply Kd.S_drew)); exact HO_5.out⟩, ⟨by repeat (first | (with_reducible first | exact HB.out | apply below_alloc | apply pw_below_drewN | apply below_drew1) | exact HB.out)⟩⟩
                            · rw [if_neg c28] at H
                              have c28b0 : (t279 == 0) = false := beq_eq_false_iff_ne.mpr c28
                              have c28b1 : (t279 != 0) = true := bne_iff_ne.mpr c28
                              have H' := Aside0.mk H
                              clear H
                              try go_wp2
                              have n0_ := Aside0.mk (Kd.S_drew HO_5.out)
                              have n1_ := Aside0.mk (below_drew1 HB.out)
                              clear HO_5
                              clear HB
                              have HO_5 := n0_
                              have HB := n1_
                              clear n0_ n1_
                              have p277 : 0 ≤ (x9_3 : Int) := of_decide_eq_true (by first | (with_reducible assumption) | assumption)
                              have q277 : x9_3 < (t271.length : Int) := of_decide_eq_true (by first | (with_reducible assumption) | assumption)
                              obtain ⟨ad277, A277_0, c277_0, e277, hx277_0, hx277_1, hl277_0, hi277_0⟩ := at_T25 (Kd.S_reads' HO_5.out).2.2 x9_3 p277 q277
                              cases e277
                              obtain ⟨ce277, hce277, hMe277, hcc277⟩ := Kd.S_get HO_5.out z25 x9_3 p277 (by first | exact q277 | exact of_decide_eq_true (by first | (with_reducible assumption) | assumption) | (have e_ := (Kd.S_reads' HO_5.out).1; omega))
                              obtain ⟨ve277_0, rfl, ge277_0⟩ := k25_openM hMe277
                              have hv277_0 := hcc277 0 _ rfl
                              rw [Nat.add_zero] at hv277_0
                              replace hv277_0 := Option.some.inj (hv277_0.symm.trans hx277_0)
                              rw [hv277_0] at ge277_0
                              have HL277_0 := Aside0.mk (show Kd.R k34 34 _ _ _ _ ((rd_T25 t271 x9_3).f0) from ge277_0)
                              clear hv277_0 ge277_0
                              clear hcc277 hce277
                              have HR277_0 := Aside0.mk hi277_0
                              have HC277_0 := Aside0.mk hl277_0
                              clear hi277_0 hl277_0
                              replace p277 := eq_true p277
                              replace q277 := eq_true q277
                              have p278 : 0 ≤ (x7_2 : Int) := of_decide_eq_true (by first | (with_reducible assumption) | assumption)
                              have q278 : x7_2 < (l0.length : Int) := of_decide_eq_true (by first | (with_reducible assumption) | assumption)
                              obtain ⟨ad278, A278_0, c278_0, e278, hx278_0, hx278_1, hl278_0, hi278_0⟩ := at_T25 HR0.out x7_2 p278 q278
                              have hw278_1 := hx278_1
                              have hw278_0 := hx278_0
                              cases e278
                              replace hx278_0 := (HB.out.cell (World.block_lt_of_cell? w _ hx278_0)).trans hx278_0
                              replace hx278_1 := (HB.out.cell (World.block_lt_of_cell? w _ hx278_1)).trans hx278_1
                              have HR278_0 := Aside0.mk hi278_0
                              have HC278_0 := Aside0.mk hl278_0
                              clear hi278_0 hl278_0
                              replace p278 := eq_true p278
                              replace q278 := eq_true q278
                              refine start_ (n := 10) (S := fun w' => w'.cell? (ad277.add ((x9_3).toNat * 2)) = some (.slice A277_0 ((rd_T25 t271 x9_3).f0).length c277_0) ∧ w'.cell? ⟨(ad277.add ((x9_3).toNat * 2)).block, (ad277.add ((x9_3).toNat * 2)).off + 1, none⟩ = some (.int .i64 ((rd_T25 t271 x9_3).f1)) ∧ w'.cell? (ad278.add ((x7_2).toNat * 2)) = some (.slice A278_0 ((rd_T25 l0 x7_2).f0).length c278_0) ∧ w'.cell? ⟨(ad278.add ((x7_2).toNat * 2)).block, (ad278.add ((x7_2).toNat * 2)).off + 1, none⟩ = some (.int .i64 ((rd_T25 l0 x7_2).f1))) (ds := []) #[false, false, false, false, false, false, false, false, false, false] (by kernel_rfl) rfl rfl ⟨hx277_0, hx277_1, ((HB.out.cell (World.block_lt_of_cell? w _ hw278_0)).trans hw278_0), ((HB.out.cell (World.block_lt_of_cell? w _ hw278_1)).trans hw278_1)⟩ (fun hHeld => ?_); refine with_tabW feluccalaw13_OrderSorts.tab18 feluccalaw13_OrderSorts.bits18 (fun HT_ HW_ => ?_)
                              generalize wr.drew = w31 at HO_5 HB HL277_0 HR277_0 HR278_0 hx277_0 hx277_1 hx278_0 hx278_1 hHeld ⊢
                              refine pure_ (i := 0) (N := some 50) (v := ?_) (a' := ?_) #[true, false, false, false, false, false, false, false, false, false] rfl rfl (any_of HT_.out (by kernel_rfl)) (fun _ _ _ h => h) (Or.inl ⟨by rfl, ?_⟩) ?_ ?_
                              rotate_left
                              · intro w'
                                go_simp
                                with_reducible rfl
                              rotate_left
                              · simp only [Act.put, List.setIfInBounds_toArray, List.set_cons_zero, List.set_cons_succ, i64_w, i32_w]
                                rfl
                              refine pure_ (i := 1) (N := some 51) (v := ?_) (a' := ?_) #[true, true, false, false, false, false, false, false, false, false] rfl rfl (any_of HT_.out (by kernel_rfl)) (fun _ _ _ h => h) (Or.inl ⟨by rfl, ?_⟩) ?_ ?_
                              rotate_left
                              · intro w'
                                go_simp
                                with_reducible rfl
                              rotate_left
                              · simp only [Act.put, List.setIfInBounds_toArray, List.set_cons_zero, List.set_cons_succ, i64_w, i32_w]
                                rfl
                              refine pure_ (i := 2) (N := some 52) (v := ?_) (a' := ?_) #[true, true, true, false, false, false, false, false, false, false] rfl rfl (any_of HT_.out (by kernel_rfl)) (fun _ _ _ h => h) (Or.inl ⟨by rfl, ?_⟩) ?_ ?_
                              rotate_left
                              · intro w'
                                go_simp
                                with_reducible rfl
                              rotate_left
                              · simp only [Act.put, List.setIfInBounds_toArray, List.set_cons_zero, List.set_cons_succ, i64_w, i32_w]
                                rfl
                              refine pure_ (i := 4) (N := some 54) (v := ?_) (a' := ?_) #[true, true, true, false, true, false, false, false, false, false] rfl rfl (any_of HT_.out (by kernel_rfl)) (fun _ _ _ h => h) (Or.inl ⟨by rfl, ?_⟩) ?_ ?_
                              rotate_left
                              · intro w'
                                go_simp
                                with_reducible rfl
                              rotate_left
                              · simp only [Act.put, List.setIfInBounds_toArray, List.set_cons_zero, List.set_cons_succ, i64_w, i32_w]
                                rfl
                              refine pure_ (i := 5) (N := some 55) (v := ?_) (a' := ?_) #[true, true, true, false, true, true, false, false, false, false] rfl rfl (any_of HT_.out (by kernel_rfl)) (fun _ _ _ h => h) (Or.inl ⟨by rfl, ?_⟩) ?_ ?_
                              rotate_left
                              · intro w'
                                go_simp
                                with_reducible rfl
                              rotate_left
                              · simp only [Act.put, List.setIfInBounds_toArray, List.set_cons_zero, List.set_cons_succ, i64_w, i32_w]
                                rfl
                              refine pure_ (i := 6) (N := some 56) (v := ?_) (a' := ?_) #[true, true, true, false, true, true, true, false, false, false] rfl rfl (any_of HT_.out (by kernel_rfl)) (fun _ _ _ h => h) (Or.inl ⟨by rfl, ?_⟩) ?_ ?_
                              rotate_left
                              · intro w'
                                go_simp
                                with_reducible rfl
                              rotate_left
                              · simp only [Act.put, List.setIfInBounds_toArray, List.set_cons_zero, List.set_cons_succ, i64_w, i32_w]
                                rfl
                              refine take_ (i := 3) (N := some 53) (v := ?_) (a' := ?_) #[true, true, true, true, true, true, true, false, false, false] rfl rfl (take_ofW HT_.out HW_.out (by kernel_rfl)) (fun _ _ _ h => h) (Or.inl ⟨by rfl, ?_⟩) hHeld ?_ ?_
                              rotate_left
                              · rintro w' ⟨s0, s1, s2, s3⟩
                                go_simp
                                with_reducible rfl
                              rotate_left
                              · simp only [Act.put, List.setIfInBounds_toArray, List.set_cons_zero, List.set_cons_succ, i64_w, i32_w]
                                rfl
                              refine take_ (i := 7) (N := some 57) (v := ?_) (a' := ?_) #[true, true, true, true, true, true, true, true, false, false] rfl rfl (take_ofW HT_.out HW_.out (by kernel_rfl)) (fun _ _ _ h => h) (Or.inl ⟨by rfl, ?_⟩) hHeld ?_ ?_
                              rotate_left
                              · rintro w' ⟨s0, s1, s2, s3⟩
                                go_simp
                                with_reducible rfl
                              rotate_left
                              · simp only [Act.put, List.setIfInBounds_toArray, List.set_cons_zero, List.set_cons_succ, i64_w, i32_w]
                                rfl
                              refine one_ (i := 8) (N := some 58) #[true, true, true, true, true, true, true, true, true, false] rfl rfl (one_of HT_.out (by kernel_rfl)) (by decide) (fun K hK => ?_)
                              refine goes_ Try.func17 (by kernel_rfl) rfl #[.agg #[.slice A277_0 ((rd_T25 t271 x9_3).f0).length c277_0, .int .i64 ((rd_T25 t271 x9_3).f1)], .agg #[.slice A278_0 ((rd_T25 l0 x7_2).f0).length c278_0, .int .i64 ((rd_T25 l0 x7_2).f1)]] (by rfl) rfl rfl (by (try simp only [List.map_toArray, List.map_cons, List.map_nil]); first | done | rfl | (simp only [List.length_drop, List.length_take]; rfl)) ?_
                              with_reducible refine (order_Compare.calls k3 _ _ ((rd_T25 t271 x9_3).f0) ((rd_T25 t271 x9_3).f1) _ _ ((rd_T25 l0 x7_2).f0) ((rd_T25 l0 x7_2).f1) t279 _ ?side1 ?side2 ?side3 ?side4 A27.out).mono ?_
                              (case side1 => repeat (first | exact (by repeat (first | (with_reducible exact HR277_0.out) | (with_reducible refine Kd.C_alloc ?_ _) | (with_reducible refine Kd.C_drewN ?_ _) | (with_reducible refine Kd.C_drew ?_) | exact HR277_0.out)) | (with_reducible refine Kd.C_alloc ?_ _) | (with_reducible refine Kd.C_drewN ?_ _) | (with_reducible refine Kd.C_drew ?_)))
                              (case side2 => exact HC277_0.out)
                              (case side3 => repeat (first | exact (Kd.C_below HR278_0.out HB.out) | (with_reducible refine Kd.C_alloc ?_ _) | (with_reducible refine Kd.C_drewN ?_ _) | (with_reducible refine Kd.C_drew ?_)))
                              (case side4 => exact HC278_0.out)
                              rintro e w32 ⟨rfl, hb⟩
                              have HS0_ := (hb.cell (World.block_lt_of_cell? _ _ (hHeld.1))).trans (hHeld.1)
                              have HS1_ := (hb.cell (World.block_lt_of_cell? _ _ (hHeld.2.1))).trans (hHeld.2.1)
                              refine ⟨_, rfl, ?_⟩
                              have n0_ := Aside0.mk (Kd.S_below (by (with_reducible repeat (first | apply Kd.S_alloc | apply Kd.S_drewN | apply Kd.S_drew)); exact HO_5.out) hb)
                              have n1_ := Aside0.mk (Kd.R_below (by (with_reducible repeat (first | apply Kd.R_alloc | apply Kd.R_drewN | apply Kd.R_drew)); exact HL277_0.out) hb)
                              have n2_ := Aside0.mk (Kd.C_below (by repeat (first | (with_reducible exact HR277_0.out) | (with_reducible refine Kd.C_alloc ?_ _) | (with_reducible refine Kd.C_drewN ?_ _) | (with_reducible refine Kd.C_drew ?_) | exact HR277_0.out)) hb)
                              have n3_ := Aside0.mk (below_step (by repeat (first | (with_reducible first | exact HB.out | apply below_alloc | apply pw_below_drewN | apply below_drew1) | exact HB.out)) hb)
                              clear HO_5
                              clear HL277_0
                              clear HR277_0
                              clear HB
                              have HO_5 := n0_
                              have HL277_0 := n1_
                              have HR277_0 := n2_
                              have HB := n3_
                              clear n0_ n1_ n2_ n3_
                              (try clear hb)
                              (try clear hb2)
                              (try clear hk)
                              (try clear hi)
                              refine hK.out _ _ ⟨HS0_, HS1_, ((HB.out.cell (World.block_lt_of_cell? w _ hw278_0)).trans hw278_0), ((HB.out.cell (World.block_lt_of_cell? w _ hw278_1)).trans hw278_1)⟩ (fun hHeld => ?_)
                              clear hK K
                              refine norm_ (a' := ?_) ?_ ?_
                              rotate_left
                              · show Act.put _ (some 58) _ = _
                                simp only [Act.put, List.setIfInBounds_toArray, List.set_cons_zero, List.set_cons_succ, i64_w, i32_w]
                                rfl
                              refine pure_ (i := 9) (N := some 59) (v := ?_) (a' := ?_) #[true, true, true, true, true, true, true, true, true, true] rfl rfl (any_of HT_.out (by kernel_rfl)) (fun _ _ _ h => h) (Or.inl ⟨by rfl, ?_⟩) ?_ ?_
                              rotate_left
                              · intro w'
                                go_simp
                                with_reducible rfl
                              rotate_left
                              · simp only [Act.put, List.setIfInBounds_toArray, List.set_cons_zero, List.set_cons_succ, i64_w, i32_w]
                                rfl
                              refine done_ (done_of HT_.out (by kernel_rfl)) ?_
                              try go_wp2
                              go_roundg k3
                              case measure => have := HK1.out; have := HK2.out; have := HK3.out; omega
                              case rel => exact ⟨(x8_3), (wrap64 (x9_3 + 1)), (by first | rfl | (simp; done) | (simp [*]; done)), (by first | rfl | (simp; done) | (simp [*]; done)), H', ⟨by have := HK1.out; have := HK2.out; have := HK3.out; omega⟩, ⟨by (with_reducible repeat (first | apply Kd.S_alloc | apply Kd.S_drewN | apply Kd.S_drew)); exact HO_5.out⟩, ⟨by repeat (first | (with_reducible first | exact HB.out | apply below_alloc | apply pw_below_drewN | apply below_drew1) | exact HB.out)⟩⟩
                          · rw [if_neg c26] at H
                            exact absurd H (by simp)
                        · rw [if_neg c25] at H
                          exact absurd H (by simp)
                      · rw [if_neg c24] at H
                        exact absurd H (by simp)
                    · rw [if_neg c23] at H
                      have c23b0 : decide (x9_3 < (t271.length : Int)) = false := decide_eq_false c23
                      clear c23
                      by_cases c33 : x8_3 = 1
                      · rw [if_pos c33] at H
                        have c33b0 : (x8_3 == 1) = true := beq_iff_eq.mpr c33
                        have c33b1 : (x8_3 != 1) = false := bne_eq_false_iff_eq.mpr c33
                        clear c33
                        have H' := Aside0.mk H
                        clear H
                        go_wp2
                        go_roundg k3
                        case measure => have := HK1.out; have := HK2.out; have := HK3.out; omega
                        case rel => exact ⟨(wrap64 (x7_2 + 1)), (by first | rfl | (simp; done) | (simp [*]; done)), H', ⟨by have := HK1.out; have := HK2.out; have := HK3.out; omega⟩, ⟨by (with_reducible repeat (first | apply Kd.S_alloc | apply Kd.S_drewN | apply Kd.S_drew)); exact HO_5.out⟩, ⟨by repeat (first | (with_reducible first | exact HB.out | apply below_alloc | apply pw_below_drewN | apply below_drew1) | exact HB.out)⟩⟩
                      · rw [if_neg c33] at H
                        have c33b0 : (x8_3 == 1) = false := beq_eq_false_iff_ne.mpr c33
                        have c33b1 : (x8_3 != 1) = true := bne_iff_ne.mpr c33
                        obtain rfl := Option.some.inj H
                        go_wp2
                        go_ret
                        exact ⟨by first | rfl | (simp [errW_none, errW_some] <;> rfl) | (simp [*, errW_none, errW_some] <;> rfl), by repeat (first | (with_reducible first | exact HB.out | apply below_alloc | apply pw_below_drewN | apply below_drew1) | exact HB.out)⟩
              · rw [if_neg c22] at H
                have c22b0 : decide (x7_2 < (l0.length : Int)) = false := decide_eq_false c22
                clear c22
                have H' := Aside0.mk H
                clear H
                go_wp2
                go_loopg [10] k2 (fun kq v10 w' => ∃ (x10_3 : Int), v10 = .int .i64 x10_3 ∧ Aside0 (feluccalaw13_OrderSorts.l3 kq l0 t269 t271 x10_3 = some r) ∧ Aside0 (kq ≤ k2) ∧ Aside0 (Kd.S k25 25 w' w.heap.size (fun _ => True) (.slice Ao21 t271.length co21) t271) ∧ Aside0 (Below w.heap.size w w'))
                case atStart => exact ⟨(0), (by first | rfl | (simp; done) | (simp [*]; done)), H', ⟨Nat.le_refl _⟩, ⟨by (with_reducible repeat (first | apply Kd.S_alloc | apply Kd.S_drewN | apply Kd.S_drew)); exact HO_5.out⟩, ⟨by repeat (first | (with_reducible first | exact HB.out | apply below_alloc | apply pw_below_drewN | apply below_drew1) | exact HB.out)⟩⟩
                case round =>
                  clear H'
                  try clear c1
                  try clear c2
                  try clear p2
                  try clear q2
                  try clear hx2
                  try clear c3
                  try clear c4
                  try clear p6
                  try clear c8
                  try clear c8b0
                  try clear c9
                  try clear c10
                  try clear c10b0
                  try clear c11
                  try clear c11b0
                  try clear c12
                  try clear c12b0
                  try clear c14
                  try clear c14b0
                  try clear c14b1
                  try clear c17
                  try clear c22
                  try clear c22b0
                  try clear c23
                  try clear c23b0
                  try clear c24
                  try clear c24b0
                  try clear c25
                  try clear c25b0
                  try clear c26
                  try clear c26b0
                  try clear c27
                  try clear p27
                  try clear q27
                  try clear hx27
                  try clear c28
                  try clear c28b0
                  try clear c28b1
                  try clear c33
                  try clear c33b0
                  try clear c33b1
                  try clear hx274_0
                  try clear hx274_1
                  try clear hx275_0
                  try clear hx275_1
                  try clear hx277_0
                  try clear hx277_1
                  try clear hx278_0
                  try clear hx278_1
                  try clear p2
                  try clear p274
                  try clear p275
                  try clear p277
                  try clear p278
                  try clear p6
                  try clear q2
                  try clear q274
                  try clear q275
                  try clear q277
                  try clear q278
                  obtain ⟨x10_3, rfl, HA, HK3, HO_5, HB⟩ := hrel
                  cases gk with
                  | zero => exact absurd HA.out (by simp [feluccalaw13_OrderSorts.l3])
                  | succ k3 =>
                    have H := HA.out
                    clear HA
                    simp only [feluccalaw13_OrderSorts.l3] at H
                    by_cases c34 : x10_3 < (t271.length : Int)
                    · rw [if_pos c34] at H
                      have c34b0 : decide (x10_3 < (t271.length : Int)) = true := decide_eq_true c34
                      clear c34
                      have H' := Aside0.mk H
                      clear H
                      go_wp2
                      go_loopg [11, 12] k3 (fun kq v11 v12 w' => ∃ (x11_4 : Bool) (x12_4 : Int), v11 = .bool x11_4 ∧ v12 = .int .i64 x12_4 ∧ Aside0 (feluccalaw13_OrderSorts.l4 kq l0 t269 t271 x10_3 x11_4 x12_4 = some r) ∧ Aside0 (kq ≤ k3) ∧ Aside0 (Kd.S k25 25 w' w.heap.size (fun _ => True) (.slice Ao21 t271.length co21) t271) ∧ Aside0 (Below w.heap.size w w'))
                      case atStart => exact ⟨(false), (0), (by first | rfl | (simp; done) | (simp [*]; done)), (by first | rfl | (simp; done) | (simp [*]; done)), H', ⟨Nat.le_refl _⟩, ⟨by (with_reducible repeat (first | apply Kd.S_alloc | apply Kd.S_drewN | apply Kd.S_drew)); exact HO_5.out⟩, ⟨by repeat (first | (with_reducible first | exact HB.out | apply below_alloc | apply pw_below_drewN | apply below_drew1) | exact HB.out)⟩⟩
                      case round =>
                        clear H'
                        try clear c1
                        try clear c2
                        try clear p2
                        try clear q2
                        try clear hx2
                        try clear c3
                        try clear c4
                        try clear p6
                        try clear c8
                        try clear c8b0
                        try clear c9
                        try clear c10
                        try clear c10b0
                        try clear c11
                        try clear c11b0
                        try clear c12
                        try clear c12b0
                        try clear c14
                        try clear c14b0
                        try clear c14b1
                        try clear c17
                        try clear c22
                        try clear c22b0
                        try clear c23
                        try clear c23b0
                        try clear c24
                        try clear c24b0
                        try clear c25
                        try clear c25b0
                        try clear c26
                        try clear c26b0
                        try clear c27
                        try clear p27
                        try clear q27
                        try clear hx27
                        try clear c28
                        try clear c28b0
                        try clear c28b1
                        try clear c33
                        try clear c33b0
                        try clear c33b1
                        try clear c34
                        try clear c34b0
                        try clear hx274_0
                        try clear hx274_1
                        try clear hx275_0
                        try clear hx275_1
                        try clear hx277_0
                        try clear hx277_1
                        try clear hx278_0
                        try clear hx278_1
                        try clear p2
                        try clear p27
                        try clear p274
                        try clear p275
                        try clear p277
                        try clear p278
                        try clear p6
                        try clear q2
                        try clear q27
                        try clear q274
                        try clear q275
                        try clear q277
                        try clear q278
                        obtain ⟨x11_4, x12_4, rfl, rfl, HA, HK4, HO_5, HB⟩ := hrel
                        cases gk with
                        | zero => exact absurd HA.out (by simp [feluccalaw13_OrderSorts.l4])
                        | succ k4 =>
                          have H := HA.out
                          clear HA
                          simp only [feluccalaw13_OrderSorts.l4] at H
                          by_cases c35 : x12_4 < (l0.length : Int)
                          · rw [if_pos c35] at H
                            have c35b0 : decide (x12_4 < (l0.length : Int)) = true := decide_eq_true c35
                            clear c35
                            by_cases c36 : 0 ≤ x10_3
                            · rw [if_pos c36] at H
                              have c36b0 : decide (0 ≤ x10_3) = true := decide_eq_true c36
                              clear c36
                              by_cases c37 : x10_3 < (t271.length : Int)
                              · rw [if_pos c37] at H
                                have c37b0 : decide (x10_3 < (t271.length : Int)) = true := decide_eq_true c37
                                clear c37
                                by_cases c38 : 0 ≤ x12_4
                                · rw [if_pos c38] at H
                                  have c38b0 : decide (0 ≤ x12_4) = true := decide_eq_true c38
                                  clear c38
                                  replace H := Option.bind_eq_some_iff.mp H
                                  obtain ⟨t286, A390, H⟩ := H
                                  replace H : (if t286 = 0 then ((path_Same.f k4 ((rd_T25 t271 x10_3).f0) ((rd_T25 t271 x10_3).f1) ((rd_T25 l0 x12_4).f0) ((rd_T25 l0 x12_4).f1)).bind fun t289 => (if t289 = true then (feluccalaw13_OrderSorts.l3 k4 l0 t269 t271 (wrap64 (x10_3 + 1))) else (some false))) else (feluccalaw13_OrderSorts.l4 k4 l0 t269 t271 x10_3 x11_4 (wrap64 (x12_4 + 1)))) = some r := H
                                  have A39 := Aside0.mk A390
                                  clear A390
                                  by_cases c40 : t286 = 0
                                  · rw [if_pos c40] at H
                                    have c40b0 : (t286 == 0) = true := beq_iff_eq.mpr c40
                                    have c40b1 : (t286 != 0) = false := bne_eq_false_iff_eq.mpr c40
                                    clear c40
                                    replace H := Option.bind_eq_some_iff.mp H
                                    obtain ⟨t289, A410, H⟩ := H
                                    replace H : (if t289 = true then (feluccalaw13_OrderSorts.l3 k4 l0 t269 t271 (wrap64 (x10_3 + 1))) else (some false)) = some r := H
                                    have A41 := Aside0.mk A410
                                    clear A410
                                    by_cases c42 : t289 = true
                                    · subst c42
                                      have H1 : (feluccalaw13_OrderSorts.l3 k4 l0 t269 t271 (wrap64 (x10_3 + 1))) = some r := by rw [if_pos rfl] at H; exact H
                                      clear H
                                      have H := H1
                                      clear H1
                                      have H' := Aside0.mk H
                                      clear H
                                      try go_wp2
                                      have n0_ := Aside0.mk (Kd.S_drew HO_5.out)
                                      have n1_ := Aside0.mk (below_drew1 HB.out)
                                      clear HO_5
                                      clear HB
                                      have HO_5 := n0_
                                      have HB := n1_
                                      clear n0_ n1_
                                      have p284 : 0 ≤ (x10_3 : Int) := of_decide_eq_true (by first | (with_reducible assumption) | assumption)
                                      have q284 : x10_3 < (t271.length : Int) := of_decide_eq_true (by first | (with_reducible assumption) | assumption)
                                      obtain ⟨ad284, A284_0, c284_0, e284, hx284_0, hx284_1, hl284_0, hi284_0⟩ := at_T25 (Kd.S_reads' HO_5.out).2.2 x10_3 p284 q284
                                      cases e284
                                      obtain ⟨ce284, hce284, hMe284, hcc284⟩ := Kd.S_get HO_5.out z25 x10_3 p284 (by first | exact q284 | exact of_decide_eq_true (by first | (with_reducible assumption) | assumption) | (have e_ := (Kd.S_reads' HO_5.out).1; omega))
                                      obtain ⟨ve284_0, rfl, ge284_0⟩ := k25_openM hMe284
                                      have hv284_0 := hcc284 0 _ rfl
                                      rw [Nat.add_zero] at hv284_0
                                      replace hv284_0 := Option.some.inj (hv284_0.symm.trans hx284_0)
                                      rw [hv284_0] at ge284_0
                                      have HL284_0 := Aside0.mk (show Kd.R k34 34 _ _ _ _ ((rd_T25 t271 x10_3).f0) from ge284_0)
                                      clear hv284_0 ge284_0
                                      clear hcc284 hce284
                                      have HR284_0 := Aside0.mk hi284_0
                                      have HC284_0 := Aside0.mk hl284_0
                                      clear hi284_0 hl284_0
                                      replace p284 := eq_true p284
                                      replace q284 := eq_true q284
                                      have p285 : 0 ≤ (x12_4 : Int) := of_decide_eq_true (by first | (with_reducible assumption) | assumption)
                                      have q285 : x12_4 < (l0.length : Int) := of_decide_eq_true (by first | (with_reducible assumption) | assumption)
                                      obtain ⟨ad285, A285_0, c285_0, e285, hx285_0, hx285_1, hl285_0, hi285_0⟩ := at_T25 HR0.out x12_4 p285 q285
                                      have hw285_1 := hx285_1
                                      have hw285_0 := hx285_0
                                      cases e285
                                      replace hx285_0 := (HB.out.cell (World.block_lt_of_cell? w _ hx285_0)).trans hx285_0
                                      replace hx285_1 := (HB.out.cell (World.block_lt_of_cell? w _ hx285_1)).trans hx285_1
                                      have HR285_0 := Aside0.mk hi285_0
                                      have HC285_0 := Aside0.mk hl285_0
                                      clear hi285_0 hl285_0
                                      replace p285 := eq_true p285
                                      replace q285 := eq_true q285
                                      refine start_ (n := 10) (S := fun w' => w'.cell? (ad284.add ((x10_3).toNat * 2)) = some (.slice A284_0 ((rd_T25 t271 x10_3).f0).length c284_0) ∧ w'.cell? ⟨(ad284.add ((x10_3).toNat * 2)).block, (ad284.add ((x10_3).toNat * 2)).off + 1, none⟩ = some (.int .i64 ((rd_T25 t271 x10_3).f1)) ∧ w'.cell? (ad285.add ((x12_4).toNat * 2)) = some (.slice A285_0 ((rd_T25 l0 x12_4).f0).length c285_0) ∧ w'.cell? ⟨(ad285.add ((x12_4).toNat * 2)).block, (ad285.add ((x12_4).toNat * 2)).off + 1, none⟩ = some (.int .i64 ((rd_T25 l0 x12_4).f1))) (ds := []) #[false, false, false, false, false, false, false, false, false, false] (by kernel_rfl) rfl rfl ⟨hx284_0, hx284_1, ((HB.out.cell (World.block_lt_of_cell? w _ hw285_0)).trans hw285_0), ((HB.out.cell (World.block_lt_of_cell? w _ hw285_1)).trans hw285_1)⟩ (fun hHeld => ?_); refine with_tabW feluccalaw13_OrderSorts.tab29 feluccalaw13_OrderSorts.bits29 (fun HT_ HW_ => ?_)
                                      generalize wr.drew = w43 at HO_5 HB HL284_0 HR284_0 HR285_0 hx284_0 hx284_1 hx285_0 hx285_1 hHeld ⊢
                                      refine pure_ (i := 0) (N := some 76) (v := ?_) (a' := ?_) #[true, false, false, false, false, false, false, false, false, false] rfl rfl (any_of HT_.out (by kernel_rfl)) (fun _ _ _ h => h) (Or.inl ⟨by rfl, ?_⟩) ?_ ?_
                                      rotate_left
                                      · intro w'
                                        go_simp
                                        with_reducible rfl
                                      rotate_left
                                      · simp only [Act.put, List.setIfInBounds_toArray, List.set_cons_zero, List.set_cons_succ, i64_w, i32_w]
                                        rfl
                                      refine pure_ (i := 1) (N := some 77) (v := ?_) (a' := ?_) #[true, true, false, false, false, false, false, false, false, false] rfl rfl (any_of HT_.out (by kernel_rfl)) (fun _ _ _ h => h) (Or.inl ⟨by rfl, ?_⟩) ?_ ?_
                                      rotate_left
                                      · intro w'
                                        go_simp
                                        with_reducible rfl
                                      rotate_left
                                      · simp only [Act.put, List.setIfInBounds_toArray, List.set_cons_zero, List.set_cons_succ, i64_w, i32_w]
                                        rfl
                                      refine pure_ (i := 2) (N := some 78) (v := ?_) (a' := ?_) #[true, true, true, false, false, false, false, false, false, false] rfl rfl (any_of HT_.out (by kernel_rfl)) (fun _ _ _ h => h) (Or.inl ⟨by rfl, ?_⟩) ?_ ?_
                                      rotate_left
                                      · intro w'
                                        go_simp
                                        with_reducible rfl
                                      rotate_left
                                      · simp only [Act.put, List.setIfInBounds_toArray, List.set_cons_zero, List.set_cons_succ, i64_w, i32_w]
                                        rfl
                                      refine pure_ (i := 4) (N := some 80) (v := ?_) (a' := ?_) #[true, true, true, false, true, false, false, false, false, false] rfl rfl (any_of HT_.out (by kernel_rfl)) (fun _ _ _ h => h) (Or.inl ⟨by rfl, ?_⟩) ?_ ?_
                                      rotate_left
                                      · intro w'
                                        go_simp
                                        with_reducible rfl
                                      rotate_left
                                      · simp only [Act.put, List.setIfInBounds_toArray, List.set_cons_zero, List.set_cons_succ, i64_w, i32_w]
                                        rfl
                                      refine pure_ (i := 5) (N := some 81) (v := ?_) (a' := ?_) #[true, true, true, false, true, true, false, false, false, false] rfl rfl (any_of HT_.out (by kernel_rfl)) (fun _ _ _ h => h) (Or.inl ⟨by rfl, ?_⟩) ?_ ?_
                                      rotate_left
                                      · intro w'
                                        go_simp
                                        with_reducible rfl
                                      rotate_left
                                      · simp only [Act.put, List.setIfInBounds_toArray, List.set_cons_zero, List.set_cons_succ, i64_w, i32_w]
                                        rfl
                                      refine pure_ (i := 6) (N := some 82) (v := ?_) (a' := ?_) #[true, true, true, false, true, true, true, false, false, false] rfl rfl (any_of HT_.out (by kernel_rfl)) (fun _ _ _ h => h) (Or.inl ⟨by rfl, ?_⟩) ?_ ?_
                                      rotate_left
                                      · intro w'
                                        go_simp
                                        with_reducible rfl
                                      rotate_left
                                      · simp only [Act.put, List.setIfInBounds_toArray, List.set_cons_zero, List.set_cons_succ, i64_w, i32_w]
                                        rfl
                                      refine take_ (i := 3) (N := some 79) (v := ?_) (a' := ?_) #[true, true, true, true, true, true, true, false, false, false] rfl rfl (take_ofW HT_.out HW_.out (by kernel_rfl)) (fun _ _ _ h => h) (Or.inl ⟨by rfl, ?_⟩) hHeld ?_ ?_
                                      rotate_left
                                      · rintro w' ⟨s0, s1, s2, s3⟩
                                        go_simp
                                        with_reducible rfl
                                      rotate_left
                                      · simp only [Act.put, List.setIfInBounds_toArray, List.set_cons_zero, List.set_cons_succ, i64_w, i32_w]
                                        rfl
                                      refine take_ (i := 7) (N := some 83) (v := ?_) (a' := ?_) #[true, true, true, true, true, true, true, true, false, false] rfl rfl (take_ofW HT_.out HW_.out (by kernel_rfl)) (fun _ _ _ h => h) (Or.inl ⟨by rfl, ?_⟩) hHeld ?_ ?_
                                      rotate_left
                                      · rintro w' ⟨s0, s1, s2, s3⟩
                                        go_simp
                                        with_reducible rfl
                                      rotate_left
                                      · simp only [Act.put, List.setIfInBounds_toArray, List.set_cons_zero, List.set_cons_succ, i64_w, i32_w]
                                        rfl
                                      refine one_ (i := 8) (N := some 84) #[true, true, true, true, true, true, true, true, true, false] rfl rfl (one_of HT_.out (by kernel_rfl)) (by decide) (fun K hK => ?_)
                                      refine goes_ Try.func17 (by kernel_rfl) rfl #[.agg #[.slice A284_0 ((rd_T25 t271 x10_3).f0).length c284_0, .int .i64 ((rd_T25 t271 x10_3).f1)], .agg #[.slice A285_0 ((rd_T25 l0 x12_4).f0).length c285_0, .int .i64 ((rd_T25 l0 x12_4).f1)]] (by rfl) rfl rfl (by (try simp only [List.map_toArray, List.map_cons, List.map_nil]); first | done | rfl | (simp only [List.length_drop, List.length_take]; rfl)) ?_
                                      with_reducible refine (order_Compare.calls k4 _ _ ((rd_T25 t271 x10_3).f0) ((rd_T25 t271 x10_3).f1) _ _ ((rd_T25 l0 x12_4).f0) ((rd_T25 l0 x12_4).f1) t286 _ ?side1 ?side2 ?side3 ?side4 A39.out).mono ?_
                                      (case side1 => repeat (first | exact (by repeat (first | (with_reducible exact HR284_0.out) | (with_reducible refine Kd.C_alloc ?_ _) | (with_reducible refine Kd.C_drewN ?_ _) | (with_reducible refine Kd.C_drew ?_) | exact HR284_0.out)) | (with_reducible refine Kd.C_alloc ?_ _) | (with_reducible refine Kd.C_drewN ?_ _) | (with_reducible refine Kd.C_drew ?_)))
                                      (case side2 => exact HC284_0.out)
                                      (case side3 => repeat (first | exact (Kd.C_below HR285_0.out HB.out) | (with_reducible refine Kd.C_alloc ?_ _) | (with_reducible refine Kd.C_drewN ?_ _) | (with_reducible refine Kd.C_drew ?_)))
                                      (case side4 => exact HC285_0.out)
                                      rintro e w44 ⟨rfl, hb⟩
                                      have HS0_ := (hb.cell (World.block_lt_of_cell? _ _ (hHeld.1))).trans (hHeld.1)
                                      have HS1_ := (hb.cell (World.block_lt_of_cell? _ _ (hHeld.2.1))).trans (hHeld.2.1)
                                      refine ⟨_, rfl, ?_⟩
                                      have n0_ := Aside0.mk (Kd.S_below (by (with_reducible repeat (first | apply Kd.S_alloc | apply Kd.S_drewN | apply Kd.S_drew)); exact HO_5.out) hb)
                                      have n1_ := Aside0.mk (Kd.R_below (by (with_reducible repeat (first | apply Kd.R_alloc | apply Kd.R_drewN | apply Kd.R_drew)); exact HL284_0.out) hb)
                                      have n2_ := Aside0.mk (Kd.C_below (by repeat (first | (with_reducible exact HR284_0.out) | (with_reducible refine Kd.C_alloc ?_ _) | (with_reducible refine Kd.C_drewN ?_ _) | (with_reducible refine Kd.C_drew ?_) | exact HR284_0.out)) hb)
                                      have n3_ := Aside0.mk (below_step (by repeat (first | (with_reducible first | exact HB.out | apply below_alloc | apply pw_below_drewN | apply below_drew1) | exact HB.out)) hb)
                                      clear HO_5
                                      clear HL284_0
                                      clear HR284_0
                                      clear HB
                                      have HO_5 := n0_
                                      have HL284_0 := n1_
                                      have HR284_0 := n2_
                                      have HB := n3_
                                      clear n0_ n1_ n2_ n3_
                                      (try clear hb)
                                      (try clear hb2)
                                      (try clear hk)
                                      (try clear hi)
                                      refine hK.out _ _ ⟨HS0_, HS1_, ((HB.out.cell (World.block_lt_of_cell? w _ hw285_0)).trans hw285_0), ((HB.out.cell (World.block_lt_of_cell? w _ hw285_1)).trans hw285_1)⟩ (fun hHeld => ?_)
                                      clear hK K
                                      refine norm_ (a' := ?_) ?_ ?_
                                      rotate_left
                                      · show Act.put _ (some 84) _ = _
                                        simp only [Act.put, List.setIfInBounds_toArray, List.set_cons_zero, List.set_cons_succ, i64_w, i32_w]
                                        rfl
                                      refine pure_ (i := 9) (N := some 85) (v := ?_) (a' := ?_) #[true, true, true, true, true, true, true, true, true, true] rfl rfl (any_of HT_.out (by kernel_rfl)) (fun _ _ _ h => h) (Or.inl ⟨by rfl, ?_⟩) ?_ ?_
                                      rotate_left
                                      · intro w'
                                        go_simp
                                        with_reducible rfl
                                      rotate_left
                                      · simp only [Act.put, List.setIfInBounds_toArray, List.set_cons_zero, List.set_cons_succ, i64_w, i32_w]
                                        rfl
                                      refine done_ (done_of HT_.out (by kernel_rfl)) ?_
                                      try go_wp2
                                      have n0_ := Aside0.mk (Kd.S_drew HO_5.out)
                                      have n1_ := Aside0.mk (Kd.R_drew HL284_0.out)
                                      have n2_ := Aside0.mk (Kd.C_drew HR284_0.out)
                                      have n3_ := Aside0.mk (below_drew1 HB.out)
                                      clear HO_5
                                      clear HL284_0
                                      clear HR284_0
                                      clear HB
                                      have HO_5 := n0_
                                      have HL284_0 := n1_
                                      have HR284_0 := n2_
                                      have HB := n3_
                                      clear n0_ n1_ n2_ n3_
                                      have p287 : 0 ≤ (x10_3 : Int) := of_decide_eq_true (by first | (with_reducible assumption) | assumption)
                                      have q287 : x10_3 < (t271.length : Int) := of_decide_eq_true (by first | (with_reducible assumption) | assumption)
                                      obtain ⟨ad287, A287_0, c287_0, e287, hx287_0, hx287_1, hl287_0, hi287_0⟩ := at_T25 (Kd.S_reads' HO_5.out).2.2 x10_3 p287 q287
                                      obtain rfl : ad284 = ad287 := (by injection e287)
                                      obtain ⟨ce287, hce287, hMe287, hcc287⟩ := Kd.S_get HO_5.out z25 x10_3 p287 (by first | exact q287 | exact of_decide_eq_true (by first | (with_reducible assumption) | assumption) | (have e_ := (Kd.S_reads' HO_5.out).1; omega))
                                      obtain ⟨ve287_0, rfl, ge287_0⟩ := k25_openM hMe287
                                      have hv287_0 := hcc287 0 _ rfl
                                      rw [Nat.add_zero] at hv287_0
                                      replace hv287_0 := Option.some.inj (hv287_0.symm.trans hx287_0)
                                      rw [hv287_0] at ge287_0
                                      have HL287_0 := Aside0.mk (show Kd.R k34 34 _ _ _ _ ((rd_T25 t271 x10_3).f0) from ge287_0)
                                      clear hv287_0 ge287_0
                                      clear hcc287 hce287
                                      have HR287_0 := Aside0.mk hi287_0
                                      have HC287_0 := Aside0.mk hl287_0
                                      clear hi287_0 hl287_0
                                      replace p287 := eq_true p287
                                      replace q287 := eq_true q287
                                      have p288 : 0 ≤ (x12_4 : Int) := of_decide_eq_true (by first | (with_reducible assumption) | assumption)
                                      have q288 : x12_4 < (l0.length : Int) := of_decide_eq_true (by first | (with_reducible assumption) | assumption)
                                      obtain ⟨ad288, A288_0, c288_0, e288, hx288_0, hx288_1, hl288_0, hi288_0⟩ := at_T25 HR0.out x12_4 p288 q288
                                      have hw288_1 := hx288_1
                                      have hw288_0 := hx288_0
                                      obtain rfl : ad285 = ad288 := (by injection e288)
                                      replace hx288_0 := (HB.out.cell (World.block_lt_of_cell? w _ hx288_0)).trans hx288_0
                                      replace hx288_1 := (HB.out.cell (World.block_lt_of_cell? w _ hx288_1)).trans hx288_1
                                      have HR288_0 := Aside0.mk hi288_0
                                      have HC288_0 := Aside0.mk hl288_0
                                      clear hi288_0 hl288_0
                                      replace p288 := eq_true p288
                                      replace q288 := eq_true q288
                                      refine start_ (n := 10) (S := fun w' => w'.cell? (ad284.add ((x10_3).toNat * 2)) = some (.slice A287_0 ((rd_T25 t271 x10_3).f0).length c287_0) ∧ w'.cell? ⟨(ad284.add ((x10_3).toNat * 2)).block, (ad284.add ((x10_3).toNat * 2)).off + 1, none⟩ = some (.int .i64 ((rd_T25 t271 x10_3).f1)) ∧ w'.cell? (ad285.add ((x12_4).toNat * 2)) = some (.slice A288_0 ((rd_T25 l0 x12_4).f0).length c288_0) ∧ w'.cell? ⟨(ad285.add ((x12_4).toNat * 2)).block, (ad285.add ((x12_4).toNat * 2)).off + 1, none⟩ = some (.int .i64 ((rd_T25 l0 x12_4).f1))) (ds := []) #[false, false, false, false, false, false, false, false, false, false] (by kernel_rfl) rfl rfl ⟨hx287_0, hx287_1, ((HB.out.cell (World.block_lt_of_cell? w _ hw288_0)).trans hw288_0), ((HB.out.cell (World.block_lt_of_cell? w _ hw288_1)).trans hw288_1)⟩ (fun hHeld => ?_); refine with_tabW feluccalaw13_OrderSorts.tab30 feluccalaw13_OrderSorts.bits30 (fun HT_ HW_ => ?_)
                                      generalize w44.drew = w45 at HO_5 HL284_0 HR284_0 HB HL287_0 HR287_0 HR288_0 hx287_0 hx287_1 hx288_0 hx288_1 hHeld ⊢
                                      refine pure_ (i := 0) (N := some 86) (v := ?_) (a' := ?_) #[true, false, false, false, false, false, false, false, false, false] rfl rfl (any_of HT_.out (by kernel_rfl)) (fun _ _ _ h => h) (Or.inl ⟨by rfl, ?_⟩) ?_ ?_
                                      rotate_left
                                      · intro w'
                                        go_simp
                                        with_reducible rfl
                                      rotate_left
                                      · simp only [Act.put, List.setIfInBounds_toArray, List.set_cons_zero, List.set_cons_succ, i64_w, i32_w]
                                        rfl
                                      refine pure_ (i := 1) (N := some 87) (v := ?_) (a' := ?_) #[true, true, false, false, false, false, false, false, false, false] rfl rfl (any_of HT_.out (by kernel_rfl)) (fun _ _ _ h => h) (Or.inl ⟨by rfl, ?_⟩) ?_ ?_
                                      rotate_left
                                      · intro w'
                                        go_simp
                                        with_reducible rfl
                                      rotate_left
                                      · simp only [Act.put, List.setIfInBounds_toArray, List.set_cons_zero, List.set_cons_succ, i64_w, i32_w]
                                        rfl
                                      refine pure_ (i := 2) (N := some 88) (v := ?_) (a' := ?_) #[true, true, true, false, false, false, false, false, false, false] rfl rfl (any_of HT_.out (by kernel_rfl)) (fun _ _ _ h => h) (Or.inl ⟨by rfl, ?_⟩) ?_ ?_
                                      rotate_left
                                      · intro w'
                                        go_simp
                                        with_reducible rfl
                                      rotate_left
                                      · simp only [Act.put, List.setIfInBounds_toArray, List.set_cons_zero, List.set_cons_succ, i64_w, i32_w]
                                        rfl
                                      refine pure_ (i := 4) (N := some 90) (v := ?_) (a' := ?_) #[true, true, true, false, true, false, false, false, false, false] rfl rfl (any_of HT_.out (by kernel_rfl)) (fun _ _ _ h => h) (Or.inl ⟨by rfl, ?_⟩) ?_ ?_
                                      rotate_left
                                      · intro w'
                                        go_simp
                                        with_reducible rfl
                                      rotate_left
                                      · simp only [Act.put, List.setIfInBounds_toArray, List.set_cons_zero, List.set_cons_succ, i64_w, i32_w]
                                        rfl
                                      refine pure_ (i := 5) (N := some 91) (v := ?_) (a' := ?_) #[true, true, true, false, true, true, false, false, false, false] rfl rfl (any_of HT_.out (by kernel_rfl)) (fun _ _ _ h => h) (Or.inl ⟨by rfl, ?_⟩) ?_ ?_
                                      rotate_left
                                      · intro w'
                                        go_simp
                                        with_reducible rfl
                                      rotate_left
                                      · simp only [Act.put, List.setIfInBounds_toArray, List.set_cons_zero, List.set_cons_succ, i64_w, i32_w]
                                        rfl
                                      refine pure_ (i := 6) (N := some 92) (v := ?_) (a' := ?_) #[true, true, true, false, true, true, true, false, false, false] rfl rfl (any_of HT_.out (by kernel_rfl)) (fun _ _ _ h => h) (Or.inl ⟨by rfl, ?_⟩) ?_ ?_
                                      rotate_left
                                      · intro w'
                                        go_simp
                                        with_reducible rfl
                                      rotate_left
                                      · simp only [Act.put, List.setIfInBounds_toArray, List.set_cons_zero, List.set_cons_succ, i64_w, i32_w]
                                        rfl
                                      refine take_ (i := 3) (N := some 89) (v := ?_) (a' := ?_) #[true, true, true, true, true, true, true, false, false, false] rfl rfl (take_ofW HT_.out HW_.out (by kernel_rfl)) (fun _ _ _ h => h) (Or.inl ⟨by rfl, ?_⟩) hHeld ?_ ?_
                                      rotate_left
                                      · rintro w' ⟨s0, s1, s2, s3⟩
                                        go_simp
                                        with_reducible rfl
                                      rotate_left
                                      · simp only [Act.put, List.setIfInBounds_toArray, List.set_cons_zero, List.set_cons_succ, i64_w, i32_w]
                                        rfl
                                      refine take_ (i := 7) (N := some 93) (v := ?_) (a' := ?_) #[true, true, true, true, true, true, true, true, false, false] rfl rfl (take_ofW HT_.out HW_.out (by kernel_rfl)) (fun _ _ _ h => h) (Or.inl ⟨by rfl, ?_⟩) hHeld ?_ ?_
                                      rotate_left
                                      · rintro w' ⟨s0, s1, s2, s3⟩
                                        go_simp
                                        with_reducible rfl
                                      rotate_left
                                      · simp only [Act.put, List.setIfInBounds_toArray, List.set_cons_zero, List.set_cons_succ, i64_w, i32_w]
                                        rfl
                                      refine one_ (i := 8) (N := some 94) #[true, true, true, true, true, true, true, true, true, false] rfl rfl (one_of HT_.out (by kernel_rfl)) (by decide) (fun K hK => ?_)
                                      refine goes_ Try.func21 (by kernel_rfl) rfl #[.agg #[.slice A287_0 ((rd_T25 t271 x10_3).f0).length c287_0, .int .i64 ((rd_T25 t271 x10_3).f1)], .agg #[.slice A288_0 ((rd_T25 l0 x12_4).f0).length c288_0, .int .i64 ((rd_T25 l0 x12_4).f1)]] (by rfl) rfl rfl (by (try simp only [List.map_toArray, List.map_cons, List.map_nil]); first | done | rfl | (simp only [List.length_drop, List.length_take]; rfl)) ?_
                                      with_reducible refine (path_Same.calls k4 _ _ ((rd_T25 t271 x10_3).f0) ((rd_T25 t271 x10_3).f1) _ _ ((rd_T25 l0 x12_4).f0) ((rd_T25 l0 x12_4).f1) true _ ?side1 ?side2 ?side3 ?side4 A41.out).mono ?_
                                      (case side1 => repeat (first | exact (by repeat (first | (with_reducible exact HR287_0.out) | (with_reducible refine Kd.C_alloc ?_ _) | (with_reducible refine Kd.C_drewN ?_ _) | (with_reducible refine Kd.C_drew ?_) | exact HR287_0.out)) | (with_reducible refine Kd.C_alloc ?_ _) | (with_reducible refine Kd.C_drewN ?_ _) | (with_reducible refine Kd.C_drew ?_)))
                                      (case side2 => exact HC287_0.out)
                                      (case side3 => repeat (first | exact (Kd.C_below HR288_0.out HB.out) | (with_reducible refine Kd.C_alloc ?_ _) | (with_reducible refine Kd.C_drewN ?_ _) | (with_reducible refine Kd.C_drew ?_)))
                                      (case side4 => exact HC288_0.out)
                                      rintro e w46 ⟨rfl, hb⟩
                                      have HS0_ := (hb.cell (World.block_lt_of_cell? _ _ (hHeld.1))).trans (hHeld.1)
                                      have HS1_ := (hb.cell (World.block_lt_of_cell? _ _ (hHeld.2.1))).trans (hHeld.2.1)
                                      refine ⟨_, rfl, ?_⟩
                                      have n0_ := Aside0.mk (Kd.S_below (by (with_reducible repeat (first | apply Kd.S_alloc | apply Kd.S_drewN | apply Kd.S_drew)); exact HO_5.out) hb)
                                      have n1_ := Aside0.mk (Kd.R_below (by (with_reducible repeat (first | apply Kd.R_alloc | apply Kd.R_drewN | apply Kd.R_drew)); exact HL284_0.out) hb)
                                      have n2_ := Aside0.mk (Kd.R_below (by (with_reducible repeat (first | apply Kd.R_alloc | apply Kd.R_drewN | apply Kd.R_drew)); exact HL287_0.out) hb)
                                      have n3_ := Aside0.mk (Kd.C_below (by repeat (first | (with_reducible exact HR284_0.out) | (with_reducible refine Kd.C_alloc ?_ _) | (with_reducible refine Kd.C_drewN ?_ _) | (with_reducible refine Kd.C_drew ?_) | exact HR284_0.out)) hb)
                                      have n4_ := Aside0.mk (Kd.C_below (by repeat (first | (with_reducible exact HR287_0.out) | (with_reducible refine Kd.C_alloc ?_ _) | (with_reducible refine Kd.C_drewN ?_ _) | (with_reducible refine Kd.C_drew ?_) | exact HR287_0.out)) hb)
                                      have n5_ := Aside0.mk (below_step (by repeat (first | (with_reducible first | exact HB.out | apply below_alloc | apply pw_below_drewN | apply below_drew1) | exact HB.out)) hb)
                                      clear HO_5
                                      clear HL284_0
                                      clear HL287_0
                                      clear HR284_0
                                      clear HR287_0
                                      clear HB
                                      have HO_5 := n0_
                                      have HL284_0 := n1_
                                      have HL287_0 := n2_
                                      have HR284_0 := n3_
                                      have HR287_0 := n4_
                                      have HB := n5_
                                      clear n0_ n1_ n2_ n3_ n4_ n5_
                                      (try clear hb)
                                      (try clear hb2)
                                      (try clear hk)
                                      (try clear hi)
                                      refine hK.out _ _ ⟨HS0_, HS1_, ((HB.out.cell (World.block_lt_of_cell? w _ hw288_0)).trans hw288_0), ((HB.out.cell (World.block_lt_of_cell? w _ hw288_1)).trans hw288_1)⟩ (fun hHeld => ?_)
                                      clear hK K
                                      refine norm_ (a' := ?_) ?_ ?_
                                      rotate_left
                                      · show Act.put _ (some 94) _ = _
                                        simp only [Act.put, List.setIfInBounds_toArray, List.set_cons_zero, List.set_cons_succ, i64_w, i32_w]
                                        rfl
                                      refine pure_ (i := 9) (N := some 11) (v := ?_) (a' := ?_) #[true, true, true, true, true, true, true, true, true, true] rfl rfl (any_of HT_.out (by kernel_rfl)) (fun _ _ _ h => h) (Or.inl ⟨by rfl, ?_⟩) ?_ ?_
                                      rotate_left
                                      · intro w'
                                        go_simp
                                        with_reducible rfl
                                      rotate_left
                                      · simp only [Act.put, List.setIfInBounds_toArray, List.set_cons_zero, List.set_cons_succ, i64_w, i32_w]
                                        rfl
                                      refine done_ (done_of HT_.out (by kernel_rfl)) ?_
                                      try go_wp2
                                      go_roundg k4
                                      case measure => have := HK1.out; have := HK2.out; have := HK3.out; have := HK4.out; omega
                                      case rel => exact ⟨(wrap64 (x10_3 + 1)), (by first | rfl | (simp; done) | (simp [*]; done)), H', ⟨by have := HK1.out; have := HK2.out; have := HK3.out; have := HK4.out; omega⟩, ⟨by (with_reducible repeat (first | apply Kd.S_alloc | apply Kd.S_drewN | apply Kd.S_drew)); exact HO_5.out⟩, ⟨by repeat (first | (with_reducible first | exact HB.out | apply below_alloc | apply pw_below_drewN | apply below_drew1) | exact HB.out)⟩⟩
                                    · replace c42 := Bool.eq_false_iff.mpr c42
                                      subst c42
                                      have H1 : (some false) = some r := by rw [if_neg (show ¬ (false = true) by decide)] at H; exact H
                                      clear H
                                      have H := H1
                                      clear H1
                                      obtain rfl := Option.some.inj H
                                      try go_wp2
                                      have n0_ := Aside0.mk (Kd.S_drew HO_5.out)
                                      have n1_ := Aside0.mk (below_drew1 HB.out)
                                      clear HO_5
                                      clear HB
                                      have HO_5 := n0_
                                      have HB := n1_
                                      clear n0_ n1_
                                      have p284 : 0 ≤ (x10_3 : Int) := of_decide_eq_true (by first | (with_reducible assumption) | assumption)
                                      have q284 : x10_3 < (t271.length : Int) := of_decide_eq_true (by first | (with_reducible assumption) | assumption)
                                      obtain ⟨ad284, A284_0, c284_0, e284, hx284_0, hx284_1, hl284_0, hi284_0⟩ := at_T25 (Kd.S_reads' HO_5.out).2.2 x10_3 p284 q284
                                      cases e284
                                      obtain ⟨ce284, hce284, hMe284, hcc284⟩ := Kd.S_get HO_5.out z25 x10_3 p284 (by first | exact q284 | exact of_decide_eq_true (by first | (with_reducible assumption) | assumption) | (have e_ := (Kd.S_reads' HO_5.out).1; omega))
                                      obtain ⟨ve284_0, rfl, ge284_0⟩ := k25_openM hMe284
                                      have hv284_0 := hcc284 0 _ rfl
                                      rw [Nat.add_zero] at hv284_0
                                      replace hv284_0 := Option.some.inj (hv284_0.symm.trans hx284_0)
                                      rw [hv284_0] at ge284_0
                                      have HL284_0 := Aside0.mk (show Kd.R k34 34 _ _ _ _ ((rd_T25 t271 x10_3).f0) from ge284_0)
                                      clear hv284_0 ge284_0
                                      clear hcc284 hce284
                                      have HR284_0 := Aside0.mk hi284_0
                                      have HC284_0 := Aside0.mk hl284_0
                                      clear hi284_0 hl284_0
                                      replace p284 := eq_true p284
                                      replace q284 := eq_true q284
                                      have p285 : 0 ≤ (x12_4 : Int) := of_decide_eq_true (by first | (with_reducible assumption) | assumption)
                                      have q285 : x12_4 < (l0.length : Int) := of_decide_eq_true (by first | (with_reducible assumption) | assumption)
                                      obtain ⟨ad285, A285_0, c285_0, e285, hx285_0, hx285_1, hl285_0, hi285_0⟩ := at_T25 HR0.out x12_4 p285 q285
                                      have hw285_1 := hx285_1
                                      have hw285_0 := hx285_0
                                      cases e285
                                      replace hx285_0 := (HB.out.cell (World.block_lt_of_cell? w _ hx285_0)).trans hx285_0
                                      replace hx285_1 := (HB.out.cell (World.block_lt_of_cell? w _ hx285_1)).trans hx285_1
                                      have HR285_0 := Aside0.mk hi285_0
                                      have HC285_0 := Aside0.mk hl285_0
                                      clear hi285_0 hl285_0
                                      replace p285 := eq_true p285
                                      replace q285 := eq_true q285
                                      refine start_ (n := 10) (S := fun w' => w'.cell? (ad284.add ((x10_3).toNat * 2)) = some (.slice A284_0 ((rd_T25 t271 x10_3).f0).length c284_0) ∧ w'.cell? ⟨(ad284.add ((x10_3).toNat * 2)).block, (ad284.add ((x10_3).toNat * 2)).off + 1, none⟩ = some (.int .i64 ((rd_T25 t271 x10_3).f1)) ∧ w'.cell? (ad285.add ((x12_4).toNat * 2)) = some (.slice A285_0 ((rd_T25 l0 x12_4).f0).length c285_0) ∧ w'.cell? ⟨(ad285.add ((x12_4).toNat * 2)).block, (ad285.add ((x12_4).toNat * 2)).off + 1, none⟩ = some (.int .i64 ((rd_T25 l0 x12_4).f1))) (ds := []) #[false, false, false, false, false, false, false, false, false, false] (by kernel_rfl) rfl rfl ⟨hx284_0, hx284_1, ((HB.out.cell (World.block_lt_of_cell? w _ hw285_0)).trans hw285_0), ((HB.out.cell (World.block_lt_of_cell? w _ hw285_1)).trans hw285_1)⟩ (fun hHeld => ?_); refine with_tabW feluccalaw13_OrderSorts.tab29 feluccalaw13_OrderSorts.bits29 (fun HT_ HW_ => ?_)
                                      generalize wr.drew = w47 at HO_5 HB HL284_0 HR284_0 HR285_0 hx284_0 hx284_1 hx285_0 hx285_1 hHeld ⊢
                                      refine pure_ (i := 0) (N := some 76) (v := ?_) (a' := ?_) #[true, false, false, false, false, false, false, false, false, false] rfl rfl (any_of HT_.out (by kernel_rfl)) (fun _ _ _ h => h) (Or.inl ⟨by rfl, ?_⟩) ?_ ?_
                                      rotate_left
                                      · intro w'
                                        go_simp
                                        with_reducible rfl
                                      rotate_left
                                      · simp only [Act.put, List.setIfInBounds_toArray, List.set_cons_zero, List.set_cons_succ, i64_w, i32_w]
                                        rfl
                                      refine pure_ (i := 1) (N := some 77) (v := ?_) (a' := ?_) #[true, true, false, false, false, false, false, false, false, false] rfl rfl (any_of HT_.out (by kernel_rfl)) (fun _ _ _ h => h) (Or.inl ⟨by rfl, ?_⟩) ?_ ?_
                                      rotate_left
                                      · intro w'
                                        go_simp
                                        with_reducible rfl
                                      rotate_left
                                      · simp only [Act.put, List.setIfInBounds_toArray, List.set_cons_zero, List.set_cons_succ, i64_w, i32_w]
                                        rfl
                                      refine pure_ (i := 2) (N := some 78) (v := ?_) (a' := ?_) #[true, true, true, false, false, false, false, false, false, false] rfl rfl (any_of HT_.out (by kernel_rfl)) (fun _ _ _ h => h) (Or.inl ⟨by rfl, ?_⟩) ?_ ?_
                                      rotate_left
                                      · intro w'
                                        go_simp
                                        with_reducible rfl
                                      rotate_left
                                      · simp only [Act.put, List.setIfInBounds_toArray, List.set_cons_zero, List.set_cons_succ, i64_w, i32_w]
                                        rfl
                                      refine pure_ (i := 4) (N := some 80) (v := ?_) (a' := ?_) #[true, true, true, false, true, false, false, false, false, false] rfl rfl (any_of HT_.out (by kernel_rfl)) (fun _ _ _ h => h) (Or.inl ⟨by rfl, ?_⟩) ?_ ?_
                                      rotate_left
                                      · intro w'
                                        go_simp
                                        with_reducible rfl
                                      rotate_left
                                      · simp only [Act.put, List.setIfInBounds_toArray, List.set_cons_zero, List.set_cons_succ, i64_w, i32_w]
                                        rfl
                                      refine pure_ (i := 5) (N := some 81) (v := ?_) (a' := ?_) #[true, true, true, false, true, true, false, false, false, false] rfl rfl (any_of HT_.out (by kernel_rfl)) (fun _ _ _ h => h) (Or.inl ⟨by rfl, ?_⟩) ?_ ?_
                                      rotate_left
                                      · intro w'
                                        go_simp
                                        with_reducible rfl
                                      rotate_left
                                      · simp only [Act.put, List.setIfInBounds_toArray, List.set_cons_zero, List.set_cons_succ, i64_w, i32_w]
                                        rfl
                                      refine pure_ (i := 6) (N := some 82) (v := ?_) (a' := ?_) #[true, true, true, false, true, true, true, false, false, false] rfl rfl (any_of HT_.out (by kernel_rfl)) (fun _ _ _ h => h) (Or.inl ⟨by rfl, ?_⟩) ?_ ?_
                                      rotate_left
                                      · intro w'
                                        go_simp
                                        with_reducible rfl
                                      rotate_left
                                      · simp only [Act.put, List.setIfInBounds_toArray, List.set_cons_zero, List.set_cons_succ, i64_w, i32_w]
                                        rfl
                                      refine take_ (i := 3) (N := some 79) (v := ?_) (a' := ?_) #[true, true, true, true, true, true, true, false, false, false] rfl rfl (take_ofW HT_.out HW_.out (by kernel_rfl)) (fun _ _ _ h => h) (Or.inl ⟨by rfl, ?_⟩) hHeld ?_ ?_
                                      rotate_left
                                      · rintro w' ⟨s0, s1, s2, s3⟩
                                        go_simp
                                        with_reducible rfl
                                      rotate_left
                                      · simp only [Act.put, List.setIfInBounds_toArray, List.set_cons_zero, List.set_cons_succ, i64_w, i32_w]
                                        rfl
                                      refine take_ (i := 7) (N := some 83) (v := ?_) (a' := ?_) #[true, true, true, true, true, true, true, true, false, false] rfl rfl (take_ofW HT_.out HW_.out (by kernel_rfl)) (fun _ _ _ h => h) (Or.inl ⟨by rfl, ?_⟩) hHeld ?_ ?_
                                      rotate_left
                                      · rintro w' ⟨s0, s1, s2, s3⟩
                                        go_simp
                                        with_reducible rfl
                                      rotate_left
                                      · simp only [Act.put, List.setIfInBounds_toArray, List.set_cons_zero, List.set_cons_succ, i64_w, i32_w]
                                        rfl
                                      refine one_ (i := 8) (N := some 84) #[true, true, true, true, true, true, true, true, true, false] rfl rfl (one_of HT_.out (by kernel_rfl)) (by decide) (fun K hK => ?_)
                                      refine goes_ Try.func17 (by kernel_rfl) rfl #[.agg #[.slice A284_0 ((rd_T25 t271 x10_3).f0).length c284_0, .int .i64 ((rd_T25 t271 x10_3).f1)], .agg #[.slice A285_0 ((rd_T25 l0 x12_4).f0).length c285_0, .int .i64 ((rd_T25 l0 x12_4).f1)]] (by rfl) rfl rfl (by (try simp only [List.map_toArray, List.map_cons, List.map_nil]); first | done | rfl | (simp only [List.length_drop, List.length_take]; rfl)) ?_
                                      with_reducible refine (order_Compare.calls k4 _ _ ((rd_T25 t271 x10_3).f0) ((rd_T25 t271 x10_3).f1) _ _ ((rd_T25 l0 x12_4).f0) ((rd_T25 l0 x12_4).f1) t286 _ ?side1 ?side2 ?side3 ?side4 A39.out).mono ?_
                                      (case side1 => repeat (first | exact (by repeat (first | (with_reducible exact HR284_0.out) | (with_reducible refine Kd.C_alloc ?_ _) | (with_reducible refine Kd.C_drewN ?_ _) | (with_reducible refine Kd.C_drew ?_) | exact HR284_0.out)) | (with_reducible refine Kd.C_alloc ?_ _) | (with_reducible refine Kd.C_drewN ?_ _) | (with_reducible refine Kd.C_drew ?_)))
                                      (case side2 => exact HC284_0.out)
                                      (case side3 => repeat (first | exact (Kd.C_below HR285_0.out HB.out) | (with_reducible refine Kd.C_alloc ?_ _) | (with_reducible refine Kd.C_drewN ?_ _) | (with_reducible refine Kd.C_drew ?_)))
                                      (case side4 => exact HC285_0.out)
                                      rintro e w48 ⟨rfl, hb⟩
                                      have HS0_ := (hb.cell (World.block_lt_of_cell? _ _ (hHeld.1))).trans (hHeld.1)
                                      have HS1_ := (hb.cell (World.block_lt_of_cell? _ _ (hHeld.2.1))).trans (hHeld.2.1)
                                      refine ⟨_, rfl, ?_⟩
                                      have n0_ := Aside0.mk (Kd.S_below (by (with_reducible repeat (first | apply Kd.S_alloc | apply Kd.S_drewN | apply Kd.S_drew)); exact HO_5.out) hb)
                                      have n1_ := Aside0.mk (Kd.R_below (by (with_reducible repeat (first | apply Kd.R_alloc | apply Kd.R_drewN | apply Kd.R_drew)); exact HL284_0.out) hb)
                                      have n2_ := Aside0.mk (Kd.C_below (by repeat (first | (with_reducible exact HR284_0.out) | (with_reducible refine Kd.C_alloc ?_ _) | (with_reducible refine Kd.C_drewN ?_ _) | (with_reducible refine Kd.C_drew ?_) | exact HR284_0.out)) hb)
                                      have n3_ := Aside0.mk (below_step (by repeat (first | (with_reducible first | exact HB.out | apply below_alloc | apply pw_below_drewN | apply below_drew1) | exact HB.out)) hb)
                                      clear HO_5
                                      clear HL284_0
                                      clear HR284_0
                                      clear HB
                                      have HO_5 := n0_
                                      have HL284_0 := n1_
                                      have HR284_0 := n2_
                                      have HB := n3_
                                      clear n0_ n1_ n2_ n3_
                                      (try clear hb)
                                      (try clear hb2)
                                      (try clear hk)
                                      (try clear hi)
                                      refine hK.out _ _ ⟨HS0_, HS1_, ((HB.out.cell (World.block_lt_of_cell? w _ hw285_0)).trans hw285_0), ((HB.out.cell (World.block_lt_of_cell? w _ hw285_1)).trans hw285_1)⟩ (fun hHeld => ?_)
                                      clear hK K
                                      refine norm_ (a' := ?_) ?_ ?_
                                      rotate_left
                                      · show Act.put _ (some 84) _ = _
                                        simp only [Act.put, List.setIfInBounds_toArray, List.set_cons_zero, List.set_cons_succ, i64_w, i32_w]
                                        rfl
                                      refine pure_ (i := 9) (N := some 85) (v := ?_) (a' := ?_) #[true, true, true, true, true, true, true, true, true, true] rfl rfl (any_of HT_.out (by kernel_rfl)) (fun _ _ _ h => h) (Or.inl ⟨by rfl, ?_⟩) ?_ ?_
                                      rotate_left
                                      · intro w'
                                        go_simp
                                        with_reducible rfl
                                      rotate_left
                                      · simp only [Act.put, List.setIfInBounds_toArray, List.set_cons_zero, List.set_cons_succ, i64_w, i32_w]
                                        rfl
                                      refine done_ (done_of HT_.out (by kernel_rfl)) ?_
                                      try go_wp2
                                      have n0_ := Aside0.mk (Kd.S_drew HO_5.out)
                                      have n1_ := Aside0.mk (Kd.R_drew HL284_0.out)
                                      have n2_ := Aside0.mk (Kd.C_drew HR284_0.out)
                                      have n3_ := Aside0.mk (below_drew1 HB.out)
                                      clear HO_5
                                      clear HL284_0
                                      clear HR284_0
                                      clear HB
                                      have HO_5 := n0_
                                      have HL284_0 := n1_
                                      have HR284_0 := n2_
                                      have HB := n3_
                                      clear n0_ n1_ n2_ n3_
                                      have p287 : 0 ≤ (x10_3 : Int) := of_decide_eq_true (by first | (with_reducible assumption) | assumption)
                                      have q287 : x10_3 < (t271.length : Int) := of_decide_eq_true (by first | (with_reducible assumption) | assumption)
                                      obtain ⟨ad287, A287_0, c287_0, e287, hx287_0, hx287_1, hl287_0, hi287_0⟩ := at_T25 (Kd.S_reads' HO_5.out).2.2 x10_3 p287 q287
                                      obtain rfl : ad284 = ad287 := (by injection e287)
                                      obtain ⟨ce287, hce287, hMe287, hcc287⟩ := Kd.S_get HO_5.out z25 x10_3 p287 (by first | exact q287 | exact of_decide_eq_true (by first | (with_reducible assumption) | assumption) | (have e_ := (Kd.S_reads' HO_5.out).1; omega))
                                      obtain ⟨ve287_0, rfl, ge287_0⟩ := k25_openM hMe287
                                      have hv287_0 := hcc287 0 _ rfl
                                      rw [Nat.add_zero] at hv287_0
                                      replace hv287_0 := Option.some.inj (hv287_0.symm.trans hx287_0)
                                      rw [hv287_0] at ge287_0
                                      have HL287_0 := Aside0.mk (show Kd.R k34 34 _ _ _ _ ((rd_T25 t271 x10_3).f0) from ge287_0)
                                      clear hv287_0 ge287_0
                                      clear hcc287 hce287
                                      have HR287_0 := Aside0.mk hi287_0
                                      have HC287_0 := Aside0.mk hl287_0
                                      clear hi287_0 hl287_0
                                      replace p287 := eq_true p287
                                      replace q287 := eq_true q287
                                      have p288 : 0 ≤ (x12_4 : Int) := of_decide_eq_true (by first | (with_reducible assumption) | assumption)
                                      have q288 : x12_4 < (l0.length : Int) := of_decide_eq_true (by first | (with_reducible assumption) | assumption)
                                      obtain ⟨ad288, A288_0, c288_0, e288, hx288_0, hx288_1, hl288_0, hi288_0⟩ := at_T25 HR0.out x12_4 p288 q288
                                      have hw288_1 := hx288_1
                                      have hw288_0 := hx288_0
                                      obtain rfl : ad285 = ad288 := (by injection e288)
                                      replace hx288_0 := (HB.out.cell (World.block_lt_of_cell? w _ hx288_0)).trans hx288_0
                                      replace hx288_1 := (HB.out.cell (World.block_lt_of_cell? w _ hx288_1)).trans hx288_1
                                      have HR288_0 := Aside0.mk hi288_0
                                      have HC288_0 := Aside0.mk hl288_0
                                      clear hi288_0 hl288_0
                                      replace p288 := eq_true p288
                                      replace q288 := eq_true q288
                                      refine start_ (n := 10) (S := fun w' => w'.cell? (ad284.add ((x10_3).toNat * 2)) = some (.slice A287_0 ((rd_T25 t271 x10_3).f0).length c287_0) ∧ w'.cell? ⟨(ad284.add ((x10_3).toNat * 2)).block, (ad284.add ((x10_3).toNat * 2)).off + 1, none⟩ = some (.int .i64 ((rd_T25 t271 x10_3).f1)) ∧ w'.cell? (ad285.add ((x12_4).toNat * 2)) = some (.slice A288_0 ((rd_T25 l0 x12_4).f0).length c288_0) ∧ w'.cell? ⟨(ad285.add ((x12_4).toNat * 2)).block, (ad285.add ((x12_4).toNat * 2)).off + 1, none⟩ = some (.int .i64 ((rd_T25 l0 x12_4).f1))) (ds := []) #[false, false, false, false, false, false, false, false, false, false] (by kernel_rfl) rfl rfl ⟨hx287_0, hx287_1, ((HB.out.cell (World.block_lt_of_cell? w _ hw288_0)).trans hw288_0), ((HB.out.cell (World.block_lt_of_cell? w _ hw288_1)).trans hw288_1)⟩ (fun hHeld => ?_); refine with_tabW feluccalaw13_OrderSorts.tab30 feluccalaw13_OrderSorts.bits30 (fun HT_ HW_ => ?_)
                                      generalize w48.drew = w49 at HO_5 HL284_0 HR284_0 HB HL287_0 HR287_0 HR288_0 hx287_0 hx287_1 hx288_0 hx288_1 hHeld ⊢
                                      refine pure_ (i := 0) (N := some 86) (v := ?_) (a' := ?_) #[true, false, false, false, false, false, false, false, false, false] rfl rfl (any_of HT_.out (by kernel_rfl)) (fun _ _ _ h => h) (Or.inl ⟨by rfl, ?_⟩) ?_ ?_
                                      rotate_left
                                      · intro w'
                                        go_simp
                                        with_reducible rfl
                                      rotate_left
                                      · simp only [Act.put, List.setIfInBounds_toArray, List.set_cons_zero, List.set_cons_succ, i64_w, i32_w]
                                        rfl
                                      refine pure_ (i := 1) (N := some 87) (v := ?_) (a' := ?_) #[true, true, false, false, false, false, false, false, false, false] rfl rfl (any_of HT_.out (by kernel_rfl)) (fun _ _ _ h => h) (Or.inl ⟨by rfl, ?_⟩) ?_ ?_
                                      rotate_left
                                      · intro w'
                                        go_simp
                                        with_reducible rfl
                                      rotate_left
                                      · simp only [Act.put, List.setIfInBounds_toArray, List.set_cons_zero, List.set_cons_succ, i64_w, i32_w]
                                        rfl
                                      refine pure_ (i := 2) (N := some 88) (v := ?_) (a' := ?_) #[true, true, true, false, false, false, false, false, false, false] rfl rfl (any_of HT_.out (by kernel_rfl)) (fun _ _ _ h => h) (Or.inl ⟨by rfl, ?_⟩) ?_ ?_
                                      rotate_left
                                      · intro w'
                                        go_simp
                                        with_reducible rfl
                                      rotate_left
                                      · simp only [Act.put, List.setIfInBounds_toArray, List.set_cons_zero, List.set_cons_succ, i64_w, i32_w]
                                        rfl
                                      refine pure_ (i := 4) (N := some 90) (v := ?_) (a' := ?_) #[true, true, true, false, true, false, false, false, false, false] rfl rfl (any_of HT_.out (by kernel_rfl)) (fun _ _ _ h => h) (Or.inl ⟨by rfl, ?_⟩) ?_ ?_
                                      rotate_left
                                      · intro w'
                                        go_simp
                                        with_reducible rfl
                                      rotate_left
                                      · simp only [Act.put, List.setIfInBounds_toArray, List.set_cons_zero, List.set_cons_succ, i64_w, i32_w]
                                        rfl
                                      refine pure_ (i := 5) (N := some 91) (v := ?_) (a' := ?_) #[true, true, true, false, true, true, false, false, false, false] rfl rfl (any_of HT_.out (by kernel_rfl)) (fun _ _ _ h => h) (Or.inl ⟨by rfl, ?_⟩) ?_ ?_
                                      rotate_left
                                      · intro w'
                                        go_simp
                                        with_reducible rfl
                                      rotate_left
                                      · simp only [Act.put, List.setIfInBounds_toArray, List.set_cons_zero, List.set_cons_succ, i64_w, i32_w]
                                        rfl
                                      refine pure_ (i := 6) (N := some 92) (v := ?_) (a' := ?_) #[true, true, true, false, true, true, true, false, false, false] rfl rfl (any_of HT_.out (by kernel_rfl)) (fun _ _ _ h => h) (Or.inl ⟨by rfl, ?_⟩) ?_ ?_
                                      rotate_left
                                      · intro w'
                                        go_simp
                                        with_reducible rfl
                                      rotate_left
                                      · simp only [Act.put, List.setIfInBounds_toArray, List.set_cons_zero, List.set_cons_succ, i64_w, i32_w]
                                        rfl
                                      refine take_ (i := 3) (N := some 89) (v := ?_) (a' := ?_) #[true, true, true, true, true, true, true, false, false, false] rfl rfl (take_ofW HT_.out HW_.out (by kernel_rfl)) (fun _ _ _ h => h) (Or.inl ⟨by rfl, ?_⟩) hHeld ?_ ?_
                                      rotate_left
                                      · rintro w' ⟨s0, s1, s2, s3⟩
                                        go_simp
                                        with_reducible rfl
                                      rotate_left
                                      · simp only [Act.put, List.setIfInBounds_toArray, List.set_cons_zero, List.set_cons_succ, i64_w, i32_w]
                                        rfl
                                      refine take_ (i := 7) (N := some 93) (v := ?_) (a' := ?_) #[true, true, true, true, true, true, true, true, false, false] rfl rfl (take_ofW HT_.out HW_.out (by kernel_rfl)) (fun _ _ _ h => h) (Or.inl ⟨by rfl, ?_⟩) hHeld ?_ ?_
                                      rotate_left
                                      · rintro w' ⟨s0, s1, s2, s3⟩
                                        go_simp
                                        with_reducible rfl
                                      rotate_left
                                      · simp only [Act.put, List.setIfInBounds_toArray, List.set_cons_zero, List.set_cons_succ, i64_w, i32_w]
                                        rfl
                                      refine one_ (i := 8) (N := some 94) #[true, true, true, true, true, true, true, true, true, false] rfl rfl (one_of HT_.out (by kernel_rfl)) (by decide) (fun K hK => ?_)
                                      refine goes_ Try.func21 (by kernel_rfl) rfl #[.agg #[.slice A287_0 ((rd_T25 t271 x10_3).f0).length c287_0, .int .i64 ((rd_T25 t271 x10_3).f1)], .agg #[.slice A288_0 ((rd_T25 l0 x12_4).f0).length c288_0, .int .i64 ((rd_T25 l0 x12_4).f1)]] (by rfl) rfl rfl (by (try simp only [List.map_toArray, List.map_cons, List.map_nil]); first | done | rfl | (simp only [List.length_drop, List.length_take]; rfl)) ?_
                                      with_reducible refine (path_Same.calls k4 _ _ ((rd_T25 t271 x10_3).f0) ((rd_T25 t271 x10_3).f1) _ _ ((rd_T25 l0 x12_4).f0) ((rd_T25 l0 x12_4).f1) false _ ?side1 ?side2 ?side3 ?side4 A41.out).mono ?_
                                      (case side1 => repeat (first | exact (by repeat (first | (with_reducible exact HR287_0.out) | (with_reducible refine Kd.C_alloc ?_ _) | (with_reducible refine Kd.C_drewN ?_ _) | (with_reducible refine Kd.C_drew ?_) | exact HR287_0.out)) | (with_reducible refine Kd.C_alloc ?_ _) | (with_reducible refine Kd.C_drewN ?_ _) | (with_reducible refine Kd.C_drew ?_)))
                                      (case side2 => exact HC287_0.out)
                                      (case side3 => repeat (first | exact (Kd.C_below HR288_0.out HB.out) | (with_reducible refine Kd.C_alloc ?_ _) | (with_reducible refine Kd.C_drewN ?_ _) | (with_reducible refine Kd.C_drew ?_)))
                                      (case side4 => exact HC288_0.out)
                                      rintro e w50 ⟨rfl, hb⟩
                                      have HS0_ := (hb.cell (World.block_lt_of_cell? _ _ (hHeld.1))).trans (hHeld.1)
                                      have HS1_ := (hb.cell (World.block_lt_of_cell? _ _ (hHeld.2.1))).trans (hHeld.2.1)
                                      refine ⟨_, rfl, ?_⟩
                                      have n0_ := Aside0.mk (Kd.S_below (by (with_reducible repeat (first | apply Kd.S_alloc | apply Kd.S_drewN | apply Kd.S_drew)); exact HO_5.out) hb)
                                      have n1_ := Aside0.mk (Kd.R_below (by (with_reducible repeat (first | apply Kd.R_alloc | apply Kd.R_drewN | apply Kd.R_drew)); exact HL284_0.out) hb)
                                      have n2_ := Aside0.mk (Kd.R_below (by (with_reducible repeat (first | apply Kd.R_alloc | apply Kd.R_drewN | apply Kd.R_drew)); exact HL287_0.out) hb)
                                      have n3_ := Aside0.mk (Kd.C_below (by repeat (first | (with_reducible exact HR284_0.out) | (with_reducible refine Kd.C_alloc ?_ _) | (with_reducible refine Kd.C_drewN ?_ _) | (with_reducible refine Kd.C_drew ?_) | exact HR284_0.out)) hb)
                                      have n4_ := Aside0.mk (Kd.C_below (by repeat (first | (with_reducible exact HR287_0.out) | (with_reducible refine Kd.C_alloc ?_ _) | (with_reducible refine Kd.C_drewN ?_ _) | (with_reducible refine Kd.C_drew ?_) | exact HR287_0.out)) hb)
                                      have n5_ := Aside0.mk (below_step (by repeat (first | (with_reducible first | exact HB.out | apply below_alloc | apply pw_below_drewN | apply below_drew1) | exact HB.out)) hb)
                                      clear HO_5
                                      clear HL284_0
                                      clear HL287_0
                                      clear HR284_0
                                      clear HR287_0
                                      clear HB
                                      have HO_5 := n0_
                                      have HL284_0 := n1_
                                      have HL287_0 := n2_
                                      have HR284_0 := n3_
                                      have HR287_0 := n4_
                                      have HB := n5_
                                      clear n0_ n1_ n2_ n3_ n4_ n5_
                                      (try clear hb)
                                      (try clear hb2)
                                      (try clear hk)
                                      (try clear hi)
                                      refine hK.out _ _ ⟨HS0_, HS1_, ((HB.out.cell (World.block_lt_of_cell? w _ hw288_0)).trans hw288_0), ((HB.out.cell (World.block_lt_of_cell? w _ hw288_1)).trans hw288_1)⟩ (fun hHeld => ?_)
                                      clear hK K
                                      refine norm_ (a' := ?_) ?_ ?_
                                      rotate_left
                                      · show Act.put _ (some 94) _ = _
                                        simp only [Act.put, List.setIfInBounds_toArray, List.set_cons_zero, List.set_cons_succ, i64_w, i32_w]
                                        rfl
                                      refine pure_ (i := 9) (N := some 11) (v := ?_) (a' := ?_) #[true, true, true, true, true, true, true, true, true, true] rfl rfl (any_of HT_.out (by kernel_rfl)) (fun _ _ _ h => h) (Or.inl ⟨by rfl, ?_⟩) ?_ ?_
                                      rotate_left
                                      · intro w'
                                        go_simp
                                        with_reducible rfl
                                      rotate_left
                                      · simp only [Act.put, List.setIfInBounds_toArray, List.set_cons_zero, List.set_cons_succ, i64_w, i32_w]
                                        rfl
                                      refine done_ (done_of HT_.out (by kernel_rfl)) ?_
                                      try go_wp2
                                      go_ret
                                      exact ⟨by first | rfl | (simp [errW_none, errW_some] <;> rfl) | (simp [*, errW_none, errW_some] <;> rfl), by repeat (first | (with_reducible first | exact HB.out | apply below_alloc | apply pw_below_drewN | apply below_drew1) | exact HB.out)⟩
                                  · rw [if_neg c40] at H
                                    have c40b0 : (t286 == 0) = false := beq_eq_false_iff_ne.mpr c40
                                    have c40b1 : (t286 != 0) = true := bne_iff_ne.mpr c40
                                    have H' := Aside0.mk H
                                    clear H
                                    try go_wp2
                                    have n0_ := Aside0.mk (Kd.S_drew HO_5.out)
                                    have n1_ := Aside0.mk (below_drew1 HB.out)
                                    clear HO_5
                                    clear HB
                                    have HO_5 := n0_
                                    have HB := n1_
                                    clear n0_ n1_
                                    have p284 : 0 ≤ (x10_3 : Int) := of_decide_eq_true (by first | (with_reducible assumption) | assumption)
                                    have q284 : x10_3 < (t271.length : Int) := of_decide_eq_true (by first | (with_reducible assumption) | assumption)
                                    obtain ⟨ad284, A284_0, c284_0, e284, hx284_0, hx284_1, hl284_0, hi284_0⟩ := at_T25 (Kd.S_reads' HO_5.out).2.2 x10_3 p284 q284
                                    cases e284
                                    obtain ⟨ce284, hce284, hMe284, hcc284⟩ := Kd.S_get HO_5.out z25 x10_3 p284 (by first | exact q284 | exact of_decide_eq_true (by first | (with_reducible assumption) | assumption) | (have e_ := (Kd.S_reads' HO_5.out).1; omega))
                                    obtain ⟨ve284_0, rfl, ge284_0⟩ := k25_openM hMe284
                                    have hv284_0 := hcc284 0 _ rfl
                                    rw [Nat.add_zero] at hv284_0
                                    replace hv284_0 := Option.some.inj (hv284_0.symm.trans hx284_0)
                                    rw [hv284_0] at ge284_0
                                    have HL284_0 := Aside0.mk (show Kd.R k34 34 _ _ _ _ ((rd_T25 t271 x10_3).f0) from ge284_0)
                                    clear hv284_0 ge284_0
                                    clear hcc284 hce284
                                    have HR284_0 := Aside0.mk hi284_0
                                    have HC284_0 := Aside0.mk hl284_0
                                    clear hi284_0 hl284_0
                                    replace p284 := eq_true p284
                                    replace q284 := eq_true q284
                                    have p285 : 0 ≤ (x12_4 : Int) := of_decide_eq_true (by first | (with_reducible assumption) | assumption)
                                    have q285 : x12_4 < (l0.length : Int) := of_decide_eq_true (by first | (with_reducible assumption) | assumption)
                                    obtain ⟨ad285, A285_0, c285_0, e285, hx285_0, hx285_1, hl285_0, hi285_0⟩ := at_T25 HR0.out x12_4 p285 q285
                                    have hw285_1 := hx285_1
                                    have hw285_0 := hx285_0
                                    cases e285
                                    replace hx285_0 := (HB.out.cell (World.block_lt_of_cell? w _ hx285_0)).trans hx285_0
                                    replace hx285_1 := (HB.out.cell (World.block_lt_of_cell? w _ hx285_1)).trans hx285_1
                                    have HR285_0 := Aside0.mk hi285_0
                                    have HC285_0 := Aside0.mk hl285_0
                                    clear hi285_0 hl285_0
                                    replace p285 := eq_true p285
                                    replace q285 := eq_true q285
                                    refine start_ (n := 10) (S := fun w' => w'.cell? (ad284.add ((x10_3).toNat * 2)) = some (.slice A284_0 ((rd_T25 t271 x10_3).f0).length c284_0) ∧ w'.cell? ⟨(ad284.add ((x10_3).toNat * 2)).block, (ad284.add ((x10_3).toNat * 2)).off + 1, none⟩ = some (.int .i64 ((rd_T25 t271 x10_3).f1)) ∧ w'.cell? (ad285.add ((x12_4).toNat * 2)) = some (.slice A285_0 ((rd_T25 l0 x12_4).f0).length c285_0) ∧ w'.cell? ⟨(ad285.add ((x12_4).toNat * 2)).block, (ad285.add ((x12_4).toNat * 2)).off + 1, none⟩ = some (.int .i64 ((rd_T25 l0 x12_4).f1))) (ds := []) #[false, false, false, false, false, false, false, false, false, false] (by kernel_rfl) rfl rfl ⟨hx284_0, hx284_1, ((HB.out.cell (World.block_lt_of_cell? w _ hw285_0)).trans hw285_0), ((HB.out.cell (World.block_lt_of_cell? w _ hw285_1)).trans hw285_1)⟩ (fun hHeld => ?_); refine with_tabW feluccalaw13_OrderSorts.tab29 feluccalaw13_OrderSorts.bits29 (fun HT_ HW_ => ?_)
                                    generalize wr.drew = w51 at HO_5 HB HL284_0 HR284_0 HR285_0 hx284_0 hx284_1 hx285_0 hx285_1 hHeld ⊢
                                    refine pure_ (i := 0) (N := some 76) (v := ?_) (a' := ?_) #[true, false, false, false, false, false, false, false, false, false] rfl rfl (any_of HT_.out (by kernel_rfl)) (fun _ _ _ h => h) (Or.inl ⟨by rfl, ?_⟩) ?_ ?_
                                    rotate_left
                                    · intro w'
                                      go_simp
                                      with_reducible rfl
                                    rotate_left
                                    · simp only [Act.put, List.setIfInBounds_toArray, List.set_cons_zero, List.set_cons_succ, i64_w, i32_w]
                                      rfl
                                    refine pure_ (i := 1) (N := some 77) (v := ?_) (a' := ?_) #[true, true, false, false, false, false, false, false, false, false] rfl rfl (any_of HT_.out (by kernel_rfl)) (fun _ _ _ h => h) (Or.inl ⟨by rfl, ?_⟩) ?_ ?_
                                    rotate_left
                                    · intro w'
                                      go_simp
                                      with_reducible rfl
                                    rotate_left
                                    · simp only [Act.put, List.setIfInBounds_toArray, List.set_cons_zero, List.set_cons_succ, i64_w, i32_w]
                                      rfl
                                    refine pure_ (i := 2) (N := some 78) (v := ?_) (a' := ?_) #[true, true, true, false, false, false, false, false, false, false] rfl rfl (any_of HT_.out (by kernel_rfl)) (fun _ _ _ h => h) (Or.inl ⟨by rfl, ?_⟩) ?_ ?_
                                    rotate_left
                                    · intro w'
                                      go_simp
                                      with_reducible rfl
                                    rotate_left
                                    · simp only [Act.put, List.setIfInBounds_toArray, List.set_cons_zero, List.set_cons_succ, i64_w, i32_w]
                                      rfl
                                    refine pure_ (i := 4) (N := some 80) (v := ?_) (a' := ?_) #[true, true, true, false, true, false, false, false, false, false] rfl rfl (any_of HT_.out (by kernel_rfl)) (fun _ _ _ h => h) (Or.inl ⟨by rfl, ?_⟩) ?_ ?_
                                    rotate_left
                                    · intro w'
                                      go_simp
                                      with_reducible rfl
                                    rotate_left
                                    · simp only [Act.put, List.setIfInBounds_toArray, List.set_cons_zero, List.set_cons_succ, i64_w, i32_w]
                                      rfl
                                    refine pure_ (i := 5) (N := some 81) (v := ?_) (a' := ?_) #[true, true, true, false, true, true, false, false, false, false] rfl rfl (any_of HT_.out (by kernel_rfl)) (fun _ _ _ h => h) (Or.inl ⟨by rfl, ?_⟩) ?_ ?_
                                    rotate_left
                                    · intro w'
                                      go_simp
                                      with_reducible rfl
                                    rotate_left
                                    · simp only [Act.put, List.setIfInBounds_toArray, List.set_cons_zero, List.set_cons_succ, i64_w, i32_w]
                                      rfl
                                    refine pure_ (i := 6) (N := some 82) (v := ?_) (a' := ?_) #[true, true, true, false, true, true, true, false, false, false] rfl rfl (any_of HT_.out (by kernel_rfl)) (fun _ _ _ h => h) (Or.inl ⟨by rfl, ?_⟩) ?_ ?_
                                    rotate_left
                                    · intro w'
                                      go_simp
                                      with_reducible rfl
                                    rotate_left
                                    · simp only [Act.put, List.setIfInBounds_toArray, List.set_cons_zero, List.set_cons_succ, i64_w, i32_w]
                                      rfl
                                    refine take_ (i := 3) (N := some 79) (v := ?_) (a' := ?_) #[true, true, true, true, true, true, true, false, false, false] rfl rfl (take_ofW HT_.out HW_.out (by kernel_rfl)) (fun _ _ _ h => h) (Or.inl ⟨by rfl, ?_⟩) hHeld ?_ ?_
                                    rotate_left
                                    · rintro w' ⟨s0, s1, s2, s3⟩
                                      go_simp
                                      with_reducible rfl
                                    rotate_left
                                    · simp only [Act.put, List.setIfInBounds_toArray, List.set_cons_zero, List.set_cons_succ, i64_w, i32_w]
                                      rfl
                                    refine take_ (i := 7) (N := some 83) (v := ?_) (a' := ?_) #[true, true, true, true, true, true, true, true, false, false] rfl rfl (take_ofW HT_.out HW_.out (by kernel_rfl)) (fun _ _ _ h => h) (Or.inl ⟨by rfl, ?_⟩) hHeld ?_ ?_
                                    rotate_left
                                    · rintro w' ⟨s0, s1, s2, s3⟩
                                      go_simp
                                      with_reducible rfl
                                    rotate_left
                                    · simp only [Act.put, List.setIfInBounds_toArray, List.set_cons_zero, List.set_cons_succ, i64_w, i32_w]
                                      rfl
                                    refine one_ (i := 8) (N := some 84) #[true, true, true, true, true, true, true, true, true, false] rfl rfl (one_of HT_.out (by kernel_rfl)) (by decide) (fun K hK => ?_)
                                    refine goes_ Try.func17 (by kernel_rfl) rfl #[.agg #[.slice A284_0 ((rd_T25 t271 x10_3).f0).length c284_0, .int .i64 ((rd_T25 t271 x10_3).f1)], .agg #[.slice A285_0 ((rd_T25 l0 x12_4).f0).length c285_0, .int .i64 ((rd_T25 l0 x12_4).f1)]] (by rfl) rfl rfl (by (try simp only [List.map_toArray, List.map_cons, List.map_nil]); first | done | rfl | (simp only [List.length_drop, List.length_take]; rfl)) ?_
                                    with_reducible refine (order_Compare.calls k4 _ _ ((rd_T25 t271 x10_3).f0) ((rd_T25 t271 x10_3).f1) _ _ ((rd_T25 l0 x12_4).f0) ((rd_T25 l0 x12_4).f1) t286 _ ?side1 ?side2 ?side3 ?side4 A39.out).mono ?_
                                    (case side1 => repeat (first | exact (by repeat (first | (with_reducible exact HR284_0.out) | (with_reducible refine Kd.C_alloc ?_ _) | (with_reducible refine Kd.C_drewN ?_ _) | (with_reducible refine Kd.C_drew ?_) | exact HR284_0.out)) | (with_reducible refine Kd.C_alloc ?_ _) | (with_reducible refine Kd.C_drewN ?_ _) | (with_reducible refine Kd.C_drew ?_)))
                                    (case side2 => exact HC284_0.out)
                                    (case side3 => repeat (first | exact (Kd.C_below HR285_0.out HB.out) | (with_reducible refine Kd.C_alloc ?_ _) | (with_reducible refine Kd.C_drewN ?_ _) | (with_reducible refine Kd.C_drew ?_)))
                                    (case side4 => exact HC285_0.out)
                                    rintro e w52 ⟨rfl, hb⟩
                                    have HS0_ := (hb.cell (World.block_lt_of_cell? _ _ (hHeld.1))).trans (hHeld.1)
                                    have HS1_ := (hb.cell (World.block_lt_of_cell? _ _ (hHeld.2.1))).trans (hHeld.2.1)
                                    refine ⟨_, rfl, ?_⟩
                                    have n0_ := Aside0.mk (Kd.S_below (by (with_reducible repeat (first | apply Kd.S_alloc | apply Kd.S_drewN | apply Kd.S_drew)); exact HO_5.out) hb)
                                    have n1_ := Aside0.mk (Kd.R_below (by (with_reducible repeat (first | apply Kd.R_alloc | apply Kd.R_drewN | apply Kd.R_drew)); exact HL284_0.out) hb)
                                    have n2_ := Aside0.mk (Kd.C_below (by repeat (first | (with_reducible exact HR284_0.out) | (with_reducible refine Kd.C_alloc ?_ _) | (with_reducible refine Kd.C_drewN ?_ _) | (with_reducible refine Kd.C_drew ?_) | exact HR284_0.out)) hb)
                                    have n3_ := Aside0.mk (below_step (by repeat (first | (with_reducible first | exact HB.out | apply below_alloc | apply pw_below_drewN | apply below_drew1) | exact HB.out)) hb)
                                    clear HO_5
                                    clear HL284_0
                                    clear HR284_0
                                    clear HB
                                    have HO_5 := n0_
                                    have HL284_0 := n1_
                                    have HR284_0 := n2_
                                    have HB := n3_
                                    clear n0_ n1_ n2_ n3_
                                    (try clear hb)
                                    (try clear hb2)
                                    (try clear hk)
                                    (try clear hi)
                                    refine hK.out _ _ ⟨HS0_, HS1_, ((HB.out.cell (World.block_lt_of_cell? w _ hw285_0)).trans hw285_0), ((HB.out.cell (World.block_lt_of_cell? w _ hw285_1)).trans hw285_1)⟩ (fun hHeld => ?_)
                                    clear hK K
                                    refine norm_ (a' := ?_) ?_ ?_
                                    rotate_left
                                    · show Act.put _ (some 84) _ = _
                                      simp only [Act.put, List.setIfInBounds_toArray, List.set_cons_zero, List.set_cons_succ, i64_w, i32_w]
                                      rfl
                                    refine pure_ (i := 9) (N := some 85) (v := ?_) (a' := ?_) #[true, true, true, true, true, true, true, true, true, true] rfl rfl (any_of HT_.out (by kernel_rfl)) (fun _ _ _ h => h) (Or.inl ⟨by rfl, ?_⟩) ?_ ?_
                                    rotate_left
                                    · intro w'
                                      go_simp
                                      with_reducible rfl
                                    rotate_left
                                    · simp only [Act.put, List.setIfInBounds_toArray, List.set_cons_zero, List.set_cons_succ, i64_w, i32_w]
                                      rfl
                                    refine done_ (done_of HT_.out (by kernel_rfl)) ?_
                                    try go_wp2
                                    go_roundg k4
                                    case measure => have := HK1.out; have := HK2.out; have := HK3.out; have := HK4.out; omega
                                    case rel => exact ⟨(x11_4), (wrap64 (x12_4 + 1)), (by first | rfl | (simp; done) | (simp [*]; done)), (by first | rfl | (simp; done) | (simp [*]; done)), H', ⟨by have := HK1.out; have := HK2.out; have := HK3.out; have := HK4.out; omega⟩, ⟨by (with_reducible repeat (first | apply Kd.S_alloc | apply Kd.S_drewN | apply Kd.S_drew)); exact HO_5.out⟩, ⟨by repeat (first | (with_reducible first | exact HB.out | apply below_alloc | apply pw_below_drewN | apply below_drew1) | exact HB.out)⟩⟩
                                · rw [if_neg c38] at H
                                  exact absurd H (by simp)
                              · rw [if_neg c37] at H
                                exact absurd H (by simp)
                            · rw [if_neg c36] at H
                              exact absurd H (by simp)
                          · rw [if_neg c35] at H
                            have c35b0 : decide (x12_4 < (l0.length : Int)) = false := decide_eq_false c35
                            clear c35
                            by_cases c53 : x11_4 = true
                            · subst c53
                              have H1 : (feluccalaw13_OrderSorts.l3 k4 l0 t269 t271 (wrap64 (x10_3 + 1))) = some r := by rw [if_pos rfl] at H; exact H
                              clear H
                              have H := H1
                              clear H1
                              have H' := Aside0.mk H
                              clear H
                              go_wp2
                              go_roundg k4
                              case measure => have := HK1.out; have := HK2.out; have := HK3.out; have := HK4.out; omega
                              case rel => exact ⟨(wrap64 (x10_3 + 1)), (by first | rfl | (simp; done) | (simp [*]; done)), H', ⟨by have := HK1.out; have := HK2.out; have := HK3.out; have := HK4.out; omega⟩, ⟨by (with_reducible repeat (first | apply Kd.S_alloc | apply Kd.S_drewN | apply Kd.S_drew)); exact HO_5.out⟩, ⟨by repeat (first | (with_reducible first | exact HB.out | apply below_alloc | apply pw_below_drewN | apply below_drew1) | exact HB.out)⟩⟩
                            · replace c53 := Bool.eq_false_iff.mpr c53
                              subst c53
                              have H1 : (some false) = some r := by rw [if_neg (show ¬ (false = true) by decide)] at H; exact H
                              clear H
                              have H := H1
                              clear H1
                              obtain rfl := Option.some.inj H
                              go_wp2
                              go_ret
                              exact ⟨by first | rfl | (simp [errW_none, errW_some] <;> rfl) | (simp [*, errW_none, errW_some] <;> rfl), by repeat (first | (with_reducible first | exact HB.out | apply below_alloc | apply pw_below_drewN | apply below_drew1) | exact HB.out)⟩
                    · rw [if_neg c34] at H
                      have c34b0 : decide (x10_3 < (t271.length : Int)) = false := decide_eq_false c34
                      clear c34
                      by_cases c54 : t269 = true
                      · subst c54
                        have H1 : ((order_Sort.f t271).bind fun t280 => ((order_Same.f k3 t280 t271).bind fun t283 => (some t283))) = some r := by rw [if_pos rfl] at H; exact H
                        clear H
                        have H := H1
                        clear H1
                        replace H := Option.bind_eq_some_iff.mp H
                        obtain ⟨t280, A550, H⟩ := H
                        replace H : ((order_Same.f k3 t280 t271).bind fun t283 => (some t283)) = some r := H
                        have A55 := Aside0.mk A550
                        clear A550
                        replace H := Option.bind_eq_some_iff.mp H
                        obtain ⟨t283, A560, H⟩ := H
                        replace H : (some t283) = some r := H
                        have A56 := Aside0.mk A560
                        clear A560
                        obtain rfl := Option.some.inj H
                        go_wp2_with (first | (go_at_call 11; (with_reducible refine (order_Sort.calls _ _ t271 t280 _ ?side1 ?side2 A55.out).mono ?_); (case side1 => repeat (first | exact (Kd.S_reads' HO_5.out).2.2 | (with_reducible refine Kd.C_alloc ?_ _) | (with_reducible refine Kd.C_drewN ?_ _) | (with_reducible refine Kd.C_drew ?_))); (case side2 => exact (Kd.S_reads' HO_5.out).2.1); rintro e w57 ⟨v281, rfl, ho0, hb⟩; have n0_ := Aside0.mk (Kd.S_elder' (by (with_reducible repeat (first | apply Kd.S_alloc | apply Kd.S_drewN | apply Kd.S_drew)); exact HO_5.out) (Kd.S_base ho0) hb); have n1_ := Aside0.mk (Kd.S_lower (Kd.S_new' ho0 (Kd.S_lt (by (with_reducible repeat (first | apply Kd.S_alloc | apply Kd.S_drewN | apply Kd.S_drew)); exact HO_5.out))) (below_size (by repeat (first | (with_reducible first | exact HB.out | apply below_alloc | apply pw_below_drewN | apply below_drew1) | exact HB.out)))); have n2_ := Aside0.mk (below_step (by repeat (first | (with_reducible first | exact HB.out | apply below_alloc | apply pw_below_drewN | apply below_drew1) | exact HB.out)) hb); clear HO_5; clear HB; have HO_5 := n0_; have HO282 := n1_; have HB := n2_; clear n0_ n1_ n2_; (try clear hb); (try clear hb2); (try clear hk); (try clear hi); (try clear ho0); obtain ⟨Ao58, co58, eo58⟩ := Kd.S_slice HO282.out; subst eo58) | (go_at_call 16; (with_reducible refine (order_Same.calls k3 _ _ t280 _ _ t271 t283 _ ?side1 ?side2 ?side3 ?side4 A56.out).mono ?_); (case side1 => repeat (first | exact (Kd.S_reads' HO282.out).2.2 | (with_reducible refine Kd.C_alloc ?_ _) | (with_reducible refine Kd.C_drewN ?_ _) | (with_reducible refine Kd.C_drew ?_))); (case side2 => exact (Kd.S_reads' HO282.out).2.1); (case side3 => repeat (first | exact (Kd.S_reads' HO_5.out).2.2 | (with_reducible refine Kd.C_alloc ?_ _) | (with_reducible refine Kd.C_drewN ?_ _) | (with_reducible refine Kd.C_drew ?_))); (case side4 => exact (Kd.S_reads' HO_5.out).2.1); rintro e w59 ⟨rfl, hb⟩; have n0_ := Aside0.mk (Kd.S_below (by (with_reducible repeat (first | apply Kd.S_alloc | apply Kd.S_drewN | apply Kd.S_drew)); exact HO_5.out) hb); have n1_ := Aside0.mk (Kd.S_below (by (with_reducible repeat (first | apply Kd.S_alloc | apply Kd.S_drewN | apply Kd.S_drew)); exact HO282.out) hb); have n2_ := Aside0.mk (below_step (by repeat (first | (with_reducible first | exact HB.out | apply below_alloc | apply pw_below_drewN | apply below_drew1) | exact HB.out)) hb); clear HO_5; clear HO282; clear HB; have HO_5 := n0_; have HO282 := n1_; have HB := n2_; clear n0_ n1_ n2_; (try clear hb); (try clear hb2); (try clear hk); (try clear hi)))
                        go_ret
                        exact ⟨by first | rfl | (simp [errW_none, errW_some] <;> rfl) | (simp [*, errW_none, errW_some] <;> rfl), by repeat (first | (with_reducible first | exact HB.out | apply below_alloc | apply pw_below_drewN | apply below_drew1) | exact HB.out)⟩
                      · replace c54 := Bool.eq_false_iff.mpr c54
                        subst c54
                        have H1 : (some false) = some r := by rw [if_neg (show ¬ (false = true) by decide)] at H; exact H
                        clear H
                        have H := H1
                        clear H1
                        obtain rfl := Option.some.inj H
                        go_wp2
                        go_ret
                        exact ⟨by first | rfl | (simp [errW_none, errW_some] <;> rfl) | (simp [*, errW_none, errW_some] <;> rfl), by repeat (first | (with_reducible first | exact HB.out | apply below_alloc | apply pw_below_drewN | apply below_drew1) | exact HB.out)⟩
  · replace c4 := Bool.eq_false_iff.mpr c4
    subst c4
    have H1 : (some t269) = some r := by rw [if_neg (show ¬ (false = true) by decide)] at H; exact H
    clear H
    have H := H1
    clear H1
    obtain rfl := Option.some.inj H
    go_enter Try.func4, Try.ntmps4
    go_wp2_with (first | ((with_reducible refine gate_callee (f := 8) rfl ?_); refine goesL_ (some 13) rfl rfl Try.func8 (by kernel_rfl) rfl #[] rfl (by (try simp only [List.map_toArray, List.map_cons, List.map_nil]); first | done | rfl | (simp only [List.length_drop, List.length_take]; rfl)) ?_; (with_reducible refine (feluccalaw13_small.calls  t269 _ A2.out).mono ?_); rintro e w60 ⟨rfl, hb⟩; refine ⟨_, rfl, ?_⟩; have n0_ := Aside0.mk (below_step (by repeat (first | (with_reducible first | exact HB.out | apply below_alloc | apply pw_below_drewN | apply below_drew1) | exact HB.out)) hb); clear HB; have HB := n0_; clear n0_; (try clear hb); (try clear hb2); (try clear hk); (try clear hi)) | ((with_reducible refine gate_callee (f := 9) rfl ?_); refine goesL_ (some 15) rfl rfl Try.func9 (by kernel_rfl) rfl #[.slice A0 l0.length c0] rfl (by (try simp only [List.map_toArray, List.map_cons, List.map_nil]); first | done | rfl | (simp only [List.length_drop, List.length_take]; rfl)) ?_; (with_reducible refine (feluccalaw13_Few.calls k _ _ l0 false _ ?side1 ?side2 A3.out).mono ?_); (case side1 => repeat (first | exact (Kd.C_below HR0.out HB.out) | (with_reducible refine Kd.C_alloc ?_ _) | (with_reducible refine Kd.C_drewN ?_ _) | (with_reducible refine Kd.C_drew ?_))); (case side2 => exact HC0.out); rintro e w' ⟨rfl, ⟨nd, rfl⟩⟩; refine ⟨_, rfl, ?_⟩))
    go_ret
    exact ⟨by first | rfl | (simp [errW_none, errW_some] <;> rfl) | (simp [*, errW_none, errW_some] <;> rfl), by repeat (first | (with_reducible first | exact HB.out | apply below_alloc | apply pw_below_drewN | apply below_drew1) | exact HB.out)⟩

end Go.Proofs.Ytladdncfhjjppaa.PA
