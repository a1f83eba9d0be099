import Derived.Test.YtladdncfhjjppaaPAx7
import Derived.Test.YtladdncfhjjppaaHInn
namespace Go.Proofs.Ytladdncfhjjppaa.PA
open Go.RowKit Go.Proofs.YtladdncfhjjppaaW.PrintWords Go.Proofs.YtladdncfhjjppaaW.PrintLast Go.Proofs.YtladdncfhjjppaaW.PrintMore
set_option linter.unusedVariables false
set_option linter.unusedSimpArgs false
theorem addAt (g k : Nat) : (⟨g, 0, none⟩ : Addr).add k = ⟨g, k, none⟩ := by
  unfold Addr.add
  split
  · rename_i h; subst h; rfl
  · simp
/-- A row of hops, off its block. -/
theorem C34_of {W : World} {g : Nat} {cs : Array Value} (l : List S34) (hb : W.heap[g]? = some (.cells cs 34 (0, 0))) (hm : l.length ≤ 9223372036854775807) (h : ∀ j p, l[j]? = some p → cs[j * 3]? = some (.int .i64 p.f0) ∧ cs[j * 3 + 1]? = some (.int .i64 p.f1) ∧ cs[j * 3 + 2]? = some (.int .i64 p.f2)) : Kd.C k34 W (some ⟨g, 0, none⟩) l.length l :=
  ⟨rfl, hm, fun _ => ⟨_, rfl, fun j p hj => ⟨[.int .i64 p.f0, .int .i64 p.f1, .int .i64 p.f2], rfl, k34_mk _ _, fun i u hi => by
    obtain ⟨h0, h1, h2⟩ := h j p hj
    rw [addAt]
    show W.cell? ⟨g, j * 3 + i, none⟩ = some u
    rw [blk_cell hb]
    match i, hi with
    | 0, hi => simpa using h0.trans (by simpa using hi)
    | 1, hi => simpa using h1.trans (by simpa using hi)
    | 2, hi => simpa using h2.trans (by simpa using hi)
    | i + 3, hi => simp at hi⟩⟩⟩
/-- A row of routes, off its block. -/
theorem C25_of {W : World} {g : Nat} {cs : Array Value} (l : List S25) (hb : W.heap[g]? = some (.cells cs 25 (0, 0))) (hm : l.length ≤ 9223372036854775807) (h : ∀ j p, l[j]? = some p → ∃ A c, cs[j * 2]? = some (.slice A p.f0.length c) ∧ cs[j * 2 + 1]? = some (.int .i64 p.f1) ∧ p.f0.length ≤ c ∧ Kd.C k34 W A p.f0.length p.f0) : Kd.C k25 W (some ⟨g, 0, none⟩) l.length l :=
  ⟨rfl, hm, fun _ => ⟨_, rfl, fun j p hj => by
    obtain ⟨A, c, h0, h1, hl, hC⟩ := h j p hj
    refine ⟨[.slice A p.f0.length c, .int .i64 p.f1], rfl, k25_mk _ _ hl hC, fun i u hi => ?_⟩
    rw [addAt]
    show W.cell? ⟨g, j * 2 + i, none⟩ = some u
    rw [blk_cell hb]
    match i, hi with
    | 0, hi => simpa using h0.trans (by simpa using hi)
    | 1, hi => simpa using h1.trans (by simpa using hi)
    | i + 2, hi => simp at hi⟩⟩
def rA : S25 := ⟨[⟨9, 1, 20⟩], 20⟩
def rB : S25 := ⟨[⟨1, 1, 5⟩, ⟨2, 5, 20⟩], 20⟩
def rC : S25 := ⟨[⟨1, 1, 5⟩, ⟨3, 5, 20⟩], 20⟩
def rD : S25 := ⟨[⟨9, 2, 20⟩], 20⟩
theorem sort_cbad : order_Sort.f [rC, rB, rA, rD] = some [rA, rB, rC] := by kernel_rfl
theorem cmp_ab : order_Compare.f 5 rA.f0 rA.f1 rB.f0 rB.f1 = some (-1) := by kernel_rfl
theorem cmp_cb : order_Compare.f 5 rC.f0 rC.f1 rB.f0 rB.f1 = some 1 := by kernel_rfl
theorem cmp_ad : order_Compare.f 5 rA.f0 rA.f1 rD.f0 rD.f1 = some 0 := by kernel_rfl
theorem less_bc : order_Less.f 5 rB.f0 rB.f1 rC.f0 rC.f1 = some true := by kernel_rfl
theorem less_bb : order_Less.f 5 rB.f0 rB.f1 rB.f0 rB.f1 = some false := by kernel_rfl
theorem same_abc : order_Same.f 6 [rA, rB, rC] [rA, rB, rC] = some true := by kernel_rfl
theorem ins_ac : order_Insert.f [rA, rC] rB.f0 rB.f1 2 = some [rA, rB] := by kernel_rfl
theorem same_ab : order_Same.f 6 [rA, rB] [rA, rB] = some true := by kernel_rfl
theorem ins_l0 : order_Insert.f [rA, rB, rC] rA.f0 rA.f1 0 = some [] := by kernel_rfl
theorem same_nil : order_Same.f 6 [rA, rB, rC] [] = some false := by kernel_rfl
/-- The four routes in memory. -/
structure Bx (g : Nat) (W : World) : Prop where
  h0 : W.heap[g]? = some (.cells #[.int .i64 9, .int .i64 1, .int .i64 20] 34 (0, 0))
  h1 : W.heap[g + 1]? = some (.cells #[.slice (some ⟨g, 0, none⟩) 1 1, .int .i64 20] 25 (0, 0))
  h2 : W.heap[g + 1 + 1]? = some (.cells #[.int .i64 1, .int .i64 1, .int .i64 5, .int .i64 2, .int .i64 5, .int .i64 20] 34 (0, 0))
  h3 : W.heap[g + 1 + 1 + 1]? = some (.cells #[.slice (some ⟨g + 1 + 1, 0, none⟩) 2 2, .int .i64 20] 25 (0, 0))
  h4 : W.heap[g + 1 + 1 + 1 + 1]? = some (.cells #[.int .i64 1, .int .i64 1, .int .i64 5, .int .i64 3, .int .i64 5, .int .i64 20] 34 (0, 0))
  h5 : W.heap[g + 1 + 1 + 1 + 1 + 1]? = some (.cells #[.slice (some ⟨g + 1 + 1 + 1 + 1, 0, none⟩) 2 2, .int .i64 20] 25 (0, 0))
  h6 : W.heap[g + 1 + 1 + 1 + 1 + 1 + 1]? = some (.cells #[.int .i64 9, .int .i64 2, .int .i64 20] 34 (0, 0))
  h7 : W.heap[g + 1 + 1 + 1 + 1 + 1 + 1 + 1]? = some (.cells #[.slice (some ⟨g + 1 + 1 + 1 + 1 + 1 + 1, 0, none⟩) 1 1, .int .i64 20] 25 (0, 0))
theorem Bx.below {g : Nat} {W W1 : World} (h : Bx g W) (hb : Below W.heap.size W W1) : Bx g W1 := ⟨blk_below h.h0 hb, blk_below h.h1 hb, blk_below h.h2 hb, blk_below h.h3 hb, blk_below h.h4 hb, blk_below h.h5 hb, blk_below h.h6 hb, blk_below h.h7 hb⟩
theorem Bx.alloc {g : Nat} {W : World} (h : Bx g W) (o : Obj) : Bx g (W.alloc o) := ⟨blk_alloc h.h0 o, blk_alloc h.h1 o, blk_alloc h.h2 o, blk_alloc h.h3 o, blk_alloc h.h4 o, blk_alloc h.h5 o, blk_alloc h.h6 o, blk_alloc h.h7 o⟩
section
variable {g : Nat} {W : World} (h : Bx g W)
include h
theorem Bx.a : Kd.C k34 W (some ⟨g, 0, none⟩) 1 rA.f0 := C34_of rA.f0 h.h0 (by decide) (fun j p hj => by
  match j, hj with
  | 0, hj => simp [rA] at hj; subst hj; exact ⟨rfl, rfl, rfl⟩
  | j + 1, hj => simp [rA] at hj)
theorem Bx.b : Kd.C k34 W (some ⟨g + 1 + 1, 0, none⟩) 2 rB.f0 := C34_of rB.f0 h.h2 (by decide) (fun j p hj => by
  match j, hj with
  | 0, hj => simp [rB] at hj; subst hj; exact ⟨rfl, rfl, rfl⟩
  | 1, hj => simp [rB] at hj; subst hj; exact ⟨rfl, rfl, rfl⟩
  | j + 2, hj => simp [rB] at hj)
theorem Bx.c : Kd.C k34 W (some ⟨g + 1 + 1 + 1 + 1, 0, none⟩) 2 rC.f0 := C34_of rC.f0 h.h4 (by decide) (fun j p hj => by
  match j, hj with
  | 0, hj => simp [rC] at hj; subst hj; exact ⟨rfl, rfl, rfl⟩
  | 1, hj => simp [rC] at hj; subst hj; exact ⟨rfl, rfl, rfl⟩
  | j + 2, hj => simp [rC] at hj)
theorem Bx.d : Kd.C k34 W (some ⟨g + 1 + 1 + 1 + 1 + 1 + 1, 0, none⟩) 1 rD.f0 := C34_of rD.f0 h.h6 (by decide) (fun j p hj => by
  match j, hj with
  | 0, hj => simp [rD] at hj; subst hj; exact ⟨rfl, rfl, rfl⟩
  | j + 1, hj => simp [rD] at hj)
theorem Bx.cells : (W.cell? ⟨g + 1, 0, none⟩ = some (.slice (some ⟨g, 0, none⟩) 1 1) ∧ W.cell? ⟨g + 1, 1, none⟩ = some (.int .i64 20)) ∧ (W.cell? ⟨g + 1 + 1 + 1, 0, none⟩ = some (.slice (some ⟨g + 1 + 1, 0, none⟩) 2 2) ∧ W.cell? ⟨g + 1 + 1 + 1, 1, none⟩ = some (.int .i64 20)) ∧ (W.cell? ⟨g + 1 + 1 + 1 + 1 + 1, 0, none⟩ = some (.slice (some ⟨g + 1 + 1 + 1 + 1, 0, none⟩) 2 2) ∧ W.cell? ⟨g + 1 + 1 + 1 + 1 + 1, 1, none⟩ = some (.int .i64 20)) ∧ (W.cell? ⟨g + 1 + 1 + 1 + 1 + 1 + 1 + 1, 0, none⟩ = some (.slice (some ⟨g + 1 + 1 + 1 + 1 + 1 + 1, 0, none⟩) 1 1) ∧ W.cell? ⟨g + 1 + 1 + 1 + 1 + 1 + 1 + 1, 1, none⟩ = some (.int .i64 20)) :=
  ⟨⟨blk_cell h.h1 0, blk_cell h.h1 1⟩, ⟨blk_cell h.h3 0, blk_cell h.h3 1⟩, ⟨blk_cell h.h5 0, blk_cell h.h5 1⟩, ⟨blk_cell h.h7 0, blk_cell h.h7 1⟩⟩
end

theorem Bx.cbad {g : Nat} {W : World} (h : Bx g W) : Kd.C k25 (W.alloc (.cells #[.slice (some ⟨g + 1 + 1 + 1 + 1, 0, none⟩) 2 2, .int .i64 20, .slice (some ⟨g + 1 + 1, 0, none⟩) 2 2, .int .i64 20, .slice (some ⟨g, 0, none⟩) 1 1, .int .i64 20, .slice (some ⟨g + 1 + 1 + 1 + 1 + 1 + 1, 0, none⟩) 1 1, .int .i64 20] 25)) (some ⟨W.heap.size, 0, none⟩) 4 [rC, rB, rA, rD] := C25_of [rC, rB, rA, rD] (blk_new W _) (by decide) (fun j p hj => by
  have h := h.alloc (.cells #[.slice (some ⟨g + 1 + 1 + 1 + 1, 0, none⟩) 2 2, .int .i64 20, .slice (some ⟨g + 1 + 1, 0, none⟩) 2 2, .int .i64 20, .slice (some ⟨g, 0, none⟩) 1 1, .int .i64 20, .slice (some ⟨g + 1 + 1 + 1 + 1 + 1 + 1, 0, none⟩) 1 1, .int .i64 20] 25)
  match j, hj with
  | 0, hj => simp at hj; subst hj; exact ⟨_, _, rfl, rfl, by decide, h.c⟩
  | 1, hj => simp at hj; subst hj; exact ⟨_, _, rfl, rfl, by decide, h.b⟩
  | 2, hj => simp at hj; subst hj; exact ⟨_, _, rfl, rfl, by decide, h.a⟩
  | 3, hj => simp at hj; subst hj; exact ⟨_, _, rfl, rfl, by decide, h.d⟩
  | j + 4, hj => simp at hj)
theorem Bx.abc {g : Nat} {W : World} (h : Bx g W) : Kd.C k25 (W.alloc (.cells #[.slice (some ⟨g, 0, none⟩) 1 1, .int .i64 20, .slice (some ⟨g + 1 + 1, 0, none⟩) 2 2, .int .i64 20, .slice (some ⟨g + 1 + 1 + 1 + 1, 0, none⟩) 2 2, .int .i64 20] 25)) (some ⟨W.heap.size, 0, none⟩) 3 [rA, rB, rC] := C25_of [rA, rB, rC] (blk_new W _) (by decide) (fun j p hj => by
  have h := h.alloc (.cells #[.slice (some ⟨g, 0, none⟩) 1 1, .int .i64 20, .slice (some ⟨g + 1 + 1, 0, none⟩) 2 2, .int .i64 20, .slice (some ⟨g + 1 + 1 + 1 + 1, 0, none⟩) 2 2, .int .i64 20] 25)
  match j, hj with
  | 0, hj => simp at hj; subst hj; exact ⟨_, _, rfl, rfl, by decide, h.a⟩
  | 1, hj => simp at hj; subst hj; exact ⟨_, _, rfl, rfl, by decide, h.b⟩
  | 2, hj => simp at hj; subst hj; exact ⟨_, _, rfl, rfl, by decide, h.c⟩
  | j + 3, hj => simp at hj)
theorem Bx.ac {g : Nat} {W : World} (h : Bx g W) : Kd.C k25 (W.alloc (.cells #[.slice (some ⟨g, 0, none⟩) 1 1, .int .i64 20, .slice (some ⟨g + 1 + 1 + 1 + 1, 0, none⟩) 2 2, .int .i64 20] 25)) (some ⟨W.heap.size, 0, none⟩) 2 [rA, rC] := C25_of [rA, rC] (blk_new W _) (by decide) (fun j p hj => by
  have h := h.alloc (.cells #[.slice (some ⟨g, 0, none⟩) 1 1, .int .i64 20, .slice (some ⟨g + 1 + 1 + 1 + 1, 0, none⟩) 2 2, .int .i64 20] 25)
  match j, hj with
  | 0, hj => simp at hj; subst hj; exact ⟨_, _, rfl, rfl, by decide, h.a⟩
  | 1, hj => simp at hj; subst hj; exact ⟨_, _, rfl, rfl, by decide, h.c⟩
  | j + 2, hj => simp at hj)
theorem Bx.ab {g : Nat} {W : World} (h : Bx g W) : Kd.C k25 (W.alloc (.cells #[.slice (some ⟨g, 0, none⟩) 1 1, .int .i64 20, .slice (some ⟨g + 1 + 1, 0, none⟩) 2 2, .int .i64 20] 25)) (some ⟨W.heap.size, 0, none⟩) 2 [rA, rB] := C25_of [rA, rB] (blk_new W _) (by decide) (fun j p hj => by
  have h := h.alloc (.cells #[.slice (some ⟨g, 0, none⟩) 1 1, .int .i64 20, .slice (some ⟨g + 1 + 1, 0, none⟩) 2 2, .int .i64 20] 25)
  match j, hj with
  | 0, hj => simp at hj; subst hj; exact ⟨_, _, rfl, rfl, by decide, h.a⟩
  | 1, hj => simp at hj; subst hj; exact ⟨_, _, rfl, rfl, by decide, h.b⟩
  | j + 2, hj => simp at hj)
def small.T6 : Bool × List (List Nat × List Nat) := (true, [([], []), ([], []), ([0, 1], [0, 1]), ([2], [2]), ([3, 2], [3]), ([4], [4]), ([4], [4]), ([5, 6, 4, 4], [4, 5, 6]), ([7, 4], [4, 7]), ([4, 8], [4, 8]), ([9, 7], [9]), ([10], [10]), ([10], [10]), ([11, 12, 10, 10], [10, 11, 12]), ([13, 10], [10, 13]), ([10, 14], [10, 14]), ([15, 13], [15]), ([16], [16]), ([16], [16]), ([17, 18, 16, 16], [16, 17, 18]), ([16, 19], [16, 19]), ([20, 19], [20]), ([21], [21]), ([21], [21]), ([22, 23, 21, 21], [21, 22, 23]), ([24, 21], [21, 24]), ([21, 25], [21, 25]), ([26, 24], [26]), ([27], [27]), ([27], [27]), ([27], [27]), ([27], [27]), ([29, 30, 31, 27], [27, 29, 30, 31]), ([28, 32, 27, 27], [27, 28, 32]), ([27, 33], [27, 33]), ([34, 33], [34]), ([35], [35]), ([35], [35]), ([36, 37, 35], [35, 36, 37]), ([35], [35]), ([38, 39, 35, 35], [35, 38, 39]), ([35], [35]), ([35], [35]), ([41, 42, 35], [35, 41, 42]), ([40, 43, 40, 35], [35, 40, 43]), ([35, 44], [35, 44]), ([45, 44], [45]), ([46], [46]), ([46], [46]), ([47, 48, 46, 46], [46, 47, 48]), ([49, 46], [46, 49]), ([50, 46], [46, 50]), ([46, 51], [46, 51]), ([52, 49], [52]), ([53], [53]), ([54, 53, 53], [53, 54]), ([55, 53], [53, 55]), ([53, 56], [53, 56]), ([57, 55, 0, 1, 2, 3, 4, 5, 6, 7, 8, 9, 10, 11, 12, 13, 14, 15, 16, 17, 18, 19, 20, 21, 22, 23, 24, 25, 26, 27, 28, 29, 30, 31, 32, 33, 34, 35, 36, 37, 38, 39, 40, 41, 42, 43, 44, 45, 46, 47, 48, 49, 50, 51, 52, 53, 54, 55, 56, 57], [57])])
def small.B6 : List Nat := [0, 0, 3, 7, 15, 31, 31, 127, 255, 511, 1023, 2047, 2047, 8191, 16383, 32767, 65535, 131071, 131071, 524287, 1048575, 2097151, 4194303, 4194303, 16777215, 33554431, 67108863, 134217727, 268435455, 268435455, 268435455, 268435455, 4026531839, 8589934591, 17179869183, 34359738367, 68719476735, 68719476735, 274877906943, 68719476735, 1099511627775, 68719476735, 68719476735, 6665789243391, 17592186044415, 35184372088831, 70368744177663, 140737488355327, 140737488355327, 562949953421311, 1125899906842623, 2251799813685247, 4503599627370495, 9007199254740991, 18014398509481983, 36028797018963967, 72057594037927935, 144115188075855871, 288230376151711743]
theorem small.tab6 : rtab .any (opsOf Try.f8 6) = small.T6 := by kernel_rfl
theorem small.bits6 : waitsOk small.T6.2 small.B6 = true := by kernel_rfl

open Go.Proofs.YtladdncfhjjppaaW.PrintLast
set_option maxHeartbeats 8000000 in
set_option maxRecDepth 100000 in
theorem small_any (w : World) : Calls Try.prog 8 #[] w fun e w' => e = .returned (.bool true) ∧ Below w.heap.size w w' := by
  go_enter Try.func8, Try.ntmps8
  go_wp2_with fail
  have key : ∃ W : World, W = ((((((((w.alloc (.cells #[.int .i64 9, .int .i64 1, .int .i64 20] 34)).alloc (.cells #[.slice (some ⟨w.heap.size, 0, none⟩) 1 1, .int .i64 20] 25)).alloc (.cells #[.int .i64 1, .int .i64 1, .int .i64 5, .int .i64 2, .int .i64 5, .int .i64 20] 34)).alloc (.cells #[.slice (some ⟨w.heap.size + 1 + 1, 0, none⟩) 2 2, .int .i64 20] 25)).alloc (.cells #[.int .i64 1, .int .i64 1, .int .i64 5, .int .i64 3, .int .i64 5, .int .i64 20] 34)).alloc (.cells #[.slice (some ⟨w.heap.size + 1 + 1 + 1 + 1, 0, none⟩) 2 2, .int .i64 20] 25)).alloc (.cells #[.int .i64 9, .int .i64 2, .int .i64 20] 34)).alloc (.cells #[.slice (some ⟨w.heap.size + 1 + 1 + 1 + 1 + 1 + 1, 0, none⟩) 1 1, .int .i64 20] 25)) ∧ W.heap.size = w.heap.size + 1 + 1 + 1 + 1 + 1 + 1 + 1 + 1 ∧ Below w.heap.size w W ∧ Bx w.heap.size W := by
    have s : ∀ (W : World) (o : Obj), (W.alloc o).heap.size = W.heap.size + 1 := fun W o => by simp
    have n : ∀ (W : World) (o : Obj) (k : Nat), W.heap.size = k → (W.alloc o).heap[k]? = some o := fun W o k h => by subst h; exact blk_new W o
    refine ⟨_, rfl, by simp only [s], ?_, ?_⟩
    · repeat (first | exact Below.refl _ _ | refine below_alloc ?_ _)
    · refine ⟨?_, ?_, ?_, ?_, ?_, ?_, ?_, ?_⟩ <;> (repeat (first | exact n _ _ _ (by simp only [s]) | refine blk_alloc ?_ _))
  obtain ⟨W, hW, hs, hB, hX⟩ := key
  rw [← hW]
  have hC := hX.cbad
  rw [hs] at hC
  have HB := Aside0.mk (below_alloc hB (.cells #[.slice (some ⟨w.heap.size + 1 + 1 + 1 + 1, 0, none⟩) 2 2, .int .i64 20, .slice (some ⟨w.heap.size + 1 + 1, 0, none⟩) 2 2, .int .i64 20, .slice (some ⟨w.heap.size, 0, none⟩) 1 1, .int .i64 20, .slice (some ⟨w.heap.size + 1 + 1 + 1 + 1 + 1 + 1, 0, none⟩) 1 1, .int .i64 20] 25))
  have HX := Aside0.mk (hX.alloc (.cells #[.slice (some ⟨w.heap.size + 1 + 1 + 1 + 1, 0, none⟩) 2 2, .int .i64 20, .slice (some ⟨w.heap.size + 1 + 1, 0, none⟩) 2 2, .int .i64 20, .slice (some ⟨w.heap.size, 0, none⟩) 1 1, .int .i64 20, .slice (some ⟨w.heap.size + 1 + 1 + 1 + 1 + 1 + 1, 0, none⟩) 1 1, .int .i64 20] 25))
  refine (order_Sort.calls _ _ [rC, rB, rA, rD] _ _ hC (by decide) sort_cbad).mono ?_
  clear hC hX hB hW hs
  generalize W.alloc _ = W0 at *
  rintro e W1 ⟨v, rfl, hS, hb⟩
  obtain ⟨A, c, rfl⟩ := Kd.S_slice hS
  have HL := Aside0.mk (Kd.S_reads' hS).2.2
  have hLc : 3 ≤ c := (Kd.S_reads' hS).2.1
  clear hS
  have n0_ := Aside0.mk (HX.out.below hb)
  have n1_ := Aside0.mk (below_step HB.out hb)
  clear HX HB hb
  have HX := n0_
  have HB := n1_
  clear n0_ n1_
  go_wp2_with fail
  have n0_ := Aside0.mk (HX.out.below (below_drew1 (Below.refl _ _)))
  have n1_ := Aside0.mk (below_drew1 HB.out)
  have n2_ := Aside0.mk (Kd.C_drew HL.out)
  clear HX HB HL
  have HX := n0_
  have HB := n1_
  have HL := n2_
  clear n0_ n1_ n2_
  refine start_ (n := 59) (S := fun w' => (w'.cell? ⟨w.heap.size + 1, 0, none⟩ = some (.slice (some ⟨w.heap.size, 0, none⟩) 1 1) ∧ w'.cell? ⟨w.heap.size + 1, 1, none⟩ = some (.int .i64 20)) ∧ (w'.cell? ⟨w.heap.size + 1 + 1 + 1, 0, none⟩ = some (.slice (some ⟨w.heap.size + 1 + 1, 0, none⟩) 2 2) ∧ w'.cell? ⟨w.heap.size + 1 + 1 + 1, 1, none⟩ = some (.int .i64 20)) ∧ (w'.cell? ⟨w.heap.size + 1 + 1 + 1 + 1 + 1, 0, none⟩ = some (.slice (some ⟨w.heap.size + 1 + 1 + 1 + 1, 0, none⟩) 2 2) ∧ w'.cell? ⟨w.heap.size + 1 + 1 + 1 + 1 + 1, 1, none⟩ = some (.int .i64 20)) ∧ (w'.cell? ⟨w.heap.size + 1 + 1 + 1 + 1 + 1 + 1 + 1, 0, none⟩ = some (.slice (some ⟨w.heap.size + 1 + 1 + 1 + 1 + 1 + 1, 0, none⟩) 1 1) ∧ w'.cell? ⟨w.heap.size + 1 + 1 + 1 + 1 + 1 + 1 + 1, 1, none⟩ = some (.int .i64 20))) (ds := []) #[false, false, false, false, false, false, false, false, false, false, false, false, false, false, false, false, false, false, false, false, false, false, false, false, false, false, false, false, false, false, false, false, false, false, false, false, false, false, false, false, false, false, false, false, false, false, false, false, false, false, false, false, false, false, false, false, false, false, false] (by kernel_rfl) rfl rfl HX.out.cells (fun hHeld => ?_); refine with_tabW small.tab6 small.bits6 (fun HT_ HW_ => ?_)
  generalize World.drew _ = w' at HX HB HL hHeld ⊢

  refine take_ (i := 0) (N := some 26) (v := ?_) (a' := ?_) #[true, false, false, false, false, false, false, false, false, false, false, false, false, false, false, false, false, false, false, false, false, false, false, false, false, false, false, false, false, false, false, false, false, false, false, false, false, false, false, false, false, false, false, false, false, false, false, false, false, false, false, false, false, false, false, false, false, false, false] rfl rfl (take_ofW HT_.out HW_.out (by kernel_rfl)) (fun _ _ _ h => h) (Or.inl ⟨by rfl, ?_⟩) hHeld ?_ ?_
  rotate_left
  · rintro w' ⟨⟨s0, s1⟩, ⟨s2, s3⟩, ⟨s4, s5⟩, s6, s7⟩
    go_simp
    with_reducible rfl
  rotate_left
  · simp only [Act.put, List.setIfInBounds_toArray, List.set_cons_zero, List.set_cons_succ, i64_w, i32_w]
    rfl
  refine take_ (i := 1) (N := some 27) (v := ?_) (a' := ?_) #[true, true, false, false, false, false, false, false, false, false, false, false, false, false, false, false, false, false, false, false, false, false, false, false, false, false, false, false, false, false, false, false, false, false, false, false, false, false, false, false, false, false, false, false, false, false, false, false, false, false, false, false, false, false, false, false, false, false, false] rfl rfl (take_ofW HT_.out HW_.out (by kernel_rfl)) (fun _ _ _ h => h) (Or.inl ⟨by rfl, ?_⟩) hHeld ?_ ?_
  rotate_left
  · rintro w' ⟨⟨s0, s1⟩, ⟨s2, s3⟩, ⟨s4, s5⟩, s6, s7⟩
    go_simp
    with_reducible rfl
  rotate_left
  · simp only [Act.put, List.setIfInBounds_toArray, List.set_cons_zero, List.set_cons_succ, i64_w, i32_w]
    rfl
  refine one_ (i := 2) (N := some 28) #[true, true, true, false, false, false, false, false, false, false, false, false, false, false, false, false, false, false, false, false, false, false, false, false, false, false, false, false, false, false, false, false, false, false, false, false, false, false, false, false, false, false, false, false, false, false, false, false, false, false, false, false, false, false, false, false, false, false, false] rfl rfl (one_of HT_.out (by kernel_rfl)) (by decide) (fun K hK => ?_)
  refine goes_ Try.func17 (by kernel_rfl) rfl #[.agg #[.slice (some ⟨w.heap.size, 0, none⟩) 1 1, .int .i64 20], .agg #[.slice (some ⟨w.heap.size + 1 + 1, 0, none⟩) 2 2, .int .i64 20]] (by rfl) rfl rfl (by (try simp only [List.map_toArray, List.map_cons, List.map_nil]); first | done | rfl) ?_
  refine (order_Compare.calls 5 _ _ rA.f0 rA.f1 _ _ rB.f0 rB.f1 _ _ HX.out.a (by decide) HX.out.b (by decide) cmp_ab).mono ?_
  rintro e w' ⟨rfl, hb⟩
  refine ⟨_, rfl, ?_⟩
  have n0_ := Aside0.mk (HX.out.below hb)
  have n1_ := Aside0.mk (below_step HB.out hb)
  have m0_ := Aside0.mk (Kd.C_below HL.out hb)
  clear HX HB HL
  have HX := n0_
  have HB := n1_
  have HL := m0_
  clear n0_ n1_ hb m0_
  refine hK.out _ _ HX.out.cells (fun hHeld => ?_)
  clear hK K
  refine norm_ (a' := ?_) ?_ ?_
  rotate_left
  · show Act.put _ (some 28) _ = _
    simp only [Act.put, List.setIfInBounds_toArray, List.set_cons_zero, List.set_cons_succ, i64_w, i32_w]
    rfl
  refine pure_ (i := 3) (N := some 29) (v := ?_) (a' := ?_) #[true, true, true, true, false, false, false, false, false, false, false, false, false, false, false, false, false, false, false, false, false, false, false, false, false, false, false, false, false, false, false, false, false, false, false, false, false, false, false, false, false, false, false, false, false, false, false, false, false, false, false, false, false, false, false, false, false, false, false] rfl rfl (any_of HT_.out (by kernel_rfl)) (fun _ _ _ h => h) (Or.inl ⟨by rfl, ?_⟩) ?_ ?_
  rotate_left
  · intro w'
    go_simp
    with_reducible rfl
  rotate_left
  · simp only [Act.put, List.setIfInBounds_toArray, List.set_cons_zero, List.set_cons_succ, i64_w, i32_w]
    rfl
  refine pure_ (i := 4) (N := some 30) (v := ?_) (a' := ?_) #[true, true, true, true, true, false, false, false, false, false, false, false, false, false, false, false, false, false, false, false, false, false, false, false, false, false, false, false, false, false, false, false, false, false, false, false, false, false, false, false, false, false, false, false, false, false, false, false, false, false, false, false, false, false, false, false, false, false, false] rfl rfl (any_of HT_.out (by kernel_rfl)) (fun _ _ _ h => h) (Or.inl ⟨by rfl, ?_⟩) ?_ ?_
  rotate_left
  · intro w'
    go_simp
    with_reducible rfl
  rotate_left
  · simp only [Act.put, List.setIfInBounds_toArray, List.set_cons_zero, List.set_cons_succ, i64_w, i32_w]
    rfl
  refine take_ (i := 5) (N := some 31) (v := ?_) (a' := ?_) #[true, true, true, true, true, true, false, false, false, false, false, false, false, false, false, false, false, false, false, false, false, false, false, false, false, false, false, false, false, false, false, false, false, false, false, false, false, false, false, false, false, false, false, false, false, false, false, false, false, false, false, false, false, false, false, false, false, false, false] rfl rfl (take_ofW HT_.out HW_.out (by kernel_rfl)) (fun _ _ _ h => h) (Or.inl ⟨by rfl, ?_⟩) hHeld ?_ ?_
  rotate_left
  · rintro w' ⟨⟨s0, s1⟩, ⟨s2, s3⟩, ⟨s4, s5⟩, s6, s7⟩
    go_simp
    with_reducible rfl
  rotate_left
  · simp only [Act.put, List.setIfInBounds_toArray, List.set_cons_zero, List.set_cons_succ, i64_w, i32_w]
    rfl
  refine take_ (i := 6) (N := some 32) (v := ?_) (a' := ?_) #[true, true, true, true, true, true, true, false, false, false, false, false, false, false, false, false, false, false, false, false, false, false, false, false, false, false, false, false, false, false, false, false, false, false, false, false, false, false, false, false, false, false, false, false, false, false, false, false, false, false, false, false, false, false, false, false, false, false, false] rfl rfl (take_ofW HT_.out HW_.out (by kernel_rfl)) (fun _ _ _ h => h) (Or.inl ⟨by rfl, ?_⟩) hHeld ?_ ?_
  rotate_left
  · rintro w' ⟨⟨s0, s1⟩, ⟨s2, s3⟩, ⟨s4, s5⟩, s6, s7⟩
    go_simp
    with_reducible rfl
  rotate_left
  · simp only [Act.put, List.setIfInBounds_toArray, List.set_cons_zero, List.set_cons_succ, i64_w, i32_w]
    rfl
  refine one_ (i := 7) (N := some 33) #[true, true, true, true, true, true, true, true, false, false, false, false, false, false, false, false, false, false, false, false, false, false, false, false, false, false, false, false, false, false, false, false, false, false, false, false, false, false, false, false, false, false, false, false, false, false, false, false, false, false, false, false, false, false, false, false, false, false, false] rfl rfl (one_of HT_.out (by kernel_rfl)) (by decide) (fun K hK => ?_)
  refine goes_ Try.func17 (by kernel_rfl) rfl #[.agg #[.slice (some ⟨w.heap.size + 1 + 1 + 1 + 1, 0, none⟩) 2 2, .int .i64 20], .agg #[.slice (some ⟨w.heap.size + 1 + 1, 0, none⟩) 2 2, .int .i64 20]] (by rfl) rfl rfl (by (try simp only [List.map_toArray, List.map_cons, List.map_nil]); first | done | rfl) ?_
  refine (order_Compare.calls 5 _ _ rC.f0 rC.f1 _ _ rB.f0 rB.f1 _ _ HX.out.c (by decide) HX.out.b (by decide) cmp_cb).mono ?_
  rintro e w' ⟨rfl, hb⟩
  refine ⟨_, rfl, ?_⟩
  have n0_ := Aside0.mk (HX.out.below hb)
  have n1_ := Aside0.mk (below_step HB.out hb)
  have m0_ := Aside0.mk (Kd.C_below HL.out hb)
  clear HX HB HL
  have HX := n0_
  have HB := n1_
  have HL := m0_
  clear n0_ n1_ hb m0_
  refine hK.out _ _ HX.out.cells (fun hHeld => ?_)
  clear hK K
  refine norm_ (a' := ?_) ?_ ?_
  rotate_left
  · show Act.put _ (some 33) _ = _
    simp only [Act.put, List.setIfInBounds_toArray, List.set_cons_zero, List.set_cons_succ, i64_w, i32_w]
    rfl
  refine pure_ (i := 8) (N := some 34) (v := ?_) (a' := ?_) #[true, true, true, true, true, true, true, true, true, false, false, false, false, false, false, false, false, false, false, false, false, false, false, false, false, false, false, false, false, false, false, false, false, false, false, false, false, false, false, false, false, false, false, false, false, false, false, false, false, false, false, false, false, false, false, false, false, false, false] rfl rfl (any_of HT_.out (by kernel_rfl)) (fun _ _ _ h => h) (Or.inl ⟨by rfl, ?_⟩) ?_ ?_
  rotate_left
  · intro w'
    go_simp
    with_reducible rfl
  rotate_left
  · simp only [Act.put, List.setIfInBounds_toArray, List.set_cons_zero, List.set_cons_succ, i64_w, i32_w]
    rfl
  refine pure_ (i := 9) (N := some 35) (v := ?_) (a' := ?_) #[true, true, true, true, true, true, true, true, true, true, false, false, false, false, false, false, false, false, false, false, false, false, false, false, false, false, false, false, false, false, false, false, false, false, false, false, false, false, false, false, false, false, false, false, false, false, false, false, false, false, false, false, false, false, false, false, false, false, false] rfl rfl (any_of HT_.out (by kernel_rfl)) (fun _ _ _ h => h) (Or.inl ⟨by rfl, ?_⟩) ?_ ?_
  rotate_left
  · intro w'
    go_simp
    with_reducible rfl
  rotate_left
  · simp only [Act.put, List.setIfInBounds_toArray, List.set_cons_zero, List.set_cons_succ, i64_w, i32_w]
    rfl
  refine pure_ (i := 10) (N := some 36) (v := ?_) (a' := ?_) #[true, true, true, true, true, true, true, true, true, true, true, false, false, false, false, false, false, false, false, false, false, false, false, false, false, false, false, false, false, false, false, false, false, false, false, false, false, false, false, false, false, false, false, false, false, false, false, false, false, false, false, false, false, false, false, false, false, false, false] rfl rfl (any_of HT_.out (by kernel_rfl)) (fun _ _ _ h => h) (Or.inl ⟨by rfl, ?_⟩) ?_ ?_
  rotate_left
  · intro w'
    go_simp
    with_reducible rfl
  rotate_left
  · simp only [Act.put, List.setIfInBounds_toArray, List.set_cons_zero, List.set_cons_succ, i64_w, i32_w]
    rfl
  refine take_ (i := 11) (N := some 37) (v := ?_) (a' := ?_) #[true, true, true, true, true, true, true, true, true, true, true, true, false, false, false, false, false, false, false, false, false, false, false, false, false, false, false, false, false, false, false, false, false, false, false, false, false, false, false, false, false, false, false, false, false, false, false, false, false, false, false, false, false, false, false, false, false, false, false] rfl rfl (take_ofW HT_.out HW_.out (by kernel_rfl)) (fun _ _ _ h => h) (Or.inl ⟨by rfl, ?_⟩) hHeld ?_ ?_
  rotate_left
  · rintro w' ⟨⟨s0, s1⟩, ⟨s2, s3⟩, ⟨s4, s5⟩, s6, s7⟩
    go_simp
    with_reducible rfl
  rotate_left
  · simp only [Act.put, List.setIfInBounds_toArray, List.set_cons_zero, List.set_cons_succ, i64_w, i32_w]
    rfl
  refine take_ (i := 12) (N := some 38) (v := ?_) (a' := ?_) #[true, true, true, true, true, true, true, true, true, true, true, true, true, false, false, false, false, false, false, false, false, false, false, false, false, false, false, false, false, false, false, false, false, false, false, false, false, false, false, false, false, false, false, false, false, false, false, false, false, false, false, false, false, false, false, false, false, false, false] rfl rfl (take_ofW HT_.out HW_.out (by kernel_rfl)) (fun _ _ _ h => h) (Or.inl ⟨by rfl, ?_⟩) hHeld ?_ ?_
  rotate_left
  · rintro w' ⟨⟨s0, s1⟩, ⟨s2, s3⟩, ⟨s4, s5⟩, s6, s7⟩
    go_simp
    with_reducible rfl
  rotate_left
  · simp only [Act.put, List.setIfInBounds_toArray, List.set_cons_zero, List.set_cons_succ, i64_w, i32_w]
    rfl
  refine one_ (i := 13) (N := some 39) #[true, true, true, true, true, true, true, true, true, true, true, true, true, true, false, false, false, false, false, false, false, false, false, false, false, false, false, false, false, false, false, false, false, false, false, false, false, false, false, false, false, false, false, false, false, false, false, false, false, false, false, false, false, false, false, false, false, false, false] rfl rfl (one_of HT_.out (by kernel_rfl)) (by decide) (fun K hK => ?_)
  refine goes_ Try.func17 (by kernel_rfl) rfl #[.agg #[.slice (some ⟨w.heap.size, 0, none⟩) 1 1, .int .i64 20], .agg #[.slice (some ⟨w.heap.size + 1 + 1 + 1 + 1 + 1 + 1, 0, none⟩) 1 1, .int .i64 20]] (by rfl) rfl rfl (by (try simp only [List.map_toArray, List.map_cons, List.map_nil]); first | done | rfl) ?_
  refine (order_Compare.calls 5 _ _ rA.f0 rA.f1 _ _ rD.f0 rD.f1 _ _ HX.out.a (by decide) HX.out.d (by decide) cmp_ad).mono ?_
  rintro e w' ⟨rfl, hb⟩
  refine ⟨_, rfl, ?_⟩
  have n0_ := Aside0.mk (HX.out.below hb)
  have n1_ := Aside0.mk (below_step HB.out hb)
  have m0_ := Aside0.mk (Kd.C_below HL.out hb)
  clear HX HB HL
  have HX := n0_
  have HB := n1_
  have HL := m0_
  clear n0_ n1_ hb m0_
  refine hK.out _ _ HX.out.cells (fun hHeld => ?_)
  clear hK K
  refine norm_ (a' := ?_) ?_ ?_
  rotate_left
  · show Act.put _ (some 39) _ = _
    simp only [Act.put, List.setIfInBounds_toArray, List.set_cons_zero, List.set_cons_succ, i64_w, i32_w]
    rfl
  refine pure_ (i := 14) (N := some 40) (v := ?_) (a' := ?_) #[true, true, true, true, true, true, true, true, true, true, true, true, true, true, true, false, false, false, false, false, false, false, false, false, false, false, false, false, false, false, false, false, false, false, false, false, false, false, false, false, false, false, false, false, false, false, false, false, false, false, false, false, false, false, false, false, false, false, false] rfl rfl (any_of HT_.out (by kernel_rfl)) (fun _ _ _ h => h) (Or.inl ⟨by rfl, ?_⟩) ?_ ?_
  rotate_left
  · intro w'
    go_simp
    with_reducible rfl
  rotate_left
  · simp only [Act.put, List.setIfInBounds_toArray, List.set_cons_zero, List.set_cons_succ, i64_w, i32_w]
    rfl
  refine pure_ (i := 15) (N := some 41) (v := ?_) (a' := ?_) #[true, true, true, true, true, true, true, true, true, true, true, true, true, true, true, true, false, false, false, false, false, false, false, false, false, false, false, false, false, false, false, false, false, false, false, false, false, false, false, false, false, false, false, false, false, false, false, false, false, false, false, false, false, false, false, false, false, false, false] rfl rfl (any_of HT_.out (by kernel_rfl)) (fun _ _ _ h => h) (Or.inl ⟨by rfl, ?_⟩) ?_ ?_
  rotate_left
  · intro w'
    go_simp
    with_reducible rfl
  rotate_left
  · simp only [Act.put, List.setIfInBounds_toArray, List.set_cons_zero, List.set_cons_succ, i64_w, i32_w]
    rfl
  refine pure_ (i := 16) (N := some 42) (v := ?_) (a' := ?_) #[true, true, true, true, true, true, true, true, true, true, true, true, true, true, true, true, true, false, false, false, false, false, false, false, false, false, false, false, false, false, false, false, false, false, false, false, false, false, false, false, false, false, false, false, false, false, false, false, false, false, false, false, false, false, false, false, false, false, false] rfl rfl (any_of HT_.out (by kernel_rfl)) (fun _ _ _ h => h) (Or.inl ⟨by rfl, ?_⟩) ?_ ?_
  rotate_left
  · intro w'
    go_simp
    with_reducible rfl
  rotate_left
  · simp only [Act.put, List.setIfInBounds_toArray, List.set_cons_zero, List.set_cons_succ, i64_w, i32_w]
    rfl
  refine take_ (i := 17) (N := some 43) (v := ?_) (a' := ?_) #[true, true, true, true, true, true, true, true, true, true, true, true, true, true, true, true, true, true, false, false, false, false, false, false, false, false, false, false, false, false, false, false, false, false, false, false, false, false, false, false, false, false, false, false, false, false, false, false, false, false, false, false, false, false, false, false, false, false, false] rfl rfl (take_ofW HT_.out HW_.out (by kernel_rfl)) (fun _ _ _ h => h) (Or.inl ⟨by rfl, ?_⟩) hHeld ?_ ?_
  rotate_left
  · rintro w' ⟨⟨s0, s1⟩, ⟨s2, s3⟩, ⟨s4, s5⟩, s6, s7⟩
    go_simp
    with_reducible rfl
  rotate_left
  · simp only [Act.put, List.setIfInBounds_toArray, List.set_cons_zero, List.set_cons_succ, i64_w, i32_w]
    rfl
  refine take_ (i := 18) (N := some 44) (v := ?_) (a' := ?_) #[true, true, true, true, true, true, true, true, true, true, true, true, true, true, true, true, true, true, true, false, false, false, false, false, false, false, false, false, false, false, false, false, false, false, false, false, false, false, false, false, false, false, false, false, false, false, false, false, false, false, false, false, false, false, false, false, false, false, false] rfl rfl (take_ofW HT_.out HW_.out (by kernel_rfl)) (fun _ _ _ h => h) (Or.inl ⟨by rfl, ?_⟩) hHeld ?_ ?_
  rotate_left
  · rintro w' ⟨⟨s0, s1⟩, ⟨s2, s3⟩, ⟨s4, s5⟩, s6, s7⟩
    go_simp
    with_reducible rfl
  rotate_left
  · simp only [Act.put, List.setIfInBounds_toArray, List.set_cons_zero, List.set_cons_succ, i64_w, i32_w]
    rfl
  refine one_ (i := 19) (N := some 45) #[true, true, true, true, true, true, true, true, true, true, true, true, true, true, true, true, true, true, true, true, false, false, false, false, false, false, false, false, false, false, false, false, false, false, false, false, false, false, false, false, false, false, false, false, false, false, false, false, false, false, false, false, false, false, false, false, false, false, false] rfl rfl (one_of HT_.out (by kernel_rfl)) (by decide) (fun K hK => ?_)
  refine goes_ Try.func19 (by kernel_rfl) rfl #[.agg #[.slice (some ⟨w.heap.size + 1 + 1, 0, none⟩) 2 2, .int .i64 20], .agg #[.slice (some ⟨w.heap.size + 1 + 1 + 1 + 1, 0, none⟩) 2 2, .int .i64 20]] (by rfl) rfl rfl (by (try simp only [List.map_toArray, List.map_cons, List.map_nil]); first | done | rfl) ?_
  refine (order_Less.calls 5 _ _ rB.f0 rB.f1 _ _ rC.f0 rC.f1 _ _ HX.out.b (by decide) HX.out.c (by decide) less_bc).mono ?_
  rintro e w' ⟨rfl, hb⟩
  refine ⟨_, rfl, ?_⟩
  have n0_ := Aside0.mk (HX.out.below hb)
  have n1_ := Aside0.mk (below_step HB.out hb)
  have m0_ := Aside0.mk (Kd.C_below HL.out hb)
  clear HX HB HL
  have HX := n0_
  have HB := n1_
  have HL := m0_
  clear n0_ n1_ hb m0_
  refine hK.out _ _ HX.out.cells (fun hHeld => ?_)
  clear hK K
  refine norm_ (a' := ?_) ?_ ?_
  rotate_left
  · show Act.put _ (some 45) _ = _
    simp only [Act.put, List.setIfInBounds_toArray, List.set_cons_zero, List.set_cons_succ, i64_w, i32_w]
    rfl
  refine pure_ (i := 20) (N := some 46) (v := ?_) (a' := ?_) #[true, true, true, true, true, true, true, true, true, true, true, true, true, true, true, true, true, true, true, true, true, false, false, false, false, false, false, false, false, false, false, false, false, false, false, false, false, false, false, false, false, false, false, false, false, false, false, false, false, false, false, false, false, false, false, false, false, false, false] rfl rfl (any_of HT_.out (by kernel_rfl)) (fun _ _ _ h => h) (Or.inl ⟨by rfl, ?_⟩) ?_ ?_
  rotate_left
  · intro w'
    go_simp
    with_reducible rfl
  rotate_left
  · simp only [Act.put, List.setIfInBounds_toArray, List.set_cons_zero, List.set_cons_succ, i64_w, i32_w]
    rfl
  refine pure_ (i := 21) (N := some 47) (v := ?_) (a' := ?_) #[true, true, true, true, true, true, true, true, true, true, true, true, true, true, true, true, true, true, true, true, true, true, false, false, false, false, false, false, false, false, false, false, false, false, false, false, false, false, false, false, false, false, false, false, false, false, false, false, false, false, false, false, false, false, false, false, false, false, false] rfl rfl (any_of HT_.out (by kernel_rfl)) (fun _ _ _ h => h) (Or.inl ⟨by rfl, ?_⟩) ?_ ?_
  rotate_left
  · intro w'
    go_simp
    with_reducible rfl
  rotate_left
  · simp only [Act.put, List.setIfInBounds_toArray, List.set_cons_zero, List.set_cons_succ, i64_w, i32_w]
    rfl
  refine take_ (i := 22) (N := some 48) (v := ?_) (a' := ?_) #[true, true, true, true, true, true, true, true, true, true, true, true, true, true, true, true, true, true, true, true, true, true, true, false, false, false, false, false, false, false, false, false, false, false, false, false, false, false, false, false, false, false, false, false, false, false, false, false, false, false, false, false, false, false, false, false, false, false, false] rfl rfl (take_ofW HT_.out HW_.out (by kernel_rfl)) (fun _ _ _ h => h) (Or.inl ⟨by rfl, ?_⟩) hHeld ?_ ?_
  rotate_left
  · rintro w' ⟨⟨s0, s1⟩, ⟨s2, s3⟩, ⟨s4, s5⟩, s6, s7⟩
    go_simp
    with_reducible rfl
  rotate_left
  · simp only [Act.put, List.setIfInBounds_toArray, List.set_cons_zero, List.set_cons_succ, i64_w, i32_w]
    rfl
  refine take_ (i := 23) (N := some 49) (v := ?_) (a' := ?_) #[true, true, true, true, true, true, true, true, true, true, true, true, true, true, true, true, true, true, true, true, true, true, true, true, false, false, false, false, false, false, false, false, false, false, false, false, false, false, false, false, false, false, false, false, false, false, false, false, false, false, false, false, false, false, false, false, false, false, false] rfl rfl (take_ofW HT_.out HW_.out (by kernel_rfl)) (fun _ _ _ h => h) (Or.inl ⟨by rfl, ?_⟩) hHeld ?_ ?_
  rotate_left
  · rintro w' ⟨⟨s0, s1⟩, ⟨s2, s3⟩, ⟨s4, s5⟩, s6, s7⟩
    go_simp
    with_reducible rfl
  rotate_left
  · simp only [Act.put, List.setIfInBounds_toArray, List.set_cons_zero, List.set_cons_succ, i64_w, i32_w]
    rfl
  refine one_ (i := 24) (N := some 50) #[true, true, true, true, true, true, true, true, true, true, true, true, true, true, true, true, true, true, true, true, true, true, true, true, true, false, false, false, false, false, false, false, false, false, false, false, false, false, false, false, false, false, false, false, false, false, false, false, false, false, false, false, false, false, false, false, false, false, false] rfl rfl (one_of HT_.out (by kernel_rfl)) (by decide) (fun K hK => ?_)
  refine goes_ Try.func19 (by kernel_rfl) rfl #[.agg #[.slice (some ⟨w.heap.size + 1 + 1, 0, none⟩) 2 2, .int .i64 20], .agg #[.slice (some ⟨w.heap.size + 1 + 1, 0, none⟩) 2 2, .int .i64 20]] (by rfl) rfl rfl (by (try simp only [List.map_toArray, List.map_cons, List.map_nil]); first | done | rfl) ?_
  refine (order_Less.calls 5 _ _ rB.f0 rB.f1 _ _ rB.f0 rB.f1 _ _ HX.out.b (by decide) HX.out.b (by decide) less_bb).mono ?_
  rintro e w' ⟨rfl, hb⟩
  refine ⟨_, rfl, ?_⟩
  have n0_ := Aside0.mk (HX.out.below hb)
  have n1_ := Aside0.mk (below_step HB.out hb)
  have m0_ := Aside0.mk (Kd.C_below HL.out hb)
  clear HX HB HL
  have HX := n0_
  have HB := n1_
  have HL := m0_
  clear n0_ n1_ hb m0_
  refine hK.out _ _ HX.out.cells (fun hHeld => ?_)
  clear hK K
  refine norm_ (a' := ?_) ?_ ?_
  rotate_left
  · show Act.put _ (some 50) _ = _
    simp only [Act.put, List.setIfInBounds_toArray, List.set_cons_zero, List.set_cons_succ, i64_w, i32_w]
    rfl
  refine pure_ (i := 25) (N := some 51) (v := ?_) (a' := ?_) #[true, true, true, true, true, true, true, true, true, true, true, true, true, true, true, true, true, true, true, true, true, true, true, true, true, true, false, false, false, false, false, false, false, false, false, false, false, false, false, false, false, false, false, false, false, false, false, false, false, false, false, false, false, false, false, false, false, false, false] rfl rfl (any_of HT_.out (by kernel_rfl)) (fun _ _ _ h => h) (Or.inl ⟨by rfl, ?_⟩) ?_ ?_
  rotate_left
  · intro w'
    go_simp
    with_reducible rfl
  rotate_left
  · simp only [Act.put, List.setIfInBounds_toArray, List.set_cons_zero, List.set_cons_succ, i64_w, i32_w]
    rfl
  refine pure_ (i := 26) (N := some 52) (v := ?_) (a' := ?_) #[true, true, true, true, true, true, true, true, true, true, true, true, true, true, true, true, true, true, true, true, true, true, true, true, true, true, true, false, false, false, false, false, false, false, false, false, false, false, false, false, false, false, false, false, false, false, false, false, false, false, false, false, false, false, false, false, false, false, false] rfl rfl (any_of HT_.out (by kernel_rfl)) (fun _ _ _ h => h) (Or.inl ⟨by rfl, ?_⟩) ?_ ?_
  rotate_left
  · intro w'
    go_simp
    with_reducible rfl
  rotate_left
  · simp only [Act.put, List.setIfInBounds_toArray, List.set_cons_zero, List.set_cons_succ, i64_w, i32_w]
    rfl
  refine pure_ (i := 27) (N := some 53) (v := ?_) (a' := ?_) #[true, true, true, true, true, true, true, true, true, true, true, true, true, true, true, true, true, true, true, true, true, true, true, true, true, true, true, true, false, false, false, false, false, false, false, false, false, false, false, false, false, false, false, false, false, false, false, false, false, false, false, false, false, false, false, false, false, false, false] rfl rfl (any_of HT_.out (by kernel_rfl)) (fun _ _ _ h => h) (Or.inl ⟨by rfl, ?_⟩) ?_ ?_
  rotate_left
  · intro w'
    go_simp
    with_reducible rfl
  rotate_left
  · simp only [Act.put, List.setIfInBounds_toArray, List.set_cons_zero, List.set_cons_succ, i64_w, i32_w]
    rfl
  refine pure_ (i := 28) (N := some 54) (v := ?_) (a' := ?_) #[true, true, true, true, true, true, true, true, true, true, true, true, true, true, true, true, true, true, true, true, true, true, true, true, true, true, true, true, true, false, false, false, false, false, false, false, false, false, false, false, false, false, false, false, false, false, false, false, false, false, false, false, false, false, false, false, false, false, false] rfl rfl (any_of HT_.out (by kernel_rfl)) (fun _ _ _ h => h) (Or.inl ⟨by rfl, ?_⟩) ?_ ?_
  rotate_left
  · intro w'
    go_simp
    with_reducible rfl
  rotate_left
  · simp only [Act.put, List.setIfInBounds_toArray, List.set_cons_zero, List.set_cons_succ, i64_w, i32_w]
    rfl
  refine take_ (i := 29) (N := some 55) (v := ?_) (a' := ?_) #[true, true, true, true, true, true, true, true, true, true, true, true, true, true, true, true, true, true, true, true, true, true, true, true, true, true, true, true, true, true, false, false, false, false, false, false, false, false, false, false, false, false, false, false, false, false, false, false, false, false, false, false, false, false, false, false, false, false, false] rfl rfl (take_ofW HT_.out HW_.out (by kernel_rfl)) (fun _ _ _ h => h) (Or.inl ⟨by rfl, ?_⟩) hHeld ?_ ?_
  rotate_left
  · rintro w' ⟨⟨s0, s1⟩, ⟨s2, s3⟩, ⟨s4, s5⟩, s6, s7⟩
    go_simp
    with_reducible rfl
  rotate_left
  · simp only [Act.put, List.setIfInBounds_toArray, List.set_cons_zero, List.set_cons_succ, i64_w, i32_w]
    rfl
  refine take_ (i := 30) (N := some 56) (v := ?_) (a' := ?_) #[true, true, true, true, true, true, true, true, true, true, true, true, true, true, true, true, true, true, true, true, true, true, true, true, true, true, true, true, true, true, true, false, false, false, false, false, false, false, false, false, false, false, false, false, false, false, false, false, false, false, false, false, false, false, false, false, false, false, false] rfl rfl (take_ofW HT_.out HW_.out (by kernel_rfl)) (fun _ _ _ h => h) (Or.inl ⟨by rfl, ?_⟩) hHeld ?_ ?_
  rotate_left
  · rintro w' ⟨⟨s0, s1⟩, ⟨s2, s3⟩, ⟨s4, s5⟩, s6, s7⟩
    go_simp
    with_reducible rfl
  rotate_left
  · simp only [Act.put, List.setIfInBounds_toArray, List.set_cons_zero, List.set_cons_succ, i64_w, i32_w]
    rfl
  refine take_ (i := 31) (N := some 57) (v := ?_) (a' := ?_) #[true, true, true, true, true, true, true, true, true, true, true, true, true, true, true, true, true, true, true, true, true, true, true, true, true, true, true, true, true, true, true, true, false, false, false, false, false, false, false, false, false, false, false, false, false, false, false, false, false, false, false, false, false, false, false, false, false, false, false] rfl rfl (take_ofW HT_.out HW_.out (by kernel_rfl)) (fun _ _ _ h => h) (Or.inl ⟨by rfl, ?_⟩) hHeld ?_ ?_
  rotate_left
  · rintro w' ⟨⟨s0, s1⟩, ⟨s2, s3⟩, ⟨s4, s5⟩, s6, s7⟩
    go_simp
    with_reducible rfl
  rotate_left
  · simp only [Act.put, List.setIfInBounds_toArray, List.set_cons_zero, List.set_cons_succ, i64_w, i32_w]
    rfl
  refine one_ (i := 32) (N := some 58) #[true, true, true, true, true, true, true, true, true, true, true, true, true, true, true, true, true, true, true, true, true, true, true, true, true, true, true, true, true, true, true, true, true, false, false, false, false, false, false, false, false, false, false, false, false, false, false, false, false, false, false, false, false, false, false, false, false, false, false] rfl rfl (one_of HT_.out (by kernel_rfl)) (by decide) (fun K hK => ?_)
  rw [if_pos (by rfl)]
  go_simp
  have hN := Aside0.mk HX.out.abc
  have hb := below_alloc (Below.refl w'.heap.size w') (.cells #[.slice (some ⟨w.heap.size, 0, none⟩) 1 1, .int .i64 20, .slice (some ⟨w.heap.size + 1 + 1, 0, none⟩) 2 2, .int .i64 20, .slice (some ⟨w.heap.size + 1 + 1 + 1 + 1, 0, none⟩) 2 2, .int .i64 20] 25)
  have n0_ := Aside0.mk (HX.out.below hb)
  have n1_ := Aside0.mk (below_step HB.out hb)
  have m0_ := Aside0.mk (Kd.C_below HL.out hb)
  clear HX HB HL
  have HX := n0_
  have HB := n1_
  have HL := m0_
  clear n0_ n1_ hb m0_
  generalize w'.heap.size = nb58 at hN ⊢
  generalize w'.alloc _ = w' at hN HX HB HL ⊢
  have HN58 := hN
  clear hN
  refine hK.out _ _ HX.out.cells (fun hHeld => ?_)
  clear hK K
  refine one_ (i := 33) (N := some 59) #[true, true, true, true, true, true, true, true, true, true, true, true, true, true, true, true, true, true, true, true, true, true, true, true, true, true, true, true, true, true, true, true, true, true, false, false, false, false, false, false, false, false, false, false, false, false, false, false, false, false, false, false, false, false, false, false, false, false, false] rfl rfl (one_of HT_.out (by kernel_rfl)) (by decide) (fun K hK => ?_)
  refine goes_ Try.func16 (by kernel_rfl) rfl #[.slice A 3 c, .slice (some ⟨nb58, 0, none⟩) 3 3] (by rfl) rfl rfl (by (try simp only [List.map_toArray, List.map_cons, List.map_nil]); first | done | rfl) ?_
  refine (order_Same.calls 6 _ _ [rA, rB, rC] _ _ [rA, rB, rC] _ _ HL.out hLc HN58.out (by decide) same_abc).mono ?_
  rintro e w' ⟨rfl, hb⟩
  refine ⟨_, rfl, ?_⟩
  have n0_ := Aside0.mk (HX.out.below hb)
  have n1_ := Aside0.mk (below_step HB.out hb)
  have m0_ := Aside0.mk (Kd.C_below HL.out hb)
  have m1_ := Aside0.mk (Kd.C_below HN58.out hb)
  clear HX HB HL HN58
  have HX := n0_
  have HB := n1_
  have HL := m0_
  have HN58 := m1_
  clear n0_ n1_ hb m0_ m1_
  refine hK.out _ _ HX.out.cells (fun hHeld => ?_)
  clear hK K
  refine norm_ (a' := ?_) ?_ ?_
  rotate_left
  · show Act.put _ (some 59) _ = _
    simp only [Act.put, List.setIfInBounds_toArray, List.set_cons_zero, List.set_cons_succ, i64_w, i32_w]
    rfl
  clear HN58
  refine pure_ (i := 34) (N := some 60) (v := ?_) (a' := ?_) #[true, true, true, true, true, true, true, true, true, true, true, true, true, true, true, true, true, true, true, true, true, true, true, true, true, true, true, true, true, true, true, true, true, true, true, false, false, false, false, false, false, false, false, false, false, false, false, false, false, false, false, false, false, false, false, false, false, false, false] rfl rfl (any_of HT_.out (by kernel_rfl)) (fun _ _ _ h => h) (Or.inl ⟨by rfl, ?_⟩) ?_ ?_
  rotate_left
  · intro w'
    go_simp
    with_reducible rfl
  rotate_left
  · simp only [Act.put, List.setIfInBounds_toArray, List.set_cons_zero, List.set_cons_succ, i64_w, i32_w]
    rfl
  refine pure_ (i := 35) (N := some 61) (v := ?_) (a' := ?_) #[true, true, true, true, true, true, true, true, true, true, true, true, true, true, true, true, true, true, true, true, true, true, true, true, true, true, true, true, true, true, true, true, true, true, true, true, false, false, false, false, false, false, false, false, false, false, false, false, false, false, false, false, false, false, false, false, false, false, false] rfl rfl (any_of HT_.out (by kernel_rfl)) (fun _ _ _ h => h) (Or.inl ⟨by rfl, ?_⟩) ?_ ?_
  rotate_left
  · intro w'
    go_simp
    with_reducible rfl
  rotate_left
  · simp only [Act.put, List.setIfInBounds_toArray, List.set_cons_zero, List.set_cons_succ, i64_w, i32_w]
    rfl
  refine take_ (i := 36) (N := some 62) (v := ?_) (a' := ?_) #[true, true, true, true, true, true, true, true, true, true, true, true, true, true, true, true, true, true, true, true, true, true, true, true, true, true, true, true, true, true, true, true, true, true, true, true, true, false, false, false, false, false, false, false, false, false, false, false, false, false, false, false, false, false, false, false, false, false, false] rfl rfl (take_ofW HT_.out HW_.out (by kernel_rfl)) (fun _ _ _ h => h) (Or.inl ⟨by rfl, ?_⟩) hHeld ?_ ?_
  rotate_left
  · rintro w' ⟨⟨s0, s1⟩, ⟨s2, s3⟩, ⟨s4, s5⟩, s6, s7⟩
    go_simp
    with_reducible rfl
  rotate_left
  · simp only [Act.put, List.setIfInBounds_toArray, List.set_cons_zero, List.set_cons_succ, i64_w, i32_w]
    rfl
  refine take_ (i := 37) (N := some 63) (v := ?_) (a' := ?_) #[true, true, true, true, true, true, true, true, true, true, true, true, true, true, true, true, true, true, true, true, true, true, true, true, true, true, true, true, true, true, true, true, true, true, true, true, true, true, false, false, false, false, false, false, false, false, false, false, false, false, false, false, false, false, false, false, false, false, false] rfl rfl (take_ofW HT_.out HW_.out (by kernel_rfl)) (fun _ _ _ h => h) (Or.inl ⟨by rfl, ?_⟩) hHeld ?_ ?_
  rotate_left
  · rintro w' ⟨⟨s0, s1⟩, ⟨s2, s3⟩, ⟨s4, s5⟩, s6, s7⟩
    go_simp
    with_reducible rfl
  rotate_left
  · simp only [Act.put, List.setIfInBounds_toArray, List.set_cons_zero, List.set_cons_succ, i64_w, i32_w]
    rfl
  refine take_ (i := 39) (N := some 65) (v := ?_) (a' := ?_) #[true, true, true, true, true, true, true, true, true, true, true, true, true, true, true, true, true, true, true, true, true, true, true, true, true, true, true, true, true, true, true, true, true, true, true, true, true, true, false, true, false, false, false, false, false, false, false, false, false, false, false, false, false, false, false, false, false, false, false] rfl rfl (take_ofW HT_.out HW_.out (by kernel_rfl)) (fun _ _ _ h => h) (Or.inl ⟨by rfl, ?_⟩) hHeld ?_ ?_
  rotate_left
  · rintro w' ⟨⟨s0, s1⟩, ⟨s2, s3⟩, ⟨s4, s5⟩, s6, s7⟩
    go_simp
    with_reducible rfl
  rotate_left
  · simp only [Act.put, List.setIfInBounds_toArray, List.set_cons_zero, List.set_cons_succ, i64_w, i32_w]
    rfl
  refine take_ (i := 41) (N := some 67) (v := ?_) (a' := ?_) #[true, true, true, true, true, true, true, true, true, true, true, true, true, true, true, true, true, true, true, true, true, true, true, true, true, true, true, true, true, true, true, true, true, true, true, true, true, true, false, true, false, true, false, false, false, false, false, false, false, false, false, false, false, false, false, false, false, false, false] rfl rfl (take_ofW HT_.out HW_.out (by kernel_rfl)) (fun _ _ _ h => h) (Or.inl ⟨by rfl, ?_⟩) hHeld ?_ ?_
  rotate_left
  · rintro w' ⟨⟨s0, s1⟩, ⟨s2, s3⟩, ⟨s4, s5⟩, s6, s7⟩
    go_simp
    with_reducible rfl
  rotate_left
  · simp only [Act.put, List.setIfInBounds_toArray, List.set_cons_zero, List.set_cons_succ, i64_w, i32_w]
    rfl
  refine take_ (i := 42) (N := some 68) (v := ?_) (a' := ?_) #[true, true, true, true, true, true, true, true, true, true, true, true, true, true, true, true, true, true, true, true, true, true, true, true, true, true, true, true, true, true, true, true, true, true, true, true, true, true, false, true, false, true, true, false, false, false, false, false, false, false, false, false, false, false, false, false, false, false, false] rfl rfl (take_ofW HT_.out HW_.out (by kernel_rfl)) (fun _ _ _ h => h) (Or.inl ⟨by rfl, ?_⟩) hHeld ?_ ?_
  rotate_left
  · rintro w' ⟨⟨s0, s1⟩, ⟨s2, s3⟩, ⟨s4, s5⟩, s6, s7⟩
    go_simp
    with_reducible rfl
  rotate_left
  · simp only [Act.put, List.setIfInBounds_toArray, List.set_cons_zero, List.set_cons_succ, i64_w, i32_w]
    rfl
  refine join_ (σ := Value × Value × Value) 15 #[true, true, true, true, true, true, true, true, true, true, true, true, true, true, true, true, true, true, true, true, true, true, true, true, true, true, true, true, true, true, true, true, true, true, true, true, true, true, true, true, true, true, true, true, false, false, false, false, false, false, false, false, false, false, false, false, false, false, false] (fun s_ => [(64, s_.1), (69, s_.2.1), (66, s_.2.2)]) (fun s_ w' => Bx w.heap.size w' ∧ Below w.heap.size w w' ∧ Kd.C k25 w' A 3 [rA, rB, rC] ∧ (∃ nb, s_.2.1 = .slice (some ⟨nb, 0, none⟩) 2 2 ∧ Kd.C k25 w' (some ⟨nb, 0, none⟩) 2 [rA, rB]) ∧ (∃ A2 c2, s_.2.2 = .slice A2 2 c2 ∧ 2 ≤ c2 ∧ Kd.C k25 w' A2 2 [rA, rB])) ?_ ?_
  rotate_left
  · intro hCont
    refine two_ (i := 38) (j := 43) (Ni := some 64) (Nj := some 69) #[true, true, true, true, true, true, true, true, true, true, true, true, true, true, true, true, true, true, true, true, true, true, true, true, true, true, true, true, true, true, true, true, true, true, true, true, true, true, true, true, false, true, true, false, false, false, false, false, false, false, false, false, false, false, false, false, false, false, false] #[true, true, true, true, true, true, true, true, true, true, true, true, true, true, true, true, true, true, true, true, true, true, true, true, true, true, true, true, true, true, true, true, true, true, true, true, true, true, false, true, false, true, true, true, false, false, false, false, false, false, false, false, false, false, false, false, false, false, false] rfl rfl rfl rfl (two_of HT_.out (by kernel_rfl)) (by decide) (by decide) (fun K hK => ?_) (fun K hK => ?_)
    · skip
      rw [if_pos (by rfl)]
      go_simp
      have hN := Aside0.mk HX.out.ac
      have hb := below_alloc (Below.refl w'.heap.size w') (.cells #[.slice (some ⟨w.heap.size, 0, none⟩) 1 1, .int .i64 20, .slice (some ⟨w.heap.size + 1 + 1 + 1 + 1, 0, none⟩) 2 2, .int .i64 20] 25)
      have n0_ := Aside0.mk (HX.out.below hb)
      have n1_ := Aside0.mk (below_step HB.out hb)
      have m0_ := Aside0.mk (Kd.C_below HL.out hb)
      clear HX HB HL
      have HX := n0_
      have HB := n1_
      have HL := m0_
      clear n0_ n1_ hb m0_
      generalize w'.heap.size = nb64 at hN ⊢
      generalize w'.alloc _ = w' at hN HX HB HL ⊢
      have HN64 := hN
      clear hN
      refine hK.out _ _ HX.out.cells (fun hHeld => ?_)
      clear hK K
      refine two_ (i := 40) (j := 43) (Ni := some 66) (Nj := some 69) #[true, true, true, true, true, true, true, true, true, true, true, true, true, true, true, true, true, true, true, true, true, true, true, true, true, true, true, true, true, true, true, true, true, true, true, true, true, true, true, true, true, true, true, false, false, false, false, false, false, false, false, false, false, false, false, false, false, false, false] #[true, true, true, true, true, true, true, true, true, true, true, true, true, true, true, true, true, true, true, true, true, true, true, true, true, true, true, true, true, true, true, true, true, true, true, true, true, true, true, true, false, true, true, true, false, false, false, false, false, false, false, false, false, false, false, false, false, false, false] rfl rfl rfl rfl (two_of HT_.out (by kernel_rfl)) (by decide) (by decide) (fun K hK => ?_) (fun K hK => ?_)
      · skip
        refine goes_ Try.func13 (by kernel_rfl) rfl #[.slice (some ⟨nb64, 0, none⟩) 2 2, .agg #[.slice (some ⟨w.heap.size + 1 + 1, 0, none⟩) 2 2, .int .i64 20], .int .i64 2] (by rfl) rfl rfl (by (try simp only [List.map_toArray, List.map_cons, List.map_nil]); first | done | rfl) ?_
        refine (order_Insert.calls _ _ [rA, rC] _ _ _ rB.f0 rB.f1 2 _ _ HN64.out (by decide) (Kd.V_mk (by decide) (Kd.C_F k34_heap HX.out.b)) ins_ac).mono ?_
        rintro e w' ⟨v, rfl, hV, hb⟩
        refine ⟨_, rfl, ?_⟩
        obtain ⟨A2, c2, rfl⟩ := Kd.V_slice hV
        have HV := Aside0.mk (Kd.V_reads' hV).2.2
        have hVc : 2 ≤ c2 := (Kd.V_reads' hV).2.1
        clear hV
        have n0_ := Aside0.mk (HX.out.below hb)
        have n1_ := Aside0.mk (below_step HB.out hb)
        have m0_ := Aside0.mk (Kd.C_below HL.out hb)
        have m1_ := Aside0.mk (Kd.C_below HN64.out hb)
        clear HX HB HL HN64
        have HX := n0_
        have HB := n1_
        have HL := m0_
        have HN64 := m1_
        clear n0_ n1_ hb m0_ m1_
        refine hK.out _ _ HX.out.cells (fun hHeld => ?_)
        clear hK K
        refine norm_ (a' := ?_) ?_ ?_
        rotate_left
        · show Act.put _ (some 66) _ = _
          simp only [Act.put, List.setIfInBounds_toArray, List.set_cons_zero, List.set_cons_succ, i64_w, i32_w]
          rfl
        refine one_ (i := 43) (N := some 69) #[true, true, true, true, true, true, true, true, true, true, true, true, true, true, true, true, true, true, true, true, true, true, true, true, true, true, true, true, true, true, true, true, true, true, true, true, true, true, true, true, true, true, true, true, false, false, false, false, false, false, false, false, false, false, false, false, false, false, false] rfl rfl (one_of HT_.out (by kernel_rfl)) (by decide) (fun K hK => ?_)
        rw [if_pos (by rfl)]
        go_simp
        have hN := Aside0.mk HX.out.ab
        have hb := below_alloc (Below.refl w'.heap.size w') (.cells #[.slice (some ⟨w.heap.size, 0, none⟩) 1 1, .int .i64 20, .slice (some ⟨w.heap.size + 1 + 1, 0, none⟩) 2 2, .int .i64 20] 25)
        have n0_ := Aside0.mk (HX.out.below hb)
        have n1_ := Aside0.mk (below_step HB.out hb)
        have m0_ := Aside0.mk (Kd.C_below HL.out hb)
        have m1_ := Aside0.mk (Kd.C_below HN64.out hb)
        have m2_ := Aside0.mk (Kd.C_below HV.out hb)
        clear HX HB HL HN64 HV
        have HX := n0_
        have HB := n1_
        have HL := m0_
        have HN64 := m1_
        have HV := m2_
        clear n0_ n1_ hb m0_ m1_ m2_
        generalize w'.heap.size = nb69 at hN ⊢
        generalize w'.alloc _ = w' at hN HX HB HL HN64 HV ⊢
        have HN69 := hN
        clear hN
        refine hK.out _ _ HX.out.cells (fun hHeld => ?_)
        clear hK K
        exact norm_ (by first | (simp only [putAll, Act.put, List.setIfInBounds_toArray, List.set_cons_zero, List.set_cons_succ]; done) | (simp only [putAll, Act.put, List.setIfInBounds_toArray, List.set_cons_zero, List.set_cons_succ]; rfl)) (hCont (.slice (some ⟨nb64, 0, none⟩) 2 2, .slice (some ⟨nb69, 0, none⟩) 2 2, .slice A2 2 c2) _ ⟨HX.out, HB.out, HL.out, ⟨_, rfl, HN69.out⟩, ⟨_, _, rfl, hVc, HV.out⟩⟩)
      · skip
        rw [if_pos (by rfl)]
        go_simp
        have hN := Aside0.mk HX.out.ab
        have hb := below_alloc (Below.refl w'.heap.size w') (.cells #[.slice (some ⟨w.heap.size, 0, none⟩) 1 1, .int .i64 20, .slice (some ⟨w.heap.size + 1 + 1, 0, none⟩) 2 2, .int .i64 20] 25)
        have n0_ := Aside0.mk (HX.out.below hb)
        have n1_ := Aside0.mk (below_step HB.out hb)
        have m0_ := Aside0.mk (Kd.C_below HL.out hb)
        have m1_ := Aside0.mk (Kd.C_below HN64.out hb)
        clear HX HB HL HN64
        have HX := n0_
        have HB := n1_
        have HL := m0_
        have HN64 := m1_
        clear n0_ n1_ hb m0_ m1_
        generalize w'.heap.size = nb69 at hN ⊢
        generalize w'.alloc _ = w' at hN HX HB HL HN64 ⊢
        have HN69 := hN
        clear hN
        refine hK.out _ _ HX.out.cells (fun hHeld => ?_)
        clear hK K
        refine one_ (i := 40) (N := some 66) #[true, true, true, true, true, true, true, true, true, true, true, true, true, true, true, true, true, true, true, true, true, true, true, true, true, true, true, true, true, true, true, true, true, true, true, true, true, true, true, true, true, true, true, true, false, false, false, false, false, false, false, false, false, false, false, false, false, false, false] rfl rfl (one_of HT_.out (by kernel_rfl)) (by decide) (fun K hK => ?_)
        refine goes_ Try.func13 (by kernel_rfl) rfl #[.slice (some ⟨nb64, 0, none⟩) 2 2, .agg #[.slice (some ⟨w.heap.size + 1 + 1, 0, none⟩) 2 2, .int .i64 20], .int .i64 2] (by rfl) rfl rfl (by (try simp only [List.map_toArray, List.map_cons, List.map_nil]); first | done | rfl) ?_
        refine (order_Insert.calls _ _ [rA, rC] _ _ _ rB.f0 rB.f1 2 _ _ HN64.out (by decide) (Kd.V_mk (by decide) (Kd.C_F k34_heap HX.out.b)) ins_ac).mono ?_
        rintro e w' ⟨v, rfl, hV, hb⟩
        refine ⟨_, rfl, ?_⟩
        obtain ⟨A2, c2, rfl⟩ := Kd.V_slice hV
        have HV := Aside0.mk (Kd.V_reads' hV).2.2
        have hVc : 2 ≤ c2 := (Kd.V_reads' hV).2.1
        clear hV
        have n0_ := Aside0.mk (HX.out.below hb)
        have n1_ := Aside0.mk (below_step HB.out hb)
        have m0_ := Aside0.mk (Kd.C_below HL.out hb)
        have m1_ := Aside0.mk (Kd.C_below HN64.out hb)
        have m2_ := Aside0.mk (Kd.C_below HN69.out hb)
        clear HX HB HL HN64 HN69
        have HX := n0_
        have HB := n1_
        have HL := m0_
        have HN64 := m1_
        have HN69 := m2_
        clear n0_ n1_ hb m0_ m1_ m2_
        refine hK.out _ _ HX.out.cells (fun hHeld => ?_)
        clear hK K
        refine norm_ (a' := ?_) ?_ ?_
        rotate_left
        · show Act.put _ (some 66) _ = _
          simp only [Act.put, List.setIfInBounds_toArray, List.set_cons_zero, List.set_cons_succ, i64_w, i32_w]
          rfl
        exact norm_ (by first | (simp only [putAll, Act.put, List.setIfInBounds_toArray, List.set_cons_zero, List.set_cons_succ]; done) | (simp only [putAll, Act.put, List.setIfInBounds_toArray, List.set_cons_zero, List.set_cons_succ]; rfl)) (hCont (.slice (some ⟨nb64, 0, none⟩) 2 2, .slice (some ⟨nb69, 0, none⟩) 2 2, .slice A2 2 c2) _ ⟨HX.out, HB.out, HL.out, ⟨_, rfl, HN69.out⟩, ⟨_, _, rfl, hVc, HV.out⟩⟩)
    · skip
      rw [if_pos (by rfl)]
      go_simp
      have hN := Aside0.mk HX.out.ab
      have hb := below_alloc (Below.refl w'.heap.size w') (.cells #[.slice (some ⟨w.heap.size, 0, none⟩) 1 1, .int .i64 20, .slice (some ⟨w.heap.size + 1 + 1, 0, none⟩) 2 2, .int .i64 20] 25)
      have n0_ := Aside0.mk (HX.out.below hb)
      have n1_ := Aside0.mk (below_step HB.out hb)
      have m0_ := Aside0.mk (Kd.C_below HL.out hb)
      clear HX HB HL
      have HX := n0_
      have HB := n1_
      have HL := m0_
      clear n0_ n1_ hb m0_
      generalize w'.heap.size = nb69 at hN ⊢
      generalize w'.alloc _ = w' at hN HX HB HL ⊢
      have HN69 := hN
      clear hN
      refine hK.out _ _ HX.out.cells (fun hHeld => ?_)
      clear hK K
      refine one_ (i := 38) (N := some 64) #[true, true, true, true, true, true, true, true, true, true, true, true, true, true, true, true, true, true, true, true, true, true, true, true, true, true, true, true, true, true, true, true, true, true, true, true, true, true, true, true, false, true, true, true, false, false, false, false, false, false, false, false, false, false, false, false, false, false, false] rfl rfl (one_of HT_.out (by kernel_rfl)) (by decide) (fun K hK => ?_)
      rw [if_pos (by rfl)]
      go_simp
      have hN := Aside0.mk HX.out.ac
      have hb := below_alloc (Below.refl w'.heap.size w') (.cells #[.slice (some ⟨w.heap.size, 0, none⟩) 1 1, .int .i64 20, .slice (some ⟨w.heap.size + 1 + 1 + 1 + 1, 0, none⟩) 2 2, .int .i64 20] 25)
      have n0_ := Aside0.mk (HX.out.below hb)
      have n1_ := Aside0.mk (below_step HB.out hb)
      have m0_ := Aside0.mk (Kd.C_below HL.out hb)
      have m1_ := Aside0.mk (Kd.C_below HN69.out hb)
      clear HX HB HL HN69
      have HX := n0_
      have HB := n1_
      have HL := m0_
      have HN69 := m1_
      clear n0_ n1_ hb m0_ m1_
      generalize w'.heap.size = nb64 at hN ⊢
      generalize w'.alloc _ = w' at hN HX HB HL HN69 ⊢
      have HN64 := hN
      clear hN
      refine hK.out _ _ HX.out.cells (fun hHeld => ?_)
      clear hK K
      refine one_ (i := 40) (N := some 66) #[true, true, true, true, true, true, true, true, true, true, true, true, true, true, true, true, true, true, true, true, true, true, true, true, true, true, true, true, true, true, true, true, true, true, true, true, true, true, true, true, true, true, true, true, false, false, false, false, false, false, false, false, false, false, false, false, false, false, false] rfl rfl (one_of HT_.out (by kernel_rfl)) (by decide) (fun K hK => ?_)
      refine goes_ Try.func13 (by kernel_rfl) rfl #[.slice (some ⟨nb64, 0, none⟩) 2 2, .agg #[.slice (some ⟨w.heap.size + 1 + 1, 0, none⟩) 2 2, .int .i64 20], .int .i64 2] (by rfl) rfl rfl (by (try simp only [List.map_toArray, List.map_cons, List.map_nil]); first | done | rfl) ?_
      refine (order_Insert.calls _ _ [rA, rC] _ _ _ rB.f0 rB.f1 2 _ _ HN64.out (by decide) (Kd.V_mk (by decide) (Kd.C_F k34_heap HX.out.b)) ins_ac).mono ?_
      rintro e w' ⟨v, rfl, hV, hb⟩
      refine ⟨_, rfl, ?_⟩
      obtain ⟨A2, c2, rfl⟩ := Kd.V_slice hV
      have HV := Aside0.mk (Kd.V_reads' hV).2.2
      have hVc : 2 ≤ c2 := (Kd.V_reads' hV).2.1
      clear hV
      have n0_ := Aside0.mk (HX.out.below hb)
      have n1_ := Aside0.mk (below_step HB.out hb)
      have m0_ := Aside0.mk (Kd.C_below HL.out hb)
      have m1_ := Aside0.mk (Kd.C_below HN69.out hb)
      have m2_ := Aside0.mk (Kd.C_below HN64.out hb)
      clear HX HB HL HN69 HN64
      have HX := n0_
      have HB := n1_
      have HL := m0_
      have HN69 := m1_
      have HN64 := m2_
      clear n0_ n1_ hb m0_ m1_ m2_
      refine hK.out _ _ HX.out.cells (fun hHeld => ?_)
      clear hK K
      refine norm_ (a' := ?_) ?_ ?_
      rotate_left
      · show Act.put _ (some 66) _ = _
        simp only [Act.put, List.setIfInBounds_toArray, List.set_cons_zero, List.set_cons_succ, i64_w, i32_w]
        rfl
      exact norm_ (by first | (simp only [putAll, Act.put, List.setIfInBounds_toArray, List.set_cons_zero, List.set_cons_succ]; done) | (simp only [putAll, Act.put, List.setIfInBounds_toArray, List.set_cons_zero, List.set_cons_succ]; rfl)) (hCont (.slice (some ⟨nb64, 0, none⟩) 2 2, .slice (some ⟨nb69, 0, none⟩) 2 2, .slice A2 2 c2) _ ⟨HX.out, HB.out, HL.out, ⟨_, rfl, HN69.out⟩, ⟨_, _, rfl, hVc, HV.out⟩⟩)
  clear HX HB HL hHeld
  rintro ⟨s1, s2, s3⟩ w' ⟨hX, hB, hL, ⟨nb, rfl, hN⟩, A2, c2, rfl, hVc, hV⟩
  have HX := Aside0.mk hX
  have HB := Aside0.mk hB
  have HL := Aside0.mk hL
  have HN69 := Aside0.mk hN
  have HV := Aside0.mk hV
  have hHeld := hX.cells
  clear hX hB hL hN hV
  refine norm_ (a' := ?_) ?_ ?_
  rotate_left
  · simp only [putAll, Act.put, List.setIfInBounds_toArray, List.set_cons_zero, List.set_cons_succ]
    rfl
  refine one_ (i := 44) (N := some 70) #[true, true, true, true, true, true, true, true, true, true, true, true, true, true, true, true, true, true, true, true, true, true, true, true, true, true, true, true, true, true, true, true, true, true, true, true, true, true, true, true, true, true, true, true, true, false, false, false, false, false, false, false, false, false, false, false, false, false, false] rfl rfl (one_of HT_.out (by kernel_rfl)) (by decide) (fun K hK => ?_)
  refine goes_ Try.func16 (by kernel_rfl) rfl #[.slice A2 2 c2, .slice (some ⟨nb, 0, none⟩) 2 2] (by rfl) rfl rfl (by (try simp only [List.map_toArray, List.map_cons, List.map_nil]); first | done | rfl) ?_
  refine (order_Same.calls 6 _ _ [rA, rB] _ _ [rA, rB] _ _ HV.out hVc HN69.out (by decide) same_ab).mono ?_
  rintro e w' ⟨rfl, hb⟩
  refine ⟨_, rfl, ?_⟩
  have n0_ := Aside0.mk (HX.out.below hb)
  have n1_ := Aside0.mk (below_step HB.out hb)
  have m0_ := Aside0.mk (Kd.C_below HL.out hb)
  have m1_ := Aside0.mk (Kd.C_below HN69.out hb)
  have m2_ := Aside0.mk (Kd.C_below HV.out hb)
  clear HX HB HL HN69 HV
  have HX := n0_
  have HB := n1_
  have HL := m0_
  have HN69 := m1_
  have HV := m2_
  clear n0_ n1_ hb m0_ m1_ m2_
  refine hK.out _ _ HX.out.cells (fun hHeld => ?_)
  clear hK K
  refine norm_ (a' := ?_) ?_ ?_
  rotate_left
  · show Act.put _ (some 70) _ = _
    simp only [Act.put, List.setIfInBounds_toArray, List.set_cons_zero, List.set_cons_succ, i64_w, i32_w]
    rfl
  clear HN69 HV
  refine pure_ (i := 45) (N := some 71) (v := ?_) (a' := ?_) #[true, true, true, true, true, true, true, true, true, true, true, true, true, true, true, true, true, true, true, true, true, true, true, true, true, true, true, true, true, true, true, true, true, true, true, true, true, true, true, true, true, true, true, true, true, true, false, false, false, false, false, false, false, false, false, false, false, false, false] rfl rfl (any_of HT_.out (by kernel_rfl)) (fun _ _ _ h => h) (Or.inl ⟨by rfl, ?_⟩) ?_ ?_
  rotate_left
  · intro w'
    go_simp
    with_reducible rfl
  rotate_left
  · simp only [Act.put, List.setIfInBounds_toArray, List.set_cons_zero, List.set_cons_succ, i64_w, i32_w]
    rfl
  refine pure_ (i := 46) (N := some 72) (v := ?_) (a' := ?_) #[true, true, true, true, true, true, true, true, true, true, true, true, true, true, true, true, true, true, true, true, true, true, true, true, true, true, true, true, true, true, true, true, true, true, true, true, true, true, true, true, true, true, true, true, true, true, true, false, false, false, false, false, false, false, false, false, false, false, false] rfl rfl (any_of HT_.out (by kernel_rfl)) (fun _ _ _ h => h) (Or.inl ⟨by rfl, ?_⟩) ?_ ?_
  rotate_left
  · intro w'
    go_simp
    with_reducible rfl
  rotate_left
  · simp only [Act.put, List.setIfInBounds_toArray, List.set_cons_zero, List.set_cons_succ, i64_w, i32_w]
    rfl
  refine pure_ (i := 47) (N := some 73) (v := ?_) (a' := ?_) #[true, true, true, true, true, true, true, true, true, true, true, true, true, true, true, true, true, true, true, true, true, true, true, true, true, true, true, true, true, true, true, true, true, true, true, true, true, true, true, true, true, true, true, true, true, true, true, true, false, false, false, false, false, false, false, false, false, false, false] rfl rfl (any_of HT_.out (by kernel_rfl)) (fun _ _ _ h => h) (Or.inl ⟨by rfl, ?_⟩) ?_ ?_
  rotate_left
  · intro w'
    go_simp
    with_reducible rfl
  rotate_left
  · simp only [Act.put, List.setIfInBounds_toArray, List.set_cons_zero, List.set_cons_succ, i64_w, i32_w]
    rfl
  refine take_ (i := 48) (N := some 74) (v := ?_) (a' := ?_) #[true, true, true, true, true, true, true, true, true, true, true, true, true, true, true, true, true, true, true, true, true, true, true, true, true, true, true, true, true, true, true, true, true, true, true, true, true, true, true, true, true, true, true, true, true, true, true, true, true, false, false, false, false, false, false, false, false, false, false] rfl rfl (take_ofW HT_.out HW_.out (by kernel_rfl)) (fun _ _ _ h => h) (Or.inl ⟨by rfl, ?_⟩) hHeld ?_ ?_
  rotate_left
  · rintro w' ⟨⟨s0, s1⟩, ⟨s2, s3⟩, ⟨s4, s5⟩, s6, s7⟩
    go_simp
    with_reducible rfl
  rotate_left
  · simp only [Act.put, List.setIfInBounds_toArray, List.set_cons_zero, List.set_cons_succ, i64_w, i32_w]
    rfl
  refine one_ (i := 49) (N := some 75) #[true, true, true, true, true, true, true, true, true, true, true, true, true, true, true, true, true, true, true, true, true, true, true, true, true, true, true, true, true, true, true, true, true, true, true, true, true, true, true, true, true, true, true, true, true, true, true, true, true, true, false, false, false, false, false, false, false, false, false] rfl rfl (one_of HT_.out (by kernel_rfl)) (by decide) (fun K hK => ?_)
  refine goes_ Try.func13 (by kernel_rfl) rfl #[.slice A 3 c, .agg #[.slice (some ⟨w.heap.size, 0, none⟩) 1 1, .int .i64 20], .int .i64 0] (by rfl) rfl rfl (by (try simp only [List.map_toArray, List.map_cons, List.map_nil]); first | done | rfl) ?_
  refine (order_Insert.calls _ _ [rA, rB, rC] _ _ _ rA.f0 rA.f1 0 _ _ HL.out hLc (Kd.V_mk (by decide) (Kd.C_F k34_heap HX.out.a)) ins_l0).mono ?_
  rintro e w' ⟨v, rfl, hV, hb⟩
  refine ⟨_, rfl, ?_⟩
  obtain ⟨A3, c3, rfl⟩ := Kd.V_slice hV
  have HV := Aside0.mk (Kd.V_reads' hV).2.2
  clear hV
  have n0_ := Aside0.mk (HX.out.below hb)
  have n1_ := Aside0.mk (below_step HB.out hb)
  have m0_ := Aside0.mk (Kd.C_below HL.out hb)
  clear HX HB HL
  have HX := n0_
  have HB := n1_
  have HL := m0_
  clear n0_ n1_ hb m0_
  refine hK.out _ _ HX.out.cells (fun hHeld => ?_)
  clear hK K
  refine norm_ (a' := ?_) ?_ ?_
  rotate_left
  · show Act.put _ (some 75) _ = _
    simp only [Act.put, List.setIfInBounds_toArray, List.set_cons_zero, List.set_cons_succ, i64_w, i32_w]
    rfl
  clear HV
  refine pure_ (i := 50) (N := some 76) (v := ?_) (a' := ?_) #[true, true, true, true, true, true, true, true, true, true, true, true, true, true, true, true, true, true, true, true, true, true, true, true, true, true, true, true, true, true, true, true, true, true, true, true, true, true, true, true, true, true, true, true, true, true, true, true, true, true, true, false, false, false, false, false, false, false, false] rfl rfl (any_of HT_.out (by kernel_rfl)) (fun _ _ _ h => h) (Or.inl ⟨by rfl, ?_⟩) ?_ ?_
  rotate_left
  · intro w'
    go_simp
    with_reducible rfl
  rotate_left
  · simp only [Act.put, List.setIfInBounds_toArray, List.set_cons_zero, List.set_cons_succ, i64_w, i32_w]
    rfl
  refine pure_ (i := 51) (N := some 77) (v := ?_) (a' := ?_) #[true, true, true, true, true, true, true, true, true, true, true, true, true, true, true, true, true, true, true, true, true, true, true, true, true, true, true, true, true, true, true, true, true, true, true, true, true, true, true, true, true, true, true, true, true, true, true, true, true, true, true, true, false, false, false, false, false, false, false] rfl rfl (any_of HT_.out (by kernel_rfl)) (fun _ _ _ h => h) (Or.inl ⟨by rfl, ?_⟩) ?_ ?_
  rotate_left
  · intro w'
    go_simp
    with_reducible rfl
  rotate_left
  · simp only [Act.put, List.setIfInBounds_toArray, List.set_cons_zero, List.set_cons_succ, i64_w, i32_w]
    rfl
  refine pure_ (i := 52) (N := some 78) (v := ?_) (a' := ?_) #[true, true, true, true, true, true, true, true, true, true, true, true, true, true, true, true, true, true, true, true, true, true, true, true, true, true, true, true, true, true, true, true, true, true, true, true, true, true, true, true, true, true, true, true, true, true, true, true, true, true, true, true, true, false, false, false, false, false, false] rfl rfl (any_of HT_.out (by kernel_rfl)) (fun _ _ _ h => h) (Or.inl ⟨by rfl, ?_⟩) ?_ ?_
  rotate_left
  · intro w'
    go_simp
    with_reducible rfl
  rotate_left
  · simp only [Act.put, List.setIfInBounds_toArray, List.set_cons_zero, List.set_cons_succ, i64_w, i32_w]
    rfl
  refine pure_ (i := 53) (N := some 79) (v := ?_) (a' := ?_) #[true, true, true, true, true, true, true, true, true, true, true, true, true, true, true, true, true, true, true, true, true, true, true, true, true, true, true, true, true, true, true, true, true, true, true, true, true, true, true, true, true, true, true, true, true, true, true, true, true, true, true, true, true, true, false, false, false, false, false] rfl rfl (any_of HT_.out (by kernel_rfl)) (fun _ _ _ h => h) (Or.inl ⟨by rfl, ?_⟩) ?_ ?_
  rotate_left
  · intro w'
    go_simp
    with_reducible rfl
  rotate_left
  · simp only [Act.put, List.setIfInBounds_toArray, List.set_cons_zero, List.set_cons_succ, i64_w, i32_w]
    rfl
  refine pure_ (i := 54) (N := some 80) (v := ?_) (a' := ?_) #[true, true, true, true, true, true, true, true, true, true, true, true, true, true, true, true, true, true, true, true, true, true, true, true, true, true, true, true, true, true, true, true, true, true, true, true, true, true, true, true, true, true, true, true, true, true, true, true, true, true, true, true, true, true, true, false, false, false, false] rfl rfl (any_of HT_.out (by kernel_rfl)) (fun _ _ _ h => h) (Or.inl ⟨by rfl, ?_⟩) ?_ ?_
  rotate_left
  · intro w'
    go_simp
    with_reducible rfl
  rotate_left
  · simp only [Act.put, List.setIfInBounds_toArray, List.set_cons_zero, List.set_cons_succ, i64_w, i32_w]
    rfl
  refine one_ (i := 55) (N := some 81) #[true, true, true, true, true, true, true, true, true, true, true, true, true, true, true, true, true, true, true, true, true, true, true, true, true, true, true, true, true, true, true, true, true, true, true, true, true, true, true, true, true, true, true, true, true, true, true, true, true, true, true, true, true, true, true, true, false, false, false] rfl rfl (one_of HT_.out (by kernel_rfl)) (by decide) (fun K hK => ?_)
  refine goes_ Try.func16 (by kernel_rfl) rfl #[.slice A 3 c, .slice none 0 0] (by rfl) rfl rfl (by (try simp only [List.map_toArray, List.map_cons, List.map_nil]); first | done | rfl) ?_
  refine (order_Same.calls 6 _ _ [rA, rB, rC] _ _ [] _ _ HL.out hLc ⟨rfl, by decide, fun h => absurd h (by decide)⟩ (by decide) same_nil).mono ?_
  rintro e w' ⟨rfl, hb⟩
  refine ⟨_, rfl, ?_⟩
  have n0_ := Aside0.mk (HX.out.below hb)
  have n1_ := Aside0.mk (below_step HB.out hb)
  have m0_ := Aside0.mk (Kd.C_below HL.out hb)
  clear HX HB HL
  have HX := n0_
  have HB := n1_
  have HL := m0_
  clear n0_ n1_ hb m0_
  refine hK.out _ _ HX.out.cells (fun hHeld => ?_)
  clear hK K
  refine norm_ (a' := ?_) ?_ ?_
  rotate_left
  · show Act.put _ (some 81) _ = _
    simp only [Act.put, List.setIfInBounds_toArray, List.set_cons_zero, List.set_cons_succ, i64_w, i32_w]
    rfl
  refine pure_ (i := 56) (N := some 82) (v := ?_) (a' := ?_) #[true, true, true, true, true, true, true, true, true, true, true, true, true, true, true, true, true, true, true, true, true, true, true, true, true, true, true, true, true, true, true, true, true, true, true, true, true, true, true, true, true, true, true, true, true, true, true, true, true, true, true, true, true, true, true, true, true, false, false] rfl rfl (any_of HT_.out (by kernel_rfl)) (fun _ _ _ h => h) (Or.inl ⟨by rfl, ?_⟩) ?_ ?_
  rotate_left
  · intro w'
    go_simp
    with_reducible rfl
  rotate_left
  · simp only [Act.put, List.setIfInBounds_toArray, List.set_cons_zero, List.set_cons_succ, i64_w, i32_w]
    rfl
  refine pure_ (i := 57) (N := some 83) (v := ?_) (a' := ?_) #[true, true, true, true, true, true, true, true, true, true, true, true, true, true, true, true, true, true, true, true, true, true, true, true, true, true, true, true, true, true, true, true, true, true, true, true, true, true, true, true, true, true, true, true, true, true, true, true, true, true, true, true, true, true, true, true, true, true, false] rfl rfl (any_of HT_.out (by kernel_rfl)) (fun _ _ _ h => h) (Or.inl ⟨by rfl, ?_⟩) ?_ ?_
  rotate_left
  · intro w'
    go_simp
    with_reducible rfl
  rotate_left
  · simp only [Act.put, List.setIfInBounds_toArray, List.set_cons_zero, List.set_cons_succ, i64_w, i32_w]
    rfl
  refine pure_ (i := 58) (N := some 0) (v := ?_) (a' := ?_) #[true, true, true, true, true, true, true, true, true, true, true, true, true, true, true, true, true, true, true, true, true, true, true, true, true, true, true, true, true, true, true, true, true, true, true, true, true, true, true, true, true, true, true, true, true, true, true, true, true, true, true, true, true, true, true, true, true, true, true] rfl rfl (any_of HT_.out (by kernel_rfl)) (fun _ _ _ h => h) (Or.inl ⟨by rfl, ?_⟩) ?_ ?_
  rotate_left
  · intro w'
    go_simp
    with_reducible rfl
  rotate_left
  · simp only [Act.put, List.setIfInBounds_toArray, List.set_cons_zero, List.set_cons_succ, i64_w, i32_w]
    rfl
  refine done_ (done_of HT_.out (by kernel_rfl)) ?_
  go_wp2
  go_ret
  exact ⟨rfl, HB.out⟩
end Go.Proofs.Ytladdncfhjjppaa.PA