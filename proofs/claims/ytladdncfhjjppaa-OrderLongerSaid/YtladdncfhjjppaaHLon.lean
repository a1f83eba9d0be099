import Derived.Test.YtladdncfhjjppaaHOne
import Derived.Test.YtladdncfhjjppaaHPur
import Derived.Test.YtladdncfhjjppaaHOpn
import Derived.OpenShut
import Derived.ProofKit
namespace Go.Proofs.Ytladdncfhjjppaa.PA
open Go.RowKit Go.ChangeShapes Go.WideShapes Go.ChangeAt Go.Proofs.YtladdncfhjjppaaW.PrintWords Go.Proofs.YtladdncfhjjppaaW.PrintLast Go.Proofs.YtladdncfhjjppaaW.PrintMore
set_option linter.unusedVariables false
set_option linter.unusedSimpArgs false

def longer.T4 : Bool × List (List Nat × List Nat) := (true, [([], []), ([], []), ([1], [1]), ([0, 2], [0, 2]), ([], []), ([3, 4, 3], [3, 4]), ([], []), ([6], [6]), ([], []), ([7, 8], [7, 8]), ([5, 9], [5, 9]), ([], []), ([11, 10, 5, 0, 1, 2, 3, 4, 5, 6, 7, 8, 9, 10, 11], [10, 11])])
def longer.B4 : List Nat := [0, 0, 2, 7, 0, 31, 0, 64, 0, 448, 1023, 0, 4095]
theorem longer.tab4 : rtab .any (opsOf Try.f7 4) = longer.T4 := by kernel_rfl
theorem longer.bits4 : waitsOk longer.T4.2 longer.B4 = true := by kernel_rfl
def longer.T6 : Bool × List (List Nat × List Nat) := (true, [([], []), ([0], [0]), ([1], [1]), ([1], [1]), ([2, 3, 1, 1], [1, 2, 3]), ([1], [1]), ([5, 1], [1, 5]), ([4, 6, 1], [1, 4, 6]), ([1, 7], [1, 7]), ([8, 4], [8]), ([9], [9]), ([9], [9]), ([10, 11, 9, 9], [9, 10, 11]), ([12, 9], [9, 12]), ([9, 13], [9, 13]), ([14, 12], [14]), ([15], [15]), ([15], [15]), ([16, 17, 15], [15, 16, 17]), ([18, 15, 15], [15, 18]), ([19, 15], [15, 19]), ([15], [15]), ([15], [15]), ([21, 22, 15], [15, 21, 22]), ([23, 19, 15], [15, 23]), ([24, 15], [15, 24]), ([20, 25, 15], [15, 20, 25]), ([15, 26], [15, 26]), ([27, 24], [27]), ([28], [28]), ([28], [28]), ([29, 30, 28], [28, 29, 30]), ([31, 28, 28], [28, 31]), ([32, 28], [28, 32]), ([33, 28], [28, 33]), ([28], [28]), ([34, 35, 28], [28, 34, 35]), ([28, 36], [28, 36]), ([37, 32, 0, 1, 2, 3, 4, 5, 6, 7, 8, 9, 10, 11, 12, 13, 14, 15, 16, 17, 18, 19, 20, 21, 22, 23, 24, 25, 26, 27, 28, 29, 30, 31, 32, 33, 34, 35, 36, 37], [37])])
def longer.B6 : List Nat := [0, 1, 3, 3, 15, 3, 35, 127, 255, 511, 1023, 1023, 4095, 8191, 16383, 32767, 65535, 65535, 262143, 524287, 1048575, 65535, 65535, 6356991, 15728639, 32505855, 67108863, 134217727, 268435455, 536870911, 536870911, 2147483647, 4294967295, 8589934591, 17179869183, 536870911, 68719476735, 137438953471, 274877906943]
theorem longer.tab6 : rtab .any (opsOf Try.f7 6) = longer.T6 := by kernel_rfl
theorem longer.bits6 : waitsOk longer.T6.2 longer.B6 = true := by kernel_rfl

theorem blk_grown {W W1 : World} {u : Option Nat} {g : Nat} {o : Obj} (h : W.heap[g]? = some o) (hg : W.grownBy W1 u) (hne : some g ≠ u) : W1.heap[g]? = some o := (hg.block g (blk_lt h) (fun e => hne (by first | exact e | exact e.symm))).trans h
theorem pair_sort (a b : S25) : (sortR [a, b]).length = if cmpR b a = 0 then 1 else 2 := by
  show (ins b (ins a [])).length = _
  show (if cmpR b a < 0 then b :: a :: [] else if cmpR b a = 0 then [a] else a :: ins b []).length = _
  by_cases h1 : cmpR b a < 0
  · rw [if_pos h1, if_neg (by omega)]; rfl
  · rw [if_neg h1]
    by_cases h2 : cmpR b a = 0
    · rw [if_pos h2, if_pos h2]; rfl
    · rw [if_neg h2, if_neg h2]; rfl
theorem less_is {A0 A1 : Option Addr} {c0 c1 : Nat} (x y : S25) (b : Bool) (w : World) (h0 : Kd.C k34 w A0 x.f0.length x.f0) (i0 : x.f0.length ≤ c0) (h1 : Kd.C k34 w A1 y.f0.length y.f0) (i1 : y.f0.length ≤ c1) (hx : x.f0.length < 17592186044416) (hy : y.f0.length < 17592186044416) (hb : decide (cmpR x y < 0) = b) :
    Calls Try.prog 19 #[.agg #[.slice A0 x.f0.length c0, .int .i64 x.f1], .agg #[.slice A1 y.f0.length c1, .int .i64 y.f1]] w fun e w' => e = .returned (.bool b) ∧ Below w.heap.size w w' := by
  subst hb
  exact less_any x y w h0 i0 h1 i1 hx hy
theorem sort_len {A0 : Option Addr} {c0 : Nat} (l : List S25) (n : Nat) (w : World) (hr : Kd.C k25 w A0 l.length l) (hc : l.length ≤ c0) (hok : okR l = true) (hn : (sortR l).length = n) :
    Calls Try.prog 11 #[.slice A0 l.length c0] w fun e w' => ∃ A c, e = .returned (.slice A n c) ∧ Below w.heap.size w w' := by
  subst hn
  refine (sort_any A0 c0 l w hr hc hok).mono ?_
  rintro e w' ⟨v, rfl, hS, hb⟩
  obtain ⟨A, c, rfl⟩ := Kd.S_slice hS
  exact ⟨A, c, rfl, hb⟩
/-- The longer route. -/
def lon (x : S25) (m : List S34) (L : Int) : S25 := ⟨x.f0 ++ m, x.f1 + L⟩
theorem lon_less (x : S25) (m : List S34) (L : Int) (h0 : 0 ≤ L) (h : ¬ (L = 0 ∧ m = [])) : cmpR x (lon x m L) = -1 := by
  unfold cmpR lon
  by_cases hL : L = 0
  · have hm : m ≠ [] := fun e => h ⟨hL, e⟩
    have hl : 0 < m.length := List.length_pos_iff.2 hm
    have e1 : c3 x.f1 (x.f1 + L) = 0 := (c3_zero _ _).2 (by omega)
    have e2 : c3 (x.f0.length : Int) ((x.f0 ++ m).length : Int) = -1 := by
      unfold c3
      rw [if_pos (by rw [List.length_append]; omega)]
    simp only [e1, e2]
    rfl
  · have e1 : c3 x.f1 (x.f1 + L) = -1 := by
      unfold c3
      rw [if_pos (by omega)]
    simp only [e1]
    rfl
theorem lon_same (x : S25) : cmpR x (lon x [] 0) = 0 := by
  unfold lon
  rw [List.append_nil, Int.add_zero]
  exact cmpR_refl x

theorem lit_sx {W : World} {A0 A3 : Option Addr} {c0 c3 : Nat} (x s : S25) (h0 : Kd.C k34 W A0 x.f0.length x.f0) (i0 : x.f0.length ≤ c0) (h3 : Kd.C k34 W A3 s.f0.length s.f0) (i3 : s.f0.length ≤ c3) :
    Kd.C k25 (W.alloc (.cells #[.slice A3 s.f0.length c3, .int .i64 s.f1, .slice A0 x.f0.length c0, .int .i64 x.f1] 25)) (some ⟨W.heap.size, 0, none⟩) 2 [s, x] := C25_of [s, x] (blk_new W _) (by simp) (fun j p hj => by
  have h0 := Kd.C_alloc h0 (.cells #[.slice A3 s.f0.length c3, .int .i64 s.f1, .slice A0 x.f0.length c0, .int .i64 x.f1] 25)
  have h3 := Kd.C_alloc h3 (.cells #[.slice A3 s.f0.length c3, .int .i64 s.f1, .slice A0 x.f0.length c0, .int .i64 x.f1] 25)
  match j, hj with
  | 0, hj => simp at hj; subst hj; exact ⟨_, _, rfl, rfl, i3, h3⟩
  | 1, hj => simp at hj; subst hj; exact ⟨_, _, rfl, rfl, i0, h0⟩
  | j + 2, hj => simp at hj)
theorem lit_xs {W : World} {A0 A3 : Option Addr} {c0 c3 : Nat} (x s : S25) (h0 : Kd.C k34 W A0 x.f0.length x.f0) (i0 : x.f0.length ≤ c0) (h3 : Kd.C k34 W A3 s.f0.length s.f0) (i3 : s.f0.length ≤ c3) :
    Kd.C k25 (W.alloc (.cells #[.slice A0 x.f0.length c0, .int .i64 x.f1, .slice A3 s.f0.length c3, .int .i64 s.f1] 25)) (some ⟨W.heap.size, 0, none⟩) 2 [x, s] := C25_of [x, s] (blk_new W _) (by simp) (fun j p hj => by
  have h0 := Kd.C_alloc h0 (.cells #[.slice A0 x.f0.length c0, .int .i64 x.f1, .slice A3 s.f0.length c3, .int .i64 s.f1] 25)
  have h3 := Kd.C_alloc h3 (.cells #[.slice A0 x.f0.length c0, .int .i64 x.f1, .slice A3 s.f0.length c3, .int .i64 s.f1] 25)
  match j, hj with
  | 0, hj => simp at hj; subst hj; exact ⟨_, _, rfl, rfl, i0, h0⟩
  | 1, hj => simp at hj; subst hj; exact ⟨_, _, rfl, rfl, i3, h3⟩
  | j + 2, hj => simp at hj)

set_option maxHeartbeats 8000000 in
set_option maxRecDepth 100000 in
theorem longer_any (A0 A1 : Option Addr) (c0 c1 : Nat) (x : S25) (m : List S34) (L : Int) (w : World) (h0 : Kd.C k34 w A0 x.f0.length x.f0) (i0 : x.f0.length ≤ c0) (gx : g25 x) (h1 : Kd.C k34 w A1 m.length m) (i1 : m.length ≤ c1) (wL : (Lit.int .i64 L).wf = true) :
    Calls Try.prog 7 #[.agg #[.slice A0 x.f0.length c0, .int .i64 x.f1], .slice A1 m.length c1, .int .i64 L] w fun e w' => e = .returned (.bool true) ∧ Below w.heap.size w w' := by
  have H0 := Aside0.mk h0
  have H1 := Aside0.mk h1
  have hrx : -9223372036854775808 ≤ x.f1 := by
    have := gx.2
    exact (bounds_i64 this).1
  clear h0 h1 gx wL
  go_enter Try.func7, Try.ntmps7
  go_wp2_with fail
  have hb : Below w.heap.size w (w.alloc (.cells #[.slice A0 x.f0.length c0, .int .i64 x.f1] 25)) := below_alloc (Below.refl _ _) _
  have br : (w.alloc (.cells #[.slice A0 x.f0.length c0, .int .i64 x.f1] 25)).heap[w.heap.size]? = some (.cells #[.slice A0 x.f0.length c0, .int .i64 x.f1] 25 (0, 0)) := blk_new _ _
  generalize w.alloc _ = W at hb br ⊢
  have HB := Aside0.mk hb
  have BR := Aside0.mk br
  clear hb br
  refine (small_any _).mono ?_
  rintro e w' ⟨rfl, hb⟩
  have n0_ := Aside0.mk (below_step HB.out hb)
  have n1_ := Aside0.mk (blk_below BR.out hb)
  clear HB BR hb W
  have HB := n0_
  have BR := n1_
  clear n0_ n1_
  have x0 := blk_cell BR.out 0
  have x1 := blk_cell BR.out 1
  simp only [List.getElem?_toArray, List.getElem?_cons_zero, List.getElem?_cons_succ] at x0 x1

  by_cases px : (x.f0.length : Int) > 50
  · have dpx : decide ((x.f0.length : Int) > 50) = true := decide_eq_true px
    go_wp2_with fail
    go_ret
    exact ⟨rfl, HB.out⟩
  have dpx : decide ((x.f0.length : Int) > 50) = false := decide_eq_false px
  by_cases pm : (m.length : Int) > 50
  · have dpm : decide ((m.length : Int) > 50) = true := decide_eq_true pm
    go_wp2_with fail
    go_ret
    exact ⟨rfl, HB.out⟩
  have dpm : decide ((m.length : Int) > 50) = false := decide_eq_false pm
  by_cases pl : L < 0
  · have dpl : decide (L < 0) = true := decide_eq_true pl
    go_wp2_with fail
    go_ret
    exact ⟨rfl, HB.out⟩
  have dpl : decide (L < 0) = false := decide_eq_false pl
  by_cases pr : x.f1 > 1152921504606846976
  · have dpr : decide (x.f1 > 1152921504606846976) = true := decide_eq_true pr
    go_wp2_with fail
    go_ret
    exact ⟨rfl, HB.out⟩
  have dpr : decide (x.f1 > 1152921504606846976) = false := decide_eq_false pr
  by_cases pn : L > 1152921504606846976
  · have dpn : decide (L > 1152921504606846976) = true := decide_eq_true pn
    go_wp2_with fail
    go_ret
    exact ⟨rfl, HB.out⟩
  have dpn : decide (L > 1152921504606846976) = false := decide_eq_false pn
  obtain ⟨s, hs⟩ : ∃ s, s = lon x m L := ⟨_, rfl⟩
  have hs0 : s.f0 = x.f0 ++ m := by rw [hs]; rfl
  have hs1 : s.f1 = x.f1 + L := by rw [hs]; rfl
  have hsl : s.f0.length = x.f0.length + m.length := by rw [hs0, List.length_append]
  have hsum : IntKind.i64.wrap (x.f1 + L) = s.f1 := by rw [hs1, IntKind.wrap_i64]; omega
  have HS := Aside0.mk hs
  have HS0 := Aside0.mk hs0
  have HSL := Aside0.mk hsl
  clear hs hs0 hs1 hsl
  go_wp2_with fail
  have n0_ := Aside0.mk (below_drew1 HB.out)
  have n1_ := Aside0.mk (blk_drew BR.out)
  clear HB BR x0 x1
  have HB := n0_
  have BR := n1_
  clear n0_ n1_
  refine start_ (n := 13) (S := fun w' => w'.cell? ⟨w.heap.size, 0, none⟩ = some (.slice A0 x.f0.length c0) ∧ w'.cell? ⟨w.heap.size, 1, none⟩ = some (.int .i64 x.f1)) (ds := []) #[false, false, false, false, false, false, false, false, false, false, false, false, false] (by kernel_rfl) rfl rfl ⟨(blk_cell BR.out 0).trans rfl, (blk_cell BR.out 1).trans rfl⟩ (fun hHeld => ?_); refine with_tabW longer.tab4 longer.bits4 (fun HT_ HW_ => ?_)
  generalize World.drew _ = w1 at BR HB hHeld ⊢
  refine pure_ (i := 1) (N := some 35) (v := ?_) (a' := ?_) #[false, true, false, false, false, false, false, false, false, false, false, false, false] rfl rfl (any_of HT_.out (by kernel_rfl)) (fun _ _ _ h => h) (Or.inl ⟨by rfl, ?_⟩) ?_ ?_
  rotate_left
  · intro w'
    go_simp
    with_reducible rfl
  rotate_left
  · simp only [Act.put, List.setIfInBounds_toArray, List.set_cons_zero, List.set_cons_succ, i64_w, i32_w]
    rfl
  refine take_ (i := 2) (N := some 36) (v := ?_) (a' := ?_) #[false, true, true, false, false, false, false, false, false, false, false, false, false] rfl rfl (take_ofW HT_.out HW_.out (by kernel_rfl)) (fun _ _ _ h => h) (Or.inl ⟨by rfl, ?_⟩) hHeld ?_ ?_
  rotate_left
  · rintro w' ⟨s0, s1⟩
    go_simp
    with_reducible rfl
  rotate_left
  · simp only [Act.put, List.setIfInBounds_toArray, List.set_cons_zero, List.set_cons_succ, i64_w, i32_w]
    rfl
  refine pure_ (i := 4) (N := some 38) (v := ?_) (a' := ?_) #[false, true, true, false, true, false, false, false, false, false, false, false, false] rfl rfl (any_of HT_.out (by kernel_rfl)) (fun _ _ _ h => h) (Or.inl ⟨by rfl, ?_⟩) ?_ ?_
  rotate_left
  · intro w'
    go_simp
    with_reducible rfl
  rotate_left
  · simp only [Act.put, List.setIfInBounds_toArray, List.set_cons_zero, List.set_cons_succ, i64_w, i32_w]
    rfl
  refine pure_ (i := 6) (N := some 40) (v := ?_) (a' := ?_) #[false, true, true, false, true, false, true, false, false, false, false, false, false] rfl rfl (any_of HT_.out (by kernel_rfl)) (fun _ _ _ h => h) (Or.inl ⟨by rfl, ?_⟩) ?_ ?_
  rotate_left
  · intro w'
    go_simp
    with_reducible rfl
  rotate_left
  · simp only [Act.put, List.setIfInBounds_toArray, List.set_cons_zero, List.set_cons_succ, i64_w, i32_w]
    rfl
  refine take_ (i := 7) (N := some 41) (v := ?_) (a' := ?_) #[false, true, true, false, true, false, true, true, false, false, false, false, false] rfl rfl (take_ofW HT_.out HW_.out (by kernel_rfl)) (fun _ _ _ h => h) (Or.inl ⟨by rfl, ?_⟩) hHeld ?_ ?_
  rotate_left
  · rintro w' ⟨s0, s1⟩
    go_simp
    with_reducible rfl
  rotate_left
  · simp only [Act.put, List.setIfInBounds_toArray, List.set_cons_zero, List.set_cons_succ, i64_w, i32_w]
    rfl
  refine pure_ (i := 8) (N := some 42) (v := ?_) (a' := ?_) #[false, true, true, false, true, false, true, true, true, false, false, false, false] rfl rfl (any_of HT_.out (by kernel_rfl)) (fun _ _ _ h => h) (Or.inl ⟨by rfl, ?_⟩) ?_ ?_
  rotate_left
  · intro w'
    go_simp
    with_reducible rfl
  rotate_left
  · simp only [Act.put, List.setIfInBounds_toArray, List.set_cons_zero, List.set_cons_succ, i64_w, i32_w]
    rfl
  refine pure_ (i := 9) (N := some 43) (v := ?_) (a' := ?_) #[false, true, true, false, true, false, true, true, true, true, false, false, false] rfl rfl (any_of HT_.out (by kernel_rfl)) (fun _ _ _ h => h) (Or.inl ⟨by rfl, ?_⟩) ?_ ?_
  rotate_left
  · intro w'
    go_simp
    with_reducible rfl
  rotate_left
  · simp only [Act.put, List.setIfInBounds_toArray, List.set_cons_zero, List.set_cons_succ, i64_w, i32_w]
    rfl
  refine join_ (σ := Value × Value × Value × Nat × Value) 1 #[true, true, true, true, true, true, true, true, true, true, true, true, false] (fun s_ => [(34, s_.1), (37, s_.2.1), (39, s_.2.2.1), (8, .pointer (some ⟨s_.2.2.2.1, 0, none⟩)), (44, s_.2.2.2.2)]) (fun s_ w' => Below w.heap.size w w' ∧ w'.heap[w.heap.size]? = some (.cells #[.slice A0 x.f0.length c0, .int .i64 x.f1] 25 (0, 0)) ∧ w'.heap[s_.2.2.2.1]? = some (.cells #[.slice none 0 0, .int .i64 0] 25 (0, 0)) ∧ w.heap.size < s_.2.2.2.1 ∧ Kd.R k34 34 w' w.heap.size (fun _ => True) s_.2.2.1 s.f0 ∧ s_.2.2.2.2 = .agg #[s_.2.2.1, .int .i64 s.f1]) ?_ ?_
  rotate_left
  · intro hCont
    refine two_ (i := 0) (j := 11) (Ni := some 34) (Nj := some 8) #[true, true, true, false, true, false, true, true, true, true, false, false, false] #[false, true, true, false, true, false, true, true, true, true, false, true, false] rfl rfl rfl rfl (two_of HT_.out (by kernel_rfl)) (by decide) (by decide) (fun K hK => ?_) (fun K hK => ?_)
    · skip
      refine Kd.R_lit_step k34 (w0 := w) w.heap.size 34 ?hg (N := 34) ?hd (xs := ([] : List S34)) (inner := []) (ok := fun _ => True) (okp := fun _ => True) ?hr ?hp (fun _ hk => hk) trivial HB.out HB.out.size (by simp) ?_
      case hd => rfl
      case hg => rfl
      case hr => first | (go_simp; done) | (go_simp; rfl)
      case hp => exact Reps.none _ _
      intro v34 w1 ho hb hg hnew
      have n0_ := Aside0.mk (hb)
      have n1_ := Aside0.mk (ho)
      have n2_ := Aside0.mk (blk_grown BR.out hg (by simp))
      clear HB BR
      have HB := n0_
      have HO := n1_
      have BR := n2_
      clear n0_ n1_ n2_
      clear ho hb hg hnew
      refine hK.out _ _ ⟨(blk_cell BR.out 0).trans rfl, (blk_cell BR.out 1).trans rfl⟩ (fun hHeld => ?_)
      clear hK K
      refine norm_ (a' := ?_) ?_ ?_
      rotate_left
      · show Act.put _ (some 34) _ = _
        simp only [Act.put, List.setIfInBounds_toArray, List.set_cons_zero, List.set_cons_succ, i64_w, i32_w]
        rfl
      refine two_ (i := 3) (j := 11) (Ni := some 37) (Nj := some 8) #[true, true, true, true, true, false, true, true, true, true, false, false, false] #[true, true, true, false, true, false, true, true, true, true, false, true, false] rfl rfl rfl rfl (two_of HT_.out (by kernel_rfl)) (by decide) (by decide) (fun K hK => ?_) (fun K hK => ?_)
      · skip
        refine Kd.R_append_rows_step k34 (Rr := k34.K w1) (w0 := w) w.heap.size (by rfl) (.tmp 34) (.tmp 36) 23 34 (.agg #[(.int .i64 0), (.int .i64 0), (.int .i64 0)]) 24 rfl Try.underlying23 info34 rfl (by decide) (by omega) v34 ([]) (x.f0) A0 x.f0.length c0 (fun _ => True) (fun _ => False) rfl rfl ?aO ?aR (fun x_ cs_ h => h34 (W := w1) x_ cs_ h) (fun _ h => h.elim) (fun _ _ => trivial) ?aB ?aS ?aL ?_
        case aO => exact HO.out
        case aR => exact Kd.C_below H0.out HB.out
        case aB => exact HB.out
        case aS => exact HB.out.size
        case aL => simp; omega
        intro v37 w1 ho hb hg hat
        have n0_ := Aside0.mk (blk_grown BR.out hg (Kd.R_ne HO.out BR.out (by decide)))
        have n1_ := Aside0.mk (hb)
        have n2_ := Aside0.mk (ho)
        clear BR HB HO
        have BR := n0_
        have HB := n1_
        have HO := n2_
        clear n0_ n1_ n2_
        clear ho hb hg hat
        refine hK.out _ _ ⟨(blk_cell BR.out 0).trans rfl, (blk_cell BR.out 1).trans rfl⟩ (fun hHeld => ?_)
        clear hK K
        refine norm_ (a' := ?_) ?_ ?_
        rotate_left
        · show Act.put _ (some 37) _ = _
          simp only [Act.put, List.setIfInBounds_toArray, List.set_cons_zero, List.set_cons_succ, i64_w, i32_w]
          rfl
        refine two_ (i := 5) (j := 11) (Ni := some 39) (Nj := some 8) #[true, true, true, true, true, true, true, true, true, true, false, false, false] #[true, true, true, true, true, false, true, true, true, true, false, true, false] rfl rfl rfl rfl (two_of HT_.out (by kernel_rfl)) (by decide) (by decide) (fun K hK => ?_) (fun K hK => ?_)
        · skip
          refine Kd.R_append_rows_step k34 (Rr := k34.K w1) (w0 := w) w.heap.size (by rfl) (.tmp 37) (.tmp 38) 23 34 (.agg #[(.int .i64 0), (.int .i64 0), (.int .i64 0)]) 24 rfl Try.underlying23 info34 rfl (by decide) (by omega) v37 ([] ++ x.f0) (m) A1 m.length c1 (fun _ => True) (fun _ => False) rfl rfl ?aO ?aR (fun x_ cs_ h => h34 (W := w1) x_ cs_ h) (fun _ h => h.elim) (fun _ _ => trivial) ?aB ?aS ?aL ?_
          case aO => exact HO.out
          case aR => exact Kd.C_below H1.out HB.out
          case aB => exact HB.out
          case aS => exact HB.out.size
          case aL => simp; omega
          intro v39 w1 ho hb hg hat
          have n0_ := Aside0.mk (blk_grown BR.out hg (Kd.R_ne HO.out BR.out (by decide)))
          have n1_ := Aside0.mk (hb)
          have n2_ := Aside0.mk (ho)
          clear BR HB HO
          have BR := n0_
          have HB := n1_
          have HO := n2_
          clear n0_ n1_ n2_
          clear ho hb hg hat
          have HO := Aside0.mk (show Kd.R k34 34 _ w.heap.size (fun _ => True) _ s.f0 from by rw [HS0.out]; exact HO.out)
          obtain ⟨A39, c39, e39⟩ := Kd.R_slice HO.out
          subst e39
          refine hK.out _ _ ⟨(blk_cell BR.out 0).trans rfl, (blk_cell BR.out 1).trans rfl⟩ (fun hHeld => ?_)
          clear hK K
          refine norm_ (a' := ?_) ?_ ?_
          rotate_left
          · show Act.put _ (some 39) _ = _
            simp only [Act.put, List.setIfInBounds_toArray, List.set_cons_zero, List.set_cons_succ, i64_w, i32_w]
            rfl
          refine pure_ (i := 10) (N := some 44) (v := ?_) (a' := ?_) #[true, true, true, true, true, true, true, true, true, true, true, false, false] rfl rfl (any_of HT_.out (by kernel_rfl)) (fun _ _ _ h => h) (Or.inl ⟨by rfl, ?_⟩) ?_ ?_
          rotate_left
          · intro w'
            go_simp
            with_reducible rfl
          rotate_left
          · simp only [Act.put, List.setIfInBounds_toArray, List.set_cons_zero, List.set_cons_succ, i64_w, i32_w]
            rfl
          refine one_ (i := 11) (N := some 8) #[true, true, true, true, true, true, true, true, true, true, true, true, false] rfl rfl (one_of HT_.out (by kernel_rfl)) (by decide) (fun K hK => ?_)
          rw [if_pos (by rfl)]
          go_simp
          have n0_ := Aside0.mk (blk_alloc BR.out (.cells #[.slice none 0 0, .int .i64 0] 25))
          have n1_ := Aside0.mk (blk_new w1 (.cells #[.slice none 0 0, .int .i64 0] 25))
          have n2_ := Aside0.mk (blk_lt BR.out)
          have n3_ := Aside0.mk (below_alloc HB.out (.cells #[.slice none 0 0, .int .i64 0] 25))
          have n4_ := Aside0.mk (Kd.R_alloc HO.out (.cells #[.slice none 0 0, .int .i64 0] 25))
          clear BR HB HO
          have BR := n0_
          have B8 := n1_
          have HB8 := n2_
          have HB := n3_
          have HO := n4_
          clear n0_ n1_ n2_ n3_ n4_
          generalize w1.heap.size = b8 at B8 HB8 ⊢
          generalize w1.alloc _ = w1 at BR B8 HB HO ⊢
          refine hK.out _ _ ⟨(blk_cell BR.out 0).trans rfl, (blk_cell BR.out 1).trans rfl⟩ (fun hHeld => ?_)
          clear hK K
          exact norm_ (by first | (simp only [putAll, Act.put, List.setIfInBounds_toArray, List.set_cons_zero, List.set_cons_succ]; done) | (simp only [putAll, Act.put, List.setIfInBounds_toArray, List.set_cons_zero, List.set_cons_succ]; rfl)) (hCont (v34, v37, .slice A39 s.f0.length c39, b8, .agg #[.slice A39 s.f0.length c39, .int .i64 s.f1]) _ ⟨HB.out, BR.out, B8.out, HB8.out, HO.out, rfl⟩)
        · skip
          rw [if_pos (by rfl)]
          go_simp
          have n0_ := Aside0.mk (blk_alloc BR.out (.cells #[.slice none 0 0, .int .i64 0] 25))
          have n1_ := Aside0.mk (blk_new w1 (.cells #[.slice none 0 0, .int .i64 0] 25))
          have n2_ := Aside0.mk (blk_lt BR.out)
          have n3_ := Aside0.mk (below_alloc HB.out (.cells #[.slice none 0 0, .int .i64 0] 25))
          have n4_ := Aside0.mk (Kd.R_alloc HO.out (.cells #[.slice none 0 0, .int .i64 0] 25))
          clear BR HB HO
          have BR := n0_
          have B8 := n1_
          have HB8 := n2_
          have HB := n3_
          have HO := n4_
          clear n0_ n1_ n2_ n3_ n4_
          generalize w1.heap.size = b8 at B8 HB8 ⊢
          generalize w1.alloc _ = w1 at BR B8 HB HO ⊢
          refine hK.out _ _ ⟨(blk_cell BR.out 0).trans rfl, (blk_cell BR.out 1).trans rfl⟩ (fun hHeld => ?_)
          clear hK K
          refine one_ (i := 5) (N := some 39) #[true, true, true, true, true, true, true, true, true, true, false, true, false] rfl rfl (one_of HT_.out (by kernel_rfl)) (by decide) (fun K hK => ?_)
          refine Kd.R_append_rows_step k34 (Rr := k34.K w1) (w0 := w) w.heap.size (by rfl) (.tmp 37) (.tmp 38) 23 34 (.agg #[(.int .i64 0), (.int .i64 0), (.int .i64 0)]) 24 rfl Try.underlying23 info34 rfl (by decide) (by omega) v37 ([] ++ x.f0) (m) A1 m.length c1 (fun _ => True) (fun _ => False) rfl rfl ?aO ?aR (fun x_ cs_ h => h34 (W := w1) x_ cs_ h) (fun _ h => h.elim) (fun _ _ => trivial) ?aB ?aS ?aL ?_
          case aO => exact HO.out
          case aR => exact Kd.C_below H1.out HB.out
          case aB => exact HB.out
          case aS => exact HB.out.size
          case aL => simp; omega
          intro v39 w1 ho hb hg hat
          have n0_ := Aside0.mk (blk_grown BR.out hg (Kd.R_ne HO.out BR.out (by decide)))
          have n1_ := Aside0.mk (blk_grown B8.out hg (Kd.R_ne HO.out B8.out (by decide)))
          have n2_ := Aside0.mk (hb)
          have n3_ := Aside0.mk (ho)
          clear BR B8 HB HO
          have BR := n0_
          have B8 := n1_
          have HB := n2_
          have HO := n3_
          clear n0_ n1_ n2_ n3_
          clear ho hb hg hat
          have HO := Aside0.mk (show Kd.R k34 34 _ w.heap.size (fun _ => True) _ s.f0 from by rw [HS0.out]; exact HO.out)
          obtain ⟨A39, c39, e39⟩ := Kd.R_slice HO.out
          subst e39
          refine hK.out _ _ ⟨(blk_cell BR.out 0).trans rfl, (blk_cell BR.out 1).trans rfl⟩ (fun hHeld => ?_)
          clear hK K
          refine norm_ (a' := ?_) ?_ ?_
          rotate_left
          · show Act.put _ (some 39) _ = _
            simp only [Act.put, List.setIfInBounds_toArray, List.set_cons_zero, List.set_cons_succ, i64_w, i32_w]
            rfl
          refine pure_ (i := 10) (N := some 44) (v := ?_) (a' := ?_) #[true, true, true, true, true, true, true, true, true, true, true, true, false] rfl rfl (any_of HT_.out (by kernel_rfl)) (fun _ _ _ h => h) (Or.inl ⟨by rfl, ?_⟩) ?_ ?_
          rotate_left
          · intro w'
            go_simp
            with_reducible rfl
          rotate_left
          · simp only [Act.put, List.setIfInBounds_toArray, List.set_cons_zero, List.set_cons_succ, i64_w, i32_w]
            rfl
          exact norm_ (by first | (simp only [putAll, Act.put, List.setIfInBounds_toArray, List.set_cons_zero, List.set_cons_succ]; done) | (simp only [putAll, Act.put, List.setIfInBounds_toArray, List.set_cons_zero, List.set_cons_succ]; rfl)) (hCont (v34, v37, .slice A39 s.f0.length c39, b8, .agg #[.slice A39 s.f0.length c39, .int .i64 s.f1]) _ ⟨HB.out, BR.out, B8.out, HB8.out, HO.out, rfl⟩)
      · skip
        rw [if_pos (by rfl)]
        go_simp
        have n0_ := Aside0.mk (blk_alloc BR.out (.cells #[.slice none 0 0, .int .i64 0] 25))
        have n1_ := Aside0.mk (blk_new w1 (.cells #[.slice none 0 0, .int .i64 0] 25))
        have n2_ := Aside0.mk (blk_lt BR.out)
        have n3_ := Aside0.mk (below_alloc HB.out (.cells #[.slice none 0 0, .int .i64 0] 25))
        have n4_ := Aside0.mk (Kd.R_alloc HO.out (.cells #[.slice none 0 0, .int .i64 0] 25))
        clear BR HB HO
        have BR := n0_
        have B8 := n1_
        have HB8 := n2_
        have HB := n3_
        have HO := n4_
        clear n0_ n1_ n2_ n3_ n4_
        generalize w1.heap.size = b8 at B8 HB8 ⊢
        generalize w1.alloc _ = w1 at BR B8 HB HO ⊢
        refine hK.out _ _ ⟨(blk_cell BR.out 0).trans rfl, (blk_cell BR.out 1).trans rfl⟩ (fun hHeld => ?_)
        clear hK K
        refine one_ (i := 3) (N := some 37) #[true, true, true, true, true, false, true, true, true, true, false, true, false] rfl rfl (one_of HT_.out (by kernel_rfl)) (by decide) (fun K hK => ?_)
        refine Kd.R_append_rows_step k34 (Rr := k34.K w1) (w0 := w) w.heap.size (by rfl) (.tmp 34) (.tmp 36) 23 34 (.agg #[(.int .i64 0), (.int .i64 0), (.int .i64 0)]) 24 rfl Try.underlying23 info34 rfl (by decide) (by omega) v34 ([]) (x.f0) A0 x.f0.length c0 (fun _ => True) (fun _ => False) rfl rfl ?aO ?aR (fun x_ cs_ h => h34 (W := w1) x_ cs_ h) (fun _ h => h.elim) (fun _ _ => trivial) ?aB ?aS ?aL ?_
        case aO => exact HO.out
        case aR => exact Kd.C_below H0.out HB.out
        case aB => exact HB.out
        case aS => exact HB.out.size
        case aL => simp; omega
        intro v37 w1 ho hb hg hat
        have n0_ := Aside0.mk (blk_grown BR.out hg (Kd.R_ne HO.out BR.out (by decide)))
        have n1_ := Aside0.mk (blk_grown B8.out hg (Kd.R_ne HO.out B8.out (by decide)))
        have n2_ := Aside0.mk (hb)
        have n3_ := Aside0.mk (ho)
        clear BR B8 HB HO
        have BR := n0_
        have B8 := n1_
        have HB := n2_
        have HO := n3_
        clear n0_ n1_ n2_ n3_
        clear ho hb hg hat
        refine hK.out _ _ ⟨(blk_cell BR.out 0).trans rfl, (blk_cell BR.out 1).trans rfl⟩ (fun hHeld => ?_)
        clear hK K
        refine norm_ (a' := ?_) ?_ ?_
        rotate_left
        · show Act.put _ (some 37) _ = _
          simp only [Act.put, List.setIfInBounds_toArray, List.set_cons_zero, List.set_cons_succ, i64_w, i32_w]
          rfl
        refine one_ (i := 5) (N := some 39) #[true, true, true, true, true, true, true, true, true, true, false, true, false] rfl rfl (one_of HT_.out (by kernel_rfl)) (by decide) (fun K hK => ?_)
        refine Kd.R_append_rows_step k34 (Rr := k34.K w1) (w0 := w) w.heap.size (by rfl) (.tmp 37) (.tmp 38) 23 34 (.agg #[(.int .i64 0), (.int .i64 0), (.int .i64 0)]) 24 rfl Try.underlying23 info34 rfl (by decide) (by omega) v37 ([] ++ x.f0) (m) A1 m.length c1 (fun _ => True) (fun _ => False) rfl rfl ?aO ?aR (fun x_ cs_ h => h34 (W := w1) x_ cs_ h) (fun _ h => h.elim) (fun _ _ => trivial) ?aB ?aS ?aL ?_
        case aO => exact HO.out
        case aR => exact Kd.C_below H1.out HB.out
        case aB => exact HB.out
        case aS => exact HB.out.size
        case aL => simp; omega
        intro v39 w1 ho hb hg hat
        have n0_ := Aside0.mk (blk_grown BR.out hg (Kd.R_ne HO.out BR.out (by decide)))
        have n1_ := Aside0.mk (blk_grown B8.out hg (Kd.R_ne HO.out B8.out (by decide)))
        have n2_ := Aside0.mk (hb)
        have n3_ := Aside0.mk (ho)
        clear BR B8 HB HO
        have BR := n0_
        have B8 := n1_
        have HB := n2_
        have HO := n3_
        clear n0_ n1_ n2_ n3_
        clear ho hb hg hat
        have HO := Aside0.mk (show Kd.R k34 34 _ w.heap.size (fun _ => True) _ s.f0 from by rw [HS0.out]; exact HO.out)
        obtain ⟨A39, c39, e39⟩ := Kd.R_slice HO.out
        subst e39
        refine hK.out _ _ ⟨(blk_cell BR.out 0).trans rfl, (blk_cell BR.out 1).trans rfl⟩ (fun hHeld => ?_)
        clear hK K
        refine norm_ (a' := ?_) ?_ ?_
        rotate_left
        · show Act.put _ (some 39) _ = _
          simp only [Act.put, List.setIfInBounds_toArray, List.set_cons_zero, List.set_cons_succ, i64_w, i32_w]
          rfl
        refine pure_ (i := 10) (N := some 44) (v := ?_) (a' := ?_) #[true, true, true, true, true, true, true, true, true, true, true, true, false] rfl rfl (any_of HT_.out (by kernel_rfl)) (fun _ _ _ h => h) (Or.inl ⟨by rfl, ?_⟩) ?_ ?_
        rotate_left
        · intro w'
          go_simp
          with_reducible rfl
        rotate_left
        · simp only [Act.put, List.setIfInBounds_toArray, List.set_cons_zero, List.set_cons_succ, i64_w, i32_w]
          rfl
        exact norm_ (by first | (simp only [putAll, Act.put, List.setIfInBounds_toArray, List.set_cons_zero, List.set_cons_succ]; done) | (simp only [putAll, Act.put, List.setIfInBounds_toArray, List.set_cons_zero, List.set_cons_succ]; rfl)) (hCont (v34, v37, .slice A39 s.f0.length c39, b8, .agg #[.slice A39 s.f0.length c39, .int .i64 s.f1]) _ ⟨HB.out, BR.out, B8.out, HB8.out, HO.out, rfl⟩)
    · skip
      rw [if_pos (by rfl)]
      go_simp
      have n0_ := Aside0.mk (blk_alloc BR.out (.cells #[.slice none 0 0, .int .i64 0] 25))
      have n1_ := Aside0.mk (blk_new w1 (.cells #[.slice none 0 0, .int .i64 0] 25))
      have n2_ := Aside0.mk (blk_lt BR.out)
      have n3_ := Aside0.mk (below_alloc HB.out (.cells #[.slice none 0 0, .int .i64 0] 25))
      clear BR HB
      have BR := n0_
      have B8 := n1_
      have HB8 := n2_
      have HB := n3_
      clear n0_ n1_ n2_ n3_
      generalize w1.heap.size = b8 at B8 HB8 ⊢
      generalize w1.alloc _ = w1 at BR B8 HB ⊢
      refine hK.out _ _ ⟨(blk_cell BR.out 0).trans rfl, (blk_cell BR.out 1).trans rfl⟩ (fun hHeld => ?_)
      clear hK K
      refine one_ (i := 0) (N := some 34) #[true, true, true, false, true, false, true, true, true, true, false, true, false] rfl rfl (one_of HT_.out (by kernel_rfl)) (by decide) (fun K hK => ?_)
      refine Kd.R_lit_step k34 (w0 := w) w.heap.size 34 ?hg (N := 34) ?hd (xs := ([] : List S34)) (inner := []) (ok := fun _ => True) (okp := fun _ => True) ?hr ?hp (fun _ hk => hk) trivial HB.out HB.out.size (by simp) ?_
      case hd => rfl
      case hg => rfl
      case hr => first | (go_simp; done) | (go_simp; rfl)
      case hp => exact Reps.none _ _
      intro v34 w1 ho hb hg hnew
      have n0_ := Aside0.mk (hb)
      have n1_ := Aside0.mk (ho)
      have n2_ := Aside0.mk (blk_grown BR.out hg (by simp))
      have n3_ := Aside0.mk (blk_grown B8.out hg (by simp))
      clear HB BR B8
      have HB := n0_
      have HO := n1_
      have BR := n2_
      have B8 := n3_
      clear n0_ n1_ n2_ n3_
      clear ho hb hg hnew
      refine hK.out _ _ ⟨(blk_cell BR.out 0).trans rfl, (blk_cell BR.out 1).trans rfl⟩ (fun hHeld => ?_)
      clear hK K
      refine norm_ (a' := ?_) ?_ ?_
      rotate_left
      · show Act.put _ (some 34) _ = _
        simp only [Act.put, List.setIfInBounds_toArray, List.set_cons_zero, List.set_cons_succ, i64_w, i32_w]
        rfl
      refine one_ (i := 3) (N := some 37) #[true, true, true, true, true, false, true, true, true, true, false, true, false] rfl rfl (one_of HT_.out (by kernel_rfl)) (by decide) (fun K hK => ?_)
      refine Kd.R_append_rows_step k34 (Rr := k34.K w1) (w0 := w) w.heap.size (by rfl) (.tmp 34) (.tmp 36) 23 34 (.agg #[(.int .i64 0), (.int .i64 0), (.int .i64 0)]) 24 rfl Try.underlying23 info34 rfl (by decide) (by omega) v34 ([]) (x.f0) A0 x.f0.length c0 (fun _ => True) (fun _ => False) rfl rfl ?aO ?aR (fun x_ cs_ h => h34 (W := w1) x_ cs_ h) (fun _ h => h.elim) (fun _ _ => trivial) ?aB ?aS ?aL ?_
      case aO => exact HO.out
      case aR => exact Kd.C_below H0.out HB.out
      case aB => exact HB.out
      case aS => exact HB.out.size
      case aL => simp; omega
      intro v37 w1 ho hb hg hat
      have n0_ := Aside0.mk (blk_grown BR.out hg (Kd.R_ne HO.out BR.out (by decide)))
      have n1_ := Aside0.mk (blk_grown B8.out hg (Kd.R_ne HO.out B8.out (by decide)))
      have n2_ := Aside0.mk (hb)
      have n3_ := Aside0.mk (ho)
      clear BR B8 HB HO
      have BR := n0_
      have B8 := n1_
      have HB := n2_
      have HO := n3_
      clear n0_ n1_ n2_ n3_
      clear ho hb hg hat
      refine hK.out _ _ ⟨(blk_cell BR.out 0).trans rfl, (blk_cell BR.out 1).trans rfl⟩ (fun hHeld => ?_)
      clear hK K
      refine norm_ (a' := ?_) ?_ ?_
      rotate_left
      · show Act.put _ (some 37) _ = _
        simp only [Act.put, List.setIfInBounds_toArray, List.set_cons_zero, List.set_cons_succ, i64_w, i32_w]
        rfl
      refine one_ (i := 5) (N := some 39) #[true, true, true, true, true, true, true, true, true, true, false, true, false] rfl rfl (one_of HT_.out (by kernel_rfl)) (by decide) (fun K hK => ?_)
      refine Kd.R_append_rows_step k34 (Rr := k34.K w1) (w0 := w) w.heap.size (by rfl) (.tmp 37) (.tmp 38) 23 34 (.agg #[(.int .i64 0), (.int .i64 0), (.int .i64 0)]) 24 rfl Try.underlying23 info34 rfl (by decide) (by omega) v37 ([] ++ x.f0) (m) A1 m.length c1 (fun _ => True) (fun _ => False) rfl rfl ?aO ?aR (fun x_ cs_ h => h34 (W := w1) x_ cs_ h) (fun _ h => h.elim) (fun _ _ => trivial) ?aB ?aS ?aL ?_
      case aO => exact HO.out
      case aR => exact Kd.C_below H1.out HB.out
      case aB => exact HB.out
      case aS => exact HB.out.size
      case aL => simp; omega
      intro v39 w1 ho hb hg hat
      have n0_ := Aside0.mk (blk_grown BR.out hg (Kd.R_ne HO.out BR.out (by decide)))
      have n1_ := Aside0.mk (blk_grown B8.out hg (Kd.R_ne HO.out B8.out (by decide)))
      have n2_ := Aside0.mk (hb)
      have n3_ := Aside0.mk (ho)
      clear BR B8 HB HO
      have BR := n0_
      have B8 := n1_
      have HB := n2_
      have HO := n3_
      clear n0_ n1_ n2_ n3_
      clear ho hb hg hat
      have HO := Aside0.mk (show Kd.R k34 34 _ w.heap.size (fun _ => True) _ s.f0 from by rw [HS0.out]; exact HO.out)
      obtain ⟨A39, c39, e39⟩ := Kd.R_slice HO.out
      subst e39
      refine hK.out _ _ ⟨(blk_cell BR.out 0).trans rfl, (blk_cell BR.out 1).trans rfl⟩ (fun hHeld => ?_)
      clear hK K
      refine norm_ (a' := ?_) ?_ ?_
      rotate_left
      · show Act.put _ (some 39) _ = _
        simp only [Act.put, List.setIfInBounds_toArray, List.set_cons_zero, List.set_cons_succ, i64_w, i32_w]
        rfl
      refine pure_ (i := 10) (N := some 44) (v := ?_) (a' := ?_) #[true, true, true, true, true, true, true, true, true, true, true, true, false] rfl rfl (any_of HT_.out (by kernel_rfl)) (fun _ _ _ h => h) (Or.inl ⟨by rfl, ?_⟩) ?_ ?_
      rotate_left
      · intro w'
        go_simp
        with_reducible rfl
      rotate_left
      · simp only [Act.put, List.setIfInBounds_toArray, List.set_cons_zero, List.set_cons_succ, i64_w, i32_w]
        rfl
      exact norm_ (by first | (simp only [putAll, Act.put, List.setIfInBounds_toArray, List.set_cons_zero, List.set_cons_succ]; done) | (simp only [putAll, Act.put, List.setIfInBounds_toArray, List.set_cons_zero, List.set_cons_succ]; rfl)) (hCont (v34, v37, .slice A39 s.f0.length c39, b8, .agg #[.slice A39 s.f0.length c39, .int .i64 s.f1]) _ ⟨HB.out, BR.out, B8.out, HB8.out, HO.out, rfl⟩)
  clear HB BR hHeld
  rintro ⟨s1, s2, s3, b8, s5⟩ w1 ⟨hB, hR, h8, hlt, hO, e5⟩
  simp only at hR h8 hlt hO e5
  subst e5
  obtain ⟨A3, c3, e3⟩ := Kd.R_slice hO
  subst e3
  have HB := Aside0.mk hB
  have BR := Aside0.mk hR
  have B8 := Aside0.mk h8
  have HO := Aside0.mk hO
  have hHeld := (show w1.cell? ⟨w.heap.size, 0, none⟩ = some (.slice A0 x.f0.length c0) ∧ w1.cell? ⟨w.heap.size, 1, none⟩ = some (.int .i64 x.f1) from ⟨(blk_cell BR.out 0).trans rfl, (blk_cell BR.out 1).trans rfl⟩)
  clear hB hR h8 hO
  refine norm_ (a' := ?_) ?_ ?_
  rotate_left
  · simp only [putAll, Act.put, List.setIfInBounds_toArray, List.set_cons_zero, List.set_cons_succ]
    rfl
  refine one_ (i := 12) (N := none) #[true, true, true, true, true, true, true, true, true, true, true, true, true] rfl rfl (one_of HT_.out (by kernel_rfl)) (by decide) (fun K hK => ?_)
  have q0 := blk_cell B8.out 0
  have q1 := blk_cell B8.out 1
  simp only [List.getElem?_toArray, List.getElem?_cons_zero, List.getElem?_cons_succ] at q0 q1
  have z0 := blk_frozen B8.out 0
  have z1 := blk_frozen B8.out 1
  rw [if_pos (by rfl)]
  go_simp
  have n0_ := Aside0.mk (below_set (below_set HB.out (Nat.le_of_lt hlt) (j := 0) (v := .slice A3 s.f0.length c3)) (Nat.le_of_lt hlt) (j := 1) (v := .int .i64 s.f1))
  have n1_ := Aside0.mk (((Below.heap_setCell (w1.setCell ⟨b8, 0, none⟩ (.slice A3 s.f0.length c3)) ⟨b8, 1, none⟩ (.int .i64 s.f1) w.heap.size (by show w.heap.size ≠ b8; omega)).trans (Below.heap_setCell w1 ⟨b8, 0, none⟩ (.slice A3 s.f0.length c3) w.heap.size (by show w.heap.size ≠ b8; omega))).trans BR.out)
  have n2_ := Aside0.mk (blk_set (blk_set B8.out 0 (.slice A3 s.f0.length c3)) 1 (.int .i64 s.f1))
  have n3_ := Aside0.mk (Kd.R_reads' (Kd.R_far (Kd.R_far (Kd.R_far1 HO.out rfl (Kd.R_ne HO.out B8.out (by decide))) (p := ⟨b8, 0, none⟩) (fun k hk => hk.2) (.slice A3 s.f0.length c3)) (p := ⟨b8, 1, none⟩) (fun k hk => hk.2) (.int .i64 s.f1)))
  clear HB BR B8 HO q0 q1 z0 z1
  have HB := n0_
  have BR := n1_
  have B8 := Aside0.mk (show _ = some (Obj.cells #[.slice A3 s.f0.length c3, .int .i64 s.f1] 25 (0, 0)) from n2_.out)
  have H3 := Aside0.mk n3_.out.2.2
  have i3 : s.f0.length ≤ c3 := n3_.out.2.1
  clear n0_ n1_ n2_ n3_
  generalize World.setCell _ ⟨b8, 1, none⟩ _ = w1 at HB BR B8 H3 ⊢
  refine hK.out _ _ ⟨(blk_cell BR.out 0).trans rfl, (blk_cell BR.out 1).trans rfl⟩ (fun hHeld => ?_)
  clear hK K
  refine done_ (done_of HT_.out (by kernel_rfl)) ?_
  clear hHeld HT_ HW_
  have hsl := HSL.out
  have hl3 : s.f0.length < 17592186044416 := by omega
  have ok1 : okR [s, x] = true := by
    unfold okR
    simp
    omega
  have ok2 : okR [x, s] = true := by
    unfold okR
    simp
    omega
  clear hsl
  have h2 : cmpR s x = - cmpR x s := cmpR_anti _ _
  by_cases eL : L = 0
  · have dL : (L == 0) = true := by simp [eL]
    by_cases em : m = []
    · have dm : ((m.length : Int) == 0) = true := by simp [em]
      have hc : cmpR x s = 0 := by rw [HS.out, eL, em]; exact lon_same x
      have hless1 : decide (cmpR x s < 0) = false := by rw [hc]; rfl
      have hless2 : decide (cmpR s x < 0) = false := by rw [h2, hc]; rfl
      have hn1 : (sortR [s, x]).length = 1 := by rw [pair_sort, if_pos hc]
      have hn2 : (sortR [x, s]).length = 1 := by rw [pair_sort, if_pos (by omega)]
      clear h2 hc eL
      try clear em
      go_wp2_with fail
      have n0_ := Aside0.mk (below_drew1 HB.out)
      have n1_ := Aside0.mk (blk_drew BR.out)
      have n2_ := Aside0.mk (blk_drew B8.out)
      have n3_ := Aside0.mk (Kd.C_drew H3.out)
      clear HB BR B8 H3
      have HB := n0_
      have BR := n1_
      have B8 := n2_
      have H3 := n3_
      clear n0_ n1_ n2_ n3_
      refine start_ (n := 39) (S := fun w' => (w'.cell? ⟨w.heap.size, 0, none⟩ = some (.slice A0 x.f0.length c0) ∧ w'.cell? ⟨w.heap.size, 1, none⟩ = some (.int .i64 x.f1)) ∧ w'.cell? ⟨b8, 0, none⟩ = some (.slice A3 s.f0.length c3) ∧ w'.cell? ⟨b8, 1, none⟩ = some (.int .i64 s.f1)) (ds := []) #[false, false, false, false, false, false, false, false, false, false, false, false, false, false, false, false, false, false, false, false, false, false, false, false, false, false, false, false, false, false, false, false, false, false, false, false, false, false, false] (by kernel_rfl) rfl rfl ⟨⟨(blk_cell BR.out 0).trans rfl, (blk_cell BR.out 1).trans rfl⟩, (blk_cell B8.out 0).trans rfl, (blk_cell B8.out 1).trans rfl⟩ (fun hHeld => ?_); refine with_tabW longer.tab6 longer.bits6 (fun HT_ HW_ => ?_)
      generalize World.drew _ = w1 at HB BR B8 H3 hHeld ⊢
      refine pure_ (i := 0) (N := some 52) (v := ?_) (a' := ?_) #[true, false, false, false, false, false, false, false, false, false, false, false, false, false, false, false, false, false, false, false, false, false, false, false, false, false, false, false, false, false, false, false, false, false, false, false, false, false, false] rfl rfl (any_of HT_.out (by kernel_rfl)) (fun _ _ _ h => h) (Or.inl ⟨by rfl, ?_⟩) ?_ ?_
      rotate_left
      · intro w'
        go_simp
        with_reducible rfl
      rotate_left
      · simp only [Act.put, List.setIfInBounds_toArray, List.set_cons_zero, List.set_cons_succ, i64_w, i32_w]
        rfl
      refine pure_ (i := 1) (N := some 53) (v := ?_) (a' := ?_) #[true, true, false, false, false, false, false, false, false, false, false, false, false, false, false, false, false, false, false, false, false, false, false, false, false, false, false, false, false, false, false, false, false, false, false, false, false, false, false] rfl rfl (any_of HT_.out (by kernel_rfl)) (fun _ _ _ h => h) (Or.inl ⟨by rfl, ?_⟩) ?_ ?_
      rotate_left
      · intro w'
        go_simp
        with_reducible rfl
      rotate_left
      · simp only [Act.put, List.setIfInBounds_toArray, List.set_cons_zero, List.set_cons_succ, i64_w, i32_w]
        rfl
      refine take_ (i := 2) (N := some 54) (v := ?_) (a' := ?_) #[true, true, true, false, false, false, false, false, false, false, false, false, false, false, false, false, false, false, false, false, false, false, false, false, false, false, false, false, false, false, false, false, false, false, false, false, false, false, false] rfl rfl (take_ofW HT_.out HW_.out (by kernel_rfl)) (fun _ _ _ h => h) (Or.inl ⟨by rfl, ?_⟩) hHeld ?_ ?_
      rotate_left
      · rintro w' ⟨⟨s0, s1⟩, s2, s3⟩
        go_simp
        with_reducible rfl
      rotate_left
      · simp only [Act.put, List.setIfInBounds_toArray, List.set_cons_zero, List.set_cons_succ, i64_w, i32_w]
        rfl
      refine take_ (i := 3) (N := some 55) (v := ?_) (a' := ?_) #[true, true, true, true, false, false, false, false, false, false, false, false, false, false, false, false, false, false, false, false, false, false, false, false, false, false, false, false, false, false, false, false, false, false, false, false, false, false, false] rfl rfl (take_ofW HT_.out HW_.out (by kernel_rfl)) (fun _ _ _ h => h) (Or.inl ⟨by rfl, ?_⟩) hHeld ?_ ?_
      rotate_left
      · rintro w' ⟨⟨s0, s1⟩, s2, s3⟩
        go_simp
        with_reducible rfl
      rotate_left
      · simp only [Act.put, List.setIfInBounds_toArray, List.set_cons_zero, List.set_cons_succ, i64_w, i32_w]
        rfl
      refine pure_ (i := 5) (N := some 57) (v := ?_) (a' := ?_) #[true, true, true, true, false, true, false, false, false, false, false, false, false, false, false, false, false, false, false, false, false, false, false, false, false, false, false, false, false, false, false, false, false, false, false, false, false, false, false] rfl rfl (any_of HT_.out (by kernel_rfl)) (fun _ _ _ h => h) (Or.inl ⟨by rfl, ?_⟩) ?_ ?_
      rotate_left
      · intro w'
        go_simp
        with_reducible rfl
      rotate_left
      · simp only [Act.put, List.setIfInBounds_toArray, List.set_cons_zero, List.set_cons_succ, i64_w, i32_w]
        rfl
      refine pure_ (i := 6) (N := some 58) (v := ?_) (a' := ?_) #[true, true, true, true, false, true, true, false, false, false, false, false, false, false, false, false, false, false, false, false, false, false, false, false, false, false, false, false, false, false, false, false, false, false, false, false, false, false, false] rfl rfl (any_of HT_.out (by kernel_rfl)) (fun _ _ _ h => h) (Or.inl ⟨by rfl, ?_⟩) ?_ ?_
      rotate_left
      · intro w'
        go_simp
        with_reducible rfl
      rotate_left
      · simp only [Act.put, List.setIfInBounds_toArray, List.set_cons_zero, List.set_cons_succ, i64_w, i32_w]
        rfl
      refine one_ (i := 4) (N := some 56) #[true, true, true, true, true, true, true, false, false, false, false, false, false, false, false, false, false, false, false, false, false, false, false, false, false, false, false, false, false, false, false, false, false, false, false, false, false, false, false] rfl rfl (one_of HT_.out (by kernel_rfl)) (by decide) (fun K hK => ?_)
      refine goes_ Try.func19 (by kernel_rfl) rfl #[.agg #[.slice A0 x.f0.length c0, .int .i64 x.f1], .agg #[.slice A3 s.f0.length c3, .int .i64 s.f1]] (by rfl) rfl rfl (by (try simp only [List.map_toArray, List.map_cons, List.map_nil]); first | done | rfl) ?_
      refine (less_is x s _ _ (Kd.C_below H0.out HB.out) i0 H3.out i3 (by omega) hl3 hless1).mono ?_
      rintro e w1 ⟨rfl, hb⟩
      refine ⟨_, rfl, ?_⟩
      have n0_ := Aside0.mk (below_step HB.out hb)
      have n1_ := Aside0.mk (blk_below BR.out hb)
      have n2_ := Aside0.mk (blk_below B8.out hb)
      have n3_ := Aside0.mk (Kd.C_below H3.out hb)
      clear HB BR B8 H3 
      have HB := n0_
      have BR := n1_
      have B8 := n2_
      have H3 := n3_
      clear n0_ n1_ n2_ n3_ hb 
      refine hK.out _ _ ⟨⟨(blk_cell BR.out 0).trans rfl, (blk_cell BR.out 1).trans rfl⟩, (blk_cell B8.out 0).trans rfl, (blk_cell B8.out 1).trans rfl⟩ (fun hHeld => ?_)
      clear hK K
      refine norm_ (a' := ?_) ?_ ?_
      rotate_left
      · show Act.put _ (some 56) _ = _
        simp only [Act.put, List.setIfInBounds_toArray, List.set_cons_zero, List.set_cons_succ, i64_w, i32_w]
        rfl
      refine pure_ (i := 7) (N := some 59) (v := ?_) (a' := ?_) #[true, true, true, true, true, true, true, true, false, false, false, false, false, false, false, false, false, false, false, false, false, false, false, false, false, false, false, false, false, false, false, false, false, false, false, false, false, false, false] rfl rfl (any_of HT_.out (by kernel_rfl)) (fun _ _ _ h => h) (Or.inl ⟨by rfl, ?_⟩) ?_ ?_
      rotate_left
      · intro w'
        go_simp
        with_reducible rfl
      rotate_left
      · simp only [Act.put, List.setIfInBounds_toArray, List.set_cons_zero, List.set_cons_succ, i64_w, i32_w]
        rfl
      refine pure_ (i := 8) (N := some 60) (v := ?_) (a' := ?_) #[true, true, true, true, true, true, true, true, true, false, false, false, false, false, false, false, false, false, false, false, false, false, false, false, false, false, false, false, false, false, false, false, false, false, false, false, false, false, false] rfl rfl (any_of HT_.out (by kernel_rfl)) (fun _ _ _ h => h) (Or.inl ⟨by rfl, ?_⟩) ?_ ?_
      rotate_left
      · intro w'
        go_simp
        with_reducible rfl
      rotate_left
      · simp only [Act.put, List.setIfInBounds_toArray, List.set_cons_zero, List.set_cons_succ, i64_w, i32_w]
        rfl
      refine pure_ (i := 9) (N := some 61) (v := ?_) (a' := ?_) #[true, true, true, true, true, true, true, true, true, true, false, false, false, false, false, false, false, false, false, false, false, false, false, false, false, false, false, false, false, false, false, false, false, false, false, false, false, false, false] rfl rfl (any_of HT_.out (by kernel_rfl)) (fun _ _ _ h => h) (Or.inl ⟨by rfl, ?_⟩) ?_ ?_
      rotate_left
      · intro w'
        go_simp
        with_reducible rfl
      rotate_left
      · simp only [Act.put, List.setIfInBounds_toArray, List.set_cons_zero, List.set_cons_succ, i64_w, i32_w]
        rfl
      refine take_ (i := 10) (N := some 62) (v := ?_) (a' := ?_) #[true, true, true, true, true, true, true, true, true, true, true, false, false, false, false, false, false, false, false, false, false, false, false, false, false, false, false, false, false, false, false, false, false, false, false, false, false, false, false] rfl rfl (take_ofW HT_.out HW_.out (by kernel_rfl)) (fun _ _ _ h => h) (Or.inl ⟨by rfl, ?_⟩) hHeld ?_ ?_
      rotate_left
      · rintro w' ⟨⟨s0, s1⟩, s2, s3⟩
        go_simp
        with_reducible rfl
      rotate_left
      · simp only [Act.put, List.setIfInBounds_toArray, List.set_cons_zero, List.set_cons_succ, i64_w, i32_w]
        rfl
      refine take_ (i := 11) (N := some 63) (v := ?_) (a' := ?_) #[true, true, true, true, true, true, true, true, true, true, true, true, false, false, false, false, false, false, false, false, false, false, false, false, false, false, false, false, false, false, false, false, false, false, false, false, false, false, false] rfl rfl (take_ofW HT_.out HW_.out (by kernel_rfl)) (fun _ _ _ h => h) (Or.inl ⟨by rfl, ?_⟩) hHeld ?_ ?_
      rotate_left
      · rintro w' ⟨⟨s0, s1⟩, s2, s3⟩
        go_simp
        with_reducible rfl
      rotate_left
      · simp only [Act.put, List.setIfInBounds_toArray, List.set_cons_zero, List.set_cons_succ, i64_w, i32_w]
        rfl
      refine one_ (i := 12) (N := some 64) #[true, true, true, true, true, true, true, true, true, true, true, true, true, false, false, false, false, false, false, false, false, false, false, false, false, false, false, false, false, false, false, false, false, false, false, false, false, false, false] rfl rfl (one_of HT_.out (by kernel_rfl)) (by decide) (fun K hK => ?_)
      refine goes_ Try.func19 (by kernel_rfl) rfl #[.agg #[.slice A3 s.f0.length c3, .int .i64 s.f1], .agg #[.slice A0 x.f0.length c0, .int .i64 x.f1]] (by rfl) rfl rfl (by (try simp only [List.map_toArray, List.map_cons, List.map_nil]); first | done | rfl) ?_
      refine (less_is s x _ _ H3.out i3 (Kd.C_below H0.out HB.out) i0 hl3 (by omega) hless2).mono ?_
      rintro e w1 ⟨rfl, hb⟩
      refine ⟨_, rfl, ?_⟩
      have n0_ := Aside0.mk (below_step HB.out hb)
      have n1_ := Aside0.mk (blk_below BR.out hb)
      have n2_ := Aside0.mk (blk_below B8.out hb)
      have n3_ := Aside0.mk (Kd.C_below H3.out hb)
      clear HB BR B8 H3 
      have HB := n0_
      have BR := n1_
      have B8 := n2_
      have H3 := n3_
      clear n0_ n1_ n2_ n3_ hb 
      refine hK.out _ _ ⟨⟨(blk_cell BR.out 0).trans rfl, (blk_cell BR.out 1).trans rfl⟩, (blk_cell B8.out 0).trans rfl, (blk_cell B8.out 1).trans rfl⟩ (fun hHeld => ?_)
      clear hK K
      refine norm_ (a' := ?_) ?_ ?_
      rotate_left
      · show Act.put _ (some 64) _ = _
        simp only [Act.put, List.setIfInBounds_toArray, List.set_cons_zero, List.set_cons_succ, i64_w, i32_w]
        rfl
      refine pure_ (i := 13) (N := some 65) (v := ?_) (a' := ?_) #[true, true, true, true, true, true, true, true, true, true, true, true, true, true, false, false, false, false, false, false, false, false, false, false, false, false, false, false, false, false, false, false, false, false, false, false, false, false, false] rfl rfl (any_of HT_.out (by kernel_rfl)) (fun _ _ _ h => h) (Or.inl ⟨by rfl, ?_⟩) ?_ ?_
      rotate_left
      · intro w'
        go_simp
        with_reducible rfl
      rotate_left
      · simp only [Act.put, List.setIfInBounds_toArray, List.set_cons_zero, List.set_cons_succ, i64_w, i32_w]
        rfl
      refine pure_ (i := 14) (N := some 66) (v := ?_) (a' := ?_) #[true, true, true, true, true, true, true, true, true, true, true, true, true, true, true, false, false, false, false, false, false, false, false, false, false, false, false, false, false, false, false, false, false, false, false, false, false, false, false] rfl rfl (any_of HT_.out (by kernel_rfl)) (fun _ _ _ h => h) (Or.inl ⟨by rfl, ?_⟩) ?_ ?_
      rotate_left
      · intro w'
        go_simp
        with_reducible rfl
      rotate_left
      · simp only [Act.put, List.setIfInBounds_toArray, List.set_cons_zero, List.set_cons_succ, i64_w, i32_w]
        rfl
      refine pure_ (i := 15) (N := some 67) (v := ?_) (a' := ?_) #[true, true, true, true, true, true, true, true, true, true, true, true, true, true, true, true, false, false, false, false, false, false, false, false, false, false, false, false, false, false, false, false, false, false, false, false, false, false, false] rfl rfl (any_of HT_.out (by kernel_rfl)) (fun _ _ _ h => h) (Or.inl ⟨by rfl, ?_⟩) ?_ ?_
      rotate_left
      · intro w'
        go_simp
        with_reducible rfl
      rotate_left
      · simp only [Act.put, List.setIfInBounds_toArray, List.set_cons_zero, List.set_cons_succ, i64_w, i32_w]
        rfl
      refine take_ (i := 16) (N := some 68) (v := ?_) (a' := ?_) #[true, true, true, true, true, true, true, true, true, true, true, true, true, true, true, true, true, false, false, false, false, false, false, false, false, false, false, false, false, false, false, false, false, false, false, false, false, false, false] rfl rfl (take_ofW HT_.out HW_.out (by kernel_rfl)) (fun _ _ _ h => h) (Or.inl ⟨by rfl, ?_⟩) hHeld ?_ ?_
      rotate_left
      · rintro w' ⟨⟨s0, s1⟩, s2, s3⟩
        go_simp
        with_reducible rfl
      rotate_left
      · simp only [Act.put, List.setIfInBounds_toArray, List.set_cons_zero, List.set_cons_succ, i64_w, i32_w]
        rfl
      refine take_ (i := 17) (N := some 69) (v := ?_) (a' := ?_) #[true, true, true, true, true, true, true, true, true, true, true, true, true, true, true, true, true, true, false, false, false, false, false, false, false, false, false, false, false, false, false, false, false, false, false, false, false, false, false] rfl rfl (take_ofW HT_.out HW_.out (by kernel_rfl)) (fun _ _ _ h => h) (Or.inl ⟨by rfl, ?_⟩) hHeld ?_ ?_
      rotate_left
      · rintro w' ⟨⟨s0, s1⟩, s2, s3⟩
        go_simp
        with_reducible rfl
      rotate_left
      · simp only [Act.put, List.setIfInBounds_toArray, List.set_cons_zero, List.set_cons_succ, i64_w, i32_w]
        rfl
      refine take_ (i := 21) (N := some 73) (v := ?_) (a' := ?_) #[true, true, true, true, true, true, true, true, true, true, true, true, true, true, true, true, true, true, false, false, false, true, false, false, false, false, false, false, false, false, false, false, false, false, false, false, false, false, false] rfl rfl (take_ofW HT_.out HW_.out (by kernel_rfl)) (fun _ _ _ h => h) (Or.inl ⟨by rfl, ?_⟩) hHeld ?_ ?_
      rotate_left
      · rintro w' ⟨⟨s0, s1⟩, s2, s3⟩
        go_simp
        with_reducible rfl
      rotate_left
      · simp only [Act.put, List.setIfInBounds_toArray, List.set_cons_zero, List.set_cons_succ, i64_w, i32_w]
        rfl
      refine take_ (i := 22) (N := some 74) (v := ?_) (a' := ?_) #[true, true, true, true, true, true, true, true, true, true, true, true, true, true, true, true, true, true, false, false, false, true, true, false, false, false, false, false, false, false, false, false, false, false, false, false, false, false, false] rfl rfl (take_ofW HT_.out HW_.out (by kernel_rfl)) (fun _ _ _ h => h) (Or.inl ⟨by rfl, ?_⟩) hHeld ?_ ?_
      rotate_left
      · rintro w' ⟨⟨s0, s1⟩, s2, s3⟩
        go_simp
        with_reducible rfl
      rotate_left
      · simp only [Act.put, List.setIfInBounds_toArray, List.set_cons_zero, List.set_cons_succ, i64_w, i32_w]
        rfl
      refine join_ (σ := Value × Value × Value) 15 #[true, true, true, true, true, true, true, true, true, true, true, true, true, true, true, true, true, true, true, true, true, true, true, true, false, false, false, false, false, false, false, false, false, false, false, false, false, false, false] (fun s_ => [(70, s_.1), (75, s_.2.1), (71, s_.2.2), (72, .int .i64 1)]) (fun s_ w' => Below w.heap.size w w' ∧ w'.heap[w.heap.size]? = some (.cells #[.slice A0 x.f0.length c0, .int .i64 x.f1] 25 (0, 0)) ∧ w'.heap[b8]? = some (.cells #[.slice A3 s.f0.length c3, .int .i64 s.f1] 25 (0, 0)) ∧ Kd.C k34 w' A3 s.f0.length s.f0 ∧ (∃ nb, s_.2.1 = .slice (some ⟨nb, 0, none⟩) 2 2 ∧ Kd.C k25 w' (some ⟨nb, 0, none⟩) 2 [x, s])) ?_ ?_
      rotate_left
      · intro hCont
        refine two_ (i := 18) (j := 23) (Ni := some 70) (Nj := some 75) #[true, true, true, true, true, true, true, true, true, true, true, true, true, true, true, true, true, true, true, false, false, true, true, false, false, false, false, false, false, false, false, false, false, false, false, false, false, false, false] #[true, true, true, true, true, true, true, true, true, true, true, true, true, true, true, true, true, true, false, false, false, true, true, true, false, false, false, false, false, false, false, false, false, false, false, false, false, false, false] rfl rfl rfl rfl (two_of HT_.out (by kernel_rfl)) (by decide) (by decide) (fun K hK => ?_) (fun K hK => ?_)
        · skip
          rw [if_pos (by rfl)]
          go_simp
          have hN := Aside0.mk (lit_sx x s (Kd.C_below H0.out HB.out) i0 H3.out i3)
          have hb := below_alloc (Below.refl w1.heap.size w1) (.cells #[.slice A3 s.f0.length c3, .int .i64 s.f1, .slice A0 x.f0.length c0, .int .i64 x.f1] 25)
          have n0_ := Aside0.mk (below_step HB.out hb)
          have n1_ := Aside0.mk (blk_below BR.out hb)
          have n2_ := Aside0.mk (blk_below B8.out hb)
          have n3_ := Aside0.mk (Kd.C_below H3.out hb)
          clear HB BR B8 H3 
          have HB := n0_
          have BR := n1_
          have B8 := n2_
          have H3 := n3_
          clear n0_ n1_ n2_ n3_ hb 
          generalize w1.heap.size = nb70 at hN ⊢
          have hN : Aside0 (Kd.C k25 (w1.alloc (.cells #[.slice A3 s.f0.length c3, .int .i64 s.f1, .slice A0 x.f0.length c0, .int .i64 x.f1] 25)) (some ⟨nb70, 0, none⟩) 2 _) := hN
          generalize w1.alloc _ = w1 at hN HB BR B8 H3  ⊢
          have HN70 := hN
          clear hN
          refine hK.out _ _ ⟨⟨(blk_cell BR.out 0).trans rfl, (blk_cell BR.out 1).trans rfl⟩, (blk_cell B8.out 0).trans rfl, (blk_cell B8.out 1).trans rfl⟩ (fun hHeld => ?_)
          clear hK K
          refine two_ (i := 19) (j := 23) (Ni := some 71) (Nj := some 75) #[true, true, true, true, true, true, true, true, true, true, true, true, true, true, true, true, true, true, true, true, false, true, true, false, false, false, false, false, false, false, false, false, false, false, false, false, false, false, false] #[true, true, true, true, true, true, true, true, true, true, true, true, true, true, true, true, true, true, true, false, false, true, true, true, false, false, false, false, false, false, false, false, false, false, false, false, false, false, false] rfl rfl rfl rfl (two_of HT_.out (by kernel_rfl)) (by decide) (by decide) (fun K hK => ?_) (fun K hK => ?_)
          · skip
            refine goes_ Try.func11 (by kernel_rfl) rfl #[.slice (some ⟨nb70, 0, none⟩) 2 2] (by rfl) rfl rfl (by (try simp only [List.map_toArray, List.map_cons, List.map_nil]); first | done | rfl) ?_
            refine (sort_len [s, x] 1 _ HN70.out (by simp) ok1 hn1).mono ?_
            rintro e w1 ⟨A71, c71, rfl, hb⟩
            refine ⟨_, rfl, ?_⟩
            have n0_ := Aside0.mk (below_step HB.out hb)
            have n1_ := Aside0.mk (blk_below BR.out hb)
            have n2_ := Aside0.mk (blk_below B8.out hb)
            have n3_ := Aside0.mk (Kd.C_below H3.out hb)
            have m0_ := Aside0.mk (Kd.C_below HN70.out hb)
            clear HB BR B8 H3 HN70
            have HB := n0_
            have BR := n1_
            have B8 := n2_
            have H3 := n3_
            have HN70 := m0_
            clear n0_ n1_ n2_ n3_ hb m0_
            refine hK.out _ _ ⟨⟨(blk_cell BR.out 0).trans rfl, (blk_cell BR.out 1).trans rfl⟩, (blk_cell B8.out 0).trans rfl, (blk_cell B8.out 1).trans rfl⟩ (fun hHeld => ?_)
            clear hK K
            refine norm_ (a' := ?_) ?_ ?_
            rotate_left
            · show Act.put _ (some 71) _ = _
              simp only [Act.put, List.setIfInBounds_toArray, List.set_cons_zero, List.set_cons_succ, i64_w, i32_w]
              rfl
            refine pure_ (i := 20) (N := some 72) (v := ?_) (a' := ?_) #[true, true, true, true, true, true, true, true, true, true, true, true, true, true, true, true, true, true, true, true, true, true, true, false, false, false, false, false, false, false, false, false, false, false, false, false, false, false, false] rfl rfl (any_of HT_.out (by kernel_rfl)) (fun _ _ _ h => h) (Or.inl ⟨by rfl, ?_⟩) ?_ ?_
            rotate_left
            · intro w'
              go_simp
              with_reducible rfl
            rotate_left
            · simp only [Act.put, List.setIfInBounds_toArray, List.set_cons_zero, List.set_cons_succ, i64_w, i32_w]
              rfl
            refine one_ (i := 23) (N := some 75) #[true, true, true, true, true, true, true, true, true, true, true, true, true, true, true, true, true, true, true, true, true, true, true, true, false, false, false, false, false, false, false, false, false, false, false, false, false, false, false] rfl rfl (one_of HT_.out (by kernel_rfl)) (by decide) (fun K hK => ?_)
            rw [if_pos (by rfl)]
            go_simp
            have hN := Aside0.mk (lit_xs x s (Kd.C_below H0.out HB.out) i0 H3.out i3)
            have hb := below_alloc (Below.refl w1.heap.size w1) (.cells #[.slice A0 x.f0.length c0, .int .i64 x.f1, .slice A3 s.f0.length c3, .int .i64 s.f1] 25)
            have n0_ := Aside0.mk (below_step HB.out hb)
            have n1_ := Aside0.mk (blk_below BR.out hb)
            have n2_ := Aside0.mk (blk_below B8.out hb)
            have n3_ := Aside0.mk (Kd.C_below H3.out hb)
            have m0_ := Aside0.mk (Kd.C_below HN70.out hb)
            clear HB BR B8 H3 HN70
            have HB := n0_
            have BR := n1_
            have B8 := n2_
            have H3 := n3_
            have HN70 := m0_
            clear n0_ n1_ n2_ n3_ hb m0_
            generalize w1.heap.size = nb75 at hN ⊢
            have hN : Aside0 (Kd.C k25 (w1.alloc (.cells #[.slice A0 x.f0.length c0, .int .i64 x.f1, .slice A3 s.f0.length c3, .int .i64 s.f1] 25)) (some ⟨nb75, 0, none⟩) 2 _) := hN
            generalize w1.alloc _ = w1 at hN HB BR B8 H3 HN70 ⊢
            have HN75 := hN
            clear hN
            refine hK.out _ _ ⟨⟨(blk_cell BR.out 0).trans rfl, (blk_cell BR.out 1).trans rfl⟩, (blk_cell B8.out 0).trans rfl, (blk_cell B8.out 1).trans rfl⟩ (fun hHeld => ?_)
            clear hK K
            exact norm_ (by first | (simp only [putAll, Act.put, List.setIfInBounds_toArray, List.set_cons_zero, List.set_cons_succ]; done) | (simp only [putAll, Act.put, List.setIfInBounds_toArray, List.set_cons_zero, List.set_cons_succ]; rfl)) (hCont (.slice (some ⟨nb70, 0, none⟩) 2 2, .slice (some ⟨nb75, 0, none⟩) 2 2, .slice A71 1 c71) _ ⟨HB.out, BR.out, B8.out, H3.out, _, rfl, HN75.out⟩)
          · skip
            rw [if_pos (by rfl)]
            go_simp
            have hN := Aside0.mk (lit_xs x s (Kd.C_below H0.out HB.out) i0 H3.out i3)
            have hb := below_alloc (Below.refl w1.heap.size w1) (.cells #[.slice A0 x.f0.length c0, .int .i64 x.f1, .slice A3 s.f0.length c3, .int .i64 s.f1] 25)
            have n0_ := Aside0.mk (below_step HB.out hb)
            have n1_ := Aside0.mk (blk_below BR.out hb)
            have n2_ := Aside0.mk (blk_below B8.out hb)
            have n3_ := Aside0.mk (Kd.C_below H3.out hb)
            have m0_ := Aside0.mk (Kd.C_below HN70.out hb)
            clear HB BR B8 H3 HN70
            have HB := n0_
            have BR := n1_
            have B8 := n2_
            have H3 := n3_
            have HN70 := m0_
            clear n0_ n1_ n2_ n3_ hb m0_
            generalize w1.heap.size = nb75 at hN ⊢
            have hN : Aside0 (Kd.C k25 (w1.alloc (.cells #[.slice A0 x.f0.length c0, .int .i64 x.f1, .slice A3 s.f0.length c3, .int .i64 s.f1] 25)) (some ⟨nb75, 0, none⟩) 2 _) := hN
            generalize w1.alloc _ = w1 at hN HB BR B8 H3 HN70 ⊢
            have HN75 := hN
            clear hN
            refine hK.out _ _ ⟨⟨(blk_cell BR.out 0).trans rfl, (blk_cell BR.out 1).trans rfl⟩, (blk_cell B8.out 0).trans rfl, (blk_cell B8.out 1).trans rfl⟩ (fun hHeld => ?_)
            clear hK K
            refine one_ (i := 19) (N := some 71) #[true, true, true, true, true, true, true, true, true, true, true, true, true, true, true, true, true, true, true, true, false, true, true, true, false, false, false, false, false, false, false, false, false, false, false, false, false, false, false] rfl rfl (one_of HT_.out (by kernel_rfl)) (by decide) (fun K hK => ?_)
            refine goes_ Try.func11 (by kernel_rfl) rfl #[.slice (some ⟨nb70, 0, none⟩) 2 2] (by rfl) rfl rfl (by (try simp only [List.map_toArray, List.map_cons, List.map_nil]); first | done | rfl) ?_
            refine (sort_len [s, x] 1 _ HN70.out (by simp) ok1 hn1).mono ?_
            rintro e w1 ⟨A71, c71, rfl, hb⟩
            refine ⟨_, rfl, ?_⟩
            have n0_ := Aside0.mk (below_step HB.out hb)
            have n1_ := Aside0.mk (blk_below BR.out hb)
            have n2_ := Aside0.mk (blk_below B8.out hb)
            have n3_ := Aside0.mk (Kd.C_below H3.out hb)
            have m0_ := Aside0.mk (Kd.C_below HN70.out hb)
            have m1_ := Aside0.mk (Kd.C_below HN75.out hb)
            clear HB BR B8 H3 HN70 HN75
            have HB := n0_
            have BR := n1_
            have B8 := n2_
            have H3 := n3_
            have HN70 := m0_
            have HN75 := m1_
            clear n0_ n1_ n2_ n3_ hb m0_ m1_
            refine hK.out _ _ ⟨⟨(blk_cell BR.out 0).trans rfl, (blk_cell BR.out 1).trans rfl⟩, (blk_cell B8.out 0).trans rfl, (blk_cell B8.out 1).trans rfl⟩ (fun hHeld => ?_)
            clear hK K
            refine norm_ (a' := ?_) ?_ ?_
            rotate_left
            · show Act.put _ (some 71) _ = _
              simp only [Act.put, List.setIfInBounds_toArray, List.set_cons_zero, List.set_cons_succ, i64_w, i32_w]
              rfl
            refine pure_ (i := 20) (N := some 72) (v := ?_) (a' := ?_) #[true, true, true, true, true, true, true, true, true, true, true, true, true, true, true, true, true, true, true, true, true, true, true, true, false, false, false, false, false, false, false, false, false, false, false, false, false, false, false] rfl rfl (any_of HT_.out (by kernel_rfl)) (fun _ _ _ h => h) (Or.inl ⟨by rfl, ?_⟩) ?_ ?_
            rotate_left
            · intro w'
              go_simp
              with_reducible rfl
            rotate_left
            · simp only [Act.put, List.setIfInBounds_toArray, List.set_cons_zero, List.set_cons_succ, i64_w, i32_w]
              rfl
            exact norm_ (by first | (simp only [putAll, Act.put, List.setIfInBounds_toArray, List.set_cons_zero, List.set_cons_succ]; done) | (simp only [putAll, Act.put, List.setIfInBounds_toArray, List.set_cons_zero, List.set_cons_succ]; rfl)) (hCont (.slice (some ⟨nb70, 0, none⟩) 2 2, .slice (some ⟨nb75, 0, none⟩) 2 2, .slice A71 1 c71) _ ⟨HB.out, BR.out, B8.out, H3.out, _, rfl, HN75.out⟩)
        · skip
          rw [if_pos (by rfl)]
          go_simp
          have hN := Aside0.mk (lit_xs x s (Kd.C_below H0.out HB.out) i0 H3.out i3)
          have hb := below_alloc (Below.refl w1.heap.size w1) (.cells #[.slice A0 x.f0.length c0, .int .i64 x.f1, .slice A3 s.f0.length c3, .int .i64 s.f1] 25)
          have n0_ := Aside0.mk (below_step HB.out hb)
          have n1_ := Aside0.mk (blk_below BR.out hb)
          have n2_ := Aside0.mk (blk_below B8.out hb)
          have n3_ := Aside0.mk (Kd.C_below H3.out hb)
          clear HB BR B8 H3 
          have HB := n0_
          have BR := n1_
          have B8 := n2_
          have H3 := n3_
          clear n0_ n1_ n2_ n3_ hb 
          generalize w1.heap.size = nb75 at hN ⊢
          have hN : Aside0 (Kd.C k25 (w1.alloc (.cells #[.slice A0 x.f0.length c0, .int .i64 x.f1, .slice A3 s.f0.length c3, .int .i64 s.f1] 25)) (some ⟨nb75, 0, none⟩) 2 _) := hN
          generalize w1.alloc _ = w1 at hN HB BR B8 H3  ⊢
          have HN75 := hN
          clear hN
          refine hK.out _ _ ⟨⟨(blk_cell BR.out 0).trans rfl, (blk_cell BR.out 1).trans rfl⟩, (blk_cell B8.out 0).trans rfl, (blk_cell B8.out 1).trans rfl⟩ (fun hHeld => ?_)
          clear hK K
          refine one_ (i := 18) (N := some 70) #[true, true, true, true, true, true, true, true, true, true, true, true, true, true, true, true, true, true, true, false, false, true, true, true, false, false, false, false, false, false, false, false, false, false, false, false, false, false, false] rfl rfl (one_of HT_.out (by kernel_rfl)) (by decide) (fun K hK => ?_)
          rw [if_pos (by rfl)]
          go_simp
          have hN := Aside0.mk (lit_sx x s (Kd.C_below H0.out HB.out) i0 H3.out i3)
          have hb := below_alloc (Below.refl w1.heap.size w1) (.cells #[.slice A3 s.f0.length c3, .int .i64 s.f1, .slice A0 x.f0.length c0, .int .i64 x.f1] 25)
          have n0_ := Aside0.mk (below_step HB.out hb)
          have n1_ := Aside0.mk (blk_below BR.out hb)
          have n2_ := Aside0.mk (blk_below B8.out hb)
          have n3_ := Aside0.mk (Kd.C_below H3.out hb)
          have m0_ := Aside0.mk (Kd.C_below HN75.out hb)
          clear HB BR B8 H3 HN75
          have HB := n0_
          have BR := n1_
          have B8 := n2_
          have H3 := n3_
          have HN75 := m0_
          clear n0_ n1_ n2_ n3_ hb m0_
          generalize w1.heap.size = nb70 at hN ⊢
          have hN : Aside0 (Kd.C k25 (w1.alloc (.cells #[.slice A3 s.f0.length c3, .int .i64 s.f1, .slice A0 x.f0.length c0, .int .i64 x.f1] 25)) (some ⟨nb70, 0, none⟩) 2 _) := hN
          generalize w1.alloc _ = w1 at hN HB BR B8 H3 HN75 ⊢
          have HN70 := hN
          clear hN
          refine hK.out _ _ ⟨⟨(blk_cell BR.out 0).trans rfl, (blk_cell BR.out 1).trans rfl⟩, (blk_cell B8.out 0).trans rfl, (blk_cell B8.out 1).trans rfl⟩ (fun hHeld => ?_)
          clear hK K
          refine one_ (i := 19) (N := some 71) #[true, true, true, true, true, true, true, true, true, true, true, true, true, true, true, true, true, true, true, true, false, true, true, true, false, false, false, false, false, false, false, false, false, false, false, false, false, false, false] rfl rfl (one_of HT_.out (by kernel_rfl)) (by decide) (fun K hK => ?_)
          refine goes_ Try.func11 (by kernel_rfl) rfl #[.slice (some ⟨nb70, 0, none⟩) 2 2] (by rfl) rfl rfl (by (try simp only [List.map_toArray, List.map_cons, List.map_nil]); first | done | rfl) ?_
          refine (sort_len [s, x] 1 _ HN70.out (by simp) ok1 hn1).mono ?_
          rintro e w1 ⟨A71, c71, rfl, hb⟩
          refine ⟨_, rfl, ?_⟩
          have n0_ := Aside0.mk (below_step HB.out hb)
          have n1_ := Aside0.mk (blk_below BR.out hb)
          have n2_ := Aside0.mk (blk_below B8.out hb)
          have n3_ := Aside0.mk (Kd.C_below H3.out hb)
          have m0_ := Aside0.mk (Kd.C_below HN75.out hb)
          have m1_ := Aside0.mk (Kd.C_below HN70.out hb)
          clear HB BR B8 H3 HN75 HN70
          have HB := n0_
          have BR := n1_
          have B8 := n2_
          have H3 := n3_
          have HN75 := m0_
          have HN70 := m1_
          clear n0_ n1_ n2_ n3_ hb m0_ m1_
          refine hK.out _ _ ⟨⟨(blk_cell BR.out 0).trans rfl, (blk_cell BR.out 1).trans rfl⟩, (blk_cell B8.out 0).trans rfl, (blk_cell B8.out 1).trans rfl⟩ (fun hHeld => ?_)
          clear hK K
          refine norm_ (a' := ?_) ?_ ?_
          rotate_left
          · show Act.put _ (some 71) _ = _
            simp only [Act.put, List.setIfInBounds_toArray, List.set_cons_zero, List.set_cons_succ, i64_w, i32_w]
            rfl
          refine pure_ (i := 20) (N := some 72) (v := ?_) (a' := ?_) #[true, true, true, true, true, true, true, true, true, true, true, true, true, true, true, true, true, true, true, true, true, true, true, true, false, false, false, false, false, false, false, false, false, false, false, false, false, false, false] rfl rfl (any_of HT_.out (by kernel_rfl)) (fun _ _ _ h => h) (Or.inl ⟨by rfl, ?_⟩) ?_ ?_
          rotate_left
          · intro w'
            go_simp
            with_reducible rfl
          rotate_left
          · simp only [Act.put, List.setIfInBounds_toArray, List.set_cons_zero, List.set_cons_succ, i64_w, i32_w]
            rfl
          exact norm_ (by first | (simp only [putAll, Act.put, List.setIfInBounds_toArray, List.set_cons_zero, List.set_cons_succ]; done) | (simp only [putAll, Act.put, List.setIfInBounds_toArray, List.set_cons_zero, List.set_cons_succ]; rfl)) (hCont (.slice (some ⟨nb70, 0, none⟩) 2 2, .slice (some ⟨nb75, 0, none⟩) 2 2, .slice A71 1 c71) _ ⟨HB.out, BR.out, B8.out, H3.out, _, rfl, HN75.out⟩)
      clear HB BR B8 H3 hHeld
      rintro ⟨s1, s2, s3⟩ w1 ⟨hB, hR, h8, h3, nb75, e2, hN⟩
      simp only at e2
      subst e2
      have HB := Aside0.mk hB
      have BR := Aside0.mk hR
      have B8 := Aside0.mk h8
      have H3 := Aside0.mk h3
      have HN75 := Aside0.mk hN
      have hHeld := (show (w1.cell? ⟨w.heap.size, 0, none⟩ = some (.slice A0 x.f0.length c0) ∧ w1.cell? ⟨w.heap.size, 1, none⟩ = some (.int .i64 x.f1)) ∧ w1.cell? ⟨b8, 0, none⟩ = some (.slice A3 s.f0.length c3) ∧ w1.cell? ⟨b8, 1, none⟩ = some (.int .i64 s.f1) from ⟨⟨(blk_cell BR.out 0).trans rfl, (blk_cell BR.out 1).trans rfl⟩, (blk_cell B8.out 0).trans rfl, (blk_cell B8.out 1).trans rfl⟩)
      clear hB hR h8 h3 hN
      refine norm_ (a' := ?_) ?_ ?_
      rotate_left
      · simp only [putAll, Act.put, List.setIfInBounds_toArray, List.set_cons_zero, List.set_cons_succ]
        rfl
      refine one_ (i := 24) (N := some 76) #[true, true, true, true, true, true, true, true, true, true, true, true, true, true, true, true, true, true, true, true, true, true, true, true, true, false, false, false, false, false, false, false, false, false, false, false, false, false, false] rfl rfl (one_of HT_.out (by kernel_rfl)) (by decide) (fun K hK => ?_)
      refine goes_ Try.func11 (by kernel_rfl) rfl #[.slice (some ⟨nb75, 0, none⟩) 2 2] (by rfl) rfl rfl (by (try simp only [List.map_toArray, List.map_cons, List.map_nil]); first | done | rfl) ?_
      refine (sort_len [x, s] 1 _ HN75.out (by simp) ok2 hn2).mono ?_
      rintro e w1 ⟨A76, c76, rfl, hb⟩
      refine ⟨_, rfl, ?_⟩
      have n0_ := Aside0.mk (below_step HB.out hb)
      have n1_ := Aside0.mk (blk_below BR.out hb)
      have n2_ := Aside0.mk (blk_below B8.out hb)
      have n3_ := Aside0.mk (Kd.C_below H3.out hb)
      have m0_ := Aside0.mk (Kd.C_below HN75.out hb)
      clear HB BR B8 H3 HN75
      have HB := n0_
      have BR := n1_
      have B8 := n2_
      have H3 := n3_
      have HN75 := m0_
      clear n0_ n1_ n2_ n3_ hb m0_
      refine hK.out _ _ ⟨⟨(blk_cell BR.out 0).trans rfl, (blk_cell BR.out 1).trans rfl⟩, (blk_cell B8.out 0).trans rfl, (blk_cell B8.out 1).trans rfl⟩ (fun hHeld => ?_)
      clear hK K
      refine norm_ (a' := ?_) ?_ ?_
      rotate_left
      · show Act.put _ (some 76) _ = _
        simp only [Act.put, List.setIfInBounds_toArray, List.set_cons_zero, List.set_cons_succ, i64_w, i32_w]
        rfl
      clear HN75
      refine pure_ (i := 25) (N := some 77) (v := ?_) (a' := ?_) #[true, true, true, true, true, true, true, true, true, true, true, true, true, true, true, true, true, true, true, true, true, true, true, true, true, true, false, false, false, false, false, false, false, false, false, false, false, false, false] rfl rfl (any_of HT_.out (by kernel_rfl)) (fun _ _ _ h => h) (Or.inl ⟨by rfl, ?_⟩) ?_ ?_
      rotate_left
      · intro w'
        go_simp
        with_reducible rfl
      rotate_left
      · simp only [Act.put, List.setIfInBounds_toArray, List.set_cons_zero, List.set_cons_succ, i64_w, i32_w]
        rfl
      refine pure_ (i := 26) (N := some 78) (v := ?_) (a' := ?_) #[true, true, true, true, true, true, true, true, true, true, true, true, true, true, true, true, true, true, true, true, true, true, true, true, true, true, true, false, false, false, false, false, false, false, false, false, false, false, false] rfl rfl (any_of HT_.out (by kernel_rfl)) (fun _ _ _ h => h) (Or.inl ⟨by rfl, ?_⟩) ?_ ?_
      rotate_left
      · intro w'
        go_simp
        with_reducible rfl
      rotate_left
      · simp only [Act.put, List.setIfInBounds_toArray, List.set_cons_zero, List.set_cons_succ, i64_w, i32_w]
        rfl
      refine pure_ (i := 27) (N := some 79) (v := ?_) (a' := ?_) #[true, true, true, true, true, true, true, true, true, true, true, true, true, true, true, true, true, true, true, true, true, true, true, true, true, true, true, true, false, false, false, false, false, false, false, false, false, false, false] rfl rfl (any_of HT_.out (by kernel_rfl)) (fun _ _ _ h => h) (Or.inl ⟨by rfl, ?_⟩) ?_ ?_
      rotate_left
      · intro w'
        go_simp
        with_reducible rfl
      rotate_left
      · simp only [Act.put, List.setIfInBounds_toArray, List.set_cons_zero, List.set_cons_succ, i64_w, i32_w]
        rfl
      refine pure_ (i := 28) (N := some 80) (v := ?_) (a' := ?_) #[true, true, true, true, true, true, true, true, true, true, true, true, true, true, true, true, true, true, true, true, true, true, true, true, true, true, true, true, true, false, false, false, false, false, false, false, false, false, false] rfl rfl (any_of HT_.out (by kernel_rfl)) (fun _ _ _ h => h) (Or.inl ⟨by rfl, ?_⟩) ?_ ?_
      rotate_left
      · intro w'
        go_simp
        with_reducible rfl
      rotate_left
      · simp only [Act.put, List.setIfInBounds_toArray, List.set_cons_zero, List.set_cons_succ, i64_w, i32_w]
        rfl
      refine take_ (i := 29) (N := some 81) (v := ?_) (a' := ?_) #[true, true, true, true, true, true, true, true, true, true, true, true, true, true, true, true, true, true, true, true, true, true, true, true, true, true, true, true, true, true, false, false, false, false, false, false, false, false, false] rfl rfl (take_ofW HT_.out HW_.out (by kernel_rfl)) (fun _ _ _ h => h) (Or.inl ⟨by rfl, ?_⟩) hHeld ?_ ?_
      rotate_left
      · rintro w' ⟨⟨s0, s1⟩, s2, s3⟩
        go_simp
        with_reducible rfl
      rotate_left
      · simp only [Act.put, List.setIfInBounds_toArray, List.set_cons_zero, List.set_cons_succ, i64_w, i32_w]
        rfl
      refine take_ (i := 30) (N := some 82) (v := ?_) (a' := ?_) #[true, true, true, true, true, true, true, true, true, true, true, true, true, true, true, true, true, true, true, true, true, true, true, true, true, true, true, true, true, true, true, false, false, false, false, false, false, false, false] rfl rfl (take_ofW HT_.out HW_.out (by kernel_rfl)) (fun _ _ _ h => h) (Or.inl ⟨by rfl, ?_⟩) hHeld ?_ ?_
      rotate_left
      · rintro w' ⟨⟨s0, s1⟩, s2, s3⟩
        go_simp
        with_reducible rfl
      rotate_left
      · simp only [Act.put, List.setIfInBounds_toArray, List.set_cons_zero, List.set_cons_succ, i64_w, i32_w]
        rfl
      refine pure_ (i := 35) (N := some 87) (v := ?_) (a' := ?_) #[true, true, true, true, true, true, true, true, true, true, true, true, true, true, true, true, true, true, true, true, true, true, true, true, true, true, true, true, true, true, true, false, false, false, false, true, false, false, false] rfl rfl (any_of HT_.out (by kernel_rfl)) (fun _ _ _ h => h) (Or.inl ⟨by rfl, ?_⟩) ?_ ?_
      rotate_left
      · intro w'
        go_simp
        with_reducible rfl
      rotate_left
      · simp only [Act.put, List.setIfInBounds_toArray, List.set_cons_zero, List.set_cons_succ, i64_w, i32_w]
        rfl
      refine one_ (i := 31) (N := some 83) #[true, true, true, true, true, true, true, true, true, true, true, true, true, true, true, true, true, true, true, true, true, true, true, true, true, true, true, true, true, true, true, true, false, false, false, true, false, false, false] rfl rfl (one_of HT_.out (by kernel_rfl)) (by decide) (fun K hK => ?_)
      rw [if_pos (by rfl)]
      go_simp
      have hN := Aside0.mk (lit_xs x s (Kd.C_below H0.out HB.out) i0 H3.out i3)
      have hb := below_alloc (Below.refl w1.heap.size w1) (.cells #[.slice A0 x.f0.length c0, .int .i64 x.f1, .slice A3 s.f0.length c3, .int .i64 s.f1] 25)
      have n0_ := Aside0.mk (below_step HB.out hb)
      have n1_ := Aside0.mk (blk_below BR.out hb)
      have n2_ := Aside0.mk (blk_below B8.out hb)
      have n3_ := Aside0.mk (Kd.C_below H3.out hb)
      clear HB BR B8 H3 
      have HB := n0_
      have BR := n1_
      have B8 := n2_
      have H3 := n3_
      clear n0_ n1_ n2_ n3_ hb 
      generalize w1.heap.size = nb83 at hN ⊢
      have hN : Aside0 (Kd.C k25 (w1.alloc (.cells #[.slice A0 x.f0.length c0, .int .i64 x.f1, .slice A3 s.f0.length c3, .int .i64 s.f1] 25)) (some ⟨nb83, 0, none⟩) 2 _) := hN
      generalize w1.alloc _ = w1 at hN HB BR B8 H3  ⊢
      have HN83 := hN
      clear hN
      refine hK.out _ _ ⟨⟨(blk_cell BR.out 0).trans rfl, (blk_cell BR.out 1).trans rfl⟩, (blk_cell B8.out 0).trans rfl, (blk_cell B8.out 1).trans rfl⟩ (fun hHeld => ?_)
      clear hK K
      refine one_ (i := 32) (N := some 84) #[true, true, true, true, true, true, true, true, true, true, true, true, true, true, true, true, true, true, true, true, true, true, true, true, true, true, true, true, true, true, true, true, true, false, false, true, false, false, false] rfl rfl (one_of HT_.out (by kernel_rfl)) (by decide) (fun K hK => ?_)
      refine goes_ Try.func11 (by kernel_rfl) rfl #[.slice (some ⟨nb83, 0, none⟩) 2 2] (by rfl) rfl rfl (by (try simp only [List.map_toArray, List.map_cons, List.map_nil]); first | done | rfl) ?_
      refine (sort_len [x, s] 1 _ HN83.out (by simp) ok2 hn2).mono ?_
      rintro e w1 ⟨A84, c84, rfl, hb⟩
      refine ⟨_, rfl, ?_⟩
      have n0_ := Aside0.mk (below_step HB.out hb)
      have n1_ := Aside0.mk (blk_below BR.out hb)
      have n2_ := Aside0.mk (blk_below B8.out hb)
      have n3_ := Aside0.mk (Kd.C_below H3.out hb)
      have m0_ := Aside0.mk (Kd.C_below HN83.out hb)
      clear HB BR B8 H3 HN83
      have HB := n0_
      have BR := n1_
      have B8 := n2_
      have H3 := n3_
      have HN83 := m0_
      clear n0_ n1_ n2_ n3_ hb m0_
      refine hK.out _ _ ⟨⟨(blk_cell BR.out 0).trans rfl, (blk_cell BR.out 1).trans rfl⟩, (blk_cell B8.out 0).trans rfl, (blk_cell B8.out 1).trans rfl⟩ (fun hHeld => ?_)
      clear hK K
      refine norm_ (a' := ?_) ?_ ?_
      rotate_left
      · show Act.put _ (some 84) _ = _
        simp only [Act.put, List.setIfInBounds_toArray, List.set_cons_zero, List.set_cons_succ, i64_w, i32_w]
        rfl
      clear HN83
      refine pure_ (i := 33) (N := some 85) (v := ?_) (a' := ?_) #[true, true, true, true, true, true, true, true, true, true, true, true, true, true, true, true, true, true, true, true, true, true, true, true, true, true, true, true, true, true, true, true, true, true, false, true, false, false, false] rfl rfl (any_of HT_.out (by kernel_rfl)) (fun _ _ _ h => h) (Or.inl ⟨by rfl, ?_⟩) ?_ ?_
      rotate_left
      · intro w'
        go_simp
        with_reducible rfl
      rotate_left
      · simp only [Act.put, List.setIfInBounds_toArray, List.set_cons_zero, List.set_cons_succ, i64_w, i32_w]
        rfl
      refine pure_ (i := 34) (N := some 86) (v := ?_) (a' := ?_) #[true, true, true, true, true, true, true, true, true, true, true, true, true, true, true, true, true, true, true, true, true, true, true, true, true, true, true, true, true, true, true, true, true, true, true, true, false, false, false] rfl rfl (any_of HT_.out (by kernel_rfl)) (fun _ _ _ h => h) (Or.inl ⟨by rfl, ?_⟩) ?_ ?_
      rotate_left
      · intro w'
        go_simp
        with_reducible rfl
      rotate_left
      · simp only [Act.put, List.setIfInBounds_toArray, List.set_cons_zero, List.set_cons_succ, i64_w, i32_w]
        rfl
      refine pure_ (i := 36) (N := some 88) (v := ?_) (a' := ?_) #[true, true, true, true, true, true, true, true, true, true, true, true, true, true, true, true, true, true, true, true, true, true, true, true, true, true, true, true, true, true, true, true, true, true, true, true, true, false, false] rfl rfl (any_of HT_.out (by kernel_rfl)) (fun _ _ _ h => h) (Or.inl ⟨by rfl, ?_⟩) ?_ ?_
      rotate_left
      · intro w'
        go_simp
        with_reducible rfl
      rotate_left
      · simp only [Act.put, List.setIfInBounds_toArray, List.set_cons_zero, List.set_cons_succ, i64_w, i32_w]
        rfl
      refine pure_ (i := 37) (N := some 89) (v := ?_) (a' := ?_) #[true, true, true, true, true, true, true, true, true, true, true, true, true, true, true, true, true, true, true, true, true, true, true, true, true, true, true, true, true, true, true, true, true, true, true, true, true, true, false] rfl rfl (any_of HT_.out (by kernel_rfl)) (fun _ _ _ h => h) (Or.inl ⟨by rfl, ?_⟩) ?_ ?_
      rotate_left
      · intro w'
        go_simp
        with_reducible rfl
      rotate_left
      · simp only [Act.put, List.setIfInBounds_toArray, List.set_cons_zero, List.set_cons_succ, i64_w, i32_w]
        rfl
      refine pure_ (i := 38) (N := some 6) (v := ?_) (a' := ?_) #[true, true, true, true, true, true, true, true, true, true, true, true, true, true, true, true, true, true, true, true, true, true, true, true, true, true, true, true, true, true, true, true, true, true, true, true, true, true, true] rfl rfl (any_of HT_.out (by kernel_rfl)) (fun _ _ _ h => h) (Or.inl ⟨by rfl, ?_⟩) ?_ ?_
      rotate_left
      · intro w'
        go_simp
        with_reducible rfl
      rotate_left
      · simp only [Act.put, List.setIfInBounds_toArray, List.set_cons_zero, List.set_cons_succ, i64_w, i32_w]
        rfl
      refine done_ (done_of HT_.out (by kernel_rfl)) ?_
      go_wp2
      go_ret
      exact ⟨rfl, HB.out⟩
    · have dm : ((m.length : Int) == 0) = false := by
        have := List.length_pos_iff.2 em
        simp; exact em
      have hc : cmpR x s = -1 := by rw [HS.out]; exact lon_less x m L (by omega) (fun h => em h.2)
      have hless1 : decide (cmpR x s < 0) = true := by rw [hc]; rfl
      have hless2 : decide (cmpR s x < 0) = false := by rw [h2, hc]; rfl
      have hn1 : (sortR [s, x]).length = 2 := by rw [pair_sort, if_neg (by omega)]
      have hn2 : (sortR [x, s]).length = 2 := by rw [pair_sort, if_neg (by omega)]
      clear h2 hc eL
      try clear em
      go_wp2_with fail
      have n0_ := Aside0.mk (below_drew1 HB.out)
      have n1_ := Aside0.mk (blk_drew BR.out)
      have n2_ := Aside0.mk (blk_drew B8.out)
      have n3_ := Aside0.mk (Kd.C_drew H3.out)
      clear HB BR B8 H3
      have HB := n0_
      have BR := n1_
      have B8 := n2_
      have H3 := n3_
      clear n0_ n1_ n2_ n3_
      refine start_ (n := 39) (S := fun w' => (w'.cell? ⟨w.heap.size, 0, none⟩ = some (.slice A0 x.f0.length c0) ∧ w'.cell? ⟨w.heap.size, 1, none⟩ = some (.int .i64 x.f1)) ∧ w'.cell? ⟨b8, 0, none⟩ = some (.slice A3 s.f0.length c3) ∧ w'.cell? ⟨b8, 1, none⟩ = some (.int .i64 s.f1)) (ds := []) #[false, false, false, false, false, false, false, false, false, false, false, false, false, false, false, false, false, false, false, false, false, false, false, false, false, false, false, false, false, false, false, false, false, false, false, false, false, false, false] (by kernel_rfl) rfl rfl ⟨⟨(blk_cell BR.out 0).trans rfl, (blk_cell BR.out 1).trans rfl⟩, (blk_cell B8.out 0).trans rfl, (blk_cell B8.out 1).trans rfl⟩ (fun hHeld => ?_); refine with_tabW longer.tab6 longer.bits6 (fun HT_ HW_ => ?_)
      generalize World.drew _ = w1 at HB BR B8 H3 hHeld ⊢
      refine pure_ (i := 0) (N := some 52) (v := ?_) (a' := ?_) #[true, false, false, false, false, false, false, false, false, false, false, false, false, false, false, false, false, false, false, false, false, false, false, false, false, false, false, false, false, false, false, false, false, false, false, false, false, false, false] rfl rfl (any_of HT_.out (by kernel_rfl)) (fun _ _ _ h => h) (Or.inl ⟨by rfl, ?_⟩) ?_ ?_
      rotate_left
      · intro w'
        go_simp
        with_reducible rfl
      rotate_left
      · simp only [Act.put, List.setIfInBounds_toArray, List.set_cons_zero, List.set_cons_succ, i64_w, i32_w]
        rfl
      refine pure_ (i := 1) (N := some 53) (v := ?_) (a' := ?_) #[true, true, false, false, false, false, false, false, false, false, false, false, false, false, false, false, false, false, false, false, false, false, false, false, false, false, false, false, false, false, false, false, false, false, false, false, false, false, false] rfl rfl (any_of HT_.out (by kernel_rfl)) (fun _ _ _ h => h) (Or.inl ⟨by rfl, ?_⟩) ?_ ?_
      rotate_left
      · intro w'
        go_simp
        with_reducible rfl
      rotate_left
      · simp only [Act.put, List.setIfInBounds_toArray, List.set_cons_zero, List.set_cons_succ, i64_w, i32_w]
        rfl
      refine take_ (i := 2) (N := some 54) (v := ?_) (a' := ?_) #[true, true, true, false, false, false, false, false, false, false, false, false, false, false, false, false, false, false, false, false, false, false, false, false, false, false, false, false, false, false, false, false, false, false, false, false, false, false, false] rfl rfl (take_ofW HT_.out HW_.out (by kernel_rfl)) (fun _ _ _ h => h) (Or.inl ⟨by rfl, ?_⟩) hHeld ?_ ?_
      rotate_left
      · rintro w' ⟨⟨s0, s1⟩, s2, s3⟩
        go_simp
        with_reducible rfl
      rotate_left
      · simp only [Act.put, List.setIfInBounds_toArray, List.set_cons_zero, List.set_cons_succ, i64_w, i32_w]
        rfl
      refine take_ (i := 3) (N := some 55) (v := ?_) (a' := ?_) #[true, true, true, true, false, false, false, false, false, false, false, false, false, false, false, false, false, false, false, false, false, false, false, false, false, false, false, false, false, false, false, false, false, false, false, false, false, false, false] rfl rfl (take_ofW HT_.out HW_.out (by kernel_rfl)) (fun _ _ _ h => h) (Or.inl ⟨by rfl, ?_⟩) hHeld ?_ ?_
      rotate_left
      · rintro w' ⟨⟨s0, s1⟩, s2, s3⟩
        go_simp
        with_reducible rfl
      rotate_left
      · simp only [Act.put, List.setIfInBounds_toArray, List.set_cons_zero, List.set_cons_succ, i64_w, i32_w]
        rfl
      refine pure_ (i := 5) (N := some 57) (v := ?_) (a' := ?_) #[true, true, true, true, false, true, false, false, false, false, false, false, false, false, false, false, false, false, false, false, false, false, false, false, false, false, false, false, false, false, false, false, false, false, false, false, false, false, false] rfl rfl (any_of HT_.out (by kernel_rfl)) (fun _ _ _ h => h) (Or.inl ⟨by rfl, ?_⟩) ?_ ?_
      rotate_left
      · intro w'
        go_simp
        with_reducible rfl
      rotate_left
      · simp only [Act.put, List.setIfInBounds_toArray, List.set_cons_zero, List.set_cons_succ, i64_w, i32_w]
        rfl
      refine pure_ (i := 6) (N := some 58) (v := ?_) (a' := ?_) #[true, true, true, true, false, true, true, false, false, false, false, false, false, false, false, false, false, false, false, false, false, false, false, false, false, false, false, false, false, false, false, false, false, false, false, false, false, false, false] rfl rfl (any_of HT_.out (by kernel_rfl)) (fun _ _ _ h => h) (Or.inl ⟨by rfl, ?_⟩) ?_ ?_
      rotate_left
      · intro w'
        go_simp
        with_reducible rfl
      rotate_left
      · simp only [Act.put, List.setIfInBounds_toArray, List.set_cons_zero, List.set_cons_succ, i64_w, i32_w]
        rfl
      refine one_ (i := 4) (N := some 56) #[true, true, true, true, true, true, true, false, false, false, false, false, false, false, false, false, false, false, false, false, false, false, false, false, false, false, false, false, false, false, false, false, false, false, false, false, false, false, false] rfl rfl (one_of HT_.out (by kernel_rfl)) (by decide) (fun K hK => ?_)
      refine goes_ Try.func19 (by kernel_rfl) rfl #[.agg #[.slice A0 x.f0.length c0, .int .i64 x.f1], .agg #[.slice A3 s.f0.length c3, .int .i64 s.f1]] (by rfl) rfl rfl (by (try simp only [List.map_toArray, List.map_cons, List.map_nil]); first | done | rfl) ?_
      refine (less_is x s _ _ (Kd.C_below H0.out HB.out) i0 H3.out i3 (by omega) hl3 hless1).mono ?_
      rintro e w1 ⟨rfl, hb⟩
      refine ⟨_, rfl, ?_⟩
      have n0_ := Aside0.mk (below_step HB.out hb)
      have n1_ := Aside0.mk (blk_below BR.out hb)
      have n2_ := Aside0.mk (blk_below B8.out hb)
      have n3_ := Aside0.mk (Kd.C_below H3.out hb)
      clear HB BR B8 H3 
      have HB := n0_
      have BR := n1_
      have B8 := n2_
      have H3 := n3_
      clear n0_ n1_ n2_ n3_ hb 
      refine hK.out _ _ ⟨⟨(blk_cell BR.out 0).trans rfl, (blk_cell BR.out 1).trans rfl⟩, (blk_cell B8.out 0).trans rfl, (blk_cell B8.out 1).trans rfl⟩ (fun hHeld => ?_)
      clear hK K
      refine norm_ (a' := ?_) ?_ ?_
      rotate_left
      · show Act.put _ (some 56) _ = _
        simp only [Act.put, List.setIfInBounds_toArray, List.set_cons_zero, List.set_cons_succ, i64_w, i32_w]
        rfl
      refine pure_ (i := 7) (N := some 59) (v := ?_) (a' := ?_) #[true, true, true, true, true, true, true, true, false, false, false, false, false, false, false, false, false, false, false, false, false, false, false, false, false, false, false, false, false, false, false, false, false, false, false, false, false, false, false] rfl rfl (any_of HT_.out (by kernel_rfl)) (fun _ _ _ h => h) (Or.inl ⟨by rfl, ?_⟩) ?_ ?_
      rotate_left
      · intro w'
        go_simp
        with_reducible rfl
      rotate_left
      · simp only [Act.put, List.setIfInBounds_toArray, List.set_cons_zero, List.set_cons_succ, i64_w, i32_w]
        rfl
      refine pure_ (i := 8) (N := some 60) (v := ?_) (a' := ?_) #[true, true, true, true, true, true, true, true, true, false, false, false, false, false, false, false, false, false, false, false, false, false, false, false, false, false, false, false, false, false, false, false, false, false, false, false, false, false, false] rfl rfl (any_of HT_.out (by kernel_rfl)) (fun _ _ _ h => h) (Or.inl ⟨by rfl, ?_⟩) ?_ ?_
      rotate_left
      · intro w'
        go_simp
        with_reducible rfl
      rotate_left
      · simp only [Act.put, List.setIfInBounds_toArray, List.set_cons_zero, List.set_cons_succ, i64_w, i32_w]
        rfl
      refine pure_ (i := 9) (N := some 61) (v := ?_) (a' := ?_) #[true, true, true, true, true, true, true, true, true, true, false, false, false, false, false, false, false, false, false, false, false, false, false, false, false, false, false, false, false, false, false, false, false, false, false, false, false, false, false] rfl rfl (any_of HT_.out (by kernel_rfl)) (fun _ _ _ h => h) (Or.inl ⟨by rfl, ?_⟩) ?_ ?_
      rotate_left
      · intro w'
        go_simp
        with_reducible rfl
      rotate_left
      · simp only [Act.put, List.setIfInBounds_toArray, List.set_cons_zero, List.set_cons_succ, i64_w, i32_w]
        rfl
      refine take_ (i := 10) (N := some 62) (v := ?_) (a' := ?_) #[true, true, true, true, true, true, true, true, true, true, true, false, false, false, false, false, false, false, false, false, false, false, false, false, false, false, false, false, false, false, false, false, false, false, false, false, false, false, false] rfl rfl (take_ofW HT_.out HW_.out (by kernel_rfl)) (fun _ _ _ h => h) (Or.inl ⟨by rfl, ?_⟩) hHeld ?_ ?_
      rotate_left
      · rintro w' ⟨⟨s0, s1⟩, s2, s3⟩
        go_simp
        with_reducible rfl
      rotate_left
      · simp only [Act.put, List.setIfInBounds_toArray, List.set_cons_zero, List.set_cons_succ, i64_w, i32_w]
        rfl
      refine take_ (i := 11) (N := some 63) (v := ?_) (a' := ?_) #[true, true, true, true, true, true, true, true, true, true, true, true, false, false, false, false, false, false, false, false, false, false, false, false, false, false, false, false, false, false, false, false, false, false, false, false, false, false, false] rfl rfl (take_ofW HT_.out HW_.out (by kernel_rfl)) (fun _ _ _ h => h) (Or.inl ⟨by rfl, ?_⟩) hHeld ?_ ?_
      rotate_left
      · rintro w' ⟨⟨s0, s1⟩, s2, s3⟩
        go_simp
        with_reducible rfl
      rotate_left
      · simp only [Act.put, List.setIfInBounds_toArray, List.set_cons_zero, List.set_cons_succ, i64_w, i32_w]
        rfl
      refine one_ (i := 12) (N := some 64) #[true, true, true, true, true, true, true, true, true, true, true, true, true, false, false, false, false, false, false, false, false, false, false, false, false, false, false, false, false, false, false, false, false, false, false, false, false, false, false] rfl rfl (one_of HT_.out (by kernel_rfl)) (by decide) (fun K hK => ?_)
      refine goes_ Try.func19 (by kernel_rfl) rfl #[.agg #[.slice A3 s.f0.length c3, .int .i64 s.f1], .agg #[.slice A0 x.f0.length c0, .int .i64 x.f1]] (by rfl) rfl rfl (by (try simp only [List.map_toArray, List.map_cons, List.map_nil]); first | done | rfl) ?_
      refine (less_is s x _ _ H3.out i3 (Kd.C_below H0.out HB.out) i0 hl3 (by omega) hless2).mono ?_
      rintro e w1 ⟨rfl, hb⟩
      refine ⟨_, rfl, ?_⟩
      have n0_ := Aside0.mk (below_step HB.out hb)
      have n1_ := Aside0.mk (blk_below BR.out hb)
      have n2_ := Aside0.mk (blk_below B8.out hb)
      have n3_ := Aside0.mk (Kd.C_below H3.out hb)
      clear HB BR B8 H3 
      have HB := n0_
      have BR := n1_
      have B8 := n2_
      have H3 := n3_
      clear n0_ n1_ n2_ n3_ hb 
      refine hK.out _ _ ⟨⟨(blk_cell BR.out 0).trans rfl, (blk_cell BR.out 1).trans rfl⟩, (blk_cell B8.out 0).trans rfl, (blk_cell B8.out 1).trans rfl⟩ (fun hHeld => ?_)
      clear hK K
      refine norm_ (a' := ?_) ?_ ?_
      rotate_left
      · show Act.put _ (some 64) _ = _
        simp only [Act.put, List.setIfInBounds_toArray, List.set_cons_zero, List.set_cons_succ, i64_w, i32_w]
        rfl
      refine pure_ (i := 13) (N := some 65) (v := ?_) (a' := ?_) #[true, true, true, true, true, true, true, true, true, true, true, true, true, true, false, false, false, false, false, false, false, false, false, false, false, false, false, false, false, false, false, false, false, false, false, false, false, false, false] rfl rfl (any_of HT_.out (by kernel_rfl)) (fun _ _ _ h => h) (Or.inl ⟨by rfl, ?_⟩) ?_ ?_
      rotate_left
      · intro w'
        go_simp
        with_reducible rfl
      rotate_left
      · simp only [Act.put, List.setIfInBounds_toArray, List.set_cons_zero, List.set_cons_succ, i64_w, i32_w]
        rfl
      refine pure_ (i := 14) (N := some 66) (v := ?_) (a' := ?_) #[true, true, true, true, true, true, true, true, true, true, true, true, true, true, true, false, false, false, false, false, false, false, false, false, false, false, false, false, false, false, false, false, false, false, false, false, false, false, false] rfl rfl (any_of HT_.out (by kernel_rfl)) (fun _ _ _ h => h) (Or.inl ⟨by rfl, ?_⟩) ?_ ?_
      rotate_left
      · intro w'
        go_simp
        with_reducible rfl
      rotate_left
      · simp only [Act.put, List.setIfInBounds_toArray, List.set_cons_zero, List.set_cons_succ, i64_w, i32_w]
        rfl
      refine pure_ (i := 15) (N := some 67) (v := ?_) (a' := ?_) #[true, true, true, true, true, true, true, true, true, true, true, true, true, true, true, true, false, false, false, false, false, false, false, false, false, false, false, false, false, false, false, false, false, false, false, false, false, false, false] rfl rfl (any_of HT_.out (by kernel_rfl)) (fun _ _ _ h => h) (Or.inl ⟨by rfl, ?_⟩) ?_ ?_
      rotate_left
      · intro w'
        go_simp
        with_reducible rfl
      rotate_left
      · simp only [Act.put, List.setIfInBounds_toArray, List.set_cons_zero, List.set_cons_succ, i64_w, i32_w]
        rfl
      refine take_ (i := 16) (N := some 68) (v := ?_) (a' := ?_) #[true, true, true, true, true, true, true, true, true, true, true, true, true, true, true, true, true, false, false, false, false, false, false, false, false, false, false, false, false, false, false, false, false, false, false, false, false, false, false] rfl rfl (take_ofW HT_.out HW_.out (by kernel_rfl)) (fun _ _ _ h => h) (Or.inl ⟨by rfl, ?_⟩) hHeld ?_ ?_
      rotate_left
      · rintro w' ⟨⟨s0, s1⟩, s2, s3⟩
        go_simp
        with_reducible rfl
      rotate_left
      · simp only [Act.put, List.setIfInBounds_toArray, List.set_cons_zero, List.set_cons_succ, i64_w, i32_w]
        rfl
      refine take_ (i := 17) (N := some 69) (v := ?_) (a' := ?_) #[true, true, true, true, true, true, true, true, true, true, true, true, true, true, true, true, true, true, false, false, false, false, false, false, false, false, false, false, false, false, false, false, false, false, false, false, false, false, false] rfl rfl (take_ofW HT_.out HW_.out (by kernel_rfl)) (fun _ _ _ h => h) (Or.inl ⟨by rfl, ?_⟩) hHeld ?_ ?_
      rotate_left
      · rintro w' ⟨⟨s0, s1⟩, s2, s3⟩
        go_simp
        with_reducible rfl
      rotate_left
      · simp only [Act.put, List.setIfInBounds_toArray, List.set_cons_zero, List.set_cons_succ, i64_w, i32_w]
        rfl
      refine take_ (i := 21) (N := some 73) (v := ?_) (a' := ?_) #[true, true, true, true, true, true, true, true, true, true, true, true, true, true, true, true, true, true, false, false, false, true, false, false, false, false, false, false, false, false, false, false, false, false, false, false, false, false, false] rfl rfl (take_ofW HT_.out HW_.out (by kernel_rfl)) (fun _ _ _ h => h) (Or.inl ⟨by rfl, ?_⟩) hHeld ?_ ?_
      rotate_left
      · rintro w' ⟨⟨s0, s1⟩, s2, s3⟩
        go_simp
        with_reducible rfl
      rotate_left
      · simp only [Act.put, List.setIfInBounds_toArray, List.set_cons_zero, List.set_cons_succ, i64_w, i32_w]
        rfl
      refine take_ (i := 22) (N := some 74) (v := ?_) (a' := ?_) #[true, true, true, true, true, true, true, true, true, true, true, true, true, true, true, true, true, true, false, false, false, true, true, false, false, false, false, false, false, false, false, false, false, false, false, false, false, false, false] rfl rfl (take_ofW HT_.out HW_.out (by kernel_rfl)) (fun _ _ _ h => h) (Or.inl ⟨by rfl, ?_⟩) hHeld ?_ ?_
      rotate_left
      · rintro w' ⟨⟨s0, s1⟩, s2, s3⟩
        go_simp
        with_reducible rfl
      rotate_left
      · simp only [Act.put, List.setIfInBounds_toArray, List.set_cons_zero, List.set_cons_succ, i64_w, i32_w]
        rfl
      refine join_ (σ := Value × Value × Value) 15 #[true, true, true, true, true, true, true, true, true, true, true, true, true, true, true, true, true, true, true, true, true, true, true, true, false, false, false, false, false, false, false, false, false, false, false, false, false, false, false] (fun s_ => [(70, s_.1), (75, s_.2.1), (71, s_.2.2), (72, .int .i64 2)]) (fun s_ w' => Below w.heap.size w w' ∧ w'.heap[w.heap.size]? = some (.cells #[.slice A0 x.f0.length c0, .int .i64 x.f1] 25 (0, 0)) ∧ w'.heap[b8]? = some (.cells #[.slice A3 s.f0.length c3, .int .i64 s.f1] 25 (0, 0)) ∧ Kd.C k34 w' A3 s.f0.length s.f0 ∧ (∃ nb, s_.2.1 = .slice (some ⟨nb, 0, none⟩) 2 2 ∧ Kd.C k25 w' (some ⟨nb, 0, none⟩) 2 [x, s])) ?_ ?_
      rotate_left
      · intro hCont
        refine two_ (i := 18) (j := 23) (Ni := some 70) (Nj := some 75) #[true, true, true, true, true, true, true, true, true, true, true, true, true, true, true, true, true, true, true, false, false, true, true, false, false, false, false, false, false, false, false, false, false, false, false, false, false, false, false] #[true, true, true, true, true, true, true, true, true, true, true, true, true, true, true, true, true, true, false, false, false, true, true, true, false, false, false, false, false, false, false, false, false, false, false, false, false, false, false] rfl rfl rfl rfl (two_of HT_.out (by kernel_rfl)) (by decide) (by decide) (fun K hK => ?_) (fun K hK => ?_)
        · skip
          rw [if_pos (by rfl)]
          go_simp
          have hN := Aside0.mk (lit_sx x s (Kd.C_below H0.out HB.out) i0 H3.out i3)
          have hb := below_alloc (Below.refl w1.heap.size w1) (.cells #[.slice A3 s.f0.length c3, .int .i64 s.f1, .slice A0 x.f0.length c0, .int .i64 x.f1] 25)
          have n0_ := Aside0.mk (below_step HB.out hb)
          have n1_ := Aside0.mk (blk_below BR.out hb)
          have n2_ := Aside0.mk (blk_below B8.out hb)
          have n3_ := Aside0.mk (Kd.C_below H3.out hb)
          clear HB BR B8 H3 
          have HB := n0_
          have BR := n1_
          have B8 := n2_
          have H3 := n3_
          clear n0_ n1_ n2_ n3_ hb 
          generalize w1.heap.size = nb70 at hN ⊢
          have hN : Aside0 (Kd.C k25 (w1.alloc (.cells #[.slice A3 s.f0.length c3, .int .i64 s.f1, .slice A0 x.f0.length c0, .int .i64 x.f1] 25)) (some ⟨nb70, 0, none⟩) 2 _) := hN
          generalize w1.alloc _ = w1 at hN HB BR B8 H3  ⊢
          have HN70 := hN
          clear hN
          refine hK.out _ _ ⟨⟨(blk_cell BR.out 0).trans rfl, (blk_cell BR.out 1).trans rfl⟩, (blk_cell B8.out 0).trans rfl, (blk_cell B8.out 1).trans rfl⟩ (fun hHeld => ?_)
          clear hK K
          refine two_ (i := 19) (j := 23) (Ni := some 71) (Nj := some 75) #[true, true, true, true, true, true, true, true, true, true, true, true, true, true, true, true, true, true, true, true, false, true, true, false, false, false, false, false, false, false, false, false, false, false, false, false, false, false, false] #[true, true, true, true, true, true, true, true, true, true, true, true, true, true, true, true, true, true, true, false, false, true, true, true, false, false, false, false, false, false, false, false, false, false, false, false, false, false, false] rfl rfl rfl rfl (two_of HT_.out (by kernel_rfl)) (by decide) (by decide) (fun K hK => ?_) (fun K hK => ?_)
          · skip
            refine goes_ Try.func11 (by kernel_rfl) rfl #[.slice (some ⟨nb70, 0, none⟩) 2 2] (by rfl) rfl rfl (by (try simp only [List.map_toArray, List.map_cons, List.map_nil]); first | done | rfl) ?_
            refine (sort_len [s, x] 2 _ HN70.out (by simp) ok1 hn1).mono ?_
            rintro e w1 ⟨A71, c71, rfl, hb⟩
            refine ⟨_, rfl, ?_⟩
            have n0_ := Aside0.mk (below_step HB.out hb)
            have n1_ := Aside0.mk (blk_below BR.out hb)
            have n2_ := Aside0.mk (blk_below B8.out hb)
            have n3_ := Aside0.mk (Kd.C_below H3.out hb)
            have m0_ := Aside0.mk (Kd.C_below HN70.out hb)
            clear HB BR B8 H3 HN70
            have HB := n0_
            have BR := n1_
            have B8 := n2_
            have H3 := n3_
            have HN70 := m0_
            clear n0_ n1_ n2_ n3_ hb m0_
            refine hK.out _ _ ⟨⟨(blk_cell BR.out 0).trans rfl, (blk_cell BR.out 1).trans rfl⟩, (blk_cell B8.out 0).trans rfl, (blk_cell B8.out 1).trans rfl⟩ (fun hHeld => ?_)
            clear hK K
            refine norm_ (a' := ?_) ?_ ?_
            rotate_left
            · show Act.put _ (some 71) _ = _
              simp only [Act.put, List.setIfInBounds_toArray, List.set_cons_zero, List.set_cons_succ, i64_w, i32_w]
              rfl
            refine pure_ (i := 20) (N := some 72) (v := ?_) (a' := ?_) #[true, true, true, true, true, true, true, true, true, true, true, true, true, true, true, true, true, true, true, true, true, true, true, false, false, false, false, false, false, false, false, false, false, false, false, false, false, false, false] rfl rfl (any_of HT_.out (by kernel_rfl)) (fun _ _ _ h => h) (Or.inl ⟨by rfl, ?_⟩) ?_ ?_
            rotate_left
            · intro w'
              go_simp
              with_reducible rfl
            rotate_left
            · simp only [Act.put, List.setIfInBounds_toArray, List.set_cons_zero, List.set_cons_succ, i64_w, i32_w]
              rfl
            refine one_ (i := 23) (N := some 75) #[true, true, true, true, true, true, true, true, true, true, true, true, true, true, true, true, true, true, true, true, true, true, true, true, false, false, false, false, false, false, false, false, false, false, false, false, false, false, false] rfl rfl (one_of HT_.out (by kernel_rfl)) (by decide) (fun K hK => ?_)
            rw [if_pos (by rfl)]
            go_simp
            have hN := Aside0.mk (lit_xs x s (Kd.C_below H0.out HB.out) i0 H3.out i3)
            have hb := below_alloc (Below.refl w1.heap.size w1) (.cells #[.slice A0 x.f0.length c0, .int .i64 x.f1, .slice A3 s.f0.length c3, .int .i64 s.f1] 25)
            have n0_ := Aside0.mk (below_step HB.out hb)
            have n1_ := Aside0.mk (blk_below BR.out hb)
            have n2_ := Aside0.mk (blk_below B8.out hb)
            have n3_ := Aside0.mk (Kd.C_below H3.out hb)
            have m0_ := Aside0.mk (Kd.C_below HN70.out hb)
            clear HB BR B8 H3 HN70
            have HB := n0_
            have BR := n1_
            have B8 := n2_
            have H3 := n3_
            have HN70 := m0_
            clear n0_ n1_ n2_ n3_ hb m0_
            generalize w1.heap.size = nb75 at hN ⊢
            have hN : Aside0 (Kd.C k25 (w1.alloc (.cells #[.slice A0 x.f0.length c0, .int .i64 x.f1, .slice A3 s.f0.length c3, .int .i64 s.f1] 25)) (some ⟨nb75, 0, none⟩) 2 _) := hN
            generalize w1.alloc _ = w1 at hN HB BR B8 H3 HN70 ⊢
            have HN75 := hN
            clear hN
            refine hK.out _ _ ⟨⟨(blk_cell BR.out 0).trans rfl, (blk_cell BR.out 1).trans rfl⟩, (blk_cell B8.out 0).trans rfl, (blk_cell B8.out 1).trans rfl⟩ (fun hHeld => ?_)
            clear hK K
            exact norm_ (by first | (simp only [putAll, Act.put, List.setIfInBounds_toArray, List.set_cons_zero, List.set_cons_succ]; done) | (simp only [putAll, Act.put, List.setIfInBounds_toArray, List.set_cons_zero, List.set_cons_succ]; rfl)) (hCont (.slice (some ⟨nb70, 0, none⟩) 2 2, .slice (some ⟨nb75, 0, none⟩) 2 2, .slice A71 2 c71) _ ⟨HB.out, BR.out, B8.out, H3.out, _, rfl, HN75.out⟩)
          · skip
            rw [if_pos (by rfl)]
            go_simp
            have hN := Aside0.mk (lit_xs x s (Kd.C_below H0.out HB.out) i0 H3.out i3)
            have hb := below_alloc (Below.refl w1.heap.size w1) (.cells #[.slice A0 x.f0.length c0, .int .i64 x.f1, .slice A3 s.f0.length c3, .int .i64 s.f1] 25)
            have n0_ := Aside0.mk (below_step HB.out hb)
            have n1_ := Aside0.mk (blk_below BR.out hb)
            have n2_ := Aside0.mk (blk_below B8.out hb)
            have n3_ := Aside0.mk (Kd.C_below H3.out hb)
            have m0_ := Aside0.mk (Kd.C_below HN70.out hb)
            clear HB BR B8 H3 HN70
            have HB := n0_
            have BR := n1_
            have B8 := n2_
            have H3 := n3_
            have HN70 := m0_
            clear n0_ n1_ n2_ n3_ hb m0_
            generalize w1.heap.size = nb75 at hN ⊢
            have hN : Aside0 (Kd.C k25 (w1.alloc (.cells #[.slice A0 x.f0.length c0, .int .i64 x.f1, .slice A3 s.f0.length c3, .int .i64 s.f1] 25)) (some ⟨nb75, 0, none⟩) 2 _) := hN
            generalize w1.alloc _ = w1 at hN HB BR B8 H3 HN70 ⊢
            have HN75 := hN
            clear hN
            refine hK.out _ _ ⟨⟨(blk_cell BR.out 0).trans rfl, (blk_cell BR.out 1).trans rfl⟩, (blk_cell B8.out 0).trans rfl, (blk_cell B8.out 1).trans rfl⟩ (fun hHeld => ?_)
            clear hK K
            refine one_ (i := 19) (N := some 71) #[true, true, true, true, true, true, true, true, true, true, true, true, true, true, true, true, true, true, true, true, false, true, true, true, false, false, false, false, false, false, false, false, false, false, false, false, false, false, false] rfl rfl (one_of HT_.out (by kernel_rfl)) (by decide) (fun K hK => ?_)
            refine goes_ Try.func11 (by kernel_rfl) rfl #[.slice (some ⟨nb70, 0, none⟩) 2 2] (by rfl) rfl rfl (by (try simp only [List.map_toArray, List.map_cons, List.map_nil]); first | done | rfl) ?_
            refine (sort_len [s, x] 2 _ HN70.out (by simp) ok1 hn1).mono ?_
            rintro e w1 ⟨A71, c71, rfl, hb⟩
            refine ⟨_, rfl, ?_⟩
            have n0_ := Aside0.mk (below_step HB.out hb)
            have n1_ := Aside0.mk (blk_below BR.out hb)
            have n2_ := Aside0.mk (blk_below B8.out hb)
            have n3_ := Aside0.mk (Kd.C_below H3.out hb)
            have m0_ := Aside0.mk (Kd.C_below HN70.out hb)
            have m1_ := Aside0.mk (Kd.C_below HN75.out hb)
            clear HB BR B8 H3 HN70 HN75
            have HB := n0_
            have BR := n1_
            have B8 := n2_
            have H3 := n3_
            have HN70 := m0_
            have HN75 := m1_
            clear n0_ n1_ n2_ n3_ hb m0_ m1_
            refine hK.out _ _ ⟨⟨(blk_cell BR.out 0).trans rfl, (blk_cell BR.out 1).trans rfl⟩, (blk_cell B8.out 0).trans rfl, (blk_cell B8.out 1).trans rfl⟩ (fun hHeld => ?_)
            clear hK K
            refine norm_ (a' := ?_) ?_ ?_
            rotate_left
            · show Act.put _ (some 71) _ = _
              simp only [Act.put, List.setIfInBounds_toArray, List.set_cons_zero, List.set_cons_succ, i64_w, i32_w]
              rfl
            refine pure_ (i := 20) (N := some 72) (v := ?_) (a' := ?_) #[true, true, true, true, true, true, true, true, true, true, true, true, true, true, true, true, true, true, true, true, true, true, true, true, false, false, false, false, false, false, false, false, false, false, false, false, false, false, false] rfl rfl (any_of HT_.out (by kernel_rfl)) (fun _ _ _ h => h) (Or.inl ⟨by rfl, ?_⟩) ?_ ?_
            rotate_left
            · intro w'
              go_simp
              with_reducible rfl
            rotate_left
            · simp only [Act.put, List.setIfInBounds_toArray, List.set_cons_zero, List.set_cons_succ, i64_w, i32_w]
              rfl
            exact norm_ (by first | (simp only [putAll, Act.put, List.setIfInBounds_toArray, List.set_cons_zero, List.set_cons_succ]; done) | (simp only [putAll, Act.put, List.setIfInBounds_toArray, List.set_cons_zero, List.set_cons_succ]; rfl)) (hCont (.slice (some ⟨nb70, 0, none⟩) 2 2, .slice (some ⟨nb75, 0, none⟩) 2 2, .slice A71 2 c71) _ ⟨HB.out, BR.out, B8.out, H3.out, _, rfl, HN75.out⟩)
        · skip
          rw [if_pos (by rfl)]
          go_simp
          have hN := Aside0.mk (lit_xs x s (Kd.C_below H0.out HB.out) i0 H3.out i3)
          have hb := below_alloc (Below.refl w1.heap.size w1) (.cells #[.slice A0 x.f0.length c0, .int .i64 x.f1, .slice A3 s.f0.length c3, .int .i64 s.f1] 25)
          have n0_ := Aside0.mk (below_step HB.out hb)
          have n1_ := Aside0.mk (blk_below BR.out hb)
          have n2_ := Aside0.mk (blk_below B8.out hb)
          have n3_ := Aside0.mk (Kd.C_below H3.out hb)
          clear HB BR B8 H3 
          have HB := n0_
          have BR := n1_
          have B8 := n2_
          have H3 := n3_
          clear n0_ n1_ n2_ n3_ hb 
          generalize w1.heap.size = nb75 at hN ⊢
          have hN : Aside0 (Kd.C k25 (w1.alloc (.cells #[.slice A0 x.f0.length c0, .int .i64 x.f1, .slice A3 s.f0.length c3, .int .i64 s.f1] 25)) (some ⟨nb75, 0, none⟩) 2 _) := hN
          generalize w1.alloc _ = w1 at hN HB BR B8 H3  ⊢
          have HN75 := hN
          clear hN
          refine hK.out _ _ ⟨⟨(blk_cell BR.out 0).trans rfl, (blk_cell BR.out 1).trans rfl⟩, (blk_cell B8.out 0).trans rfl, (blk_cell B8.out 1).trans rfl⟩ (fun hHeld => ?_)
          clear hK K
          refine one_ (i := 18) (N := some 70) #[true, true, true, true, true, true, true, true, true, true, true, true, true, true, true, true, true, true, true, false, false, true, true, true, false, false, false, false, false, false, false, false, false, false, false, false, false, false, false] rfl rfl (one_of HT_.out (by kernel_rfl)) (by decide) (fun K hK => ?_)
          rw [if_pos (by rfl)]
          go_simp
          have hN := Aside0.mk (lit_sx x s (Kd.C_below H0.out HB.out) i0 H3.out i3)
          have hb := below_alloc (Below.refl w1.heap.size w1) (.cells #[.slice A3 s.f0.length c3, .int .i64 s.f1, .slice A0 x.f0.length c0, .int .i64 x.f1] 25)
          have n0_ := Aside0.mk (below_step HB.out hb)
          have n1_ := Aside0.mk (blk_below BR.out hb)
          have n2_ := Aside0.mk (blk_below B8.out hb)
          have n3_ := Aside0.mk (Kd.C_below H3.out hb)
          have m0_ := Aside0.mk (Kd.C_below HN75.out hb)
          clear HB BR B8 H3 HN75
          have HB := n0_
          have BR := n1_
          have B8 := n2_
          have H3 := n3_
          have HN75 := m0_
          clear n0_ n1_ n2_ n3_ hb m0_
          generalize w1.heap.size = nb70 at hN ⊢
          have hN : Aside0 (Kd.C k25 (w1.alloc (.cells #[.slice A3 s.f0.length c3, .int .i64 s.f1, .slice A0 x.f0.length c0, .int .i64 x.f1] 25)) (some ⟨nb70, 0, none⟩) 2 _) := hN
          generalize w1.alloc _ = w1 at hN HB BR B8 H3 HN75 ⊢
          have HN70 := hN
          clear hN
          refine hK.out _ _ ⟨⟨(blk_cell BR.out 0).trans rfl, (blk_cell BR.out 1).trans rfl⟩, (blk_cell B8.out 0).trans rfl, (blk_cell B8.out 1).trans rfl⟩ (fun hHeld => ?_)
          clear hK K
          refine one_ (i := 19) (N := some 71) #[true, true, true, true, true, true, true, true, true, true, true, true, true, true, true, true, true, true, true, true, false, true, true, true, false, false, false, false, false, false, false, false, false, false, false, false, false, false, false] rfl rfl (one_of HT_.out (by kernel_rfl)) (by decide) (fun K hK => ?_)
          refine goes_ Try.func11 (by kernel_rfl) rfl #[.slice (some ⟨nb70, 0, none⟩) 2 2] (by rfl) rfl rfl (by (try simp only [List.map_toArray, List.map_cons, List.map_nil]); first | done | rfl) ?_
          refine (sort_len [s, x] 2 _ HN70.out (by simp) ok1 hn1).mono ?_
          rintro e w1 ⟨A71, c71, rfl, hb⟩
          refine ⟨_, rfl, ?_⟩
          have n0_ := Aside0.mk (below_step HB.out hb)
          have n1_ := Aside0.mk (blk_below BR.out hb)
          have n2_ := Aside0.mk (blk_below B8.out hb)
          have n3_ := Aside0.mk (Kd.C_below H3.out hb)
          have m0_ := Aside0.mk (Kd.C_below HN75.out hb)
          have m1_ := Aside0.mk (Kd.C_below HN70.out hb)
          clear HB BR B8 H3 HN75 HN70
          have HB := n0_
          have BR := n1_
          have B8 := n2_
          have H3 := n3_
          have HN75 := m0_
          have HN70 := m1_
          clear n0_ n1_ n2_ n3_ hb m0_ m1_
          refine hK.out _ _ ⟨⟨(blk_cell BR.out 0).trans rfl, (blk_cell BR.out 1).trans rfl⟩, (blk_cell B8.out 0).trans rfl, (blk_cell B8.out 1).trans rfl⟩ (fun hHeld => ?_)
          clear hK K
          refine norm_ (a' := ?_) ?_ ?_
          rotate_left
          · show Act.put _ (some 71) _ = _
            simp only [Act.put, List.setIfInBounds_toArray, List.set_cons_zero, List.set_cons_succ, i64_w, i32_w]
            rfl
          refine pure_ (i := 20) (N := some 72) (v := ?_) (a' := ?_) #[true, true, true, true, true, true, true, true, true, true, true, true, true, true, true, true, true, true, true, true, true, true, true, true, false, false, false, false, false, false, false, false, false, false, false, false, false, false, false] rfl rfl (any_of HT_.out (by kernel_rfl)) (fun _ _ _ h => h) (Or.inl ⟨by rfl, ?_⟩) ?_ ?_
          rotate_left
          · intro w'
            go_simp
            with_reducible rfl
          rotate_left
          · simp only [Act.put, List.setIfInBounds_toArray, List.set_cons_zero, List.set_cons_succ, i64_w, i32_w]
            rfl
          exact norm_ (by first | (simp only [putAll, Act.put, List.setIfInBounds_toArray, List.set_cons_zero, List.set_cons_succ]; done) | (simp only [putAll, Act.put, List.setIfInBounds_toArray, List.set_cons_zero, List.set_cons_succ]; rfl)) (hCont (.slice (some ⟨nb70, 0, none⟩) 2 2, .slice (some ⟨nb75, 0, none⟩) 2 2, .slice A71 2 c71) _ ⟨HB.out, BR.out, B8.out, H3.out, _, rfl, HN75.out⟩)
      clear HB BR B8 H3 hHeld
      rintro ⟨s1, s2, s3⟩ w1 ⟨hB, hR, h8, h3, nb75, e2, hN⟩
      simp only at e2
      subst e2
      have HB := Aside0.mk hB
      have BR := Aside0.mk hR
      have B8 := Aside0.mk h8
      have H3 := Aside0.mk h3
      have HN75 := Aside0.mk hN
      have hHeld := (show (w1.cell? ⟨w.heap.size, 0, none⟩ = some (.slice A0 x.f0.length c0) ∧ w1.cell? ⟨w.heap.size, 1, none⟩ = some (.int .i64 x.f1)) ∧ w1.cell? ⟨b8, 0, none⟩ = some (.slice A3 s.f0.length c3) ∧ w1.cell? ⟨b8, 1, none⟩ = some (.int .i64 s.f1) from ⟨⟨(blk_cell BR.out 0).trans rfl, (blk_cell BR.out 1).trans rfl⟩, (blk_cell B8.out 0).trans rfl, (blk_cell B8.out 1).trans rfl⟩)
      clear hB hR h8 h3 hN
      refine norm_ (a' := ?_) ?_ ?_
      rotate_left
      · simp only [putAll, Act.put, List.setIfInBounds_toArray, List.set_cons_zero, List.set_cons_succ]
        rfl
      refine one_ (i := 24) (N := some 76) #[true, true, true, true, true, true, true, true, true, true, true, true, true, true, true, true, true, true, true, true, true, true, true, true, true, false, false, false, false, false, false, false, false, false, false, false, false, false, false] rfl rfl (one_of HT_.out (by kernel_rfl)) (by decide) (fun K hK => ?_)
      refine goes_ Try.func11 (by kernel_rfl) rfl #[.slice (some ⟨nb75, 0, none⟩) 2 2] (by rfl) rfl rfl (by (try simp only [List.map_toArray, List.map_cons, List.map_nil]); first | done | rfl) ?_
      refine (sort_len [x, s] 2 _ HN75.out (by simp) ok2 hn2).mono ?_
      rintro e w1 ⟨A76, c76, rfl, hb⟩
      refine ⟨_, rfl, ?_⟩
      have n0_ := Aside0.mk (below_step HB.out hb)
      have n1_ := Aside0.mk (blk_below BR.out hb)
      have n2_ := Aside0.mk (blk_below B8.out hb)
      have n3_ := Aside0.mk (Kd.C_below H3.out hb)
      have m0_ := Aside0.mk (Kd.C_below HN75.out hb)
      clear HB BR B8 H3 HN75
      have HB := n0_
      have BR := n1_
      have B8 := n2_
      have H3 := n3_
      have HN75 := m0_
      clear n0_ n1_ n2_ n3_ hb m0_
      refine hK.out _ _ ⟨⟨(blk_cell BR.out 0).trans rfl, (blk_cell BR.out 1).trans rfl⟩, (blk_cell B8.out 0).trans rfl, (blk_cell B8.out 1).trans rfl⟩ (fun hHeld => ?_)
      clear hK K
      refine norm_ (a' := ?_) ?_ ?_
      rotate_left
      · show Act.put _ (some 76) _ = _
        simp only [Act.put, List.setIfInBounds_toArray, List.set_cons_zero, List.set_cons_succ, i64_w, i32_w]
        rfl
      clear HN75
      refine pure_ (i := 25) (N := some 77) (v := ?_) (a' := ?_) #[true, true, true, true, true, true, true, true, true, true, true, true, true, true, true, true, true, true, true, true, true, true, true, true, true, true, false, false, false, false, false, false, false, false, false, false, false, false, false] rfl rfl (any_of HT_.out (by kernel_rfl)) (fun _ _ _ h => h) (Or.inl ⟨by rfl, ?_⟩) ?_ ?_
      rotate_left
      · intro w'
        go_simp
        with_reducible rfl
      rotate_left
      · simp only [Act.put, List.setIfInBounds_toArray, List.set_cons_zero, List.set_cons_succ, i64_w, i32_w]
        rfl
      refine pure_ (i := 26) (N := some 78) (v := ?_) (a' := ?_) #[true, true, true, true, true, true, true, true, true, true, true, true, true, true, true, true, true, true, true, true, true, true, true, true, true, true, true, false, false, false, false, false, false, false, false, false, false, false, false] rfl rfl (any_of HT_.out (by kernel_rfl)) (fun _ _ _ h => h) (Or.inl ⟨by rfl, ?_⟩) ?_ ?_
      rotate_left
      · intro w'
        go_simp
        with_reducible rfl
      rotate_left
      · simp only [Act.put, List.setIfInBounds_toArray, List.set_cons_zero, List.set_cons_succ, i64_w, i32_w]
        rfl
      refine pure_ (i := 27) (N := some 79) (v := ?_) (a' := ?_) #[true, true, true, true, true, true, true, true, true, true, true, true, true, true, true, true, true, true, true, true, true, true, true, true, true, true, true, true, false, false, false, false, false, false, false, false, false, false, false] rfl rfl (any_of HT_.out (by kernel_rfl)) (fun _ _ _ h => h) (Or.inl ⟨by rfl, ?_⟩) ?_ ?_
      rotate_left
      · intro w'
        go_simp
        with_reducible rfl
      rotate_left
      · simp only [Act.put, List.setIfInBounds_toArray, List.set_cons_zero, List.set_cons_succ, i64_w, i32_w]
        rfl
      refine pure_ (i := 28) (N := some 80) (v := ?_) (a' := ?_) #[true, true, true, true, true, true, true, true, true, true, true, true, true, true, true, true, true, true, true, true, true, true, true, true, true, true, true, true, true, false, false, false, false, false, false, false, false, false, false] rfl rfl (any_of HT_.out (by kernel_rfl)) (fun _ _ _ h => h) (Or.inl ⟨by rfl, ?_⟩) ?_ ?_
      rotate_left
      · intro w'
        go_simp
        with_reducible rfl
      rotate_left
      · simp only [Act.put, List.setIfInBounds_toArray, List.set_cons_zero, List.set_cons_succ, i64_w, i32_w]
        rfl
      refine take_ (i := 29) (N := some 81) (v := ?_) (a' := ?_) #[true, true, true, true, true, true, true, true, true, true, true, true, true, true, true, true, true, true, true, true, true, true, true, true, true, true, true, true, true, true, false, false, false, false, false, false, false, false, false] rfl rfl (take_ofW HT_.out HW_.out (by kernel_rfl)) (fun _ _ _ h => h) (Or.inl ⟨by rfl, ?_⟩) hHeld ?_ ?_
      rotate_left
      · rintro w' ⟨⟨s0, s1⟩, s2, s3⟩
        go_simp
        with_reducible rfl
      rotate_left
      · simp only [Act.put, List.setIfInBounds_toArray, List.set_cons_zero, List.set_cons_succ, i64_w, i32_w]
        rfl
      refine take_ (i := 30) (N := some 82) (v := ?_) (a' := ?_) #[true, true, true, true, true, true, true, true, true, true, true, true, true, true, true, true, true, true, true, true, true, true, true, true, true, true, true, true, true, true, true, false, false, false, false, false, false, false, false] rfl rfl (take_ofW HT_.out HW_.out (by kernel_rfl)) (fun _ _ _ h => h) (Or.inl ⟨by rfl, ?_⟩) hHeld ?_ ?_
      rotate_left
      · rintro w' ⟨⟨s0, s1⟩, s2, s3⟩
        go_simp
        with_reducible rfl
      rotate_left
      · simp only [Act.put, List.setIfInBounds_toArray, List.set_cons_zero, List.set_cons_succ, i64_w, i32_w]
        rfl
      refine pure_ (i := 35) (N := some 87) (v := ?_) (a' := ?_) #[true, true, true, true, true, true, true, true, true, true, true, true, true, true, true, true, true, true, true, true, true, true, true, true, true, true, true, true, true, true, true, false, false, false, false, true, false, false, false] rfl rfl (any_of HT_.out (by kernel_rfl)) (fun _ _ _ h => h) (Or.inl ⟨by rfl, ?_⟩) ?_ ?_
      rotate_left
      · intro w'
        go_simp
        with_reducible rfl
      rotate_left
      · simp only [Act.put, List.setIfInBounds_toArray, List.set_cons_zero, List.set_cons_succ, i64_w, i32_w]
        rfl
      refine one_ (i := 31) (N := some 83) #[true, true, true, true, true, true, true, true, true, true, true, true, true, true, true, true, true, true, true, true, true, true, true, true, true, true, true, true, true, true, true, true, false, false, false, true, false, false, false] rfl rfl (one_of HT_.out (by kernel_rfl)) (by decide) (fun K hK => ?_)
      rw [if_pos (by rfl)]
      go_simp
      have hN := Aside0.mk (lit_xs x s (Kd.C_below H0.out HB.out) i0 H3.out i3)
      have hb := below_alloc (Below.refl w1.heap.size w1) (.cells #[.slice A0 x.f0.length c0, .int .i64 x.f1, .slice A3 s.f0.length c3, .int .i64 s.f1] 25)
      have n0_ := Aside0.mk (below_step HB.out hb)
      have n1_ := Aside0.mk (blk_below BR.out hb)
      have n2_ := Aside0.mk (blk_below B8.out hb)
      have n3_ := Aside0.mk (Kd.C_below H3.out hb)
      clear HB BR B8 H3 
      have HB := n0_
      have BR := n1_
      have B8 := n2_
      have H3 := n3_
      clear n0_ n1_ n2_ n3_ hb 
      generalize w1.heap.size = nb83 at hN ⊢
      have hN : Aside0 (Kd.C k25 (w1.alloc (.cells #[.slice A0 x.f0.length c0, .int .i64 x.f1, .slice A3 s.f0.length c3, .int .i64 s.f1] 25)) (some ⟨nb83, 0, none⟩) 2 _) := hN
      generalize w1.alloc _ = w1 at hN HB BR B8 H3  ⊢
      have HN83 := hN
      clear hN
      refine hK.out _ _ ⟨⟨(blk_cell BR.out 0).trans rfl, (blk_cell BR.out 1).trans rfl⟩, (blk_cell B8.out 0).trans rfl, (blk_cell B8.out 1).trans rfl⟩ (fun hHeld => ?_)
      clear hK K
      refine one_ (i := 32) (N := some 84) #[true, true, true, true, true, true, true, true, true, true, true, true, true, true, true, true, true, true, true, true, true, true, true, true, true, true, true, true, true, true, true, true, true, false, false, true, false, false, false] rfl rfl (one_of HT_.out (by kernel_rfl)) (by decide) (fun K hK => ?_)
      refine goes_ Try.func11 (by kernel_rfl) rfl #[.slice (some ⟨nb83, 0, none⟩) 2 2] (by rfl) rfl rfl (by (try simp only [List.map_toArray, List.map_cons, List.map_nil]); first | done | rfl) ?_
      refine (sort_len [x, s] 2 _ HN83.out (by simp) ok2 hn2).mono ?_
      rintro e w1 ⟨A84, c84, rfl, hb⟩
      refine ⟨_, rfl, ?_⟩
      have n0_ := Aside0.mk (below_step HB.out hb)
      have n1_ := Aside0.mk (blk_below BR.out hb)
      have n2_ := Aside0.mk (blk_below B8.out hb)
      have n3_ := Aside0.mk (Kd.C_below H3.out hb)
      have m0_ := Aside0.mk (Kd.C_below HN83.out hb)
      clear HB BR B8 H3 HN83
      have HB := n0_
      have BR := n1_
      have B8 := n2_
      have H3 := n3_
      have HN83 := m0_
      clear n0_ n1_ n2_ n3_ hb m0_
      refine hK.out _ _ ⟨⟨(blk_cell BR.out 0).trans rfl, (blk_cell BR.out 1).trans rfl⟩, (blk_cell B8.out 0).trans rfl, (blk_cell B8.out 1).trans rfl⟩ (fun hHeld => ?_)
      clear hK K
      refine norm_ (a' := ?_) ?_ ?_
      rotate_left
      · show Act.put _ (some 84) _ = _
        simp only [Act.put, List.setIfInBounds_toArray, List.set_cons_zero, List.set_cons_succ, i64_w, i32_w]
        rfl
      clear HN83
      refine pure_ (i := 33) (N := some 85) (v := ?_) (a' := ?_) #[true, true, true, true, true, true, true, true, true, true, true, true, true, true, true, true, true, true, true, true, true, true, true, true, true, true, true, true, true, true, true, true, true, true, false, true, false, false, false] rfl rfl (any_of HT_.out (by kernel_rfl)) (fun _ _ _ h => h) (Or.inl ⟨by rfl, ?_⟩) ?_ ?_
      rotate_left
      · intro w'
        go_simp
        with_reducible rfl
      rotate_left
      · simp only [Act.put, List.setIfInBounds_toArray, List.set_cons_zero, List.set_cons_succ, i64_w, i32_w]
        rfl
      refine pure_ (i := 34) (N := some 86) (v := ?_) (a' := ?_) #[true, true, true, true, true, true, true, true, true, true, true, true, true, true, true, true, true, true, true, true, true, true, true, true, true, true, true, true, true, true, true, true, true, true, true, true, false, false, false] rfl rfl (any_of HT_.out (by kernel_rfl)) (fun _ _ _ h => h) (Or.inl ⟨by rfl, ?_⟩) ?_ ?_
      rotate_left
      · intro w'
        go_simp
        with_reducible rfl
      rotate_left
      · simp only [Act.put, List.setIfInBounds_toArray, List.set_cons_zero, List.set_cons_succ, i64_w, i32_w]
        rfl
      refine pure_ (i := 36) (N := some 88) (v := ?_) (a' := ?_) #[true, true, true, true, true, true, true, true, true, true, true, true, true, true, true, true, true, true, true, true, true, true, true, true, true, true, true, true, true, true, true, true, true, true, true, true, true, false, false] rfl rfl (any_of HT_.out (by kernel_rfl)) (fun _ _ _ h => h) (Or.inl ⟨by rfl, ?_⟩) ?_ ?_
      rotate_left
      · intro w'
        go_simp
        with_reducible rfl
      rotate_left
      · simp only [Act.put, List.setIfInBounds_toArray, List.set_cons_zero, List.set_cons_succ, i64_w, i32_w]
        rfl
      refine pure_ (i := 37) (N := some 89) (v := ?_) (a' := ?_) #[true, true, true, true, true, true, true, true, true, true, true, true, true, true, true, true, true, true, true, true, true, true, true, true, true, true, true, true, true, true, true, true, true, true, true, true, true, true, false] rfl rfl (any_of HT_.out (by kernel_rfl)) (fun _ _ _ h => h) (Or.inl ⟨by rfl, ?_⟩) ?_ ?_
      rotate_left
      · intro w'
        go_simp
        with_reducible rfl
      rotate_left
      · simp only [Act.put, List.setIfInBounds_toArray, List.set_cons_zero, List.set_cons_succ, i64_w, i32_w]
        rfl
      refine pure_ (i := 38) (N := some 6) (v := ?_) (a' := ?_) #[true, true, true, true, true, true, true, true, true, true, true, true, true, true, true, true, true, true, true, true, true, true, true, true, true, true, true, true, true, true, true, true, true, true, true, true, true, true, true] rfl rfl (any_of HT_.out (by kernel_rfl)) (fun _ _ _ h => h) (Or.inl ⟨by rfl, ?_⟩) ?_ ?_
      rotate_left
      · intro w'
        go_simp
        with_reducible rfl
      rotate_left
      · simp only [Act.put, List.setIfInBounds_toArray, List.set_cons_zero, List.set_cons_succ, i64_w, i32_w]
        rfl
      refine done_ (done_of HT_.out (by kernel_rfl)) ?_
      go_wp2
      go_ret
      exact ⟨rfl, HB.out⟩
  · have dL : (L == 0) = false := by simp [eL]
    have hc : cmpR x s = -1 := by rw [HS.out]; exact lon_less x m L (by omega) (fun h => eL h.1)
    have hless1 : decide (cmpR x s < 0) = true := by rw [hc]; rfl
    have hless2 : decide (cmpR s x < 0) = false := by rw [h2, hc]; rfl
    have hn1 : (sortR [s, x]).length = 2 := by rw [pair_sort, if_neg (by omega)]
    have hn2 : (sortR [x, s]).length = 2 := by rw [pair_sort, if_neg (by omega)]
    clear h2 hc eL
    try clear em
    go_wp2_with fail
    have n0_ := Aside0.mk (below_drew1 HB.out)
    have n1_ := Aside0.mk (blk_drew BR.out)
    have n2_ := Aside0.mk (blk_drew B8.out)
    have n3_ := Aside0.mk (Kd.C_drew H3.out)
    clear HB BR B8 H3
    have HB := n0_
    have BR := n1_
    have B8 := n2_
    have H3 := n3_
    clear n0_ n1_ n2_ n3_
    refine start_ (n := 39) (S := fun w' => (w'.cell? ⟨w.heap.size, 0, none⟩ = some (.slice A0 x.f0.length c0) ∧ w'.cell? ⟨w.heap.size, 1, none⟩ = some (.int .i64 x.f1)) ∧ w'.cell? ⟨b8, 0, none⟩ = some (.slice A3 s.f0.length c3) ∧ w'.cell? ⟨b8, 1, none⟩ = some (.int .i64 s.f1)) (ds := []) #[false, false, false, false, false, false, false, false, false, false, false, false, false, false, false, false, false, false, false, false, false, false, false, false, false, false, false, false, false, false, false, false, false, false, false, false, false, false, false] (by kernel_rfl) rfl rfl ⟨⟨(blk_cell BR.out 0).trans rfl, (blk_cell BR.out 1).trans rfl⟩, (blk_cell B8.out 0).trans rfl, (blk_cell B8.out 1).trans rfl⟩ (fun hHeld => ?_); refine with_tabW longer.tab6 longer.bits6 (fun HT_ HW_ => ?_)
    generalize World.drew _ = w1 at HB BR B8 H3 hHeld ⊢
    refine pure_ (i := 0) (N := some 52) (v := ?_) (a' := ?_) #[true, false, false, false, false, false, false, false, false, false, false, false, false, false, false, false, false, false, false, false, false, false, false, false, false, false, false, false, false, false, false, false, false, false, false, false, false, false, false] rfl rfl (any_of HT_.out (by kernel_rfl)) (fun _ _ _ h => h) (Or.inl ⟨by rfl, ?_⟩) ?_ ?_
    rotate_left
    · intro w'
      go_simp
      with_reducible rfl
    rotate_left
    · simp only [Act.put, List.setIfInBounds_toArray, List.set_cons_zero, List.set_cons_succ, i64_w, i32_w]
      rfl
    refine pure_ (i := 1) (N := some 53) (v := ?_) (a' := ?_) #[true, true, false, false, false, false, false, false, false, false, false, false, false, false, false, false, false, false, false, false, false, false, false, false, false, false, false, false, false, false, false, false, false, false, false, false, false, false, false] rfl rfl (any_of HT_.out (by kernel_rfl)) (fun _ _ _ h => h) (Or.inl ⟨by rfl, ?_⟩) ?_ ?_
    rotate_left
    · intro w'
      go_simp
      with_reducible rfl
    rotate_left
    · simp only [Act.put, List.setIfInBounds_toArray, List.set_cons_zero, List.set_cons_succ, i64_w, i32_w]
      rfl
    refine take_ (i := 2) (N := some 54) (v := ?_) (a' := ?_) #[true, true, true, false, false, false, false, false, false, false, false, false, false, false, false, false, false, false, false, false, false, false, false, false, false, false, false, false, false, false, false, false, false, false, false, false, false, false, false] rfl rfl (take_ofW HT_.out HW_.out (by kernel_rfl)) (fun _ _ _ h => h) (Or.inl ⟨by rfl, ?_⟩) hHeld ?_ ?_
    rotate_left
    · rintro w' ⟨⟨s0, s1⟩, s2, s3⟩
      go_simp
      with_reducible rfl
    rotate_left
    · simp only [Act.put, List.setIfInBounds_toArray, List.set_cons_zero, List.set_cons_succ, i64_w, i32_w]
      rfl
    refine take_ (i := 3) (N := some 55) (v := ?_) (a' := ?_) #[true, true, true, true, false, false, false, false, false, false, false, false, false, false, false, false, false, false, false, false, false, false, false, false, false, false, false, false, false, false, false, false, false, false, false, false, false, false, false] rfl rfl (take_ofW HT_.out HW_.out (by kernel_rfl)) (fun _ _ _ h => h) (Or.inl ⟨by rfl, ?_⟩) hHeld ?_ ?_
    rotate_left
    · rintro w' ⟨⟨s0, s1⟩, s2, s3⟩
      go_simp
      with_reducible rfl
    rotate_left
    · simp only [Act.put, List.setIfInBounds_toArray, List.set_cons_zero, List.set_cons_succ, i64_w, i32_w]
      rfl
    refine pure_ (i := 5) (N := some 57) (v := ?_) (a' := ?_) #[true, true, true, true, false, true, false, false, false, false, false, false, false, false, false, false, false, false, false, false, false, false, false, false, false, false, false, false, false, false, false, false, false, false, false, false, false, false, false] rfl rfl (any_of HT_.out (by kernel_rfl)) (fun _ _ _ h => h) (Or.inl ⟨by rfl, ?_⟩) ?_ ?_
    rotate_left
    · intro w'
      go_simp
      with_reducible rfl
    rotate_left
    · simp only [Act.put, List.setIfInBounds_toArray, List.set_cons_zero, List.set_cons_succ, i64_w, i32_w]
      rfl
    refine pure_ (i := 6) (N := some 58) (v := ?_) (a' := ?_) #[true, true, true, true, false, true, true, false, false, false, false, false, false, false, false, false, false, false, false, false, false, false, false, false, false, false, false, false, false, false, false, false, false, false, false, false, false, false, false] rfl rfl (any_of HT_.out (by kernel_rfl)) (fun _ _ _ h => h) (Or.inl ⟨by rfl, ?_⟩) ?_ ?_
    rotate_left
    · intro w'
      go_simp
      with_reducible rfl
    rotate_left
    · simp only [Act.put, List.setIfInBounds_toArray, List.set_cons_zero, List.set_cons_succ, i64_w, i32_w]
      rfl
    refine one_ (i := 4) (N := some 56) #[true, true, true, true, true, true, true, false, false, false, false, false, false, false, false, false, false, false, false, false, false, false, false, false, false, false, false, false, false, false, false, false, false, false, false, false, false, false, false] rfl rfl (one_of HT_.out (by kernel_rfl)) (by decide) (fun K hK => ?_)
    refine goes_ Try.func19 (by kernel_rfl) rfl #[.agg #[.slice A0 x.f0.length c0, .int .i64 x.f1], .agg #[.slice A3 s.f0.length c3, .int .i64 s.f1]] (by rfl) rfl rfl (by (try simp only [List.map_toArray, List.map_cons, List.map_nil]); first | done | rfl) ?_
    refine (less_is x s _ _ (Kd.C_below H0.out HB.out) i0 H3.out i3 (by omega) hl3 hless1).mono ?_
    rintro e w1 ⟨rfl, hb⟩
    refine ⟨_, rfl, ?_⟩
    have n0_ := Aside0.mk (below_step HB.out hb)
    have n1_ := Aside0.mk (blk_below BR.out hb)
    have n2_ := Aside0.mk (blk_below B8.out hb)
    have n3_ := Aside0.mk (Kd.C_below H3.out hb)
    clear HB BR B8 H3 
    have HB := n0_
    have BR := n1_
    have B8 := n2_
    have H3 := n3_
    clear n0_ n1_ n2_ n3_ hb 
    refine hK.out _ _ ⟨⟨(blk_cell BR.out 0).trans rfl, (blk_cell BR.out 1).trans rfl⟩, (blk_cell B8.out 0).trans rfl, (blk_cell B8.out 1).trans rfl⟩ (fun hHeld => ?_)
    clear hK K
    refine norm_ (a' := ?_) ?_ ?_
    rotate_left
    · show Act.put _ (some 56) _ = _
      simp only [Act.put, List.setIfInBounds_toArray, List.set_cons_zero, List.set_cons_succ, i64_w, i32_w]
      rfl
    refine pure_ (i := 7) (N := some 59) (v := ?_) (a' := ?_) #[true, true, true, true, true, true, true, true, false, false, false, false, false, false, false, false, false, false, false, false, false, false, false, false, false, false, false, false, false, false, false, false, false, false, false, false, false, false, false] rfl rfl (any_of HT_.out (by kernel_rfl)) (fun _ _ _ h => h) (Or.inl ⟨by rfl, ?_⟩) ?_ ?_
    rotate_left
    · intro w'
      go_simp
      with_reducible rfl
    rotate_left
    · simp only [Act.put, List.setIfInBounds_toArray, List.set_cons_zero, List.set_cons_succ, i64_w, i32_w]
      rfl
    refine pure_ (i := 8) (N := some 60) (v := ?_) (a' := ?_) #[true, true, true, true, true, true, true, true, true, false, false, false, false, false, false, false, false, false, false, false, false, false, false, false, false, false, false, false, false, false, false, false, false, false, false, false, false, false, false] rfl rfl (any_of HT_.out (by kernel_rfl)) (fun _ _ _ h => h) (Or.inl ⟨by rfl, ?_⟩) ?_ ?_
    rotate_left
    · intro w'
      go_simp
      with_reducible rfl
    rotate_left
    · simp only [Act.put, List.setIfInBounds_toArray, List.set_cons_zero, List.set_cons_succ, i64_w, i32_w]
      rfl
    refine pure_ (i := 9) (N := some 61) (v := ?_) (a' := ?_) #[true, true, true, true, true, true, true, true, true, true, false, false, false, false, false, false, false, false, false, false, false, false, false, false, false, false, false, false, false, false, false, false, false, false, false, false, false, false, false] rfl rfl (any_of HT_.out (by kernel_rfl)) (fun _ _ _ h => h) (Or.inl ⟨by rfl, ?_⟩) ?_ ?_
    rotate_left
    · intro w'
      go_simp
      with_reducible rfl
    rotate_left
    · simp only [Act.put, List.setIfInBounds_toArray, List.set_cons_zero, List.set_cons_succ, i64_w, i32_w]
      rfl
    refine take_ (i := 10) (N := some 62) (v := ?_) (a' := ?_) #[true, true, true, true, true, true, true, true, true, true, true, false, false, false, false, false, false, false, false, false, false, false, false, false, false, false, false, false, false, false, false, false, false, false, false, false, false, false, false] rfl rfl (take_ofW HT_.out HW_.out (by kernel_rfl)) (fun _ _ _ h => h) (Or.inl ⟨by rfl, ?_⟩) hHeld ?_ ?_
    rotate_left
    · rintro w' ⟨⟨s0, s1⟩, s2, s3⟩
      go_simp
      with_reducible rfl
    rotate_left
    · simp only [Act.put, List.setIfInBounds_toArray, List.set_cons_zero, List.set_cons_succ, i64_w, i32_w]
      rfl
    refine take_ (i := 11) (N := some 63) (v := ?_) (a' := ?_) #[true, true, true, true, true, true, true, true, true, true, true, true, false, false, false, false, false, false, false, false, false, false, false, false, false, false, false, false, false, false, false, false, false, false, false, false, false, false, false] rfl rfl (take_ofW HT_.out HW_.out (by kernel_rfl)) (fun _ _ _ h => h) (Or.inl ⟨by rfl, ?_⟩) hHeld ?_ ?_
    rotate_left
    · rintro w' ⟨⟨s0, s1⟩, s2, s3⟩
      go_simp
      with_reducible rfl
    rotate_left
    · simp only [Act.put, List.setIfInBounds_toArray, List.set_cons_zero, List.set_cons_succ, i64_w, i32_w]
      rfl
    refine one_ (i := 12) (N := some 64) #[true, true, true, true, true, true, true, true, true, true, true, true, true, false, false, false, false, false, false, false, false, false, false, false, false, false, false, false, false, false, false, false, false, false, false, false, false, false, false] rfl rfl (one_of HT_.out (by kernel_rfl)) (by decide) (fun K hK => ?_)
    refine goes_ Try.func19 (by kernel_rfl) rfl #[.agg #[.slice A3 s.f0.length c3, .int .i64 s.f1], .agg #[.slice A0 x.f0.length c0, .int .i64 x.f1]] (by rfl) rfl rfl (by (try simp only [List.map_toArray, List.map_cons, List.map_nil]); first | done | rfl) ?_
    refine (less_is s x _ _ H3.out i3 (Kd.C_below H0.out HB.out) i0 hl3 (by omega) hless2).mono ?_
    rintro e w1 ⟨rfl, hb⟩
    refine ⟨_, rfl, ?_⟩
    have n0_ := Aside0.mk (below_step HB.out hb)
    have n1_ := Aside0.mk (blk_below BR.out hb)
    have n2_ := Aside0.mk (blk_below B8.out hb)
    have n3_ := Aside0.mk (Kd.C_below H3.out hb)
    clear HB BR B8 H3 
    have HB := n0_
    have BR := n1_
    have B8 := n2_
    have H3 := n3_
    clear n0_ n1_ n2_ n3_ hb 
    refine hK.out _ _ ⟨⟨(blk_cell BR.out 0).trans rfl, (blk_cell BR.out 1).trans rfl⟩, (blk_cell B8.out 0).trans rfl, (blk_cell B8.out 1).trans rfl⟩ (fun hHeld => ?_)
    clear hK K
    refine norm_ (a' := ?_) ?_ ?_
    rotate_left
    · show Act.put _ (some 64) _ = _
      simp only [Act.put, List.setIfInBounds_toArray, List.set_cons_zero, List.set_cons_succ, i64_w, i32_w]
      rfl
    refine pure_ (i := 13) (N := some 65) (v := ?_) (a' := ?_) #[true, true, true, true, true, true, true, true, true, true, true, true, true, true, false, false, false, false, false, false, false, false, false, false, false, false, false, false, false, false, false, false, false, false, false, false, false, false, false] rfl rfl (any_of HT_.out (by kernel_rfl)) (fun _ _ _ h => h) (Or.inl ⟨by rfl, ?_⟩) ?_ ?_
    rotate_left
    · intro w'
      go_simp
      with_reducible rfl
    rotate_left
    · simp only [Act.put, List.setIfInBounds_toArray, List.set_cons_zero, List.set_cons_succ, i64_w, i32_w]
      rfl
    refine pure_ (i := 14) (N := some 66) (v := ?_) (a' := ?_) #[true, true, true, true, true, true, true, true, true, true, true, true, true, true, true, false, false, false, false, false, false, false, false, false, false, false, false, false, false, false, false, false, false, false, false, false, false, false, false] rfl rfl (any_of HT_.out (by kernel_rfl)) (fun _ _ _ h => h) (Or.inl ⟨by rfl, ?_⟩) ?_ ?_
    rotate_left
    · intro w'
      go_simp
      with_reducible rfl
    rotate_left
    · simp only [Act.put, List.setIfInBounds_toArray, List.set_cons_zero, List.set_cons_succ, i64_w, i32_w]
      rfl
    refine pure_ (i := 15) (N := some 67) (v := ?_) (a' := ?_) #[true, true, true, true, true, true, true, true, true, true, true, true, true, true, true, true, false, false, false, false, false, false, false, false, false, false, false, false, false, false, false, false, false, false, false, false, false, false, false] rfl rfl (any_of HT_.out (by kernel_rfl)) (fun _ _ _ h => h) (Or.inl ⟨by rfl, ?_⟩) ?_ ?_
    rotate_left
    · intro w'
      go_simp
      with_reducible rfl
    rotate_left
    · simp only [Act.put, List.setIfInBounds_toArray, List.set_cons_zero, List.set_cons_succ, i64_w, i32_w]
      rfl
    refine take_ (i := 16) (N := some 68) (v := ?_) (a' := ?_) #[true, true, true, true, true, true, true, true, true, true, true, true, true, true, true, true, true, false, false, false, false, false, false, false, false, false, false, false, false, false, false, false, false, false, false, false, false, false, false] rfl rfl (take_ofW HT_.out HW_.out (by kernel_rfl)) (fun _ _ _ h => h) (Or.inl ⟨by rfl, ?_⟩) hHeld ?_ ?_
    rotate_left
    · rintro w' ⟨⟨s0, s1⟩, s2, s3⟩
      go_simp
      with_reducible rfl
    rotate_left
    · simp only [Act.put, List.setIfInBounds_toArray, List.set_cons_zero, List.set_cons_succ, i64_w, i32_w]
      rfl
    refine take_ (i := 17) (N := some 69) (v := ?_) (a' := ?_) #[true, true, true, true, true, true, true, true, true, true, true, true, true, true, true, true, true, true, false, false, false, false, false, false, false, false, false, false, false, false, false, false, false, false, false, false, false, false, false] rfl rfl (take_ofW HT_.out HW_.out (by kernel_rfl)) (fun _ _ _ h => h) (Or.inl ⟨by rfl, ?_⟩) hHeld ?_ ?_
    rotate_left
    · rintro w' ⟨⟨s0, s1⟩, s2, s3⟩
      go_simp
      with_reducible rfl
    rotate_left
    · simp only [Act.put, List.setIfInBounds_toArray, List.set_cons_zero, List.set_cons_succ, i64_w, i32_w]
      rfl
    refine take_ (i := 21) (N := some 73) (v := ?_) (a' := ?_) #[true, true, true, true, true, true, true, true, true, true, true, true, true, true, true, true, true, true, false, false, false, true, false, false, false, false, false, false, false, false, false, false, false, false, false, false, false, false, false] rfl rfl (take_ofW HT_.out HW_.out (by kernel_rfl)) (fun _ _ _ h => h) (Or.inl ⟨by rfl, ?_⟩) hHeld ?_ ?_
    rotate_left
    · rintro w' ⟨⟨s0, s1⟩, s2, s3⟩
      go_simp
      with_reducible rfl
    rotate_left
    · simp only [Act.put, List.setIfInBounds_toArray, List.set_cons_zero, List.set_cons_succ, i64_w, i32_w]
      rfl
    refine take_ (i := 22) (N := some 74) (v := ?_) (a' := ?_) #[true, true, true, true, true, true, true, true, true, true, true, true, true, true, true, true, true, true, false, false, false, true, true, false, false, false, false, false, false, false, false, false, false, false, false, false, false, false, false] rfl rfl (take_ofW HT_.out HW_.out (by kernel_rfl)) (fun _ _ _ h => h) (Or.inl ⟨by rfl, ?_⟩) hHeld ?_ ?_
    rotate_left
    · rintro w' ⟨⟨s0, s1⟩, s2, s3⟩
      go_simp
      with_reducible rfl
    rotate_left
    · simp only [Act.put, List.setIfInBounds_toArray, List.set_cons_zero, List.set_cons_succ, i64_w, i32_w]
      rfl
    refine join_ (σ := Value × Value × Value) 15 #[true, true, true, true, true, true, true, true, true, true, true, true, true, true, true, true, true, true, true, true, true, true, true, true, false, false, false, false, false, false, false, false, false, false, false, false, false, false, false] (fun s_ => [(70, s_.1), (75, s_.2.1), (71, s_.2.2), (72, .int .i64 2)]) (fun s_ w' => Below w.heap.size w w' ∧ w'.heap[w.heap.size]? = some (.cells #[.slice A0 x.f0.length c0, .int .i64 x.f1] 25 (0, 0)) ∧ w'.heap[b8]? = some (.cells #[.slice A3 s.f0.length c3, .int .i64 s.f1] 25 (0, 0)) ∧ Kd.C k34 w' A3 s.f0.length s.f0 ∧ (∃ nb, s_.2.1 = .slice (some ⟨nb, 0, none⟩) 2 2 ∧ Kd.C k25 w' (some ⟨nb, 0, none⟩) 2 [x, s])) ?_ ?_
    rotate_left
    · intro hCont
      refine two_ (i := 18) (j := 23) (Ni := some 70) (Nj := some 75) #[true, true, true, true, true, true, true, true, true, true, true, true, true, true, true, true, true, true, true, false, false, true, true, false, false, false, false, false, false, false, false, false, false, false, false, false, false, false, false] #[true, true, true, true, true, true, true, true, true, true, true, true, true, true, true, true, true, true, false, false, false, true, true, true, false, false, false, false, false, false, false, false, false, false, false, false, false, false, false] rfl rfl rfl rfl (two_of HT_.out (by kernel_rfl)) (by decide) (by decide) (fun K hK => ?_) (fun K hK => ?_)
      · skip
        rw [if_pos (by rfl)]
        go_simp
        have hN := Aside0.mk (lit_sx x s (Kd.C_below H0.out HB.out) i0 H3.out i3)
        have hb := below_alloc (Below.refl w1.heap.size w1) (.cells #[.slice A3 s.f0.length c3, .int .i64 s.f1, .slice A0 x.f0.length c0, .int .i64 x.f1] 25)
        have n0_ := Aside0.mk (below_step HB.out hb)
        have n1_ := Aside0.mk (blk_below BR.out hb)
        have n2_ := Aside0.mk (blk_below B8.out hb)
        have n3_ := Aside0.mk (Kd.C_below H3.out hb)
        clear HB BR B8 H3 
        have HB := n0_
        have BR := n1_
        have B8 := n2_
        have H3 := n3_
        clear n0_ n1_ n2_ n3_ hb 
        generalize w1.heap.size = nb70 at hN ⊢
        have hN : Aside0 (Kd.C k25 (w1.alloc (.cells #[.slice A3 s.f0.length c3, .int .i64 s.f1, .slice A0 x.f0.length c0, .int .i64 x.f1] 25)) (some ⟨nb70, 0, none⟩) 2 _) := hN
        generalize w1.alloc _ = w1 at hN HB BR B8 H3  ⊢
        have HN70 := hN
        clear hN
        refine hK.out _ _ ⟨⟨(blk_cell BR.out 0).trans rfl, (blk_cell BR.out 1).trans rfl⟩, (blk_cell B8.out 0).trans rfl, (blk_cell B8.out 1).trans rfl⟩ (fun hHeld => ?_)
        clear hK K
        refine two_ (i := 19) (j := 23) (Ni := some 71) (Nj := some 75) #[true, true, true, true, true, true, true, true, true, true, true, true, true, true, true, true, true, true, true, true, false, true, true, false, false, false, false, false, false, false, false, false, false, false, false, false, false, false, false] #[true, true, true, true, true, true, true, true, true, true, true, true, true, true, true, true, true, true, true, false, false, true, true, true, false, false, false, false, false, false, false, false, false, false, false, false, false, false, false] rfl rfl rfl rfl (two_of HT_.out (by kernel_rfl)) (by decide) (by decide) (fun K hK => ?_) (fun K hK => ?_)
        · skip
          refine goes_ Try.func11 (by kernel_rfl) rfl #[.slice (some ⟨nb70, 0, none⟩) 2 2] (by rfl) rfl rfl (by (try simp only [List.map_toArray, List.map_cons, List.map_nil]); first | done | rfl) ?_
          refine (sort_len [s, x] 2 _ HN70.out (by simp) ok1 hn1).mono ?_
          rintro e w1 ⟨A71, c71, rfl, hb⟩
          refine ⟨_, rfl, ?_⟩
          have n0_ := Aside0.mk (below_step HB.out hb)
          have n1_ := Aside0.mk (blk_below BR.out hb)
          have n2_ := Aside0.mk (blk_below B8.out hb)
          have n3_ := Aside0.mk (Kd.C_below H3.out hb)
          have m0_ := Aside0.mk (Kd.C_below HN70.out hb)
          clear HB BR B8 H3 HN70
          have HB := n0_
          have BR := n1_
          have B8 := n2_
          have H3 := n3_
          have HN70 := m0_
          clear n0_ n1_ n2_ n3_ hb m0_
          refine hK.out _ _ ⟨⟨(blk_cell BR.out 0).trans rfl, (blk_cell BR.out 1).trans rfl⟩, (blk_cell B8.out 0).trans rfl, (blk_cell B8.out 1).trans rfl⟩ (fun hHeld => ?_)
          clear hK K
          refine norm_ (a' := ?_) ?_ ?_
          rotate_left
          · show Act.put _ (some 71) _ = _
            simp only [Act.put, List.setIfInBounds_toArray, List.set_cons_zero, List.set_cons_succ, i64_w, i32_w]
            rfl
          refine pure_ (i := 20) (N := some 72) (v := ?_) (a' := ?_) #[true, true, true, true, true, true, true, true, true, true, true, true, true, true, true, true, true, true, true, true, true, true, true, false, false, false, false, false, false, false, false, false, false, false, false, false, false, false, false] rfl rfl (any_of HT_.out (by kernel_rfl)) (fun _ _ _ h => h) (Or.inl ⟨by rfl, ?_⟩) ?_ ?_
          rotate_left
          · intro w'
            go_simp
            with_reducible rfl
          rotate_left
          · simp only [Act.put, List.setIfInBounds_toArray, List.set_cons_zero, List.set_cons_succ, i64_w, i32_w]
            rfl
          refine one_ (i := 23) (N := some 75) #[true, true, true, true, true, true, true, true, true, true, true, true, true, true, true, true, true, true, true, true, true, true, true, true, false, false, false, false, false, false, false, false, false, false, false, false, false, false, false] rfl rfl (one_of HT_.out (by kernel_rfl)) (by decide) (fun K hK => ?_)
          rw [if_pos (by rfl)]
          go_simp
          have hN := Aside0.mk (lit_xs x s (Kd.C_below H0.out HB.out) i0 H3.out i3)
          have hb := below_alloc (Below.refl w1.heap.size w1) (.cells #[.slice A0 x.f0.length c0, .int .i64 x.f1, .slice A3 s.f0.length c3, .int .i64 s.f1] 25)
          have n0_ := Aside0.mk (below_step HB.out hb)
          have n1_ := Aside0.mk (blk_below BR.out hb)
          have n2_ := Aside0.mk (blk_below B8.out hb)
          have n3_ := Aside0.mk (Kd.C_below H3.out hb)
          have m0_ := Aside0.mk (Kd.C_below HN70.out hb)
          clear HB BR B8 H3 HN70
          have HB := n0_
          have BR := n1_
          have B8 := n2_
          have H3 := n3_
          have HN70 := m0_
          clear n0_ n1_ n2_ n3_ hb m0_
          generalize w1.heap.size = nb75 at hN ⊢
          have hN : Aside0 (Kd.C k25 (w1.alloc (.cells #[.slice A0 x.f0.length c0, .int .i64 x.f1, .slice A3 s.f0.length c3, .int .i64 s.f1] 25)) (some ⟨nb75, 0, none⟩) 2 _) := hN
          generalize w1.alloc _ = w1 at hN HB BR B8 H3 HN70 ⊢
          have HN75 := hN
          clear hN
          refine hK.out _ _ ⟨⟨(blk_cell BR.out 0).trans rfl, (blk_cell BR.out 1).trans rfl⟩, (blk_cell B8.out 0).trans rfl, (blk_cell B8.out 1).trans rfl⟩ (fun hHeld => ?_)
          clear hK K
          exact norm_ (by first | (simp only [putAll, Act.put, List.setIfInBounds_toArray, List.set_cons_zero, List.set_cons_succ]; done) | (simp only [putAll, Act.put, List.setIfInBounds_toArray, List.set_cons_zero, List.set_cons_succ]; rfl)) (hCont (.slice (some ⟨nb70, 0, none⟩) 2 2, .slice (some ⟨nb75, 0, none⟩) 2 2, .slice A71 2 c71) _ ⟨HB.out, BR.out, B8.out, H3.out, _, rfl, HN75.out⟩)
        · skip
          rw [if_pos (by rfl)]
          go_simp
          have hN := Aside0.mk (lit_xs x s (Kd.C_below H0.out HB.out) i0 H3.out i3)
          have hb := below_alloc (Below.refl w1.heap.size w1) (.cells #[.slice A0 x.f0.length c0, .int .i64 x.f1, .slice A3 s.f0.length c3, .int .i64 s.f1] 25)
          have n0_ := Aside0.mk (below_step HB.out hb)
          have n1_ := Aside0.mk (blk_below BR.out hb)
          have n2_ := Aside0.mk (blk_below B8.out hb)
          have n3_ := Aside0.mk (Kd.C_below H3.out hb)
          have m0_ := Aside0.mk (Kd.C_below HN70.out hb)
          clear HB BR B8 H3 HN70
          have HB := n0_
          have BR := n1_
          have B8 := n2_
          have H3 := n3_
          have HN70 := m0_
          clear n0_ n1_ n2_ n3_ hb m0_
          generalize w1.heap.size = nb75 at hN ⊢
          have hN : Aside0 (Kd.C k25 (w1.alloc (.cells #[.slice A0 x.f0.length c0, .int .i64 x.f1, .slice A3 s.f0.length c3, .int .i64 s.f1] 25)) (some ⟨nb75, 0, none⟩) 2 _) := hN
          generalize w1.alloc _ = w1 at hN HB BR B8 H3 HN70 ⊢
          have HN75 := hN
          clear hN
          refine hK.out _ _ ⟨⟨(blk_cell BR.out 0).trans rfl, (blk_cell BR.out 1).trans rfl⟩, (blk_cell B8.out 0).trans rfl, (blk_cell B8.out 1).trans rfl⟩ (fun hHeld => ?_)
          clear hK K
          refine one_ (i := 19) (N := some 71) #[true, true, true, true, true, true, true, true, true, true, true, true, true, true, true, true, true, true, true, true, false, true, true, true, false, false, false, false, false, false, false, false, false, false, false, false, false, false, false] rfl rfl (one_of HT_.out (by kernel_rfl)) (by decide) (fun K hK => ?_)
          refine goes_ Try.func11 (by kernel_rfl) rfl #[.slice (some ⟨nb70, 0, none⟩) 2 2] (by rfl) rfl rfl (by (try simp only [List.map_toArray, List.map_cons, List.map_nil]); first | done | rfl) ?_
          refine (sort_len [s, x] 2 _ HN70.out (by simp) ok1 hn1).mono ?_
          rintro e w1 ⟨A71, c71, rfl, hb⟩
          refine ⟨_, rfl, ?_⟩
          have n0_ := Aside0.mk (below_step HB.out hb)
          have n1_ := Aside0.mk (blk_below BR.out hb)
          have n2_ := Aside0.mk (blk_below B8.out hb)
          have n3_ := Aside0.mk (Kd.C_below H3.out hb)
          have m0_ := Aside0.mk (Kd.C_below HN70.out hb)
          have m1_ := Aside0.mk (Kd.C_below HN75.out hb)
          clear HB BR B8 H3 HN70 HN75
          have HB := n0_
          have BR := n1_
          have B8 := n2_
          have H3 := n3_
          have HN70 := m0_
          have HN75 := m1_
          clear n0_ n1_ n2_ n3_ hb m0_ m1_
          refine hK.out _ _ ⟨⟨(blk_cell BR.out 0).trans rfl, (blk_cell BR.out 1).trans rfl⟩, (blk_cell B8.out 0).trans rfl, (blk_cell B8.out 1).trans rfl⟩ (fun hHeld => ?_)
          clear hK K
          refine norm_ (a' := ?_) ?_ ?_
          rotate_left
          · show Act.put _ (some 71) _ = _
            simp only [Act.put, List.setIfInBounds_toArray, List.set_cons_zero, List.set_cons_succ, i64_w, i32_w]
            rfl
          refine pure_ (i := 20) (N := some 72) (v := ?_) (a' := ?_) #[true, true, true, true, true, true, true, true, true, true, true, true, true, true, true, true, true, true, true, true, true, true, true, true, false, false, false, false, false, false, false, false, false, false, false, false, false, false, false] rfl rfl (any_of HT_.out (by kernel_rfl)) (fun _ _ _ h => h) (Or.inl ⟨by rfl, ?_⟩) ?_ ?_
          rotate_left
          · intro w'
            go_simp
            with_reducible rfl
          rotate_left
          · simp only [Act.put, List.setIfInBounds_toArray, List.set_cons_zero, List.set_cons_succ, i64_w, i32_w]
            rfl
          exact norm_ (by first | (simp only [putAll, Act.put, List.setIfInBounds_toArray, List.set_cons_zero, List.set_cons_succ]; done) | (simp only [putAll, Act.put, List.setIfInBounds_toArray, List.set_cons_zero, List.set_cons_succ]; rfl)) (hCont (.slice (some ⟨nb70, 0, none⟩) 2 2, .slice (some ⟨nb75, 0, none⟩) 2 2, .slice A71 2 c71) _ ⟨HB.out, BR.out, B8.out, H3.out, _, rfl, HN75.out⟩)
      · skip
        rw [if_pos (by rfl)]
        go_simp
        have hN := Aside0.mk (lit_xs x s (Kd.C_below H0.out HB.out) i0 H3.out i3)
        have hb := below_alloc (Below.refl w1.heap.size w1) (.cells #[.slice A0 x.f0.length c0, .int .i64 x.f1, .slice A3 s.f0.length c3, .int .i64 s.f1] 25)
        have n0_ := Aside0.mk (below_step HB.out hb)
        have n1_ := Aside0.mk (blk_below BR.out hb)
        have n2_ := Aside0.mk (blk_below B8.out hb)
        have n3_ := Aside0.mk (Kd.C_below H3.out hb)
        clear HB BR B8 H3 
        have HB := n0_
        have BR := n1_
        have B8 := n2_
        have H3 := n3_
        clear n0_ n1_ n2_ n3_ hb 
        generalize w1.heap.size = nb75 at hN ⊢
        have hN : Aside0 (Kd.C k25 (w1.alloc (.cells #[.slice A0 x.f0.length c0, .int .i64 x.f1, .slice A3 s.f0.length c3, .int .i64 s.f1] 25)) (some ⟨nb75, 0, none⟩) 2 _) := hN
        generalize w1.alloc _ = w1 at hN HB BR B8 H3  ⊢
        have HN75 := hN
        clear hN
        refine hK.out _ _ ⟨⟨(blk_cell BR.out 0).trans rfl, (blk_cell BR.out 1).trans rfl⟩, (blk_cell B8.out 0).trans rfl, (blk_cell B8.out 1).trans rfl⟩ (fun hHeld => ?_)
        clear hK K
        refine one_ (i := 18) (N := some 70) #[true, true, true, true, true, true, true, true, true, true, true, true, true, true, true, true, true, true, true, false, false, true, true, true, false, false, false, false, false, false, false, false, false, false, false, false, false, false, false] rfl rfl (one_of HT_.out (by kernel_rfl)) (by decide) (fun K hK => ?_)
        rw [if_pos (by rfl)]
        go_simp
        have hN := Aside0.mk (lit_sx x s (Kd.C_below H0.out HB.out) i0 H3.out i3)
        have hb := below_alloc (Below.refl w1.heap.size w1) (.cells #[.slice A3 s.f0.length c3, .int .i64 s.f1, .slice A0 x.f0.length c0, .int .i64 x.f1] 25)
        have n0_ := Aside0.mk (below_step HB.out hb)
        have n1_ := Aside0.mk (blk_below BR.out hb)
        have n2_ := Aside0.mk (blk_below B8.out hb)
        have n3_ := Aside0.mk (Kd.C_below H3.out hb)
        have m0_ := Aside0.mk (Kd.C_below HN75.out hb)
        clear HB BR B8 H3 HN75
        have HB := n0_
        have BR := n1_
        have B8 := n2_
        have H3 := n3_
        have HN75 := m0_
        clear n0_ n1_ n2_ n3_ hb m0_
        generalize w1.heap.size = nb70 at hN ⊢
        have hN : Aside0 (Kd.C k25 (w1.alloc (.cells #[.slice A3 s.f0.length c3, .int .i64 s.f1, .slice A0 x.f0.length c0, .int .i64 x.f1] 25)) (some ⟨nb70, 0, none⟩) 2 _) := hN
        generalize w1.alloc _ = w1 at hN HB BR B8 H3 HN75 ⊢
        have HN70 := hN
        clear hN
        refine hK.out _ _ ⟨⟨(blk_cell BR.out 0).trans rfl, (blk_cell BR.out 1).trans rfl⟩, (blk_cell B8.out 0).trans rfl, (blk_cell B8.out 1).trans rfl⟩ (fun hHeld => ?_)
        clear hK K
        refine one_ (i := 19) (N := some 71) #[true, true, true, true, true, true, true, true, true, true, true, true, true, true, true, true, true, true, true, true, false, true, true, true, false, false, false, false, false, false, false, false, false, false, false, false, false, false, false] rfl rfl (one_of HT_.out (by kernel_rfl)) (by decide) (fun K hK => ?_)
        refine goes_ Try.func11 (by kernel_rfl) rfl #[.slice (some ⟨nb70, 0, none⟩) 2 2] (by rfl) rfl rfl (by (try simp only [List.map_toArray, List.map_cons, List.map_nil]); first | done | rfl) ?_
        refine (sort_len [s, x] 2 _ HN70.out (by simp) ok1 hn1).mono ?_
        rintro e w1 ⟨A71, c71, rfl, hb⟩
        refine ⟨_, rfl, ?_⟩
        have n0_ := Aside0.mk (below_step HB.out hb)
        have n1_ := Aside0.mk (blk_below BR.out hb)
        have n2_ := Aside0.mk (blk_below B8.out hb)
        have n3_ := Aside0.mk (Kd.C_below H3.out hb)
        have m0_ := Aside0.mk (Kd.C_below HN75.out hb)
        have m1_ := Aside0.mk (Kd.C_below HN70.out hb)
        clear HB BR B8 H3 HN75 HN70
        have HB := n0_
        have BR := n1_
        have B8 := n2_
        have H3 := n3_
        have HN75 := m0_
        have HN70 := m1_
        clear n0_ n1_ n2_ n3_ hb m0_ m1_
        refine hK.out _ _ ⟨⟨(blk_cell BR.out 0).trans rfl, (blk_cell BR.out 1).trans rfl⟩, (blk_cell B8.out 0).trans rfl, (blk_cell B8.out 1).trans rfl⟩ (fun hHeld => ?_)
        clear hK K
        refine norm_ (a' := ?_) ?_ ?_
        rotate_left
        · show Act.put _ (some 71) _ = _
          simp only [Act.put, List.setIfInBounds_toArray, List.set_cons_zero, List.set_cons_succ, i64_w, i32_w]
          rfl
        refine pure_ (i := 20) (N := some 72) (v := ?_) (a' := ?_) #[true, true, true, true, true, true, true, true, true, true, true, true, true, true, true, true, true, true, true, true, true, true, true, true, false, false, false, false, false, false, false, false, false, false, false, false, false, false, false] rfl rfl (any_of HT_.out (by kernel_rfl)) (fun _ _ _ h => h) (Or.inl ⟨by rfl, ?_⟩) ?_ ?_
        rotate_left
        · intro w'
          go_simp
          with_reducible rfl
        rotate_left
        · simp only [Act.put, List.setIfInBounds_toArray, List.set_cons_zero, List.set_cons_succ, i64_w, i32_w]
          rfl
        exact norm_ (by first | (simp only [putAll, Act.put, List.setIfInBounds_toArray, List.set_cons_zero, List.set_cons_succ]; done) | (simp only [putAll, Act.put, List.setIfInBounds_toArray, List.set_cons_zero, List.set_cons_succ]; rfl)) (hCont (.slice (some ⟨nb70, 0, none⟩) 2 2, .slice (some ⟨nb75, 0, none⟩) 2 2, .slice A71 2 c71) _ ⟨HB.out, BR.out, B8.out, H3.out, _, rfl, HN75.out⟩)
    clear HB BR B8 H3 hHeld
    rintro ⟨s1, s2, s3⟩ w1 ⟨hB, hR, h8, h3, nb75, e2, hN⟩
    simp only at e2
    subst e2
    have HB := Aside0.mk hB
    have BR := Aside0.mk hR
    have B8 := Aside0.mk h8
    have H3 := Aside0.mk h3
    have HN75 := Aside0.mk hN
    have hHeld := (show (w1.cell? ⟨w.heap.size, 0, none⟩ = some (.slice A0 x.f0.length c0) ∧ w1.cell? ⟨w.heap.size, 1, none⟩ = some (.int .i64 x.f1)) ∧ w1.cell? ⟨b8, 0, none⟩ = some (.slice A3 s.f0.length c3) ∧ w1.cell? ⟨b8, 1, none⟩ = some (.int .i64 s.f1) from ⟨⟨(blk_cell BR.out 0).trans rfl, (blk_cell BR.out 1).trans rfl⟩, (blk_cell B8.out 0).trans rfl, (blk_cell B8.out 1).trans rfl⟩)
    clear hB hR h8 h3 hN
    refine norm_ (a' := ?_) ?_ ?_
    rotate_left
    · simp only [putAll, Act.put, List.setIfInBounds_toArray, List.set_cons_zero, List.set_cons_succ]
      rfl
    refine one_ (i := 24) (N := some 76) #[true, true, true, true, true, true, true, true, true, true, true, true, true, true, true, true, true, true, true, true, true, true, true, true, true, false, false, false, false, false, false, false, false, false, false, false, false, false, false] rfl rfl (one_of HT_.out (by kernel_rfl)) (by decide) (fun K hK => ?_)
    refine goes_ Try.func11 (by kernel_rfl) rfl #[.slice (some ⟨nb75, 0, none⟩) 2 2] (by rfl) rfl rfl (by (try simp only [List.map_toArray, List.map_cons, List.map_nil]); first | done | rfl) ?_
    refine (sort_len [x, s] 2 _ HN75.out (by simp) ok2 hn2).mono ?_
    rintro e w1 ⟨A76, c76, rfl, hb⟩
    refine ⟨_, rfl, ?_⟩
    have n0_ := Aside0.mk (below_step HB.out hb)
    have n1_ := Aside0.mk (blk_below BR.out hb)
    have n2_ := Aside0.mk (blk_below B8.out hb)
    have n3_ := Aside0.mk (Kd.C_below H3.out hb)
    have m0_ := Aside0.mk (Kd.C_below HN75.out hb)
    clear HB BR B8 H3 HN75
    have HB := n0_
    have BR := n1_
    have B8 := n2_
    have H3 := n3_
    have HN75 := m0_
    clear n0_ n1_ n2_ n3_ hb m0_
    refine hK.out _ _ ⟨⟨(blk_cell BR.out 0).trans rfl, (blk_cell BR.out 1).trans rfl⟩, (blk_cell B8.out 0).trans rfl, (blk_cell B8.out 1).trans rfl⟩ (fun hHeld => ?_)
    clear hK K
    refine norm_ (a' := ?_) ?_ ?_
    rotate_left
    · show Act.put _ (some 76) _ = _
      simp only [Act.put, List.setIfInBounds_toArray, List.set_cons_zero, List.set_cons_succ, i64_w, i32_w]
      rfl
    clear HN75
    refine pure_ (i := 25) (N := some 77) (v := ?_) (a' := ?_) #[true, true, true, true, true, true, true, true, true, true, true, true, true, true, true, true, true, true, true, true, true, true, true, true, true, true, false, false, false, false, false, false, false, false, false, false, false, false, false] rfl rfl (any_of HT_.out (by kernel_rfl)) (fun _ _ _ h => h) (Or.inl ⟨by rfl, ?_⟩) ?_ ?_
    rotate_left
    · intro w'
      go_simp
      with_reducible rfl
    rotate_left
    · simp only [Act.put, List.setIfInBounds_toArray, List.set_cons_zero, List.set_cons_succ, i64_w, i32_w]
      rfl
    refine pure_ (i := 26) (N := some 78) (v := ?_) (a' := ?_) #[true, true, true, true, true, true, true, true, true, true, true, true, true, true, true, true, true, true, true, true, true, true, true, true, true, true, true, false, false, false, false, false, false, false, false, false, false, false, false] rfl rfl (any_of HT_.out (by kernel_rfl)) (fun _ _ _ h => h) (Or.inl ⟨by rfl, ?_⟩) ?_ ?_
    rotate_left
    · intro w'
      go_simp
      with_reducible rfl
    rotate_left
    · simp only [Act.put, List.setIfInBounds_toArray, List.set_cons_zero, List.set_cons_succ, i64_w, i32_w]
      rfl
    refine pure_ (i := 27) (N := some 79) (v := ?_) (a' := ?_) #[true, true, true, true, true, true, true, true, true, true, true, true, true, true, true, true, true, true, true, true, true, true, true, true, true, true, true, true, false, false, false, false, false, false, false, false, false, false, false] rfl rfl (any_of HT_.out (by kernel_rfl)) (fun _ _ _ h => h) (Or.inl ⟨by rfl, ?_⟩) ?_ ?_
    rotate_left
    · intro w'
      go_simp
      with_reducible rfl
    rotate_left
    · simp only [Act.put, List.setIfInBounds_toArray, List.set_cons_zero, List.set_cons_succ, i64_w, i32_w]
      rfl
    refine pure_ (i := 28) (N := some 80) (v := ?_) (a' := ?_) #[true, true, true, true, true, true, true, true, true, true, true, true, true, true, true, true, true, true, true, true, true, true, true, true, true, true, true, true, true, false, false, false, false, false, false, false, false, false, false] rfl rfl (any_of HT_.out (by kernel_rfl)) (fun _ _ _ h => h) (Or.inl ⟨by rfl, ?_⟩) ?_ ?_
    rotate_left
    · intro w'
      go_simp
      with_reducible rfl
    rotate_left
    · simp only [Act.put, List.setIfInBounds_toArray, List.set_cons_zero, List.set_cons_succ, i64_w, i32_w]
      rfl
    refine take_ (i := 29) (N := some 81) (v := ?_) (a' := ?_) #[true, true, true, true, true, true, true, true, true, true, true, true, true, true, true, true, true, true, true, true, true, true, true, true, true, true, true, true, true, true, false, false, false, false, false, false, false, false, false] rfl rfl (take_ofW HT_.out HW_.out (by kernel_rfl)) (fun _ _ _ h => h) (Or.inl ⟨by rfl, ?_⟩) hHeld ?_ ?_
    rotate_left
    · rintro w' ⟨⟨s0, s1⟩, s2, s3⟩
      go_simp
      with_reducible rfl
    rotate_left
    · simp only [Act.put, List.setIfInBounds_toArray, List.set_cons_zero, List.set_cons_succ, i64_w, i32_w]
      rfl
    refine take_ (i := 30) (N := some 82) (v := ?_) (a' := ?_) #[true, true, true, true, true, true, true, true, true, true, true, true, true, true, true, true, true, true, true, true, true, true, true, true, true, true, true, true, true, true, true, false, false, false, false, false, false, false, false] rfl rfl (take_ofW HT_.out HW_.out (by kernel_rfl)) (fun _ _ _ h => h) (Or.inl ⟨by rfl, ?_⟩) hHeld ?_ ?_
    rotate_left
    · rintro w' ⟨⟨s0, s1⟩, s2, s3⟩
      go_simp
      with_reducible rfl
    rotate_left
    · simp only [Act.put, List.setIfInBounds_toArray, List.set_cons_zero, List.set_cons_succ, i64_w, i32_w]
      rfl
    refine pure_ (i := 35) (N := some 87) (v := ?_) (a' := ?_) #[true, true, true, true, true, true, true, true, true, true, true, true, true, true, true, true, true, true, true, true, true, true, true, true, true, true, true, true, true, true, true, false, false, false, false, true, false, false, false] rfl rfl (any_of HT_.out (by kernel_rfl)) (fun _ _ _ h => h) (Or.inl ⟨by rfl, ?_⟩) ?_ ?_
    rotate_left
    · intro w'
      go_simp
      with_reducible rfl
    rotate_left
    · simp only [Act.put, List.setIfInBounds_toArray, List.set_cons_zero, List.set_cons_succ, i64_w, i32_w]
      rfl
    refine one_ (i := 31) (N := some 83) #[true, true, true, true, true, true, true, true, true, true, true, true, true, true, true, true, true, true, true, true, true, true, true, true, true, true, true, true, true, true, true, true, false, false, false, true, false, false, false] rfl rfl (one_of HT_.out (by kernel_rfl)) (by decide) (fun K hK => ?_)
    rw [if_pos (by rfl)]
    go_simp
    have hN := Aside0.mk (lit_xs x s (Kd.C_below H0.out HB.out) i0 H3.out i3)
    have hb := below_alloc (Below.refl w1.heap.size w1) (.cells #[.slice A0 x.f0.length c0, .int .i64 x.f1, .slice A3 s.f0.length c3, .int .i64 s.f1] 25)
    have n0_ := Aside0.mk (below_step HB.out hb)
    have n1_ := Aside0.mk (blk_below BR.out hb)
    have n2_ := Aside0.mk (blk_below B8.out hb)
    have n3_ := Aside0.mk (Kd.C_below H3.out hb)
    clear HB BR B8 H3 
    have HB := n0_
    have BR := n1_
    have B8 := n2_
    have H3 := n3_
    clear n0_ n1_ n2_ n3_ hb 
    generalize w1.heap.size = nb83 at hN ⊢
    have hN : Aside0 (Kd.C k25 (w1.alloc (.cells #[.slice A0 x.f0.length c0, .int .i64 x.f1, .slice A3 s.f0.length c3, .int .i64 s.f1] 25)) (some ⟨nb83, 0, none⟩) 2 _) := hN
    generalize w1.alloc _ = w1 at hN HB BR B8 H3  ⊢
    have HN83 := hN
    clear hN
    refine hK.out _ _ ⟨⟨(blk_cell BR.out 0).trans rfl, (blk_cell BR.out 1).trans rfl⟩, (blk_cell B8.out 0).trans rfl, (blk_cell B8.out 1).trans rfl⟩ (fun hHeld => ?_)
    clear hK K
    refine one_ (i := 32) (N := some 84) #[true, true, true, true, true, true, true, true, true, true, true, true, true, true, true, true, true, true, true, true, true, true, true, true, true, true, true, true, true, true, true, true, true, false, false, true, false, false, false] rfl rfl (one_of HT_.out (by kernel_rfl)) (by decide) (fun K hK => ?_)
    refine goes_ Try.func11 (by kernel_rfl) rfl #[.slice (some ⟨nb83, 0, none⟩) 2 2] (by rfl) rfl rfl (by (try simp only [List.map_toArray, List.map_cons, List.map_nil]); first | done | rfl) ?_
    refine (sort_len [x, s] 2 _ HN83.out (by simp) ok2 hn2).mono ?_
    rintro e w1 ⟨A84, c84, rfl, hb⟩
    refine ⟨_, rfl, ?_⟩
    have n0_ := Aside0.mk (below_step HB.out hb)
    have n1_ := Aside0.mk (blk_below BR.out hb)
    have n2_ := Aside0.mk (blk_below B8.out hb)
    have n3_ := Aside0.mk (Kd.C_below H3.out hb)
    have m0_ := Aside0.mk (Kd.C_below HN83.out hb)
    clear HB BR B8 H3 HN83
    have HB := n0_
    have BR := n1_
    have B8 := n2_
    have H3 := n3_
    have HN83 := m0_
    clear n0_ n1_ n2_ n3_ hb m0_
    refine hK.out _ _ ⟨⟨(blk_cell BR.out 0).trans rfl, (blk_cell BR.out 1).trans rfl⟩, (blk_cell B8.out 0).trans rfl, (blk_cell B8.out 1).trans rfl⟩ (fun hHeld => ?_)
    clear hK K
    refine norm_ (a' := ?_) ?_ ?_
    rotate_left
    · show Act.put _ (some 84) _ = _
      simp only [Act.put, List.setIfInBounds_toArray, List.set_cons_zero, List.set_cons_succ, i64_w, i32_w]
      rfl
    clear HN83
    refine pure_ (i := 33) (N := some 85) (v := ?_) (a' := ?_) #[true, true, true, true, true, true, true, true, true, true, true, true, true, true, true, true, true, true, true, true, true, true, true, true, true, true, true, true, true, true, true, true, true, true, false, true, false, false, false] rfl rfl (any_of HT_.out (by kernel_rfl)) (fun _ _ _ h => h) (Or.inl ⟨by rfl, ?_⟩) ?_ ?_
    rotate_left
    · intro w'
      go_simp
      with_reducible rfl
    rotate_left
    · simp only [Act.put, List.setIfInBounds_toArray, List.set_cons_zero, List.set_cons_succ, i64_w, i32_w]
      rfl
    refine pure_ (i := 34) (N := some 86) (v := ?_) (a' := ?_) #[true, true, true, true, true, true, true, true, true, true, true, true, true, true, true, true, true, true, true, true, true, true, true, true, true, true, true, true, true, true, true, true, true, true, true, true, false, false, false] rfl rfl (any_of HT_.out (by kernel_rfl)) (fun _ _ _ h => h) (Or.inl ⟨by rfl, ?_⟩) ?_ ?_
    rotate_left
    · intro w'
      go_simp
      with_reducible rfl
    rotate_left
    · simp only [Act.put, List.setIfInBounds_toArray, List.set_cons_zero, List.set_cons_succ, i64_w, i32_w]
      rfl
    refine pure_ (i := 36) (N := some 88) (v := ?_) (a' := ?_) #[true, true, true, true, true, true, true, true, true, true, true, true, true, true, true, true, true, true, true, true, true, true, true, true, true, true, true, true, true, true, true, true, true, true, true, true, true, false, false] rfl rfl (any_of HT_.out (by kernel_rfl)) (fun _ _ _ h => h) (Or.inl ⟨by rfl, ?_⟩) ?_ ?_
    rotate_left
    · intro w'
      go_simp
      with_reducible rfl
    rotate_left
    · simp only [Act.put, List.setIfInBounds_toArray, List.set_cons_zero, List.set_cons_succ, i64_w, i32_w]
      rfl
    refine pure_ (i := 37) (N := some 89) (v := ?_) (a' := ?_) #[true, true, true, true, true, true, true, true, true, true, true, true, true, true, true, true, true, true, true, true, true, true, true, true, true, true, true, true, true, true, true, true, true, true, true, true, true, true, false] rfl rfl (any_of HT_.out (by kernel_rfl)) (fun _ _ _ h => h) (Or.inl ⟨by rfl, ?_⟩) ?_ ?_
    rotate_left
    · intro w'
      go_simp
      with_reducible rfl
    rotate_left
    · simp only [Act.put, List.setIfInBounds_toArray, List.set_cons_zero, List.set_cons_succ, i64_w, i32_w]
      rfl
    refine pure_ (i := 38) (N := some 6) (v := ?_) (a' := ?_) #[true, true, true, true, true, true, true, true, true, true, true, true, true, true, true, true, true, true, true, true, true, true, true, true, true, true, true, true, true, true, true, true, true, true, true, true, true, true, true] rfl rfl (any_of HT_.out (by kernel_rfl)) (fun _ _ _ h => h) (Or.inl ⟨by rfl, ?_⟩) ?_ ?_
    rotate_left
    · intro w'
      go_simp
      with_reducible rfl
    rotate_left
    · simp only [Act.put, List.setIfInBounds_toArray, List.set_cons_zero, List.set_cons_succ, i64_w, i32_w]
      rfl
    refine done_ (done_of HT_.out (by kernel_rfl)) ?_
    go_wp2
    go_ret
    exact ⟨rfl, HB.out⟩
end Go.Proofs.Ytladdncfhjjppaa.PA