import Derived.Test.YtladdncfhjjppaaPAx4
import Derived.Test.YtladdncfhjjppaaPAx5
namespace Go.Proofs.Ytladdncfhjjppaa.PA
open Go.RowKit Go.Proofs.YtladdncfhjjppaaW.PrintWords Go.Proofs.YtladdncfhjjppaaW.PrintLast Go.Proofs.YtladdncfhjjppaaW.PrintMore
attribute [local go_sem] max2_int min2_int max_two min_two max_three min_three max_four min_four
set_option linter.unusedVariables false
set_option linter.unusedSimpArgs false

/-- A row cut at both ends: l[:n:n]. -/
theorem cut_to3 {P : Program} (t e : TypeId) (kh : IntKind) {i : TypeInfo} (ht : P.underlying t = some (.slice e)) (hi : P.info? e = some i) (A : Option Addr) (n c : Nat) (j : Int) (h0 : 0 ≤ j) (hm : j ≤ n) (hc : n ≤ c) :
    ∀ W : World, (Instr.slice t (.slice A n c) none (some (.int kh j)) (some (.int kh j))).run P W = .ok (.slice A j.toNat j.toNat) W := by
  intro W
  have hel : P.elem t = e := by simp [Program.elem, ht]
  have hu : P.underlying t = some (.slice (P.elem t)) := by rw [hel]; exact ht
  have ha : (A.map fun x => x.add 0) = A := by cases A <;> simp [Addr.add]
  rw [run_slice_hm W t A n c hu kh kh j j h0 (Int.le_refl _) (by omega), hel]
  simp [sizeOf, typeInfo, hi, sliced, Result.andThen, ha]

def order_Insert.f (l0 : List (S25)) (l1_0 : List (S34)) (a1_1 : Int) (a2 : Int) : Option ((List (S25))) := (order_copied.f l0).bind fun t133 => ((some (([(⟨l1_0, a1_1⟩ : S25)] : List (S25)) : List (S25))).bind fun y136 => (if t133.length + y136.length < 4398046511104 then ((order_Sort.f (t133 ++ y136)).bind fun t142 => (if 0 ≤ (mx 0 (mn a2 (t142.length : Int))) then (if (mx 0 (mn a2 (t142.length : Int))) ≤ (t142.length : Int) then (some (t142.take ((mx 0 (mn a2 (t142.length : Int))) : Int).toNat)) else (none)) else (none))) else (none)))
set_option maxHeartbeats 8000000 in
set_option maxRecDepth 100000 in
theorem order_Insert.calls (A0 : Option Addr) (c0 : Nat) (l0 : List (S25)) (P1_0_ : Nat → Prop) (A1_0 : Option Addr) (c1_0 : Nat) (l1_0 : List (S34)) (a1_1 : Int) (a2 : Int) (r : List (S25)) (w : World) (hr0 : Kd.C k25 w A0 l0.length l0) (hc0 : l0.length ≤ c0) (hs1_0 : Kd.V k34 34 w w.heap.size (fun k_ => P1_0_ k_) (.slice A1_0 l1_0.length c1_0) l1_0) (h : order_Insert.f l0 l1_0 a1_1 a2 = some r) :
    Calls Try.prog 13 #[.slice A0 l0.length c0, .agg #[.slice A1_0 l1_0.length c1_0, .int .i64 a1_1], .int .i64 a2] w fun e w' => ∃ v0_ : Value, e = .returned (v0_) ∧ Kd.V k25 25 w' w.heap.size (fun k_ => (P1_0_ k_ ∨ w.heap.size ≤ k_)) v0_ r ∧ Below w.heap.size w w' := by
  have hu25 := Try.underlying25
  have HR0 := Aside0.mk hr0
  have HC0 := Aside0.mk hc0
  clear hr0 hc0
  have HO1_0 := Aside0.mk (show Kd.V k34 34 w w.heap.size (fun k_ => (P1_0_ k_ ∨ w.heap.size ≤ k_)) (.slice A1_0 l1_0.length c1_0) l1_0 from Kd.V_mono hs1_0 (fun k_ hk => .inl hk))
  have HB := Aside0.mk (Below.refl w.heap.size w)
  have H : ((order_copied.f l0).bind fun t133 => ((some (([(⟨l1_0, a1_1⟩ : S25)] : List (S25)) : List (S25))).bind fun y136 => (if t133.length + y136.length < 4398046511104 then ((order_Sort.f (t133 ++ y136)).bind fun t142 => (if 0 ≤ (mx 0 (mn a2 (t142.length : Int))) then (if (mx 0 (mn a2 (t142.length : Int))) ≤ (t142.length : Int) then (some (t142.take ((mx 0 (mn a2 (t142.length : Int))) : Int).toNat)) else (none)) else (none))) else (none)))) = some r := h
  clear h
  replace H := Option.bind_eq_some_iff.mp H
  obtain ⟨t133, A40, H⟩ := H
  replace H : ((some (([(⟨l1_0, a1_1⟩ : S25)] : List (S25)) : List (S25))).bind fun y136 => (if t133.length + y136.length < 4398046511104 then ((order_Sort.f (t133 ++ y136)).bind fun t142 => (if 0 ≤ (mx 0 (mn a2 (t142.length : Int))) then (if (mx 0 (mn a2 (t142.length : Int))) ≤ (t142.length : Int) then (some (t142.take ((mx 0 (mn a2 (t142.length : Int))) : Int).toNat)) else (none)) else (none))) else (none))) = some r := H
  have A4 := Aside0.mk A40
  clear A40
  obtain ⟨y136, hy136⟩ : ∃ y_ : List (S25), y_ = (([(⟨l1_0, a1_1⟩ : S25)] : List (S25))) := ⟨_, rfl⟩
  replace H : (if t133.length + y136.length < 4398046511104 then ((order_Sort.f (t133 ++ y136)).bind fun t142 => (if 0 ≤ (mx 0 (mn a2 (t142.length : Int))) then (if (mx 0 (mn a2 (t142.length : Int))) ≤ (t142.length : Int) then (some (t142.take ((mx 0 (mn a2 (t142.length : Int))) : Int).toNat)) else (none)) else (none))) else (none)) = some r := by first | (rw [hy136]; with_reducible exact H) | (have H2_ := (Option.bind_some _ _).symm.trans H; rw [hy136]; with_reducible exact H2_) | (have H2_ := (Option.bind_some _ _).symm.trans H; with_reducible exact H2_) | with_reducible exact H | (rw [hy136]; exact H) | exact H
  have Ny136 := Aside0.mk hy136
  clear hy136
  by_cases c5 : t133.length + y136.length < 4398046511104
  · rw [if_pos c5] at H
    have LMc5 := Aside0.mk c5
    clear c5
    obtain ⟨y139, hy139⟩ : ∃ y_ : List (S25), y_ = (t133 ++ y136) := ⟨_, rfl⟩
    replace H : ((order_Sort.f y139).bind fun t142 => (if 0 ≤ (mx 0 (mn a2 (t142.length : Int))) then (if (mx 0 (mn a2 (t142.length : Int))) ≤ (t142.length : Int) then (some (t142.take ((mx 0 (mn a2 (t142.length : Int))) : Int).toNat)) else (none)) else (none))) = some r := by first | (rw [hy139]; with_reducible exact H) | (have H2_ := (Option.bind_some _ _).symm.trans H; rw [hy139]; with_reducible exact H2_) | (have H2_ := (Option.bind_some _ _).symm.trans H; with_reducible exact H2_) | with_reducible exact H | (rw [hy139]; exact H) | exact H
    have Ny139 := Aside0.mk hy139
    clear hy139
    replace H := Option.bind_eq_some_iff.mp H
    obtain ⟨t142, A60, H⟩ := H
    replace H : (if 0 ≤ (mx 0 (mn a2 (t142.length : Int))) then (if (mx 0 (mn a2 (t142.length : Int))) ≤ (t142.length : Int) then (some (t142.take ((mx 0 (mn a2 (t142.length : Int))) : Int).toNat)) else (none)) else (none)) = some r := H
    have A6 := Aside0.mk A60
    clear A60
    obtain ⟨ji7, hji7⟩ : ∃ j_ : Int, (mn a2 (t142.length : Int)) = j_ := ⟨_, rfl⟩
    replace H : (if 0 ≤ (mx 0 (ji7)) then (if (mx 0 (ji7)) ≤ (t142.length : Int) then (some (t142.take ((mx 0 (ji7)) : Int).toNat)) else (none)) else (none)) = some r := by first | (rw [hji7] at H; exact H) | (simp only [hji7] at H ⊢; exact H)
    (try rw [hji7] at A4)
    (try rw [hji7] at A6)
    have hji7_ : (if (t142.length : Int) < a2 then (t142.length : Int) else a2) = ji7 := hji7
    obtain ⟨ji8, hji8⟩ : ∃ j_ : Int, (mx 0 (ji7)) = j_ := ⟨_, rfl⟩
    replace H : (if 0 ≤ (ji8) then (if (ji8) ≤ (t142.length : Int) then (some (t142.take ((ji8) : Int).toNat)) else (none)) else (none)) = some r := by first | (rw [hji8] at H; exact H) | (simp only [hji8] at H ⊢; exact H)
    (try rw [hji8] at A4)
    (try rw [hji8] at A6)
    have hji8_ : (if 0 < (ji7) then (ji7) else 0) = ji8 := hji8
    by_cases c9 : 0 ≤ (ji8)
    · rw [if_pos c9] at H
      have c9b0 := eq_true c9
      have c9b1 : decide (0 ≤ (ji8)) = true := decide_eq_true c9
      clear c9
      by_cases c10 : (ji8) ≤ (t142.length : Int)
      · rw [if_pos c10] at H
        have c10b0 := eq_true c10
        have c10b1 : decide ((ji8) ≤ (t142.length : Int)) = true := decide_eq_true c10
        clear c10
        obtain ⟨y145, hy145⟩ : ∃ y_ : List (S25), y_ = (t142.take ((ji8) : Int).toNat) := ⟨_, rfl⟩
        replace H : (some y145) = some r := by first | (rw [hy145]; with_reducible exact H) | (have H2_ := (Option.bind_some _ _).symm.trans H; rw [hy145]; with_reducible exact H2_) | (have H2_ := (Option.bind_some _ _).symm.trans H; with_reducible exact H2_) | with_reducible exact H | (rw [hy145]; exact H) | exact H
        have Ny145 := Aside0.mk hy145
        clear hy145
        obtain rfl := Option.some.inj H
        go_enter Try.func13, Try.ntmps13
        try go_wp2_with (first | ((with_reducible refine gate_dst (N := 4) rfl ?_); refine box_event ?hg (N := 4) ?hd (cs := #[.slice A1_0 l1_0.length c1_0, .int .i64 a1_1]) (t := 25) ?hr ?_; (case hd => rfl); (case hg => rfl); (case hr => first | (go_simp; done) | (go_simp; rfl)); intro gb132 hg w11 hbox hb; have n0_ := Aside0.mk (Kd.V_below (Kd.V_elderB (by (with_reducible repeat (first | apply Kd.V_alloc | apply Kd.V_drewN | apply Kd.V_drew)); exact HO1_0.out) gb132 (Nat.le_of_eq hg.symm)) hb); have n1_ := Aside0.mk (below_step (by repeat (first | (with_reducible first | exact HB.out | apply below_alloc | apply pw_below_drewN | apply below_drew1) | exact HB.out)) hb); have n2_ := Aside0.mk (hbox); have n3_ := Aside0.mk ((by rw [hg]; exact (below_size (by repeat (first | (with_reducible first | exact HB.out | apply below_alloc | apply pw_below_drewN | apply below_drew1) | exact HB.out))) : w.heap.size ≤ gb132)); have n4_ := Aside0.mk ((by rw [hg]; exact (below_size (by repeat (first | (with_reducible first | exact HB.out | apply below_alloc | apply pw_below_drewN | apply below_drew1) | exact HB.out))) : w.heap.size ≤ gb132)); clear HO1_0; clear HB; have HO1_0 := n0_; have HB := n1_; have BK132 := n2_; have GW132 := n3_; have GE132 := n4_; clear n0_ n1_ n2_ n3_ n4_; clear hb hbox hg))
        have n0_ := Aside0.mk (Kd.V_drew HO1_0.out)
        have n1_ := Aside0.mk (blk_drew BK132.out)
        have n2_ := Aside0.mk (below_drew1 HB.out)
        clear HO1_0
        clear BK132
        clear HB
        have HO1_0 := n0_
        have BK132 := n1_
        have HB := n2_
        clear n0_ n1_ n2_
        refine start_ (n := 7) (S := fun w' => w'.cell? ⟨gb132, 0, none⟩ = some (.slice A1_0 l1_0.length c1_0) ∧ w'.cell? ⟨gb132, 1, none⟩ = some (.int .i64 a1_1)) (ds := []) #[false, false, false, false, false, false, false] (by kernel_rfl) rfl rfl ⟨(blk_cell BK132.out 0).trans rfl, (blk_cell BK132.out 1).trans rfl⟩ (fun hHeld => ?_)
        generalize w11.drew = w12 at HO1_0 BK132 HB hHeld ⊢
        refine pure_ (i := 0) (N := some 8) (v := ?_) (a' := ?_) #[true, false, false, false, false, false, false] rfl rfl (by kernel_rfl) (fun _ _ _ h => h) (Or.inl ⟨by rfl, ?_⟩) ?_ ?_
        rotate_left
        · intro w'
          go_simp
          with_reducible rfl
        rotate_left
        · simp only [Act.put, List.setIfInBounds_toArray, List.set_cons_zero, List.set_cons_succ, i64_w, i32_w]
          rfl
        refine take_ (i := 2) (N := some 10) (v := ?_) (a' := ?_) #[true, false, true, false, false, false, false] rfl rfl (by kernel_rfl) (fun _ _ _ h => h) (Or.inl ⟨by rfl, ?_⟩) hHeld ?_ ?_
        rotate_left
        · rintro w' ⟨s0, s1⟩
          go_simp
          with_reducible rfl
        rotate_left
        · simp only [Act.put, List.setIfInBounds_toArray, List.set_cons_zero, List.set_cons_succ, i64_w, i32_w]
          rfl
        refine join_ (σ := Value × Value) 3 #[true, true, true, true, false, false, false] (fun s_ => [(9, s_.1), (11, s_.2)]) (fun s_ w' => (w'.cell? ⟨gb132, 0, none⟩ = some (.slice A1_0 l1_0.length c1_0) ∧ w'.cell? ⟨gb132, 1, none⟩ = some (.int .i64 a1_1)) ∧ (Kd.N k25 25 w' w.heap.size (fun k_ => (P1_0_ k_ ∨ w.heap.size ≤ k_) ∧ some k_ ≠ (s_.2 : Value).ownBlock ∧ k_ ≠ gb132) s_.1 t133) ∧ (Kd.N k25 25 w' w.heap.size (fun k_ => (P1_0_ k_ ∨ w.heap.size ≤ k_) ∧ some k_ ≠ (s_.1 : Value).ownBlock ∧ k_ ≠ gb132) s_.2 y136) ∧ (Kd.V k34 34 w' w.heap.size (fun k_ => (P1_0_ k_ ∨ w.heap.size ≤ k_) ∧ some k_ ≠ (s_.1 : Value).ownBlock ∧ some k_ ≠ (s_.2 : Value).ownBlock ∧ k_ ≠ gb132) (.slice A1_0 l1_0.length c1_0) l1_0) ∧ (w'.heap[gb132]? = some (.cells #[.slice A1_0 l1_0.length c1_0, .int .i64 a1_1] 25 (0, 0))) ∧ (Below w.heap.size w w')) ?_ ?_
        rotate_left
        · intro hCont
          refine two_ (i := 1) (j := 3) (Ni := some 9) (Nj := some 11) #[true, true, true, false, false, false, false] #[true, false, true, true, false, false, false] rfl rfl rfl rfl (by kernel_rfl) (by decide) (by decide) (fun K hK => ?_) (fun K hK => ?_)
          · skip
            refine goes_ Try.func23 (by kernel_rfl) rfl #[.slice A0 l0.length c0] (by rfl) rfl rfl (by (try simp only [List.map_toArray, List.map_cons, List.map_nil]); first | done | rfl | (simp only [List.length_drop, List.length_take]; rfl)) ?_
            with_reducible refine (order_copied.calls _ _ l0 t133 _ ?side1 ?side2 A4.out).mono ?_
            (case side1 => repeat (first | exact (Kd.C_below HR0.out HB.out) | (with_reducible refine Kd.C_alloc ?_ _) | (with_reducible refine Kd.C_drewN ?_ _) | (with_reducible refine Kd.C_drew ?_)))
            (case side2 => exact HC0.out)
            rintro e w13 ⟨v134, rfl, ho0, hb⟩
            refine ⟨_, rfl, ?_⟩
            have n0_ := Aside0.mk (Kd.V_elder' (by (with_reducible repeat (first | apply Kd.V_alloc | apply Kd.V_drewN | apply Kd.V_drew)); exact HO1_0.out) (by first | exact Kd.N_base ho0 | exact Kd.S_base ho0 | exact Kd.R_base ho0) hb)
            have n1_ := Aside0.mk (Kd.N_lower (Kd.N_mono (ok' := fun k_ => (P1_0_ k_ ∨ w.heap.size ≤ k_) ∧ k_ ≠ gb132) (Kd.S_N (Kd.S_bound ho0)) (fun k_ hk_ => ⟨(.inr (Nat.le_trans (below_size (by repeat (first | (with_reducible first | exact HB.out | apply below_alloc | apply pw_below_drewN | apply below_drew1 | refine below_set ?_ GE132.out) | exact HB.out))) hk_.2.1)), (Kd.freshB (g := gb132) (o := .cells #[.slice A1_0 l1_0.length c1_0, .int .i64 a1_1] 25 (0, 0)) (by (with_reducible repeat (first | refine blk_drewN ?_ _ | refine blk_drew ?_ | refine blk_alloc ?_ _)); exact BK132.out) k_ hk_.2.1)⟩)) (below_size (by repeat (first | (with_reducible first | exact HB.out | apply below_alloc | apply pw_below_drewN | apply below_drew1 | refine below_set ?_ GE132.out) | exact HB.out))))
            have n2_ := Aside0.mk (blk_below (g := gb132) (o := .cells #[.slice A1_0 l1_0.length c1_0, .int .i64 a1_1] 25 (0, 0)) (by (with_reducible repeat (first | refine blk_drewN ?_ _ | refine blk_drew ?_ | refine blk_alloc ?_ _)); exact BK132.out) hb)
            have n3_ := Aside0.mk (below_step (by repeat (first | (with_reducible first | exact HB.out | apply below_alloc | apply pw_below_drewN | apply below_drew1 | refine below_set ?_ GE132.out) | exact HB.out)) hb)
            clear HO1_0
            clear BK132
            clear HB
            have HO1_0 := n0_
            have HO135 := n1_
            have BK132 := n2_
            have HB := n3_
            clear n0_ n1_ n2_ n3_
            (try clear hb)
            (try clear hb2)
            (try clear hk)
            (try clear hi)
            (try clear ho0)
            refine hK.out _ _ ⟨(blk_cell BK132.out 0).trans rfl, (blk_cell BK132.out 1).trans rfl⟩ (fun hHeld => ?_)
            clear hK K
            refine norm_ (a' := ?_) ?_ ?_
            rotate_left
            · show Act.put _ (some 9) _ = _
              simp only [Act.put, List.setIfInBounds_toArray, List.set_cons_zero, List.set_cons_succ, i64_w, i32_w]
              rfl
            refine one_ (i := 3) (N := some 11) #[true, true, true, true, false, false, false] rfl rfl (by kernel_rfl) (by decide) (fun K hK => ?_)
            refine Kd.N_lit_step k25 _ 25 ?hg (N' := 11) ?hd (xs := ([(⟨l1_0, a1_1⟩ : S25)] : List (S25))) (inner := [.slice A1_0 l1_0.length c1_0, .int .i64 a1_1]) (ok := (fun k_ => (P1_0_ k_ ∨ w.heap.size ≤ k_) ∧ some k_ ≠ (v134 : Value).ownBlock ∧ k_ ≠ gb132)) (okp := (fun k_ => (P1_0_ k_ ∨ w.heap.size ≤ k_) ∧ some k_ ≠ (v134 : Value).ownBlock ∧ k_ ≠ gb132)) ?hr ?hp (fun _ hk => hk) ((show ∀ k_, w13.heap.size ≤ k_ → (fun k_ => (P1_0_ k_ ∨ w.heap.size ≤ k_) ∧ some k_ ≠ (v134 : Value).ownBlock ∧ k_ ≠ gb132) k_ from fun k_ hk => ⟨(.inr (Nat.le_trans (below_size (by repeat (first | (with_reducible first | exact HB.out | apply below_alloc | apply pw_below_drewN | apply below_drew1 | refine below_set ?_ GE132.out) | exact HB.out))) hk)), Kd.fresh' (Kd.N_lt (by (with_reducible repeat (first | apply Kd.N_alloc | apply Kd.N_drewN | apply Kd.N_drew)); exact HO135.out)) k_ hk, Kd.freshB (g := gb132) (o := .cells #[.slice A1_0 l1_0.length c1_0, .int .i64 a1_1] 25 (0, 0)) (by (with_reducible repeat (first | refine blk_drewN ?_ _ | refine blk_drew ?_ | refine blk_alloc ?_ _)); exact BK132.out) k_ hk⟩) _ (Nat.le_refl _)) (Below.refl _ _) (Nat.le_refl _) (by simp) ?_; (case hd => rfl); (case hg => rfl); (case hr => first | (go_simp; done) | (go_simp; rfl)); (case hp => exact (Reps.c2 (show Kd.FK k25 _ _ (⟨l1_0, a1_1⟩ : S25) [.slice A1_0 l1_0.length c1_0, .int .i64 a1_1] from (k25_mkF _ _ (⟨l1_0, a1_1⟩ : S25) (Kd.V_reads' (Kd.V_mono (ok' := (fun k_ => (P1_0_ k_ ∨ w.heap.size ≤ k_) ∧ some k_ ≠ (v134 : Value).ownBlock ∧ k_ ≠ gb132)) (HO1_0.out) (fun k_ hk => ⟨hk.1.1, ⟨hk.2, hk.1.2⟩⟩))).2.1 (Kd.V_F (Kd.V_mono (ok' := (fun k_ => (P1_0_ k_ ∨ w.heap.size ≤ k_) ∧ some k_ ≠ (v134 : Value).ownBlock ∧ k_ ≠ gb132)) (HO1_0.out) (fun k_ hk => ⟨hk.1.1, ⟨hk.2, hk.1.2⟩⟩))))) (Reps.none _ _)))
            intro v137 w14 ho15 hb hg_ hnew_
            clear hg_ hnew_
            (first | rw [← Ny136.out] at ho15 | (simp only [Int.reduceToNat] at ho15; rw [← Ny136.out] at ho15))
            have n0_ := Aside0.mk (Kd.V_elder' (by (with_reducible repeat (first | apply Kd.V_alloc | apply Kd.V_drewN | apply Kd.V_drew)); exact HO1_0.out) (Kd.N_base ho15) hb)
            have n1_ := Aside0.mk (Kd.N_elder' (by (with_reducible repeat (first | apply Kd.N_alloc | apply Kd.N_drewN | apply Kd.N_drew)); exact HO135.out) (Kd.N_base ho15) hb)
            have n2_ := Aside0.mk (Kd.N_lower ho15 (below_size (by repeat (first | (with_reducible first | exact HB.out | apply below_alloc | apply pw_below_drewN | apply below_drew1 | refine below_set ?_ GE132.out) | exact HB.out))))
            have n3_ := Aside0.mk (blk_below (g := gb132) (o := .cells #[.slice A1_0 l1_0.length c1_0, .int .i64 a1_1] 25 (0, 0)) (by (with_reducible repeat (first | refine blk_drewN ?_ _ | refine blk_drew ?_ | refine blk_alloc ?_ _)); exact BK132.out) hb)
            have n4_ := Aside0.mk (below_step (by repeat (first | (with_reducible first | exact HB.out | apply below_alloc | apply pw_below_drewN | apply below_drew1 | refine below_set ?_ GE132.out) | exact HB.out)) hb)
            clear HO1_0
            clear HO135
            clear BK132
            clear HB
            have HO1_0 := n0_
            have HO135 := n1_
            have HO138 := n2_
            have BK132 := n3_
            have HB := n4_
            clear n0_ n1_ n2_ n3_ n4_
            clear hb ho15
            refine hK.out _ _ ⟨(blk_cell BK132.out 0).trans rfl, (blk_cell BK132.out 1).trans rfl⟩ (fun hHeld => ?_)
            clear hK K
            refine norm_ (a' := ?_) ?_ ?_
            rotate_left
            · show Act.put _ (some 11) _ = _
              simp only [Act.put, List.setIfInBounds_toArray, List.set_cons_zero, List.set_cons_succ, i64_w, i32_w]
              rfl
            exact norm_ (by simp only [putAll, Act.put, List.setIfInBounds_toArray, List.set_cons_zero, List.set_cons_succ]) (hCont (v134, v137) _ ⟨hHeld, (by (with_reducible repeat (first | apply Kd.N_alloc | apply Kd.N_drewN | apply Kd.N_drew)); exact Kd.N_mono HO135.out (fun _ hk => ⟨hk.1.1, ⟨hk.2, hk.1.2⟩⟩)), (by (with_reducible repeat (first | apply Kd.N_alloc | apply Kd.N_drewN | apply Kd.N_drew)); exact HO138.out), (by (with_reducible repeat (first | apply Kd.V_alloc | apply Kd.V_drewN | apply Kd.V_drew)); exact Kd.V_mono HO1_0.out (fun _ hk => ⟨hk.1.1.1, ⟨hk.1.2, ⟨hk.2, hk.1.1.2⟩⟩⟩)), (by (with_reducible repeat (first | refine blk_drewN ?_ _ | refine blk_drew ?_ | refine blk_alloc ?_ _)); exact BK132.out), (by repeat (first | (with_reducible first | exact HB.out | apply below_alloc | apply pw_below_drewN | apply below_drew1 | refine below_set ?_ GE132.out) | exact HB.out))⟩)
          · skip
            refine Kd.N_lit_step k25 _ 25 ?hg (N' := 11) ?hd (xs := ([(⟨l1_0, a1_1⟩ : S25)] : List (S25))) (inner := [.slice A1_0 l1_0.length c1_0, .int .i64 a1_1]) (ok := (fun k_ => (P1_0_ k_ ∨ w.heap.size ≤ k_) ∧ k_ ≠ gb132)) (okp := (fun k_ => (P1_0_ k_ ∨ w.heap.size ≤ k_) ∧ k_ ≠ gb132)) ?hr ?hp (fun _ hk => hk) ((show ∀ k_, w12.heap.size ≤ k_ → (fun k_ => (P1_0_ k_ ∨ w.heap.size ≤ k_) ∧ k_ ≠ gb132) k_ from fun k_ hk => ⟨(.inr (Nat.le_trans (below_size (by repeat (first | (with_reducible first | exact HB.out | apply below_alloc | apply pw_below_drewN | apply below_drew1 | refine below_set ?_ GE132.out) | exact HB.out))) hk)), Kd.freshB (g := gb132) (o := .cells #[.slice A1_0 l1_0.length c1_0, .int .i64 a1_1] 25 (0, 0)) (by (with_reducible repeat (first | refine blk_drewN ?_ _ | refine blk_drew ?_ | refine blk_alloc ?_ _)); exact BK132.out) k_ hk⟩) _ (Nat.le_refl _)) (Below.refl _ _) (Nat.le_refl _) (by simp) ?_; (case hd => rfl); (case hg => rfl); (case hr => first | (go_simp; done) | (go_simp; rfl)); (case hp => exact (Reps.c2 (show Kd.FK k25 _ _ (⟨l1_0, a1_1⟩ : S25) [.slice A1_0 l1_0.length c1_0, .int .i64 a1_1] from (k25_mkF _ _ (⟨l1_0, a1_1⟩ : S25) (Kd.V_reads' (Kd.V_mono (ok' := (fun k_ => (P1_0_ k_ ∨ w.heap.size ≤ k_) ∧ k_ ≠ gb132)) (HO1_0.out) (fun k_ hk => ⟨hk.1, hk.2⟩))).2.1 (Kd.V_F (Kd.V_mono (ok' := (fun k_ => (P1_0_ k_ ∨ w.heap.size ≤ k_) ∧ k_ ≠ gb132)) (HO1_0.out) (fun k_ hk => ⟨hk.1, hk.2⟩))))) (Reps.none _ _)))
            intro v137 w13 ho14 hb hg_ hnew_
            clear hg_ hnew_
            (first | rw [← Ny136.out] at ho14 | (simp only [Int.reduceToNat] at ho14; rw [← Ny136.out] at ho14))
            have n0_ := Aside0.mk (Kd.V_elder' (by (with_reducible repeat (first | apply Kd.V_alloc | apply Kd.V_drewN | apply Kd.V_drew)); exact HO1_0.out) (Kd.N_base ho14) hb)
            have n1_ := Aside0.mk (Kd.N_lower ho14 (below_size (by repeat (first | (with_reducible first | exact HB.out | apply below_alloc | apply pw_below_drewN | apply below_drew1 | refine below_set ?_ GE132.out) | exact HB.out))))
            have n2_ := Aside0.mk (blk_below (g := gb132) (o := .cells #[.slice A1_0 l1_0.length c1_0, .int .i64 a1_1] 25 (0, 0)) (by (with_reducible repeat (first | refine blk_drewN ?_ _ | refine blk_drew ?_ | refine blk_alloc ?_ _)); exact BK132.out) hb)
            have n3_ := Aside0.mk (below_step (by repeat (first | (with_reducible first | exact HB.out | apply below_alloc | apply pw_below_drewN | apply below_drew1 | refine below_set ?_ GE132.out) | exact HB.out)) hb)
            clear HO1_0
            clear BK132
            clear HB
            have HO1_0 := n0_
            have HO138 := n1_
            have BK132 := n2_
            have HB := n3_
            clear n0_ n1_ n2_ n3_
            clear hb ho14
            refine hK.out _ _ ⟨(blk_cell BK132.out 0).trans rfl, (blk_cell BK132.out 1).trans rfl⟩ (fun hHeld => ?_)
            clear hK K
            refine norm_ (a' := ?_) ?_ ?_
            rotate_left
            · show Act.put _ (some 11) _ = _
              simp only [Act.put, List.setIfInBounds_toArray, List.set_cons_zero, List.set_cons_succ, i64_w, i32_w]
              rfl
            refine one_ (i := 1) (N := some 9) #[true, true, true, true, false, false, false] rfl rfl (by kernel_rfl) (by decide) (fun K hK => ?_)
            refine goes_ Try.func23 (by kernel_rfl) rfl #[.slice A0 l0.length c0] (by rfl) rfl rfl (by (try simp only [List.map_toArray, List.map_cons, List.map_nil]); first | done | rfl | (simp only [List.length_drop, List.length_take]; rfl)) ?_
            with_reducible refine (order_copied.calls _ _ l0 t133 _ ?side1 ?side2 A4.out).mono ?_
            (case side1 => repeat (first | exact (Kd.C_below HR0.out HB.out) | (with_reducible refine Kd.C_alloc ?_ _) | (with_reducible refine Kd.C_drewN ?_ _) | (with_reducible refine Kd.C_drew ?_)))
            (case side2 => exact HC0.out)
            rintro e w15 ⟨v134, rfl, ho0, hb⟩
            refine ⟨_, rfl, ?_⟩
            have n0_ := Aside0.mk (Kd.V_elder' (by (with_reducible repeat (first | apply Kd.V_alloc | apply Kd.V_drewN | apply Kd.V_drew)); exact HO1_0.out) (by first | exact Kd.N_base ho0 | exact Kd.S_base ho0 | exact Kd.R_base ho0) hb)
            have n1_ := Aside0.mk (Kd.N_elder' (by (with_reducible repeat (first | apply Kd.N_alloc | apply Kd.N_drewN | apply Kd.N_drew)); exact HO138.out) (by first | exact Kd.N_base ho0 | exact Kd.S_base ho0 | exact Kd.R_base ho0) hb)
            have n2_ := Aside0.mk (Kd.N_lower (Kd.N_mono (ok' := fun k_ => (P1_0_ k_ ∨ w.heap.size ≤ k_) ∧ some k_ ≠ (v137 : Value).ownBlock ∧ k_ ≠ gb132) (Kd.S_N (Kd.S_bound ho0)) (fun k_ hk_ => ⟨(.inr (Nat.le_trans (below_size (by repeat (first | (with_reducible first | exact HB.out | apply below_alloc | apply pw_below_drewN | apply below_drew1 | refine below_set ?_ GE132.out) | exact HB.out))) hk_.2.1)), (Kd.fresh' (Kd.N_lt (by (with_reducible repeat (first | apply Kd.N_alloc | apply Kd.N_drewN | apply Kd.N_drew)); exact HO138.out)) k_ hk_.2.1), (Kd.freshB (g := gb132) (o := .cells #[.slice A1_0 l1_0.length c1_0, .int .i64 a1_1] 25 (0, 0)) (by (with_reducible repeat (first | refine blk_drewN ?_ _ | refine blk_drew ?_ | refine blk_alloc ?_ _)); exact BK132.out) k_ hk_.2.1)⟩)) (below_size (by repeat (first | (with_reducible first | exact HB.out | apply below_alloc | apply pw_below_drewN | apply below_drew1 | refine below_set ?_ GE132.out) | exact HB.out))))
            have n3_ := Aside0.mk (blk_below (g := gb132) (o := .cells #[.slice A1_0 l1_0.length c1_0, .int .i64 a1_1] 25 (0, 0)) (by (with_reducible repeat (first | refine blk_drewN ?_ _ | refine blk_drew ?_ | refine blk_alloc ?_ _)); exact BK132.out) hb)
            have n4_ := Aside0.mk (below_step (by repeat (first | (with_reducible first | exact HB.out | apply below_alloc | apply pw_below_drewN | apply below_drew1 | refine below_set ?_ GE132.out) | exact HB.out)) hb)
            clear HO1_0
            clear HO138
            clear BK132
            clear HB
            have HO1_0 := n0_
            have HO138 := n1_
            have HO135 := n2_
            have BK132 := n3_
            have HB := n4_
            clear n0_ n1_ n2_ n3_ n4_
            (try clear hb)
            (try clear hb2)
            (try clear hk)
            (try clear hi)
            (try clear ho0)
            refine hK.out _ _ ⟨(blk_cell BK132.out 0).trans rfl, (blk_cell BK132.out 1).trans rfl⟩ (fun hHeld => ?_)
            clear hK K
            refine norm_ (a' := ?_) ?_ ?_
            rotate_left
            · show Act.put _ (some 9) _ = _
              simp only [Act.put, List.setIfInBounds_toArray, List.set_cons_zero, List.set_cons_succ, i64_w, i32_w]
              rfl
            exact norm_ (by simp only [putAll, Act.put, List.setIfInBounds_toArray, List.set_cons_zero, List.set_cons_succ]) (hCont (v134, v137) _ ⟨hHeld, (by (with_reducible repeat (first | apply Kd.N_alloc | apply Kd.N_drewN | apply Kd.N_drew)); exact HO135.out), (by (with_reducible repeat (first | apply Kd.N_alloc | apply Kd.N_drewN | apply Kd.N_drew)); exact Kd.N_mono HO138.out (fun _ hk => ⟨hk.1.1, ⟨hk.2, hk.1.2⟩⟩)), (by (with_reducible repeat (first | apply Kd.V_alloc | apply Kd.V_drewN | apply Kd.V_drew)); exact Kd.V_mono HO1_0.out (fun _ hk => ⟨hk.1.1.1, ⟨hk.2, ⟨hk.1.2, hk.1.1.2⟩⟩⟩)), (by (with_reducible repeat (first | refine blk_drewN ?_ _ | refine blk_drew ?_ | refine blk_alloc ?_ _)); exact BK132.out), (by repeat (first | (with_reducible first | exact HB.out | apply below_alloc | apply pw_below_drewN | apply below_drew1 | refine below_set ?_ GE132.out) | exact HB.out))⟩)
        rintro ⟨v134, v137⟩ w16 ⟨hS_, h0_, h1_, h2_, h3_, h4_⟩
        have n0_ : Aside0 (Kd.N k25 25 w16 w.heap.size (fun k_ => (P1_0_ k_ ∨ w.heap.size ≤ k_) ∧ some k_ ≠ (v137 : Value).ownBlock ∧ k_ ≠ gb132) v134 t133) := ⟨h0_⟩
        have n1_ : Aside0 (Kd.N k25 25 w16 w.heap.size (fun k_ => (P1_0_ k_ ∨ w.heap.size ≤ k_) ∧ some k_ ≠ (v134 : Value).ownBlock ∧ k_ ≠ gb132) v137 y136) := ⟨h1_⟩
        have n2_ : Aside0 (Kd.V k34 34 w16 w.heap.size (fun k_ => (P1_0_ k_ ∨ w.heap.size ≤ k_) ∧ some k_ ≠ (v134 : Value).ownBlock ∧ some k_ ≠ (v137 : Value).ownBlock ∧ k_ ≠ gb132) (.slice A1_0 l1_0.length c1_0) l1_0) := ⟨h2_⟩
        have n3_ : Aside0 (w16.heap[gb132]? = some (.cells #[.slice A1_0 l1_0.length c1_0, .int .i64 a1_1] 25 (0, 0))) := ⟨h3_⟩
        have n4_ : Aside0 (Below w.heap.size w w16) := ⟨h4_⟩
        clear HO1_0
        clear BK132
        clear HB
        clear h0_ h1_ h2_ h3_ h4_
        have HO135 := n0_
        have HO138 := n1_
        have HO1_0 := n2_
        have BK132 := n3_
        have HB := n4_
        clear n0_ n1_ n2_ n3_ n4_
        have hHeld : w16.cell? ⟨gb132, 0, none⟩ = some (.slice A1_0 l1_0.length c1_0) ∧ w16.cell? ⟨gb132, 1, none⟩ = some (.int .i64 a1_1) := hS_
        obtain ⟨Ao18, co18, eo18⟩ := Kd.N_slice HO138.out
        (first | subst eo18 | (injection eo18 with f1_ f2_ f3_; have f4_ := f1_.symm; have f5_ := f3_.symm; clear f1_ f2_ f3_; subst f4_; subst f5_))
        refine norm_ (a' := ?_) ?_ ?_
        rotate_left
        · simp only [putAll, Act.put, List.setIfInBounds_toArray, List.set_cons_zero, List.set_cons_succ]
          rfl
        refine one_ (i := 4) (N := some 12) #[true, true, true, true, true, false, false] rfl rfl (by kernel_rfl) (by decide) (fun K hK => ?_)
        refine Kd.N_append_rows_step k25 (w0 := w) w.heap.size (by rfl) (.tmp 9) (.tmp 11) 22 25 (.agg #[(.slice none 0 0), (.int .i64 0)]) 32 rfl Try.underlying22 info25 rfl (by decide) (by omega) v134 t133 y136 _ _ _ (fun k_ => (P1_0_ k_ ∨ w.heap.size ≤ k_) ∧ k_ ≠ gb132) (fun k_ => ((fun k_ => (P1_0_ k_ ∨ w.heap.size ≤ k_) ∧ k_ ≠ gb132)) k_ ∧ some k_ ≠ (v134 : Value).ownBlock) rfl rfl ?aO ?aR (fun _ hk => hk) ?aF ?aB ?aS ?aL ?_
        (case aR => exact (by skip; exact Kd.N_F (Kd.N_mono (ok' := (fun k_ => ((fun k_ => (P1_0_ k_ ∨ w.heap.size ≤ k_) ∧ k_ ≠ gb132)) k_ ∧ some k_ ≠ (v134 : Value).ownBlock)) (HO138.out) (fun k_ hk => ⟨⟨hk.1, hk.2.2⟩, hk.2.1⟩))))
        (case aB => exact (by repeat (first | (with_reducible first | exact HB.out | apply below_alloc | apply pw_below_drewN | apply below_drew1 | refine below_set ?_ GE132.out) | exact HB.out)))
        (case aF => exact (fun k_ hk => ⟨(.inr (Nat.le_trans (below_size (by repeat (first | (with_reducible first | exact HB.out | apply below_alloc | apply pw_below_drewN | apply below_drew1 | refine below_set ?_ GE132.out) | exact HB.out))) hk)), Kd.freshB (g := gb132) (o := .cells #[.slice A1_0 l1_0.length c1_0, .int .i64 a1_1] 25 (0, 0)) (by (with_reducible repeat (first | refine blk_drewN ?_ _ | refine blk_drew ?_ | refine blk_alloc ?_ _)); exact BK132.out) k_ hk⟩))
        (case aO => exact (by (with_reducible repeat (first | apply Kd.N_alloc | apply Kd.N_drewN | apply Kd.N_drew)); exact Kd.N_mono HO135.out (fun _ hk => ⟨hk.1, hk.2.2⟩)))
        (case aS => exact (below_size (by repeat (first | (with_reducible first | exact HB.out | apply below_alloc | apply pw_below_drewN | apply below_drew1 | refine below_set ?_ GE132.out) | exact HB.out))))
        (case aL => have := LMc5.out; omega)
        intro v140 w17 ho hb hg hat
        rw [← Ny139.out] at ho
        have n0_ := Aside0.mk (Kd.V_afterv (ok := (fun k_ => (P1_0_ k_ ∨ w.heap.size ≤ k_) ∧ some k_ ≠ (.slice Ao18 y136.length co18 : Value).ownBlock ∧ k_ ≠ gb132)) (by (with_reducible repeat (first | apply Kd.V_alloc | apply Kd.V_drewN | apply Kd.V_drew)); exact Kd.V_mono HO1_0.out (fun _ hk => ⟨⟨hk.1, ⟨hk.2.2.1, hk.2.2.2⟩⟩, hk.2.1⟩)) hg hat)
        have n1_ := Aside0.mk (blk_grown (g := gb132) (o := .cells #[.slice A1_0 l1_0.length c1_0, .int .i64 a1_1] 25 (0, 0)) (by (with_reducible repeat (first | refine blk_drewN ?_ _ | refine blk_drew ?_ | refine blk_alloc ?_ _)); exact BK132.out) hg (Kd.N_away HO135.out (fun _ hk => hk.2.2)))
        have n2_ := Aside0.mk (Kd.N_afterv (ok := (fun k_ => (P1_0_ k_ ∨ w.heap.size ≤ k_) ∧ k_ ≠ gb132)) (by (with_reducible repeat (first | apply Kd.N_alloc | apply Kd.N_drewN | apply Kd.N_drew)); exact Kd.N_mono HO138.out (fun _ hk => ⟨⟨hk.1, hk.2.2⟩, hk.2.1⟩)) hg hat)
        have n3_ := Aside0.mk (hb)
        have n4_ := Aside0.mk (ho)
        clear HO1_0
        clear BK132
        clear HO138
        clear HB
        clear HO135
        have HO1_0 := n0_
        have BK132 := n1_
        have HO138 := n2_
        have HB := n3_
        have HO141 := n4_
        clear n0_ n1_ n2_ n3_ n4_
        clear ho hb hg hat
        obtain ⟨Ao19, co19, eo19⟩ := Kd.N_slice HO141.out
        (first | subst eo19 | (injection eo19 with f1_ f2_ f3_; have f4_ := f1_.symm; have f5_ := f3_.symm; clear f1_ f2_ f3_; subst f4_; subst f5_))
        refine hK.out _ _ ⟨(blk_cell BK132.out 0).trans rfl, (blk_cell BK132.out 1).trans rfl⟩ (fun hHeld => ?_)
        clear hK K
        refine norm_ (a' := ?_) ?_ ?_
        rotate_left
        · show Act.put _ (some 12) _ = _
          simp only [Act.put, List.setIfInBounds_toArray, List.set_cons_zero, List.set_cons_succ, i64_w, i32_w]
          rfl
        refine one_ (i := 5) (N := some 13) #[true, true, true, true, true, true, false] rfl rfl (by kernel_rfl) (by decide) (fun K hK => ?_)
        refine goes_ Try.func11 (by kernel_rfl) rfl #[.slice Ao19 y139.length co19] (by rfl) rfl rfl (by (try simp only [List.map_toArray, List.map_cons, List.map_nil]); first | done | rfl | (simp only [List.length_drop, List.length_take]; rfl)) ?_
        with_reducible refine (order_Sort.calls _ _ y139 t142 _ ?side1 ?side2 A6.out).mono ?_
        (case side1 => repeat (first | exact (Kd.N_reads' HO141.out).2.2 | (with_reducible refine Kd.C_alloc ?_ _) | (with_reducible refine Kd.C_drewN ?_ _) | (with_reducible refine Kd.C_drew ?_)))
        (case side2 => exact (Kd.N_reads' HO141.out).2.1)
        rintro e w20 ⟨v143, rfl, ho0, hb⟩
        refine ⟨_, rfl, ?_⟩
        have n0_ := Aside0.mk (Kd.V_elder' (by (with_reducible repeat (first | apply Kd.V_alloc | apply Kd.V_drewN | apply Kd.V_drew)); exact HO1_0.out) (by first | exact Kd.N_base ho0 | exact Kd.S_base ho0 | exact Kd.R_base ho0) hb)
        have n1_ := Aside0.mk (Kd.N_elder' (by (with_reducible repeat (first | apply Kd.N_alloc | apply Kd.N_drewN | apply Kd.N_drew)); exact HO138.out) (by first | exact Kd.N_base ho0 | exact Kd.S_base ho0 | exact Kd.R_base ho0) hb)
        have n2_ := Aside0.mk (Kd.N_elder' (by (with_reducible repeat (first | apply Kd.N_alloc | apply Kd.N_drewN | apply Kd.N_drew)); exact HO141.out) (by first | exact Kd.N_base ho0 | exact Kd.S_base ho0 | exact Kd.R_base ho0) hb)
        have n3_ := Aside0.mk (Kd.N_lower (Kd.N_mono (ok' := fun k_ => (P1_0_ k_ ∨ w.heap.size ≤ k_) ∧ some k_ ≠ (.slice Ao18 y136.length co18 : Value).ownBlock ∧ some k_ ≠ (.slice Ao19 y139.length co19 : Value).ownBlock ∧ k_ ≠ gb132) (Kd.S_N (Kd.S_bound ho0)) (fun k_ hk_ => ⟨(.inr (Nat.le_trans (below_size (by repeat (first | (with_reducible first | exact HB.out | apply below_alloc | apply pw_below_drewN | apply below_drew1 | refine below_set ?_ GE132.out) | exact HB.out))) hk_.2.1)), (Kd.fresh' (Kd.N_lt (by (with_reducible repeat (first | apply Kd.N_alloc | apply Kd.N_drewN | apply Kd.N_drew)); exact HO138.out)) k_ hk_.2.1), (Kd.fresh' (Kd.N_lt (by (with_reducible repeat (first | apply Kd.N_alloc | apply Kd.N_drewN | apply Kd.N_drew)); exact HO141.out)) k_ hk_.2.1), (Kd.freshB (g := gb132) (o := .cells #[.slice A1_0 l1_0.length c1_0, .int .i64 a1_1] 25 (0, 0)) (by (with_reducible repeat (first | refine blk_drewN ?_ _ | refine blk_drew ?_ | refine blk_alloc ?_ _)); exact BK132.out) k_ hk_.2.1)⟩)) (below_size (by repeat (first | (with_reducible first | exact HB.out | apply below_alloc | apply pw_below_drewN | apply below_drew1 | refine below_set ?_ GE132.out) | exact HB.out))))
        have n4_ := Aside0.mk (blk_below (g := gb132) (o := .cells #[.slice A1_0 l1_0.length c1_0, .int .i64 a1_1] 25 (0, 0)) (by (with_reducible repeat (first | refine blk_drewN ?_ _ | refine blk_drew ?_ | refine blk_alloc ?_ _)); exact BK132.out) hb)
        have n5_ := Aside0.mk (below_step (by repeat (first | (with_reducible first | exact HB.out | apply below_alloc | apply pw_below_drewN | apply below_drew1 | refine below_set ?_ GE132.out) | exact HB.out)) hb)
        clear HO1_0
        clear HO138
        clear HO141
        clear BK132
        clear HB
        have HO1_0 := n0_
        have HO138 := n1_
        have HO141 := n2_
        have HO144 := n3_
        have BK132 := n4_
        have HB := n5_
        clear n0_ n1_ n2_ n3_ n4_ n5_
        (try clear hb)
        (try clear hb2)
        (try clear hk)
        (try clear hi)
        (try clear ho0)
        refine hK.out _ _ ⟨(blk_cell BK132.out 0).trans rfl, (blk_cell BK132.out 1).trans rfl⟩ (fun hHeld => ?_)
        clear hK K
        refine norm_ (a' := ?_) ?_ ?_
        rotate_left
        · show Act.put _ (some 13) _ = _
          simp only [Act.put, List.setIfInBounds_toArray, List.set_cons_zero, List.set_cons_succ, i64_w, i32_w]
          rfl
        refine pure_ (i := 6) (N := some 0) (v := ?_) (a' := ?_) #[true, true, true, true, true, true, true] rfl rfl (by kernel_rfl) (fun _ _ _ h => h) (Or.inl ⟨by rfl, ?_⟩) ?_ ?_
        rotate_left
        · intro w'
          go_simp
          with_reducible rfl
        rotate_left
        · simp only [Act.put, List.setIfInBounds_toArray, List.set_cons_zero, List.set_cons_succ, i64_w, i32_w]
          rfl
        refine done_ (by kernel_rfl) ?_
        obtain ⟨Ao21, co21, eo21⟩ := Kd.N_slice HO144.out
        subst eo21
        have q22 : ((ji8) : Int) ≤ ((t142.length : Int) : Int) := of_decide_eq_true (by first | (with_reducible assumption) | assumption)
        obtain ⟨i022, hi022, _, hsz22, _⟩ := info_parts info25
        have hcut22 := cut_to3 (P := Try.prog) 22 25 .i64 Try.underlying22 hi022 Ao21 t142.length co21 (ji8) (of_decide_eq_true (by first | (with_reducible assumption) | assumption)) q22 (Kd.N_reads' HO144.out).2.1
        have hr22 := Kd.N_take (m := ((ji8) : Int).toNat) HO144.out (by omega)
        have hy22 : y145.length = ((ji8) : Int).toNat := (by rw [Ny145.out, List.length_take]; omega)
        rw [← Ny145.out] at hr22
        rw [← hy22] at hr22 hcut22
        clear hy22 hi022 hsz22 HO144
        have HO147 := Aside0.mk (Kd.V_mk (e := 25) (base := w.heap.size) (c := y145.length) (Nat.le_refl _) (Kd.N_F hr22))
        clear hr22
        replace q22 := eq_true q22
        try go_wp2
        go_ret
        exact ⟨_, by first | rfl | (simp [errW_none, errW_some] <;> rfl) | (simp only [← hji7, ← hji8]; first | rfl | (simp [errW_none, errW_some] <;> rfl)) | (simp [*, errW_none, errW_some] <;> rfl), Kd.V_mono HO147.out (fun _ hk => hk.1), by repeat (first | (with_reducible first | exact HB.out | apply below_alloc | apply pw_below_drewN | apply below_drew1 | refine below_set ?_ GE132.out) | exact HB.out)⟩
      · rw [if_neg c10] at H
        exact absurd H (by simp)
    · rw [if_neg c9] at H
      exact absurd H (by simp)
  · rw [if_neg c5] at H
    exact absurd H (by simp)

end Go.Proofs.Ytladdncfhjjppaa.PA
