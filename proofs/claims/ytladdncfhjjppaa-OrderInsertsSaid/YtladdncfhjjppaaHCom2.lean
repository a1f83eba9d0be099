import Derived.Test.YtladdncfhjjppaaHCom
namespace Go.Proofs.Ytladdncfhjjppaa.HSort
open Go.RowKit Go.Proofs.YtladdncfhjjppaaW.PrintWords Go.Proofs.YtladdncfhjjppaaW.XRow
set_option linter.unusedVariables false

def CompactPost (blk n cap : Nat) (ce : Nat → El) (cf : Nat → Nat → Int) (q : Nat → Nat) (w : World) (r : Ending) (W : World) : Prop :=
  ∃ k r', r = .returned (.slice (some ⟨blk, 0, none⟩) k cap) ∧ k ≤ n ∧ 1 ≤ k ∧ RowAt W blk 25 k cap ce r' ∧ But blk w W ∧ Cmp n cf q n k r'
/-- clear over a row of such elements. -/
theorem run_clear25 (w : World) (b k n c : Nat) (ty : TypeId) (hn : 0 < n) (hc : ∀ j, j < n * 2 → (w.cell? ⟨b, k * 2 + j, none⟩).isSome = true) (hf : ∀ j, j < n * 2 → w.frozen? ⟨b, k * 2 + j, none⟩ = false) :
    ∃ vs, (Builtin.clear_ #[22] ty #[.slice (some ⟨b, k * 2, none⟩) n c]).run Try.prog w = .ok (.tuple #[]) (w.setCells b (k * 2) vs) := by
  obtain ⟨vs, hvs⟩ : ∃ vs, vs = (Builtin.zeroCells (Value.agg #[.slice none 0 0, .int .i64 0]).cells n).toList := ⟨_, rfl⟩
  have hz : (zeroValue 25).run Try.prog w = .ok (.agg #[.slice none 0 0, .int .i64 0]) w := by kernel_rfl
  have hl : vs.length = n * 2 := by rw [hvs]; simp [Builtin.zeroCells, Value.cells]
  have h1 : ∀ v ∈ vs, v.oneCell' = true := by
    intro v hv
    rw [hvs] at hv
    simp only [Builtin.zeroCells, Value.cells] at hv
    simp at hv
    obtain ⟨i, _, rfl⟩ := hv
    rcases Nat.mod_two_eq_zero_or_one i with e | e <;> simp [e, Value.oneCell']
  have hst := run_storeCells_cells (P := Try.prog) b (k * 2) vs 0 w (by rw [hl]; simpa using hc) (by rw [hl]; simpa using hf) h1
  simp only [Nat.add_zero] at hst
  refine ⟨vs, ?_⟩
  obtain ⟨m, rfl⟩ : ∃ m, n = m + 1 := ⟨n - 1, by omega⟩
  simp only [Builtin.clear_]
  simp [run_underlying Try.underlying22, hz, ← hvs, hst]
theorem heap_setCells (b t : Nat) : ∀ (vs : List Value) (o : Nat) (w : World) (cur : Array Value), w.heap[b]? = some (.cells cur t (0, 0)) → ∃ cur' : Array Value, (w.setCells b o vs).heap[b]? = some (.cells cur' t (0, 0)) ∧ cur'.size = cur.size ∧ ∀ j, j < o → cur'[j]? = cur[j]?
  | [], o, w, cur, h => ⟨cur, h, rfl, fun _ _ => rfl⟩
  | v :: vs, o, w, cur, h => by
    obtain ⟨cur', h1, h2, h3⟩ := heap_setCells b t vs (o + 1) (w.setCell ⟨b, o, none⟩ v) _ (blk_set h o v)
    refine ⟨cur', h1, by rw [h2]; simp, fun j hj => ?_⟩
    rw [h3 j (by omega), Array.getElem?_setIfInBounds, if_neg (by omega)]
theorem but_setCells (b : Nat) (w : World) : ∀ (vs : List Value) (o : Nat) (W : World), But b w W → But b w (W.setCells b o vs)
  | [], o, W, h => h
  | v :: vs, o, W, h => but_setCells b w vs (o + 1) _ (h.set o v)
theorem row_setCells {W : World} {b t n cap k : Nat} {ce : Nat → El} {q : Nat → Nat} (h : RowAt W b t n cap ce q) (hk : k ≤ n) (vs : List Value) : RowAt (W.setCells b (k * 2) vs) b t k cap ce q := by
  obtain ⟨cur, hb, hs, hc⟩ := h.row
  obtain ⟨cur', h1, h2, h3⟩ := heap_setCells b t vs (k * 2) W cur hb
  refine ⟨⟨cur', h1, h2.trans hs, fun j hj => ?_⟩⟩
  rw [h3 _ (by omega), h3 _ (by omega)]
  exact hc j (by omega)
theorem if_self (q : Nat → Nat) (k : Nat) : (fun s => if s = k then q k else q s) = q := by
  funext s
  split
  · rename_i h; rw [h]
  · rfl

set_option maxHeartbeats 8000000 in
set_option maxRecDepth 100000 in
theorem compact (blk n cap : Nat) (ce : Nat → El) (cf : Nat → Nat → Int) (q : Nat → Nat) (w00 w : World) (hC : CmpOK blk n ce cf w00) (hO : Ord n cf) (hR : RowAt w blk 25 n cap ce q) (hw : But blk w00 w) (hn : n < 1000000000000) (hn2 : 2 ≤ n) (hcap : n ≤ cap) (hq : ∀ s, s < n → q s < n) (hS : Srt cf 0 n q) :
    Calls Try.prog 25 #[.slice (some ⟨blk, 0, none⟩) n cap, FE] w (CompactPost blk n cap ce cf q w) := by
  have HC := Aside0.mk hC
  have HO := Aside0.mk hO
  have HR := Aside0.mk hR
  have HW := Aside0.mk hw
  have HQ := Aside0.mk hq
  have HS := Aside0.mk hS
  clear hC hO hR hw hq hS
  have hnz : ¬ (n : Int) < 2 := by omega
  go_enter Try.func25, Try.ntmps25
  go_wp2
  go_loopg [5] n (fun g vk wr => ∃ k : Nat, vk = .int .i64 k ∧ 1 ≤ k ∧ k ≤ n ∧ n - k ≤ g ∧ Aside0 (CmpIn n cf q k k q) ∧ Aside0 (Below w.heap.size w wr))
  case atStart => exact ⟨1, by go_num, by omega, by omega, by omega, ⟨CmpIn.one HO.out HQ.out (by omega)⟩, ⟨Below.refl _ _⟩⟩
  case round =>
    obtain ⟨k, rfl, hk1, hkn, hg, HI, HB⟩ := hrel
    by_cases hlt : k < n
    · have hltz : (k : Int) < (n : Int) := by omega
      obtain ⟨kp, rfl⟩ : ∃ kp, k = kp + 1 := ⟨k - 1, by omega⟩
      obtain ⟨x, hx⟩ : ∃ x, q (kp + 1) = x := ⟨_, rfl⟩
      obtain ⟨y, hy⟩ : ∃ y, q kp = y := ⟨_, rfl⟩
      have hxn : x < n := by rw [← hx]; exact HQ.out _ (by omega)
      have hyn : y < n := by rw [← hy]; exact HQ.out _ (by omega)
      have c0 := (HR.out.below HB.out).cell0 (kp + 1) (by omega)
      have c1 := (HR.out.below HB.out).cell1 (kp + 1) (by omega)
      have c2 := (HR.out.below HB.out).cell0 kp (by omega)
      have c3 := (HR.out.below HB.out).cell1 kp (by omega)
      rw [hx] at c0 c1
      rw [hy] at c2 c3
      have d0 := fun p : BelowOf wr => cellB c0 p
      have d1 := fun p : BelowOf wr => cellB c1 p
      have d2 := fun p : BelowOf wr => cellB c2 p
      have d3 := fun p : BelowOf wr => cellB c3 p
      have hcB : ∀ p : BelowOf wr, Calls Try.prog 26 #[.agg #[.slice (ce x).A (ce x).l (ce x).c, .int .i64 (ce x).z], .agg #[.slice (ce y).A (ce y).l (ce y).c, .int .i64 (ce y).z]] p.val (fun e w'' => e = .returned (.bool (cf x y == 0)) ∧ ∃ q : BelowOf wr, w'' = q.val) := fun p => callsB (eq_any HC.out x y p.val (hxn) (hyn) ((HW.out.below HB.out).below p.prop))
      clear c0 c1 c2 c3
      have HX' := Aside0.mk hx
      have HY := Aside0.mk hy
      clear hx hy
      have ec : ((kp + 1 : Nat) : Int) = (kp : Int) + 1 := by omega
      rw [ec]
      rw [ec] at hltz
      clear ec
      have z0 : (0 : Int) ≤ (kp : Int) + 1 := by omega
      have z2 : (kp : Int) < (n : Int) := by omega
      have e0 : ((kp : Int) + 1).toNat = kp + 1 := by omega
      have hwp : IntKind.i64.wrap (kp : Int) = (kp : Int) := by rw [IntKind.wrap_i64]; omega
      by_cases he : cf x y = 0
      · have hez : (cf x y == 0) = true := beq_iff_eq.2 he
        have Hee := Aside0.mk he
        clear he
        go_wp2_with fail
        refine wp_region_quiet_below (by kernel_rfl) (by kernel_rfl) ?_
        repeat (quiet_step ((go_at_call 26; exact hcB _)))
        refine wpQuiet_nil ?_
        intro W2 hw'
        have hb2 : Below wr.heap.size wr W2 := by
          obtain ⟨pq, hpq⟩ := hw'
          rw [hpq]; exact pq.prop
        clear hw'
        clear d0 d1 d2 d3 hcB
        clear e0 hwp
        have hcapz : ¬ kp + 1 = cap := by omega
        have hcapz2 : ¬ cap = kp + 1 := by omega
        have hcl : (kp : Int) + 1 ≤ (cap : Int) := by omega
        go_wp2_with fail
        obtain ⟨L, hL⟩ : ∃ L, n - (kp + 1) = L := ⟨_, rfl⟩
        obtain ⟨C, hC⟩ : ∃ C, cap - (kp + 1) = C := ⟨_, rfl⟩
        obtain ⟨O, hO'⟩ : ∃ O, (kp + 1) * 2 = O := ⟨_, rfl⟩
        have hL1 : kp + 1 + L = n := by omega
        have hL2 : 1 ≤ L := by omega
        have hLn : L + kp + 1 ≤ n := by omega
        simp only [hL, hC, hO', hez]
        have HLq := Aside0.mk hL1
        have HOq := Aside0.mk hO'
        have HRs := Aside0.mk ((HR.out.below HB.out).below hb2)
        have HBs := Aside0.mk (But.of_below (b := blk) (HB.out.trans (hb2.mono HB.out.size)))
        have HIs := Aside0.mk (HI.out.skip HO.out HQ.out (by omega) (HS.out _ _ (by omega) (by omega) (by omega)) (by rw [Nat.add_sub_cancel, HX'.out, HY.out]; exact Hee.out))
        clear hL hC hO' hL1 HB HI hb2 hcl hez
        go_loopg [5, 7] n (fun g2 v5 v7 wr => ∃ (k k2 : Nat) (r : Nat → Nat), v5 = .int .i64 k ∧ v7 = .int .i64 k2 ∧ 1 ≤ k2 ∧ k2 ≤ L ∧ L - k2 ≤ g2 ∧ k ≤ kp + k2 ∧ 1 ≤ k ∧ Aside0 (CmpIn n cf q (kp + 1 + k2) k r) ∧ Aside0 (RowAt wr blk 25 n cap ce r) ∧ Aside0 (But blk w wr))
        case atStart => exact ⟨kp + 1, 1, q, by go_num, by go_num, by omega, by omega, by omega, by omega, by omega, HIs, HRs, HBs⟩
        case round =>
          clear HIs HRs HBs
          obtain ⟨k, k2, r, rfl, rfl, h21, h2L, hg2, hkk, hk1', HI, HR2, HB2⟩ := hrel
          by_cases hlt2 : k2 < L
          · have hltz2 : (k2 : Int) < (L : Int) := by omega
            obtain ⟨m, rfl⟩ : ∃ m, k2 = m + 1 := ⟨k2 - 1, by omega⟩
            have hpos : kp + 1 + (m + 1) < n := by have := HLq.out; omega
            have hrk : r (kp + 1 + (m + 1)) = q (kp + 1 + (m + 1)) := HI.out.rest _ (by omega)
            have hrp : r (kp + 1 + m) = q (kp + 1 + m) := HI.out.rest _ (by omega)
            obtain ⟨x2, hx⟩ : ∃ x, q (kp + 1 + (m + 1)) = x := ⟨_, rfl⟩
            obtain ⟨y2, hy⟩ : ∃ y, q (kp + 1 + m) = y := ⟨_, rfl⟩
            have hxn2 : x2 < n := by rw [← hx]; exact HQ.out _ (by omega)
            have hyn2 : y2 < n := by rw [← hy]; exact HQ.out _ (by omega)
            have g0 := HR2.out.cell0 (kp + 1 + (m + 1)) (by omega)
            have g1 := HR2.out.cell1 (kp + 1 + (m + 1)) (by omega)
            have g2 := HR2.out.cell0 (kp + 1 + m) (by omega)
            have g3 := HR2.out.cell1 (kp + 1 + m) (by omega)
            rw [show (kp + 1 + (m + 1)) * 2 = O + (m + 1) * 2 by have := HOq.out; omega, hrk, hx] at g0 g1
            rw [show (kp + 1 + m) * 2 = O + m * 2 by have := HOq.out; omega, hrp, hy] at g2 g3
            have G0 := Aside0.mk g0
            have G1 := Aside0.mk g1
            have HX2 := Aside0.mk hx
            have HY2 := Aside0.mk hy
            clear hrk hrp hx hy
            have d0 := fun p : BelowOf wr => cellB g0 p
            have d1 := fun p : BelowOf wr => cellB g1 p
            have d2 := fun p : BelowOf wr => cellB g2 p
            have d3 := fun p : BelowOf wr => cellB g3 p
            have hcB : ∀ p : BelowOf wr, Calls Try.prog 26 #[.agg #[.slice (ce x2).A (ce x2).l (ce x2).c, .int .i64 (ce x2).z], .agg #[.slice (ce y2).A (ce y2).l (ce y2).c, .int .i64 (ce y2).z]] p.val (fun e w'' => e = .returned (.bool (cf x2 y2 == 0)) ∧ ∃ q : BelowOf wr, w'' = q.val) := fun p => callsB (eq_any HC.out x2 y2 p.val hxn2 hyn2 ((HW.out.trans HB2.out).below p.prop))
            clear g0 g1 g2 g3
            have ec : ((m + 1 : Nat) : Int) = (m : Int) + 1 := by omega
            rw [ec]
            rw [ec] at hltz2
            clear ec
            have z4 : (0 : Int) ≤ (m : Int) + 1 := by omega
            have z5 : (m : Int) < (L : Int) := by omega
            have e1 : ((m : Int) + 1).toNat = m + 1 := by omega
            have hwm : IntKind.i64.wrap (m : Int) = (m : Int) := by rw [IntKind.wrap_i64]; omega
            by_cases he2 : cf x2 y2 = 0
            · have hez2 : (cf x2 y2 == 0) = true := beq_iff_eq.2 he2
              have Hee2 := Aside0.mk he2
              clear he2
              go_wp2_with fail
              refine wp_region_quiet_below (by kernel_rfl) (by kernel_rfl) ?_
              repeat (quiet_step ((go_at_call 26; exact hcB _)))
              refine wpQuiet_nil ?_
              intro W2 hw'
              have hb2 : Below wr.heap.size wr W2 := by
                obtain ⟨pq, hpq⟩ := hw'
                rw [hpq]; exact pq.prop
              clear hw'
              clear d0 d1 d2 d3 hcB
              have HR3 := Aside0.mk (HR2.out.below hb2)
              have HB3 := Aside0.mk (HB2.out.below hb2)
              clear e1 hwm hb2
              go_wp2
              go_roundg (L - (m + 1 + 1))
              case measure => omega
              case rel =>
                have hk := CmpIn.skip (pos := kp + 1 + (m + 1)) HO.out HQ.out HI.out hpos (HS.out _ _ (by omega) (by omega) hpos) (by rw [show kp + 1 + (m + 1) - 1 = kp + 1 + m by omega, HX2.out, HY2.out]; exact Hee2.out)
                exact ⟨k, m + 1 + 1, r, rfl, by go_num, by omega, by omega, by omega, by omega, by omega, ⟨hk⟩, HR3, HB3⟩
            · have hez2 : (cf x2 y2 == 0) = false := beq_eq_false_iff_ne.2 he2
              have Hee2 := Aside0.mk he2
              clear he2
              go_wp2_with fail
              refine wp_region_quiet_below (by kernel_rfl) (by kernel_rfl) ?_
              repeat (quiet_step ((go_at_call 26; exact hcB _)))
              refine wpQuiet_nil ?_
              intro W2 hw'
              have hb2 : Below wr.heap.size wr W2 := by
                obtain ⟨pq, hpq⟩ := hw'
                rw [hpq]; exact pq.prop
              clear hw'
              clear d0 d1 d2 d3 hcB
              have HR3 := Aside0.mk (HR2.out.below hb2)
              have HB3 := Aside0.mk (HB2.out.below hb2)
              have r0 := pw_cell_below hb2 G0.out
              have r1 := pw_cell_below hb2 G1.out
              have f0 := HR3.out.frozen (k * 2)
              have f1 := HR3.out.frozen (k * 2 + 1)
              have s0 := HR3.out.cell0 k (by omega)
              have s1 := HR3.out.cell1 k (by omega)
              have z6 : (k : Int) < (n : Int) := by omega
              clear hwm hb2
              go_wp2_with fail
              have HR4 := Aside0.mk (HR3.out.put k x2 (by omega))
              have HB4 := Aside0.mk ((HB3.out.set (k * 2) (.slice (ce x2).A (ce x2).l (ce x2).c)).set (k * 2 + 1) (.int .i64 (ce x2).z))
              clear r0 r1 f0 f1 s0 s1 e1
              go_roundg (L - (m + 1 + 1))
              case measure => omega
              case rel =>
                have hk := CmpIn.keep (pos := kp + 1 + (m + 1)) HO.out HQ.out HI.out hpos (HS.out _ _ (by omega) (by omega) hpos) (by rw [show kp + 1 + (m + 1) - 1 = kp + 1 + m by omega, HX2.out, HY2.out]; exact Hee2.out)
                rw [HX2.out] at hk
                exact ⟨k + 1, m + 1 + 1, _, by go_num, by go_num, by omega, by omega, by omega, by omega, by omega, ⟨hk⟩, HR4, HB4⟩
          · have hltz2 : ¬ (k2 : Int) < (L : Int) := by omega
            have hend : kp + 1 + k2 = n := by have := HLq.out; omega
            have hkn' : k < n := by omega
            have HI2 := HI.out
            rw [hend] at HI2
            have HIe := Aside0.mk HI2
            obtain ⟨vs, hvs⟩ := run_clear25 wr blk k (n - k) (cap - k) 0 (by omega) (fun j hj => by
              by_cases e : j % 2 = 0
              · rw [show k * 2 + j = (k + j / 2) * 2 by omega, HR2.out.cell0 (k + j / 2) (by omega)]; rfl
              · rw [show k * 2 + j = (k + j / 2) * 2 + 1 by omega, HR2.out.cell1 (k + j / 2) (by omega)]; rfl) (fun j hj => HR2.out.frozen _)
            have hcapz3 : ¬ k = cap := by omega
            have hcapz4 : ¬ cap = k := by omega
            clear HI2 hend
            go_wp2
            go_ret
            exact ⟨k, r, rfl, by omega, hk1', row_setCells HR2.out (by omega) vs, but_setCells blk w vs _ _ HB2.out, HIe.out.toCmp⟩
      · have hez : (cf x y == 0) = false := beq_eq_false_iff_ne.2 he
        have Hee := Aside0.mk he
        clear he
        go_wp2_with fail
        refine wp_region_quiet_below (by kernel_rfl) (by kernel_rfl) ?_
        repeat (quiet_step ((go_at_call 26; exact hcB _)))
        refine wpQuiet_nil ?_
        intro W2 hw'
        have hb2 : Below wr.heap.size wr W2 := by
          obtain ⟨pq, hpq⟩ := hw'
          rw [hpq]; exact pq.prop
        clear hw'
        clear d0 d1 d2 d3 hcB
        clear e0 hwp
        go_wp2
        go_roundg (n - (kp + 1 + 1))
        case measure => omega
        case rel =>
          have hk := HI.out.keep HO.out HQ.out (by omega) (HS.out _ _ (by omega) (by omega) (by omega)) (by rw [Nat.add_sub_cancel, HX'.out, HY.out]; exact Hee.out)
          rw [if_self q (kp + 1)] at hk
          exact ⟨kp + 1 + 1, by go_num, by omega, by omega, by omega, ⟨hk⟩, ⟨HB.out.trans (hb2.mono HB.out.size)⟩⟩
    · have hltz : ¬ (k : Int) < (n : Int) := by omega
      obtain rfl : k = n := by omega
      go_wp2
      go_ret
      exact ⟨k, q, rfl, Nat.le_refl _, HI.out.k1, HR.out.below HB.out, But.of_below HB.out, HI.out.toCmp⟩
end Go.Proofs.Ytladdncfhjjppaa.HSort
