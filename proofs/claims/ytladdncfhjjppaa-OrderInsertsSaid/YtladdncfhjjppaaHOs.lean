import Derived.Test.YtladdncfhjjppaaHCpd
import Derived.Test.YtladdncfhjjppaaHPur
namespace Go.Proofs.Ytladdncfhjjppaa.PA
open Go.RowKit Go.Proofs.YtladdncfhjjppaaW.PrintWords Go.Proofs.YtladdncfhjjppaaW.PrintLast Go.Proofs.YtladdncfhjjppaaW.PrintMore Go.Proofs.YtladdncfhjjppaaW.XRow Go.Proofs.Ytladdncfhjjppaa.HSort
set_option linter.unusedVariables false

set_option maxHeartbeats 2000000 in
theorem ins_nil (w : World) : Calls Try.prog 38 #[.slice none 0 0, .int .i64 0, .int .i64 0, FV] w fun r W => r = .returned (.tuple #[]) ∧ W = w := by
  go_enter Try.func38, Try.ntmps38
  go_wp2
  refine wp_loop_rounds 1 ?_
  rw [rounds_succ]
  go_wp2
  go_end0
  exact ⟨rfl, rfl⟩
set_option maxHeartbeats 2000000 in
theorem sta_nil (w : World) : Calls Try.prog 36 #[.slice none 0 0, .int .i64 0, FV] w fun r W => r = .returned (.tuple #[]) ∧ W = w := by
  go_enter Try.func36, Try.ntmps36
  go_wp2
  refine wp_loop_rounds 1 ?_
  rw [rounds_succ]
  go_wp2_with fail
  refine (ins_nil w).mono ?_
  rintro r_ W1 ⟨rfl, rfl⟩
  go_wp2
  refine wp_loop_rounds 1 ?_
  rw [rounds_succ]
  go_wp2
  go_end0
  exact ⟨rfl, rfl⟩
set_option maxHeartbeats 2000000 in
theorem sortStable_nil (w : World) : Calls Try.prog 24 #[.slice none 0 0, FV] w fun r W => r = .returned (.tuple #[]) ∧ W = w := by
  go_enter Try.func24, Try.ntmps24
  go_wp2_with fail
  refine (sta_nil w).mono ?_
  rintro r_ W1 ⟨rfl, rfl⟩
  go_wp2
  go_end0
  exact ⟨rfl, rfl⟩
set_option maxHeartbeats 2000000 in
theorem compact_small (A : Option Addr) (n c : Nat) (w : World) (hn : n < 2) : Calls Try.prog 25 #[.slice A n c, FE] w fun r W => r = .returned (.slice A n c) ∧ W = w := by
  have hz : (n : Int) < 2 := by omega
  go_enter Try.func25, Try.ntmps25
  go_wp2
  go_ret
  exact ⟨rfl, rfl⟩

theorem Own.below {W : World} {base blk n k : Nat} {l : List S25} {ce : Nat → El} {S : Nat → Nat} (h : Own W base blk n k l ce S) : ∀ i, i ≤ k → S 0 ≤ S i ∧ S i ≤ S k := by
  have h1 : ∀ j i, i + j ≤ k → S i ≤ S (i + j) := fun j => by
    induction j with
    | zero => intro i _; exact Nat.le_refl _
    | succ j ih => intro i hi; exact Nat.le_trans (ih i (by omega)) (h.mono (i + j) (by omega))
  intro i hi
  have a := h1 i 0 (by omega)
  have b := h1 (k - i) i (by omega)
  rw [Nat.zero_add] at a
  rw [show i + (k - i) = k by omega] at b
  exact ⟨a, b⟩
theorem Own.gap {W : World} {base blk n k : Nat} {l : List S25} {ce : Nat → El} {S : Nat → Nat} (h : Own W base blk n k l ce S) {i j : Nat} (hij : i < j) (hj : j ≤ k) : S (i + 1) ≤ S j := by
  have h1 : ∀ d i, i + d ≤ k → S i ≤ S (i + d) := fun d => by
    induction d with
    | zero => intro i _; exact Nat.le_refl _
    | succ d ih => intro i hi; exact Nat.le_trans (ih i (by omega)) (h.mono (i + d) (by omega))
  have := h1 (j - (i + 1)) (i + 1) (by omega)
  rw [show i + 1 + (j - (i + 1)) = j by omega] at this
  exact this
/-- A copy, in each world that is as this one but for the row. -/
theorem Own.moved {W W1 : World} {base blk n : Nat} {l : List S25} {ce : Nat → El} {S : Nat → Nat} (h : Own W base blk n n l ce S) (hB : But blk W W1) {i : Nat} (hi : i < n) : Kd.R k34 34 W1 base (fun b => S i ≤ b ∧ b < S (i + 1)) (.slice (ce i).A (ce i).l (ce i).c) (at' l i).f0 :=
  Kd.R_move (h.own i hi) (fun b hb => by
    have h1 := (h.below i (by omega)).1
    have h2 := (h.below (i + 1) (by omega)).2
    have h3 := h.top
    have h4 := h.lo
    exact hB.block b (by omega) (by omega))
theorem cmpOK_of {w00 : World} {base blk n : Nat} {l : List S25} {ce : Nat → El} {S : Nat → Nat} (h : Own w00 base blk n n l ce S) (hl : ∀ i, i < n → (at' l i).f0.length < 17592186044416) : CmpOK blk n ce (fun i j => cmpR (at' l i) (at' l j)) w00 := ⟨fun x y W hx hy hB => by
  obtain ⟨A1, d1, e1, g1, C1⟩ := Kd.R_reads (h.moved hB hx)
  obtain ⟨A2, d2, e2, g2, C2⟩ := Kd.R_reads (h.moved hB hy)
  injection e1 with a1 a2 a3
  injection e2 with b1 b2 b3
  rw [a1, a2, a3, b1, b2, b3, (h.len x hx).2.1, (h.len y hy).2.1]
  obtain ⟨k, hk⟩ : ∃ k, k = (at' l x).f0.length + (at' l y).f0.length + 3 := ⟨_, rfl⟩
  exact order_Compare.calls k A1 d1 (at' l x).f0 (at' l x).f1 A2 d2 (at' l y).f0 (at' l y).f1 _ W C1 g1 C2 g2 (compare_is (at' l x) (at' l y) k (hl x hx) (hl y hy) (by omega) (by omega) (by omega))⟩
theorem ord_of (n : Nat) (l : List S25) : Ord n (fun i j => cmpR (at' l i) (at' l j)) :=
  ⟨fun x y _ _ => by have := cmpR_anti (at' l x) (at' l y); omega, fun x y z _ _ _ h1 h2 => cmpR_trans _ _ _ h1 h2⟩
/-- The routes of some numbers. -/
def pickR (l : List S25) (r : Nat → Nat) (k : Nat) : List S25 := (List.range k).map (fun j => at' l (r j))
theorem pickR_len (l : List S25) (r : Nat → Nat) (k : Nat) : (pickR l r k).length = k := by simp [pickR]
theorem pickR_get (l : List S25) (r : Nat → Nat) (k j : Nat) (hj : j < k) : (pickR l r k)[j]? = some (at' l (r j)) := by simp [pickR, List.getElem?_map, List.getElem?_range hj]
theorem at_mem (l : List S25) (i : Nat) (hi : i < l.length) : l[i]? = some (at' l i) := by simp [List.getD_eq_getElem?_getD, List.getElem?_eq_getElem hi]
/-- What the walk leaves is what is sorted. -/
theorem cmp_sort (l : List S25) (q r : Nat → Nat) (k : Nat) (hW : Win 0 l.length (fun s => s) q) (h : Cmp l.length (fun i j => cmpR (at' l i) (at' l j)) q l.length k r) : pickR l r k = sortR l := by
  have hb : ∀ j, j < k → r j < l.length := fun j hj => by
    obtain ⟨t, t1, e⟩ := h.sub j hj
    rw [e]; exact win_id_bnd hW t t1
  have hcov : ∀ i, i < l.length → ∃ s, s < k ∧ cmpR (at' l (r s)) (at' l i) = 0 ∧ r s ≤ i := fun i hi => by
    obtain ⟨s, _, s2, e⟩ := hW.onto i (by omega) hi
    obtain ⟨t, t1, t2, t3⟩ := h.cover s s2
    rw [show q s = i from e] at t2 t3
    exact ⟨t, t1, t2, t3⟩
  refine IsSort.one (l := l) ⟨?_, fun y hy => ?_, fun x hx => ?_⟩ (sortR_is l)
  · rw [List.pairwise_iff_getElem]
    intro i j hi hj hij
    rw [pickR_len] at hi hj
    have e1 := pickR_get l r k i hi
    have e2 := pickR_get l r k j hj
    rw [List.getElem?_eq_getElem (by rw [pickR_len]; exact hi)] at e1
    rw [List.getElem?_eq_getElem (by rw [pickR_len]; exact hj)] at e2
    rw [Option.some.inj e1, Option.some.inj e2]
    exact h.strict i j hij hj
  · obtain ⟨j, hj, e⟩ := List.getElem_of_mem hy
    rw [pickR_len] at hj
    have e1 := pickR_get l r k j hj
    rw [List.getElem?_eq_getElem (by rw [pickR_len]; exact hj), e] at e1
    have e1 := Option.some.inj e1
    have hrj := hb j hj
    refine ⟨l.take (r j), l.drop (r j + 1), ?_, fun z hz g => ?_⟩
    · have := at_mem l (r j) hrj
      rw [List.getElem?_eq_getElem hrj] at this
      rw [e1, ← Option.some.inj this, ← List.drop_eq_getElem_cons hrj, List.take_append_drop]
    · obtain ⟨i, hi, ei⟩ := List.getElem_of_mem hz
      rw [List.length_take] at hi
      rw [List.getElem_take] at ei
      have := at_mem l i (by omega)
      rw [List.getElem?_eq_getElem (by omega), ei] at this
      have ez := Option.some.inj this
      obtain ⟨s, s1, s2, s3⟩ := hcov i (by omega)
      have g2 : cmpR (at' l (r s)) (at' l (r j)) = 0 := cmpR_eq_trans s2 (by rw [← ez, ← e1]; exact g)
      have hsj : s = j := by
        rcases Nat.lt_trichotomy s j with c | c | c
        · have := h.strict s j c hj; omega
        · exact c
        · have := h.strict j s c s1
          have := cmpR_sym0 g2
          omega
      rw [hsj] at s3
      omega
  · obtain ⟨i, hi, e⟩ := List.getElem_of_mem hx
    obtain ⟨s, s1, s2, _⟩ := hcov i hi
    have := at_mem l i hi
    rw [List.getElem?_eq_getElem hi, e] at this
    refine ⟨at' l (r s), List.mem_of_getElem? (pickR_get l r k s s1), ?_⟩
    rw [Option.some.inj this]; exact s2
/-- The row that is left is one of the call's own, no two of its elements leading to one block. -/
theorem own_S {w00 W : World} {base blk n k cap : Nat} {l : List S25} {ce : Nat → El} {S r : Nat → Nat} (h : Own w00 base blk n n l ce S) (hB : But blk w00 W) (hR : RowAt W blk 25 k cap ce r) (hk : k ≤ cap) (hc : cap ≤ maxLen) (hb : base ≤ blk) (hr : ∀ j, j < k → r j < n) (hinj : ∀ i j, i < k → j < k → r i = r j → i = j) :
    Kd.S k25 25 W base (fun _ => True) (.slice (some ⟨blk, 0, none⟩) k cap) (pickR l r k) := by
  obtain ⟨cur, hh, hs, hcell⟩ := hR.row
  have hf : ∀ b, ∃ j, ∀ i, i < k → S (r i) ≤ b → b < S (r i + 1) → j = i := fun b => by
    by_cases g : ∃ i, i < k ∧ S (r i) ≤ b ∧ b < S (r i + 1)
    · obtain ⟨i, i1, i2, i3⟩ := g
      refine ⟨i, fun j j1 j2 j3 => ?_⟩
      refine hinj i j i1 j1 ?_
      rcases Nat.lt_trichotomy (r i) (r j) with c | c | c
      · have := h.gap c (Nat.le_of_lt (hr j j1)); omega
      · exact c
      · have := h.gap c (Nat.le_of_lt (hr i i1)); omega
    · exact ⟨0, fun i i1 i2 i3 => absurd ⟨i, i1, i2, i3⟩ g⟩
  refine ⟨fun b => Classical.choose (hf b), fun _ _ => trivial, cur.toList.take (k * 2), ⟨?_, .inr ⟨blk, cap, cur, by rw [List.length_zipIdx, pickR_len], hb, hh, by rw [List.length_zipIdx, pickR_len]; exact hk, hc, hs, by rw [List.length_zipIdx, pickR_len]; rfl⟩⟩, ?_, fun j p hj => ?_⟩
  · rw [List.length_take, List.length_zipIdx, pickR_len, Array.length_toList, hs]
    show min (k * 2) (cap * 2) = k * 2
    omega
  · rw [List.length_take, List.length_zipIdx, pickR_len, Array.length_toList, hs]
    show min (k * 2) (cap * 2) = k * 2
    omega
  · have hjk : j < k := by
      have := (List.getElem?_eq_some_iff.1 hj).1
      rw [List.length_zipIdx, pickR_len] at this
      exact this
    rw [List.getElem?_zipIdx, pickR_get l r k j hjk] at hj
    simp at hj
    subst hj
    obtain ⟨c0, c1⟩ := hcell j hjk
    have hcs : ((cur.toList.take (k * 2)).drop (j * 2)).take 2 = [.slice (ce (r j)).A (ce (r j)).l (ce (r j)).c, .int .i64 (at' l (r j)).f1] := by
      rw [← (h.len (r j) (hr j hjk)).2.1]
      refine List.ext_getElem? (fun i => ?_)
      rw [List.getElem?_take]
      by_cases i2 : i < 2
      · rw [if_pos i2, List.getElem?_drop, List.getElem?_take, if_pos (by omega)]
        have : i = 0 ∨ i = 1 := by omega
        rcases this with rfl | rfl
        · simpa using c0
        · simpa using c1
      · rw [if_neg i2]
        simp
        omega
    show k25.M W base _ (at' l (r j)) ((((cur.toList.take (k * 2)).drop (j * 2)).take 2))
    rw [hcs]
    refine k25_mkM W base _ (at' l (r j)) (Kd.R_mono (h.moved hB (hr j hjk)) (fun b hb2 => ⟨⟨trivial, fun e => ?_⟩, ?_⟩))
    · have h1 := (h.below (r j) (Nat.le_of_lt (hr j hjk))).1
      have h2 := h.lo
      have : b = blk := by simpa [Value.ownBlock] using e
      omega
    · exact Classical.choose_spec (hf b) j hjk hb2.1 hb2.2

/-- Few and short enough. -/
def okR (l : List S25) : Bool := decide (l.length < 1000000000) && l.all (fun x => decide (x.f0.length < 1000000000))
theorem okR_len {l : List S25} (h : okR l = true) : l.length < 1000000000 := by
  unfold okR at h; simp at h; exact h.1
theorem okR_at {l : List S25} (h : okR l = true) (i : Nat) (hi : i < l.length) : (at' l i).f0.length < 1000000000 := by
  unfold okR at h
  simp at h
  have := at_mem l i hi
  exact h.2 _ (List.mem_of_getElem? this)

set_option maxHeartbeats 2000000 in
/-- order.Sort. -/
theorem sort_any (A0 : Option Addr) (c0 : Nat) (l0 : List S25) (w : World) (hr0 : Kd.C k25 w A0 l0.length l0) (hc0 : l0.length ≤ c0) (hok : okR l0 = true) :
    Calls Try.prog 11 #[.slice A0 l0.length c0] w fun e w' => ∃ v0_ : Value, e = .returned v0_ ∧ Kd.S k25 25 w' w.heap.size (fun _ => True) v0_ (sortR l0) ∧ Below w.heap.size w w' := by
  have hl := okR_len hok
  have HL := Aside0.mk (fun i hi => okR_at hok i hi)
  have HC := Aside0.mk (copied A0 c0 l0 w hr0 hc0 (by omega) (fun i hi => by have := HL.out i hi; omega))
  clear hr0 hok
  go_enter Try.func11, Try.ntmps11
  go_wp2_with fail
  refine HC.out.mono ?_
  rintro e w1 ⟨v, rfl, hB, ⟨rfl, rfl⟩ | ⟨blk, cap, ce, S, rfl, hcap, hcm, hblk, hrow, hown⟩⟩
  · have HB := Aside0.mk hB
    clear hB
    go_wp2_with fail
    refine (sortStable_nil w1).mono ?_
    rintro r_ W1 ⟨rfl, rfl⟩
    go_wp2_with fail
    refine (compact_small none 0 0 _ (by omega)).mono ?_
    rintro r_ W2 ⟨rfl, rfl⟩
    go_wp2
    go_ret
    exact ⟨_, rfl, Kd.S_nil _ _ _ _ _, HB.out⟩
  · obtain ⟨n, hn⟩ : ∃ n, n = l0.length := ⟨_, rfl⟩
    rw [← hn] at hl hcap hrow hown HL hc0
    rw [← hn]
    have HN := Aside0.mk hn
    clear hn HC
    have HB := Aside0.mk hB
    have HRow := Aside0.mk hrow
    have HOwn := Aside0.mk hown
    have HCmp := Aside0.mk (cmpOK_of hown (fun i hi => by have := HL.out i hi; omega))
    have HOrd := Aside0.mk (ord_of n l0)
    clear hB hrow hown
    go_wp2_with fail
    refine (sortStable blk n cap ce (fun i j => cmpR (at' l0 i) (at' l0 j)) w1 w1 HCmp.out HOrd.out HRow.out (But.refl _ _) (by omega)).mono ?_
    rintro r_ W1 ⟨rfl, q, hR1, hB1, hW1, hS1⟩
    have HR1 := Aside0.mk hR1
    have HB1 := Aside0.mk hB1
    have HW1 := Aside0.mk hW1
    have HS1 := Aside0.mk hS1
    clear hR1 hB1 hW1 hS1
    have fin : ∀ (W : World) (k : Nat) (r : Nat → Nat), k ≤ n → RowAt W blk 25 k cap ce r → But blk w1 W → Cmp n (fun i j => cmpR (at' l0 i) (at' l0 j)) q n k r → Kd.S k25 25 W w.heap.size (fun _ => True) (.slice (some ⟨blk, 0, none⟩) k cap) (sortR l0) ∧ Below w.heap.size w W := fun W k r hk hR hB hC => by
      have hrb : ∀ j, j < k → r j < n := fun j hj => by
        obtain ⟨t, t1, e⟩ := hC.sub j hj
        rw [e]; exact win_id_bnd HW1.out t t1
      have hN := HN.out
      subst hN
      refine ⟨?_, ?_⟩
      · rw [← cmp_sort l0 q r k HW1.out hC]
        refine own_S HOwn.out hB hR (by omega) hcm hblk hrb (fun i j hi hj e => ?_)
        rcases Nat.lt_trichotomy i j with c | c | c
        · have := hC.strict i j c hj
          simp only [e] at this
          have := cmpR_refl (at' l0 (r j)); omega
        · exact c
        · have := hC.strict j i c hi
          simp only [e] at this
          have := cmpR_refl (at' l0 (r j)); omega
      · exact HB.out.trans ⟨hB.os, hB.tape, hB.output, hB.size, fun b hb => hB.block b (by have := HB.out.size; omega) (by omega)⟩
    have HF := Aside0.mk fin
    clear fin
    go_wp2_with fail
    by_cases h2 : n < 2
    · refine (compact_small _ n cap _ h2).mono ?_
      rintro r_ W2 ⟨rfl, rfl⟩
      go_wp2
      go_ret
      have hO := HOrd.out
      have := HF.out _ n q (Nat.le_refl _) HR1.out HB1.out ⟨fun s hs => ⟨s, hs, rfl⟩, fun s t h1 h2 => by omega, fun t ht => ⟨t, ht, cmpR_refl _, Nat.le_refl _⟩⟩
      exact ⟨_, rfl, this.1, this.2⟩
    · refine (compact blk n cap ce (fun i j => cmpR (at' l0 i) (at' l0 j)) q w1 _ HCmp.out HOrd.out HR1.out HB1.out (by omega) (by omega) hcap (fun s hs => win_id_bnd HW1.out s hs) HS1.out).mono ?_
      rintro r_ W2 ⟨k, r, rfl, hk, hk1, hR2, hB2, hC2⟩
      have hfin := HF.out W2 k r hk hR2 (HB1.out.trans hB2) hC2
      have HFin := Aside0.mk hfin
      clear hR2 hB2 hC2 hfin
      go_wp2
      go_ret
      exact ⟨_, rfl, HFin.out.1, HFin.out.2⟩
end Go.Proofs.Ytladdncfhjjppaa.PA
