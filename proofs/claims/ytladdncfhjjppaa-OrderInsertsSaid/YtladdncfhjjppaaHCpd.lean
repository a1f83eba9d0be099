import Derived.Test.YtladdncfhjjppaaHClo
namespace Go.Proofs.Ytladdncfhjjppaa.PA
open Go.RowKit Go.Proofs.YtladdncfhjjppaaW.PrintWords Go.Proofs.YtladdncfhjjppaaW.PrintLast Go.Proofs.YtladdncfhjjppaaW.PrintMore Go.Proofs.YtladdncfhjjppaaW.XRow
set_option linter.unusedVariables false

/-- One more copy, laid behind the others. -/
theorem Own.step {W W1 : World} {base blk n k : Nat} {l : List S25} {ce : Nat → El} {S : Nat → Nat} (h : Own W base blk n k l ce S) (hk : k < n) (hb : base ≤ W.heap.size) (hblk : blk < W.heap.size) (A : Option Addr) (c : Nat) (hB : Below W.heap.size W W1) (hR : Kd.R k34 34 W1 W.heap.size (fun _ => True) (.slice A (at' l k).f0.length c) (at' l k).f0) (hc : (at' l k).f0.length ≤ c) :
    ∃ S', Own (W1.setCell ⟨blk, k * 2, none⟩ (.slice A (at' l k).f0.length c)) base blk n (k + 1) l (fun i => if i = k then ⟨A, (at' l k).f0.length, c, (ce k).z⟩ else ce i) S' := by
  have hmono : ∀ i, i ≤ k → S 0 ≤ S i := fun i hi => by
    induction i with
    | zero => exact Nat.le_refl _
    | succ i ih => exact Nat.le_trans (ih (by omega)) (h.mono i (by omega))
  have hsz : (W1.setCell ⟨blk, k * 2, none⟩ (.slice A (at' l k).f0.length c)).heap.size = W1.heap.size := by simp [World.setCell]
  have hlo := h.lo
  have htop := h.top
  have hB1 := hB.size
  refine ⟨fun i => if i ≤ k then S i else W1.heap.size, by rw [if_pos (Nat.zero_le _)]; exact h.lo, fun i hi => ?_, ?_, fun i hi => ?_, fun i hi => ?_⟩
  · by_cases e : i < k
    · rw [if_pos (by omega), if_pos (by omega)]; exact h.mono i e
    · rw [if_pos (by omega), if_neg (by omega)]
      obtain rfl : i = k := by omega
      omega
  · rw [if_neg (by omega), hsz]; exact Nat.le_refl _
  · by_cases e : i = k
    · subst e; rw [if_pos rfl]; exact ⟨rfl, (h.len i hi).2.1, hc⟩
    · rw [if_neg e]; exact h.len i hi
  · by_cases e : i = k
    · subst e
      rw [if_pos rfl, if_pos (Nat.le_refl _), if_neg (by omega)]
      have h1 := Kd.R_bound hR
      have h2 := Kd.R_lower (base' := base) h1 hb
      have h3 : Kd.R k34 34 W1 base (fun b => S i ≤ b ∧ b < W1.heap.size) (.slice A (at' l i).f0.length c) (at' l i).f0 := Kd.R_mono h2 (fun b hb => ⟨by have := hb.2.1; omega, hb.2.2.1⟩)
      exact Kd.R_far h3 (fun b hb => by have := hmono i (Nat.le_refl _); have := hb.1; simp; omega) _
    · rw [if_neg e, if_pos (by omega), if_pos (by omega)]
      have h3 := Kd.R_below (h.own i (by omega)) hB
      exact Kd.R_far h3 (fun b hb => by have := hmono i (by omega); have := hb.1; simp; omega) _

set_option maxHeartbeats 4000000 in
/-- order.copied: routes in memory of their own. -/
theorem copied (A0 : Option Addr) (c0 : Nat) (l0 : List S25) (w : World) (hr0 : Kd.C k25 w A0 l0.length l0) (hc0 : l0.length ≤ c0) (hl : l0.length < 4398046511104) (hh : ∀ i, i < l0.length → (at' l0 i).f0.length < 5864062014805) :
    Calls Try.prog 23 #[.slice A0 l0.length c0] w (CopiedPost l0 w) := by
  have HC := Aside0.mk (clone34 A0 c0 l0 w hr0 hc0 hl)
  have HH := Aside0.mk hh
  clear hr0 hc0 hh
  go_enter Try.func23, Try.ntmps23
  go_wp2_with fail
  refine HC.out.mono ?_
  rintro e w1 ⟨v, rfl, hR, hB⟩
  have HB := Aside0.mk hB
  have hsh := row_of_fixed hR
  clear hR hB HC
  rcases hsh with ⟨rfl, rfl⟩ | ⟨blk, cap, ce, rfl, hcap, hcm, hblk, hrow, hel⟩
  · go_wp2
    refine wp_loop_rounds 1 ?_
    rw [rounds_succ]
    go_wp2
    go_ret
    exact ⟨_, rfl, HB.out, .inl ⟨rfl, rfl⟩⟩
  · obtain ⟨n, hn⟩ : ∃ n, n = l0.length := ⟨_, rfl⟩
    rw [← hn] at hl hcap hrow hel HH
    rw [← hn]
    have HN := Aside0.mk hn
    clear hn
    have hblk1 := hrow.lt
    have HRow := Aside0.mk hrow
    have HO1 : Aside0 (Own w1 w.heap.size blk n 0 l0 ce (fun _ => w1.heap.size)) := ⟨⟨hblk1, fun _ _ => Nat.le_refl _, Nat.le_refl _, fun i hi => ⟨(hel i hi).1, (hel i hi).2.1, (hel i hi).2.2.1⟩, fun i hi => by omega⟩⟩
    have HEl := Aside0.mk hel
    clear hrow hel
    have hlb : w.heap.size ≤ w1.heap.size := HB.out.size
    go_wp2
    go_loopg [8] n (fun g vk wr => ∃ (k : Nat) (ce2 : Nat → El) (S : Nat → Nat), vk = .int .i64 k ∧ k ≤ n ∧ n - k ≤ g ∧ Aside0 (RowAt wr blk 25 n cap ce2 (fun s => s)) ∧ Aside0 (Own wr w.heap.size blk n k l0 ce2 S) ∧ Aside0 (∀ i, k ≤ i → ce2 i = ce i) ∧ Aside0 (Below w.heap.size w wr))
    case atStart => exact ⟨0, ce, _, rfl, by omega, by omega, HRow, HO1, ⟨fun _ _ => rfl⟩, HB⟩
    case round =>
      clear HRow HO1 HB hlb hblk1
      obtain ⟨k, ce2, S, rfl, hkn, hg, HR2, HO2, HE2, HB2⟩ := hrel
      by_cases hlt : k < n
      · have hltz : (k : Int) < (n : Int) := by omega
        have hlb : w.heap.size ≤ wr.heap.size := HB2.out.size
        have hlk := HO2.out.len k hlt
        have hek := HE2.out k (Nat.le_refl _)
        have q0 := HR2.out.cell0 k hlt
        have f0 := HR2.out.frozen (k * 2)
        rw [show (ce2 k).l = (at' l0 k).f0.length from hlk.1] at q0
        have hcc := Kd.C_below (HEl.out k hlt).2.2.2 HB2.out
        rw [← hek] at hcc
        have HCL := Aside0.mk (clone35 (ce2 k).A (ce2 k).c (at' l0 k).f0 wr hcc hlk.2.2 (HH.out k hlt))
        clear hlk hek hcc
        go_wp2_with fail
        refine HCL.out.mono ?_
        rintro e w2 ⟨v, rfl, hR, hB⟩
        obtain ⟨A, c, rfl, hc, _⟩ := Kd.R_reads hR
        obtain ⟨S', hO3⟩ := HO2.out.step hlt hlb HR2.out.lt A c hB hR hc
        have q1 := pw_cell_below hB q0
        have f1 := (HR2.out.below hB).frozen (k * 2)
        have HO3 := Aside0.mk hO3
        have HR3 := Aside0.mk (row_put0 (HR2.out.below hB) k hlt A (at' l0 k).f0.length c)
        have HB3 := Aside0.mk ((HB2.out.trans (hB.mono hlb)).setCell (p := ⟨blk, k * 2, none⟩) hblk (.slice A (at' l0 k).f0.length c))
        clear hR hB hO3 hc HO2 HCL q0 f0
        go_wp2
        go_roundg (n - (k + 1))
        case measure => omega
        case rel => exact ⟨k + 1, _, S', by go_num, by omega, by omega, HR3, HO3, ⟨fun i hi => by rw [if_neg (by omega)]; exact HE2.out i (by omega)⟩, HB3⟩
      · have hltz : ¬ (k : Int) < (n : Int) := by omega
        obtain rfl : k = n := by omega
        go_wp2
        go_ret
        have HN' := HN.out
        subst HN'
        exact ⟨_, rfl, HB2.out, .inr ⟨blk, cap, ce2, S, rfl, hcap, hcm, hblk, HR2.out, HO2.out⟩⟩
end Go.Proofs.Ytladdncfhjjppaa.PA
