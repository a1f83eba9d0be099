import Derived.Test.YtladdncfhjjppaaHCom2
namespace Go.Proofs.Ytladdncfhjjppaa.PA
open Go.RowKit Go.Proofs.YtladdncfhjjppaaW.PrintWords Go.Proofs.YtladdncfhjjppaaW.PrintLast Go.Proofs.YtladdncfhjjppaaW.PrintMore Go.Proofs.YtladdncfhjjppaaW.XRow
set_option linter.unusedVariables false

theorem xinfo34 : (Try.prog.info? 34).map (fun i => (i.zero, i.size, i.bytes)) = some (some (.agg #[.int .i64 0, .int .i64 0, .int .i64 0]), 3, 24) := by kernel_rfl
theorem xinfo25 : (Try.prog.info? 25).map (fun i => (i.zero, i.size, i.bytes)) = some (some (.agg #[.slice none 0 0, .int .i64 0]), 2, 32) := by kernel_rfl

theorem h34 {w : World} {W : World} {base : Nat} {okp : Nat → Prop} (x : S34) (cs : List Value) (h : k34.K W x cs) : k34.M w base okp x cs := by
  rw [k34_open h]
  exact k34_mkM _ _ _ x

set_option maxHeartbeats 2000000 in
/-- slices.Clone of hops. -/
theorem clone35 (A0 : Option Addr) (c0 : Nat) (l0 : List S34) (w : World) (hr0 : Kd.C k34 w A0 l0.length l0) (hc0 : l0.length ≤ c0) (hl : l0.length < 5864062014805) :
    Calls Try.prog 35 #[.slice A0 l0.length c0] w fun e w' => ∃ v0_ : Value, e = .returned v0_ ∧ Kd.R k34 34 w' w.heap.size (fun _ => True) v0_ l0 ∧ Below w.heap.size w w' := by
  have q23 : ∀ (w : World) (a : Option Addr) (n c n' c' : Nat), (binOp .eql 23 (.slice a n c) (.slice none n' c')).run Try.prog w = .ok (.bool a.isNone) w := fun w a n c n' c' => Lib.run_eql_slice_nil w _ _ a n c n' c' Try.underlying23
  have HR := Aside0.mk hr0
  have HC := Aside0.mk hc0
  clear hr0 hc0
  cases A0 with
  | none =>
    have hz : l0 = [] := by
      cases l0 with
      | nil => rfl
      | cons x xs =>
        obtain ⟨ad, e, _⟩ := HR.out.2.2 (by simp)
        cases e
    subst hz
    go_enter Try.func35, Try.ntmps35
    go_wp2
    go_ret
    exact ⟨_, rfl, Kd.R_nil _ _ _ _ _, Below.refl _ _⟩
  | some ad =>
    go_enter Try.func35, Try.ntmps35
    go_wp2_with (at_builtin; refine Kd.R_append_rows k34 (Rr := k34.K w) (w0 := w) w.heap.size rfl (.tmp 5) (.tmp 6) 23 34 (.agg #[.int .i64 0, .int .i64 0, .int .i64 0]) 24 rfl Try.underlying23 xinfo34 rfl (by decide) (by omega) (.slice (some ⟨w.heap.size, 0, none⟩) 0 0) [] l0 (some ad) l0.length c0 (fun _ => True) (fun _ => False) rfl rfl ?aO ?aR (fun x cs h => h34 x cs h) (fun _ h => h.elim) (fun _ _ => trivial) ?aB ?aS ?aL ?_; (case aO => exact ⟨fun _ _ => trivial, [], World.ownsRow_made w #[] 0 (Nat.le_refl _) (Nat.zero_le _) (by simp), Reps.none _ _⟩); (case aR => exact ReadsRow.imp_ HR.out (below_alloc (Below.refl _ _) _) (fun _ _ h => h)); (case aB => exact below_alloc (Below.refl _ _) _); (case aS => simp); (case aL => simp; omega); intro v1 w1 ho hb hg hat; have HO := Aside0.mk ho; have HB := Aside0.mk hb; clear ho hb hg hat)
    go_ret
    exact ⟨_, rfl, HO.out, HB.out⟩

set_option maxHeartbeats 2000000 in
/-- slices.Clone of routes: their hops are shared. -/
theorem clone34 (A0 : Option Addr) (c0 : Nat) (l0 : List S25) (w : World) (hr0 : Kd.C k25 w A0 l0.length l0) (hc0 : l0.length ≤ c0) (hl : l0.length < 4398046511104) :
    Calls Try.prog 34 #[.slice A0 l0.length c0] w fun e w' => ∃ v0_ : Value, e = .returned v0_ ∧ Kd.R (Kd.fixed k25 w) 25 w' w.heap.size (fun _ => True) v0_ l0 ∧ Below w.heap.size w w' := by
  have q22 : ∀ (w : World) (a : Option Addr) (n c n' c' : Nat), (binOp .eql 22 (.slice a n c) (.slice none n' c')).run Try.prog w = .ok (.bool a.isNone) w := fun w a n c n' c' => Lib.run_eql_slice_nil w _ _ a n c n' c' Try.underlying22
  have HR := Aside0.mk hr0
  have HC := Aside0.mk hc0
  clear hr0 hc0
  cases A0 with
  | none =>
    have hz : l0 = [] := by
      cases l0 with
      | nil => rfl
      | cons x xs =>
        obtain ⟨ad, e, _⟩ := HR.out.2.2 (by simp)
        cases e
    subst hz
    go_enter Try.func34, Try.ntmps34
    go_wp2
    go_ret
    exact ⟨_, rfl, Kd.R_nil _ _ _ _ _, Below.refl _ _⟩
  | some ad =>
    go_enter Try.func34, Try.ntmps34
    go_wp2_with (at_builtin; refine Kd.R_append_rows (Kd.fixed k25 w) (Rr := k25.K w) (w0 := w) w.heap.size rfl (.tmp 5) (.tmp 6) 22 25 (.agg #[.slice none 0 0, .int .i64 0]) 32 rfl Try.underlying22 xinfo25 rfl (show (0:Nat) < 2 from Nat.succ_pos _) (by omega) (.slice (some ⟨w.heap.size, 0, none⟩) 0 0) [] l0 (some ad) l0.length c0 (fun _ => True) (fun _ => False) rfl rfl ?aO ?aR (fun x cs h => h) (fun _ h => h.elim) (fun _ _ => trivial) ?aB ?aS ?aL ?_; (case aO => exact ⟨fun _ _ => trivial, [], World.ownsRow_made w #[] 0 (Nat.le_refl _) (Nat.zero_le _) (by simp), Reps.none _ _⟩); (case aR => exact ReadsRow.imp_ HR.out (below_alloc (Below.refl _ _) _) (fun _ _ h => h)); (case aB => exact below_alloc (Below.refl _ _) _); (case aS => simp); (case aL => simp; omega); intro v1 w1 ho hb hg hat; have HO := Aside0.mk ho; have HB := Aside0.mk hb; clear ho hb hg hat)
    go_ret
    exact ⟨_, rfl, HO.out, HB.out⟩

/-- Route number i. -/
abbrev at' (l : List S25) (i : Nat) : S25 := l.getD i z25
/-- The copies lie in blocks of their own, one behind the other. -/
structure Own (W : World) (base blk n k : Nat) (l : List S25) (ce : Nat → El) (S : Nat → Nat) : Prop where
  lo : blk < S 0
  mono : ∀ i, i < k → S i ≤ S (i + 1)
  top : S k ≤ W.heap.size
  len : ∀ i, i < n → (ce i).l = (at' l i).f0.length ∧ (ce i).z = (at' l i).f1 ∧ (at' l i).f0.length ≤ (ce i).c
  own : ∀ i, i < k → Kd.R k34 34 W base (fun b => S i ≤ b ∧ b < S (i + 1)) (.slice (ce i).A (ce i).l (ce i).c) (at' l i).f0
def CopiedPost (l0 : List S25) (w : World) (e : Ending) (W : World) : Prop :=
  ∃ v, e = .returned v ∧ Below w.heap.size w W ∧ ((v = .slice none 0 0 ∧ l0 = []) ∨
    ∃ blk cap ce S, v = .slice (some ⟨blk, 0, none⟩) l0.length cap ∧ l0.length ≤ cap ∧ cap ≤ maxLen ∧ w.heap.size ≤ blk ∧ RowAt W blk 25 l0.length cap ce (fun s => s) ∧ Own W w.heap.size blk l0.length l0.length l0 ce S)
theorem row_put0 {W : World} {b t n cap : Nat} {ce : Nat → El} (h : RowAt W b t n cap ce (fun s => s)) (k : Nat) (hk : k < n) (A : Option Addr) (l c : Nat) : RowAt (W.setCell ⟨b, k * 2, none⟩ (.slice A l c)) b t n cap (fun i => if i = k then ⟨A, l, c, (ce k).z⟩ else ce i) (fun s => s) := by
  obtain ⟨cur, hb, hs, hc⟩ := h.row
  have hsz : k * 2 + 1 < cur.size := (Array.getElem?_eq_some_iff.1 (hc k hk).2).1
  refine ⟨_, blk_set hb (k * 2) (.slice A l c), by simpa using hs, fun j hj => ?_⟩
  have hj2 := hc j hj
  by_cases e : j = k
  · subst e
    simp only [if_pos, Array.getElem?_setIfInBounds]
    refine ⟨?_, ?_⟩
    · rw [if_pos (by omega)]
    · rw [if_neg (by omega)]; exact hj2.2
  · simp only [if_neg e, Array.getElem?_setIfInBounds]
    refine ⟨?_, ?_⟩
    · rw [if_neg (by omega)]; exact hj2.1
    · rw [if_neg (by omega)]; exact hj2.2
/-- A row whose elements were read in w: what its cells are. -/
theorem row_of_fixed {w W : World} {v : Value} {l : List S25} (h : Kd.R (Kd.fixed k25 w) 25 W w.heap.size (fun _ => True) v l) : (v = .slice none 0 0 ∧ l = []) ∨
    ∃ blk cap ce, v = .slice (some ⟨blk, 0, none⟩) l.length cap ∧ l.length ≤ cap ∧ cap ≤ maxLen ∧ w.heap.size ≤ blk ∧ RowAt W blk 25 l.length cap ce (fun s => s) ∧ ∀ i, i < l.length → (ce i).l = (at' l i).f0.length ∧ (ce i).z = (at' l i).f1 ∧ (at' l i).f0.length ≤ (ce i).c ∧ Kd.C k34 w (ce i).A (at' l i).f0.length (at' l i).f0 := by
  obtain ⟨_, inner, ho, hr⟩ := h
  rcases ho.2 with ⟨hv, hn⟩ | ⟨g, cap, cur, hv, hg, hh, hn, hm, hs, ht⟩
  · exact .inl ⟨hv, List.length_eq_zero_iff.1 hn⟩
  · refine .inr ?_
    replace ht : cur.toList.take (l.length * 2) = inner := ht
    replace hs : cur.size = cap * 2 := hs
    have hel : ∀ i, ∃ e : El, i < l.length → e.l = (at' l i).f0.length ∧ e.z = (at' l i).f1 ∧ (at' l i).f0.length ≤ e.c ∧ Kd.C k34 w e.A (at' l i).f0.length (at' l i).f0 ∧ cur[i * 2]? = some (.slice e.A e.l e.c) ∧ cur[i * 2 + 1]? = some (.int .i64 e.z) := fun i => by
      by_cases hi : i < l.length
      · have hx : l[i]? = some (at' l i) := by simp [List.getD_eq_getElem?_getD, List.getElem?_eq_getElem hi]
        have hK := hr.2 i _ hx
        obtain ⟨A, c, hcs, hlc, hC⟩ := k25_open (show k25.K w (at' l i) ((inner.drop (i * 2)).take 2) from hK)
        have h0 : inner[i * 2]? = some (.slice A (at' l i).f0.length c) := by
          have := congrArg (fun z : List Value => z[0]?) hcs
          simpa [List.getElem?_take, List.getElem?_drop] using this
        have h1 : inner[i * 2 + 1]? = some (.int .i64 (at' l i).f1) := by
          have := congrArg (fun z : List Value => z[1]?) hcs
          simpa [List.getElem?_take, List.getElem?_drop] using this
        rw [← ht] at h0 h1
        rw [List.getElem?_take_of_lt (by omega)] at h0 h1
        exact ⟨⟨A, _, c, (at' l i).f1⟩, fun _ => ⟨rfl, rfl, hlc, hC, by simpa using h0, by simpa using h1⟩⟩
      · exact ⟨⟨none, 0, 0, 0⟩, fun h => absurd h hi⟩
    refine ⟨g, cap, fun i => Classical.choose (hel i), hv, hn, hm, hg, ⟨cur, hh, hs, fun j hj => ?_⟩, fun i hi => ?_⟩
    · have := Classical.choose_spec (hel j) hj
      exact ⟨this.2.2.2.2.1, this.2.2.2.2.2⟩
    · have := Classical.choose_spec (hel i) hi
      exact ⟨this.1, this.2.1, this.2.2.1, this.2.2.2.1⟩
end Go.Proofs.Ytladdncfhjjppaa.PA
