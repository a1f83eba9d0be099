import Derived.Test.YtladdncfhjjppaaPAx14
import Derived.Test.YtladdncfhjjppaaHLaw
namespace Go.Proofs.Ytladdncfhjjppaa.PA
open Go.RowKit Go.Proofs.YtladdncfhjjppaaW.PrintWords
set_option linter.unusedVariables false

theorem sort_self {l s : List S25} (h : IsSort l s) : sortR s = s := by
  refine IsSort.one (sortR_is s) ⟨h.rise, fun y hy => ?_, fun x hx => ⟨x, hx, cmpR_refl x⟩⟩
  obtain ⟨a, b, e⟩ := List.append_of_mem hy
  refine ⟨a, b, e, fun z hz g => ?_⟩
  have hr := h.rise
  rw [e, List.pairwise_append] at hr
  have := hr.2.2 z hz y List.mem_cons_self
  omega
theorem sort_mem {l : List S25} {x : S25} (h : x ∈ sortR l) : x ∈ l := by
  obtain ⟨a, b, e, _⟩ := (sortR_is l).first x h
  rw [e]; simp
theorem at_of_mem (l : List S25) (i : Nat) (hi : i < l.length) : at' l i ∈ l := List.mem_of_getElem? (at_mem l i hi)
theorem few_sort {l : List S25} (h : few l) : ∀ x, x ∈ sortR l → x.f0.length ≤ 50 := fun x hx => h.mem x (sort_mem hx)
theorem ins_len (x : S25) : ∀ r : List S25, (ins x r).length ≤ r.length + 1
  | [] => Nat.le_refl _
  | y :: ys => by
    unfold ins
    have := ins_len x ys
    split
    · simp
    · split
      · simp
      · simp; omega
theorem sort_len_le (l : List S25) : (sortR l).length ≤ l.length := by
  have : ∀ (l r : List S25), (l.foldl (fun r x => ins x r) r).length ≤ r.length + l.length := by
    intro l
    induction l with
    | nil => intro r; simp
    | cons x xs ih =>
      intro r
      have h1 := ih (ins x r)
      have h2 := ins_len x r
      simp only [List.foldl_cons, List.length_cons]
      omega
  have := this l []
  show (l.foldl (fun r x => ins x r) []).length ≤ _
  simpa using this
/-- How many of these are at the place of x. -/
def cnt (s : List S25) (x : S25) : Nat := (s.filter (fun y => decide (cmpR y x = 0))).length
theorem cnt_one {s : List S25} {x : S25} (h : s.Pairwise (fun x y => cmpR x y < 0)) (hx : ∃ y, y ∈ s ∧ cmpR y x = 0) : cnt s x = 1 := by
  induction s with
  | nil => obtain ⟨y, hy, _⟩ := hx; cases hy
  | cons y s ih =>
    rw [List.pairwise_cons] at h
    unfold cnt
    by_cases e : cmpR y x = 0
    · rw [List.filter_cons_of_pos (by simp [e])]
      have : s.filter (fun y => decide (cmpR y x = 0)) = [] := by
        rw [List.filter_eq_nil_iff]
        intro z hz
        have h1 := h.1 z hz
        simp only [decide_eq_true_eq]
        intro g
        have := cmpR_eq_trans e (cmpR_sym0 g)
        omega
      rw [this]; rfl
    · rw [List.filter_cons_of_neg (by simp [e])]
      refine ih h.2 ?_
      obtain ⟨z, hz, g⟩ := hx
      rcases List.mem_cons.1 hz with rfl | hz
      · exact absurd g e
      · exact ⟨z, hz, g⟩
theorem cnt_take (s : List S25) (x : S25) (i : Nat) (hi : i < s.length) : cnt (s.take (i + 1)) x = cnt (s.take i) x + (if cmpR (at' s i) x = 0 then 1 else 0) := by
  have e := at_mem s i hi
  rw [List.getElem?_eq_getElem hi] at e
  unfold cnt
  rw [List.take_succ_eq_append_getElem hi, Option.some.inj e, List.filter_append, List.length_append]
  by_cases g : cmpR (at' s i) x = 0
  · rw [if_pos g, List.filter_cons_of_pos (by simp only [decide_eq_true_eq]; exact g)]; rfl
  · rw [if_neg g, List.filter_cons_of_neg (by simp only [decide_eq_true_eq]; exact g)]; rfl
theorem route_refl (s : List S25) (hm : s.length < 9223372036854775807) (hs : ∀ x, x ∈ s → x.f0.length ≤ 50) : ∀ (d i : Nat), i ≤ s.length → s.length - i = d → Ev (fun k => api_Route.l0 k s s (s.length : Int) (i : Int) = some true)
  | 0, i, hi, hd => Ev.up (p := fun _ => True) (Ev.now (fun _ => trivial)) (fun k _ => by simp only [api_Route.l0]; rw [if_neg (by omega)])
  | d + 1, i, hi, hd => by
    have hil : i < s.length := by omega
    obtain ⟨r, hr, hrr⟩ := same_ev (at' s i) (at' s i) (by have := hs _ (at_of_mem s i hil); omega)
    obtain rfl := hrr.2 rfl
    refine (hr.and (route_refl s hm hs d (i + 1) (by omega) (by omega))).up (fun k hk => ?_)
    simp only [api_Route.l0]
    rw [if_pos (by omega), if_pos (by omega), if_pos (by omega), if_pos (by omega), rd_at, hk.1, wrap_up (by omega) (by omega)]
    exact hk.2
theorem same_refl (s : List S25) (hm : s.length < 9223372036854775807) (hs : ∀ x, x ∈ s → x.f0.length ≤ 50) : Ev (fun k => order_Same.f k s s = some true) := by
  refine (route_refl s hm hs _ 0 (by omega) rfl).same (fun k hk => ?_)
  unfold order_Same.f api_Route.f
  rw [if_pos rfl, show (0 : Int) = ((0 : Nat) : Int) from rfl, hk]
  rfl
section
variable {l : List S25} (hf : few l)
include hf
theorem srt_at (i : Nat) (hi : i < (sortR l).length) : (at' (sortR l) i).f0.length < 17592186044416 := by have := few_sort hf _ (at_of_mem _ i hi); omega
theorem end_ev : Ev (fun k => feluccalaw13_OrderSorts.l3 k l true (sortR l) ((sortR l).length : Int) = some true) := by
  have h1 := sort_len_le l
  have h2 := hf.1
  have h3 := sort_self (sortR_is l)
  have hok : okR (sortR l) = true := by
    unfold okR
    simp only [Bool.and_eq_true, decide_eq_true_eq, List.all_eq_true]
    exact ⟨by omega, fun x hx => by have := few_sort hf x hx; omega⟩
  refine (same_refl (sortR l) (by omega) (few_sort hf)).up (fun k hk => ?_)
  simp only [feluccalaw13_OrderSorts.l3]
  rw [if_neg (by omega), if_pos trivial]
  unfold order_Sort.f
  rw [if_pos hok, Option.bind_some, h3, hk]
  rfl
theorem l4_ev (s : Nat) (hs : s < (sortR l).length) (a b : List S25) (e : l = a ++ at' (sortR l) s :: b) (ha : ∀ z, z ∈ a → cmpR z (at' (sortR l) s) ≠ 0) (hn : Ev (fun k => feluccalaw13_OrderSorts.l3 k l true (sortR l) ((s + 1 : Nat) : Int) = some true)) :
    ∀ (d i : Nat), i ≤ a.length → a.length - i = d → Ev (fun k => feluccalaw13_OrderSorts.l4 k l true (sortR l) (s : Int) false (i : Int) = some true)
  | d, i, hi, hd => by
    have h1 := sort_len_le l
    have h2 := hf.1
    have hal : a.length < l.length := by rw [e]; simp
    have hil : i < l.length := by omega
    have hc := cmp_ev (at' (sortR l) s) (at' l i) (srt_at hf s hs) (hf.at i hil)
    by_cases g : i < a.length
    · obtain ⟨d, rfl⟩ : ∃ m, d = m + 1 := ⟨d - 1, by omega⟩
      have hne : cmpR (at' (sortR l) s) (at' l i) ≠ 0 := fun h => by
        refine ha (at' l i) ?_ (cmpR_sym0 h)
        have := at_mem l i hil
        have e2 : l[i]? = a[i]? := by
          have : l[i]? = (a ++ at' (sortR l) s :: b)[i]? := by rw [← e]
          rw [this, List.getElem?_append_left g]
        rw [e2] at this
        exact List.mem_of_getElem? this
      refine (hc.and (l4_ev s hs a b e ha hn d (i + 1) (by omega) (by omega))).up (fun k hk => ?_)
      simp only [feluccalaw13_OrderSorts.l4]
      rw [if_pos (by omega), if_pos (by omega), if_pos (by omega), if_pos (by omega), rd_at, rd_at, hk.1, Option.bind_some, if_neg hne, wrap_up (by omega) (by omega)]
      exact hk.2
    · have hia : i = a.length := by omega
      have hx : at' l i = at' (sortR l) s := by
        have := at_mem l i hil
        have e2 : l[i]? = some (at' (sortR l) s) := by
          have : l[i]? = (a ++ at' (sortR l) s :: b)[i]? := by rw [← e]
          rw [this, hia, List.getElem?_append_right (Nat.le_refl _)]; simp
        rw [e2] at this
        exact (Option.some.inj this).symm
      obtain ⟨r, hr, hrr⟩ := same_ev (at' (sortR l) s) (at' l i) (by have := srt_at hf s hs; omega)
      obtain rfl := hrr.2 hx.symm
      refine ((hc.and hr).and hn).up (fun k hk => ?_)
      simp only [feluccalaw13_OrderSorts.l4]
      rw [if_pos (by omega), if_pos (by omega), if_pos (by omega), if_pos (by omega), rd_at, rd_at, hk.1.1, Option.bind_some, if_pos (by rw [hx]; exact cmpR_refl _), hk.1.2, Option.bind_some, if_pos rfl, wrap_up (by omega) (by omega)]
      exact hk.2
theorem l3_ev : ∀ (d s : Nat), s ≤ (sortR l).length → (sortR l).length - s = d → Ev (fun k => feluccalaw13_OrderSorts.l3 k l true (sortR l) (s : Int) = some true)
  | 0, s, hs, hd => by
    obtain rfl : s = (sortR l).length := by omega
    exact end_ev hf
  | d + 1, s, hs, hd => by
    have hsl : s < (sortR l).length := by omega
    obtain ⟨a, b, e, ha⟩ := (sortR_is l).first _ (at_of_mem (sortR l) s hsl)
    refine (l4_ev hf s hsl a b e ha (l3_ev d (s + 1) (by omega) (by omega)) _ 0 (by omega) rfl).up (fun k hk => ?_)
    simp only [feluccalaw13_OrderSorts.l3]
    rw [if_pos (by omega)]
    exact hk
theorem l2_ev (i : Nat) (hi : i < l.length) (hn : Ev (fun k => feluccalaw13_OrderSorts.l1 k l true (sortR l) ((i + 1 : Nat) : Int) = some true)) :
    ∀ (d s : Nat), s ≤ (sortR l).length → (sortR l).length - s = d → Ev (fun k => feluccalaw13_OrderSorts.l2 k l true (sortR l) (i : Int) (cnt ((sortR l).take s) (at' l i) : Int) (s : Int) = some true)
  | 0, s, hs, hd => by
    have h2 := hf.1
    refine hn.up (fun k hk => ?_)
    have hc := cnt_one (sortR_is l).rise ((sortR_is l).cover _ (at_of_mem l i hi))
    simp only [feluccalaw13_OrderSorts.l2]
    rw [if_neg (by omega), List.take_of_length_le (by omega), hc, if_pos (by rfl), wrap_up (by omega) (by omega)]
    exact hk
  | d + 1, s, hs, hd => by
    have h1 := sort_len_le l
    have h2 := hf.1
    have hsl : s < (sortR l).length := by omega
    have hc := cmp_ev (at' (sortR l) s) (at' l i) (srt_at hf s hsl) (hf.at i hi)
    have hct := cnt_take (sortR l) (at' l i) s hsl
    have hle : cnt ((sortR l).take s) (at' l i) ≤ 50 := by
      unfold cnt
      have := List.length_filter_le (fun y => decide (cmpR y (at' l i) = 0)) ((sortR l).take s)
      rw [List.length_take] at this
      omega
    refine (hc.and (l2_ev i hi hn d (s + 1) (by omega) (by omega))).up (fun k hk => ?_)
    simp only [feluccalaw13_OrderSorts.l2]
    rw [if_pos (by omega), if_pos (by omega), if_pos (by omega), if_pos (by omega), rd_at, rd_at, hk.1, Option.bind_some]
    have h3 := hk.2
    rw [hct] at h3
    by_cases g : cmpR (at' (sortR l) s) (at' l i) = 0
    · rw [if_pos g] at h3 ⊢
      rw [wrap_up (by omega) (by omega), wrap_up (by omega) (by omega)]
      exact h3
    · rw [if_neg g] at h3 ⊢
      rw [wrap_up (by omega) (by omega)]
      exact h3
theorem l1_ev : ∀ (d i : Nat), i ≤ l.length → l.length - i = d → Ev (fun k => feluccalaw13_OrderSorts.l1 k l true (sortR l) (i : Int) = some true)
  | 0, i, hi, hd => (l3_ev hf _ 0 (by omega) rfl).up (fun k hk => by
    simp only [feluccalaw13_OrderSorts.l1]
    rw [if_neg (by omega)]
    exact hk)
  | d + 1, i, hi, hd => by
    have h := l2_ev hf i (by omega) (l1_ev d (i + 1) (by omega) (by omega)) _ 0 (by omega) rfl
    refine h.up (fun k hk => ?_)
    simp only [feluccalaw13_OrderSorts.l1]
    rw [if_pos (by omega)]
    exact hk
theorem l0_ev : ∀ (d i : Nat), 1 ≤ i → (sortR l).length - i = d → Ev (fun k => feluccalaw13_OrderSorts.l0 k l true (sortR l) (i : Int) = some true)
  | d, i, hi, hd => by
    have h1 := sort_len_le l
    have h2 := hf.1
    by_cases g : i < (sortR l).length
    · obtain ⟨d, rfl⟩ : ∃ m, d = m + 1 := ⟨d - 1, by omega⟩
      have hw : wrap64 ((i : Int) - 1) = ((i - 1 : Nat) : Int) := by unfold wrap64; omega
      have hc := cmp_ev (at' (sortR l) (i - 1)) (at' (sortR l) i) (srt_at hf _ (by omega)) (srt_at hf _ g)
      have hlt : cmpR (at' (sortR l) (i - 1)) (at' (sortR l) i) = -1 := by
        have hr := (sortR_is l).rise
        rw [List.pairwise_iff_getElem] at hr
        have := hr (i - 1) i (by omega) g (by omega)
        have e1 := at_mem (sortR l) (i - 1) (by omega)
        have e2 := at_mem (sortR l) i g
        rw [List.getElem?_eq_getElem (by omega)] at e1
        rw [List.getElem?_eq_getElem g] at e2
        rw [Option.some.inj e1, Option.some.inj e2] at this
        have := cmpR_rng (at' (sortR l) (i - 1)) (at' (sortR l) i)
        omega
      refine (hc.and (l0_ev d (i + 1) (by omega) (by omega))).up (fun k hk => ?_)
      simp only [feluccalaw13_OrderSorts.l0]
      rw [if_pos (by omega), hw, if_pos (by omega), if_pos (by omega), if_pos (by omega), rd_at, rd_at, hk.1, Option.bind_some, if_pos hlt, wrap_up (by omega) (by omega)]
      exact hk.2
    · refine (l1_ev hf _ 0 (by omega) rfl).up (fun k hk => ?_)
      simp only [feluccalaw13_OrderSorts.l0]
      rw [if_neg (by omega)]
      exact hk
end
theorem sorts_ev (l : List S25) : Ev (fun k => feluccalaw13_OrderSorts.f k l = some true) := by
  obtain ⟨b, hb, hf⟩ := few_is l
  cases b with
  | false =>
    refine hb.same (fun k hk => ?_)
    unfold feluccalaw13_OrderSorts.f feluccalaw13_small.f
    rw [Option.bind_some, hk, Option.bind_some, if_neg (by simp)]
  | true =>
    have hf := hf rfl
    refine (hb.and (l0_ev hf _ 1 (by omega) rfl)).same (fun k hk => ?_)
    unfold feluccalaw13_OrderSorts.f feluccalaw13_small.f order_Sort.f
    rw [Option.bind_some, hk.1, Option.bind_some, if_pos rfl, if_pos hf.ok, Option.bind_some]
    exact hk.2
theorem sorts_any (A0 : Option Addr) (c0 : Nat) (l0 : List S25) (w : World) (hr0 : Kd.C k25 w A0 l0.length l0) (hc0 : l0.length ≤ c0) : Calls Try.prog 4 #[.slice A0 l0.length c0] w fun e w' => e = .returned (.bool true) ∧ Below w.heap.size w w' := by
  obtain ⟨k, hk⟩ := sorts_ev l0
  exact feluccalaw13_OrderSorts.calls k A0 c0 l0 true w hr0 hc0 (hk k (Nat.le_refl _))
end Go.Proofs.Ytladdncfhjjppaa.PA
