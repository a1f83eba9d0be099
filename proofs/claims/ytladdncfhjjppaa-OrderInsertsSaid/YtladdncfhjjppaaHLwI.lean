import Derived.Test.YtladdncfhjjppaaPAx15
import Derived.Test.YtladdncfhjjppaaHLaw
namespace Go.Proofs.Ytladdncfhjjppaa.PA
open Go.RowKit Go.Proofs.YtladdncfhjjppaaW.PrintWords
set_option linter.unusedVariables false

theorem sort_rise {s : List S25} (h : s.Pairwise (fun x y => cmpR x y < 0)) : sortR s = s := by
  refine IsSort.one (sortR_is s) ⟨h, fun y hy => ?_, fun x hx => ⟨x, hx, cmpR_refl x⟩⟩
  obtain ⟨a, b, e⟩ := List.append_of_mem hy
  refine ⟨a, b, e, fun z hz g => ?_⟩
  have hr := h
  rw [e, List.pairwise_append] at hr
  have := hr.2.2 z hz y List.mem_cons_self
  omega
theorem sort_snoc (l : List S25) (x : S25) : sortR (l ++ [x]) = ins x (sortR l) := by
  unfold sortR
  rw [List.foldl_append]
  rfl
theorem take_ins (r : S25) : ∀ (s : List S25) (m : Nat), (ins r (s.take m)).take m = (ins r s).take m
  | [], m => by simp
  | y :: ys, 0 => by simp
  | y :: ys, m + 1 => by
    rw [List.take_succ_cons]
    unfold ins
    by_cases h1 : cmpR r y < 0
    · rw [if_pos h1, if_pos h1, List.take_succ_cons, List.take_succ_cons]
      cases m with
      | zero => simp
      | succ m => rw [List.take_succ_cons, List.take_succ_cons, List.take_take]; congr 3; omega
    · rw [if_neg h1, if_neg h1]
      by_cases h2 : cmpR r y = 0
      · rw [if_pos h2, if_pos h2, List.take_succ_cons, List.take_succ_cons, List.take_take]; congr 2; omega
      · rw [if_neg h2, if_neg h2, List.take_succ_cons, List.take_succ_cons, take_ins r ys m]
theorem ok_all (l : List S25) (h1 : l.length < 1000000000) (h2 : ∀ x, x ∈ l → x.f0.length < 1000000000) : okR l = true := by
  unfold okR
  simp only [Bool.and_eq_true, decide_eq_true_eq, List.all_eq_true]
  exact ⟨h1, h2⟩
theorem insert_is (l : List S25) (r : S25) (most : Int) (h0 : 0 ≤ most) (h1 : l.length < 1000) (h2 : ∀ x, x ∈ l → x.f0.length < 1000) (h3 : r.f0.length < 1000) : order_Insert.f l r.f0 r.f1 most = some ((sortR (l ++ [r])).take most.toNat) := by
  have ok1 : okR l = true := ok_all l (by omega) (fun x hx => by have := h2 x hx; omega)
  have ok2 : okR (l ++ [r]) = true := ok_all _ (by rw [List.length_append]; simp; omega) (fun x hx => by
    rcases List.mem_append.1 hx with h | h
    · have := h2 x h; omega
    · obtain rfl := List.mem_singleton.1 h; omega)
  have hr : (⟨r.f0, r.f1⟩ : S25) = r := rfl
  unfold order_Insert.f order_copied.f order_Sort.f
  rw [if_pos ok1]
  simp only [Option.bind_some]
  rw [if_pos (by simp; omega), hr, if_pos ok2]
  simp only [Option.bind_some]
  have hm : mx 0 (mn most ((sortR (l ++ [r])).length : Int)) = ((min most.toNat (sortR (l ++ [r])).length : Nat) : Int) := by
    unfold mx mn
    split <;> split <;> omega
  rw [hm, if_pos (by omega), if_pos (by omega), Int.toNat_natCast]
  congr 1
  rw [List.take_eq_take_iff]
  omega
theorem places_refl (s : List S25) (hm : s.length < 1000) (hs : ∀ x, x ∈ s → x.f0.length < 1000) : ∀ (d i : Nat), i ≤ s.length → s.length - i = d → Ev (fun k => feluccalaw13_places.l0 k s s (i : Int) = some true)
  | 0, i, hi, hd => by
    refine ⟨2, fun k hk => ?_⟩
    obtain ⟨j, rfl⟩ : ∃ j, k = j + 2 := ⟨k - 2, by omega⟩
    simp only [feluccalaw13_places.l0, feluccalaw13_places.j1]
    rw [if_neg (by omega), if_neg (by simp)]
    simp
  | d + 1, i, hi, hd => by
    have hil : i < s.length := by omega
    have hx : (at' s i).f0.length < 1000 := hs _ (List.mem_of_getElem? (at_mem s i hil))
    have hc := cmp_ev (at' s i) (at' s i) (by omega) (by omega)
    refine ((hc.and (places_refl s hm hs d (i + 1) (by omega) (by omega))).up (q := fun k => feluccalaw13_places.j1 k s s (i : Int) true = some true) (fun k hk => ?_)).up (fun k hk => ?_)
    · simp only [feluccalaw13_places.j1]
      rw [if_pos trivial, if_pos (by omega), if_pos (by omega), if_pos (by omega), rd_at, hk.1, Option.bind_some, if_pos (cmpR_refl _), wrap_up (by omega) (by omega)]
      exact hk.2
    · simp only [feluccalaw13_places.l0]
      rw [if_pos (by omega), show decide ((i : Int) < (s.length : Int)) = true from decide_eq_true (by omega)]
      exact hk
theorem mem_sort {l : List S25} {x : S25} (h : x ∈ sortR l) : x ∈ l := by
  obtain ⟨a, b, e, _⟩ := (sortR_is l).first x h
  rw [e]; simp
theorem len_ins (x : S25) : ∀ r : List S25, (ins x r).length ≤ r.length + 1
  | [] => Nat.le_refl _
  | y :: ys => by
    unfold ins
    have := len_ins x ys
    split
    · simp
    · split
      · simp
      · simp; omega
theorem len_sort (l : List S25) : (sortR l).length ≤ l.length := by
  have : ∀ (l r : List S25), (l.foldl (fun r x => ins x r) r).length ≤ r.length + l.length := by
    intro l
    induction l with
    | nil => intro r; simp
    | cons x xs ih =>
      intro r
      have h1 := ih (ins x r)
      have h2 := len_ins x r
      simp only [List.foldl_cons, List.length_cons]
      omega
  have := this l []
  show (l.foldl (fun r x => ins x r) []).length ≤ _
  simpa using this
section
variable {l : List S25} (hf : few l) (most : Int) (h0 : 0 ≤ most)
include hf h0
theorem ins_end : Ev (fun k => feluccalaw13_OrderInserts.l0 k l most true ((sortR l).take most.toNat) (l.length : Int) = some true) := by
  have h1 := len_sort l
  have h2 := hf.1
  have hs : ∀ x, x ∈ sortR l → x.f0.length < 1000 := fun x hx => by have := hf.mem x (mem_sort hx); omega
  have hp := places_refl ((sortR l).take most.toNat) (by rw [List.length_take]; omega) (fun x hx => hs x (List.mem_of_mem_take hx)) _ 0 (by omega) rfl
  refine hp.up (fun k hk => ?_)
  simp only [feluccalaw13_OrderInserts.l0]
  have hk : feluccalaw13_places.f k ((sortR l).take most.toNat) ((sortR l).take most.toNat) = some true := hk
  rw [if_neg (by omega)]
  unfold order_Sort.f
  rw [if_pos hf.ok, Option.bind_some]
  by_cases g : most < ((sortR l).length : Int)
  · rw [if_pos g, if_pos trivial, if_pos (by rw [List.length_take]; omega), if_pos h0, if_pos (by omega), hk]; rfl
  · have e : (sortR l).take most.toNat = sortR l := List.take_of_length_le (by omega)
    rw [if_neg g, if_pos trivial, if_pos (by rw [List.length_take]; omega), if_pos (by omega), if_pos (by omega), Int.toNat_natCast, List.take_length]
    rw [e] at hk ⊢
    rw [hk]; rfl
theorem ins_ev : ∀ (d i : Nat), i ≤ l.length → l.length - i = d → Ev (fun k => feluccalaw13_OrderInserts.l0 k l most true ((sortR (l.take i)).take most.toNat) (i : Int) = some true)
  | 0, i, hi, hd => by
    obtain rfl : i = l.length := by omega
    rw [List.take_length]
    exact ins_end hf most h0
  | d + 1, i, hi, hd => by
    have h2 := hf.1
    have hil : i < l.length := by omega
    have hl := len_sort (l.take i)
    rw [List.length_take] at hl
    have hs : ∀ x, x ∈ (sortR (l.take i)).take most.toNat → x.f0.length < 1000 := fun x hx => by have := hf.mem x (List.mem_of_mem_take (mem_sort (List.mem_of_mem_take hx))); omega
    have hi2 := insert_is ((sortR (l.take i)).take most.toNat) (at' l i) most h0 (by rw [List.length_take]; omega) hs (by have := hf.2 i hil; omega)
    have e : (sortR ((sortR (l.take i)).take most.toNat ++ [at' l i])).take most.toNat = (sortR (l.take (i + 1))).take most.toNat := by
      have e1 := at_mem l i hil
      rw [List.getElem?_eq_getElem hil] at e1
      rw [sort_snoc, sort_rise ((sortR_is (l.take i)).rise.sublist (List.take_sublist _ _)), take_ins, List.take_succ_eq_append_getElem hil, Option.some.inj e1, sort_snoc]
    refine (ins_ev d (i + 1) (by omega) (by omega)).up (fun k hk => ?_)
    simp only [feluccalaw13_OrderInserts.l0]
    rw [if_pos (by omega), if_pos (by omega), rd_at, hi2, Option.bind_some, wrap_up (by omega) (by omega), e]
    exact hk
end
theorem inserts_ev (l : List S25) (most : Int) : Ev (fun k => feluccalaw13_OrderInserts.f k l most = some true) := by
  obtain ⟨b, hb, hf⟩ := few_is l
  have hj : ∀ b, Ev (fun k => feluccalaw13_OrderInserts.j0 k l most b true = some b) := fun b => Ev.up (p := fun _ => True) (Ev.now (fun _ => trivial)) (fun k _ => by simp only [feluccalaw13_OrderInserts.j0]; rw [if_pos trivial])
  cases b with
  | false =>
    refine (hb.and (hj true)).same (fun k hk => ?_)
    unfold feluccalaw13_OrderInserts.f feluccalaw13_small.f
    rw [Option.bind_some, hk.1, Option.bind_some, if_neg (by simp)]
    exact hk.2
  | true =>
    have hf := hf rfl
    by_cases g : most < 0
    · refine (hb.and (hj true)).same (fun k hk => ?_)
      unfold feluccalaw13_OrderInserts.f feluccalaw13_small.f
      rw [Option.bind_some, hk.1, Option.bind_some, if_pos rfl, show decide (most < 0) = true from decide_eq_true g]
      exact hk.2
    · have h := (ins_ev hf most (by omega) _ 0 (by omega) rfl).up (q := fun k => feluccalaw13_OrderInserts.j0 k l most true false = some true) (fun k hk => by
        simp only [feluccalaw13_OrderInserts.j0]
        rw [if_neg (by simp)]
        simpa [sortR] using hk)
      refine (hb.and h).same (fun k hk => ?_)
      unfold feluccalaw13_OrderInserts.f feluccalaw13_small.f
      rw [Option.bind_some, hk.1, Option.bind_some, if_pos rfl, show decide (most < 0) = false from decide_eq_false g]
      exact hk.2
theorem inserts_any (A0 : Option Addr) (c0 : Nat) (l0 : List S25) (a1 : Int) (w : World) (hr0 : Kd.C k25 w A0 l0.length l0) (hc0 : l0.length ≤ c0) : Calls Try.prog 6 #[.slice A0 l0.length c0, .int .i64 a1] w fun e w' => e = .returned (.bool true) ∧ Below w.heap.size w w' := by
  obtain ⟨k, hk⟩ := inserts_ev l0 a1
  exact feluccalaw13_OrderInserts.calls k A0 c0 l0 a1 true w hr0 hc0 (hk k (Nat.le_refl _))
end Go.Proofs.Ytladdncfhjjppaa.PA
