import Derived.Test.YtladdncfhjjppaaPAx9
import Derived.Test.YtladdncfhjjppaaPAx7
import Derived.Test.YtladdncfhjjppaaHOs
namespace Go.Proofs.Ytladdncfhjjppaa.PA
open Go.RowKit Go.Proofs.YtladdncfhjjppaaW.PrintWords
set_option linter.unusedVariables false

/-- From some number of rounds on. -/
def Ev (p : Nat → Prop) : Prop := ∃ K, ∀ k, K ≤ k → p k
theorem Ev.now {p : Nat → Prop} (h : ∀ k, p k) : Ev p := ⟨0, fun k _ => h k⟩
theorem Ev.up {p q : Nat → Prop} (h : Ev p) (hq : ∀ k, p k → q (k + 1)) : Ev q := by
  obtain ⟨K, h⟩ := h
  refine ⟨K + 1, fun k hk => ?_⟩
  obtain ⟨j, rfl⟩ : ∃ j, k = j + 1 := ⟨k - 1, by omega⟩
  exact hq j (h j (by omega))
theorem Ev.same {p q : Nat → Prop} (h : Ev p) (hq : ∀ k, p k → q k) : Ev q := by
  obtain ⟨K, h⟩ := h
  exact ⟨K, fun k hk => hq k (h k hk)⟩
theorem Ev.and {p q : Nat → Prop} (h : Ev p) (g : Ev q) : Ev (fun k => p k ∧ q k) := by
  obtain ⟨K, h⟩ := h
  obtain ⟨J, g⟩ := g
  exact ⟨K + J, fun k hk => ⟨h k (by omega), g k (by omega)⟩⟩

theorem rd_at (l : List S25) (i : Nat) : rd_T25 l (i : Int) = at' l i := by unfold rd_T25; rw [Int.toNat_natCast]
/-- Few and short. -/
def few (l : List S25) : Prop := l.length ≤ 50 ∧ ∀ i, i < l.length → (at' l i).f0.length ≤ 50
theorem few_from (l : List S25) : ∀ (d i : Nat), i ≤ 50 → 50 - i = d → (∀ j, j < i → j < l.length → (at' l j).f0.length ≤ 50) → ∃ b, Ev (fun k => feluccalaw13_Few.l0 k l (i : Int) = some b) ∧ (b = true → few l)
  | 0, i, hi, hd, hp => by
    refine ⟨decide ((l.length : Int) ≤ 50), ⟨2, fun k hk => ?_⟩, fun h => ⟨by have := of_decide_eq_true h; omega, fun j hj => hp j (by have := of_decide_eq_true h; omega) hj⟩⟩
    obtain ⟨j, rfl⟩ : ∃ j, k = j + 2 := ⟨k - 2, by omega⟩
    simp only [feluccalaw13_Few.l0, feluccalaw13_Few.j1]
    by_cases g : (i : Int) < (l.length : Int)
    · rw [if_pos g, if_neg (by simp; omega)]
    · rw [if_neg g, if_neg (by simp)]
  | d + 1, i, hi, hd, hp => by
    by_cases g : i < l.length
    · by_cases h : (at' l i).f0.length ≤ 50
      · obtain ⟨b, hb, hf⟩ := few_from l d (i + 1) (by omega) (by omega) (fun j hj hl => by
          by_cases e : j = i
          · rw [e]; exact h
          · exact hp j (by omega) hl)
        refine ⟨b, (hb.up (q := fun k => feluccalaw13_Few.j1 k l (i : Int) true = some b) (fun k hk => ?_)).up (fun k hk => ?_), hf⟩
        · simp only [feluccalaw13_Few.j1]
          rw [if_pos trivial, if_pos (by omega), if_pos (by omega), rd_at, if_neg (by omega), wrap_up (by omega) (by omega)]
          exact hk
        · simp only [feluccalaw13_Few.l0]
          rw [if_pos (by omega), show decide ((i : Int) < 50) = true from decide_eq_true (by omega)]
          exact hk
      · refine ⟨false, ⟨2, fun k hk => ?_⟩, fun h => by cases h⟩
        obtain ⟨j, rfl⟩ : ∃ j, k = j + 2 := ⟨k - 2, by omega⟩
        simp only [feluccalaw13_Few.l0, feluccalaw13_Few.j1]
        rw [if_pos (by omega), if_pos (by simp; omega), if_pos (by omega), if_pos (by omega), rd_at, if_pos (by omega)]
    · refine ⟨decide ((l.length : Int) ≤ 50), ⟨2, fun k hk => ?_⟩, fun h => ⟨by have := of_decide_eq_true h; omega, fun j hj => hp j (by omega) hj⟩⟩
      obtain ⟨j, rfl⟩ : ∃ j, k = j + 2 := ⟨k - 2, by omega⟩
      simp only [feluccalaw13_Few.l0, feluccalaw13_Few.j1]
      rw [if_neg (by omega), if_neg (by simp)]
theorem few_is (l : List S25) : ∃ b, Ev (fun k => feluccalaw13_Few.f k l = some b) ∧ (b = true → few l) := few_from l 50 0 (by omega) (by omega) (fun j hj => by omega)
theorem few.mem {l : List S25} (h : few l) : ∀ x, x ∈ l → x.f0.length ≤ 50 := fun x hx => by
  obtain ⟨i, hi, e⟩ := List.getElem_of_mem hx
  have := h.2 i hi
  have e2 := at_mem l i hi
  rw [List.getElem?_eq_getElem hi, e] at e2
  rw [Option.some.inj e2]; exact this
theorem few.ok {l : List S25} (h : few l) : okR l = true := by
  unfold okR
  have := h.1
  simp only [Bool.and_eq_true, decide_eq_true_eq, List.all_eq_true]
  exact ⟨by omega, fun x hx => by have := h.mem x hx; omega⟩
theorem few.at {l : List S25} (h : few l) (i : Nat) (hi : i < l.length) : (at' l i).f0.length < 17592186044416 := by have := h.2 i hi; omega
theorem cmp_ev (x y : S25) (hx : x.f0.length < 17592186044416) (hy : y.f0.length < 17592186044416) : Ev (fun k => order_Compare.f k x.f0 x.f1 y.f0 y.f1 = some (cmpR x y)) :=
  ⟨x.f0.length + y.f0.length + 3, fun k hk => compare_is x y k hx hy (by omega) (by omega) (by omega)⟩

/-! Two routes are. -/
theorem rd34_at (l : List S34) (i : Nat) : rd_T34 l (i : Int) = l.getD i z34 := by unfold rd_T34; rw [Int.toNat_natCast]
theorem hop_from (a b : List S34) (he : a.length = b.length) (hm : a.length < 9223372036854775807) : ∀ (d i : Nat), i ≤ a.length → a.length - i = d → ∃ r, Ev (fun k => api_Hop.l0 k a b (a.length : Int) (i : Int) = some r) ∧ (r = true ↔ a.drop i = b.drop i)
  | 0, i, hi, hd => ⟨true, Ev.up (p := fun _ => True) (Ev.now (fun _ => trivial)) (fun k _ => by simp only [api_Hop.l0]; rw [if_neg (by omega)]), by rw [List.drop_eq_nil_of_le (by omega), List.drop_eq_nil_of_le (by omega)]; simp⟩
  | d + 1, i, hi, hd => by
    have hia : i < a.length := by omega
    have hib : i < b.length := by omega
    obtain ⟨r, hr, hrr⟩ := hop_from a b he hm d (i + 1) (by omega) (by omega)
    have ea : rd_T34 a (i : Int) = a[i] := by rw [rd34_at, List.getD_eq_getElem?_getD, List.getElem?_eq_getElem hia]; rfl
    have eb : rd_T34 b (i : Int) = b[i] := by rw [rd34_at, List.getD_eq_getElem?_getD, List.getElem?_eq_getElem hib]; rfl
    by_cases e : a[i] = b[i]
    · refine ⟨r, hr.up (fun k hk => ?_), ?_⟩
      · simp only [api_Hop.l0]
        rw [if_pos (by omega), if_pos (by omega), if_pos (by omega), if_pos (by omega), ea, eb, e, if_neg (by simp), wrap_up (by omega) (by omega)]
        exact hk
      · have da : a.drop i = a[i] :: a.drop (i + 1) := List.drop_eq_getElem_cons hia
        have db : b.drop i = b[i] :: b.drop (i + 1) := List.drop_eq_getElem_cons hib
        rw [hrr, da, db, e]
        exact ⟨fun h => by rw [h], fun h => (List.cons.inj h).2⟩
    · refine ⟨false, Ev.up (p := fun _ => True) (Ev.now (fun _ => trivial)) (fun k _ => ?_), ?_⟩
      · simp only [api_Hop.l0]
        rw [if_pos (by omega), if_pos (by omega), if_pos (by omega), if_pos (by omega), ea, eb, if_pos ?_]
        have : ¬ (a[i].f0 = b[i].f0 ∧ a[i].f1 = b[i].f1 ∧ a[i].f2 = b[i].f2) := fun h => e (by
          cases ha : a[i] with | mk p q r => cases hb : b[i] with | mk p' q' r' => rw [ha, hb] at h; simp at h; obtain ⟨h1, h2, h3⟩ := h; rw [h1, h2, h3])
        by_cases h1 : a[i].f0 = b[i].f0
        · by_cases h2 : a[i].f1 = b[i].f1
          · have h3 : a[i].f2 ≠ b[i].f2 := fun h => this ⟨h1, h2, h⟩
            simp [h3]
          · simp [h2]
        · simp [h1]
      · have da : a.drop i = a[i] :: a.drop (i + 1) := List.drop_eq_getElem_cons hia
        have db : b.drop i = b[i] :: b.drop (i + 1) := List.drop_eq_getElem_cons hib
        rw [da, db]
        exact ⟨fun h => (by cases h), fun h => absurd (List.cons.inj h).1 e⟩
theorem same_ev (x y : S25) (hm : x.f0.length < 9223372036854775807) : ∃ r, Ev (fun k => path_Same.f k x.f0 x.f1 y.f0 y.f1 = some r) ∧ (r = true ↔ x = y) := by
  have hxy : x = y ↔ x.f0 = y.f0 ∧ x.f1 = y.f1 := by cases x; cases y; simp
  by_cases h1 : x.f1 = y.f1
  · by_cases hl : x.f0.length = y.f0.length
    · obtain ⟨r, hr, hrr⟩ := hop_from x.f0 y.f0 hl hm _ 0 (by omega) rfl
      refine ⟨r, hr.same (fun k hk => ?_), ?_⟩
      · unfold path_Same.f api_Hop.f
        rw [if_pos h1, if_pos (by omega), show (0 : Int) = ((0 : Nat) : Int) from rfl, hk]
        rfl
      · rw [hrr, hxy]; simp [h1]
    · refine ⟨false, Ev.now (fun k => ?_), ?_⟩
      · unfold path_Same.f api_Hop.f
        rw [if_pos h1, if_neg (by omega)]
        rfl
      · rw [hxy]; simp; intro h; exact absurd (by rw [h]) hl
  · refine ⟨false, Ev.now (fun k => ?_), ?_⟩
    · unfold path_Same.f
      rw [if_neg h1]
    · rw [hxy]; simp; intro _; exact h1
end Go.Proofs.Ytladdncfhjjppaa.PA
