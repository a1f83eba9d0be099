import Derived.Test.YtladdncfhjjppaaHCmp
namespace Go.Proofs.Ytladdncfhjjppaa.PA
open Go.RowKit Go.Proofs.YtladdncfhjjppaaW.PrintWords
set_option linter.unusedVariables false

/-- A route at its place, if none is there. -/
def ins (x : S25) : List S25 → List S25
  | [] => [x]
  | y :: ys => if cmpR x y < 0 then x :: y :: ys else if cmpR x y = 0 then y :: ys else y :: ins x ys
/-- Routes in order, of each place the first. -/
def sortR (l : List S25) : List S25 := l.foldl (fun r x => ins x r) []
/-- What is sorted: it rises; each is the first of its place; each place is there. -/
structure IsSort (l r : List S25) : Prop where
  rise : r.Pairwise (fun x y => cmpR x y < 0)
  first : ∀ y, y ∈ r → ∃ a b, l = a ++ y :: b ∧ ∀ z, z ∈ a → cmpR z y ≠ 0
  cover : ∀ x, x ∈ l → ∃ y, y ∈ r ∧ cmpR y x = 0

theorem cmpR_sym0 {x y : S25} (h : cmpR x y = 0) : cmpR y x = 0 := by have := cmpR_anti x y; omega
theorem cmpR_eq_trans {x y z : S25} (h1 : cmpR x y = 0) (h2 : cmpR y z = 0) : cmpR x z = 0 := by
  have a := cmpR_trans x y z (by omega) (by omega)
  have b := cmpR_trans z y x (by have := cmpR_anti y z; omega) (by have := cmpR_anti x y; omega)
  have := cmpR_anti x z
  omega
theorem cmpR_lt_trans {x y z : S25} (h1 : cmpR x y < 0) (h2 : cmpR y z ≤ 0) : cmpR x z < 0 := by
  have a := cmpR_trans x y z (by omega) h2
  rcases Int.lt_or_eq_of_le a with h | h
  · exact h
  · exfalso
    have b := cmpR_trans y z x h2 (by have := cmpR_anti x z; omega)
    have := cmpR_anti x y
    omega
theorem cmpR_le_lt {x y z : S25} (h1 : cmpR x y ≤ 0) (h2 : cmpR y z < 0) : cmpR x z < 0 := by
  have a := cmpR_trans x y z h1 (by omega)
  rcases Int.lt_or_eq_of_le a with h | h
  · exact h
  · exfalso
    have b := cmpR_trans z x y (by have := cmpR_anti x z; omega) h1
    have := cmpR_anti y z
    omega
theorem mem_ins (x : S25) : ∀ (r : List S25) (y : S25), y ∈ ins x r → y = x ∨ y ∈ r
  | [], y, h => by simp [ins] at h; exact .inl h
  | z :: zs, y, h => by
    unfold ins at h
    split at h
    · simpa using h
    · split at h
      · exact .inr h
      · simp at h
        rcases h with h | h
        · exact .inr (by simp [h])
        · rcases mem_ins x zs y h with h | h
          · exact .inl h
          · exact .inr (by simp [h])
theorem ins_old (x : S25) : ∀ (r : List S25) (y : S25), y ∈ r → y ∈ ins x r
  | z :: zs, y, h => by
    unfold ins
    split
    · simp at h ⊢; exact .inr h
    · split
      · exact h
      · simp at h ⊢
        rcases h with h | h
        · exact .inl h
        · exact .inr (ins_old x zs y h)
theorem ins_has (x : S25) : ∀ (r : List S25), ∃ y, y ∈ ins x r ∧ cmpR y x = 0
  | [] => ⟨x, by simp [ins], cmpR_refl x⟩
  | z :: zs => by
    unfold ins
    split
    · exact ⟨x, by simp, cmpR_refl x⟩
    · split
      · rename_i h; exact ⟨z, by simp, cmpR_sym0 h⟩
      · obtain ⟨y, h1, h2⟩ := ins_has x zs
        exact ⟨y, by simp [h1], h2⟩
/-- A new one is in only where no other is at its place. -/
theorem ins_new (x : S25) : ∀ (r : List S25), r.Pairwise (fun x y => cmpR x y < 0) → x ∈ ins x r → x ∈ r ∨ ∀ y, y ∈ r → cmpR y x ≠ 0
  | [], _, _ => .inr (fun y h => by simp at h)
  | z :: zs, hp, h => by
    unfold ins at h
    rw [List.pairwise_cons] at hp
    split at h
    · rename_i g
      refine .inr (fun y hy e => ?_)
      simp at hy
      rcases hy with rfl | hy
      · have := cmpR_sym0 e; omega
      · have := cmpR_lt_trans g (Int.le_of_lt (hp.1 y hy))
        have := cmpR_sym0 e; omega
    · split at h
      · exact .inl h
      · rename_i g1 g2
        simp at h
        rcases h with h | h
        · exact .inl (by simp [h])
        · rcases ins_new x zs hp.2 h with h | h
          · exact .inl (by simp [h])
          · refine .inr (fun y hy e => ?_)
            simp at hy
            rcases hy with rfl | hy
            · exact g2 (cmpR_sym0 e)
            · exact h y hy e
theorem ins_rise (x : S25) : ∀ (r : List S25), r.Pairwise (fun x y => cmpR x y < 0) → (ins x r).Pairwise (fun x y => cmpR x y < 0)
  | [], _ => by simp [ins]
  | z :: zs, hp => by
    have hp0 := hp
    unfold ins
    rw [List.pairwise_cons] at hp
    split
    · rename_i g
      rw [List.pairwise_cons]
      refine ⟨fun y hy => ?_, hp0⟩
      simp at hy
      rcases hy with rfl | hy
      · exact g
      · exact cmpR_lt_trans g (Int.le_of_lt (hp.1 y hy))
    · split
      · exact hp0
      · rename_i g1 g2
        rw [List.pairwise_cons]
        refine ⟨fun y hy => ?_, ins_rise x zs hp.2⟩
        rcases mem_ins x zs y hy with rfl | hy
        · have := cmpR_anti z y; omega
        · exact hp.1 y hy
theorem IsSort.snoc {l r : List S25} (h : IsSort l r) (x : S25) : IsSort (l ++ [x]) (ins x r) := by
  refine ⟨ins_rise x r h.rise, fun y hy => ?_, fun y hy => ?_⟩
  · by_cases hr : y ∈ r
    · obtain ⟨a, b, e, ha⟩ := h.first y hr
      exact ⟨a, b ++ [x], by rw [e]; simp, ha⟩
    · rcases mem_ins x r y hy with rfl | h2
      · rcases ins_new y r h.rise hy with h3 | h3
        · exact absurd h3 hr
        · refine ⟨l, [], rfl, fun z hz e => ?_⟩
          obtain ⟨u, hu, e2⟩ := h.cover z hz
          exact h3 u hu (cmpR_eq_trans e2 e)
      · exact absurd h2 hr
  · simp at hy
    rcases hy with hy | rfl
    · obtain ⟨u, hu, e⟩ := h.cover y hy
      exact ⟨u, ins_old x r u hu, e⟩
    · exact ins_has y r
theorem sortR_is (l : List S25) : IsSort l (sortR l) := by
  unfold sortR
  have h : ∀ (l2 l1 r : List S25), IsSort l1 r → IsSort (l1 ++ l2) (l2.foldl (fun r x => ins x r) r) := by
    intro l2
    induction l2 with
    | nil => intro l1 r h; simpa using h
    | cons x xs ih =>
      intro l1 r h
      have := ih (l1 ++ [x]) (ins x r) (h.snoc x)
      simpa using this
  simpa using h l [] [] ⟨List.Pairwise.nil, fun y hy => by simp at hy, fun x hx => by simp at hx⟩
/-- The first of a place is one alone. -/
theorem first_one {l a b a' b' : List S25} {y y' : S25} (h : l = a ++ y :: b) (h' : l = a' ++ y' :: b') (ha : ∀ z, z ∈ a → cmpR z y ≠ 0) (ha' : ∀ z, z ∈ a' → cmpR z y' ≠ 0) (e : cmpR y y' = 0) : y = y' := by
  have hq : a ++ y :: b = a' ++ y' :: b' := h.symm.trans h'
  rcases Nat.lt_trichotomy a.length a'.length with hl | hl | hl
  · exfalso
    have : y ∈ a' := by
      have h1 : (a ++ y :: b)[a.length]? = some y := by simp
      rw [hq, List.getElem?_append_left hl] at h1
      exact List.mem_of_getElem? h1
    exact ha' y this e
  · have h1 : (a ++ y :: b)[a.length]? = some y := by simp
    rw [hq, hl] at h1
    simp at h1
    exact h1.symm
  · exfalso
    have : y' ∈ a := by
      have h1 : (a' ++ y' :: b')[a'.length]? = some y' := by simp
      rw [← hq, List.getElem?_append_left hl] at h1
      exact List.mem_of_getElem? h1
    exact ha y' this (cmpR_sym0 e)
theorem rise_eq : ∀ (r r' : List S25), r.Pairwise (fun x y => cmpR x y < 0) → r'.Pairwise (fun x y => cmpR x y < 0) → (∀ y, y ∈ r ↔ y ∈ r') → r = r'
  | [], [], _, _, _ => rfl
  | [], y :: _, _, _, h => by have := (h y).2 (by simp); simp at this
  | y :: _, [], _, _, h => by have := (h y).1 (by simp); simp at this
  | x :: xs, y :: ys, h1, h2, h => by
    rw [List.pairwise_cons] at h1 h2
    have e : x = y := by
      have a := (h x).1 (by simp)
      have b := (h y).2 (by simp)
      simp at a b
      rcases a with a | a
      · exact a
      · rcases b with b | b
        · exact b.symm
        · have c1 := h2.1 x a
          have c2 := h1.1 y b
          have := cmpR_anti x y
          omega
    subst e
    rw [rise_eq xs ys h1.2 h2.2 (fun z => ?_)]
    have hz := h z
    simp at hz
    constructor
    · intro k
      rcases hz.1 (.inr k) with g | g
      · subst g; have := h1.1 z k; have := cmpR_refl z; omega
      · exact g
    · intro k
      rcases hz.2 (.inr k) with g | g
      · subst g; have := h2.1 z k; have := cmpR_refl z; omega
      · exact g
theorem IsSort.one {l r r' : List S25} (h : IsSort l r) (h' : IsSort l r') : r = r' := by
  have key : ∀ {r r' : List S25}, IsSort l r → IsSort l r' → ∀ y, y ∈ r → y ∈ r' := fun {r r'} h h' y hy => by
    obtain ⟨a, b, e, ha⟩ := h.first y hy
    obtain ⟨z, hz, e2⟩ := h'.cover y (by rw [e]; simp)
    obtain ⟨a', b', e', ha'⟩ := h'.first z hz
    rw [first_one e e' ha ha' (cmpR_sym0 e2)]
    exact hz
  exact rise_eq r r' h.rise h'.rise (fun y => ⟨key h h' y, key h' h y⟩)
end Go.Proofs.Ytladdncfhjjppaa.PA
