import Derived.Test.YtladdncfhjjppaaPAx3
namespace Go.Proofs.Ytladdncfhjjppaa.PA
open Go.RowKit Go.Proofs.YtladdncfhjjppaaW.PrintWords Go.Proofs.YtladdncfhjjppaaW.PrintLast Go.Proofs.YtladdncfhjjppaaW.PrintMore
set_option linter.unusedVariables false

/-- Which number is less. -/
def c3 (a b : Int) : Int := if a < b then -1 else if a > b then 1 else 0
/-- Which row of numbers is. -/
def lexI : List Int → List Int → Int
  | [], [] => 0
  | [], _ :: _ => -1
  | _ :: _, [] => 1
  | x :: xs, y :: ys => if c3 x y = 0 then lexI xs ys else c3 x y
def or2 (a b : Int) : Int := if a = 0 then b else a
/-- Which route is better. -/
def cmpR (x y : S25) : Int := or2 (or2 (c3 x.f1 y.f1) (c3 (x.f0.length : Int) (y.f0.length : Int))) (lexI (x.f0.map (·.f0)) (y.f0.map (·.f0)))

theorem c3_anti (a b : Int) : c3 b a = - c3 a b := by unfold c3; split <;> split <;> (try split) <;> (try split) <;> omega
theorem c3_zero (a b : Int) : c3 a b = 0 ↔ a = b := by unfold c3; constructor <;> intro h <;> (repeat' split at *) <;> omega
theorem c3_rng (a b : Int) : -1 ≤ c3 a b ∧ c3 a b ≤ 1 := by unfold c3; split <;> (try split) <;> omega
theorem c3_neg (a b : Int) : c3 a b < 0 ↔ a < b := by unfold c3; constructor <;> intro h <;> (repeat' split at *) <;> omega
theorem lexI_anti : ∀ a b : List Int, lexI b a = - lexI a b
  | [], [] => rfl
  | [], _ :: _ => rfl
  | _ :: _, [] => rfl
  | x :: xs, y :: ys => by
    have h := c3_anti x y
    unfold lexI
    rw [h]
    by_cases e : c3 x y = 0
    · rw [if_pos (by omega), if_pos e]; exact lexI_anti xs ys
    · rw [if_neg (by omega), if_neg e]
theorem lexI_rng : ∀ a b : List Int, -1 ≤ lexI a b ∧ lexI a b ≤ 1
  | [], [] => by decide
  | [], _ :: _ => by unfold lexI; omega
  | _ :: _, [] => by unfold lexI; omega
  | x :: xs, y :: ys => by
    unfold lexI
    split
    · exact lexI_rng xs ys
    · exact c3_rng x y
theorem lexI_refl : ∀ a : List Int, lexI a a = 0
  | [] => rfl
  | x :: xs => by unfold lexI; rw [if_pos ((c3_zero x x).2 rfl)]; exact lexI_refl xs
theorem lexI_eq : ∀ a b : List Int, lexI a b = 0 → a = b
  | [], [], _ => rfl
  | [], _ :: _, h => by unfold lexI at h; omega
  | _ :: _, [], h => by unfold lexI at h; omega
  | x :: xs, y :: ys, h => by
    unfold lexI at h
    split at h
    · rename_i e
      rw [(c3_zero x y).1 e, lexI_eq xs ys h]
    · contradiction
theorem lexI_trans : ∀ a b c : List Int, lexI a b ≤ 0 → lexI b c ≤ 0 → lexI a c ≤ 0
  | [], _, [], _, _ => by unfold lexI; omega
  | [], _, _ :: _, _, _ => by unfold lexI; omega
  | _ :: _, [], _, h, _ => by unfold lexI at h; omega
  | _ :: _, _ :: _, [], _, h => by unfold lexI at h; omega
  | x :: xs, y :: ys, z :: zs, h1, h2 => by
    have ih := lexI_trans xs ys zs
    have n1 := c3_neg x y
    have n2 := c3_neg y z
    have n3 := c3_neg x z
    have e1 := c3_zero x y
    have e2 := c3_zero y z
    have e3 := c3_zero x z
    unfold lexI at h1 h2 ⊢
    split at h1 <;> split at h2 <;> split <;> first | omega | (exact ih h1 h2)
theorem cmpR_anti (x y : S25) : cmpR y x = - cmpR x y := by
  unfold cmpR or2
  have h1 := c3_anti x.f1 y.f1
  have h2 := c3_anti (x.f0.length : Int) (y.f0.length : Int)
  have h3 := lexI_anti (x.f0.map (·.f0)) (y.f0.map (·.f0))
  rw [h1, h2, h3]
  by_cases e1 : c3 x.f1 y.f1 = 0
  · rw [if_pos (show - c3 x.f1 y.f1 = 0 by omega), if_pos e1]
    by_cases e2 : c3 (x.f0.length : Int) (y.f0.length : Int) = 0
    · rw [if_pos (show - c3 (x.f0.length : Int) (y.f0.length : Int) = 0 by omega), if_pos e2]
    · rw [if_neg (show ¬ - c3 (x.f0.length : Int) (y.f0.length : Int) = 0 by omega), if_neg e2]
  · rw [if_neg (show ¬ - c3 x.f1 y.f1 = 0 by omega), if_neg e1, if_neg (show ¬ - c3 x.f1 y.f1 = 0 by omega), if_neg e1]
theorem cmpR_rng (x y : S25) : -1 ≤ cmpR x y ∧ cmpR x y ≤ 1 := by
  unfold cmpR or2
  have h1 := c3_rng x.f1 y.f1
  have h2 := c3_rng (x.f0.length : Int) (y.f0.length : Int)
  have h3 := lexI_rng (x.f0.map (·.f0)) (y.f0.map (·.f0))
  repeat' split
  all_goals omega
theorem cmpR_refl (x : S25) : cmpR x x = 0 := by
  have := cmpR_anti x x
  omega
theorem cmpR_trans (x y z : S25) (h1 : cmpR x y ≤ 0) (h2 : cmpR y z ≤ 0) : cmpR x z ≤ 0 := by
  have ih := lexI_trans (x.f0.map (·.f0)) (y.f0.map (·.f0)) (z.f0.map (·.f0))
  have a1 := c3_neg x.f1 y.f1
  have a2 := c3_neg y.f1 z.f1
  have a3 := c3_neg x.f1 z.f1
  have a4 := c3_zero x.f1 y.f1
  have a5 := c3_zero y.f1 z.f1
  have a6 := c3_zero x.f1 z.f1
  have b1 := c3_neg (x.f0.length : Int) (y.f0.length : Int)
  have b2 := c3_neg (y.f0.length : Int) (z.f0.length : Int)
  have b3 := c3_neg (x.f0.length : Int) (z.f0.length : Int)
  have b4 := c3_zero (x.f0.length : Int) (y.f0.length : Int)
  have b5 := c3_zero (y.f0.length : Int) (z.f0.length : Int)
  have b6 := c3_zero (x.f0.length : Int) (z.f0.length : Int)
  unfold cmpR or2 at *
  generalize c3 x.f1 y.f1 = A1 at *
  generalize c3 y.f1 z.f1 = A2 at *
  generalize c3 x.f1 z.f1 = A3 at *
  generalize c3 (x.f0.length : Int) (y.f0.length : Int) = B1 at *
  generalize c3 (y.f0.length : Int) (z.f0.length : Int) = B2 at *
  generalize c3 (x.f0.length : Int) (z.f0.length : Int) = B3 at *
  generalize lexI (x.f0.map (·.f0)) (y.f0.map (·.f0)) = C1 at *
  generalize lexI (y.f0.map (·.f0)) (z.f0.map (·.f0)) = C2 at *
  generalize lexI (x.f0.map (·.f0)) (z.f0.map (·.f0)) = C3 at *
  by_cases e1 : A1 = 0 <;> by_cases e2 : A2 = 0 <;> by_cases e3 : A3 = 0 <;> by_cases g1 : B1 = 0 <;> by_cases g2 : B2 = 0 <;> by_cases g3 : B3 = 0 <;> simp only [e1, e2, e3, g1, g2, g3, if_true, if_false] at h1 h2 ⊢ <;> omega

theorem wrap_up {i : Int} (h0 : 0 ≤ i) (h : i < 9223372036854775807) : wrap64 (i + 1) = i + 1 := by unfold wrap64; omega
theorem or_two (k : Nat) (a b : Int) : cmp_Or_int.f (k + 3) [a, b] = some (or2 a b) := by
  unfold cmp_Or_int.f or2
  simp only [cmp_Or_int.l0]
  rw [if_pos (by simp), if_pos (by omega), if_pos (by simp)]
  rw [show rd [a, b] 0 = a from rfl]
  by_cases e : a = 0
  · rw [if_pos e, if_pos e, wrap_up (by omega) (by omega)]
    rw [if_pos (by simp), if_pos (by omega), if_pos (by simp)]
    rw [show rd [a, b] (0 + 1) = b from rfl]
    by_cases e2 : b = 0
    · rw [if_pos e2, wrap_up (by omega) (by omega), if_neg (by simp), e2]
    · rw [if_neg e2]
  · rw [if_neg e, if_neg e]
theorem cmp_one (a b : Int) : cmp_Compare_int.f a b = some (c3 a b) := by
  unfold cmp_Compare_int.f cmp_isNaN_int.f c3
  simp only [Option.bind_some, bne_self_eq_false, Bool.false_eq_true, if_false]
  repeat' split
  all_goals first | rfl | omega
theorem ids_from (l : List S34) (hl : l.length < 17592186044416) (d : Nat) : ∀ (k i : Nat), i ≤ l.length → l.length - i = d → d < k → path_IDs.l0 k ((l.take i).map (·.f0)) l (l.length : Int) (i : Int) = some (l.map (·.f0)) := by
  induction d with
  | zero =>
    intro k i hi hd hk
    obtain ⟨k, rfl⟩ : ∃ m, k = m + 1 := ⟨k - 1, by omega⟩
    simp only [path_IDs.l0]
    rw [if_neg (by omega), List.take_of_length_le (by omega)]
  | succ d ih =>
    intro k i hi hd hk
    obtain ⟨k, rfl⟩ : ∃ m, k = m + 1 := ⟨k - 1, by omega⟩
    simp only [path_IDs.l0]
    rw [if_pos (by omega), if_pos (by omega), if_pos (by omega), if_pos (by simp; omega), wrap_up (by omega) (by omega)]
    have h := ih k (i + 1) (by omega) (by omega) (by omega)
    rw [List.take_succ_eq_append_getElem (by omega), List.map_append] at h
    have e : rd_T34 l (i : Int) = l[i]'(by omega) := by
      unfold rd_T34
      rw [Int.toNat_natCast, List.getD_eq_getElem?_getD, List.getElem?_eq_getElem (by omega)]; rfl
    rw [e]
    exact h
theorem ids_all (l : List S34) (a : Int) (k : Nat) (hl : l.length < 17592186044416) (hk : l.length < k) : path_IDs.f k l a = some (l.map (·.f0)) := ids_from l hl l.length k 0 (by omega) (by omega) hk
theorem lex_from (a b : List Int) (ha : a.length < 17592186044416) (d : Nat) : ∀ (k i : Nat), i ≤ a.length → i ≤ b.length → a.length - i = d → d < k → slices_Compare_int_int.l0 k a b a (a.length : Int) (i : Int) = some (lexI (a.drop i) (b.drop i)) := by
  induction d with
  | zero =>
    intro k i hi hib hd hk
    obtain ⟨k, rfl⟩ : ∃ m, k = m + 1 := ⟨k - 1, by omega⟩
    simp only [slices_Compare_int_int.l0]
    rw [if_neg (by omega), List.drop_eq_nil_of_le (by omega)]
    by_cases e : a.length < b.length
    · rw [if_pos (by omega), List.drop_eq_getElem_cons (by omega)]; rfl
    · rw [if_neg (by omega), List.drop_eq_nil_of_le (by omega)]; rfl
  | succ d ih =>
    intro k i hi hib hd hk
    obtain ⟨k, rfl⟩ : ∃ m, k = m + 1 := ⟨k - 1, by omega⟩
    simp only [slices_Compare_int_int.l0]
    rw [if_pos (by omega), if_pos (by omega), if_pos (by omega)]
    have e : ∀ (l : List Int) (h : i < l.length), rd l (i : Int) = l[i] := fun l h => by
      unfold rd
      rw [Int.toNat_natCast, List.getD_eq_getElem?_getD, List.getElem?_eq_getElem h]; rfl
    by_cases g : i < b.length
    · rw [if_neg (by omega), if_pos (by omega), cmp_one, e a (by omega), e b g, Option.bind_some]
      rw [List.drop_eq_getElem_cons (show i < a.length by omega), List.drop_eq_getElem_cons g]
      show _ = some (if c3 a[i] b[i] = 0 then lexI (a.drop (i + 1)) (b.drop (i + 1)) else c3 a[i] b[i])
      by_cases z : c3 a[i] b[i] = 0
      · rw [if_pos z, if_pos z, wrap_up (by omega) (by omega)]
        exact ih k (i + 1) (by omega) (by omega) (by omega) (by omega)
      · rw [if_neg z, if_neg z]
    · rw [if_pos (by omega), List.drop_eq_getElem_cons (show i < a.length by omega), List.drop_eq_nil_of_le (show b.length ≤ i by omega)]; rfl
theorem compare_is (x y : S25) (k : Nat) (hx : x.f0.length < 17592186044416) (hy : y.f0.length < 17592186044416) (h1 : x.f0.length < k) (h2 : y.f0.length < k) (h3 : 3 ≤ k) : order_Compare.f k x.f0 x.f1 y.f0 y.f1 = some (cmpR x y) := by
  obtain ⟨k', rfl⟩ : ∃ m, k = m + 3 := ⟨k - 3, by omega⟩
  unfold order_Compare.f cmpR
  rw [cmp_one, cmp_one]
  simp only [Option.bind_some]
  rw [or_two]
  simp only [Option.bind_some]
  rw [ids_all x.f0 x.f1 _ hx h1, ids_all y.f0 y.f1 _ hy h2]
  simp only [Option.bind_some]
  have h := lex_from (x.f0.map (·.f0)) (y.f0.map (·.f0)) (by simpa using hx) x.f0.length (k' + 3) 0 (by omega) (by omega) (by simp) (by omega)
  have h' : slices_Compare_int_int.f (k' + 3) (x.f0.map (·.f0)) (y.f0.map (·.f0)) = some (lexI (x.f0.map (·.f0)) (y.f0.map (·.f0))) := h
  rw [h']
  simp only [Option.bind_some]
  rw [or_two]
  rfl
end Go.Proofs.Ytladdncfhjjppaa.PA
