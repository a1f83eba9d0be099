/- What is read as data of a type is a value of a kind: laws for whole numbers, strings, structs, slices of whatever; an argument opened. -/
import Derived.Test.YtladdncfhjjppaaWMore
import Derived.Deep.Slices
set_option linter.unusedVariables false
namespace Go.Proofs.YtladdncfhjjppaaW.XOpen
open Go Go.RowKit Go.Deep Go.ChangeShapes Go.WideShapes Go.Proofs.YtladdncfhjjppaaW.PrintWords

/-- What reads by type t is a value of kind d, and a good one. -/
def Opens {α : Type} (P : Program) (t : TypeId) (d : Kd α) (good : α → Prop) : Prop :=
  ∀ (H : Type) (enc : TypeId × Value → H) (w : World) (fuel : Nat) (cs : List Value) (x : DataW H × List MemPlace), DataW.trod enc P w 0 (fun _ => true) true fuel t cs = some x → ∃ a, d.K w a cs ∧ good a
theorem opens_int {P : Program} {t : TypeId} {k : IntKind} (ht : P.underlying t = some (.int k)) : Opens P t (Kd.int k) (fun n => (Lit.int k n).wf = true) := fun H enc w fuel cs x h => by
  obtain ⟨n, rfl, _, hw⟩ := DataW.trod_int ht h
  exact ⟨n, rfl, hw⟩
theorem opens_slice {α : Type} {P : Program} {t e : TypeId} {d : Kd α} {good : α → Prop} (z : α) (ht : P.underlying t = some (.slice e)) (hs : P.cellsOf e = d.sz) (hd : Opens P e d good) : Opens P t (Kd.slice e d) (fun l => ∀ x, x ∈ l → good x) := fun H enc w fuel cs x h => by
  rcases open_slice ht h with ⟨rfl, _⟩ | ⟨a, len, cap, m, n, D, Pl, rfl, _, hl, hm, hmm, _, hx⟩
  · exact ⟨[], ⟨none, 0, rfl, Nat.le_refl _, rfl, by simp, fun h => absurd h (Nat.lt_irrefl _)⟩, fun x hx => by cases hx⟩
  · haveI : Inhabited α := ⟨z⟩
    have hlm : len ≤ m := by rw [hmm]; split <;> omega
    obtain ⟨f, hf⟩ := choose_lt (α := α) (n := m) (p := fun i p => ∃ c, c.length = d.sz ∧ d.K w p c ∧ good p ∧ ∀ j u, c[j]? = some u → w.cell? (a.add (i * d.sz + j)) = some u) (fun i hi => by
      obtain ⟨cs', h1, h2⟩ := hx i hi
      obtain ⟨p, hp, hg⟩ := hd H enc w n cs' _ h2
      obtain ⟨_, hlen, hcell⟩ := World.cells?_some h1
      refine ⟨p, cs', by rw [hlen, hs], hp, hg, fun j u hj => ?_⟩
      have hj2 : j < P.cellsOf e := by rw [← hlen]; exact (List.getElem?_eq_some_iff.1 hj).1
      have := hcell j hj2
      rw [Go.Deep.add_add, hs] at this
      rw [this, hj])
    have e : ∀ (l : List α) (j : Nat), l = (List.range len).map f → ∀ p, l[j]? = some p → j < len ∧ p = f j := fun l j hl p hj => by
      subst hl
      rw [List.getElem?_map] at hj
      have hjl : j < len := by
        have := List.getElem?_eq_some_iff.1 (Option.map_eq_some_iff.1 hj).choose_spec.1
        simpa using this.1
      rw [List.getElem?_range hjl] at hj
      exact ⟨hjl, (Option.some.inj hj).symm⟩
    have hll : ((List.range len).map f).length = len := by simp
    refine ⟨(List.range len).map f, ⟨some a, cap, by rw [hll], by rw [hll]; exact hl, ?_⟩, fun x hx => ?_⟩
    · refine ⟨rfl, by rw [hll]; unfold maxLen at hm; omega, fun _ => ⟨a, rfl, fun j p hj => ?_⟩⟩
      obtain ⟨hjl, rfl⟩ := e _ j rfl p hj
      obtain ⟨c, c1, c2, _, c4⟩ := hf j (by omega)
      exact ⟨c, c1, c2, c4⟩
    · obtain ⟨j, hj⟩ := List.getElem?_of_mem hx
      obtain ⟨hjl, rfl⟩ := e _ j rfl x hj
      obtain ⟨c, _, _, hg, _⟩ := hf j (by omega)
      exact hg
theorem opens_struct2 {α β : Type} {P : Program} {t : TypeId} {f0 f1 : Field} {a : Kd α} {b : Kd β} {ga : α → Prop} {gb : β → Prop} (ht : P.underlying t = some (.struct #[f0, f1]))
    (ct : P.cellsOf t = a.sz + b.sz) (o0 : f0.offset = 0) (o1 : f1.offset = a.sz) (c0 : P.cellsOf f0.type = a.sz) (c1 : P.cellsOf f1.type = b.sz) (h0 : Opens P f0.type a ga) (h1 : Opens P f1.type b gb) :
    Opens P t (Kd.pair a b) (fun p => ga p.1 ∧ gb p.2) := fun H enc w fuel cs x h => by
  obtain ⟨xs, n, _, _, hlen, hxl, hf⟩ := DataW.trod_struct ht h
  have e0 := hf 0 f0 rfl
  have e1 := hf 1 f1 rfl
  have l2 : xs.length = 2 := by simpa using hxl
  rw [List.getElem?_eq_getElem (by omega)] at e0 e1
  rw [o0, c0, List.drop_zero] at e0
  rw [o1, c1] at e1
  obtain ⟨p, hp, gp⟩ := h0 H enc w n _ _ e0
  obtain ⟨q, hq, gq⟩ := h1 H enc w n _ _ e1
  rw [List.take_of_length_le (by rw [List.length_drop]; omega)] at hq
  exact ⟨(p, q), ⟨cs.take a.sz, cs.drop a.sz, (List.take_append_drop _ _).symm, hp, hq⟩, gp, gq⟩
theorem opens_struct3 {α β γ : Type} {P : Program} {t : TypeId} {f0 f1 f2 : Field} {a : Kd α} {b : Kd β} {c : Kd γ} {ga : α → Prop} {gb : β → Prop} {gc : γ → Prop} (ht : P.underlying t = some (.struct #[f0, f1, f2]))
    (ct : P.cellsOf t = a.sz + (b.sz + c.sz)) (o0 : f0.offset = 0) (o1 : f1.offset = a.sz) (o2 : f2.offset = a.sz + b.sz) (c0 : P.cellsOf f0.type = a.sz) (c1 : P.cellsOf f1.type = b.sz) (c2 : P.cellsOf f2.type = c.sz)
    (h0 : Opens P f0.type a ga) (h1 : Opens P f1.type b gb) (h2 : Opens P f2.type c gc) :
    Opens P t (Kd.pair a (Kd.pair b c)) (fun p => ga p.1 ∧ gb p.2.1 ∧ gc p.2.2) := fun H enc w fuel cs x h => by
  obtain ⟨xs, n, _, _, hlen, hxl, hf⟩ := DataW.trod_struct ht h
  have e0 := hf 0 f0 rfl
  have e1 := hf 1 f1 rfl
  have e2 := hf 2 f2 rfl
  have l2 : xs.length = 3 := by simpa using hxl
  rw [List.getElem?_eq_getElem (by omega)] at e0 e1 e2
  rw [o0, c0, List.drop_zero] at e0
  rw [o1, c1] at e1
  rw [o2, c2] at e2
  obtain ⟨p, hp, gp⟩ := h0 H enc w n _ _ e0
  obtain ⟨q, hq, gq⟩ := h1 H enc w n _ _ e1
  obtain ⟨r, hr, gr⟩ := h2 H enc w n _ _ e2
  rw [List.take_of_length_le (by rw [List.length_drop]; omega)] at hr
  refine ⟨(p, q, r), ⟨cs.take a.sz, cs.drop a.sz, (List.take_append_drop _ _).symm, hp, ⟨(cs.drop a.sz).take b.sz, cs.drop (a.sz + b.sz), ?_, hq, hr⟩⟩, gp, gq, gr⟩
  rw [← List.drop_drop]
  exact (List.take_append_drop _ _).symm
theorem opens_iso {α β : Type} {P : Program} {t : TypeId} {d : Kd α} {good : α → Prop} (f : β → α) (g : α → β) (hfg : ∀ y, f (g y) = y) (h : Opens P t d good) : Opens P t (Kd.iso d f) (fun x => good (f x)) := fun H enc w fuel cs x hx => by
  obtain ⟨y, hy, gy⟩ := h H enc w fuel cs x hx
  refine ⟨g y, ?_, ?_⟩
  · show d.K w (f (g y)) cs
    rw [hfg]; exact hy
  · show good (f (g y))
    rw [hfg]; exact gy
theorem opens_mono {α : Type} {P : Program} {t : TypeId} {d : Kd α} {good good' : α → Prop} (h : Opens P t d good) (hg : ∀ x, good x → good' x) : Opens P t d good' := fun H enc w fuel cs x hx => by
  obtain ⟨a, ha, ga⟩ := h H enc w fuel cs x hx
  exact ⟨a, ha, hg a ga⟩
end Go.Proofs.YtladdncfhjjppaaW.XOpen
