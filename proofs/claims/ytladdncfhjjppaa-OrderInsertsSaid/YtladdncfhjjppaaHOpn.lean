import Derived.Test.YtladdncfhjjppaaPAx0
import Derived.Test.YtladdncfhjjppaaXOpen
namespace Go.Proofs.Ytladdncfhjjppaa.PA
open Go.RowKit Go.Proofs.YtladdncfhjjppaaW.PrintWords Go.Proofs.YtladdncfhjjppaaW.XOpen
set_option linter.unusedVariables false

def g34 (x : S34) : Prop := (Lit.int .i64 x.f0).wf = true ∧ (Lit.int .i64 x.f1).wf = true ∧ (Lit.int .i64 x.f2).wf = true
theorem opens34 : Opens Try.prog 34 k34 g34 :=
  opens_iso (fun x : S34 => (x.f0, x.f1, x.f2)) (fun y => ⟨y.1, y.2.1, y.2.2⟩) (fun _ => rfl)
    (opens_struct3 (a := Kd.int .i64) (b := Kd.int .i64) (c := Kd.int .i64) Try.underlying34 (by kernel_rfl) rfl (by kernel_rfl) (by kernel_rfl) (by kernel_rfl) (by kernel_rfl) (by kernel_rfl) (opens_int Try.underlying3) (opens_int Try.underlying3) (opens_int Try.underlying3))
theorem opens23 : Opens Try.prog 23 (Kd.slice 34 k34) (fun l => ∀ x, x ∈ l → g34 x) := opens_slice z34 Try.underlying23 (by kernel_rfl) opens34
def g25 (x : S25) : Prop := (∀ y, y ∈ x.f0 → g34 y) ∧ (Lit.int .i64 x.f1).wf = true
theorem opens25 : Opens Try.prog 25 k25 g25 :=
  opens_iso (fun x : S25 => (x.f0, x.f1)) (fun y => ⟨y.1, y.2⟩) (fun _ => rfl)
    (opens_struct2 (a := Kd.slice 34 k34) (b := Kd.int .i64) Try.underlying25 (by kernel_rfl) rfl (by kernel_rfl) (by kernel_rfl) (by kernel_rfl) opens23 (opens_int Try.underlying3))
theorem opens22 : Opens Try.prog 22 (Kd.slice 25 k25) (fun l => ∀ x, x ∈ l → g25 x) := opens_slice z25 Try.underlying22 (by kernel_rfl) opens25
/-- An argument that is a route. -/
theorem arg25 {H : Type} {enc : TypeId × Value → H} {W : World} {base : Nat} {v : Value} {d : DataW H} {p : List MemPlace} (hv : Value.okWide Try.prog W .any base 25 v) (h : DataW.Trod enc Try.prog W 0 (fun _ => true) true 25 v d p) :
    ∃ (x : S25) (A : Option Addr) (c : Nat), v = .agg #[.slice A x.f0.length c, .int .i64 x.f1] ∧ x.f0.length ≤ c ∧ Kd.C k34 W A x.f0.length x.f0 ∧ g25 x := by
  obtain ⟨cs, rfl, _⟩ := WideShapes.okWide_struct Try.underlying25 hv
  obtain ⟨fuel, hf⟩ := h
  obtain ⟨x, hK, hg⟩ := opens25 H enc W fuel _ _ hf
  obtain ⟨A, c, hc, hl, hC⟩ := k25_open hK
  refine ⟨x, A, c, ?_, hl, hC, hg⟩
  have hc : cs.toList = [.slice A x.f0.length c, .int .i64 x.f1] := hc
  rw [show cs = #[.slice A x.f0.length c, .int .i64 x.f1] from Array.ext' hc]
/-- An argument that is a row of routes. -/
theorem arg22 {H : Type} {enc : TypeId × Value → H} {W : World} {base : Nat} {v : Value} {d : DataW H} {p : List MemPlace} (hv : Value.okWide Try.prog W .any base 22 v) (h : DataW.Trod enc Try.prog W 0 (fun _ => true) true 22 v d p) :
    ∃ (l : List S25) (A : Option Addr) (c : Nat), v = .slice A l.length c ∧ l.length ≤ c ∧ Kd.C k25 W A l.length l ∧ ∀ x, x ∈ l → g25 x := by
  obtain ⟨a, n, c, rfl⟩ := WideShapes.okWide_slice Try.underlying22 hv
  obtain ⟨fuel, hf⟩ := h
  obtain ⟨l, ⟨A, c', hc, hl, hC⟩, hg⟩ := opens22 H enc W fuel _ _ hf
  have hc : [Value.slice a n c] = [.slice A l.length c'] := hc
  injection hc with hc _
  injection hc with h1 h2 h3
  subst h1; subst h2; subst h3
  exact ⟨l, _, _, rfl, hl, hC, hg⟩
/-- An argument that is a row of hops. -/
theorem arg23 {H : Type} {enc : TypeId × Value → H} {W : World} {base : Nat} {v : Value} {d : DataW H} {p : List MemPlace} (hv : Value.okWide Try.prog W .any base 23 v) (h : DataW.Trod enc Try.prog W 0 (fun _ => true) true 23 v d p) :
    ∃ (l : List S34) (A : Option Addr) (c : Nat), v = .slice A l.length c ∧ l.length ≤ c ∧ Kd.C k34 W A l.length l ∧ ∀ x, x ∈ l → g34 x := by
  obtain ⟨a, n, c, rfl⟩ := WideShapes.okWide_slice Try.underlying23 hv
  obtain ⟨fuel, hf⟩ := h
  obtain ⟨l, ⟨A, c', hc, hl, hC⟩, hg⟩ := opens23 H enc W fuel _ _ hf
  have hc : [Value.slice a n c] = [.slice A l.length c'] := hc
  injection hc with hc _
  injection hc with h1 h2 h3
  subst h1; subst h2; subst h3
  exact ⟨l, _, _, rfl, hl, hC, hg⟩
end Go.Proofs.Ytladdncfhjjppaa.PA
