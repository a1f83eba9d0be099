-- Written by wip/tools/drv.py (the session's own driver).
import Derived.Test.YtladdncfhjjppaaPAx0
import Derived.Test.YtladdncfhjjppaaHOs
namespace Go.Proofs.Ytladdncfhjjppaa.PA
open Go.RowKit Go.Proofs.YtladdncfhjjppaaW.PrintWords Go.Proofs.YtladdncfhjjppaaW.PrintLast Go.Proofs.YtladdncfhjjppaaW.PrintMore
attribute [local go_sem] max2_int min2_int max_two min_two max_three min_three max_four min_four   -- for this text's walks alone
set_option linter.unusedVariables false
set_option linter.unusedSimpArgs false

--EXT order_Sort
/-! ### order_Sort: function 11, by hand -/
--IMPORT Derived.Test.YtladdncfhjjppaaHOs
def order_Sort.f (l0 : List (S25)) : Option (List (S25)) := if okR l0 then some (sortR l0) else none
theorem order_Sort.calls (A0 : Option Addr) (c0 : Nat) (l0 : List (S25)) (r : List (S25)) (w : World) (hr0 : Kd.C k25 w A0 l0.length l0) (hc0 : l0.length ≤ c0) (h : order_Sort.f l0 = some r) :
    Calls Try.prog 11 #[.slice A0 l0.length c0] w fun e w' => ∃ v0_ : Value, e = .returned (v0_) ∧ Kd.S k25 25 w' w.heap.size (fun _ => True) v0_ r ∧ Below w.heap.size w w' := by
  unfold order_Sort.f at h
  by_cases hok : okR l0 = true
  · rw [if_pos hok] at h
    obtain rfl := Option.some.inj h
    exact sort_any A0 c0 l0 w hr0 hc0 hok
  · rw [if_neg hok] at h; contradiction

end Go.Proofs.Ytladdncfhjjppaa.PA
