-- Written by wip/tools/drv.py (the session's own driver).
import Derived.Test.YtladdncfhjjppaaPAx0
import Derived.Test.YtladdncfhjjppaaHSml
namespace Go.Proofs.Ytladdncfhjjppaa.PA
open Go.RowKit Go.Proofs.YtladdncfhjjppaaW.PrintWords Go.Proofs.YtladdncfhjjppaaW.PrintLast Go.Proofs.YtladdncfhjjppaaW.PrintMore
attribute [local go_sem] max2_int min2_int max_two min_two max_three min_three max_four min_four   -- for this text's walks alone
set_option linter.unusedVariables false
set_option linter.unusedSimpArgs false

--EXT feluccalaw13_small
/-! ### feluccalaw13_small: function 8, by hand -/
--IMPORT Derived.Test.YtladdncfhjjppaaHSml
def feluccalaw13_small.f : Option Bool := some true
theorem feluccalaw13_small.calls (r : Bool) (w : World) (h : feluccalaw13_small.f = some r) :
    Calls Try.prog 8 #[] w fun e w' => e = .returned (.bool r) ∧ Below w.heap.size w w' := by
  obtain rfl := Option.some.inj h
  exact small_any w

end Go.Proofs.Ytladdncfhjjppaa.PA
