-- Written by wip/tools/drv.py (the session's own driver).
import Derived.Test.YtladdncfhjjppaaPAx0
import Derived.Test.YtladdncfhjjppaaHOs
namespace Go.Proofs.Ytladdncfhjjppaa.PA
open Go.RowKit Go.Proofs.YtladdncfhjjppaaW.PrintWords Go.Proofs.YtladdncfhjjppaaW.PrintLast Go.Proofs.YtladdncfhjjppaaW.PrintMore
attribute [local go_sem] max2_int min2_int max_two min_two max_three min_three max_four min_four   -- for this text's walks alone
set_option linter.unusedVariables false
set_option linter.unusedSimpArgs false

--EXT order_copied
/-! ### order_copied: function 23, by hand -/
--IMPORT Derived.Test.YtladdncfhjjppaaHOs
open Go.Proofs.YtladdncfhjjppaaW.XRow
theorem pickR_id (l : List S25) : pickR l (fun s => s) l.length = l := by
  refine List.ext_getElem? (fun i => ?_)
  by_cases h : i < l.length
  · rw [pickR_get l _ _ i h, at_mem l i h]
  · rw [List.getElem?_eq_none (by rw [pickR_len]; omega), List.getElem?_eq_none (by omega)]
def order_copied.f (l0 : List (S25)) : Option (List (S25)) := if okR l0 then some l0 else none
theorem order_copied.calls (A0 : Option Addr) (c0 : Nat) (l0 : List (S25)) (r : List (S25)) (w : World) (hr0 : Kd.C k25 w A0 l0.length l0) (hc0 : l0.length ≤ c0) (h : order_copied.f l0 = some r) :
    Calls Try.prog 23 #[.slice A0 l0.length c0] w fun e w' => ∃ v0_ : Value, e = .returned (v0_) ∧ Kd.S k25 25 w' w.heap.size (fun _ => True) v0_ r ∧ Below w.heap.size w w' := by
  unfold order_copied.f at h
  by_cases hok : okR l0 = true
  · rw [if_pos hok] at h
    obtain rfl := Option.some.inj h
    have hl := okR_len hok
    refine (copied A0 c0 l0 w hr0 hc0 (by omega) (fun i hi => by have := okR_at hok i hi; omega)).mono ?_
    rintro e w1 ⟨v, rfl, hB, ⟨rfl, rfl⟩ | ⟨blk, cap, ce, S, rfl, hcap, hcm, hblk, hrow, hown⟩⟩
    · exact ⟨_, rfl, Kd.S_nil _ _ _ _ _, hB⟩
    · refine ⟨_, rfl, ?_, hB⟩
      have := own_S hown (But.refl _ _) hrow hcap hcm hblk (fun j hj => hj) (fun i j _ _ e => e)
      rwa [pickR_id] at this
  · rw [if_neg hok] at h; contradiction

end Go.Proofs.Ytladdncfhjjppaa.PA
