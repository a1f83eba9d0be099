/- A row of two-celled elements in one block, told by a numbering of its places; the class of worlds that a region with calls passes through. -/
import Derived.Test.YtladdncfhjjppaaWMore
import Derived.Deep.QuietTactic
set_option linter.unusedVariables false
namespace Go.Proofs.YtladdncfhjjppaaW.XRow
open Go.RowKit Go.Proofs.YtladdncfhjjppaaW.PrintWords

/-- A world that is w below its size. -/
structure BelowOf (w : World) where
  val : World
  prop : Below w.heap.size w val
instance (w : World) : Inhabited (BelowOf w) := ⟨⟨w, Below.refl _ _⟩⟩
theorem wp_region_quiet_below {P : Program} {id : Nat} {Q : Exit → Act → World → Prop} {a : Act} {w : World} {l : List Oper} (hm : P.follows .mixedOrders = true) (hB : Region.lexB .any l.toArray = true)
    (h : wpQuiet P l.toArray (fun w' => ∃ p : BelowOf w, w' = p.val) (fun a' => ∀ w', (∃ p : BelowOf w, w' = p.val) → Q .normal a' w') l a) : (Code.region id l.toArray true).wp P Q a w :=
  wp_region_quiet (C := fun w' => ∃ p : BelowOf w, w' = p.val) hm hB ⟨⟨w.drew, (Below.refl _ _).drew⟩, rfl⟩ (by simpa using h)
theorem cellB {w : World} {a : Addr} {v : Value} (h : w.cell? a = some v) (p : BelowOf w) : p.val.cell? a = some v := pw_cell_below p.prop h
theorem callsB {P : Program} {f : FuncId} {args : Array Value} {w : World} {p : BelowOf w} {v : Value}
    (h : Calls P f args p.val fun e w' => e = .returned v ∧ Below p.val.heap.size p.val w') : Calls P f args p.val fun e w'' => e = .returned v ∧ ∃ q : BelowOf w, w'' = q.val :=
  h.mono fun _ w' ⟨he, hb⟩ => ⟨he, ⟨w', p.prop.trans (hb.mono p.prop.size)⟩, rfl⟩

/-- An element's two cells: a slice, a number. -/
structure El where
  A : Option Addr
  l : Nat
  c : Nat
  z : Int
/-- Block b holds, at place j < n, the two cells of element q j. -/
structure RowAt (W : World) (b t n cap : Nat) (ce : Nat → El) (q : Nat → Nat) : Prop where
  row : ∃ cur : Array Value, W.heap[b]? = some (.cells cur t (0, 0)) ∧ cur.size = cap * 2 ∧ ∀ j, j < n → cur[j * 2]? = some (.slice (ce (q j)).A (ce (q j)).l (ce (q j)).c) ∧ cur[j * 2 + 1]? = some (.int .i64 (ce (q j)).z)
section
variable {W W1 : World} {b t n cap : Nat} {ce : Nat → El} {q : Nat → Nat}
theorem RowAt.cell0 (h : RowAt W b t n cap ce q) (j : Nat) (hj : j < n) : W.cell? ⟨b, j * 2, none⟩ = some (.slice (ce (q j)).A (ce (q j)).l (ce (q j)).c) := by
  obtain ⟨cur, hb, _, hc⟩ := h.row
  rw [blk_cell hb]; exact (hc j hj).1
theorem RowAt.cell1 (h : RowAt W b t n cap ce q) (j : Nat) (hj : j < n) : W.cell? ⟨b, j * 2 + 1, none⟩ = some (.int .i64 (ce (q j)).z) := by
  obtain ⟨cur, hb, _, hc⟩ := h.row
  rw [blk_cell hb]; exact (hc j hj).2
theorem RowAt.frozen (h : RowAt W b t n cap ce q) (i : Nat) : W.frozen? ⟨b, i, none⟩ = false := by
  obtain ⟨cur, hb, _, _⟩ := h.row
  exact blk_frozen hb i
theorem RowAt.lt (h : RowAt W b t n cap ce q) : b < W.heap.size := by
  obtain ⟨cur, hb, _, _⟩ := h.row
  exact blk_lt hb
theorem RowAt.move (h : RowAt W b t n cap ce q) (hm : W1.heap[b]? = W.heap[b]?) : RowAt W1 b t n cap ce q := by
  obtain ⟨cur, hb, hs, hc⟩ := h.row
  exact ⟨cur, hm.trans hb, hs, hc⟩
theorem RowAt.below (h : RowAt W b t n cap ce q) (hb : Below W.heap.size W W1) : RowAt W1 b t n cap ce q := h.move (hb.block b h.lt)
theorem RowAt.drew (h : RowAt W b t n cap ce q) : RowAt W.drew b t n cap ce q := h.move rfl
theorem RowAt.congr (h : RowAt W b t n cap ce q) {q' : Nat → Nat} (he : ∀ j, j < n → q' j = q j) : RowAt W b t n cap ce q' := by
  obtain ⟨cur, hb, hs, hc⟩ := h.row
  exact ⟨cur, hb, hs, fun j hj => by rw [he j hj]; exact hc j hj⟩
/-- Element x is stored at place i. -/
theorem RowAt.put (h : RowAt W b t n cap ce q) (i x : Nat) (hi : i < n) : RowAt ((W.setCell ⟨b, i * 2, none⟩ (.slice (ce x).A (ce x).l (ce x).c)).setCell ⟨b, i * 2 + 1, none⟩ (.int .i64 (ce x).z)) b t n cap ce (fun s => if s = i then x else q s) := by
  obtain ⟨cur, hb, hs, hc⟩ := h.row
  have hsz : i * 2 + 1 < cur.size := (Array.getElem?_eq_some_iff.1 (hc i hi).2).1
  refine ⟨_, blk_set (blk_set hb (i * 2) (.slice (ce x).A (ce x).l (ce x).c)) (i * 2 + 1) (.int .i64 (ce x).z), by simpa using hs, fun j hj => ?_⟩
  have hj2 := hc j hj
  by_cases e : j = i
  · subst e
    simp only [if_pos, Array.getElem?_setIfInBounds, Array.size_setIfInBounds]
    refine ⟨?_, ?_⟩
    · rw [if_neg (by omega), if_pos (by omega)]
    · rw [if_pos (by omega)]
  · simp only [if_neg e, Array.getElem?_setIfInBounds, Array.size_setIfInBounds]
    refine ⟨?_, ?_⟩
    · rw [if_neg (by omega), if_neg (by omega)]; exact hj2.1
    · rw [if_neg (by omega), if_neg (by omega)]; exact hj2.2
end
/-- Places i and j exchanged. -/
def sw (q : Nat → Nat) (i j : Nat) : Nat → Nat := fun s => if s = j then q i else if s = i then q j else q s
theorem RowAt.swap {W : World} {b t n cap : Nat} {ce : Nat → El} {q : Nat → Nat} (h : RowAt W b t n cap ce q) (i j : Nat) (hi : i < n) (hj : j < n) :
    RowAt ((((W.setCell ⟨b, i * 2, none⟩ (.slice (ce (q j)).A (ce (q j)).l (ce (q j)).c)).setCell ⟨b, i * 2 + 1, none⟩ (.int .i64 (ce (q j)).z)).setCell ⟨b, j * 2, none⟩ (.slice (ce (q i)).A (ce (q i)).l (ce (q i)).c)).setCell ⟨b, j * 2 + 1, none⟩ (.int .i64 (ce (q i)).z)) b t n cap ce (sw q i j) :=
  (h.put i (q j) hi).put j (q i) hj
/-- All but block b is as it was; the streams too. -/
structure But (b : Nat) (w W : World) : Prop where
  os : W.os = w.os
  tape : W.tape = w.tape
  output : W.output = w.output
  size : w.heap.size ≤ W.heap.size
  block : ∀ k, k < w.heap.size → k ≠ b → W.heap[k]? = w.heap[k]?
theorem But.refl (b : Nat) (w : World) : But b w w := ⟨rfl, rfl, rfl, Nat.le_refl _, fun _ _ _ => rfl⟩
theorem But.trans {b : Nat} {w W X : World} (h : But b w W) (k : But b W X) : But b w X :=
  ⟨k.os.trans h.os, k.tape.trans h.tape, k.output.trans h.output, Nat.le_trans h.size k.size, fun i hi hb => (k.block i (Nat.lt_of_lt_of_le hi h.size) hb).trans (h.block i hi hb)⟩
theorem But.of_below {b : Nat} {w W : World} (h : Below w.heap.size w W) : But b w W := ⟨h.os, h.tape, h.output, h.size, fun k hk _ => h.block k hk⟩
theorem But.below {b : Nat} {w W X : World} (h : But b w W) (k : Below W.heap.size W X) : But b w X := h.trans (But.of_below k)
theorem But.drew {b : Nat} {w W : World} (h : But b w W) : But b w W.drew := ⟨h.os, h.tape, h.output, h.size, h.block⟩
theorem But.set {b : Nat} {w W : World} (h : But b w W) (i : Nat) (u : Value) : But b w (W.setCell ⟨b, i, none⟩ u) :=
  h.trans ⟨rfl, rfl, rfl, by simp [World.setCell], fun k _ hb => Below.heap_setCell W ⟨b, i, none⟩ u k hb⟩
end Go.Proofs.YtladdncfhjjppaaW.XRow
