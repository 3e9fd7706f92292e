/-
  Laws of the walk for blocks of many cells: an allocation whose zero value has a name; a store into the midst of the block that was made last. Over any program.
-/
import Derived.Test.YtifbcfpaifobjaaGreatDoorBase
import Derived.Deep.WholeRow
import Derived.Deep.MidRow
import Derived.Laws.EntriesVeiled
namespace Go.Proofs.YtifbcfpaifobjaaGreatDoor
open Go.RowKit
variable {P : Program}
theorem wp_alloc_known {o : Oper} {a : Act} {w : World} {K : Act → World → Prop} {Q : Exit → Act → World → Prop} (ty : TypeId) (ho : o.op = .alloc ty) (z : Value) (hz : (zeroValue ty).run P w = .ok z w)
    (h : K (a.put o.dst (.pointer (some ⟨w.heap.size, 0, none⟩))) (w.alloc (.cells z.cells ty))) : o.wp P a w K Q := by
  unfold Oper.wp execOp
  simp only [ho, Instr.alloc, Sem.run_bind, hz, Result.andThen_ok, newVar]
  exact h
theorem wpList_alloc_known {ops : Array Oper} {rest : List Oper} {o : Oper} {a : Act} {w : World} {Q : Exit → Act → World → Prop} (hgd : o.guard = none) (ty : TypeId) (ho : o.op = .alloc ty) (z : Value) (hz : (zeroValue ty).run P w = .ok z w)
    (h : wpList P ops Q rest (a.put o.dst (.pointer (some ⟨w.heap.size, 0, none⟩))) (w.alloc (.cells z.cells ty))) : wpList P ops Q (o :: rest) a w :=
  wpList_plain hgd fun _ hK => wp_alloc_known ty ho z hz (hK _ _ h)
/-- Cells written one behind the other. -/
def setAll : Array Value → Nat → List Value → Array Value
  | c, _, [] => c
  | c, o, v :: r => setAll (c.setIfInBounds o v) (o + 1) r
theorem size_setAll : ∀ (vs : List Value) (c : Array Value) (o : Nat), (setAll c o vs).size = c.size
  | [], _, _ => rfl
  | v :: r, c, o => by rw [setAll, size_setAll r]; simp
theorem setCell_last (w : World) (c : Array Value) (t : TypeId) (o : Nat) (v : Value) : (w.alloc (.cells c t)).setCell ⟨w.heap.size, o, none⟩ v = w.alloc (.cells (c.setIfInBounds o v) t) := by
  rw [setCell_eq_setRow _ _ _ c t (0, 0) v (heap_alloc_last w _), World.setRow_alloc_new]
theorem setCells_last (w : World) (t : TypeId) : ∀ (vs : List Value) (c : Array Value) (o : Nat), (w.alloc (.cells c t)).setCells w.heap.size o vs = w.alloc (.cells (setAll c o vs) t)
  | [], _, _ => rfl
  | v :: r, c, o => by
    rw [World.setCells, setCell_last, setCells_last w t r]
    rfl
theorem there_last (w : World) (c : Array Value) (t : TypeId) (o n : Nat) (h : o + n ≤ c.size) : (w.alloc (.cells c t)).there w.heap.size o n := fun j hj => by
  refine ⟨?_, frozen_of_row _ _ _ _ _ (heap_alloc_last w _)⟩
  rw [cell_of_row _ _ _ _ _ _ (heap_alloc_last w (.cells c t)), Array.getElem?_eq_getElem (by omega)]
  rfl
theorem wpList_store_last {ops : Array Oper} {rest : List Oper} {op : Oper} {a : Act} {w : World} {Q : Exit → Act → World → Prop} (hgd : op.guard = none) (ty : TypeId) (x y : Operand) (ho : op.op = .store ty x y)
    (c : Array Value) (t : TypeId) (g o : Nat) (cells : Array Value) (hg : w.heap.size = g) (hx : a.eval x = .pointer (some ⟨g, o, none⟩)) (hy : a.eval y = .agg cells)
    (hb : o + cells.size ≤ c.size) (hi : (P.info? ty).map (·.size) = some cells.size) (h1 : cells.all (·.oneCell') = true)
    (h : wpList P ops Q rest (a.put op.dst undef) (w.alloc (.cells (setAll c o cells.toList) t))) : wpList P ops Q (op :: rest) a (w.alloc (.cells c t)) := by
  subst hg
  refine wpList_store_mid hgd ty x y ho w.heap.size o cells hx hy (there_last w c t o cells.size hb) hi h1 ?_
  rw [setCells_last]
  exact h
theorem setAll_get : ∀ (vs : List Value) (c : Array Value) (o j : Nat), o + vs.length ≤ c.size → (setAll c o vs)[j]? = if o ≤ j ∧ j < o + vs.length then vs[j - o]? else c[j]?
  | [], c, o, j, _ => by rw [setAll, if_neg (fun h => by simp at h; omega)]
  | v :: r, c, o, j, h => by
    rw [setAll, setAll_get r _ (o + 1) j (by simp at h ⊢; omega)]
    simp only [List.length_cons] at h ⊢
    by_cases h1 : o + 1 ≤ j ∧ j < o + 1 + r.length
    · rw [if_pos h1, if_pos (by omega), show j - o = (j - (o + 1)) + 1 from by omega, List.getElem?_cons_succ]
    · rw [if_neg h1, Array.getElem?_setIfInBounds]
      by_cases h2 : o = j
      · subst h2
        rw [if_pos rfl, if_pos (by omega), if_pos (by omega), Nat.sub_self]; rfl
      · rw [if_neg h2, if_neg (by omega)]
theorem setAll_whole (c cells : Array Value) (h : cells.size = c.size) : setAll c 0 cells.toList = cells := by
  apply Array.ext_getElem?
  intro j
  rw [setAll_get _ _ _ _ (by simp [h])]
  by_cases hj : j < cells.size
  · rw [if_pos (by simpa using hj)]; simp
  · rw [if_neg (by simp; omega), Array.getElem?_eq_none (by omega), Array.getElem?_eq_none (by omega)]
/-- A whole value stored into the block that was made last, for it. -/
theorem wpList_store_new {ops : Array Oper} {rest : List Oper} {op : Oper} {a : Act} {w : World} {Q : Exit → Act → World → Prop} (hgd : op.guard = none) (ty : TypeId) (x y : Operand) (ho : op.op = .store ty x y)
    (c : Array Value) (t : TypeId) (g : Nat) (cells : Array Value) (hg : w.heap.size = g) (hx : a.eval x = .pointer (some ⟨g, 0, none⟩)) (hy : a.eval y = .agg cells)
    (hb : cells.size = c.size) (hi : (P.info? ty).map (·.size) = some cells.size) (h1 : cells.all (·.oneCell') = true)
    (h : wpList P ops Q rest (a.put op.dst undef) (w.alloc (.cells cells t))) : wpList P ops Q (op :: rest) a (w.alloc (.cells c t)) := by
  refine wpList_store_last hgd ty x y ho c t g 0 cells hg hx hy (by omega) hi h1 ?_
  rw [setAll_whole c cells hb]
  exact h
theorem one4 {a b c d : Value} (ha : a.oneCell' = true) (hb : b.oneCell' = true) (hc : c.oneCell' = true) (hd : d.oneCell' = true) : (#[a, b, c, d] : Array Value).all (·.oneCell') = true := by simp [ha, hb, hc, hd]
end Go.Proofs.YtifbcfpaifobjaaGreatDoor
