/-
  A list of lists, each in a row of its own: the row of one place has grown by one element, and has been put back.
-/
import Derived.Test.YthcgkeiggnfgiaaGreatDoorG16
namespace Go.Proofs.YthcgkeiggnfgiaaGreatDoor
open Go.RowKit
section
variable {α : Type} {TO TI : TypeId} {k : Nat} {enc : α → List Value} {w w' : World} {base : Nat} {vs : List Value} {ls : List (List α)}
theorem NstV.appendAt {cur : List α} {t : α} {go c m : Nat} {x : Value} (i : Nat) (h : NstV TO TI k enc w base (.slice (some ⟨go, 0, none⟩) m c) vs ls) (hm : vs.length = m) (hx : vs[i]? = some x) (hc : ls[i]? = some cur)
    {g2 cap : Nat} {w1 : World} (hown : w1.ownsRow base TI k (.slice (some ⟨g2, 0, none⟩) (cur.length + 1) cap) (cur.length + 1) (cellsOf enc cur ++ enc t)) (hg : w.grownBy w1 x.ownBlock) (hat : x.ownBlock = some g2 ∨ w.heap.size ≤ g2) :
    NstV TO TI k enc (w1.setCell ⟨go, i, none⟩ (.slice (some ⟨g2, 0, none⟩) (cur.length + 1) cap)) base (.slice (some ⟨go, 0, none⟩) m c) (vs.set i (.slice (some ⟨g2, 0, none⟩) (cur.length + 1) cap)) (ls.set i (cur ++ [t])) := by
  subst hm
  have hi : i < vs.length := (List.getElem?_eq_some_iff.1 hx).1
  have hgo := h.outer.lt go rfl
  have hout : w1.ownsRow base TO 1 (.slice (some ⟨go, 0, none⟩) vs.length c) vs.length vs := h.outer.kept hg (by
    right
    intro e
    exact h.off i x go hx e.symm rfl)
  have hs := hout.stored i (.slice (some ⟨g2, 0, none⟩) (cur.length + 1) cap)
  have hne : g2 ≠ go := by
    intro e
    subst e
    rcases hat with hat | hat
    · exact h.off i x g2 hx hat rfl
    · omega
  have hold : ∀ (j : Nat) (y : Value), (vs.set i (.slice (some ⟨g2, 0, none⟩) (cur.length + 1) cap))[j]? = some y → (j ≠ i ∧ vs[j]? = some y) ∨ (j = i ∧ y = .slice (some ⟨g2, 0, none⟩) (cur.length + 1) cap) := fun j y hy => by
    by_cases hj : i = j
    · right
      subst hj
      rw [List.getElem?_set_self hi] at hy
      exact ⟨rfl, (Option.some.inj hy).symm⟩
    · left
      rw [List.getElem?_set_ne hj] at hy
      exact ⟨fun e => hj e.symm, hy⟩
  have hoth : ∀ (j : Nat) (y : Value) (g : Nat), j ≠ i → vs[j]? = some y → y.ownBlock = some g → g ≠ g2 ∧ g ≠ go ∧ x.ownBlock ≠ some g := fun j y g hj hy hyg => by
    have h1 := h.lt hy hyg
    have h2 := h.off j y g hy hyg
    have h3 := h.apart j i y x g hj hy hx hyg
    refine ⟨fun e => ?_, fun e => h2 (by rw [e]; rfl), h3⟩
    subst e
    rcases hat with hat | hat
    · exact h3 hat
    · omega
  refine ⟨by simp [h.len], by rw [List.length_set]; exact hs.1, fun j y l hy hyl => ?_, fun j y g hy hyg => ?_, fun j j' y z g hij hy hz hyg => ?_⟩
  · rcases hold j y hy with ⟨hj, hy⟩ | ⟨hj, rfl⟩
    · rw [List.getElem?_set_ne (fun e => hj e.symm)] at hyl
      have h2 : w1.ownsRow base TI k y l.length (cellsOf enc l) := (h.inner j y l hy hyl).kept hg (by
        cases hv : y.ownBlock with
        | none => exact Or.inl rfl
        | some g => right; intro e; exact (hoth j y g hj hy hv).2.2 e.symm)
      refine h2.kept hs.2 ?_
      cases hv : y.ownBlock with
      | none => exact Or.inl rfl
      | some g => right; intro e; exact (hoth j y g hj hy hv).2.1 (Option.some.inj e)
    · subst hj
      rw [List.getElem?_set_self (by rw [← h.len]; exact hi)] at hyl
      obtain rfl : cur ++ [t] = l := Option.some.inj hyl
      rw [List.length_append, List.length_singleton, cellsOf_append]
      have e : cellsOf enc [t] = enc t := by simp [cellsOf]
      rw [e]
      exact hown.kept hs.2 (Or.inr (fun e => hne (by simpa [Value.ownBlock] using e)))
  · rcases hold j y hy with ⟨hj, hy⟩ | ⟨_, rfl⟩
    · intro e
      have e : go = g := by simpa [Value.ownBlock] using e
      exact (hoth j y g hj hy hyg).2.1 e.symm
    · intro e
      have e : go = g := by simpa [Value.ownBlock] using e
      have e2 : g2 = g := by simpa [Value.ownBlock] using hyg
      exact hne (by rw [e2, e])
  · rcases hold j y hy with ⟨hj, hy⟩ | ⟨hj, rfl⟩
    · rcases hold j' z hz with ⟨hj', hz⟩ | ⟨hj', rfl⟩
      · exact h.apart j j' y z g hij hy hz hyg
      · intro e
        have e : g2 = g := by simpa [Value.ownBlock] using e
        exact (hoth j y g hj hy hyg).1 e.symm
    · rcases hold j' z hz with ⟨hj', hz⟩ | ⟨hj', rfl⟩
      · intro e
        have e2 : g2 = g := by simpa [Value.ownBlock] using hyg
        exact (hoth j' z g hj' hz e).1 e2.symm
      · omega
end
end Go.Proofs.YthcgkeiggnfgiaaGreatDoor
