/-
  A list of lists, each in a row of its own, built by appending; no program in sight.
  Laws of the walk for blocks of many cells: an allocation whose zero value has a name; a store into the midst of the block that was made last. Over any program.
  Contracts of the reference's Parse of a pattern, and of its Check.
-/
import Derived.Test.YtgdjknpdgajdgaaG01
import Derived.Test.YtgdjknpdgajdgaaG00
import Derived.Deep.WholeRow
import Derived.Deep.MidRow
import Derived.Laws.EntriesVeiled
import Derived.Test.YtgdjknpdgajdgaaG02
import Derived.Deep.AppendLies
import Derived.Deep.RegionLaw
import Derived.Great.BuildSlice
namespace Go.Proofs.Ytgdjknpdgajdgaa
open Go.RowKit
section
variable {α : Type} (TO TI : TypeId) (k : Nat) (enc : α → List Value)
/-- The outer row holds the inner slices; no two share a block. -/
structure NstV (w : World) (base : Nat) (v : Value) (vs : List Value) (ls : List (List α)) : Prop where
  len : vs.length = ls.length
  outer : w.ownsRow base TO 1 v vs.length vs
  inner : ∀ (i : Nat) (x : Value) (l : List α), vs[i]? = some x → ls[i]? = some l → w.ownsRow base TI k x l.length (cellsOf enc l)
  off : ∀ (i : Nat) (x : Value) (g : Nat), vs[i]? = some x → x.ownBlock = some g → v.ownBlock ≠ some g
  apart : ∀ (i j : Nat) (x y : Value) (g : Nat), i ≠ j → vs[i]? = some x → vs[j]? = some y → x.ownBlock = some g → y.ownBlock ≠ some g
def Nst (w : World) (base : Nat) (v : Value) (ls : List (List α)) : Prop := ∃ vs, NstV TO TI k enc w base v vs ls
variable {TO TI k enc} {w w' : World} {base : Nat} {v : Value} {vs : List Value} {ls : List (List α)}
theorem NstV.lt (h : NstV TO TI k enc w base v vs ls) {i : Nat} {x : Value} {g : Nat} (hx : vs[i]? = some x) (hg : x.ownBlock = some g) : base ≤ g ∧ g < w.heap.size := by
  have hi : i < ls.length := by rw [← h.len]; exact (List.getElem?_eq_some_iff.1 hx).1
  exact (h.inner i x ls[i] hx (List.getElem?_eq_getElem hi)).lt g hg
theorem own_below {e : TypeId} {kk n : Nat} {xs : List Value} (h : w.ownsRow base e kk v n xs) (hb : Below w.heap.size w w') : w'.ownsRow base e kk v n xs :=
  h.kept (grown_below hb none) (by cases hv : v.ownBlock <;> simp)
theorem NstV.below (h : NstV TO TI k enc w base v vs ls) (hb : Below w.heap.size w w') : NstV TO TI k enc w' base v vs ls :=
  ⟨h.len, own_below h.outer hb, fun i x l hx hl => own_below (h.inner i x l hx hl) hb, h.off, h.apart⟩
/-- A step that turns one block, which is none of these. -/
theorem NstV.other (h : NstV TO TI k enc w base v vs ls) {row : Option Nat} (hg : w.grownBy w' row) (hr : ∀ g, row = some g → g < base ∨ w.heap.size ≤ g) : NstV TO TI k enc w' base v vs ls :=
  ⟨h.len, h.outer.kept hg (by
      cases hv : v.ownBlock with
      | none => exact Or.inl rfl
      | some g =>
        right
        intro e
        have := h.outer.lt g hv
        have := hr g (by rw [← e])
        omega),
    fun i x l hx hl => (h.inner i x l hx hl).kept hg (by
      cases hv : x.ownBlock with
      | none => exact Or.inl rfl
      | some g =>
        right
        intro e
        have := h.lt hx hv
        have := hr g (by rw [← e])
        omega), h.off, h.apart⟩
/-- A block that lies beyond is none of these. -/
theorem NstV.fresh (h : NstV TO TI k enc w base v vs ls) {g : Nat} (hg : w.heap.size ≤ g) : v.ownBlock ≠ some g ∧ ∀ x ∈ vs, x.ownBlock ≠ some g := by
  refine ⟨fun e => by have := (h.outer.lt g e).2; omega, fun x hx e => ?_⟩
  obtain ⟨i, hi, rfl⟩ := List.getElem_of_mem hx
  have := (h.lt (List.getElem?_eq_getElem hi) e).2
  omega
theorem NstV.beside (h : NstV TO TI k enc w base v vs ls) {g : Nat} (hg : w.grownBy w' (some g)) (hr : v.ownBlock ≠ some g ∧ ∀ x ∈ vs, x.ownBlock ≠ some g) : NstV TO TI k enc w' base v vs ls :=
  ⟨h.len, h.outer.kept hg (Or.inr hr.1), fun i x l hx hl => (h.inner i x l hx hl).kept hg (Or.inr (hr.2 x (List.mem_of_getElem? hx))), h.off, h.apart⟩
/-- The outer row has grown by one nil slice. -/
theorem NstV.pushNil (h : NstV TO TI k enc w base v vs ls) {A : Option Addr} {c : Nat} {g2 : Nat} (hv2 : A = some ⟨g2, 0, none⟩) (hown : w'.ownsRow base TO 1 (.slice A (vs.length + 1) c) (vs.length + 1) (vs ++ [.slice none 0 0])) (hg : w.grownBy w' v.ownBlock) (hat : v.ownBlock = some g2 ∨ g2 = w.heap.size) :
    NstV TO TI k enc w' base (.slice A (vs.length + 1) c) (vs ++ [.slice none 0 0]) (ls ++ [[]]) := by
  subst hv2
  have hold : ∀ (i : Nat) (x : Value), (vs ++ [Value.slice none 0 0])[i]? = some x → (vs[i]? = some x) ∨ (i = vs.length ∧ x = .slice none 0 0) := fun i x hx => by
    rcases Nat.lt_or_ge i vs.length with hi | hi
    · left; rw [List.getElem?_append_left hi] at hx; exact hx
    · right
      rw [List.getElem?_append_right hi] at hx
      have : i - vs.length = 0 := by
        have := (List.getElem?_eq_some_iff.1 hx).1
        simpa using this
      rw [this] at hx
      exact ⟨by omega, by simpa using hx.symm⟩
  refine ⟨by simp [h.len], by rw [List.length_append, List.length_singleton]; exact hown, fun i x l hx hl => ?_, fun i x g hx hg' => ?_, fun i j x y g hij hx hy hgx => ?_⟩
  · rcases hold i x hx with hx | ⟨hi, rfl⟩
    · have hi : i < ls.length := by rw [← h.len]; exact (List.getElem?_eq_some_iff.1 hx).1
      rw [List.getElem?_append_left hi] at hl
      refine (h.inner i x l hx hl).kept hg ?_
      cases hv : x.ownBlock with
      | none => exact Or.inl rfl
      | some g => right; intro e; exact h.off i x g hx hv e.symm
    · rw [hi, h.len, List.getElem?_append_right (Nat.le_refl _), Nat.sub_self] at hl
      obtain rfl : [] = l := by simpa using hl
      exact World.ownsRow_nil _ _ _ _
  · rcases hold i x hx with hx | ⟨hi, rfl⟩
    · intro e
      have e : g2 = g := by simpa [Value.ownBlock] using e
      subst e
      rcases hat with hat | hat
      · exact h.off i x g2 hx hg' hat
      · have := (h.lt hx hg').2; omega
    · simp [Value.ownBlock] at hg'
  · rcases hold i x hx with hx | ⟨_, rfl⟩
    · rcases hold j y hy with hy | ⟨_, rfl⟩
      · exact h.apart i j x y g hij hx hy hgx
      · simp [Value.ownBlock]
    · simp [Value.ownBlock] at hgx
/-- The last inner row has grown by one element, and has been put back. -/
theorem NstV.appendLast {ms : List (List α)} {cur : List α} {t : α} {go c : Nat} {x : Value} {us : List Value} (h : NstV TO TI k enc w base (.slice (some ⟨go, 0, none⟩) (us.length + 1) c) (us ++ [x]) (ms ++ [cur]))
    {g2 cap : Nat} {w1 : World} (hown : w1.ownsRow base TI k (.slice (some ⟨g2, 0, none⟩) (cur.length + 1) cap) (cur.length + 1) (cellsOf enc cur ++ enc t)) (hg : w.grownBy w1 x.ownBlock) (hat : x.ownBlock = some g2 ∨ g2 = w.heap.size) :
    NstV TO TI k enc (w1.setCell ⟨go, us.length, none⟩ (.slice (some ⟨g2, 0, none⟩) (cur.length + 1) cap)) base (.slice (some ⟨go, 0, none⟩) (us.length + 1) c) (us ++ [.slice (some ⟨g2, 0, none⟩) (cur.length + 1) cap]) (ms ++ [cur ++ [t]]) := by
  have hl : us.length = ms.length := by have := h.len; simp at this; exact this
  have hlast : (us ++ [x])[us.length]? = some x := by simp
  have ho := h.outer
  simp only [List.length_append, List.length_singleton] at ho
  have hgo := ho.lt go rfl
  have hout : w1.ownsRow base TO 1 (.slice (some ⟨go, 0, none⟩) (us.length + 1) c) (us.length + 1) (us ++ [x]) := ho.kept hg (by
    right
    intro e
    exact h.off us.length x go hlast e.symm rfl)
  have hs := hout.stored us.length (.slice (some ⟨g2, 0, none⟩) (cur.length + 1) cap)
  have hset : (us ++ [x]).set us.length (.slice (some ⟨g2, 0, none⟩) (cur.length + 1) cap) = us ++ [.slice (some ⟨g2, 0, none⟩) (cur.length + 1) cap] := by
    rw [List.set_append_right _ _ (Nat.le_refl _), Nat.sub_self]; rfl
  rw [hset] at hs
  have hne : g2 ≠ go := by
    intro e
    subst e
    rcases hat with hat | hat
    · exact h.off us.length x g2 hlast hat rfl
    · omega
  have hold : ∀ (i : Nat) (y : Value), (us ++ [Value.slice (some ⟨g2, 0, none⟩) (cur.length + 1) cap])[i]? = some y → (i < us.length ∧ (us ++ [x])[i]? = some y) ∨ (i = us.length ∧ y = .slice (some ⟨g2, 0, none⟩) (cur.length + 1) cap) := fun i y hy => by
    rcases Nat.lt_or_ge i us.length with hi | hi
    · left
      rw [List.getElem?_append_left hi] at hy
      exact ⟨hi, by rw [List.getElem?_append_left hi]; exact hy⟩
    · right
      rw [List.getElem?_append_right hi] at hy
      have : i - us.length = 0 := by
        have := (List.getElem?_eq_some_iff.1 hy).1
        simpa using this
      rw [this] at hy
      exact ⟨by omega, by simpa using hy.symm⟩
  have hoth : ∀ (i : Nat) (y : Value) (g : Nat), i < us.length → (us ++ [x])[i]? = some y → y.ownBlock = some g → g ≠ g2 ∧ g ≠ go ∧ x.ownBlock ≠ some g := fun i y g hi hy hyg => by
    have h1 := h.lt hy hyg
    have h2 := h.off i y g hy hyg
    have h3 := h.apart i us.length y x g (by omega) hy hlast hyg
    refine ⟨fun e => ?_, fun e => h2 (by rw [e]; rfl), h3⟩
    subst e
    rcases hat with hat | hat
    · exact h3 hat
    · omega
  refine ⟨by simp [hl], by rw [List.length_append, List.length_singleton]; exact hs.1, fun i y l hy hyl => ?_, fun i y g hy hyg => ?_, fun i j y z g hij hy hz hyg => ?_⟩
  · rcases hold i y hy with ⟨hi, hy⟩ | ⟨hi, rfl⟩
    · rw [List.getElem?_append_left (by omega)] at hyl
      have h1 := h.inner i y l hy (by rw [List.getElem?_append_left (by omega)]; exact hyl)
      have h2 : w1.ownsRow base TI k y l.length (cellsOf enc l) := h1.kept hg (by
        cases hv : y.ownBlock with
        | none => exact Or.inl rfl
        | some g => right; intro e; exact (hoth i y g hi hy hv).2.2 e.symm)
      refine h2.kept hs.2 ?_
      cases hv : y.ownBlock with
      | none => exact Or.inl rfl
      | some g => right; intro e; exact (hoth i y g hi hy hv).2.1 (Option.some.inj e)
    · rw [hi, hl, List.getElem?_append_right (Nat.le_refl _), Nat.sub_self] at hyl
      obtain rfl : cur ++ [t] = l := by simpa using hyl
      rw [List.length_append, List.length_singleton, cellsOf_append]
      have e : cellsOf enc [t] = enc t := by simp [cellsOf]
      rw [e]
      exact hown.kept hs.2 (Or.inr (fun e => hne (by simpa [Value.ownBlock] using e)))
  · rcases hold i y hy with ⟨hi, hy⟩ | ⟨_, rfl⟩
    · intro e
      have e : go = g := by simpa [Value.ownBlock] using e
      exact (hoth i y g hi hy hyg).2.1 e.symm
    · intro e
      have e : go = g := by simpa [Value.ownBlock] using e
      have e2 : g2 = g := by simpa [Value.ownBlock] using hyg
      exact hne (by rw [e2, e])
  · rcases hold i y hy with ⟨hi, hy⟩ | ⟨hi, rfl⟩
    · rcases hold j z hz with ⟨hj, hz⟩ | ⟨hj, rfl⟩
      · exact h.apart i j y z g hij hy hz hyg
      · intro e
        have e : g2 = g := by simpa [Value.ownBlock] using e
        exact (hoth i y g hi hy hyg).1 e.symm
    · rcases hold j z hz with ⟨hj, hz⟩ | ⟨hj, rfl⟩
      · intro e
        have e2 : g2 = g := by simpa [Value.ownBlock] using hyg
        exact (hoth j z g hj hz e).1 e2.symm
      · omega
/-- The first: one nil slice. -/
theorem NstV.first (hb : base ≤ w.heap.size) : NstV TO TI k enc (w.alloc (.cells #[.slice none 0 0] TO)) base (.slice (some ⟨w.heap.size, 0, none⟩) 1 1) [.slice none 0 0] [[]] := by
  refine ⟨rfl, World.ownsRow_lit w #[.slice none 0 0] 1 hb (by unfold maxLen; omega) rfl, fun i x l hx hl => ?_, fun i x g hx hg => ?_, fun i j x y g hij hx hy hg => ?_⟩
  · cases i with
    | zero =>
      obtain rfl : Value.slice none 0 0 = x := by simpa using hx
      obtain rfl : [] = l := by simpa using hl
      exact World.ownsRow_nil _ _ _ _
    | succ i => simp at hx
  · cases i with
    | zero =>
      obtain rfl : Value.slice none 0 0 = x := by simpa using hx
      simp [Value.ownBlock] at hg
    | succ i => simp at hx
  · cases i with
    | zero =>
      obtain rfl : Value.slice none 0 0 = x := by simpa using hx
      simp [Value.ownBlock] at hg
    | succ i => simp at hx
end
end Go.Proofs.Ytgdjknpdgajdgaa
namespace Go.Proofs.Ytgdjknpdgajdgaa
open Go.RowKit
variable {P : Program}
theorem wp_alloc_known {o : Oper} {a : Act} {w : World} {K : Act → World → Prop} {Q : Exit → Act → World → Prop} (ty : TypeId) (ho : o.op = .alloc ty) (z : Value) (hz : (zeroValue ty).run P w = .ok z w)
    (h : K (a.put o.dst (.pointer (some ⟨w.heap.size, 0, none⟩))) (w.alloc (.cells z.cells ty))) : o.wp P a w K Q := by
  unfold Oper.wp execOp
  simp only [ho, Instr.alloc, Sem.run_bind, hz, Result.andThen_ok, newVar]
  exact h
theorem wpList_alloc_known {ops : Array Oper} {rest : List Oper} {o : Oper} {a : Act} {w : World} {Q : Exit → Act → World → Prop} (hgd : o.guard = none) (ty : TypeId) (ho : o.op = .alloc ty) (z : Value) (hz : (zeroValue ty).run P w = .ok z w)
    (h : wpList P ops Q rest (a.put o.dst (.pointer (some ⟨w.heap.size, 0, none⟩))) (w.alloc (.cells z.cells ty))) : wpList P ops Q (o :: rest) a w :=
  wpList_plain hgd fun _ hK => wp_alloc_known ty ho z hz (hK _ _ h)
/-- Cells written one behind the other. -/
def setAll : Array Value → Nat → List Value → Array Value
  | c, _, [] => c
  | c, o, v :: r => setAll (c.setIfInBounds o v) (o + 1) r
theorem size_setAll : ∀ (vs : List Value) (c : Array Value) (o : Nat), (setAll c o vs).size = c.size
  | [], _, _ => rfl
  | v :: r, c, o => by rw [setAll, size_setAll r]; simp
theorem setCell_last (w : World) (c : Array Value) (t : TypeId) (o : Nat) (v : Value) : (w.alloc (.cells c t)).setCell ⟨w.heap.size, o, none⟩ v = w.alloc (.cells (c.setIfInBounds o v) t) := by
  rw [setCell_eq_setRow _ _ _ c t (0, 0) v (heap_alloc_last w _), World.setRow_alloc_new]
theorem setCells_last (w : World) (t : TypeId) : ∀ (vs : List Value) (c : Array Value) (o : Nat), (w.alloc (.cells c t)).setCells w.heap.size o vs = w.alloc (.cells (setAll c o vs) t)
  | [], _, _ => rfl
  | v :: r, c, o => by
    rw [World.setCells, setCell_last, setCells_last w t r]
    rfl
theorem there_last (w : World) (c : Array Value) (t : TypeId) (o n : Nat) (h : o + n ≤ c.size) : (w.alloc (.cells c t)).there w.heap.size o n := fun j hj => by
  refine ⟨?_, frozen_of_row _ _ _ _ _ (heap_alloc_last w _)⟩
  rw [cell_of_row _ _ _ _ _ _ (heap_alloc_last w (.cells c t)), Array.getElem?_eq_getElem (by omega)]
  rfl
theorem wpList_store_last {ops : Array Oper} {rest : List Oper} {op : Oper} {a : Act} {w : World} {Q : Exit → Act → World → Prop} (hgd : op.guard = none) (ty : TypeId) (x y : Operand) (ho : op.op = .store ty x y)
    (c : Array Value) (t : TypeId) (g o : Nat) (cells : Array Value) (hg : w.heap.size = g) (hx : a.eval x = .pointer (some ⟨g, o, none⟩)) (hy : a.eval y = .agg cells)
    (hb : o + cells.size ≤ c.size) (hi : (P.info? ty).map (·.size) = some cells.size) (h1 : cells.all (·.oneCell') = true)
    (h : wpList P ops Q rest (a.put op.dst undef) (w.alloc (.cells (setAll c o cells.toList) t))) : wpList P ops Q (op :: rest) a (w.alloc (.cells c t)) := by
  subst hg
  refine wpList_store_mid hgd ty x y ho w.heap.size o cells hx hy (there_last w c t o cells.size hb) hi h1 ?_
  rw [setCells_last]
  exact h
theorem setAll_get : ∀ (vs : List Value) (c : Array Value) (o j : Nat), o + vs.length ≤ c.size → (setAll c o vs)[j]? = if o ≤ j ∧ j < o + vs.length then vs[j - o]? else c[j]?
  | [], c, o, j, _ => by rw [setAll, if_neg (fun h => by simp at h; omega)]
  | v :: r, c, o, j, h => by
    rw [setAll, setAll_get r _ (o + 1) j (by simp at h ⊢; omega)]
    simp only [List.length_cons] at h ⊢
    by_cases h1 : o + 1 ≤ j ∧ j < o + 1 + r.length
    · rw [if_pos h1, if_pos (by omega), show j - o = (j - (o + 1)) + 1 from by omega, List.getElem?_cons_succ]
    · rw [if_neg h1, Array.getElem?_setIfInBounds]
      by_cases h2 : o = j
      · subst h2
        rw [if_pos rfl, if_pos (by omega), if_pos (by omega), Nat.sub_self]; rfl
      · rw [if_neg h2, if_neg (by omega)]
theorem setAll_whole (c cells : Array Value) (h : cells.size = c.size) : setAll c 0 cells.toList = cells := by
  apply Array.ext_getElem?
  intro j
  rw [setAll_get _ _ _ _ (by simp [h])]
  by_cases hj : j < cells.size
  · rw [if_pos (by simpa using hj)]; simp
  · rw [if_neg (by simp; omega), Array.getElem?_eq_none (by omega), Array.getElem?_eq_none (by omega)]
/-- A whole value stored into the block that was made last, for it. -/
theorem wpList_store_new {ops : Array Oper} {rest : List Oper} {op : Oper} {a : Act} {w : World} {Q : Exit → Act → World → Prop} (hgd : op.guard = none) (ty : TypeId) (x y : Operand) (ho : op.op = .store ty x y)
    (c : Array Value) (t : TypeId) (g : Nat) (cells : Array Value) (hg : w.heap.size = g) (hx : a.eval x = .pointer (some ⟨g, 0, none⟩)) (hy : a.eval y = .agg cells)
    (hb : cells.size = c.size) (hi : (P.info? ty).map (·.size) = some cells.size) (h1 : cells.all (·.oneCell') = true)
    (h : wpList P ops Q rest (a.put op.dst undef) (w.alloc (.cells cells t))) : wpList P ops Q (op :: rest) a (w.alloc (.cells c t)) := by
  refine wpList_store_last hgd ty x y ho c t g 0 cells hg hx hy (by omega) hi h1 ?_
  rw [setAll_whole c cells hb]
  exact h
theorem one4 {a b c d : Value} (ha : a.oneCell' = true) (hb : b.oneCell' = true) (hc : c.oneCell' = true) (hd : d.oneCell' = true) : (#[a, b, c, d] : Array Value).all (·.oneCell') = true := by simp [ha, hb, hc, hd]
end Go.Proofs.Ytgdjknpdgajdgaa
namespace Go.Proofs.Ytgdjknpdgajdgaa
open Go.RowKit
def El.isLit : El → Bool
  | .lit _ => true
  | _ => false
/-- The bytes of an element as the reference has them. -/
def El.hasR : El → Nat → Bool
  | .lit b, c => decide (c = b.toNat)
  | .star, _ => false
  | .any, c => decide (32 ≤ c) && decide (c ≤ 126)
  | .set no rs, c => if 32 ≤ c ∧ c ≤ 126 then inRs rs c != no else false
def encER (x : El) : List Value := (elR x.isStar x.isLit x.hasR).toList
theorem encER_len (x : El) : (encER x).length = 130 := by rw [encER, Array.length_toList, size_elR]
theorem zeroEl : Try.zeroCells152 = elR false false (fun _ => false) := by
  unfold elR boolA
  kernel_rfl
theorem elInfo : (Try.prog.info? 152).map (fun i => (i.zero.map (·.cells.size), i.size, i.bytes)) = some (some 130, 130, 130) := by kernel_rfl
theorem elParts : ∃ i z, Try.prog.info? 152 = some i ∧ i.zero = some z ∧ i.size = 130 ∧ i.bytes = 130 ∧ z.cells.size = 130 := by
  have h := elInfo
  cases hq : Try.prog.info? 152 with
  | none => rw [hq] at h; simp at h
  | some i =>
    rw [hq] at h
    simp only [Option.map_some, Option.some.injEq, Prod.mk.injEq] at h
    obtain ⟨h1, h2, h3⟩ := h
    cases hz : i.zero with
    | none => rw [hz] at h1; simp at h1
    | some z => rw [hz] at h1; exact ⟨i, z, rfl, hz, h2, h3, by simpa using h1⟩
theorem slInfo : (Try.prog.info? 140).map (fun i => (i.zero, i.size, i.bytes)) = some (some (.slice none 0 0), 1, 24) := by kernel_rfl
theorem elSize : (Try.prog.info? 152).map (·.size) = some 130 := by kernel_rfl
/-- The load of an element, behind a name. -/
noncomputable def ldEl (v : Value) : Sem Value := Instr.loadAt 152 v
theorem ld_el (v : Value) : Instr.loadAt 152 v = ldEl v := rfl
set_option maxRecDepth 100000 in
theorem ldEl_at {w : World} {g : Nat} {cs : Array Value} {t : TypeId} {fr : Nat × Nat} (h : w.heap[g]? = some (.cells cs t fr)) (hs : cs.size = 130) : (ldEl (.pointer (some ⟨g, 0, none⟩))).run Try.prog w = .ok (.agg cs) w := by
  unfold ldEl
  simp only [Instr.loadAt, Instr.sureAddr, Sem.run_bind, Sem.run_pure, Result.andThen_ok]
  exact run_loadVar_row w g t 152 cs fr _ h Try.underlying152 rfl (by rw [hs]; exact elSize)
attribute [irreducible] ldEl
theorem foldl_setAll : ∀ (l : List Value) (k : Nat) (c : Array Value), (l.zipIdx k).foldl (fun acc x => acc.setIfInBounds (0 + x.2) x.1) c = setAll c k l
  | [], _, _ => rfl
  | v :: r, k, c => by
    rw [List.zipIdx_cons, List.foldl_cons, setAll]
    show List.foldl _ (c.setIfInBounds (0 + k) v) _ = _
    rw [Nat.zero_add]
    exact foldl_setAll r (k + 1) _
theorem fill_one (cs cells : Array Value) (n : Nat) (h1 : cs.size = n) (h2 : cells.size = n) : Instr.fill (fun i => some (i * n, n)) cells [(0, .agg cs)] = some cs := by
  have e : (Value.agg cs).cells = cs := rfl
  simp only [Instr.fill, e, Nat.zero_mul]
  rw [if_neg (by simp [h1, h2])]
  congr 1
  rw [← Array.foldl_toList, Array.toList_zipIdx]
  have := foldl_setAll cs.toList 0 cells
  rw [setAll_whole cells cs (by rw [h1, h2])] at this
  exact this
/-- A slice of one element, made of a whole one, behind a name. -/
noncomputable def bsEl (n : Nat) (parts : Array (Nat × Value)) : Sem Value := Instr.buildSlice 140 n parts
theorem bs_el (n : Nat) (parts : Array (Nat × Value)) : Instr.buildSlice 140 n parts = bsEl n parts := rfl
theorem bsEl_at (cs : Array Value) (hs : cs.size = 130) (w : World) : (bsEl 1 #[(0, .agg cs)]).run Try.prog w = .ok (.slice (some ⟨w.heap.size, 0, none⟩) 1 1) (w.alloc (.cells cs 152)) := by
  obtain ⟨i0, z, hi0, hz0, hz1, hz2, hz3⟩ := elParts
  unfold bsEl
  refine run_buildSlice w _ _ 1 _ cs i0 z Try.underlying140 hi0 hz0 (by rw [hz1]; decide) (by rw [hz1]; decide) ?_
  rw [hz1]
  exact fill_one cs _ 130 hs (by simp)
attribute [irreducible] bsEl
theorem elR_all (st li : Bool) (f : Nat → Bool) : ∀ u ∈ (elR st li f).toList, u.oneCell' = true := fun u hu => by
  unfold elR at hu
  rw [Array.toList_append, List.mem_append] at hu
  rcases hu with hu | hu
  · simp at hu; rcases hu with rfl | rfl <;> simp [Value.oneCell']
  · have := Array.all_eq_true_iff_forall_mem.1 (boolA_one 128 f) u (by simpa using hu)
    exact this
theorem elR_get0 (st li : Bool) (f : Nat → Bool) : (elR st li f)[0]? = some (.bool st) := by
  unfold elR; rw [Array.getElem?_append_left (by simp)]; rfl
theorem elR_get1 (st li : Bool) (f : Nat → Bool) : (elR st li f)[1]? = some (.bool li) := by
  unfold elR; rw [Array.getElem?_append_left (by simp)]; rfl
theorem elR_set0 (st li : Bool) (f : Nat → Bool) (b : Bool) : (elR st li f).setIfInBounds 0 (.bool b) = elR b li f := by
  apply Array.ext_getElem?
  intro i
  rw [Array.getElem?_setIfInBounds, size_elR]
  rcases i with _ | _ | i
  · rw [if_pos rfl, if_pos (by omega), elR_get0]
  · rw [if_neg (by omega), elR_get1, elR_get1]
  · rw [if_neg (by omega), elR_at _ _ _ _ (by omega), elR_at _ _ _ _ (by omega)]
theorem elR_set1 (st li : Bool) (f : Nat → Bool) (b : Bool) : (elR st li f).setIfInBounds 1 (.bool b) = elR st b f := by
  apply Array.ext_getElem?
  intro i
  rw [Array.getElem?_setIfInBounds, size_elR]
  rcases i with _ | _ | i
  · rw [if_neg (by omega), elR_get0, elR_get0]
  · rw [if_pos rfl, if_pos (by omega), elR_get1]
  · rw [if_neg (by omega), elR_at _ _ _ _ (by omega), elR_at _ _ _ _ (by omega)]
/-- What Parse leaves. -/
def GParsePost (p : Str) (w : World) (e : Ending) (w' : World) : Prop :=
  match (if printS p then globP p else none) with
  | none => e = .returned (.tuple #[.slice none 0 0, .bool false]) ∧ Below w.heap.size w w'
  | some alts => ∃ v, e = .returned (.tuple #[v, .bool true]) ∧ Nst 140 152 130 encER w' w.heap.size v alts ∧ Below w.heap.size w w'
attribute [local go_sem ↓] ld_el bs_el
theorem lt_self1 (a : Int) : (a < a + 1) = True := eq_true (by omega)
attribute [local go_sem] lt_self1
theorem printS_drop {p : ByteArray} (h : printS (L p) = true) (j : Nat) (hj : j < p.size) : (p[j].toNat : Int) < 127 := by have := pr_of h j hj; omega
set_option maxRecDepth 100000 in
set_option maxHeartbeats 8000000 in
theorem GParse_any (p : ByteArray) (w : World) (hp : p.size ≤ 256) : Calls Try.prog 86 #[.string p] w (GParsePost (L p) w) := by
  have HPr := Lib.hid (fun W => R2Printable_any p W (by omega))
  cases hpr : printS (L p)
  · rw [hpr] at HPr
    have HN : Hid ((if printS (L p) then globP (L p) else none) = none) := Lib.hid (by rw [hpr]; rfl)
    clear hpr
    go_enter Try.func86, Try.ntmps86
    go_wp2_with (go_at_call 85; refine (HPr.out _).mono ?_; rintro e w1 ⟨rfl, rfl⟩)
    go_ret2
    unfold GParsePost
    rw [HN.out]
    exact ⟨rfl, Below.refl _ _⟩
  rw [hpr] at HPr
  have HG : Hid ((if printS (L p) then globP (L p) else none) = globK (L p) [] []) := Lib.hid (by rw [hpr]; rfl)
  have HP := Lib.hid hpr
  clear hpr
  go_enter Try.func86, Try.ntmps86
  go_wp2_with (go_at_call 85; refine (HPr.out _).mono ?_; rintro e w1 ⟨rfl, rfl⟩)
  clear HPr
  go_loopg [4, 5] (p.size + 1) (fun gk s4 s5 wr => ∃ (i c go : Nat) (us : List Value) (x : Value) (ms : List (List El)) (cur : List El), s5 = .int .i64 i ∧ i + gk = p.size + 1 ∧ i ≤ p.size ∧ us.length + cur.length ≤ i ∧ s4 = .slice (some ⟨go, 0, none⟩) (us.length + 1) c ∧
    Hid (NstV 140 152 130 encER wr w.heap.size (.slice (some ⟨go, 0, none⟩) (us.length + 1) c) (us ++ [x]) (ms ++ [cur])) ∧ Hid (Below w.heap.size w wr) ∧ Hid (globK (L p) [] [] = globK ((L p).drop i) ms cur))
  case atStart => exact ⟨0, 1, w.heap.size, [], .slice none 0 0, [], [], rfl, by omega, Nat.zero_le _, Nat.le_refl _, rfl, NstV.first (Nat.le_refl _), (Below.refl _ _).alloc (Nat.le_refl _) _, rfl⟩
  case round =>
    obtain ⟨i, c, go, us, x, ms, cur, rfl, hig, hi, hul, rfl, hN, hB, hK⟩ := hrel
    by_cases hlt0 : i < p.size
    · have hlt : (i : Int) < (p.size : Int) := by omega
      have hp127 := printS_drop HP.out i hlt0
      have hdr := drop_cons p i hlt0
      go_upto_region 8 with fail
      rw [zeroEl]
      obtain ⟨W1, hW1⟩ : ∃ W1, wr.alloc (.cells (elR false false (fun _ => false)) 152) = W1 := ⟨_, rfl⟩
      rw [hW1]
      have hE1 : W1.heap[wr.heap.size]? = some (.cells (elR false false (fun _ => false)) 152 (0, 0)) := by rw [← hW1]; exact heap_alloc_new _ _
      have hb1 : Below wr.heap.size wr W1 := by rw [← hW1]; exact (Below.refl _ _).alloc (Nat.le_refl _) _
      have HE1 := Lib.hid hE1
      have HN1 := Lib.hid (hN.out.below hb1)
      have HB1 := Lib.hid (bt hB.out hb1)
      have hge : w.heap.size ≤ wr.heap.size := hB.out.size
      have hgl := blk_lt' hE1
      have hgoo : go ≠ wr.heap.size := by
        have h1 := hN.out.outer
        have h2 := (h1.lt go rfl).2
        omega
      have HF := Lib.hid (hN.out.fresh (Nat.le_refl wr.heap.size))
      generalize wr.heap.size = g at *
      clear hE1 hb1 hN hB hW1
      by_cases h124 : p[i] = 124
      · have e124 : ((p[i].toNat : Int) == 124) = true := by rw [h124]; rfl
        have hK2 := hK.out
        rw [hdr, h124, globK_bar] at hK2
        have HK := Lib.hid hK2
        have ho := HN1.out.outer
        rw [List.length_append, List.length_singleton] at ho
        have HO := Lib.hid ho
        obtain ⟨i1, hi0, hz0, hz1, hz2⟩ := info_parts slInfo
        have Hi0 := Lib.hid hi0
        have Hz0 := Lib.hid hz0
        have Hz1 := Lib.hid hz1
        have Hz2 := Lib.hid hz2
        have hws := HB1.out.size
        clear hK hK2 ho hi0 hz0 hz1 hz2 h124 hdr HE1 HF
        go_wp2_with (refine wpList_append_lies _ rfl _ _ _ (by rfl) w.heap.size 140 i1 _ 1 24 Try.underlying136 Hi0.out Hz0.out Hz1.out Hz2.out rfl (by omega) (.slice (some ⟨go, 0, none⟩) (us.length + 1) c) (us.length + 1) (us ++ [x]) (by rfl) (own_below HO.out (by go_grown)) _ 1 1 [.slice none 0 0] (by rfl) (by rfl) (by exact World.news_of_block (B := W1.heap.size) (heap_alloc_new _ _)) (by simp [Value.oneCell']) (by omega) (by unfold maxLen; omega) (by omega) (by simp; omega) _ rfl ?_; intro g2 cap w2 hown2 hgrow2 hat2 hlt2)
        have hN3 := (HN1.out.below (by go_grown)).pushNil (A := some ⟨g2, 0, none⟩) (c := cap) rfl (by simpa using hown2) hgrow2 hat2
        have hB3 := (bt HB1.out (by go_grown)).grown hgrow2 (by simp; omega) (fun k hk => (HO.out.lt k hk).1)
        have HN3 := Lib.hid hN3
        have HB3 := Lib.hid hB3
        clear hown2 hgrow2 hat2 hN3 hB3
        go_wp2
        go_roundg (gk - 1)
        case measure => omega
        case rel => exact ⟨i + 1, cap, g2, us ++ [x], .slice none 0 0, ms ++ [cur], [], by go_num, by omega, by omega, by simp; omega, by simp, HN3.out, HB3.out, HK.out⟩
      · have e124 : ((p[i].toNat : Int) == 124) = false := by
          rw [beq_eq_false_iff_ne]; intro e; exact h124 (UInt8.toNat_inj.1 (Int.ofNat.inj e))
        go_upto_block 2 with fail
        go_cut [4, 5] from 15 to 71 (fun s4 s5 wx => s4 = .slice (some ⟨go, 0, none⟩) (us.length + 1) c ∧ ∃ (j : Nat) (e : El), s5 = .int .i64 j ∧ i ≤ j ∧ j < p.size ∧ Hid (elS p[i] ((L p).drop (i + 1)) = some (e, (L p).drop (j + 1))) ∧ Hid (wx.heap[g]? = some (.cells (elR e.isStar e.isLit e.hasR) 152 (0, 0))) ∧
          Hid (NstV 140 152 130 encER wx w.heap.size (.slice (some ⟨go, 0, none⟩) (us.length + 1) c) (us ++ [x]) (ms ++ [cur])) ∧ Hid (Below w.heap.size w wx))
        case first =>
          by_cases h42 : p[i] = 42
          · have e42 : ((p[i].toNat : Int) == 42) = true := by rw [h42]; rfl
            have HEl : Hid (elS p[i] ((L p).drop (i + 1)) = some (.star, (L p).drop (i + 1))) := Lib.hid (by rw [h42]; rfl)
            have c0 := cellOf HE1.out (elR_get0 false false (fun _ => false))
            have f0 := frozen_of_row _ _ 0 _ _ HE1.out
            have HS1 := Lib.hid (setCell_known HE1.out (elR_set0 false false (fun _ => false) true))
            have HG1 := Lib.hid (grown_set W1 g 0 (.bool true))
            clear h42 h124 e124 hdr
            go_wp2
            go_meet
            exact ⟨rfl, i, .star, rfl, Nat.le_refl _, hlt0, HEl.out, HS1.out, HN1.out.beside HG1.out HF.out, HB1.out.setCell (p := ⟨g, 0, none⟩) hge _⟩
          have e42 : ((p[i].toNat : Int) == 42) = false := by
            rw [beq_eq_false_iff_ne]; intro e; exact h42 (UInt8.toNat_inj.1 (Int.ofNat.inj e))
          by_cases h63 : p[i] = 63
          · have e63 : ((p[i].toNat : Int) == 63) = true := by rw [h63]; rfl
            have HEl : Hid (elS p[i] ((L p).drop (i + 1)) = some (.any, (L p).drop (i + 1))) := Lib.hid (by rw [h63]; rfl)
            clear h63 h42 h124 hdr
            go_wp2
            obtain ⟨gko, rfl⟩ : ∃ gko : Nat, gko = gk := ⟨_, rfl⟩
            go_loopg [7] 97 (fun gk s7 wx => ∃ k : Nat, s7 = .int .i64 k ∧ 32 ≤ k ∧ k ≤ 127 ∧ k + gk = 129 ∧ Hid (wx.heap[g]? = some (.cells (elR false false (fun d => decide (32 ≤ d) && decide (d < k))) 152 (0, 0))) ∧
              Hid (NstV 140 152 130 encER wx w.heap.size (.slice (some ⟨go, 0, none⟩) (us.length + 1) c) (us ++ [x]) (ms ++ [cur])) ∧ Hid (Below w.heap.size w wx))
            case atStart =>
              refine ⟨32, rfl, by omega, by omega, rfl, ?_, HN1.out, HB1.out⟩
              have e : (fun d => decide (32 ≤ d) && decide (d < 32)) = (fun _ => false) := by
                funext d
                simp only [Bool.and_eq_false_iff, decide_eq_false_iff_not]
                omega
              show _ = _
              rw [e]
              exact HE1.out
            case round =>
              obtain ⟨k, rfl, hk1, hk2, hk3, hE, hN, hB⟩ := hrel
              by_cases hk : k ≤ 126
              · have hkI : (k : Int) ≤ 126 := by omega
                have cG := cellOf hE.out (elR_get false false _ k (by omega))
                have fG := frozen_of_row _ _ (2 + k) _ _ hE.out
                have hset := elR_set false false (fun d => decide (32 ≤ d) && decide (d < k)) k true
                have ef : (fun d => if d = k then true else (decide (32 ≤ d) && decide (d < k))) = (fun d => decide (32 ≤ d) && decide (d < k + 1)) := by
                  funext d
                  by_cases hd : d = k
                  · rw [if_pos hd, hd]; simp; omega
                  · rw [if_neg hd]
                    have : decide (d < k) = decide (d < k + 1) := by rw [decide_eq_decide]; omega
                    rw [this]
                rw [ef] at hset
                have HS1 := Lib.hid (setCell_known hE.out hset)
                have HN2 := Lib.hid (hN.out.beside (grown_set _ g (2 + k) (.bool true)) HF.out)
                have HB2 := Lib.hid (hB.out.setCell (p := ⟨g, 2 + k, none⟩) hge (.bool true))
                clear hset ef hE hN hB
                go_wp2
                go_roundg (gk - 1)
                case measure => omega
                case rel => exact ⟨k + 1, by go_num, by omega, by omega, by omega, HS1.out, HN2.out, HB2.out⟩
              · obtain rfl : k = 127 := by omega
                go_wp2
                go_meet
                refine ⟨rfl, i, .any, rfl, Nat.le_refl _, hlt0, HEl.out, ?_, hN.out, hB.out⟩
                have e : (fun d => decide (32 ≤ d) && decide (d < 127)) = El.hasR .any := by
                  funext d
                  show _ = (decide (32 ≤ d) && decide (d ≤ 126))
                  have : decide (d < 127) = decide (d ≤ 126) := by rw [decide_eq_decide]; omega
                  rw [this]
                rw [← e]
                exact hE.out
          have e63 : ((p[i].toNat : Int) == 63) = false := by
            rw [beq_eq_false_iff_ne]; intro e; exact h63 (UInt8.toNat_inj.1 (Int.ofNat.inj e))
          by_cases h91 : p[i] = 91
          · have e91 : ((p[i].toNat : Int) == 91) = true := by rw [h91]; rfl
            have hset := Rset_any p (i + 1) g false false (fun _ => false) W1 hp HP.out hlt0 HE1.out
            have hels : elS p[i] ((L p).drop (i + 1)) = setS ((L p).drop (i + 1)) := by rw [h91]; rfl
            rw [show ((i + 1 : Nat) : Int) = (i : Int) + 1 from by omega] at hset
            unfold SetPost at hset
            cases hs : setS ((L p).drop (i + 1)) with
            | none =>
              rw [hs] at hset hels
              have hK2 := hK.out
              rw [hdr, globK_no _ _ _ _ h124 hels] at hK2
              have HK := Lib.hid hK2
              have HSet := Lib.hid hset
              clear hset hels hs hdr hK hK2 h124 h42 h63 h91
              go_wp2_with (go_at_call 97; refine HSet.out.mono ?_; rintro e w2 ⟨rfl, hg2⟩)
              go_ret2
              unfold GParsePost
              rw [HG.out, HK.out]
              exact ⟨rfl, bt HB1.out (grown_none hg2)⟩
            | some y =>
              obtain ⟨⟨no, rs, e1⟩, m, m1, m2, e2⟩ := setS_suf _ _ hs
              obtain ⟨e, r'⟩ := y
              dsimp only at e1 e2
              subst e1
              rw [List.drop_drop] at e2
              rw [List.length_drop, len_L] at m2
              subst e2
              rw [hs] at hset hels
              dsimp only at hset
              rw [List.length_drop, len_L, show ((p.size : Int) - ((p.size - (i + 1 + m) : Nat) : Int) - 1) = ((i + m : Nat) : Int) from by omega] at hset
              have HEl := Lib.hid hels
              have HSet := Lib.hid hset
              clear hset hels hs hdr h124 h42 h63 h91
              go_wp2_with (go_at_call 97; refine HSet.out.mono ?_; rintro e w2 ⟨rfl, hg2, hE2⟩)
              go_meet
              refine ⟨rfl, i + m, .set no rs, rfl, by omega, by omega, ?_, hE2, HN1.out.beside hg2 HF.out, HB1.out.grown hg2 (by omega) (fun j e => by cases e; exact hge)⟩
              show _ = _
              rw [show i + m + 1 = i + 1 + m from by omega]
              exact HEl.out
          · have e91 : ((p[i].toNat : Int) == 91) = false := by
              rw [beq_eq_false_iff_ne]; intro e; exact h91 (UInt8.toNat_inj.1 (Int.ofNat.inj e))
            have HEl : Hid (elS p[i] ((L p).drop (i + 1)) = some (.lit p[i], (L p).drop (i + 1))) := Lib.hid (by rw [elS, if_neg h42, if_neg h63, if_neg h91])
            have c1 := cellOf HE1.out (elR_get1 false false (fun _ => false))
            have f1 := frozen_of_row _ _ 1 _ _ HE1.out
            have c2 := cellOf HE1.out (elR_get false false (fun _ => false) p[i].toNat (by omega))
            have f2 := frozen_of_row _ _ (2 + p[i].toNat) _ _ HE1.out
            have hs1 := setCell_known HE1.out (elR_set1 false false (fun _ => false) true)
            have hs2 := setCell_known hs1 (elR_set false true (fun _ => false) p[i].toNat true)
            have HN2 := Lib.hid ((HN1.out.beside (grown_set W1 g 1 (.bool true)) HF.out).beside (grown_set _ g (2 + p[i].toNat) (.bool true)) HF.out)
            have HB2 := Lib.hid ((HB1.out.setCell (p := ⟨g, 1, none⟩) hge (.bool true)).setCell (p := ⟨g, 2 + p[i].toNat, none⟩) hge (.bool true))
            have e : (fun d => if d = p[i].toNat then true else false) = El.hasR (.lit p[i]) := by
              funext d
              show _ = decide (d = p[i].toNat)
              by_cases h : d = p[i].toNat
              · rw [if_pos h, decide_eq_true h]
              · rw [if_neg h, decide_eq_false h]
            rw [e] at hs2
            have HE2 := Lib.hid hs2
            clear h42 h124 h63 h91 hdr hs1 hs2 e
            go_wp2
            go_region
            go_wp2
            go_meet
            exact ⟨rfl, i, .lit p[i], rfl, Nat.le_refl _, hlt0, HEl.out, HE2.out, HN2.out.below (Below.refl _ _).drew, HB2.out.drew⟩
        case rest =>
          obtain ⟨rfl, j, e, rfl, hj1, hj2, hel, hE, hN, hB⟩ := hcut
          have hK2 := hK.out
          rw [hdr, globK_el _ _ _ _ h124 e _ hel.out] at hK2
          have HK := Lib.hid hK2
          have ho := hN.out.outer
          simp only [List.length_append, List.length_singleton] at ho
          have hcx := ho.cellAt us.length (by omega)
          rw [List.getElem?_append_right (Nat.le_refl _), Nat.sub_self, List.getElem?_cons_zero] at hcx
          have hfx := ho.frozenAt us.length
          have hlm : us.length = ms.length := by have := hN.out.len; simpa using this
          have hin := hN.out.inner us.length x cur (by simp) (by rw [hlm]; simp)
          have HLm := Lib.hid hlm
          clear hlm
          have HI := Lib.hid hin
          have hsz := size_elR e.isStar e.isLit e.hasR
          have he := ldEl_at (w := wc.drew) (g := g) hE.out hsz
          have hall := elR_all e.isStar e.isLit e.hasR
          have hbs := bsEl_at _ hsz
          have henc : (elR e.isStar e.isLit e.hasR).toList = encER e := rfl
          generalize elR e.isStar e.isLit e.hasR = cs at *
          have HSz := Lib.hid hsz
          have HAll := Lib.hid hall
          have HEnc := Lib.hid henc
          clear hK hK2 ho hin hsz hall henc hdr h124 e124 hE HE1 HN1 HB1 HF hel
          have hxo : some go ≠ x.ownBlock := fun e => hN.out.off us.length x go (by simp) e.symm rfl
          have HX := Lib.hid hxo
          have hwc := hB.out.size
          have hgo := (hN.out.outer.lt go rfl).2
          obtain ⟨i0, z, hi0, hz0, hz1, hz2, hz3⟩ := elParts
          have Hi0 := Lib.hid hi0
          have Hz0 := Lib.hid hz0
          have Hz1 := Lib.hid hz1
          have Hz2 := Lib.hid hz2
          have Hz3 := Lib.hid hz3
          clear hxo hi0 hz0 hz1 hz2 hz3
          go_wp2
          go_region_law (first | (refine step_append_lies _ (by rfl) _ _ _ (by rfl) w.heap.size 152 i0 z 130 130 Try.underlying140 Hi0.out Hz0.out Hz1.out Hz2.out Hz3.out (by omega) x cur.length (cellsOf encER cur) (by rfl) (own_below HI.out (by go_grown)) _ 1 1 cs.toList (by rfl) (by have := HSz.out; simp [this]) (by exact World.news_of_block (B := wc.heap.size) (heap_alloc_new _ _)) HAll.out (by omega) (by unfold maxLen; omega) (by omega) (by simp; omega) _ rfl ?_; intro g2 cap w2 hown2 hgrow2 hat2 hlt2; have c2 := ((grown_below (by go_grown : Below wc.heap.size wc _) _).trans hgrow2).cell (a := ⟨go, us.length, none⟩) hcx HX.out; have f2 := (((grown_below (by go_grown : Below wc.heap.size wc _) _).trans hgrow2).frozen_far ⟨go, us.length, none⟩ hgo HX.out).trans hfx))
          all_goals
            rw [HEnc.out] at hown2
            have hN3 := (hN.out.below (by go_grown)).appendLast hown2 hgrow2 hat2
            have hgb := (hN.out.outer.lt go rfl).1
            have hB3 := ((bt hB.out (by go_grown)).grown hgrow2 (by simp; omega) (fun k hk => (HI.out.lt k hk).1)).setCell (p := ⟨go, us.length, none⟩) hgb (.slice (some ⟨g2, 0, none⟩) (cur.length + 1) cap)
            have HN3 := Lib.hid hN3
            have HB3 := Lib.hid hB3
            clear hown2 hgrow2 hat2 hN3 hB3 c2 f2 he hbs hcx hfx hN hB
            go_wp2
            go_roundg (gk - (j + 1 - i))
            case measure => omega
            case rel => exact ⟨j + 1, c, go, us, _, ms, cur ++ [e], by go_num, by omega, by omega, by simp; omega, rfl, HN3.out, HB3.out, HK.out⟩
    · have hlt : ¬ (i : Int) < (p.size : Int) := by omega
      have hK2 := hK.out
      rw [List.drop_eq_nil_of_le (by rw [len_L]; omega), globK_nil] at hK2
      have HK := Lib.hid hK2
      clear hK2 hK
      go_wp2
      go_ret2
      unfold GParsePost
      rw [HG.out, HK.out]
      exact ⟨_, rfl, ⟨_, hN.out⟩, hB.out⟩
end Go.Proofs.Ytgdjknpdgajdgaa
