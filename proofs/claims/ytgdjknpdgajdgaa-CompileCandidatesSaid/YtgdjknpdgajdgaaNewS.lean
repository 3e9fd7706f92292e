/-
  Compile's New under way: the program in its box, the fronts, the map of the keys, the lists of places, none in another's memory.
-/
import Derived.Test.YtgdjknpdgajdgaaG04
import Derived.Test.YtgdjknpdgajdgaaG05
import Derived.Test.YtgdjknpdgajdgaaFronts
namespace Go.Proofs.Ytgdjknpdgajdgaa
open Go.RowKit Go.Maps
abbrev FrV := NstV (α := Tm) 44 43 4 encTm
/-- The blocks that are not the groups'. -/
def NoS (F : Value) (vs : List Value) (G Lb : Value) (g : Nat) : Prop := F.ownBlock = some g ∨ (∃ x ∈ vs, x.ownBlock = some g) ∨ G.ownBlock = some g ∨ Lb.ownBlock = some g
structure NewSt (wb : World) (RV : Value) (fs : List (List Tm)) (vs : List Value) (F : Value) (n : Nat) (D : DW) (G : Value) (gl : List Int) (Lb : Value) (ll : List Int) (W : World) : Prop where
  bel : Below wb.heap.size wb W
  lo : wb.heap.size + 2 ≤ W.heap.size
  box : W.heap[wb.heap.size + 1]? = some (.cells #[RV, F, .map (some wb.heap.size), G, Lb] 60 (0, 0))
  fr : FrV W (wb.heap.size + 2) F vs fs
  gr : W.ownsGroups Try.prog 9 (wb.heap.size + 2) 3 .i64 wb.heap.size n D
  ge : W.ownsRow (wb.heap.size + 2) 3 1 G gl.length (iV gl)
  la : W.ownsRow (wb.heap.size + 2) 3 1 Lb ll.length (iV ll)
  sh : W.Shuns wb.heap.size (NoS F vs G Lb)
  d1 : ∀ g, (F.ownBlock = some g ∨ ∃ x ∈ vs, x.ownBlock = some g) → G.ownBlock ≠ some g ∧ Lb.ownBlock ≠ some g
  d2 : ∀ g, G.ownBlock = some g → Lb.ownBlock ≠ some g
section
variable {wb W W1 W2 : World} {RV F G Lb : Value} {fs : List (List Tm)} {vs : List Value} {n : Nat} {D : DW} {gl ll : List Int}
theorem NewSt.mlt (h : NewSt wb RV fs vs F n D G gl Lb ll W) : wb.heap.size < W.heap.size := by have := h.lo; omega
/-- A block of the program's own. -/
theorem NewSt.noLt (h : NewSt wb RV fs vs F n D G gl Lb ll W) {g : Nat} (hg : NoS F vs G Lb g) : wb.heap.size + 2 ≤ g ∧ g < W.heap.size := by
  rcases hg with hg | ⟨x, hx, hg⟩ | hg | hg
  · exact h.fr.outer.lt g hg
  · obtain ⟨i, hi, rfl⟩ := List.getElem_of_mem hx
    exact h.fr.lt (List.getElem?_eq_getElem hi) hg
  · exact h.ge.lt g hg
  · exact h.la.lt g hg
/-- A step that makes new memory, or writes to a block that is none of these. -/
theorem NewSt.step (h : NewSt wb RV fs vs F n D G gl Lb ll W) {row : Option Nat} (hg : W.grownBy W1 row) (hr : ∀ g, row = some g → W.heap.size ≤ g) : NewSt wb RV fs vs F n D G gl Lb ll W1 := by
  have hm := h.mlt
  have hlo := h.lo
  have nb : ∀ {v : Value} {k : Nat} {e : TypeId} {m : Nat} {xs : List Value}, W.ownsRow (wb.heap.size + 2) e k v m xs → v.ownBlock = none ∨ v.ownBlock ≠ row := fun {v _ _ _ _} ho => by
    cases hv : v.ownBlock with
    | none => exact Or.inl rfl
    | some g => right; intro e; have := (ho.lt g hv).2; have := hr g e.symm; omega
  refine ⟨h.bel.grown hg (by omega) (fun j e => by have := hr j e; omega), Nat.le_trans hlo hg.size, (hg.block _ (blk_lt' h.box) (fun e => by have := hr _ e.symm; have := blk_lt' h.box; omega)).trans h.box, h.fr.other hg (fun g e => Or.inr (hr g e)), ?_, h.ge.kept hg (nb h.ge), h.la.kept hg (nb h.la), h.sh.kept hg hm (fun e => by have := hr _ e.symm; omega), h.d1, h.d2⟩
  refine h.gr.kept hg (fun e => by have := hr _ e.symm; omega) ?_
  cases hrow : row with
  | none =>
    intro es clock hb x hx
    cases x.val.ownBlock <;> simp
  | some r =>
    have h2 : W.Shuns wb.heap.size (fun g => NoS F vs G Lb g ∨ W.heap.size ≤ g) := h.sh.reno h.gr (fun g hg => by
      rcases hg with hg | hg
      · exact Or.inl hg
      · exact Or.inr hg)
    exact h2.rowsOff (fun j e => Or.inr (hr j (by rw [hrow]; exact e)))
theorem NewSt.go (h : NewSt wb RV fs vs F n D G gl Lb ll W) (hb : Below W.heap.size W W1) : NewSt wb RV fs vs F n D G gl Lb ll W1 := h.step (grown_below hb none) (fun _ e => by cases e)
/-- A field of the box is written; all else stands. -/
theorem NewSt.boxed (h : NewSt wb RV fs vs F n D G gl Lb ll W) {A : Array Value} (hg : W.grownBy W1 (some (wb.heap.size + 1))) (_hx : W1.heap[wb.heap.size + 1]? = some (.cells A 60 (0, 0))) :
    Below wb.heap.size wb W1 ∧ wb.heap.size + 2 ≤ W1.heap.size ∧ FrV W1 (wb.heap.size + 2) F vs fs ∧ W1.ownsGroups Try.prog 9 (wb.heap.size + 2) 3 .i64 wb.heap.size n D ∧ W1.ownsRow (wb.heap.size + 2) 3 1 G gl.length (iV gl) ∧ W1.ownsRow (wb.heap.size + 2) 3 1 Lb ll.length (iV ll) ∧ W1.Shuns wb.heap.size (NoS F vs G Lb) := by
  have hm := h.mlt
  have hlo := h.lo
  have nb : ∀ {v : Value} {k : Nat} {e : TypeId} {m : Nat} {xs : List Value}, W.ownsRow (wb.heap.size + 2) e k v m xs → v.ownBlock = none ∨ v.ownBlock ≠ some (wb.heap.size + 1) := fun {v _ _ _ _} ho => by
    cases hv : v.ownBlock with
    | none => exact Or.inl rfl
    | some g => right; intro e; have := (ho.lt g hv).1; injection e with e; omega
  exact ⟨h.bel.grown hg (by omega) (fun j e => by injection e with e; omega), Nat.le_trans hlo hg.size, h.fr.other hg (fun g e => Or.inl (by injection e with e; omega)),
    h.gr.kept hg (fun e => by injection e with e; omega) (h.gr.rowsAbove (fun j e => by injection e with e; omega)), h.ge.kept hg (nb h.ge), h.la.kept hg (nb h.la), h.sh.kept hg hm (fun e => by injection e with e; omega)⟩
/-- The general list has grown. -/
theorem NewSt.gen (h : NewSt wb RV fs vs F n D G gl Lb ll W) {x : Int} {g2 c : Nat} (hown : W1.ownsRow (wb.heap.size + 2) 3 1 (.slice (some ⟨g2, 0, none⟩) (gl.length + 1) c) (gl.length + 1) (iV gl ++ [.int .i64 x])) (hg : W.grownBy W1 G.ownBlock) (hat : G.ownBlock = some g2 ∨ g2 = W.heap.size)
    (hg2 : W1.grownBy W2 (some (wb.heap.size + 1))) (hx : W2.heap[wb.heap.size + 1]? = some (.cells #[RV, F, .map (some wb.heap.size), .slice (some ⟨g2, 0, none⟩) (gl.length + 1) c, Lb] 60 (0, 0))) :
    NewSt wb RV fs vs F n D (.slice (some ⟨g2, 0, none⟩) (gl.length + 1) c) (gl ++ [x]) Lb ll W2 := by
  have hm := h.mlt
  have hlo := h.lo
  have gb : ∀ g, G.ownBlock = some g → wb.heap.size + 2 ≤ g ∧ g < W.heap.size := fun g e => h.ge.lt g e
  have hfr : FrV W1 (wb.heap.size + 2) F vs fs := by
    cases hG : G.ownBlock with
    | none => rw [hG] at hg; exact h.fr.below (grown_none hg)
    | some r =>
      rw [hG] at hg
      exact h.fr.beside hg ⟨fun e => (h.d1 r (Or.inl e)).1 hG, fun y hy e => (h.d1 r (Or.inr ⟨y, hy, e⟩)).1 hG⟩
  have hla : W1.ownsRow (wb.heap.size + 2) 3 1 Lb ll.length (iV ll) := h.la.kept hg (by
    cases hL : Lb.ownBlock with
    | none => exact Or.inl rfl
    | some r => right; intro e; exact h.d2 r e.symm hL)
  have hgr : W1.ownsGroups Try.prog 9 (wb.heap.size + 2) 3 .i64 wb.heap.size n D := h.gr.kept hg (fun e => by have := (gb _ e.symm).1; omega) (h.sh.rowsOff (fun j e => Or.inr (Or.inr (Or.inl e))))
  have nb : ∀ {v : Value} {k : Nat} {e : TypeId} {m : Nat} {xs : List Value}, W1.ownsRow (wb.heap.size + 2) e k v m xs → v.ownBlock = none ∨ v.ownBlock ≠ some (wb.heap.size + 1) := fun {v _ _ _ _} ho => by
    cases hv : v.ownBlock with
    | none => exact Or.inl rfl
    | some g => right; intro e; have := (ho.lt g hv).1; injection e with e; omega
  have hs1 := hg.size
  have hb1 : Below wb.heap.size wb W1 := h.bel.grown hg (by omega) (fun j e => by have := (gb j e).1; omega)
  have hgr2 : W2.ownsGroups Try.prog 9 (wb.heap.size + 2) 3 .i64 wb.heap.size n D := hgr.kept hg2 (fun e => by injection e with e; omega) (hgr.rowsAbove (fun j e => by injection e with e; omega))
  have nl : ∀ g, Lb.ownBlock = some g → g < W.heap.size := fun g e => (h.la.lt g e).2
  have nf : ∀ g, (F.ownBlock = some g ∨ ∃ x ∈ vs, x.ownBlock = some g) → g < W.heap.size := fun g e => (h.noLt (g := g) (by rcases e with e | e; exact Or.inl e; exact Or.inr (Or.inl e))).2
  refine ⟨hb1.grown hg2 (by omega) (fun j e => by injection e with e; omega), by have := hg2.size; omega, hx, hfr.other hg2 (fun g e => Or.inl (by injection e with e; omega)), hgr2, by rw [List.length_append, iV_app]; exact hown.kept hg2 (nb hown), hla.kept hg2 (nb hla), ?_, fun g e => ⟨fun e2 => ?_, (h.d1 g e).2⟩, fun g e e2 => ?_⟩
  · refine ((h.sh.reno h.gr (No' := NoS F vs (.slice (some ⟨g2, 0, none⟩) (gl.length + 1) c) Lb) (fun g hN => ?_)).kept hg hm (fun e => by have := (gb _ e.symm).1; omega)).kept hg2 (by omega) (fun e => by injection e with e; omega)
    rcases hN with hN | hN | hN | hN
    · exact Or.inl (Or.inl hN)
    · exact Or.inl (Or.inr (Or.inl hN))
    · have e : g2 = g := by simpa [Value.ownBlock] using hN
      rcases hat with hat | hat
      · exact Or.inl (Or.inr (Or.inr (Or.inl (by rw [hat, e]))))
      · exact Or.inr (by omega)
    · exact Or.inl (Or.inr (Or.inr (Or.inr hN)))
  · have e2 : g2 = g := by simpa [Value.ownBlock] using e2
    rcases hat with hat | hat
    · exact (h.d1 g e).1 (by rw [hat, e2])
    · have := nf g e; omega
  · have e : g2 = g := by simpa [Value.ownBlock] using e
    rcases hat with hat | hat
    · exact h.d2 g (by rw [hat, e]) e2
    · have := nl g e2; omega
/-- The list of labels has grown. -/
theorem NewSt.lab (h : NewSt wb RV fs vs F n D G gl Lb ll W) {x : Int} {g2 c : Nat} (hown : W1.ownsRow (wb.heap.size + 2) 3 1 (.slice (some ⟨g2, 0, none⟩) (ll.length + 1) c) (ll.length + 1) (iV ll ++ [.int .i64 x])) (hg : W.grownBy W1 Lb.ownBlock) (hat : Lb.ownBlock = some g2 ∨ g2 = W.heap.size)
    (hg2 : W1.grownBy W2 (some (wb.heap.size + 1))) (hx : W2.heap[wb.heap.size + 1]? = some (.cells #[RV, F, .map (some wb.heap.size), G, .slice (some ⟨g2, 0, none⟩) (ll.length + 1) c] 60 (0, 0))) :
    NewSt wb RV fs vs F n D G gl (.slice (some ⟨g2, 0, none⟩) (ll.length + 1) c) (ll ++ [x]) W2 := by
  have hm := h.mlt
  have hlo := h.lo
  have gb : ∀ g, Lb.ownBlock = some g → wb.heap.size + 2 ≤ g ∧ g < W.heap.size := fun g e => h.la.lt g e
  have hfr : FrV W1 (wb.heap.size + 2) F vs fs := by
    cases hG : Lb.ownBlock with
    | none => rw [hG] at hg; exact h.fr.below (grown_none hg)
    | some r =>
      rw [hG] at hg
      exact h.fr.beside hg ⟨fun e => (h.d1 r (Or.inl e)).2 hG, fun y hy e => (h.d1 r (Or.inr ⟨y, hy, e⟩)).2 hG⟩
  have hge : W1.ownsRow (wb.heap.size + 2) 3 1 G gl.length (iV gl) := h.ge.kept hg (by
    cases hL : G.ownBlock with
    | none => exact Or.inl rfl
    | some r => right; intro e; exact h.d2 r hL e.symm)
  have hgr : W1.ownsGroups Try.prog 9 (wb.heap.size + 2) 3 .i64 wb.heap.size n D := h.gr.kept hg (fun e => by have := (gb _ e.symm).1; omega) (h.sh.rowsOff (fun j e => Or.inr (Or.inr (Or.inr e))))
  have nb : ∀ {v : Value} {k : Nat} {e : TypeId} {m : Nat} {xs : List Value}, W1.ownsRow (wb.heap.size + 2) e k v m xs → v.ownBlock = none ∨ v.ownBlock ≠ some (wb.heap.size + 1) := fun {v _ _ _ _} ho => by
    cases hv : v.ownBlock with
    | none => exact Or.inl rfl
    | some g => right; intro e; have := (ho.lt g hv).1; injection e with e; omega
  have hs1 := hg.size
  have hb1 : Below wb.heap.size wb W1 := h.bel.grown hg (by omega) (fun j e => by have := (gb j e).1; omega)
  have hgr2 : W2.ownsGroups Try.prog 9 (wb.heap.size + 2) 3 .i64 wb.heap.size n D := hgr.kept hg2 (fun e => by injection e with e; omega) (hgr.rowsAbove (fun j e => by injection e with e; omega))
  have nl : ∀ g, G.ownBlock = some g → g < W.heap.size := fun g e => (h.ge.lt g e).2
  have nf : ∀ g, (F.ownBlock = some g ∨ ∃ x ∈ vs, x.ownBlock = some g) → g < W.heap.size := fun g e => (h.noLt (g := g) (by rcases e with e | e; exact Or.inl e; exact Or.inr (Or.inl e))).2
  refine ⟨hb1.grown hg2 (by omega) (fun j e => by injection e with e; omega), by have := hg2.size; omega, hx, hfr.other hg2 (fun g e => Or.inl (by injection e with e; omega)), hgr2, hge.kept hg2 (nb hge), by rw [List.length_append, iV_app]; exact hown.kept hg2 (nb hown), ?_, fun g e => ⟨(h.d1 g e).1, fun e2 => ?_⟩, fun g e2 e => ?_⟩
  · refine ((h.sh.reno h.gr (No' := NoS F vs G (.slice (some ⟨g2, 0, none⟩) (ll.length + 1) c)) (fun g hN => ?_)).kept hg hm (fun e => by have := (gb _ e.symm).1; omega)).kept hg2 (by omega) (fun e => by injection e with e; omega)
    rcases hN with hN | hN | hN | hN
    · exact Or.inl (Or.inl hN)
    · exact Or.inl (Or.inr (Or.inl hN))
    · exact Or.inl (Or.inr (Or.inr (Or.inl hN)))
    · have e : g2 = g := by simpa [Value.ownBlock] using hN
      rcases hat with hat | hat
      · exact Or.inl (Or.inr (Or.inr (Or.inr (by rw [hat, e]))))
      · exact Or.inr (by omega)
  · have e2 : g2 = g := by simpa [Value.ownBlock] using e2
    rcases hat with hat | hat
    · exact (h.d1 g e).2 (by rw [hat, e2])
    · have := nf g e; omega
  · have e : g2 = g := by simpa [Value.ownBlock] using e
    rcases hat with hat | hat
    · exact h.d2 g e2 (by rw [hat, e])
    · have := nl g e2; omega
/-- One more front. -/
theorem NewSt.front {Wp : World} (hp : NewSt wb RV fs vs F n D G gl Lb ll Wp) (hb : Below Wp.heap.size Wp W) {x : Value} {l : List Tm} {g2 c : Nat} (hx : W.ownsRow Wp.heap.size 43 4 x l.length (cellsOf encTm l))
    (hown : W1.ownsRow (wb.heap.size + 2) 44 1 (.slice (some ⟨g2, 0, none⟩) (vs.length + 1) c) (vs.length + 1) (vs ++ [x])) (hg : W.grownBy W1 F.ownBlock) (hat : F.ownBlock = some g2 ∨ g2 = W.heap.size)
    (hg2 : W1.grownBy W2 (some (wb.heap.size + 1))) (hxx : W2.heap[wb.heap.size + 1]? = some (.cells #[RV, .slice (some ⟨g2, 0, none⟩) (vs.length + 1) c, .map (some wb.heap.size), G, Lb] 60 (0, 0))) :
    NewSt wb RV (fs ++ [l]) (vs ++ [x]) (.slice (some ⟨g2, 0, none⟩) (vs.length + 1) c) n D G gl Lb ll W2 := by
  have h := hp.go hb
  have hm := h.mlt
  have hlo := h.lo
  have hsz := hb.size
  have hpl := hp.lo
  have xlt : ∀ g, x.ownBlock = some g → Wp.heap.size ≤ g ∧ g < W.heap.size := fun g e => hx.lt g e
  have gb : ∀ g, F.ownBlock = some g → wb.heap.size + 2 ≤ g ∧ g < W.heap.size := fun g e => h.fr.outer.lt g e
  have hx2 : W.ownsRow (wb.heap.size + 2) 43 4 x l.length (cellsOf encTm l) := own_base hx hpl
  have hfr : FrV W1 (wb.heap.size + 2) (.slice (some ⟨g2, 0, none⟩) (vs.length + 1) c) (vs ++ [x]) (fs ++ [l]) :=
    h.fr.push (g2 := g2) hx2 (fun g e => ⟨fun e2 => by have := (hp.noLt (Or.inl e2)).2; have := (xlt g e).1; omega, fun y hy e2 => by have := (hp.noLt (Or.inr (Or.inl ⟨y, hy, e2⟩))).2; have := (xlt g e).1; omega⟩) rfl hown hg (by
      rcases hat with e | e
      · exact Or.inl e
      · exact Or.inr (by omega))
  have nb : ∀ {v : Value} {k : Nat} {e : TypeId} {m : Nat} {xs : List Value}, W1.ownsRow (wb.heap.size + 2) e k v m xs → v.ownBlock = none ∨ v.ownBlock ≠ some (wb.heap.size + 1) := fun {v _ _ _ _} ho => by
    cases hv : v.ownBlock with
    | none => exact Or.inl rfl
    | some g => right; intro e; have := (ho.lt g hv).1; injection e with e; omega
  have hge : W1.ownsRow (wb.heap.size + 2) 3 1 G gl.length (iV gl) := h.ge.kept hg (by
    cases hL : G.ownBlock with
    | none => exact Or.inl rfl
    | some r => right; intro e; exact (h.d1 r (Or.inl e.symm)).1 hL)
  have hla : W1.ownsRow (wb.heap.size + 2) 3 1 Lb ll.length (iV ll) := h.la.kept hg (by
    cases hL : Lb.ownBlock with
    | none => exact Or.inl rfl
    | some r => right; intro e; exact (h.d1 r (Or.inl e.symm)).2 hL)
  have hgr : W1.ownsGroups Try.prog 9 (wb.heap.size + 2) 3 .i64 wb.heap.size n D := h.gr.kept hg (fun e => by have := (gb _ e.symm).1; omega) (h.sh.rowsOff (fun j e => Or.inl e))
  have hs1 := hg.size
  have hb1 : Below wb.heap.size wb W1 := h.bel.grown hg (by omega) (fun j e => by have := (gb j e).1; omega)
  have hgr2 : W2.ownsGroups Try.prog 9 (wb.heap.size + 2) 3 .i64 wb.heap.size n D := hgr.kept hg2 (fun e => by injection e with e; omega) (hgr.rowsAbove (fun j e => by injection e with e; omega))
  have nG : ∀ g, G.ownBlock = some g → g < Wp.heap.size := fun g e => (hp.ge.lt g e).2
  have nL : ∀ g, Lb.ownBlock = some g → g < Wp.heap.size := fun g e => (hp.la.lt g e).2
  have cases1 : ∀ g, ((Value.slice (some ⟨g2, 0, none⟩) (vs.length + 1) c).ownBlock = some g ∨ ∃ y ∈ vs ++ [x], y.ownBlock = some g) → (F.ownBlock = some g ∨ ∃ y ∈ vs, y.ownBlock = some g) ∨ Wp.heap.size ≤ g := fun g e => by
    rcases e with e | ⟨y, hy, e⟩
    · have e : g2 = g := by simpa [Value.ownBlock] using e
      rcases hat with hat | hat
      · exact Or.inl (Or.inl (by rw [hat, e]))
      · exact Or.inr (by omega)
    · rcases List.mem_append.1 hy with hy | hy
      · exact Or.inl (Or.inr ⟨y, hy, e⟩)
      · obtain rfl := List.mem_singleton.1 hy
        exact Or.inr (xlt g e).1
  have hml := hp.mlt
  refine ⟨hb1.grown hg2 (by omega) (fun j e => by injection e with e; omega), by have := hg2.size; omega, hxx, hfr.other hg2 (fun g e => Or.inl (by injection e with e; omega)), hgr2, hge.kept hg2 (nb hge), hla.kept hg2 (nb hla), ?_, fun g e => ?_, h.d2⟩
  · refine (((hp.sh.reno hp.gr (No' := NoS (.slice (some ⟨g2, 0, none⟩) (vs.length + 1) c) (vs ++ [x]) G Lb) (fun g hN => ?_)).kept (grown_below hb none) hml (by simp)).kept hg hm (fun e => by have := (gb _ e.symm).1; omega)).kept hg2 (by omega) (fun e => by injection e with e; omega)
    rcases hN with hN | hN | hN | hN
    · rcases cases1 g (Or.inl hN) with (e | e) | e
      · exact Or.inl (Or.inl e)
      · exact Or.inl (Or.inr (Or.inl e))
      · exact Or.inr e
    · rcases cases1 g (Or.inr hN) with (e | e) | e
      · exact Or.inl (Or.inl e)
      · exact Or.inl (Or.inr (Or.inl e))
      · exact Or.inr e
    · exact Or.inl (Or.inr (Or.inr (Or.inl hN)))
    · exact Or.inl (Or.inr (Or.inr (Or.inr hN)))
  · rcases cases1 g e with e | e
    · exact h.d1 g e
    · exact ⟨fun e2 => by have := nG g e2; omega, fun e2 => by have := nL g e2; omega⟩
/-- One more place in the list of a key: behind the append, the store into the map. -/
theorem NewSt.keyed (h : NewSt wb RV fs vs F n D G gl Lb ll W) (hn : n < maxLen) {t E : TypeId} (K : Keyed Try.prog 9) (ht : Try.prog.underlying t = some (.map 9 E)) {key : Value} {kl : Lit} {v v' : Value} {zs zs' : List Int} (hkey : keyOf Try.prog 9 key = some kl) (hu : W.ownsInts (wb.heap.size + 2) 3 .i64 v zs)
    (hback : W.groupBack Try.prog t 9 (wb.heap.size + 2) 3 .i64 wb.heap.size n D key kl v) (hsh : ∀ No : Nat → Prop, W.Shuns wb.heap.size No → ∀ g, v.ownBlock = some g → ¬ No g)
    (hg : W.grownBy W1 v.ownBlock) (hown' : W1.ownsInts (wb.heap.size + 2) 3 .i64 v' zs') (hl' : zs'.length ≤ n + 1) (hloc : v'.ownBlock = v.ownBlock ∨ ∃ g, v'.ownBlock = some g ∧ W.heap.size ≤ g) :
    ∃ w2, (Instr.mapUpdate t (.map (some wb.heap.size)) key v').run Try.prog W1 = .ok () w2 ∧ NewSt wb RV fs vs F (n + 1) (D.put kl (rowDatum .i64 v' zs')) G gl Lb ll w2 ∧ W1.grownBy w2 (some wb.heap.size) := by
  have hm := h.mlt
  have hlo := h.lo
  have hno : ∀ g, v.ownBlock = some g → ¬ NoS F vs G Lb g := hsh _ h.sh
  have vb : ∀ g, v.ownBlock = some g → wb.heap.size + 2 ≤ g ∧ g < W.heap.size := fun g e => hu.1.lt g e
  obtain ⟨w2, hrun, r1, r2⟩ := hback W1 v' zs' hg hown' hl' hloc
  have hs1 := hg.size
  have hs2 := r2.size
  have hno' : ∀ g, v'.ownBlock = some g → ¬ NoS F vs G Lb g := fun g e hN => by
    rcases hloc with e2 | ⟨g', e2, h3⟩
    · exact hno g (by rw [← e2]; exact e) hN
    · have := (h.noLt hN).2
      rw [e2] at e
      injection e with e
      omega
  have hshun : w2.Shuns wb.heap.size (NoS F vs G Lb) := by
    obtain ⟨es, clock, hb, Ft, hs, _, hbb, _⟩ := h.gr
    have hb1 : W1.heap[wb.heap.size]? = some (.map es clock) := (hg.block _ hm (fun e1 => by have := (vb _ e1.symm).1; omega)).trans hb
    obtain ⟨es', clock', hb2, hwho⟩ := stored_who K ht hb1 Ft (Nat.lt_of_le_of_lt hs hn) hkey hrun
    intro es2 clock2 hb2' y hy g hyg
    obtain ⟨rfl, rfl⟩ : es' = es2 ∧ clock' = clock2 := by rw [hb2] at hb2'; simpa using hb2'
    rcases hwho y hy with ⟨hy0, _⟩ | ⟨_, hval⟩
    · exact h.sh es clock hb y hy0 g hyg
    · exact hno' g (hval ▸ hyg)
  have k1 : ∀ {u : Value} {k : Nat} {e : TypeId} {m : Nat} {xs : List Value}, W.ownsRow (wb.heap.size + 2) e k u m xs → (∀ g, u.ownBlock = some g → NoS F vs G Lb g) → w2.ownsRow (wb.heap.size + 2) e k u m xs := fun {u _ _ _ _} ho hN => by
    refine (ho.kept hg ?_).kept r2 ?_
    · cases hv : u.ownBlock with
      | none => exact Or.inl rfl
      | some g => right; intro e; exact hno g e.symm (hN g hv)
    · cases hv : u.ownBlock with
      | none => exact Or.inl rfl
      | some g => right; intro e; have := (ho.lt g hv).1; injection e with e; omega
  have hfr : FrV w2 (wb.heap.size + 2) F vs fs := ⟨h.fr.len, k1 h.fr.outer (fun g e => Or.inl e), fun i x l hx hl => k1 (h.fr.inner i x l hx hl) (fun g e => Or.inr (Or.inl ⟨x, List.mem_of_getElem? hx, e⟩)), h.fr.off, h.fr.apart⟩
  have hbx : w2.heap[wb.heap.size + 1]? = some (.cells #[RV, F, .map (some wb.heap.size), G, Lb] 60 (0, 0)) := by
    rw [r2.block (wb.heap.size + 1) (by omega) (fun e => by injection e with e; omega), hg.block (wb.heap.size + 1) (by omega) (fun e => by have := (vb _ e.symm).1; omega)]
    exact h.box
  refine ⟨w2, hrun, ⟨(h.bel.grown hg (by omega) (fun j e => by have := (vb j e).1; omega)).grown r2 (by omega) (fun j e => by injection e with e; omega), by omega, hbx, hfr, r1, k1 h.ge (fun g e => Or.inr (Or.inr (Or.inl e))), k1 h.la (fun g e => Or.inr (Or.inr (Or.inr e))), hshun, h.d1, h.d2⟩, r2⟩
/-- A program that has just been made. -/
theorem NewSt.start {RV : Value} (hmp : W.heap[wb.heap.size]? = some (.map #[] 0)) (hbx : W.heap[wb.heap.size + 1]? = some (.cells #[RV, .slice none 0 0, .map (some wb.heap.size), .slice none 0 0, .slice none 0 0] 60 (0, 0))) (hb : Below wb.heap.size wb W) (hlo : wb.heap.size + 2 ≤ W.heap.size) : NewSt wb RV [] [] (.slice none 0 0) 0 (.map []) (.slice none 0 0) [] (.slice none 0 0) [] W :=
  ⟨hb, hlo, hbx, NstV.nil, groups_made hmp (by omega), World.ownsRow_nil _ _ _ _, World.ownsRow_nil _ _ _ _, shuns_made _ hmp, fun g e => ⟨fun e => by simp [Value.ownBlock] at e, fun e => by simp [Value.ownBlock] at e⟩, fun g e => by simp [Value.ownBlock] at e⟩
theorem NewSt.more {m : Nat} (h : NewSt wb RV fs vs F n D G gl Lb ll W) (hm : n ≤ m) : NewSt wb RV fs vs F m D G gl Lb ll W := ⟨h.bel, h.lo, h.box, h.fr, groups_more h.gr hm, h.ge, h.la, h.sh, h.d1, h.d2⟩
end
end Go.Proofs.Ytgdjknpdgajdgaa
