/-
  Lists of rules and of faults in memory.
-/
import Derived.Test.YtgdjknpdgajdgaaG05
import Derived.Test.YtgdjknpdgajdgaaG01
import Derived.Deep.Onto
namespace Go.Proofs.Ytgdjknpdgajdgaa
open Go.RowKit
structure Rl where
  file : ByteArray
  line : Int
  tms : Ls Tm
/-- A rule without its place. -/
structure Rp where
  file : ByteArray
  line : Int
  tms : List Tm
def Rl.p (x : Rl) : Rp := ⟨x.file, x.line, x.tms.l⟩
structure Fl where
  file : ByteArray
  line : Int
  errno : Int
def encRl (x : Rl) : List Value := [.string x.file, .int .i64 x.line, .slice x.tms.A x.tms.l.length x.tms.c]
def encFl (x : Fl) : List Value := [.string x.file, .int .i64 x.line, .int .i64 x.errno]
theorem encRl_len (x : Rl) : (encRl x).length = 3 := rfl
theorem encFl_len (x : Fl) : (encFl x).length = 3 := rfl
theorem encRl_one (x : Rl) : ∀ u ∈ encRl x, u.oneCell' = true := by simp [encRl, Value.oneCell']
theorem encFl_one (x : Fl) : ∀ u ∈ encFl x, u.oneCell' = true := by simp [encFl, Value.oneCell']
theorem rlInfo : (Try.prog.info? 46).map (fun i => (i.zero, i.size, i.bytes)) = some (some (.agg #[.string ⟨#[]⟩, .int .i64 0, .slice none 0 0]), 3, 48) := by kernel_rfl
theorem flInfo : (Try.prog.info? 82).map (fun i => (i.zero, i.size, i.bytes)) = some (some (.agg #[.string ⟨#[]⟩, .int .i64 0, .int .i64 0]), 3, 32) := by kernel_rfl
/-- Rules and faults under way: two rows of the call's own, and the rules' terms, none in another's block. -/
structure ScrSt (w : World) (rl : List Rl) (vr : Value) (fl : List Fl) (vf : Value) (W : World) : Prop where
  r : W.ownsRow w.heap.size 46 3 vr rl.length (cellsOf encRl rl)
  f : W.ownsRow w.heap.size 82 3 vf fl.length (cellsOf encFl fl)
  ir : InOff 4 encTm Rl.tms W W.heap.size vr.ownBlock rl
  fr : InOff 4 encTm Rl.tms W W.heap.size vf.ownBlock rl
  ap : ∀ g, vr.ownBlock = some g → vf.ownBlock ≠ some g
  low : Below w.heap.size w W
  ge : ∀ y ∈ rl, ∀ a, y.tms.A = some a → w.heap.size ≤ a.block
theorem ScrSt.start (w : World) : ScrSt w [] (.slice none 0 0) [] (.slice none 0 0) w := ⟨World.ownsRow_nil _ _ _ _, World.ownsRow_nil _ _ _ _, InOff.nil, InOff.nil, (fun _ h => by cases h), Below.refl _ _, (fun _ h => by cases h)⟩
theorem ScrSt.go {w W W' : World} {rl : List Rl} {fl : List Fl} {vr vf : Value} (h : ScrSt w rl vr fl vf W) (hb : Below W.heap.size W W') : ScrSt w rl vr fl vf W' :=
  ⟨own_below2 h.r hb, own_below2 h.f hb, (h.ir.keep hb).up hb.size, (h.fr.keep hb).up hb.size, h.ap, bt h.low hb, h.ge⟩
theorem own_apart {W W' : World} {base kk n : Nat} {T : TypeId} {v : Value} {xs : List Value} {row : Option Nat} (h : W.ownsRow base T kk v n xs) (hg : W.grownBy W' row) (ha : ∀ g, row = some g → v.ownBlock ≠ some g) : W'.ownsRow base T kk v n xs :=
  h.kept hg (by
    cases hv : v.ownBlock with
    | none => exact Or.inl rfl
    | some g => right; intro e; exact ha g (by first | exact e | exact e.symm) hv)
theorem InOff.with {W W' : World} {B B' : Nat} {row row' : Option Nat} {ls : List Rl} (h : InOff 4 encTm Rl.tms W B row ls) (k : InOff 4 encTm Rl.tms W' B' row' ls) (hB : B' ≤ B) : InOff 4 encTm Rl.tms W' B row ls := fun y hy => ⟨((k y hy).at_).up hB, (h y hy).off⟩
/-- A rule more. -/
theorem ScrSt.pushR {w W w9 : World} {rl : List Rl} {fl : List Fl} {vr vf : Value} {y : Rl} {W1 : World} {g2 c : Nat} (h : ScrSt w rl vr fl vf W) (hb : Below W.heap.size W W1) (hy : RowAt W W.heap.size y.tms.A 4 y.tms.l.length (cellsOf encTm y.tms.l)) (hyr : ∀ a, y.tms.A = some a → w.heap.size ≤ a.block ∧ vr.ownBlock ≠ some a.block ∧ vf.ownBlock ≠ some a.block)
    (hown : w9.ownsRow w.heap.size 46 3 (.slice (some ⟨g2, 0, none⟩) (rl.length + 1) c) (rl.length + 1) (cellsOf encRl rl ++ encRl y)) (hg : W1.grownBy w9 vr.ownBlock) (hat : vr.ownBlock = some g2 ∨ g2 = W1.heap.size) :
    ScrSt w (rl ++ [y]) (.slice (some ⟨g2, 0, none⟩) (rl.length + 1) c) fl vf w9 := by
  have h1 : InOff 4 encTm Rl.tms W W.heap.size vr.ownBlock (rl ++ [y]) := h.ir.snoc ⟨hy, fun _ a e e2 => (hyr a e).2.1 e2.symm⟩
  have h2 : InOff 4 encTm Rl.tms W W.heap.size vf.ownBlock (rl ++ [y]) := h.fr.snoc ⟨hy, fun _ a e e2 => (hyr a e).2.2 e2.symm⟩
  have h3 := h1.keep hb
  have hs := hb.size
  have h4 := h3.moved (row' := some g2) hs hg (by
    rcases hat with e | e
    · exact Or.inl e.symm
    · right; intro g eg; injection eg with eg; omega)
  have hs9 := hg.size
  refine ⟨own_snoc hown, own_apart (own_below2 h.f hb) hg (fun g e => h.ap g e), h4.up (by omega), (h2.with h4 (Nat.le_refl _)).up (by omega), fun g e => ?_, (bt h.low hb).grown hg (bt h.low hb).size (fun j e => (h.r.lt j e).1), fun z hz a e => by
    rcases List.mem_append.1 hz with hz | hz
    · exact h.ge z hz a e
    · obtain rfl := List.mem_singleton.1 hz; exact (hyr a e).1⟩
  have e : g2 = g := by simpa [Value.ownBlock] using e
  subst e
  rcases hat with e | e
  · exact h.ap g2 e
  · intro e2
    have := (h.f.lt g2 e2).2
    omega
/-- A fault more. -/
theorem ScrSt.pushF {w W w9 : World} {rl : List Rl} {fl : List Fl} {vr vf : Value} {y : Fl} {W1 : World} {g2 c : Nat} (h : ScrSt w rl vr fl vf W) (hb : Below W.heap.size W W1)
    (hown : w9.ownsRow w.heap.size 82 3 (.slice (some ⟨g2, 0, none⟩) (fl.length + 1) c) (fl.length + 1) (cellsOf encFl fl ++ encFl y)) (hg : W1.grownBy w9 vf.ownBlock) (hat : vf.ownBlock = some g2 ∨ g2 = W1.heap.size) :
    ScrSt w rl vr (fl ++ [y]) (.slice (some ⟨g2, 0, none⟩) (fl.length + 1) c) w9 := by
  have h3 := h.fr.keep hb
  have hs := hb.size
  have h4 := h3.moved (row' := some g2) hs hg (by
    rcases hat with e | e
    · exact Or.inl e.symm
    · right; intro g eg; injection eg with eg; omega)
  have hs9 := hg.size
  refine ⟨own_apart (own_below2 h.r hb) hg (fun g e e2 => h.ap g e2 e), own_snoc hown, (h.ir.with h4 (Nat.le_refl _)).up (by omega), h4.up (by omega), fun g e e2 => ?_, (bt h.low hb).grown hg (bt h.low hb).size (fun j e => (h.f.lt j e).1), h.ge⟩
  have e2 : g2 = g := by simpa [Value.ownBlock] using e2
  subst e2
  rcases hat with e3 | e3
  · exact h.ap g2 e e3
  · have := (h.r.lt g2 e).2
    omega
theorem ScrSt.base {w w0 W : World} {rl : List Rl} {fl : List Fl} {vr vf : Value} (h : ScrSt w0 rl vr fl vf W) (hb : Below w.heap.size w w0) : ScrSt w rl vr fl vf W :=
  ⟨World.ownsRow.mono h.r hb.size, World.ownsRow.mono h.f hb.size, h.ir, h.fr, h.ap, bt hb h.low, fun y hy a e => Nat.le_trans hb.size (h.ge y hy a e)⟩
end Go.Proofs.Ytgdjknpdgajdgaa
