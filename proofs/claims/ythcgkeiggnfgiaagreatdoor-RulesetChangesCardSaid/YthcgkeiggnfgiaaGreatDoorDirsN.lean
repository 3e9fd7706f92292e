/-
  Directories made from a new tape, and the files that count in them.
-/
import Derived.Test.YthcgkeiggnfgiaaGreatDoorLHides
import Derived.Test.YthcgkeiggnfgiaaGreatDoorLift17
namespace Go.Proofs.YthcgkeiggnfgiaaGreatDoor
open Go.RowKit
theorem grown_back {w W0 W : World} {b : Nat} (h : Below w.heap.size w W0) (hg : W0.grownBy W (some b)) (hb : w.heap.size ≤ b) : Below w.heap.size w W :=
  ⟨hg.os.trans h.os, hg.tape.trans h.tape, hg.output.trans h.output, Nat.le_trans h.size hg.size, fun k hk => (hg.block k (Nat.lt_of_lt_of_le hk h.size) (by intro e; have := Option.some.inj e; omega)).trans (h.block k hk)⟩
def NewDirs (w : World) (e : Ending) (w' : World) : Prop := ∃ A c ds, e = .returned (.slice A ds.length c) ∧ DirsAt w' A ds ∧ MadeD (lsOf ds) ∧ 1 ≤ ds.length ∧ ds.length ≤ 2 ∧ ds.length ≤ c ∧ Below w.heap.size w w'
theorem IntsIn.keep {w W : World} {A : Option Addr} {n : Nat} (h : IntsIn w A n) (hb : Below w.heap.size w W) : IntsIn W A n := by
  obtain ⟨h0, ba, off, hA, hlt, hz⟩ := h
  refine ⟨h0, ba, off, hA, Nat.lt_of_lt_of_le hlt hb.size, fun i hi => ?_⟩
  obtain ⟨z, hc, z1, z2⟩ := hz i hi
  exact ⟨z, by rw [hb.cell (p := ⟨ba, off + i, none⟩) hlt]; exact hc, z1, z2⟩
theorem Dirs_new {w : World} {A : Option Addr} {n : Nat} (c : Nat) (hE : Env0 w) (hI : IntsIn w A n) :
    Calls Tryz.prog 16 #[.pointer (some ⟨w.heap.size, 0, none⟩)] (w.alloc (.cells #[.slice A n c, .int .i64 0] 28)) (NewDirs w) := by
  have hT := TSt.start (hI.tape c 28)
  have hE1 := hE.go (below_alloc w (.cells #[.slice A n c, .int .i64 0] 28))
  have hs := hE.size
  refine (Dirs_any (n := n) (p := 0) (d := 0) hT hE1 hs (by omega)).mono ?_
  rintro e w2 ⟨v, vs, ls, rfl, hl1, hl2, hN, hMd, hT2⟩
  obtain ⟨A1, c1, ds, rfl, rfl, _, hD, hdc⟩ := hN.dirs
  have hdl : (lsOf ds).length = ds.length := by simp [lsOf]
  exact ⟨A1, c1, ds, rfl, hD, hMd, by omega, by omega, hdc, grown_back (below_alloc w _) hT2.gr (Nat.le_refl _)⟩
theorem pickF_mem {ds : List (List At)} {n : Str} {x : At} (h : pickF ds n = some x) : ∃ d ∈ ds, x ∈ d := by
  obtain ⟨d, hd, e⟩ := List.exists_of_findSome?_eq_some h
  exact ⟨d, hd, (findF_name e).2⟩
/-- Files that a list of made directories leaves. -/
def MadeF (l : List At) : Prop := l.length ≤ 8 ∧ ∀ x ∈ l, x.name.size ≤ 100 ∧ x.val.size ≤ 6000
theorem madeF_of {ds : List (Ls At)} (h : MadeD (lsOf ds)) (hl : ds.length ≤ 2) : MadeF (mergeL (lsOf ds)) := by
  refine ⟨Nat.le_trans (mergeL_len _) (Nat.le_trans (allN_len ds) (bulk_made h hl)), fun x hx => ?_⟩
  obtain ⟨d, hd, hxd⟩ := pickF_mem (mem_mergeL.1 hx).1
  exact made_ok h d hd x hxd
theorem MadeF.ok {l : List At} (h : MadeF l) : ∀ x ∈ l, FileOk x := fun x hx => by
  have := h.2 x hx
  unfold FileOk maxLen
  omega
def NewFiles (w : World) (e : Ending) (w' : World) : Prop := ∃ A c l, e = .returned (.tuple #[.slice A l.length c, .int .i64 0]) ∧ l.length ≤ c ∧ RowAt w' w'.heap.size A 2 l.length (cellsOf encAt l) ∧ MadeF l ∧ Below w.heap.size w w'
theorem RMerge_made {A : Option Addr} {c : Nat} {ds : List (Ls At)} {w : World} (h : DirsAt w A ds) (hm : MadeD (lsOf ds)) (hl : ds.length ≤ 2) :
    Calls Tryz.prog 20 #[.slice A ds.length c] w (NewFiles w) := by
  have hb := bulk_made hm hl
  have h1 := RMergeD_any A c ds w h (by omega) (fun d hd x hx => by have := (madeOk hm d hd x hx).1; unfold maxLen at this; exact this)
  have hls : (lsOf ds).length = ds.length := by simp [lsOf]
  rw [mergeF, if_pos (made_check hm (by omega))] at h1
  refine h1.mono ?_
  rintro e w' ⟨A', c', rfl, hc, hr, hb'⟩
  exact ⟨A', c', _, rfl, hc, hr, madeF_of hm hl, hb'⟩
end Go.Proofs.YthcgkeiggnfgiaaGreatDoor
