/-
  What a piece stands for: the functions of the forms, but for the result's. (Printed by genvals.py.)
-/
import Derived.Test.YtifbcfpaifobjaaGreatDoorParse
namespace Go.Proofs.YtifbcfpaifobjaaGreatDoor
open Go.RowKit
/-- The values of a device. -/
structure Vs where
  kernel : ByteArray
  devpath : ByteArray
  id : ByteArray
  driver : ByteArray
  parent : ByteArray
  name : ByteArray
  result : ByteArray
  attrs : Lst
  above : Lst
  env : Lst
def Lst.v (x : Lst) : Value := .slice x.A x.l.length x.c
def encVs (v : Vs) : Value := .agg #[.string v.kernel, .string v.devpath, .string v.id, .string v.driver, .string v.parent, .string v.name, .string v.result, v.attrs.v, v.above.v, v.env.v]
def encP (p : Pc) : Value := .agg #[.int .i64 p.kind, .string p.text, .int .i64 p.word, .bool p.more]
/-- The values lie in memory, below block B. -/
structure VsIn (w : World) (B : Nat) (v : Vs) : Prop where
  attrs : RowAt w B v.attrs.A 2 v.attrs.l.length (cellsOf encAt v.attrs.l)
  above : RowAt w B v.above.A 2 v.above.l.length (cellsOf encAt v.above.l)
  env : RowAt w B v.env.A 2 v.env.l.length (cellsOf encAt v.env.l)
  la : v.attrs.l.length ≤ 1000000000
  lb : v.above.l.length ≤ 1000000000
  le : v.env.l.length ≤ 1000000000
theorem RowAt.more {w : World} {B B' k n : Nat} {A : Option Addr} {xs : List Value} (h : RowAt w B A k n xs) (hB : B ≤ B') : RowAt w B' A k n xs :=
  ⟨h.len, fun hn => by
    obtain ⟨ba, off, e, h1, hc⟩ := h.at_ hn
    exact ⟨ba, off, e, Nat.lt_of_lt_of_le h1 hB, hc⟩⟩
theorem VsIn.keep {w w' : World} {B : Nat} {v : Vs} (h : VsIn w B v) (hb : Below B w w') : VsIn w' B v := ⟨h.attrs.keep hb, h.above.keep hb, h.env.keep hb, h.la, h.lb, h.le⟩
theorem VsIn.more {w : World} {B B' : Nat} {v : Vs} (h : VsIn w B v) (hB : B ≤ B') : VsIn w B' v := ⟨h.attrs.more hB, h.above.more hB, h.env.more hB, h.la, h.lb, h.le⟩
/-- What a function of the forms gives. -/
def ValPost (t : ByteArray) (w : World) (e : Ending) (w' : World) : Prop := e = .returned (.string t) ∧ Below w.heap.size w w'
set_option maxRecDepth 100000 in
set_option maxHeartbeats 400000 in
theorem val1 (p : Pc) (v : Vs) (w : World) :
    Calls Tryz.prog 56 #[encP p, encVs v] w (ValPost p.text w) := by
  unfold encP encVs Lst.v
  go_enter Tryz.func56, Tryz.ntmps56
  go_wp2
  go_ret
  exact ⟨rfl, ((Below.refl _ _).alloc (Nat.le_refl _) _).alloc (by simp) _⟩
set_option maxRecDepth 100000 in
set_option maxHeartbeats 400000 in
theorem val2 (p : Pc) (v : Vs) (w : World) :
    Calls Tryz.prog 57 #[encP p, encVs v] w (ValPost v.kernel w) := by
  unfold encP encVs Lst.v
  go_enter Tryz.func57, Tryz.ntmps57
  go_wp2
  go_ret
  exact ⟨rfl, ((Below.refl _ _).alloc (Nat.le_refl _) _).alloc (by simp) _⟩
set_option maxRecDepth 100000 in
set_option maxHeartbeats 400000 in
theorem val4 (p : Pc) (v : Vs) (w : World) :
    Calls Tryz.prog 60 #[encP p, encVs v] w (ValPost v.devpath w) := by
  unfold encP encVs Lst.v
  go_enter Tryz.func60, Tryz.ntmps60
  go_wp2
  go_ret
  exact ⟨rfl, ((Below.refl _ _).alloc (Nat.le_refl _) _).alloc (by simp) _⟩
set_option maxRecDepth 100000 in
set_option maxHeartbeats 400000 in
theorem val5 (p : Pc) (v : Vs) (w : World) :
    Calls Tryz.prog 61 #[encP p, encVs v] w (ValPost v.id w) := by
  unfold encP encVs Lst.v
  go_enter Tryz.func61, Tryz.ntmps61
  go_wp2
  go_ret
  exact ⟨rfl, ((Below.refl _ _).alloc (Nat.le_refl _) _).alloc (by simp) _⟩
set_option maxRecDepth 100000 in
set_option maxHeartbeats 400000 in
theorem val6 (p : Pc) (v : Vs) (w : World) :
    Calls Tryz.prog 62 #[encP p, encVs v] w (ValPost v.driver w) := by
  unfold encP encVs Lst.v
  go_enter Tryz.func62, Tryz.ntmps62
  go_wp2
  go_ret
  exact ⟨rfl, ((Below.refl _ _).alloc (Nat.le_refl _) _).alloc (by simp) _⟩
set_option maxRecDepth 100000 in
set_option maxHeartbeats 400000 in
theorem val9 (p : Pc) (v : Vs) (w : World) :
    Calls Tryz.prog 69 #[encP p, encVs v] w (ValPost v.parent w) := by
  unfold encP encVs Lst.v
  go_enter Tryz.func69, Tryz.ntmps69
  go_wp2
  go_ret
  exact ⟨rfl, ((Below.refl _ _).alloc (Nat.le_refl _) _).alloc (by simp) _⟩
set_option maxRecDepth 100000 in
set_option maxHeartbeats 400000 in
theorem val10 (p : Pc) (v : Vs) (w : World) :
    Calls Tryz.prog 70 #[encP p, encVs v] w (ValPost v.name w) := by
  unfold encP encVs Lst.v
  go_enter Tryz.func70, Tryz.ntmps70
  go_wp2
  go_ret
  exact ⟨rfl, ((Below.refl _ _).alloc (Nat.le_refl _) _).alloc (by simp) _⟩
set_option maxRecDepth 100000 in
set_option maxHeartbeats 400000 in
theorem val3 (p : Pc) (v : Vs) (w : World) (hk : v.kernel.size ≤ 9223372036854775807) :
    Calls Tryz.prog 58 #[encP p, encVs v] w (ValPost (bs (numS (L v.kernel))) w) := by
  have HN := fun W => Number_any v.kernel W hk
  unfold encP encVs Lst.v
  go_enter Tryz.func58, Tryz.ntmps58
  go_wp2_with (go_at_call 59; refine (HN _).mono ?_; rintro e w' ⟨rfl, hb⟩)
  go_ret
  exact ⟨rfl, (((Below.refl w.heap.size w).alloc (Nat.le_refl _) _).alloc (by simp) _).trans (hb.mono (by simp; omega))⟩
set_option maxRecDepth 100000 in
set_option maxHeartbeats 1000000 in
theorem val7 (p : Pc) (v : Vs) (w : World) (h : VsIn w w.heap.size v) :
    Calls Tryz.prog 64 #[encP p, encVs v] w (ValPost (firstV [v.attrs, v.above] (L p.text)) w) := by
  have HF := fun (g off c : Nat) (W : World) (hb : Below w.heap.size w W) (hg : g < W.heap.size) ho => first_any g off c [v.attrs, v.above] p.text W hg ho (fun x hx => by
    have hs := hb.size
    simp only [List.mem_cons, List.not_mem_nil, or_false] at hx
    rcases hx with rfl | rfl
    · exact ⟨(h.attrs.keep hb).more hs, by have := h.la; omega⟩
    · exact ⟨(h.above.keep hb).more hs, by have := h.lb; omega⟩) (by simp)
  unfold encP encVs Lst.v
  have HH := Lib.hid h
  clear h
  go_enter Tryz.func64, Tryz.ntmps64
  go_wp2_with fail
  have e1 : ∀ (W : World) (o : Obj), (W.alloc o).heap.size = W.heap.size + 1 := fun W o => by simp
  refine (HF (w.heap.size + 1 + 1) 0 2 _ ((((Below.refl w.heap.size w).alloc (Nat.le_refl _) _).alloc (by simp) _).alloc (by simp; omega) _) (by simp) ?_).mono ?_
  · have hblk := heap_alloc_new ((w.alloc (.cells #[.int .i64 p.kind, .string p.text, .int .i64 p.word, .bool p.more] 64)).alloc (.cells #[.string v.kernel, .string v.devpath, .string v.id, .string v.driver, .string v.parent, .string v.name, .string v.result, .slice v.attrs.A v.attrs.l.length v.attrs.c, .slice v.above.A v.above.l.length v.above.c, .slice v.env.A v.env.l.length v.env.c] 25)) (.cells #[.slice v.attrs.A v.attrs.l.length v.attrs.c, .slice v.above.A v.above.l.length v.above.c] 23)
    rw [e1, e1] at hblk
    intro i x hx
    rw [Nat.zero_add, cell_of_row _ _ i _ _ _ hblk]
    rcases i with _ | _ | i
    · simp at hx; subst hx; rfl
    · simp at hx; subst hx; rfl
    · simp at hx
  · rintro e w' ⟨rfl, hb⟩
    go_wp2
    go_ret
    exact ⟨rfl, ((((Below.refl w.heap.size w).alloc (Nat.le_refl _) _).alloc (by simp) _).alloc (by simp; omega) _).trans (hb.mono (by simp; omega))⟩
set_option maxRecDepth 100000 in
set_option maxHeartbeats 1000000 in
theorem val8 (p : Pc) (v : Vs) (w : World) (h : VsIn w w.heap.size v) :
    Calls Tryz.prog 67 #[encP p, encVs v] w (ValPost (firstV [v.env] (L p.text)) w) := by
  have HF := fun (g off c : Nat) (W : World) (hb : Below w.heap.size w W) (hg : g < W.heap.size) ho => first_any g off c [v.env] p.text W hg ho (fun x hx => by
    have hs := hb.size
    simp only [List.mem_cons, List.not_mem_nil, or_false] at hx
    subst hx
    exact ⟨(h.env.keep hb).more hs, by have := h.le; omega⟩) (by simp)
  unfold encP encVs Lst.v
  have HH := Lib.hid h
  clear h
  go_enter Tryz.func67, Tryz.ntmps67
  go_wp2_with fail
  have e1 : ∀ (W : World) (o : Obj), (W.alloc o).heap.size = W.heap.size + 1 := fun W o => by simp
  refine (HF (w.heap.size + 1 + 1) 0 1 _ ((((Below.refl w.heap.size w).alloc (Nat.le_refl _) _).alloc (by simp) _).alloc (by simp; omega) _) (by simp) ?_).mono ?_
  · have hblk := heap_alloc_new ((w.alloc (.cells #[.int .i64 p.kind, .string p.text, .int .i64 p.word, .bool p.more] 64)).alloc (.cells #[.string v.kernel, .string v.devpath, .string v.id, .string v.driver, .string v.parent, .string v.name, .string v.result, .slice v.attrs.A v.attrs.l.length v.attrs.c, .slice v.above.A v.above.l.length v.above.c, .slice v.env.A v.env.l.length v.env.c] 25)) (.cells #[.slice v.env.A v.env.l.length v.env.c] 23)
    rw [e1, e1] at hblk
    intro i x hx
    rw [Nat.zero_add, cell_of_row _ _ i _ _ _ hblk]
    rcases i with _ | i
    · simp at hx; subst hx; rfl
    · simp at hx
  · rintro e w' ⟨rfl, hb⟩
    go_wp2
    go_ret
    exact ⟨rfl, ((((Below.refl w.heap.size w).alloc (Nat.le_refl _) _).alloc (by simp) _).alloc (by simp; omega) _).trans (hb.mono (by simp; omega))⟩
end Go.Proofs.YtifbcfpaifobjaaGreatDoor
