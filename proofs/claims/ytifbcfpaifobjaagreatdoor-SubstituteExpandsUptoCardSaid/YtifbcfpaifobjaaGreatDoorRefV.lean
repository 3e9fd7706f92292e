/-
  What a piece stands for, by the reference's value. (Printed by gen_rval.py.)
-/
import Derived.Test.YtifbcfpaifobjaaGreatDoorRefW
namespace Go.Proofs.YtifbcfpaifobjaaGreatDoor
open Go.RowKit
theorem getV_some {l : List At} {nm : Str} (h : (getA l nm).isSome = true) (ls : List Lst) (x : Lst) (hx : x.l = l) : firstV (x :: ls) nm = getV l nm := by
  subst hx
  unfold firstV getV
  cases hg : getA x.l nm with
  | none => rw [hg] at h; cases h
  | some v => rfl
theorem getV_none {l : List At} {nm : Str} (h : (getA l nm).isSome = false) (ls : List Lst) (x : Lst) (hx : x.l = l) : firstV (x :: ls) nm = firstV ls nm := by
  subst hx
  show (match getA x.l nm with | some v => v | none => firstV ls nm) = _
  cases hg : getA x.l nm with
  | none => rfl
  | some v => rw [hg] at h; cases h
theorem firstV_one (x : Lst) (nm : Str) : firstV [x] nm = getV x.l nm := by
  unfold firstV getV
  cases getA x.l nm <;> rfl
/-- The piece and the values in their boxes. -/
def boxP (p : Pc) : Obj := .cells #[.int .i64 p.kind, .string p.text, .int .i64 p.word, .bool p.more] 64
def boxV (v : Vs) : Obj := .cells #[.string v.kernel, .string v.devpath, .string v.id, .string v.driver, .string v.parent, .string v.name, .string v.result, .slice v.attrs.A v.attrs.l.length v.attrs.c, .slice v.above.A v.above.l.length v.above.c, .slice v.env.A v.env.l.length v.env.c] 25
set_option maxRecDepth 100000 in
set_option maxHeartbeats 2000000 in
theorem rv1 (p : Pc) (v : Vs) (w : World) (hk : p.kind = 1) :
    Calls Tryz.prog 54 #[encP p, encVs v] w (ValPost p.text w) := by
  unfold encP encVs Lst.v
  rw [hk]
  go_enter Tryz.func54, Tryz.ntmps54
  go_wp2
  go_ret
  exact ⟨rfl, ((Below.refl _ _).alloc (Nat.le_refl _) _).alloc (by simp) _⟩
set_option maxRecDepth 100000 in
set_option maxHeartbeats 2000000 in
theorem rv2 (p : Pc) (v : Vs) (w : World) (hk : p.kind = 2) :
    Calls Tryz.prog 54 #[encP p, encVs v] w (ValPost v.kernel w) := by
  unfold encP encVs Lst.v
  rw [hk]
  go_enter Tryz.func54, Tryz.ntmps54
  go_wp2
  go_ret
  exact ⟨rfl, ((Below.refl _ _).alloc (Nat.le_refl _) _).alloc (by simp) _⟩
set_option maxRecDepth 100000 in
set_option maxHeartbeats 2000000 in
theorem rv4 (p : Pc) (v : Vs) (w : World) (hk : p.kind = 4) :
    Calls Tryz.prog 54 #[encP p, encVs v] w (ValPost v.devpath w) := by
  unfold encP encVs Lst.v
  rw [hk]
  go_enter Tryz.func54, Tryz.ntmps54
  go_wp2
  go_ret
  exact ⟨rfl, ((Below.refl _ _).alloc (Nat.le_refl _) _).alloc (by simp) _⟩
set_option maxRecDepth 100000 in
set_option maxHeartbeats 2000000 in
theorem rv5 (p : Pc) (v : Vs) (w : World) (hk : p.kind = 5) :
    Calls Tryz.prog 54 #[encP p, encVs v] w (ValPost v.id w) := by
  unfold encP encVs Lst.v
  rw [hk]
  go_enter Tryz.func54, Tryz.ntmps54
  go_wp2
  go_ret
  exact ⟨rfl, ((Below.refl _ _).alloc (Nat.le_refl _) _).alloc (by simp) _⟩
set_option maxRecDepth 100000 in
set_option maxHeartbeats 2000000 in
theorem rv6 (p : Pc) (v : Vs) (w : World) (hk : p.kind = 6) :
    Calls Tryz.prog 54 #[encP p, encVs v] w (ValPost v.driver w) := by
  unfold encP encVs Lst.v
  rw [hk]
  go_enter Tryz.func54, Tryz.ntmps54
  go_wp2
  go_ret
  exact ⟨rfl, ((Below.refl _ _).alloc (Nat.le_refl _) _).alloc (by simp) _⟩
set_option maxRecDepth 100000 in
set_option maxHeartbeats 2000000 in
theorem rv10 (p : Pc) (v : Vs) (w : World) (hk : p.kind = 10) :
    Calls Tryz.prog 54 #[encP p, encVs v] w (ValPost v.parent w) := by
  unfold encP encVs Lst.v
  rw [hk]
  go_enter Tryz.func54, Tryz.ntmps54
  go_wp2
  go_ret
  exact ⟨rfl, ((Below.refl _ _).alloc (Nat.le_refl _) _).alloc (by simp) _⟩
set_option maxRecDepth 100000 in
set_option maxHeartbeats 2000000 in
theorem rv11 (p : Pc) (v : Vs) (w : World) (hk : p.kind = 11) :
    Calls Tryz.prog 54 #[encP p, encVs v] w (ValPost v.name w) := by
  unfold encP encVs Lst.v
  rw [hk]
  go_enter Tryz.func54, Tryz.ntmps54
  go_wp2
  go_ret
  exact ⟨rfl, ((Below.refl _ _).alloc (Nat.le_refl _) _).alloc (by simp) _⟩
set_option maxRecDepth 100000 in
set_option maxHeartbeats 2000000 in
theorem rv3 (p : Pc) (v : Vs) (w : World) (hk : p.kind = 3) (hv : v.kernel.size ≤ 9223372036854775807) :
    Calls Tryz.prog 54 #[encP p, encVs v] w (ValPost (bs (numS (L v.kernel))) w) := by
  have HN := fun W => RNumber_any v.kernel W hv
  unfold encP encVs Lst.v
  rw [hk]
  go_enter Tryz.func54, Tryz.ntmps54
  go_wp2_with (go_at_call 95; refine (HN _).mono ?_; rintro e w' ⟨rfl, rfl⟩)
  go_ret
  exact ⟨rfl, ((Below.refl _ _).alloc (Nat.le_refl _) _).alloc (by simp) _⟩
set_option maxRecDepth 100000 in
set_option maxHeartbeats 2000000 in
theorem rv8 (p : Pc) (v : Vs) (w : World) (hk : p.kind = 8) (h : VsIn w w.heap.size v) :
    Calls Tryz.prog 54 #[encP p, encVs v] w (ValPost (firstV [v.env] (L p.text)) w) := by
  have H1 : ∀ W, Below w.heap.size w W → Calls Tryz.prog 96 #[.slice v.env.A v.env.l.length v.env.c, .string p.text] W fun e w' => e = .returned (.tuple #[.string (getV v.env.l (L p.text)), .bool (getA v.env.l (L p.text)).isSome]) ∧ W = w' := fun W hb => RGet_any v.env.A v.env.c v.env.l p.text W ((h.env.keep hb).more hb.size) (by have := h.le; omega)
  have hB : Below w.heap.size w ((w.alloc (boxP p)).alloc (boxV v)) := ((Below.refl _ _).alloc (Nat.le_refl _) _).alloc (by simp) _
  unfold boxP boxV at hB
  rw [hk] at hB
  rw [firstV_one]
  have HB := Lib.hid hB
  have HG := Lib.hid (H1 _ hB)
  clear H1 h hB
  generalize getV v.env.l (L p.text) = t1 at *
  generalize (getA v.env.l (L p.text)).isSome = b1 at *
  unfold encP encVs Lst.v
  rw [hk]
  go_enter Tryz.func54, Tryz.ntmps54
  go_wp2_with (go_at_call 96; refine HG.out.mono ?_; rintro e w' ⟨rfl, rfl⟩)
  go_ret
  exact ⟨rfl, HB.out⟩
set_option maxRecDepth 100000 in
set_option maxHeartbeats 2000000 in
theorem rv7 (p : Pc) (v : Vs) (w : World) (hk : p.kind = 7) (h : VsIn w w.heap.size v) :
    Calls Tryz.prog 54 #[encP p, encVs v] w (ValPost (firstV [v.attrs, v.above] (L p.text)) w) := by
  have H1 : ∀ W, Below w.heap.size w W → Calls Tryz.prog 96 #[.slice v.attrs.A v.attrs.l.length v.attrs.c, .string p.text] W fun e w' => e = .returned (.tuple #[.string (getV v.attrs.l (L p.text)), .bool (getA v.attrs.l (L p.text)).isSome]) ∧ W = w' := fun W hb => RGet_any v.attrs.A v.attrs.c v.attrs.l p.text W ((h.attrs.keep hb).more hb.size) (by have := h.la; omega)
  have H2 : ∀ W, Below w.heap.size w W → Calls Tryz.prog 96 #[.slice v.above.A v.above.l.length v.above.c, .string p.text] W fun e w' => e = .returned (.tuple #[.string (getV v.above.l (L p.text)), .bool (getA v.above.l (L p.text)).isSome]) ∧ W = w' := fun W hb => RGet_any v.above.A v.above.c v.above.l p.text W ((h.above.keep hb).more hb.size) (by have := h.lb; omega)
  have hB : Below w.heap.size w ((w.alloc (boxP p)).alloc (boxV v)) := ((Below.refl _ _).alloc (Nat.le_refl _) _).alloc (by simp) _
  unfold boxP boxV at hB
  rw [hk] at hB
  have HB := Lib.hid hB
  have HG := Lib.hid (H1 _ hB)
  have HG2 := Lib.hid (H2 _ hB)
  clear H1 H2 h hB
  cases hb1 : (getA v.attrs.l (L p.text)).isSome with
  | true =>
    rw [getV_some hb1 [v.above] v.attrs rfl]
    rw [hb1] at HG
    generalize getV v.attrs.l (L p.text) = t1 at *
    clear hb1 HG2
    unfold encP encVs Lst.v
    rw [hk]
    go_enter Tryz.func54, Tryz.ntmps54
    go_wp2_with (go_at_call 96; refine HG.out.mono ?_; rintro e w' ⟨rfl, rfl⟩)
    go_ret
    exact ⟨rfl, HB.out⟩
  | false =>
    rw [getV_none hb1 [v.above] v.attrs rfl, firstV_one]
    rw [hb1] at HG
    generalize getV v.attrs.l (L p.text) = t1 at *
    generalize getV v.above.l (L p.text) = t2 at *
    generalize (getA v.above.l (L p.text)).isSome = b2 at *
    clear hb1
    unfold encP encVs Lst.v
    rw [hk]
    go_enter Tryz.func54, Tryz.ntmps54
    go_wp2_with fail
    refine HG.out.mono ?_
    rintro e w' ⟨rfl, rfl⟩
    go_wp2_with fail
    refine HG2.out.mono ?_
    rintro e w' ⟨rfl, rfl⟩
    go_wp2
    go_ret
    exact ⟨rfl, HB.out⟩
end Go.Proofs.YtifbcfpaifobjaaGreatDoor
