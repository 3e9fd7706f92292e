/-
  What the library's variables hold, as far as it is read: they lie below block nG, and nothing there is turned.
-/
import Derived.Test.YtifbcfpaifobjaaGreatDoorRead
import Derived.WalkSmall
import Derived.Lib.SmallJoins
import Derived.Lib.Bytes2
import Derived.RangeFuncBox
import Derived.Maps.AppendAt
namespace Go.Proofs.YtifbcfpaifobjaaGreatDoor
open Go.RowKit
def nG : Nat := max 0 (max 3 (max 4 5)) + 1
theorem g_syn : Tryz.prog.globalNamed "strconv.ErrSyntax" = some 3 := by kernel_rfl
theorem g_rng : Tryz.prog.globalNamed "strconv.ErrRange" = some 4 := by kernel_rfl
theorem g_pow : Tryz.prog.globalNamed "internal/strconv.uint64pow10" = some 5 := by kernel_rfl
structure Env (w : World) : Prop where
  size : nG ≤ w.heap.size
  maxLen : ∃ m, w.cell? ⟨0, 0, none⟩ = some (.int .i64 m)
  syn : ∃ tp p, w.var? Tryz.prog "strconv.ErrSyntax" = some #[.iface tp p]
  rng : ∃ tp p, w.var? Tryz.prog "strconv.ErrRange" = some #[.iface tp p]
  pow : Lib.TabIs Tryz.prog w "internal/strconv.uint64pow10" .u64 Lib.pow10Tab
theorem Env.keep {w w' : World} {B : Nat} (h : Env w) (hb : Below B w w') (hB : nG ≤ B) : Env w' := by
  refine ⟨Nat.le_trans h.size hb.size, ?_, ?_, ?_, ?_⟩
  · obtain ⟨m, hm⟩ := h.maxLen
    exact ⟨m, (hb.cell (p := ⟨0, 0, none⟩) (Nat.lt_of_lt_of_le (by decide) hB)).trans hm⟩
  · obtain ⟨tp, p, hv⟩ := h.syn
    exact ⟨tp, p, var?_below hb g_syn (Nat.lt_of_lt_of_le (by decide) hB) hv⟩
  · obtain ⟨tp, p, hv⟩ := h.rng
    exact ⟨tp, p, var?_below hb g_rng (Nat.lt_of_lt_of_le (by decide) hB) hv⟩
  · exact var?_below hb g_pow (Nat.lt_of_lt_of_le (by decide) hB) h.pow
theorem Env.go {w w' : World} (h : Env w) (hb : Below w.heap.size w w') : Env w' := h.keep hb h.size
theorem Env.drewN {w : World} (h : Env w) (n : Nat) : Env (w.drewN n) := h.go (below_drewN (Below.refl _ _) n)
/-- strings.Cut. -/
theorem Cut_any (s sep : ByteArray) (w : World) (h : Env w) (hs : s.size < 4294967281) :
    Calls Tryz.prog 110 #[.string s, .string sep] w fun e w' => e = .returned (.tuple #[.string (bs (Lib.cut (L s) (L sep)).1), .string (bs (Lib.cut (L s) (L sep)).2.1), .bool (Lib.cut (L s) (L sep)).2.2]) ∧ ∃ n, w.drewN n = w' := by
  obtain ⟨m, hm⟩ := h.maxLen
  exact (Tryz.strings_Cut s sep m w hs hm).mono fun e w' ⟨h1, n, h2⟩ => ⟨h1, n, h2.symm⟩
theorem HasPrefix_any (s p : ByteArray) (w : World) :
    Calls Tryz.prog 42 #[.string s, .string p] w fun e w' => e = .returned (.bool (Lib.hasPrefix (L s) (L p))) ∧ w = w' :=
  (Tryz.strings_HasPrefix s p w).mono fun _e _w' ⟨h1, h2⟩ => ⟨h1, h2.symm⟩
theorem prefix_one (r : Str) (c : UInt8) : Lib.hasPrefix r [c] = (r.head? == some c) := by
  cases r with
  | nil => rfl
  | cons b t => 
    show ([c].isPrefixOf (b :: t)) = _
    simp only [List.isPrefixOf, Bool.and_true, List.head?_cons]
    rw [Bool.eq_iff_iff]
    simp
    exact eq_comm
theorem bracesS_no {r : Str} (h : Lib.hasPrefix r [123] = false) : bracesS r = none := by
  rw [prefix_one] at h
  cases r with
  | nil => rfl
  | cons b t =>
    have hb : b ≠ 123 := by simpa using h
    rw [bracesS]
    simp only [hb, if_false]
theorem bracesS_yes {r : Str} (h : Lib.hasPrefix r [123] = true) : bracesS r = if (Lib.cut (r.drop 1) [125]).2.2 then some ((Lib.cut (r.drop 1) [125]).1, (Lib.cut (r.drop 1) [125]).2.1) else none := by
  rw [prefix_one] at h
  cases r with
  | nil => simp at h
  | cons b t =>
    have hb : b = 123 := by simpa using h
    rw [bracesS]
    simp only [hb, if_true, List.drop_succ_cons, List.drop_zero]
theorem cut_len (s sep : Str) : (Lib.cut s sep).1.length ≤ s.length ∧ (Lib.cut s sep).2.1.length ≤ s.length := by
  unfold Lib.cut
  split
  · exact ⟨by rw [List.length_take]; omega, by rw [List.length_drop]; omega⟩
  · exact ⟨Nat.le_refl _, Nat.zero_le _⟩
/-- The reader's second cell, and that its row is none of the blocks to come. -/
theorem Rd.c1 {w : World} {g : Nat} {r : ByteArray} {ps : List Pc} (h : Rd w g r ps) : ∃ v, w.cell? ⟨g, 1, none⟩ = some v ∧ ∀ k, v.ownBlock = some k → k < w.heap.size := by
  obtain ⟨v, hh, ho⟩ := h.ex
  exact ⟨v, by rw [cell_of_row _ _ 1 _ _ _ hh]; rfl, fun k hk => (ho.lt k hk).2⟩
/-- A store into another block. -/
theorem Rd.other {w : World} {g : Nat} {r : ByteArray} {ps : List Pc} (h : Rd w g r ps) {v : Value} (hv : w.cell? ⟨g, 1, none⟩ = some v) {B : Nat} (hne : v.ownBlock ≠ some B) (hB : g ≠ B) (i : Nat) (x : Value) : Rd (w.setCell ⟨B, i, none⟩ x) g r ps := by
  obtain ⟨v', hh, ho⟩ := h.ex
  have : v' = v := by
    have := (cell_of_row w g 1 _ _ _ hh).symm.trans hv
    exact Option.some.inj this
  subst this
  have hk : ∀ k, some k ≠ some B → (w.setCell ⟨B, i, none⟩ x).heap[k]? = w.heap[k]? := fun k hk => Below.heap_setCell w ⟨B, i, none⟩ x k (fun e => hk (by rw [e]))
  refine ⟨v', by rw [hk g (by simpa using hB)]; exact hh, ?_⟩
  exact ho.kept (row := some B) ⟨rfl, rfl, rfl, (KeepsWalks.setCell w _ x).size, fun k _ h2 => hk k h2⟩ (.inr hne)
theorem grown_drewN (w : World) (n : Nat) (row : Option Nat) : w.grownBy (w.drewN n) row := ⟨rfl, rfl, rfl, Nat.le_refl _, fun _ _ _ => rfl⟩
theorem grown_refl (w : World) (row : Option Nat) : w.grownBy w row := ⟨rfl, rfl, rfl, Nat.le_refl _, fun _ _ _ => rfl⟩
/-- What braces gives. -/
def BrPost (g : Nat) (rest : ByteArray) (ps : List Pc) (w : World) (e : Ending) (w' : World) : Prop :=
  ∃ t rest', e = .returned (.tuple #[.string t, .bool (bracesS (L rest)).isSome]) ∧ (∀ a b, bracesS (L rest) = some (a, b) → t = bs a ∧ rest' = bs b) ∧ t.size ≤ rest.size ∧ rest'.size ≤ rest.size ∧ Rd w' g rest' ps ∧ Below g w w' ∧ w.grownBy w' (some g) ∧ w'.cell? ⟨g, 1, none⟩ = w.cell? ⟨g, 1, none⟩
set_option maxRecDepth 100000 in
set_option maxHeartbeats 1000000 in
theorem braces_any (g : Nat) (rest : ByteArray) (ps : List Pc) (w : World) (h : Rd w g rest ps) (hE : Env w) (hr : rest.size ≤ 1000) :
    Calls Tryz.prog 77 #[.pointer (some ⟨g, 0, none⟩)] w (BrPost g rest ps w) := by
  have HP := HasPrefix_any rest ⟨#[123]⟩ w
  obtain ⟨v, hh, ho⟩ := h.ex
  have c0 : w.cell? ⟨g, 0, none⟩ = some (.string rest) := by rw [cell_of_row _ _ 0 _ _ _ hh]; rfl
  have f0 : w.frozen? ⟨g, 0, none⟩ = false := frozen_of_row _ _ _ _ _ hh
  have HH := Lib.hid h
  have hlt := h.lt
  clear hh ho h
  change Calls _ _ _ _ (fun e w' => e = .returned (.bool (Lib.hasPrefix (L rest) [123])) ∧ w = w') at HP
  cases hp : Lib.hasPrefix (L rest) [123]
  · rw [hp] at HP
    have Hp := Lib.hid (bracesS_no hp)
    clear hp
    go_enter Tryz.func77, Tryz.ntmps77
    go_wp2_with (go_at_call 42; refine HP.mono ?_; rintro e w' ⟨rfl, rfl⟩)
    go_ret2
    exact ⟨⟨#[]⟩, rest, by rw [Hp.out]; rfl, (fun a b e => by rw [Hp.out] at e; cases e), Nat.zero_le _, Nat.le_refl _, HH.out, Below.refl _ _, grown_refl _ _, rfl⟩
  · rw [hp] at HP
    have Hp := Lib.hid (bracesS_yes hp)
    have h1 : (1 : Int) ≤ (rest.size : Int) := by
      have := Lib.hasPrefix_le hp
      rw [len_L] at this
      simp at this
      omega
    have hd : L (rest.extract 1 rest.size) = (L rest).drop 1 := by rw [L_extract, List.take_of_length_le (by rw [len_L]; exact Nat.le_refl _)]
    have HC := Cut_any (rest.extract 1 rest.size) ⟨#[125]⟩ w hE (by rw [size_extract]; omega)
    change Calls _ _ _ _ (fun e w' => e = .returned (.tuple #[.string (bs (Lib.cut (L (rest.extract 1 rest.size)) [125]).1), .string (bs (Lib.cut (L (rest.extract 1 rest.size)) [125]).2.1), .bool (Lib.cut (L (rest.extract 1 rest.size)) [125]).2.2]) ∧ ∃ n, w.drewN n = w') at HC
    rw [hd] at HC
    have hz := cut_len ((L rest).drop 1) [125]
    rw [List.length_drop, len_L] at hz
    obtain ⟨z1, z2⟩ := hz
    generalize Lib.cut ((L rest).drop 1) [125] = cc at *
    obtain ⟨c1, c2, c3⟩ := cc
    have Hz := Lib.hid z1
    have Hz2 := Lib.hid z2
    clear hp hd z1 z2
    go_enter Tryz.func77, Tryz.ntmps77
    go_wp2_with (first | (go_at_call 42; refine HP.mono ?_; rintro e w' ⟨rfl, rfl⟩) | (go_at_call 110; refine HC.mono ?_; rintro e w' ⟨rfl, n, rfl⟩))
    go_ret2
    have e1 : (bs c1).size ≤ rest.size := by rw [size_bs]; have := Hz.out; omega
    have e2 : (bs c2).size ≤ rest.size := by rw [size_bs]; have := Hz2.out; omega
    refine ⟨bs c1, bs c2, ?_, fun a b e => ?_, e1, e2, ?_, ?_, ?_, ?_⟩
    · rw [Hp.out]; cases c3 <;> rfl
    · rw [Hp.out] at e
      cases c3
      · cases e
      · simp at e
        exact ⟨by rw [e.1], by rw [e.2]⟩
    · exact (HH.out.keep (below_drewN (Below.refl _ _) n)).cut _
    · exact (below_drewN (Below.refl _ _) n).setCell (p := ⟨g, 0, none⟩) (Nat.le_refl _) _
    · exact (grown_drewN w n (some g)).trans (grownBy_setCell' _ g _)
    · exact (World.cell?_setCell_other _ _ _ _ (by simp)).trans rfl
end Go.Proofs.YtifbcfpaifobjaaGreatDoor
