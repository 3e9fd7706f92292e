/-
  The law SubstituteForms, walked: a short form and the long one expand alike. (Printed by gen_lforms.py.)
-/
import Derived.Test.YtifbcfpaifobjaaGreatDoorKnown
import Derived.Test.YtifbcfpaifobjaaGreatDoorLift
namespace Go.Proofs.YtifbcfpaifobjaaGreatDoor
open Go.RowKit
def longs : List ByteArray := [⟨#[36, 107, 101, 114, 110, 101, 108]⟩, ⟨#[36, 110, 117, 109, 98, 101, 114]⟩, ⟨#[36, 100, 101, 118, 112, 97, 116, 104]⟩, ⟨#[36, 105, 100]⟩, ⟨#[36, 100, 114, 105, 118, 101, 114]⟩, ⟨#[36, 97, 116, 116, 114, 123, 115, 105, 122, 101, 125]⟩, ⟨#[36, 97, 116, 116, 114, 123, 118, 101, 110, 100, 111, 114, 125]⟩, ⟨#[36, 101, 110, 118, 123, 73, 68, 125]⟩, ⟨#[36, 114, 101, 115, 117, 108, 116]⟩, ⟨#[36, 114, 101, 115, 117, 108, 116, 123, 50, 125]⟩, ⟨#[36, 114, 101, 115, 117, 108, 116, 123, 49, 43, 125]⟩, ⟨#[36, 112, 97, 114, 101, 110, 116]⟩]
def shorts : List ByteArray := [⟨#[37, 107]⟩, ⟨#[37, 110]⟩, ⟨#[37, 112]⟩, ⟨#[37, 98]⟩, ⟨#[37, 100]⟩, ⟨#[37, 115, 123, 115, 105, 122, 101, 125]⟩, ⟨#[37, 115, 123, 118, 101, 110, 100, 111, 114, 125]⟩, ⟨#[37, 69, 123, 73, 68, 125]⟩, ⟨#[37, 99]⟩, ⟨#[37, 99, 123, 50, 125]⟩, ⟨#[37, 99, 123, 49, 43, 125]⟩, ⟨#[37, 80]⟩]
theorem forms_alike : ((List.range 12).all fun k => decide ((parseR (L (longs.getD k ⟨#[]⟩))).2 = 0) && decide ((parseR (L (shorts.getD k ⟨#[]⟩))).2 = 0)) = true := by kernel_rfl
/-- Pieces as data that can be compared. -/
def pcs (s : ByteArray) : List (Int × Str × Int × Bool) := (parseR (L s)).1.map fun p => (p.kind, L p.text, p.word, p.more)
theorem pcs_inj : ∀ (a b : List Pc), (a.map fun p => (p.kind, L p.text, p.word, p.more)) = (b.map fun p => (p.kind, L p.text, p.word, p.more)) → a = b
  | [], [], _ => rfl
  | [], _ :: _, h => by cases h
  | _ :: _, [], h => by cases h
  | p :: a, q :: b, h => by
    rw [List.map_cons, List.map_cons, List.cons.injEq] at h
    obtain ⟨h1, h2⟩ := h
    rw [pcs_inj a b h2]
    obtain ⟨k, t, n, m⟩ := p
    obtain ⟨k', t', n', m'⟩ := q
    simp only [Prod.mk.injEq] at h1
    obtain ⟨rfl, h3, rfl, rfl⟩ := h1
    rw [L_inj h3]
theorem pcs_alike : ((List.range 12).all fun k => pcs (longs.getD k ⟨#[]⟩) == pcs (shorts.getD k ⟨#[]⟩)) = true := by kernel_rfl
theorem expand_alike (k : Nat) (hk : k < 12) (v : Vs) : ∃ T, expandS (L (longs.getD k ⟨#[]⟩)) v = (T, 0) ∧ expandS (L (shorts.getD k ⟨#[]⟩)) v = (T, 0) := by
  have h1 := List.all_eq_true.1 forms_alike k (List.mem_range.2 hk)
  have h2 := List.all_eq_true.1 pcs_alike k (List.mem_range.2 hk)
  simp only [Bool.and_eq_true, decide_eq_true_eq, beq_iff_eq] at h1 h2
  have h3 := pcs_inj _ _ h2
  refine ⟨_, by rw [expandS, if_pos h1.1], by rw [expandS, if_pos h1.2, ← h3]⟩
/-- A tape that has just been made over them. -/
theorem IntsIn.tape {w : World} {A : Option Addr} {n : Nat} (h : IntsIn w A n) (c : Nat) (t : TypeId) : TapeIs (w.alloc (.cells #[.slice A n c, .int .i64 0] t)) w.heap.size n 0 := by
  obtain ⟨h0, ba, off, hA, hlt, hz⟩ := h
  refine ⟨⟨A, c, t, heap_alloc_last _ _, ba, off, hA, by omega, fun i hi => ?_⟩, h0⟩
  obtain ⟨z, hc, z1, z2⟩ := hz i hi
  exact ⟨z, by rw [World.cell?_of_block (Below.heap_alloc w _ ba hlt)]; exact hc, z1, z2⟩
/-- What was there ahead of the tape is as it was. -/
theorem VSt.back {w w' W : World} {n p d : Nat} {bl : List (Nat × Obj)} (h : VSt w' w.heap.size n p d bl W) (hb : Below w.heap.size w w') : Below w.heap.size w W := by
  obtain ⟨_, h1, h2, h3, h4, h5⟩ := h.on
  exact ⟨h1.trans hb.os, h2.trans hb.tape, h3.trans hb.output, Nat.le_trans hb.size h4, fun k hk => (h5 k (Nat.lt_of_lt_of_le hk hb.size) (by omega)).trans (hb.block k hk)⟩
theorem size_getD (l : List ByteArray) (k : Nat) (h : (l.all fun s => decide (s.size ≤ 100)) = true) : (l.getD k ⟨#[]⟩).size ≤ 100 := by
  rw [List.getD]
  cases hx : l[k]? with
  | none => exact Nat.zero_le _
  | some x => simpa using List.all_eq_true.1 h x (List.mem_of_getElem? hx)
theorem alloc3 (w : World) (o1 o2 o3 : Obj) : (((w.alloc o1).alloc o2).alloc o3).heap.size = w.heap.size + 3 ∧ (((w.alloc o1).alloc o2).alloc o3).heap[w.heap.size]? = some o1 ∧
    (((w.alloc o1).alloc o2).alloc o3).heap[w.heap.size + 1]? = some o2 ∧ (((w.alloc o1).alloc o2).alloc o3).heap[w.heap.size + 2]? = some o3 ∧ Below w.heap.size w (((w.alloc o1).alloc o2).alloc o3) := by
  have hn : ∀ (W : World) (o : Obj) (k : Nat), k = W.heap.size → (W.alloc o).heap[k]? = some o := fun W o k e => by rw [e]; exact heap_alloc_last W o
  have hs : ∀ (W : World) (o : Obj), (W.alloc o).heap.size = W.heap.size + 1 := fun W o => by simp
  have ho : ∀ (W : World) (o : Obj) (k : Nat), k < W.heap.size → (W.alloc o).heap[k]? = W.heap[k]? := fun W o k h => Below.heap_alloc W o k h
  refine ⟨by simp only [hs], ?_, ?_, hn _ _ _ (by simp only [hs]), (((Below.refl _ _).alloc (Nat.le_refl _) _).alloc (by simp only [hs]; omega) _).alloc (by simp only [hs]; omega) _⟩
  · rw [ho _ _ _ (by simp only [hs]; omega), ho _ _ _ (by simp only [hs]; omega)]; exact hn _ _ _ rfl
  · rw [ho _ _ _ (by simp only [hs]; omega)]; exact hn _ _ _ (by simp only [hs])
theorem strs_cell {W : World} {g : Nat} {A : Array Value} {t : TypeId} (l : List ByteArray) (h : W.heap[g]? = some (.cells A t (0, 0))) (hA : A.toList = l.map Value.string) (k : Nat) (hk : k < l.length) : W.cell? ⟨g, k, none⟩ = some (.string (l.getD k ⟨#[]⟩)) := by
  rw [cell_of_row _ _ k _ _ _ h, ← Array.getElem?_toList, hA, List.getElem?_map, List.getD, List.getElem?_eq_getElem hk]; rfl
set_option maxRecDepth 100000 in
set_option maxHeartbeats 4000000 in
theorem lawForms (A : Option Addr) (n c : Nat) (w : World) (hE : Env w) (hl : IntsIn w A n) :
    Calls Tryz.prog 6 #[.slice A n c] w fun e w' => e = .returned (.bool true) ∧ Below w.heap.size w w' := by
  have HE := Lib.hid hE
  have HT := Lib.hid (VSt.start (hl.tape c 37))
  have Hw := Lib.hid (below_alloc w (.cells #[.slice A n c, .int .i64 0] 37))
  clear hl hE
  go_enter Tryz.func6, Tryz.ntmps6
  go_wp2_with fail
  with_reducible refine (values_any _ _ 0 0 _ _ _ HT.out (by omega)).mono ?_
  rintro e w1 ⟨v, rfl, hI, hv, bl, hst⟩
  have HI := Lib.hid hI
  have Hv := Lib.hid hv
  have Hb1 := Lib.hid (hst.back Hw.out)
  clear hI hv hst
  unfold encVs Lst.v
  go_wp2_with fail
  obtain ⟨W2, hW2⟩ : ∃ W2, ((w1.alloc (.cells #[.string v.kernel, .string v.devpath, .string v.id, .string v.driver, .string v.parent, .string v.name, .string v.result, .slice v.attrs.A v.attrs.l.length v.attrs.c, .slice v.above.A v.above.l.length v.above.c, .slice v.env.A v.env.l.length v.env.c] 25)).alloc (.cells #[.string ⟨#[36, 107, 101, 114, 110, 101, 108]⟩, .string ⟨#[36, 110, 117, 109, 98, 101, 114]⟩, .string ⟨#[36, 100, 101, 118, 112, 97, 116, 104]⟩, .string ⟨#[36, 105, 100]⟩, .string ⟨#[36, 100, 114, 105, 118, 101, 114]⟩, .string ⟨#[36, 97, 116, 116, 114, 123, 115, 105, 122, 101, 125]⟩, .string ⟨#[36, 97, 116, 116, 114, 123, 118, 101, 110, 100, 111, 114, 125]⟩, .string ⟨#[36, 101, 110, 118, 123, 73, 68, 125]⟩, .string ⟨#[36, 114, 101, 115, 117, 108, 116]⟩, .string ⟨#[36, 114, 101, 115, 117, 108, 116, 123, 50, 125]⟩, .string ⟨#[36, 114, 101, 115, 117, 108, 116, 123, 49, 43, 125]⟩, .string ⟨#[36, 112, 97, 114, 101, 110, 116]⟩] 9)).alloc (.cells #[.string ⟨#[37, 107]⟩, .string ⟨#[37, 110]⟩, .string ⟨#[37, 112]⟩, .string ⟨#[37, 98]⟩, .string ⟨#[37, 100]⟩, .string ⟨#[37, 115, 123, 115, 105, 122, 101, 125]⟩, .string ⟨#[37, 115, 123, 118, 101, 110, 100, 111, 114, 125]⟩, .string ⟨#[37, 69, 123, 73, 68, 125]⟩, .string ⟨#[37, 99]⟩, .string ⟨#[37, 99, 123, 50, 125]⟩, .string ⟨#[37, 99, 123, 49, 43, 125]⟩, .string ⟨#[37, 80]⟩] 9) = W2 := ⟨_, rfl⟩
  rw [hW2]
  have h3 := alloc3 w1 (.cells #[.string v.kernel, .string v.devpath, .string v.id, .string v.driver, .string v.parent, .string v.name, .string v.result, .slice v.attrs.A v.attrs.l.length v.attrs.c, .slice v.above.A v.above.l.length v.above.c, .slice v.env.A v.env.l.length v.env.c] 25) (.cells #[.string ⟨#[36, 107, 101, 114, 110, 101, 108]⟩, .string ⟨#[36, 110, 117, 109, 98, 101, 114]⟩, .string ⟨#[36, 100, 101, 118, 112, 97, 116, 104]⟩, .string ⟨#[36, 105, 100]⟩, .string ⟨#[36, 100, 114, 105, 118, 101, 114]⟩, .string ⟨#[36, 97, 116, 116, 114, 123, 115, 105, 122, 101, 125]⟩, .string ⟨#[36, 97, 116, 116, 114, 123, 118, 101, 110, 100, 111, 114, 125]⟩, .string ⟨#[36, 101, 110, 118, 123, 73, 68, 125]⟩, .string ⟨#[36, 114, 101, 115, 117, 108, 116]⟩, .string ⟨#[36, 114, 101, 115, 117, 108, 116, 123, 50, 125]⟩, .string ⟨#[36, 114, 101, 115, 117, 108, 116, 123, 49, 43, 125]⟩, .string ⟨#[36, 112, 97, 114, 101, 110, 116]⟩] 9) (.cells #[.string ⟨#[37, 107]⟩, .string ⟨#[37, 110]⟩, .string ⟨#[37, 112]⟩, .string ⟨#[37, 98]⟩, .string ⟨#[37, 100]⟩, .string ⟨#[37, 115, 123, 115, 105, 122, 101, 125]⟩, .string ⟨#[37, 115, 123, 118, 101, 110, 100, 111, 114, 125]⟩, .string ⟨#[37, 69, 123, 73, 68, 125]⟩, .string ⟨#[37, 99]⟩, .string ⟨#[37, 99, 123, 50, 125]⟩, .string ⟨#[37, 99, 123, 49, 43, 125]⟩, .string ⟨#[37, 80]⟩] 9)
  rw [hW2] at h3
  obtain ⟨hsz, hb0, hb1, hb2, hbw⟩ := h3
  have hC : ∀ W', Below W2.heap.size W2 W' → ∀ k, k < 12 → (W'.cell? ⟨w1.heap.size + 1, k, none⟩ = some (.string (longs.getD k ⟨#[]⟩)) ∧ W'.cell? ⟨w1.heap.size + 2, k, none⟩ = some (.string (shorts.getD k ⟨#[]⟩)) ∧ W'.cell? ⟨w1.heap.size, 0, none⟩ = some (.string v.kernel) ∧ W'.cell? ⟨w1.heap.size, 1, none⟩ = some (.string v.devpath) ∧ W'.cell? ⟨w1.heap.size, 2, none⟩ = some (.string v.id) ∧ W'.cell? ⟨w1.heap.size, 3, none⟩ = some (.string v.driver) ∧ W'.cell? ⟨w1.heap.size, 4, none⟩ = some (.string v.parent) ∧ W'.cell? ⟨w1.heap.size, 5, none⟩ = some (.string v.name) ∧ W'.cell? ⟨w1.heap.size, 6, none⟩ = some (.string v.result) ∧ W'.cell? ⟨w1.heap.size, 7, none⟩ = some (.slice v.attrs.A v.attrs.l.length v.attrs.c) ∧ W'.cell? ⟨w1.heap.size, 8, none⟩ = some (.slice v.above.A v.above.l.length v.above.c) ∧ W'.cell? ⟨w1.heap.size, 9, none⟩ = some (.slice v.env.A v.env.l.length v.env.c)) ∧ Below W2.heap.size W2 W' := fun W' hb k hk => by
    have hB0 := (hb.block _ (blk_lt hb0)).trans hb0
    refine ⟨⟨strs_cell longs ((hb.block _ (blk_lt hb1)).trans hb1) rfl k hk, strs_cell shorts ((hb.block _ (blk_lt hb2)).trans hb2) rfl k hk, ?_, ?_, ?_, ?_, ?_, ?_, ?_, ?_, ?_, ?_⟩, hb⟩
    · rw [cell_of_row _ _ 0 _ _ _ hB0]; rfl
    · rw [cell_of_row _ _ 1 _ _ _ hB0]; rfl
    · rw [cell_of_row _ _ 2 _ _ _ hB0]; rfl
    · rw [cell_of_row _ _ 3 _ _ _ hB0]; rfl
    · rw [cell_of_row _ _ 4 _ _ _ hB0]; rfl
    · rw [cell_of_row _ _ 5 _ _ _ hB0]; rfl
    · rw [cell_of_row _ _ 6 _ _ _ hB0]; rfl
    · rw [cell_of_row _ _ 7 _ _ _ hB0]; rfl
    · rw [cell_of_row _ _ 8 _ _ _ hB0]; rfl
    · rw [cell_of_row _ _ 9 _ _ _ hB0]; rfl
  have hX : ∀ W', Below W2.heap.size W2 W' → ∀ s : ByteArray, s.size ≤ 100 → Calls Tryz.prog 13 #[.string s, .agg #[.string v.kernel, .string v.devpath, .string v.id, .string v.driver, .string v.parent, .string v.name, .string v.result, .slice v.attrs.A v.attrs.l.length v.attrs.c, .slice v.above.A v.above.l.length v.above.c, .slice v.env.A v.env.l.length v.env.c]] W' (ExpPost (expandS (L s) v) W') := fun W' hb s hs => by
    have hbb : Below w1.heap.size w1 W' := bt hbw hb
    exact Expand_vs s v 240 (by decide) W' ((HE.out.go Hb1.out).go hbb) ((HI.out.keep hbb).more hbb.size) Hv.out (by omega)
  have HC := Lib.hid hC
  have HX := Lib.hid hX
  have Hw2 := Lib.hid (bt Hb1.out hbw)
  clear hC hX hbw hb0 hb1 hb2 hW2 HI Hv Hb1 HT Hw
  go_loopg [7] 12 (fun gk i wr => ∃ k : Nat, k + gk = 12 ∧ i = .int .i64 k ∧ Hid (Below W2.heap.size W2 wr))
  case atStart => exact ⟨0, by omega, rfl, Below.refl _ _⟩
  case round =>
    obtain ⟨k, hk, rfl, hbr⟩ := hrel
    by_cases hlt : k < 12
    · obtain ⟨T, hT1, hT2⟩ := expand_alike k hlt v
      have x1 := HX.out _ hbr.out.drew (longs.getD k ⟨#[]⟩) (size_getD longs k (by decide))
      rw [hT1] at x1
      have x2 := fun W' hb => HX.out W' hb (shorts.getD k ⟨#[]⟩) (size_getD shorts k (by decide))
      rw [hT2] at x2
      have hS := fun W' hb => HC.out W' hb k hlt
      generalize longs.getD k ⟨#[]⟩ = s1 at *
      generalize shorts.getD k ⟨#[]⟩ = s2 at *
      have HS := Lib.hid hS
      have X1 := Lib.hid x1
      have X2 := Lib.hid x2
      clear hS x1 x2 hT1 hT2
      go_wp2
      go_region_held3 (fun W' => (W'.cell? ⟨w1.heap.size + 1, k, none⟩ = some (.string s1) ∧ W'.cell? ⟨w1.heap.size + 2, k, none⟩ = some (.string s2) ∧ W'.cell? ⟨w1.heap.size, 0, none⟩ = some (.string v.kernel) ∧ W'.cell? ⟨w1.heap.size, 1, none⟩ = some (.string v.devpath) ∧ W'.cell? ⟨w1.heap.size, 2, none⟩ = some (.string v.id) ∧ W'.cell? ⟨w1.heap.size, 3, none⟩ = some (.string v.driver) ∧ W'.cell? ⟨w1.heap.size, 4, none⟩ = some (.string v.parent) ∧ W'.cell? ⟨w1.heap.size, 5, none⟩ = some (.string v.name) ∧ W'.cell? ⟨w1.heap.size, 6, none⟩ = some (.string v.result) ∧ W'.cell? ⟨w1.heap.size, 7, none⟩ = some (.slice v.attrs.A v.attrs.l.length v.attrs.c) ∧ W'.cell? ⟨w1.heap.size, 8, none⟩ = some (.slice v.above.A v.above.l.length v.above.c) ∧ W'.cell? ⟨w1.heap.size, 9, none⟩ = some (.slice v.env.A v.env.l.length v.env.c)) ∧ Below W2.heap.size W2 W') (first | exact HS.out _ hbr.out.drew | exact HS.out _ (bt hbr.out.drew hb0)) ((go_at_call 13; refine X1.out.mono ?_; rintro e w0 ⟨rfl, hb0⟩))
      have hb0' : Below W2.heap.size W2 w0 := bt hbr.out.drew hb0
      have HB0 := Lib.hid hb0'
      clear hb0 hb0' X1
      have x2 := X2.out _ HB0.out.drew
      have X3 := Lib.hid x2
      clear x2 X2
      go_wp2
      go_region_held3 (fun W' => (W'.cell? ⟨w1.heap.size + 1, k, none⟩ = some (.string s1) ∧ W'.cell? ⟨w1.heap.size + 2, k, none⟩ = some (.string s2) ∧ W'.cell? ⟨w1.heap.size, 0, none⟩ = some (.string v.kernel) ∧ W'.cell? ⟨w1.heap.size, 1, none⟩ = some (.string v.devpath) ∧ W'.cell? ⟨w1.heap.size, 2, none⟩ = some (.string v.id) ∧ W'.cell? ⟨w1.heap.size, 3, none⟩ = some (.string v.driver) ∧ W'.cell? ⟨w1.heap.size, 4, none⟩ = some (.string v.parent) ∧ W'.cell? ⟨w1.heap.size, 5, none⟩ = some (.string v.name) ∧ W'.cell? ⟨w1.heap.size, 6, none⟩ = some (.string v.result) ∧ W'.cell? ⟨w1.heap.size, 7, none⟩ = some (.slice v.attrs.A v.attrs.l.length v.attrs.c) ∧ W'.cell? ⟨w1.heap.size, 8, none⟩ = some (.slice v.above.A v.above.l.length v.above.c) ∧ W'.cell? ⟨w1.heap.size, 9, none⟩ = some (.slice v.env.A v.env.l.length v.env.c)) ∧ Below W2.heap.size W2 W') (first | exact HS.out _ HB0.out.drew | exact HS.out _ (bt HB0.out.drew hb3)) ((go_at_call 13; refine X3.out.mono ?_; rintro e w3 ⟨rfl, hb3⟩))
      have HB3 : Hid (Below W2.heap.size W2 w3) := Lib.hid (bt HB0.out.drew hb3)
      clear hb3 X3
      go_wp2
      go_roundg (gk - 1)
      case measure => omega
      case rel => exact ⟨k + 1, by omega, by go_num, HB3.out⟩
    · go_wp2_with (go_at_call 11; refine (known_any _ ((HE.out.go Hw2.out).go hbr.out)).mono ?_; rintro e w3 ⟨rfl, hb3⟩; have HB3 := Lib.hid hb3; clear hb3)
      go_ret
      exact ⟨rfl, bt Hw2.out (bt hbr.out HB3.out)⟩
end Go.Proofs.YtifbcfpaifobjaaGreatDoor
