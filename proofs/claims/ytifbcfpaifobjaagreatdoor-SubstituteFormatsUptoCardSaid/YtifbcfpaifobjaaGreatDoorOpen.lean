/-
  Arguments that came in, opened: lists of named values, the values of a device; how great they can be under the bound of the row.
-/
import Derived.Test.YtifbcfpaifobjaaGreatDoorLift
import Derived.Test.YtifbcfpaifobjaaGreatDoorSmall
import Derived.Deep.SlicePairs
import Derived.Deep.Fields
namespace Go.Proofs.YtifbcfpaifobjaaGreatDoor
open Go.ChangeShapes Go.WideShapes Go.ChangeAt Go.RowKit
/-! ### The bound -/
theorem bulk_pos {H : Type} (d : DataW H) : 1 ≤ Rows.uptoBulk d := by
  cases d with
  | lit l => cases l <;> simp [Rows.uptoBulk]
  | _ => simp [Rows.uptoBulk]
theorem bulk_mem {H : Type} {d : DataW H} : ∀ {l : List (DataW H)}, d ∈ l → Rows.uptoBulk d ≤ Rows.uptoBulkAll l
  | [], h => by cases h
  | x :: r, h => by
    rw [Rows.uptoBulkAll]
    rcases List.mem_cons.1 h with rfl | h
    · omega
    · have := bulk_mem h; omega
theorem bulk_len {H : Type} : ∀ (l : List (DataW H)), l.length ≤ Rows.uptoBulkAll l
  | [] => Nat.zero_le _
  | x :: r => by
    have := bulk_pos x
    have := bulk_len r
    rw [Rows.uptoBulkAll, List.length_cons]; omega
theorem bulk_str {H : Type} (b : List UInt8) : Rows.uptoBulk (DataW.lit (H := H) (.string b)) = b.length + 1 := by simp [Rows.uptoBulk]
theorem bulk_slice {H : Type} (a b : List (DataW H)) : Rows.uptoBulkAll a + 1 ≤ Rows.uptoBulk (.slice a b) := by simp only [Rows.uptoBulk]; omega
theorem bulk_agg {H : Type} (a : List (DataW H)) : Rows.uptoBulkAll a + 1 = Rows.uptoBulk (.agg a) := by simp only [Rows.uptoBulk]
theorem bulk_of {H : Type} {l : List (DataW H)} (h : Rows.uptoSmall H l = true) : Rows.uptoBulkAll l ≤ 1048576 := of_decide_eq_true h
/-! ### Lists of named values -/
theorem attr_one : Tryz.prog.cellsOf 56 = 2 := by kernel_rfl
theorem opened_str {H : Type} {enc : TypeId × Value → H} {W : World} {n : Nat} {v : Value} {x : DataW H × List MemPlace} (h : DataW.trod enc Tryz.prog W 0 (fun _ => true) true n 9 [v] = some x) :
    ∃ s : ByteArray, v = .string s ∧ x.1 = .lit (.string (L s)) ∧ s.size ≤ 9223372036854775807 ∧ s.size + 1 ≤ Rows.uptoBulk x.1 := by
  obtain ⟨s, hs, rfl, hz⟩ := DataW.trod_string Tryz.underlying9 h
  have e : v = .string s := by simpa using hs
  unfold maxLen at hz
  refine ⟨s, e, rfl, by omega, ?_⟩
  show s.size + 1 ≤ Rows.uptoBulk (DataW.lit (.string s.data.toList))
  rw [bulk_str]
  exact Nat.le_refl _
set_option maxRecDepth 100000 in
theorem opened_attrs {H : Type} {enc : TypeId × Value → H} {W : World} {n : Nat} {v : Value} {x : DataW H × List MemPlace} (h : DataW.trod enc Tryz.prog W 0 (fun _ => true) true n 23 [v] = some x) :
    ∃ y : Lst, v = y.v ∧ RowAt W W.heap.size y.A 2 y.l.length (cellsOf encAt y.l) ∧ y.l.length ≤ Rows.uptoBulk x.1 ∧ y.l.length ≤ 9223372036854775807 ∧ ∀ a ∈ y.l, a.val.size ≤ Rows.uptoBulk x.1 := by
  rcases Go.Deep.open_slice_pairs Tryz.underlying23 Tryz.underlying56 attr_one rfl rfl (by kernel_rfl) (by kernel_rfl) h with ⟨hv, rfl⟩ | ⟨a, len, cap, m, k, V0, V1, D0, D1, P0, P1, hv, _, hl, hm, hmm, rfl, hx⟩
  · have e : v = .slice none 0 0 := by simpa using hv
    exact ⟨⟨none, 0, []⟩, e, ⟨rfl, fun h => absurd h (Nat.lt_irrefl 0)⟩, Nat.zero_le _, Nat.zero_le _, fun _ h => by cases h⟩
  · have e : v = .slice (some a) len cap := by simpa using hv
    simp only [if_true] at hmm
    unfold maxLen at hm
    have hE : ∀ i, i < len → ∃ y : At, V0 i = .string y.name ∧ V1 i = .string y.val ∧ D1 i = .lit (.string (L y.val)) := fun i hi => by
      obtain ⟨_, _, h1, h2⟩ := hx i (by omega)
      obtain ⟨s1, e1, _, _, _⟩ := opened_str h1
      obtain ⟨s2, e2, e3, _, _⟩ := opened_str h2
      exact ⟨⟨s1, s2⟩, e1, e2, e3⟩
    have : Inhabited At := ⟨⟨⟨#[]⟩, ⟨#[]⟩⟩⟩
    obtain ⟨f, hf⟩ := Go.Deep.choose_lt hE
    have hlen : ((List.range len).map f).length = len := by simp
    refine ⟨⟨some a, cap, (List.range len).map f⟩, by rw [e, Lst.v, hlen], ⟨cellsOf_len _ 2 encAt_len _, fun hn => ?_⟩, ?_, by rw [hlen]; omega, ?_⟩
    · rw [hlen] at hn
      have h0 := (hx 0 (by omega)).1
      rw [show a.add (0 * 2) = a from rfl] at h0
      have hs := spot_none h0
      refine ⟨a.block, a.off, by rw [← hs], block_lt_of_cell h0, fun j u hu => ?_⟩
      have hj : j < len * 2 := by
        have := (List.getElem?_eq_some_iff.1 hu).1
        rw [cellsOf_len _ 2 encAt_len, hlen] at this
        exact this
      have hi : j / 2 < len := by omega
      obtain ⟨c0, c1, _, _⟩ := hx (j / 2) (by omega)
      obtain ⟨f0, f1, _⟩ := hf (j / 2) hi
      have hg : ((List.range len).map f)[j / 2]? = some (f (j / 2)) := by simp [hi]
      rw [hs, add_plain] at c0 c1
      rcases Nat.mod_two_eq_zero_or_one j with hm2 | hm2
      · have ej : j = j / 2 * 2 + 0 := by omega
        rw [ej, cellsOf_get encAt 2 encAt_len _ _ 0 _ hg (by omega)] at hu
        obtain rfl : Value.string (f (j / 2)).name = u := by simpa [encAt] using hu
        rw [show a.off + j = a.off + j / 2 * 2 from by omega, c0, f0]
      · have ej : j = j / 2 * 2 + 1 := by omega
        rw [ej, cellsOf_get encAt 2 encAt_len _ _ 1 _ hg (by omega)] at hu
        obtain rfl : Value.string (f (j / 2)).val = u := by simpa [encAt] using hu
        rw [show a.off + j = a.off + (j / 2 * 2 + 1) from by omega, c1, f1]
    · rw [hlen]
      have h1 := bulk_slice ((List.range len).map fun i => DataW.agg [D0 i, D1 i]) ((List.range (m - len)).map fun j => .agg [D0 (len + j), D1 (len + j)])
      have h2 := bulk_len ((List.range len).map fun i => DataW.agg [D0 i, D1 i])
      rw [List.length_map, List.length_range] at h2
      dsimp only
      omega
    · intro y hy
      obtain ⟨i, hi, rfl⟩ := List.mem_map.1 hy
      have hi := List.mem_range.1 hi
      have h1 := bulk_slice ((List.range len).map fun i => DataW.agg [D0 i, D1 i]) ((List.range (m - len)).map fun j => .agg [D0 (len + j), D1 (len + j)])
      have h2 : Rows.uptoBulk (DataW.agg [D0 i, D1 i]) ≤ Rows.uptoBulkAll ((List.range len).map fun i => DataW.agg [D0 i, D1 i]) := bulk_mem (List.mem_map.2 ⟨i, List.mem_range.2 hi, rfl⟩)
      have h3 := bulk_agg [D0 i, D1 i]
      have h4 : Rows.uptoBulk (D1 i) ≤ Rows.uptoBulkAll [D0 i, D1 i] := bulk_mem (by simp)
      have h5 : Rows.uptoBulk (D1 i) = (f i).val.size + 1 := by rw [(hf i hi).2.2, bulk_str, len_L]
      dsimp only
      omega
theorem vals_cells : Tryz.prog.cellsOf 25 = 10 := by kernel_rfl
theorem list10 {α : Type} : ∀ (l : List α), l.length = 10 → ∃ a b c d e f g h i j, l = [a, b, c, d, e, f, g, h, i, j]
  | [a, b, c, d, e, f, g, h, i, j], _ => ⟨a, b, c, d, e, f, g, h, i, j, rfl⟩
  | [], h => by simp at h
  | [_], h => by simp at h
  | [_, _], h => by simp at h
  | [_, _, _], h => by simp at h
  | [_, _, _, _], h => by simp at h
  | [_, _, _, _, _], h => by simp at h
  | [_, _, _, _, _, _], h => by simp at h
  | [_, _, _, _, _, _, _], h => by simp at h
  | [_, _, _, _, _, _, _, _], h => by simp at h
  | [_, _, _, _, _, _, _, _, _], h => by simp at h
  | _ :: _ :: _ :: _ :: _ :: _ :: _ :: _ :: _ :: _ :: _ :: _, h => by simp at h
set_option maxRecDepth 100000 in
set_option maxHeartbeats 1000000 in
/-- The values of a device that came in. -/
theorem open_vals {H : Type} {enc : TypeId × Value → H} {W : World} {base : Nat} {v : Value} {d : DataW H} {p : List MemPlace} (hval : Value.okWide Tryz.prog W .any base 25 v) (h : DataW.Trod enc Tryz.prog W 0 (fun _ => true) true 25 v d p) :
    ∃ y : Vs, v = encVs y ∧ (Rows.uptoBulk d ≤ 1048576 → VsIn W W.heap.size y ∧ VsSmall 1048576 y) := by
  obtain ⟨cs, rfl, hcs⟩ := okWide_struct Tryz.underlying25 hval
  obtain ⟨fuel, hf⟩ := h
  obtain ⟨xs, n, _, hx, hlen, hxl, hfl⟩ := DataW.trod_struct Tryz.underlying25 hf
  rw [vals_cells] at hlen
  obtain ⟨a0, a1, a2, a3, a4, a5, a6, a7, a8, a9, hcl⟩ := list10 _ hlen
  obtain ⟨x0, x1, x2, x3, x4, x5, x6, x7, x8, x9, rfl⟩ := list10 xs hxl
  have hcl' : cs.toList = [a0, a1, a2, a3, a4, a5, a6, a7, a8, a9] := hcl
  rw [hcl] at hfl
  have h0 : DataW.trod enc Tryz.prog W 0 (fun _ => true) true n 9 [a0] = some x0 := hfl 0 _ rfl
  have h1 : DataW.trod enc Tryz.prog W 0 (fun _ => true) true n 9 [a1] = some x1 := hfl 1 _ rfl
  have h2 : DataW.trod enc Tryz.prog W 0 (fun _ => true) true n 9 [a2] = some x2 := hfl 2 _ rfl
  have h3 : DataW.trod enc Tryz.prog W 0 (fun _ => true) true n 9 [a3] = some x3 := hfl 3 _ rfl
  have h4 : DataW.trod enc Tryz.prog W 0 (fun _ => true) true n 9 [a4] = some x4 := hfl 4 _ rfl
  have h5 : DataW.trod enc Tryz.prog W 0 (fun _ => true) true n 9 [a5] = some x5 := hfl 5 _ rfl
  have h6 : DataW.trod enc Tryz.prog W 0 (fun _ => true) true n 9 [a6] = some x6 := hfl 6 _ rfl
  have h7 : DataW.trod enc Tryz.prog W 0 (fun _ => true) true n 23 [a7] = some x7 := hfl 7 _ rfl
  have h8 : DataW.trod enc Tryz.prog W 0 (fun _ => true) true n 23 [a8] = some x8 := hfl 8 _ rfl
  have h9 : DataW.trod enc Tryz.prog W 0 (fun _ => true) true n 23 [a9] = some x9 := hfl 9 _ rfl
  obtain ⟨s0, rfl, _, _, b0⟩ := opened_str h0
  obtain ⟨s1, rfl, _, _, b1⟩ := opened_str h1
  obtain ⟨s2, rfl, _, _, b2⟩ := opened_str h2
  obtain ⟨s3, rfl, _, _, b3⟩ := opened_str h3
  obtain ⟨s4, rfl, _, _, b4⟩ := opened_str h4
  obtain ⟨s5, rfl, _, _, b5⟩ := opened_str h5
  obtain ⟨s6, rfl, _, _, b6⟩ := opened_str h6
  obtain ⟨l7, rfl, r7, b7, _, c7⟩ := opened_attrs h7
  obtain ⟨l8, rfl, r8, b8, _, c8⟩ := opened_attrs h8
  obtain ⟨l9, rfl, r9, b9, _, c9⟩ := opened_attrs h9
  refine ⟨⟨s0, s1, s2, s3, s4, s5, s6, l7, l8, l9⟩, ?_, fun hd => ?_⟩
  · obtain ⟨l⟩ := cs
    have : l = [.string s0, .string s1, .string s2, .string s3, .string s4, .string s5, .string s6, l7.v, l8.v, l9.v] := hcl'
    rw [this]; rfl
  · have hd1 : d = .agg [x0.1, x1.1, x2.1, x3.1, x4.1, x5.1, x6.1, x7.1, x8.1, x9.1] := (Prod.mk.inj hx).1
    rw [hd1, ← bulk_agg] at hd
    simp only [Rows.uptoBulkAll] at hd
    exact ⟨⟨r7, r8, r9, by show l7.l.length ≤ _; omega, by show l8.l.length ≤ _; omega, by show l9.l.length ≤ _; omega⟩,
      ⟨by show s0.size ≤ _; omega, by show s1.size ≤ _; omega, by show s2.size ≤ _; omega, by show s3.size ≤ _; omega, by show s4.size ≤ _; omega, by show s5.size ≤ _; omega, by show s6.size ≤ _; omega,
       fun x hx => by have := c7 x hx; omega, fun x hx => by have := c8 x hx; omega, fun x hx => by have := c9 x hx; omega⟩⟩
end Go.Proofs.YtifbcfpaifobjaaGreatDoor
