/-
  A list of pieces that came in, opened.
-/
import Derived.Test.YtifbcfpaifobjaaGreatDoorOpen
import Derived.Deep.Slices
namespace Go.Proofs.YtifbcfpaifobjaaGreatDoor
open Go.ChangeShapes Go.WideShapes Go.ChangeAt Go.RowKit
theorem piece_cells : Tryz.prog.cellsOf 64 = 4 := by kernel_rfl
theorem piece_under : ∃ f0 f1 f2 f3 : Field, Tryz.prog.underlying 64 = some (.struct #[f0, f1, f2, f3]) ∧ (f0.offset = 0 ∧ f1.offset = 1 ∧ f2.offset = 2 ∧ f3.offset = 3) ∧ (f0.type = 3 ∧ f1.type = 9 ∧ f2.type = 3 ∧ f3.type = 4) := by
  refine ⟨_, _, _, _, Tryz.underlying64, ⟨rfl, rfl, rfl, rfl⟩, rfl, rfl, rfl, rfl⟩
theorem list4 {α : Type} : ∀ (l : List α), l.length = 4 → ∃ a b c d, l = [a, b, c, d]
  | [a, b, c, d], _ => ⟨a, b, c, d, rfl⟩
  | [], h => by simp at h
  | [_], h => by simp at h
  | [_, _], h => by simp at h
  | [_, _, _], h => by simp at h
  | _ :: _ :: _ :: _ :: _ :: _, h => by simp at h
theorem cellsB : Tryz.prog.cellsOf 4 = 1 := by kernel_rfl
set_option maxRecDepth 100000 in
theorem opened_pcs {H : Type} {enc : TypeId × Value → H} {W : World} {n : Nat} {v : Value} {x : DataW H × List MemPlace} (h : DataW.trod enc Tryz.prog W 0 (fun _ => true) true n 38 [v] = some x) :
    ∃ (A : Option Addr) (c : Nat) (l : List Pc), v = .slice A l.length c ∧ RowAt W W.heap.size A 4 l.length (cellsOf encPc l) ∧ l.length ≤ 9223372036854775807 ∧ ∀ p ∈ l, p.text.size ≤ Rows.uptoBulk x.1 := by
  obtain ⟨f0, f1, f2, f3, hu, ⟨o0, o1, o2, o3⟩, t0, t1, t2, t3⟩ := piece_under
  rcases Go.Deep.open_slice Tryz.underlying38 h with ⟨hv, rfl⟩ | ⟨a, len, cap, m, k, D, Pl, hv, _, hl, hm, hmm, rfl, hx⟩
  · have e : v = .slice none 0 0 := by simpa using hv
    exact ⟨none, 0, [], e, ⟨rfl, fun h => absurd h (Nat.lt_irrefl 0)⟩, Nat.zero_le _, fun _ h => by cases h⟩
  · have e : v = .slice (some a) len cap := by simpa using hv
    simp only [if_true] at hmm
    unfold maxLen at hm
    have hE : ∀ i, i < len → ∃ y : Pc, (∀ f u, (encPc y)[f]? = some u → W.cell? (a.add (i * 4 + f)) = some u) ∧ ∃ d0 d2 d3, D i = .agg [d0, .lit (.string (L y.text)), d2, d3] := fun i hi => by
      obtain ⟨cs', h1, h2⟩ := hx i (by omega)
      rw [piece_cells] at h1
      obtain ⟨_, hlen, hcell⟩ := World.cells?_some h1
      obtain ⟨xs, k', hk, hxy, _, hxl, hf⟩ := DataW.trod_struct hu h2
      obtain ⟨y0, y1, y2, y3, rfl⟩ := list4 xs hxl
      obtain ⟨v0, v1, v2, v3, rfl⟩ := list4 cs' hlen
      have g0 := hf 0 f0 rfl
      have g1 := hf 1 f1 rfl
      have g2 := hf 2 f2 rfl
      have g3 := hf 3 f3 rfl
      rw [o0, t0, cellsInt] at g0
      rw [o1, t1, cellsStr] at g1
      rw [o2, t2, cellsInt] at g2
      rw [o3, t3, cellsB] at g3
      obtain ⟨z0, e0, _, _⟩ := DataW.trod_int Tryz.underlying3 g0
      obtain ⟨s1, e1, d1, _⟩ := DataW.trod_string Tryz.underlying9 g1
      obtain ⟨z2, e2, _, _⟩ := DataW.trod_int Tryz.underlying3 g2
      obtain ⟨b3, e3, _⟩ := DataW.trod_bool Tryz.underlying4 g3
      obtain rfl : v0 = .int .i64 z0 := by simpa using e0
      obtain rfl : v1 = .string s1 := by simpa using e1
      obtain rfl : v2 = .int .i64 z2 := by simpa using e2
      obtain rfl : v3 = .bool b3 := by simpa using e3
      refine ⟨⟨z0, s1, z2, b3⟩, fun f u hu => ?_, y0.1, y2.1, y3.1, ?_⟩
      · have hf4 : f < 4 := (List.getElem?_eq_some_iff.1 hu).1
        have := hcell f hf4
        rw [Go.Deep.add_add] at this
        rw [this]
        exact hu
      · have h3 := (Prod.mk.inj hxy).1
        rw [h3, d1]
        rfl
    have : Inhabited Pc := ⟨⟨0, ⟨#[]⟩, 0, false⟩⟩
    obtain ⟨f, hf⟩ := Go.Deep.choose_lt hE
    have hlen : ((List.range len).map f).length = len := by simp
    refine ⟨some a, cap, (List.range len).map f, by rw [e, hlen], ⟨cellsOf_len _ 4 encPc_len _, fun hn => ?_⟩, by rw [hlen]; omega, ?_⟩
    · rw [hlen] at hn
      have h0 := (hf 0 hn).1 0 _ rfl
      rw [show a.add (0 * 4 + 0) = a from rfl] at h0
      have hs := spot_none h0
      refine ⟨a.block, a.off, by rw [← hs], block_lt_of_cell h0, fun j u hu => ?_⟩
      have hj : j < len * 4 := by
        have := (List.getElem?_eq_some_iff.1 hu).1
        rw [cellsOf_len _ 4 encPc_len, hlen] at this
        exact this
      have hi : j / 4 < len := by omega
      have hg : ((List.range len).map f)[j / 4]? = some (f (j / 4)) := by simp [hi]
      have ej : j = j / 4 * 4 + j % 4 := by omega
      rw [ej, cellsOf_get encPc 4 encPc_len _ _ (j % 4) _ hg (by omega)] at hu
      have hc := (hf (j / 4) hi).1 (j % 4) u hu
      rw [hs, add_plain, ← ej] at hc
      exact hc
    · intro y hy
      obtain ⟨i, hi, rfl⟩ := List.mem_map.1 hy
      have hi := List.mem_range.1 hi
      obtain ⟨d0, d2, d3, hD⟩ := (hf i hi).2
      have h1 := bulk_slice ((List.range len).map D) ((List.range (m - len)).map fun j => D (len + j))
      have h2 : Rows.uptoBulk (D i) ≤ Rows.uptoBulkAll ((List.range len).map D) := bulk_mem (List.mem_map.2 ⟨i, List.mem_range.2 hi, rfl⟩)
      have h3 := bulk_agg [d0, .lit (.string (L (f i).text)), d2, d3]
      have h4 : Rows.uptoBulk (DataW.lit (H := H) (.string (L (f i).text))) ≤ Rows.uptoBulkAll [d0, .lit (.string (L (f i).text)), d2, d3] := bulk_mem (by simp)
      rw [bulk_str, len_L] at h4
      rw [hD, ← h3] at h2
      dsimp only
      omega
end Go.Proofs.YtifbcfpaifobjaaGreatDoor
