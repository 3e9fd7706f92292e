/-
  An argument that is a list of directories, opened.
-/
import Derived.Test.YthcgkeiggnfgiaaGreatDoorLift17
import Derived.Test.YthcgkeiggnfgiaaGreatDoorG13
import Derived.Test.YthcgkeiggnfgiaaGreatDoorG17
import Derived.Deep.SlicePairs
namespace Go.Proofs.YthcgkeiggnfgiaaGreatDoor
open Go.ChangeShapes Go.WideShapes Go.ChangeAt Go.RowKit Go.Deep
theorem ub_pos {H : Type} (d : DataW H) : 1 ≤ Rows.uptoBulk d := by
  cases d with
  | lit l => cases l <;> simp [Rows.uptoBulk]
  | _ => simp [Rows.uptoBulk]
theorem ub_len {H : Type} : ∀ (l : List (DataW H)), l.length ≤ Rows.uptoBulkAll l
  | [] => Nat.zero_le _
  | x :: r => by
    have := ub_pos x
    have := ub_len r
    rw [Rows.uptoBulkAll, List.length_cons]; omega
theorem ub_slice {H : Type} (a b : List (DataW H)) : Rows.uptoBulkAll a + 1 ≤ Rows.uptoBulk (.slice a b) := by simp only [Rows.uptoBulk]; omega
theorem ub_of {H : Type} {l : List (DataW H)} (h : Rows.uptoSmall H l = true) : Rows.uptoBulkAll l ≤ 1048576 := of_decide_eq_true h
theorem ub_dirs {H : Type} (f : Nat → Ls At) (D : Nat → DataW H) : ∀ (l : List Nat), (∀ i ∈ l, (f i).l.length + 1 ≤ Rows.uptoBulk (D i)) → bulk (l.map f) ≤ Rows.uptoBulkAll (l.map D)
  | [], _ => Nat.zero_le _
  | x :: r, h => by
    have h1 := h x (by simp)
    have h2 := ub_dirs f D r (fun i hi => h i (by simp [hi]))
    rw [List.map_cons, List.map_cons, bulk_cons, Rows.uptoBulkAll]
    omega
theorem cellsFile : Tryz.prog.cellsOf 34 = 2 := by kernel_rfl
theorem cellsFiles : Tryz.prog.cellsOf 31 = 1 := by kernel_rfl
theorem cellsStr : Tryz.prog.cellsOf 9 = 1 := by kernel_rfl
set_option maxRecDepth 100000 in
/-- The files of one slice. -/
theorem open_files {H : Type} {enc : TypeId × Value → H} {W : World} {fuel : Nat} {v : Value} {x : DataW H × List MemPlace} (h : DataW.trod enc Tryz.prog W 0 (fun _ => true) true fuel 31 [v] = some x) :
    ∃ d : Ls At, v = d.v ∧ RowAt W W.heap.size d.A 2 d.l.length (cellsOf encAt d.l) ∧ d.l.length ≤ d.c ∧ (∀ y ∈ d.l, FileOk y) ∧ d.l.length + 1 ≤ Rows.uptoBulk x.1 := by
  rcases open_slice_pairs Tryz.underlying31 Tryz.underlying34 cellsFile rfl rfl cellsStr cellsStr h with ⟨hcs, rfl⟩ | ⟨a, len, cap, m, n, V0, V1, D0, D1, P0, P1, hcs, _, hl, hm, hmm, rfl, hx⟩
  · obtain rfl : v = .slice none 0 0 := by simpa using hcs
    exact ⟨⟨none, 0, []⟩, rfl, ⟨rfl, fun h => absurd h (Nat.lt_irrefl 0)⟩, Nat.le_refl _, (fun _ h => by cases h), ub_pos _⟩
  · obtain rfl : v = .slice (some a) len cap := by simpa using hcs
    simp only [if_true] at hmm
    have hstr : ∀ i, i < len → ∃ y : At, V0 i = .string y.name ∧ V1 i = .string y.val ∧ FileOk y := fun i hi => by
      obtain ⟨_, _, h0, h1⟩ := hx i (by omega)
      obtain ⟨s0, e0, _, z0⟩ := DataW.trod_string Tryz.underlying9 h0
      obtain ⟨s1, e1, _, z1⟩ := DataW.trod_string Tryz.underlying9 h1
      exact ⟨⟨s0, s1⟩, by simpa using e0, by simpa using e1, z0, z1⟩
    obtain ⟨f, hf⟩ : ∃ f : Nat → At, ∀ i, i < len → V0 i = .string (f i).name ∧ V1 i = .string (f i).val ∧ FileOk (f i) := by
      have : Inhabited At := ⟨⟨ByteArray.empty, ByteArray.empty⟩⟩
      exact choose_lt hstr
    have hln : ((List.range len).map f).length = len := by simp
    refine ⟨⟨some a, cap, (List.range len).map f⟩, by unfold Ls.v; dsimp only; rw [hln], ?_, by dsimp only; omega, fun y hy => ?_, ?_⟩
    · dsimp only
      rw [hln]
      refine ⟨by rw [cellsOf_len encAt 2 encAt_len, hln], fun hn => ?_⟩
      have hc0 := (hx 0 (by omega)).1
      have hs := spot_none hc0
      have ha : a.add (0 * 2) = a := rfl
      rw [ha] at hs hc0
      refine ⟨a.block, a.off, by rw [← hs], block_lt_of_cell hc0, fun j u hu => ?_⟩
      have hj : j < len * 2 := by
        have := (List.getElem?_eq_some_iff.1 hu).1
        rwa [cellsOf_len encAt 2 encAt_len, hln] at this
      have hi : j / 2 < len := by omega
      obtain ⟨g0, g1, _, _⟩ := hx (j / 2) (by omega)
      obtain ⟨k0, k1, _⟩ := hf (j / 2) hi
      rw [hs, add_plain] at g0 g1
      have hget := cellsOf_get encAt 2 encAt_len ((List.range len).map f) (j / 2) (j % 2) (f (j / 2)) (by simp [hi]) (by omega)
      rw [show j / 2 * 2 + j % 2 = j by omega] at hget
      rw [hget] at hu
      rcases (by omega : j % 2 = 0 ∨ j % 2 = 1) with h2 | h2
      · rw [h2] at hu
        obtain rfl : Value.string (f (j / 2)).name = u := by simpa [encAt] using hu
        rw [← k0, ← g0, show j / 2 * 2 = j by omega]
      · rw [h2] at hu
        obtain rfl : Value.string (f (j / 2)).val = u := by simpa [encAt] using hu
        rw [← k1, ← g1, show j / 2 * 2 + 1 = j by omega]
    · obtain ⟨i, hi, rfl⟩ := List.mem_map.1 hy
      exact (hf i (by simpa using hi)).2.2
    · refine Nat.le_trans (Nat.succ_le_succ ?_) (ub_slice _ _)
      dsimp only
      rw [hln]
      refine Nat.le_trans (Nat.le_of_eq ?_) (ub_len _)
      simp
set_option maxRecDepth 100000 in
/-- The directories of an argument. -/
theorem open_dirs {H : Type} {enc : TypeId × Value → H} {W : World} {base : Nat} {v : Value} {d : DataW H} {p : List MemPlace} (hval : Value.okWide Tryz.prog W .any base 22 v) (h : DataW.Trod enc Tryz.prog W 0 (fun _ => true) true 22 v d p) :
    ∃ (A : Option Addr) (c : Nat) (ds : List (Ls At)), v = .slice A ds.length c ∧ DirsAt W A ds ∧ (∀ y ∈ ds, ∀ x ∈ y.l, FileOk x) ∧ bulk ds ≤ Rows.uptoBulk d := by
  obtain ⟨a0, len, cap, rfl⟩ := okWide_slice Tryz.underlying22 hval
  obtain ⟨fuel, hf⟩ := h
  rcases open_slice1 Tryz.underlying22 cellsFiles hf with ⟨hcs, hd⟩ | ⟨a, len', cap', m, n, V, D, Pl, hcs, _, hl, hm, hmm, hd, hx⟩
  · simp [Value.cells] at hcs
    obtain ⟨rfl, rfl, rfl⟩ := hcs
    exact ⟨none, 0, [], rfl, ⟨⟨rfl, fun h => absurd h (Nat.lt_irrefl 0)⟩, (fun _ h => by cases h), fun _ h => by cases h⟩, (fun _ h => by cases h), Nat.zero_le _⟩
  · simp [Value.cells] at hcs
    obtain ⟨rfl, rfl, rfl⟩ := hcs
    simp only [if_true] at hmm
    obtain ⟨f, hf⟩ : ∃ f : Nat → Ls At, ∀ i, i < len → V i = (f i).v ∧ RowAt W W.heap.size (f i).A 2 (f i).l.length (cellsOf encAt (f i).l) ∧ (f i).l.length ≤ (f i).c ∧ (∀ y ∈ (f i).l, FileOk y) ∧ (f i).l.length + 1 ≤ Rows.uptoBulk (D i) := by
      have : Inhabited (Ls At) := ⟨⟨none, 0, []⟩⟩
      exact choose_lt fun i hi => open_files (hx i (by omega)).2
    have hln : ((List.range len).map f).length = len := by simp
    refine ⟨some a, cap, (List.range len).map f, by rw [hln], ⟨?_, fun y hy => ?_, fun y hy => ?_⟩, fun y hy => ?_, ?_⟩
    · rw [hln]
      refine ⟨by simp, fun hn => ?_⟩
      have hc0 := (hx 0 (by omega)).1
      have hs := spot_none hc0
      have ha : a.add 0 = a := rfl
      rw [ha] at hs hc0
      refine ⟨a.block, a.off, by rw [← hs], block_lt_of_cell hc0, fun j u hu => ?_⟩
      have hj : j < len := by
        have := (List.getElem?_eq_some_iff.1 hu).1
        simpa using this
      have g0 := (hx j (by omega)).1
      rw [hs, add_plain] at g0
      obtain rfl : (f j).v = u := by simpa [hj] using hu
      rw [← (hf j hj).1, ← g0]
    · obtain ⟨i, hi, rfl⟩ := List.mem_map.1 hy
      exact (hf i (by simpa using hi)).2.1
    · obtain ⟨i, hi, rfl⟩ := List.mem_map.1 hy
      exact (hf i (by simpa using hi)).2.2.1
    · obtain ⟨i, hi, rfl⟩ := List.mem_map.1 hy
      exact (hf i (by simpa using hi)).2.2.2.1
    have hd1 : d = _ := (congrArg Prod.fst hd)
    rw [hd1]
    exact Nat.le_trans (ub_dirs f D _ (fun i hi => (hf i (by simpa using hi)).2.2.2.2)) (Nat.le_trans (Nat.le_succ _) (ub_slice _ _))
end Go.Proofs.YthcgkeiggnfgiaaGreatDoor
