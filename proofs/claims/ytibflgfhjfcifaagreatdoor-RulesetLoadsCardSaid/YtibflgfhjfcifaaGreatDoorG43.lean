/-
  An argument that is a list of directories, opened.
  An argument that is a list of files, opened, with a bound on its length.
-/
import Derived.Test.YtibflgfhjfcifaaGreatDoorLift10
import Derived.Test.YtibflgfhjfcifaaGreatDoorG20
import Derived.Test.YtibflgfhjfcifaaGreatDoorG23
import Derived.Deep.SlicePairs
import Derived.SizedLaws
namespace Go.Proofs.YtibflgfhjfcifaaGreatDoor
open Go.ChangeShapes Go.WideShapes Go.ChangeAt Go.RowKit Go.Deep
theorem ub_pos {H : Type} (d : DataW H) : 1 ≤ Rows.uptoBulk d := by
 cases d with
 | lit l => cases l <;> simp [Rows.uptoBulk]
 | _ => simp [Rows.uptoBulk]
theorem ub_len {H : Type} : ∀ (l : List (DataW H)), l.length ≤ Rows.uptoBulkAll l
 | [] => Nat.zero_le _
 | x :: r => by
   have := ub_pos x
   have := ub_len r
   rw [Rows.uptoBulkAll, List.length_cons]; omega
theorem ub_slice {H : Type} (a b : List (DataW H)) : Rows.uptoBulkAll a + 1 ≤ Rows.uptoBulk (.slice a b) := by simp only [Rows.uptoBulk]; omega
theorem cellsFile : Tryz.prog.cellsOf 42 = 2 := by kernel_rfl
set_option maxRecDepth 100000 in
theorem open_files {H : Type} {enc : TypeId × Value → H} {W : World} {fuel : Nat} {v : Value} {x : DataW H × List MemPlace} (h : DataW.trod enc Tryz.prog W 0 (fun _ => true) true fuel 40 [v] = some x) :
 ∃ d : Ls At, v = d.v ∧ RowAt W W.heap.size d.A 2 d.l.length (cellsOf encAt d.l) ∧ d.l.length ≤ d.c ∧ (∀ y ∈ d.l, FileOk y) ∧ d.l.length + 1 ≤ Rows.uptoBulk x.1 := by
 rcases open_slice_pairs Tryz.underlying40 Tryz.underlying42 cellsFile rfl rfl cellsStr cellsStr h with ⟨hcs, rfl⟩ | ⟨a, len, cap, m, n, V0, V1, D0, D1, P0, P1, hcs, _, hl, hm, hmm, rfl, hx⟩
 · obtain rfl : v = .slice none 0 0 := by simpa using hcs
   exact ⟨⟨none, 0, []⟩, rfl, ⟨rfl, fun h => absurd h (Nat.lt_irrefl 0)⟩, Nat.le_refl _, (fun _ h => by cases h), ub_pos _⟩
 · obtain rfl : v = .slice (some a) len cap := by simpa using hcs
   simp only [if_true] at hmm
   have hstr : ∀ i, i < len → ∃ y : At, V0 i = .string y.name ∧ V1 i = .string y.val ∧ FileOk y := fun i hi => by
    obtain ⟨_, _, h0, h1⟩ := hx i (by omega)
    obtain ⟨s0, e0, _, z0⟩ := DataW.trod_string Tryz.underlying9 h0
    obtain ⟨s1, e1, _, z1⟩ := DataW.trod_string Tryz.underlying9 h1
    exact ⟨⟨s0, s1⟩, by simpa using e0, by simpa using e1, z0, z1⟩
   obtain ⟨f, hf⟩ : ∃ f : Nat → At, ∀ i, i < len → V0 i = .string (f i).name ∧ V1 i = .string (f i).val ∧ FileOk (f i) := by
    have : Inhabited At := ⟨⟨ByteArray.empty, ByteArray.empty⟩⟩
    exact choose_lt hstr
   have hln : ((List.range len).map f).length = len := by simp
   refine ⟨⟨some a, cap, (List.range len).map f⟩, by unfold Ls.v; dsimp only; rw [hln], ?_, by dsimp only; omega, fun y hy => ?_, ?_⟩
   · dsimp only
     rw [hln]
     refine ⟨by rw [cellsOf_len encAt 2 encAt_len, hln], fun hn => ?_⟩
     have hc0 := (hx 0 (by omega)).1
     have hs := spot_none hc0
     have ha : a.add (0 * 2) = a := rfl
     rw [ha] at hs hc0
     refine ⟨a.block, a.off, by rw [← hs], block_lt_of_cell hc0, fun j u hu => ?_⟩
     have hj : j < len * 2 := by
      have := (List.getElem?_eq_some_iff.1 hu).1
      rwa [cellsOf_len encAt 2 encAt_len, hln] at this
     have hi : j / 2 < len := by omega
     obtain ⟨g0, g1, _, _⟩ := hx (j / 2) (by omega)
     obtain ⟨k0, k1, _⟩ := hf (j / 2) hi
     rw [hs, add_plain] at g0 g1
     have hget := cellsOf_get encAt 2 encAt_len ((List.range len).map f) (j / 2) (j % 2) (f (j / 2)) (by simp [hi]) (by omega)
     rw [show j / 2 * 2 + j % 2 = j by omega] at hget
     rw [hget] at hu
     rcases (by omega : j % 2 = 0 ∨ j % 2 = 1) with h2 | h2
     · rw [h2] at hu
       obtain rfl : Value.string (f (j / 2)).name = u := by simpa [encAt] using hu
       rw [← k0, ← g0, show j / 2 * 2 = j by omega]
     · rw [h2] at hu
       obtain rfl : Value.string (f (j / 2)).val = u := by simpa [encAt] using hu
       rw [← k1, ← g1, show j / 2 * 2 + 1 = j by omega]
   · obtain ⟨i, hi, rfl⟩ := List.mem_map.1 hy
     exact (hf i (by simpa using hi)).2.2
   · refine Nat.le_trans (Nat.succ_le_succ ?_) (ub_slice _ _)
     dsimp only
     rw [hln]
     refine Nat.le_trans (Nat.le_of_eq ?_) (ub_len _)
     simp
end Go.Proofs.YtibflgfhjfcifaaGreatDoor
namespace Go.Proofs.YtibflgfhjfcifaaGreatDoor
open Go.ChangeShapes Go.WideShapes Go.ChangeAt Go.RowKit Go.Deep
set_option maxRecDepth 100000 in
theorem open_fileL {H : Type} {enc : TypeId × Value → H} {W : World} {base : Nat} {v : Value} {d : DataW H} {p : List MemPlace} (hval : Value.okWide Tryz.prog W .any base 40 v) (h : DataW.Trod enc Tryz.prog W 0 (fun _ => true) true 40 v d p) :
 ∃ (A : Option Addr) (c : Nat) (l : List At), v = .slice A l.length c ∧ RowAt W W.heap.size A 2 l.length (cellsOf encAt l) ∧ l.length ≤ c ∧ (∀ y ∈ l, FileOk y) ∧ (l = [] ∨ ∃ e s, d = .slice e s ∧ e.length = l.length) := by
 obtain ⟨a0, len0, cap0, rfl⟩ := okWide_slice Tryz.underlying40 hval
 obtain ⟨fuel, hf⟩ := h
 have hf : DataW.trod enc Tryz.prog W 0 (fun _ => true) true fuel 40 [Value.slice a0 len0 cap0] = some (d, p) := hf
 obtain ⟨⟨A, c, l⟩, hv, hr, hc, hz, _⟩ := open_files hf
 refine ⟨A, c, l, hv, hr, hc, hz, ?_⟩
 rcases open_slice_pairs Tryz.underlying40 Tryz.underlying42 cellsFile rfl rfl cellsStr cellsStr hf with ⟨hcs, _⟩ | ⟨a, len, cap, m, n, V0, V1, D0, D1, P0, P1, hcs, _, _, _, _, hx, _⟩
 · left
   have hv2 : Value.slice a0 len0 cap0 = .slice none 0 0 := by simpa using hcs
   rw [hv2] at hv
   injection hv with _ h2 _
   exact List.length_eq_zero_iff.1 h2.symm
 · right
   have hv2 : Value.slice a0 len0 cap0 = .slice (some a) len cap := by simpa using hcs
   rw [hv2] at hv
   injection hv with _ h2 _
   refine ⟨_, _, congrArg Prod.fst hx, ?_⟩
   dsimp only at h2
   rw [← h2]
   simp
end Go.Proofs.YtibflgfhjfcifaaGreatDoor
