/-
  An argument that is a list of files, opened, with a bound on its length.
-/
import Derived.Test.YthcgkeiggnfgiaaGreatDoorOpenD
import Derived.SizedLaws
namespace Go.Proofs.YthcgkeiggnfgiaaGreatDoor
open Go.ChangeShapes Go.WideShapes Go.ChangeAt Go.RowKit Go.Deep
theorem bytesFile : Tryz.prog.bytesOf 34 = 32 := by kernel_rfl
set_option maxRecDepth 100000 in
theorem open_fileL {H : Type} {enc : TypeId × Value → H} {W : World} {base : Nat} {v : Value} {d : DataW H} {p : List MemPlace} (hval : Value.okWide Tryz.prog W .any base 31 v) (h : DataW.Trod enc Tryz.prog W 0 (fun _ => true) true 31 v d p) :
    ∃ (A : Option Addr) (c : Nat) (l : List At), v = .slice A l.length c ∧ RowAt W W.heap.size A 2 l.length (cellsOf encAt l) ∧ l.length ≤ c ∧ (∀ y ∈ l, FileOk y) ∧ (l = [] ∨ ∃ e s, d = .slice e s ∧ e.length = l.length) := by
  obtain ⟨a0, len0, cap0, rfl⟩ := okWide_slice Tryz.underlying31 hval
  obtain ⟨fuel, hf⟩ := h
  have hf : DataW.trod enc Tryz.prog W 0 (fun _ => true) true fuel 31 [Value.slice a0 len0 cap0] = some (d, p) := hf
  obtain ⟨⟨A, c, l⟩, hv, hr, hc, hz, _⟩ := open_files hf
  refine ⟨A, c, l, hv, hr, hc, hz, ?_⟩
  rcases open_slice_pairs Tryz.underlying31 Tryz.underlying34 cellsFile rfl rfl cellsStr cellsStr hf with ⟨hcs, _⟩ | ⟨a, len, cap, m, n, V0, V1, D0, D1, P0, P1, hcs, _, _, _, _, hx, _⟩
  · left
    have hv2 : Value.slice a0 len0 cap0 = .slice none 0 0 := by simpa using hcs
    rw [hv2] at hv
    injection hv with _ h2 _
    exact List.length_eq_zero_iff.1 h2.symm
  · right
    have hv2 : Value.slice a0 len0 cap0 = .slice (some a) len cap := by simpa using hcs
    rw [hv2] at hv
    injection hv with _ h2 _
    refine ⟨_, _, congrArg Prod.fst hx, ?_⟩
    dsimp only at h2
    rw [← h2]
    simp
theorem file_len {H : Type} {ts : List TypeId} {ds : List (DataW H)} {d : DataW H} {l : List At} {j : Nat} (hsz : (DataW.weightsEach Tryz.prog ts ds).all (· ≤ reachBytes) = true) (ht : ts[j]? = some 31) (hd : ds[j]? = some d) (hx : l = [] ∨ ∃ e s, d = .slice e s ∧ e.length = l.length) : l.length ≤ 140737488355328 := by
  rcases hx with rfl | ⟨e, s, rfl, h⟩
  · simp
  · have := sized_slice hsz ht hd Tryz.underlying31
    rw [bytesFile] at this
    unfold reachBytes at this
    omega
end Go.Proofs.YthcgkeiggnfgiaaGreatDoor
