/-
  Contract of coldpluglaw17's small: are there few directories and files.
-/
import Derived.Test.YthcgkeiggnfgiaaGreatDoorG13
namespace Go.Proofs.YthcgkeiggnfgiaaGreatDoor
open Go.RowKit
theorem bulk_take_succ {ds : List (Ls At)} {k : Nat} (hk : k < ds.length) : bulk (ds.take (k + 1)) = bulk (ds.take k) + (1 + ds[k].l.length) := by
  rw [List.take_succ_eq_append_getElem hk, bulk_append, bulk_cons]
  simp [bulk]
theorem bulk_take_le (ds : List (Ls At)) (k : Nat) : bulk (ds.take k) ≤ bulk ds := by
  conv => rhs; rw [← List.take_append_drop k ds]
  rw [bulk_append]
  omega
set_option maxRecDepth 100000 in
set_option maxHeartbeats 1000000 in
theorem Small_any (A : Option Addr) (c : Nat) (ds : List (Ls At)) (w : World) (h : DirsAt w A ds) (hb : bulk ds ≤ 4611686018427387904) :
    Calls Tryz.prog 14 #[.slice A ds.length c] w fun e w' => e = .returned (.bool (decide (bulk ds ≤ 200))) ∧ Below w.heap.size w w' := by
  have H := Lib.hid h
  have hM : ds.length ≤ 4611686018427387904 := Nat.le_trans (bulk_len ds) hb
  have HT := Lib.hid (fun k (_ : k ≤ ds.length) => Nat.le_trans (bulk_take_le ds k) hb)
  have HFull : Hid (bulk (ds.take ds.length) = bulk ds) := Lib.hid (by rw [List.take_length])
  clear h hb
  generalize hMM : ds.length = M at *
  have HM := Lib.hid hMM
  clear hMM
  generalize hBB : bulk ds = B at *
  have HB := Lib.hid hBB
  clear hBB
  go_enter Tryz.func14, Tryz.ntmps14
  go_wp2
  go_loopg [3, 4] (M + 1) (fun gk s3 s4 wr => ∃ (k b : Nat), s3 = .int .i64 b ∧ s4 = .int .i64 k ∧ k + gk = M + 1 ∧ k ≤ M ∧ b ≤ 4611686018427387904 ∧ Hid (bulk (ds.take k) = b) ∧ Hid (Below w.heap.size w wr))
  case atStart => exact ⟨0, 0, rfl, rfl, by omega, Nat.zero_le _, by omega, (by exact rfl), Below.refl _ _⟩
  case round =>
    obtain ⟨k, b, rfl, rfl, hkg, hkM, hbl, hW, hB⟩ := hrel
    by_cases hlt : k < M
    · have hltI : (k : Int) < (M : Int) := by omega
      have hk' : k < ds.length := by rw [HM.out]; exact hlt
      obtain ⟨g, off, rfl, hg, hcell, hrow⟩ := H.out.dir hk'
      have hn := bulk_take_succ hk'
      rw [hW.out] at hn
      have hle := HT.out (k + 1) (by omega)
      rw [hn] at hle
      have HN := Lib.hid hn
      have hc0 := hcell wr hB.out
      clear hcell hrow hn
      generalize ds[k] = d at *
      obtain ⟨dA, dc, dl⟩ := d
      dsimp only at *
      generalize hNN : dl.length = N at *
      go_wp2
      go_roundg (gk - 1)
      case measure => omega
      case rel => exact ⟨k + 1, b + (1 + N), by go_num, by go_num, by omega, by omega, by omega, HN.out, hB.out⟩
    · obtain rfl : k = M := by omega
      have hbb : b = B := by rw [← hW.out, HFull.out]
      subst hbb
      by_cases h200 : b ≤ 200
      · have h2I : (b : Int) ≤ 200 := by omega
        go_wp2
        go_ret
        exact ⟨by simp [h200], hB.out⟩
      · have h2I : ¬ (b : Int) ≤ 200 := by omega
        go_wp2
        go_ret
        exact ⟨by simp [], hB.out⟩
end Go.Proofs.YthcgkeiggnfgiaaGreatDoor
