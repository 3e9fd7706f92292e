/-
  SameTexts at two lists that are alike.
-/
import Derived.Test.YthcgkeiggnfgiaaGreatDoorG14
namespace Go.Proofs.YthcgkeiggnfgiaaGreatDoor
open Go.RowKit
set_option maxRecDepth 100000 in
set_option maxHeartbeats 1000000 in
theorem SameTexts_yes (A A' : Option Addr) (c c' : Nat) (l : List Str) (w : World) (hn : l.length ≤ 1000000) (h : RowAt w w.heap.size A 1 l.length (l.map strV)) (h' : RowAt w w.heap.size A' 1 l.length (l.map strV)) :
    Calls Tryz.prog 24 #[.slice A l.length c, .slice A' l.length c'] w fun e w' => e = .returned (.bool true) ∧ Below w.heap.size w w' := by
  have H := Lib.hid h
  have H' := Lib.hid h'
  clear h h'
  generalize hN : l.length = N at *
  have HN := Lib.hid hN
  clear hN
  go_enter Tryz.func24, Tryz.ntmps24
  go_wp2
  go_loopw [5] (fun i wr => ∃ k : Nat, k ≤ N ∧ i = .int .i64 k ∧ Hid (Below w.heap.size w wr)) (fun i _ => N - (intOf i).toNat)
  case atStart => exact ⟨0, Nat.zero_le _, rfl, Below.refl _ _⟩
  case round =>
    obtain ⟨k, hk, rfl, hdr⟩ := hrel
    by_cases hlt : k < N
    · have hk' : k < l.length := by rw [HN.out]; exact hlt
      obtain ⟨ba, off, hA, hba, hcc⟩ := H.out.text hk'
      obtain ⟨ba', off', hA', hba', hcc'⟩ := H'.out.text hk'
      have c0 := hcc _ hdr.out
      have d0 := hcc' _ hdr.out
      subst hA hA'
      generalize bs l[k] = x at *
      have hltI : (k : Int) < (N : Int) := by omega
      have hNI : (N : Int) ≤ 1000000 := by omega
      clear hcc hcc' hba hba' hk'
      go_wp2
      go_quiet (fail)
      go_wp2
      exact ⟨⟨k + 1, by omega, by go_num, below_drewN hdr.out _⟩, by simp [intOf]; omega⟩
    · obtain rfl : k = N := by omega
      go_wp2
      go_ret
      exact ⟨rfl, hdr.out⟩
end Go.Proofs.YthcgkeiggnfgiaaGreatDoor
