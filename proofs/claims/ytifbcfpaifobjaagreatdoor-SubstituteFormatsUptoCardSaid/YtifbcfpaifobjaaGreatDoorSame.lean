/-
  Contract of the reference's Same, at two lists that are alike.
-/
import Derived.Test.YtifbcfpaifobjaaGreatDoorRefR
namespace Go.Proofs.YtifbcfpaifobjaaGreatDoor
open Go.RowKit
set_option maxRecDepth 100000 in
set_option maxHeartbeats 1000000 in
theorem Same_yes (A A' : Option Addr) (c c' : Nat) (l : List Pc) (w : World) (hn : l.length ≤ 100000) (h : RowAt w w.heap.size A 4 l.length (cellsOf encPc l)) (h' : RowAt w w.heap.size A' 4 l.length (cellsOf encPc l)) :
    Calls Tryz.prog 18 #[.slice A l.length c, .slice A' l.length c'] w fun e w' => e = .returned (.bool true) ∧ Below w.heap.size w w' := by
  have H := Lib.hid h
  have H' := Lib.hid h'
  clear h h'
  generalize hN : l.length = N at *
  have HN := Lib.hid hN
  clear hN
  go_enter Tryz.func18, Tryz.ntmps18
  go_wp2
  go_loopw [5] (fun i wr => ∃ k : Nat, k ≤ N ∧ i = .int .i64 k ∧ Hid (Below w.heap.size w wr)) (fun i _ => N - (intOf i).toNat)
  case atStart => exact ⟨0, Nat.zero_le _, rfl, Below.refl _ _⟩
  case round =>
    obtain ⟨k, hk, rfl, hdr⟩ := hrel
    by_cases hlt : k < N
    · have hlt' : k < l.length := by rw [HN.out]; exact hlt
      have hr := H.out
      have hr' := H'.out
      rw [← HN.out] at hr hr'
      obtain ⟨ba, off, hA, hba, hcc⟩ := hr.cell encPc_len hlt'
      obtain ⟨ba', off', hA', hba', hcc'⟩ := hr'.cell encPc_len hlt'
      obtain ⟨x, hx⟩ : ∃ x, l[k]? = some x := ⟨_, List.getElem?_eq_getElem hlt'⟩
      have hb := hdr.out
      obtain ⟨kd, tx, wd, mo⟩ := x
      have c0 : wr.cell? ⟨ba, off + k * 4, none⟩ = some (.int .i64 kd) := by rw [hb.cell (p := ⟨ba, off + k * 4, none⟩) hba]; exact hcc k _ hx 0 _ rfl
      have c1 : wr.cell? ⟨ba, off + k * 4 + 1, none⟩ = some (.string tx) := by rw [hb.cell (p := ⟨ba, off + k * 4 + 1, none⟩) hba]; exact hcc k _ hx 1 _ rfl
      have c2 : wr.cell? ⟨ba, off + k * 4 + 2, none⟩ = some (.int .i64 wd) := by rw [hb.cell (p := ⟨ba, off + k * 4 + 2, none⟩) hba]; exact hcc k _ hx 2 _ rfl
      have c3 : wr.cell? ⟨ba, off + k * 4 + 3, none⟩ = some (.bool mo) := by rw [hb.cell (p := ⟨ba, off + k * 4 + 3, none⟩) hba]; exact hcc k _ hx 3 _ rfl
      have d0 : wr.cell? ⟨ba', off' + k * 4, none⟩ = some (.int .i64 kd) := by rw [hb.cell (p := ⟨ba', off' + k * 4, none⟩) hba']; exact hcc' k _ hx 0 _ rfl
      have d1 : wr.cell? ⟨ba', off' + k * 4 + 1, none⟩ = some (.string tx) := by rw [hb.cell (p := ⟨ba', off' + k * 4 + 1, none⟩) hba']; exact hcc' k _ hx 1 _ rfl
      have d2 : wr.cell? ⟨ba', off' + k * 4 + 2, none⟩ = some (.int .i64 wd) := by rw [hb.cell (p := ⟨ba', off' + k * 4 + 2, none⟩) hba']; exact hcc' k _ hx 2 _ rfl
      have d3 : wr.cell? ⟨ba', off' + k * 4 + 3, none⟩ = some (.bool mo) := by rw [hb.cell (p := ⟨ba', off' + k * 4 + 3, none⟩) hba']; exact hcc' k _ hx 3 _ rfl
      subst hA hA'
      have hltI : (k : Int) < (N : Int) := by omega
      have hNI : (N : Int) ≤ 100000 := by omega
      clear hr hr' hcc hcc' hx hlt' hb hba hba'
      go_wp2
      go_quiet (fail)
      go_wp2
      exact ⟨⟨k + 1, by omega, by go_num, below_drewN hdr.out _⟩, by simp [intOf]; omega⟩
    · obtain rfl : k = N := by omega
      go_wp2
      go_ret
      exact ⟨rfl, hdr.out⟩
end Go.Proofs.YtifbcfpaifobjaaGreatDoor
