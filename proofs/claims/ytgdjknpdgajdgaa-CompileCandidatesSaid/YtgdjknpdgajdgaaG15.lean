/-
  The chapter's example, as data; no program in sight.
  SameTexts at two lists that are alike.
-/
import Derived.Test.YtgdjknpdgajdgaaG13
import Derived.Test.YtgdjknpdgajdgaaCand
import Derived.Test.YtgdjknpdgajdgaaG08
namespace Go.Proofs.Ytgdjknpdgajdgaa
open Go.RowKit Go.Maps Go.Sort
abbrev kTag : Tm := ⟨7, ⟨#[]⟩, 4, ⟨#[116]⟩⟩
abbrev kLs : List (List Tm) := [[⟨3, ⟨#[]⟩, 1, ⟨#[98, 108, 111, 99, 107]⟩⟩, ⟨2, ⟨#[]⟩, 1, ⟨#[115, 100, 42]⟩⟩, kTag], [⟨12, ⟨#[]⟩, 1, ⟨#[120]⟩⟩, ⟨3, ⟨#[]⟩, 1, ⟨#[110, 101, 116]⟩⟩, kTag], [⟨3, ⟨#[]⟩, 1, ⟨#[110, 101, 116, 124, 117, 115, 98]⟩⟩, kTag], [⟨7, ⟨#[]⟩, 1, ⟨#[97]⟩⟩, kTag]]
abbrev kD1 : Dv := ⟨0, 0, ⟨#[]⟩, ⟨#[115, 100, 97]⟩, ⟨#[98, 108, 111, 99, 107]⟩, ⟨#[]⟩, ⟨#[]⟩, 0, 0, ⟨none, 0, []⟩⟩
abbrev kD2 : Dv := ⟨0, 0, ⟨#[]⟩, ⟨#[101, 116, 104, 48]⟩, ⟨#[110, 101, 116]⟩, ⟨#[]⟩, ⟨#[]⟩, 0, 0, ⟨none, 0, []⟩⟩
theorem k_ks : ksS kLs = [some [98, 108, 111, 99, 107], none, none, none] := by kernel_rfl
theorem k_keys : strKeys (grpD (ksS kLs)) = [[98, 108, 111, 99, 107]] := by rw [k_ks]; rfl
theorem k_g0 : globM [98, 108, 111, 99, 107] [98, 108, 111, 99, 107] = true := by
  have e : globS [98, 108, 111, 99, 107] = some [[.lit 98, .lit 108, .lit 111, .lit 99, .lit 107]] := by kernel_rfl
  have e2 : printS [98, 108, 111, 99, 107] = true := by kernel_rfl
  unfold globM; rw [e]; simp [e2, altB, matchS, El.isStar, hasB, El.has]
theorem k_g1 : globM [115, 100, 42] [115, 100, 97] = true := by
  have e : globS [115, 100, 42] = some [[.lit 115, .lit 100, .star]] := by kernel_rfl
  have e2 : printS [115, 100, 97] = true := by kernel_rfl
  unfold globM; rw [e]; simp [e2, altB, matchS, El.isStar, hasB, El.has]
theorem k_g2 : globM [98, 108, 111, 99, 107] [110, 101, 116] = false := by
  have e : globS [98, 108, 111, 99, 107] = some [[.lit 98, .lit 108, .lit 111, .lit 99, .lit 107]] := by kernel_rfl
  have e2 : printS [110, 101, 116] = true := by kernel_rfl
  unfold globM; rw [e]; simp [e2, altB, matchS, El.isStar, hasB, El.has]
theorem k_g3 : globM [110, 101, 116, 124, 117, 115, 98] [98, 108, 111, 99, 107] = false := by
  have e : globS [110, 101, 116, 124, 117, 115, 98] = some [[.lit 110, .lit 101, .lit 116], [.lit 117, .lit 115, .lit 98]] := by kernel_rfl
  have e2 : printS [98, 108, 111, 99, 107] = true := by kernel_rfl
  unfold globM; rw [e]; simp [e2, altB, matchS, El.isStar, hasB, El.has]
theorem k_g4 : globM [110, 101, 116, 124, 117, 115, 98] [110, 101, 116] = true := by
  have e : globS [110, 101, 116, 124, 117, 115, 98] = some [[.lit 110, .lit 101, .lit 116], [.lit 117, .lit 115, .lit 98]] := by kernel_rfl
  have e2 : printS [110, 101, 116] = true := by kernel_rfl
  unfold globM; rw [e]; simp [e2, altB, matchS, El.isStar, hasB, El.has]
theorem idxS_of {α : Type} (P : α → Bool) (l : List α) : idxS P l = idxS id (l.map P) := by
  unfold idxS
  rw [List.length_map]
  congr 1
  refine List.filter_congr fun i _ => ?_
  rw [List.getElem?_map]
  cases l[i]? <;> rfl
theorem k_m1 : kLs.map (fun l => candS l kD1) = [true, true, false, true] := by
  have h0 : kLs.map (fun l => candS l kD1) = [(globM [98, 108, 111, 99, 107] [98, 108, 111, 99, 107] == true) && ((globM [115, 100, 42] [115, 100, 97] == true) && true), true, (globM [110, 101, 116, 124, 117, 115, 98] [98, 108, 111, 99, 107] == true) && true, true] := by kernel_rfl
  rw [h0, k_g0, k_g1, k_g3]; rfl
theorem k_m2 : kLs.map (fun l => candS l kD2) = [false, true, true, true] := by
  have h0 : kLs.map (fun l => candS l kD2) = [(globM [98, 108, 111, 99, 107] [110, 101, 116] == true) && ((globM [115, 100, 42] [101, 116, 104, 48] == true) && true), true, (globM [110, 101, 116, 124, 117, 115, 98] [110, 101, 116] == true) && true, true] := by kernel_rfl
  rw [h0, k_g2, k_g4]; rfl
theorem k_c1 : candI kLs kD1 = [0, 1, 3] := by unfold candI; rw [idxS_of, k_m1]; rfl
theorem k_c2 : candI kLs kD2 = [1, 2, 3] := by unfold candI; rw [idxS_of, k_m2]; rfl
end Go.Proofs.Ytgdjknpdgajdgaa
namespace Go.Proofs.Ytgdjknpdgajdgaa
open Go.RowKit
set_option maxRecDepth 100000 in
set_option maxHeartbeats 1000000 in
theorem SameTexts_yes (A A' : Option Addr) (c c' : Nat) (l : List Str) (w : World) (hn : l.length ≤ 1000000) (h : RowAt w w.heap.size A 1 l.length (l.map strV)) (h' : RowAt w w.heap.size A' 1 l.length (l.map strV)) :
    Calls Try.prog 11 #[.slice A l.length c, .slice A' l.length c'] w fun e w' => e = .returned (.bool true) ∧ Below w.heap.size w w' := by
  have H := Lib.hid h
  have H' := Lib.hid h'
  clear h h'
  generalize hN : l.length = N at *
  have HN := Lib.hid hN
  clear hN
  go_enter Try.func11, Try.ntmps11
  go_wp2
  go_loopw [5] (fun i wr => ∃ k : Nat, k ≤ N ∧ i = .int .i64 k ∧ Hid (Below w.heap.size w wr)) (fun i _ => N - (intOf i).toNat)
  case atStart => exact ⟨0, Nat.zero_le _, rfl, Below.refl _ _⟩
  case round =>
    obtain ⟨k, hk, rfl, hdr⟩ := hrel
    by_cases hlt : k < N
    · have hk' : k < l.length := by rw [HN.out]; exact hlt
      obtain ⟨ba, off, hA, hba, hcc⟩ := H.out.text hk'
      obtain ⟨ba', off', hA', hba', hcc'⟩ := H'.out.text hk'
      have c0 := hcc _ hdr.out
      have d0 := hcc' _ hdr.out
      subst hA hA'
      generalize bs l[k] = x at *
      have hltI : (k : Int) < (N : Int) := by omega
      have hNI : (N : Int) ≤ 1000000 := by omega
      clear hcc hcc' hba hba' hk'
      go_wp2
      go_quiet (fail)
      go_wp2
      exact ⟨⟨k + 1, by omega, by go_num, below_drewN hdr.out _⟩, by simp [intOf]; omega⟩
    · obtain rfl : k = N := by omega
      go_wp2
      go_ret
      exact ⟨rfl, hdr.out⟩
end Go.Proofs.Ytgdjknpdgajdgaa
