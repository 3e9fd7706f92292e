/-
  Contracts of the program's Literal, and of compile's key.
-/
import Derived.Test.YtgdjknpdgajdgaaG11
namespace Go.Proofs.Ytgdjknpdgajdgaa
open Go.RowKit
def litV (o : Option Str) : Value := .tuple #[.string (bs (o.getD [])), .bool o.isSome]
theorem litS_none {p : Str} (h : globS p = none) : litS p = none := by unfold litS; rw [h]
theorem litS_many {p : Str} {alts : List (List El)} (h : globS p = some alts) (hn : alts.length ≠ 1) : litS p = none := by
  unfold litS
  rw [h]
  cases alts with
  | nil => rfl
  | cons a r =>
    cases r with
    | nil => simp at hn
    | cons b r => rfl
theorem litS_one {p : Str} {l : List El} (h : globS p = some [l]) : litS p = if (begS l).length = l.length then some (begS l) else none := by
  unfold litS; rw [h]
set_option maxRecDepth 100000 in
set_option maxHeartbeats 4000000 in
theorem PLiteral_any (p : ByteArray) (w : World) (hp : p.size ≤ 4611686018427387904) :
    Calls Try.prog 39 #[.string p] w fun e w' => e = .returned (litV (litS (L p))) ∧ Below w.heap.size w w' := by
  have HPa := Lib.hid (PGParse_any p w (by omega))
  unfold PGParsePost at HPa
  unfold litV
  cases hg : globS (L p) with
  | none =>
    have hE := globE_none hg
    have HM := Lib.hid (litS_none hg)
    rw [hg] at HPa
    dsimp only at HPa
    generalize globE (L p) = n at *
    have h1 : (n == 0) = false := by simp [hE]
    have h2 : (n != 0) = true := by simp [hE]
    clear hg hE
    rw [HM.out]
    go_enter Try.func39, Try.ntmps39
    go_wp2_with (go_at_call 49; refine HPa.out.mono ?_; rintro e w1 ⟨hb1, n', rfl, rfl⟩; have HB1 := Lib.hid hb1; clear hb1)
    go_ret2
    exact ⟨rfl, HB1.out⟩
  | some alts =>
    have hZ := globS_sizes hg
    by_cases h1 : alts.length = 1
    · obtain ⟨l, rfl⟩ : ∃ l, alts = [l] := by
        cases alts with
        | nil => simp at h1
        | cons a r =>
          cases r with
          | nil => exact ⟨a, rfl⟩
          | cons b r => simp at h1
      have HLi := Lib.hid (litS_one hg)
      have HLo := Lib.hid (globS_lits hg l (List.mem_singleton.2 rfl))
      have hll := hZ.1 l (List.mem_singleton.2 rfl)
      rw [hg] at HPa
      dsimp only at HPa
      have hsz := size_bs (begS l)
      have HBg := Lib.hid (fun A c W (h : RowAt W W.heap.size A 129 l.length (cellsOf encEP l)) => PBegin_any A c l W (by omega) HLo.out h)
      clear hg hZ h1
      generalize begS l = b at *
      by_cases hlen : b.length = l.length
      · have HR : Hid (litS (L p) = some b) := Lib.hid (by rw [HLi.out, if_pos hlen])
        rw [HR.out]
        have hIe : ((b.length : Int) == (l.length : Int)) = true := by rw [beq_iff_eq]; omega
        go_enter Try.func39, Try.ntmps39
        go_wp2_with (first
          | (go_at_call 49; refine HPa.out.mono ?_; rintro e w2 ⟨hb2, v, rfl, hN⟩; obtain ⟨vs, hV⟩ := hN; obtain ⟨g, cv, A', c', rfl, hgl, hcell, hrow⟩ := hV.altAt (i := 0) (by simp); have HBl := Lib.hid (HBg.out A' c' w2 hrow); have HC := Lib.hid hcell; have HGl := Lib.hid hgl; have HB2 := Lib.hid hb2; clear hb2 hV hrow)
          | (go_at_call 50; refine HBl.out.mono ?_; rintro e w3 ⟨rfl, hb3⟩; have hc3 := (hb3.cell (p := ⟨g, 0, none⟩) HGl.out).trans HC.out; have HB3 := Lib.hid (bt HB2.out hb3); clear hb3))
        go_ret2
        exact ⟨rfl, HB3.out⟩
      · have HR : Hid (litS (L p) = none) := Lib.hid (by rw [HLi.out, if_neg hlen])
        rw [HR.out]
        have hIe : ((b.length : Int) == (l.length : Int)) = false := by rw [beq_eq_false_iff_ne]; omega
        go_enter Try.func39, Try.ntmps39
        go_wp2_with (first
          | (go_at_call 49; refine HPa.out.mono ?_; rintro e w2 ⟨hb2, v, rfl, hN⟩; obtain ⟨vs, hV⟩ := hN; obtain ⟨g, cv, A', c', rfl, hgl, hcell, hrow⟩ := hV.altAt (i := 0) (by simp); have HBl := Lib.hid (HBg.out A' c' w2 hrow); have HC := Lib.hid hcell; have HGl := Lib.hid hgl; have HB2 := Lib.hid hb2; clear hb2 hV hrow)
          | (go_at_call 50; refine HBl.out.mono ?_; rintro e w3 ⟨rfl, hb3⟩; have hc3 := (hb3.cell (p := ⟨g, 0, none⟩) HGl.out).trans HC.out; have HB3 := Lib.hid (bt HB2.out hb3); clear hb3))
        go_ret2
        exact ⟨rfl, HB3.out⟩
    · have HM := Lib.hid (litS_many hg h1)
      rw [hg] at HPa
      dsimp only at HPa
      have hI : ((alts.length : Int) == 1) = false := by rw [beq_eq_false_iff_ne]; omega
      have hI2 : ((alts.length : Int) != 1) = true := by simp; omega
      rw [HM.out]
      clear hg hZ
      go_enter Try.func39, Try.ntmps39
      go_wp2_with (go_at_call 49; refine HPa.out.mono ?_; rintro e w2 ⟨hb2, v, rfl, hN⟩; obtain ⟨A, c, rfl⟩ := hN.slice; have HB2 := Lib.hid hb2; clear hb2 hN)
      go_ret2
      exact ⟨rfl, HB2.out⟩
theorem rkey_go {l : List Tm} {k : Nat} (h : rkeyS (l.drop k) = rkeyS l) (hk : k < l.length) : (∀ s, keyT l[k] = some s → rkeyS l = some s) ∧ (keyT l[k] = none → rkeyS (l.drop (k + 1)) = rkeyS l) := by
  rw [List.drop_eq_getElem_cons hk, rkeyS] at h
  refine ⟨fun s hs => ?_, fun hs => ?_⟩
  · rw [hs] at h; exact h.symm
  · rw [hs] at h; exact h
theorem rkey_end {l : List Tm} (h : rkeyS (l.drop l.length) = rkeyS l) : rkeyS l = none := by
  rw [List.drop_length] at h; exact h.symm
theorem keyT_no {t : Tm} (h : litS (L t.value) = none ∨ ¬ (t.key = 3 ∧ t.op = 1)) : keyT t = none := by
  unfold keyT
  split
  · rename_i h1
    rcases h with h | h
    · exact h
    · exact absurd h1 h
  · rfl
set_option maxRecDepth 100000 in
set_option maxHeartbeats 4000000 in
theorem PKey_any (A : Option Addr) (c : Nat) (l : List Tm) (w : World) (hl : l.length ≤ 1000) (hz : ∀ t ∈ l, t.value.size ≤ 4611686018427387904) (h : RowAt w w.heap.size A 4 l.length (cellsOf encTm l)) :
    Calls Try.prog 19 #[.slice A l.length c] w fun e w' => e = .returned (litV (rkeyS l)) ∧ Below w.heap.size w w' := by
  have H := Lib.hid h
  have HZ := Lib.hid hz
  clear h hz
  obtain ⟨N, hN⟩ : ∃ N, l.length = N := ⟨_, rfl⟩
  have HN := Lib.hid hN
  rw [hN] at hl ⊢
  clear hN
  have HSta : Hid (rkeyS (l.drop 0) = rkeyS l) := Lib.hid rfl
  go_enter Try.func19, Try.ntmps19
  go_wp2_with fail
  go_loopg [10] (N + 1) (fun gk s10 wr => ∃ k : Nat, s10 = .int .i64 k ∧ k + gk = N + 1 ∧ k ≤ N ∧ Hid (rkeyS (l.drop k) = rkeyS l) ∧ Hid (Below w.heap.size w wr))
  case atStart => exact ⟨0, rfl, by omega, Nat.zero_le _, HSta.out, Below.refl _ _⟩
  case round =>
    obtain ⟨k, rfl, hkg, hkN, hF, hB⟩ := hrel
    obtain ⟨wo, rfl⟩ : ∃ wo : World, wo = wr := ⟨_, rfl⟩
    by_cases hlt : k < N
    · have hltI : (k : Int) < (N : Int) := by omega
      have hk2 : k < l.length := by rw [HN.out]; exact hlt
      have hr := H.out
      obtain ⟨ba, off, rfl, c0, c1, c2, c3⟩ := hr.tm hB.out hk2
      obtain ⟨f1, f2⟩ := rkey_go hF.out hk2
      have HF1 := Lib.hid f1
      have HF2 := Lib.hid f2
      have hv := HZ.out l[k] (List.getElem_mem _)
      generalize l[k] = t at *
      obtain ⟨ky, nmm, op, vl⟩ := t
      dsimp only at c0 c1 c2 c3 hv
      have HLi := Lib.hid (fun W => PLiteral_any vl W hv)
      unfold litV at HLi
      clear hr f1 f2 hk2
      cases hq : litS (L vl) with
      | none =>
        have HE := Lib.hid (HF2.out (keyT_no (Or.inl hq)))
        rw [hq] at HLi
        clear hq
        go_wp2_with (go_at_call 39; refine (HLi.out _).mono ?_; rintro e w2 ⟨rfl, hb2⟩; have HB2 := Lib.hid (bt (below_alloc wo _) hb2); obtain ⟨x0, x1, x2, x3⟩ := box4 hb2; clear hb2)
        go_roundg (gk - 1)
        case measure => omega
        case rel => exact ⟨k + 1, by go_num, by omega, by omega, HE.out, bt hB.out HB2.out⟩
      | some s =>
        rw [hq] at HLi
        by_cases h3 : ky = 3
        · subst h3
          by_cases h1 : op = 1
          · subst h1
            have HE := Lib.hid (HF1.out s (by unfold keyT; rw [if_pos ⟨rfl, rfl⟩]; exact hq))
            clear hq
            go_wp2_with (go_at_call 39; refine (HLi.out _).mono ?_; rintro e w2 ⟨rfl, hb2⟩; have HB2 := Lib.hid (bt (below_alloc wo _) hb2); obtain ⟨x0, x1, x2, x3⟩ := box4 hb2; clear hb2)
            go_ret2
            exact ⟨by rw [HE.out]; rfl, bt hB.out HB2.out⟩
          · have e1 : (op == 1) = false := by simpa using h1
            have HE := Lib.hid (HF2.out (keyT_no (Or.inr (fun h => h1 h.2))))
            clear hq h1
            go_wp2_with (go_at_call 39; refine (HLi.out _).mono ?_; rintro e w2 ⟨rfl, hb2⟩; have HB2 := Lib.hid (bt (below_alloc wo _) hb2); obtain ⟨x0, x1, x2, x3⟩ := box4 hb2; clear hb2)
            go_roundg (gk - 1)
            case measure => omega
            case rel => exact ⟨k + 1, by go_num, by omega, by omega, HE.out, bt hB.out HB2.out⟩
        · have e3 : (ky == 3) = false := by simpa using h3
          have HE := Lib.hid (HF2.out (keyT_no (Or.inr (fun h => h3 h.1))))
          clear hq h3
          go_wp2_with (go_at_call 39; refine (HLi.out _).mono ?_; rintro e w2 ⟨rfl, hb2⟩; have HB2 := Lib.hid (bt (below_alloc wo _) hb2); obtain ⟨x0, x1, x2, x3⟩ := box4 hb2; clear hb2)
          go_roundg (gk - 1)
          case measure => omega
          case rel => exact ⟨k + 1, by go_num, by omega, by omega, HE.out, bt hB.out HB2.out⟩
    · obtain rfl : k = N := by omega
      have HE := Lib.hid (rkey_end (l := l) (by have := hF.out; rw [← HN.out] at this; exact this))
      go_wp2
      go_ret2
      exact ⟨by rw [HE.out]; rfl, hB.out⟩
end Go.Proofs.Ytgdjknpdgajdgaa
