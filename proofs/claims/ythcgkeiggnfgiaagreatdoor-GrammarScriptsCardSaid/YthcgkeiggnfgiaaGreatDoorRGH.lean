/-
  Contract of the reference's Check of terms.
-/
import Derived.Test.YthcgkeiggnfgiaaGreatDoorRGF
namespace Go.Proofs.YthcgkeiggnfgiaaGreatDoor
open Go.RowKit
/-- Numbers and texts of a term as the machine can hold them. -/
structure TmOk (t : Tm) : Prop where
  name : t.name.size ≤ 9223372036854775807
  value : t.value.size ≤ 9223372036854775807
theorem TmSmall.ok {m : Nat} {t : Tm} (h : TmSmall m t) (hm : m ≤ 1000000) : TmOk t := ⟨by have := h.name; omega, by have := h.value; omega⟩
theorem RowAt.tm {w wr : World} {B : Nat} {A : Option Addr} {l : List Tm} (h : RowAt w B A 4 l.length (cellsOf encTm l)) (hb : Below B w wr) {k : Nat} (hk : k < l.length) : ∃ ba off, A = some ⟨ba, off, none⟩ ∧
    wr.cell? ⟨ba, off + k * 4, none⟩ = some (.int .i64 l[k].key) ∧ wr.cell? ⟨ba, off + k * 4 + 1, none⟩ = some (.string l[k].name) ∧ wr.cell? ⟨ba, off + k * 4 + 2, none⟩ = some (.int .i64 l[k].op) ∧ wr.cell? ⟨ba, off + k * 4 + 3, none⟩ = some (.string l[k].value) := by
  obtain ⟨ba, off, hA, hba, hc⟩ := h.cell encTm_len hk
  have hx : l[k]? = some l[k] := List.getElem?_eq_getElem hk
  refine ⟨ba, off, hA, ?_, ?_, ?_, ?_⟩
  · rw [hb.cell (p := ⟨ba, off + k * 4, none⟩) hba]; exact hc k _ hx 0 _ rfl
  · rw [hb.cell (p := ⟨ba, off + k * 4 + 1, none⟩) hba]; exact hc k _ hx 1 _ rfl
  · rw [hb.cell (p := ⟨ba, off + k * 4 + 2, none⟩) hba]; exact hc k _ hx 2 _ rfl
  · rw [hb.cell (p := ⟨ba, off + k * 4 + 3, none⟩) hba]; exact hc k _ hx 3 _ rfl
theorem take_succ_get {α : Type} (l : List α) (k : Nat) (h : k < l.length) : l.take (k + 1) = l.take k ++ [l[k]] := by
  rw [List.take_succ_eq_append_getElem h]
theorem checkE_first {l : List Tm} (h0 : l.length ≠ 0) (h1 : ¬ 16 < l.length) {k : Nat} (hk : k < l.length) (hf : firstE (l.take k) = 0) (he : termE l[k] ≠ 0) : checkE l = termE l[k] := by
  have h : firstE l = termE l[k] := by
    have e1 : firstE (l.take (k + 1)) = termE l[k] := by rw [take_succ_get l k hk, firstE_append _ _ hf]
    have e3 := firstE_pre (l.take (k + 1)) (l.drop (k + 1)) (by rw [e1]; exact he)
    rw [List.take_append_drop] at e3
    rw [e3, e1]
  rw [checkE, if_neg h0, if_neg h1, if_pos (by rw [h]; exact he), h]
theorem checkE_last {l : List Tm} (h0 : l.length ≠ 0) (h1 : ¬ 16 < l.length) (hf : firstE l = 0) : checkE l = if 1 < countK 23 l ∨ 1 < countK 24 l then 105 else 0 := by
  rw [checkE, if_neg h0, if_neg h1, if_neg (by rw [hf]; exact fun h => h rfl)]
set_option maxRecDepth 100000 in
set_option maxHeartbeats 8000000 in
theorem RCheck_any (A : Option Addr) (c : Nat) (l : List Tm) (w : World) (hE : Env0 w) (h : RowAt w w.heap.size A 4 l.length (cellsOf encTm l)) (hl : l.length ≤ 9223372036854775807) (hok : ∀ t ∈ l, TmOk t) :
    Calls Tryz.prog 34 #[.slice A l.length c] w fun e w' => e = .returned (.int .i64 (checkE l)) ∧ Below w.heap.size w w' := by
  have HE := Lib.hid hE
  have HR := Lib.hid h
  have HK := Lib.hid hok
  clear hE h hok
  by_cases h0 : l.length = 0
  · have hc : checkE l = 106 := by rw [checkE, if_pos h0]
    have HC := Lib.hid hc
    rw [h0]
    clear hc h0 HR
    go_enter Tryz.func34, Tryz.ntmps34
    go_wp2
    go_ret
    exact ⟨ret_i (by rw [HC.out]), Below.refl _ _⟩
  by_cases h16 : 16 < l.length
  · have hc : checkE l = 104 := by rw [checkE, if_neg h0, if_pos h16]
    have HC := Lib.hid hc
    have e0 : ((l.length : Int) == 0) = false := by simp; intro e; exact h0 (by rw [e]; rfl)
    have h16I : (16 : Int) < (l.length : Int) := by omega
    generalize l.length = N at *
    clear hc h0 HR
    go_enter Tryz.func34, Tryz.ntmps34
    go_wp2
    go_ret
    exact ⟨ret_i (by rw [HC.out]), Below.refl _ _⟩
  have e0 : ((l.length : Int) == 0) = false := by simp; intro e; exact h0 (by rw [e]; rfl)
  have h16I : (l.length : Int) ≤ 16 := by omega
  have HF := Lib.hid (fun k hk hf he => checkE_first (l := l) (k := k) h0 h16 hk hf he)
  have HL := Lib.hid (checkE_last h0 h16)
  clear h0 h16
  obtain ⟨N, hN⟩ : ∃ N, l.length = N := ⟨_, rfl⟩
  have HN := Lib.hid hN
  rw [hN] at e0 h16I ⊢
  clear hN hl
  go_enter Tryz.func34, Tryz.ntmps34
  go_wp2
  go_loopg [3, 4, 5] N (fun gk s3 s4 s5 wr => ∃ k : Nat, s5 = .int .i64 k ∧ k + gk = N ∧ ∃ a b : Nat, s3 = .int .i64 a ∧ s4 = .int .i64 b ∧ a ≤ k ∧ b ≤ k ∧ Hid (countK 23 (l.take k) = a) ∧ Hid (countK 24 (l.take k) = b) ∧ Hid (firstE (l.take k) = 0) ∧ Hid (Below w.heap.size w wr))
  case atStart => exact ⟨0, rfl, by omega, 0, 0, rfl, rfl, Nat.le_refl _, Nat.le_refl _, rfl, rfl, rfl, Below.refl _ _⟩
  case round =>
    obtain ⟨k, rfl, hkg, a, b, rfl, rfl, ha, hb, hA, hB, hF, hW⟩ := hrel
    by_cases hlt : k < N
    · have hltI : (k : Int) < (N : Int) := by omega
      have hk : k < l.length := by rw [HN.out]; exact hlt
      obtain ⟨ba, off, rfl, c0, c1, c2, c3⟩ := HR.out.tm hW.out hk
      have HT := Lib.hid (take_succ_get l k hk)
      have HFk := Lib.hid (HF.out k hk hF.out)
      have hok := HK.out l[k] (List.getElem_mem _)
      generalize l[k] = t at *
      have HNm := Lib.hid (fun W => RNamed_any t W hok.name)
      have HAl := Lib.hid (fun W => RAllowed_any t W)
      have HRi := Lib.hid (fun W (hW : Env0 W) => RRight_any t W hW hok.name hok.value)
      obtain ⟨ky, nm, op, vl⟩ := t
      unfold tmV at HNm HAl HRi
      dsimp only at c0 c1 c2 c3 HNm HAl HRi
      clear hk hok
      by_cases hky : ky < 1 ∨ 24 < ky
      · have hc : checkE l = 100 := by
          have e : termE ⟨ky, nm, op, vl⟩ = 100 := by rw [termE, if_pos hky]
          rw [HFk.out (by rw [e]; decide), e]
        have HC := Lib.hid hc
        clear hc HNm HAl HRi
        rcases hky with hky | hky
        · go_wp2
          go_ret
          exact ⟨ret_i (by rw [HC.out]), bt hW.out (by go_grown)⟩
        · have hky2 : 1 ≤ ky := by omega
          go_wp2
          go_ret
          exact ⟨ret_i (by rw [HC.out]), bt hW.out (by go_grown)⟩
      have hky1 : 1 ≤ ky := by omega
      have hky2 : ky ≤ 24 := by omega
      cases hnm : namedB ky (L nm)
      · have hc : checkE l = 101 := by
          have e : termE ⟨ky, nm, op, vl⟩ = 101 := by rw [termE, if_neg hky, if_pos hnm]
          rw [HFk.out (by rw [e]; decide), e]
        have HC := Lib.hid hc
        rw [hnm] at HNm
        clear hc HAl HRi hky hnm
        go_wp2_with (first | (go_at_call 66; refine (HNm.out _).mono ?_; rintro e w1 ⟨rfl, hb1⟩; have hbk1 := (hb1.block _ (by simp)).trans (heap_alloc_new wr _); obtain ⟨⟨d0, d1, d2, d3⟩, _⟩ := res4 hbk1; have HW1 := Lib.hid (bt hW.out (bt (below_alloc _ _) hb1)); have Hbk1 := Lib.hid hbk1; clear hb1 hbk1))
        go_ret
        exact ⟨ret_i (by rw [HC.out]), HW1.out⟩
      rw [hnm] at HNm
      cases hal : allowedB ky op
      · have hc : checkE l = 102 := by
          have e : termE ⟨ky, nm, op, vl⟩ = 102 := by rw [termE, if_neg hky, if_neg (by rw [hnm]; decide), if_pos hal]
          rw [HFk.out (by rw [e]; decide), e]
        have HC := Lib.hid hc
        rw [hal] at HAl
        clear hc HRi hky hnm hal
        go_wp2_with (first | (go_at_call 66; refine (HNm.out _).mono ?_; rintro e w1 ⟨rfl, hb1⟩; have hbk1 := (hb1.block _ (by simp)).trans (heap_alloc_new wr _); obtain ⟨⟨d0, d1, d2, d3⟩, _⟩ := res4 hbk1; have HW1 := Lib.hid (bt hW.out (bt (below_alloc _ _) hb1)); have Hbk1 := Lib.hid hbk1; clear hb1 hbk1) | (go_at_call 67; refine (HAl.out _).mono ?_; rintro e w2 ⟨rfl, hb2⟩; have hbk2 := (hb2.block _ (blk_lt' Hbk1.out)).trans Hbk1.out; obtain ⟨⟨d0, d1, d2, d3⟩, _⟩ := res4 hbk2; have HW2 := Lib.hid (bt HW1.out hb2); have Hbk2 := Lib.hid hbk2; clear hb2 hbk2))
        go_ret
        exact ⟨ret_i (by rw [HC.out]), HW2.out⟩
      rw [hal] at HAl
      cases hri : rightB ky op (L nm) (L vl)
      · have hc : checkE l = 103 := by
          have e : termE ⟨ky, nm, op, vl⟩ = 103 := by rw [termE, if_neg hky, if_neg (by rw [hnm]; decide), if_neg (by rw [hal]; decide), if_pos hri]
          rw [HFk.out (by rw [e]; decide), e]
        have HC := Lib.hid hc
        rw [hri] at HRi
        clear hc hky hnm hal hri
        go_wp2_with (first | (go_at_call 66; refine (HNm.out _).mono ?_; rintro e w1 ⟨rfl, hb1⟩; have hbk1 := (hb1.block _ (by simp)).trans (heap_alloc_new wr _); obtain ⟨⟨d0, d1, d2, d3⟩, _⟩ := res4 hbk1; have HW1 := Lib.hid (bt hW.out (bt (below_alloc _ _) hb1)); have Hbk1 := Lib.hid hbk1; clear hb1 hbk1) | (go_at_call 67; refine (HAl.out _).mono ?_; rintro e w2 ⟨rfl, hb2⟩; have hbk2 := (hb2.block _ (blk_lt' Hbk1.out)).trans Hbk1.out; obtain ⟨⟨d0, d1, d2, d3⟩, _⟩ := res4 hbk2; have HW2 := Lib.hid (bt HW1.out hb2); have Hbk2 := Lib.hid hbk2; clear hb2 hbk2) | (go_at_call 68; refine (HRi.out _ (HE.out.go HW2.out)).mono ?_; rintro e w3 ⟨rfl, hb3⟩; have hbk3 := (hb3.block _ (blk_lt' Hbk2.out)).trans Hbk2.out; obtain ⟨⟨d0, d1, d2, d3⟩, _⟩ := res4 hbk3; have HW3 := Lib.hid (bt HW2.out hb3); clear hb3 hbk3))
        go_ret
        exact ⟨ret_i (by rw [HC.out]), HW3.out⟩
      rw [hri] at HRi
      have hte : termE ⟨ky, nm, op, vl⟩ = 0 := by rw [termE, if_neg hky, if_neg (by rw [hnm]; decide), if_neg (by rw [hal]; decide), if_neg (by rw [hri]; decide)]
      have hF2 : firstE (l.take (k + 1)) = 0 := by rw [HT.out, firstE_append _ _ hF.out, hte]
      have hA2 : countK 23 (l.take (k + 1)) = a + (if ky = 23 then 1 else 0) := by rw [HT.out, countK_append, hA.out]
      have hB2 : countK 24 (l.take (k + 1)) = b + (if ky = 24 then 1 else 0) := by rw [HT.out, countK_append, hB.out]
      have HF2 := Lib.hid hF2
      by_cases h23 : ky = 23
      · subst h23
        rw [if_pos rfl] at hA2
        rw [if_neg (by decide), Nat.add_zero] at hB2
        have HA2 := Lib.hid hA2
        have HB2 := Lib.hid hB2
        clear hky hnm hal hri hte hF2 hA2 hB2 HFk
        go_wp2_with (first | (go_at_call 66; refine (HNm.out _).mono ?_; rintro e w1 ⟨rfl, hb1⟩; have hbk1 := (hb1.block _ (by simp)).trans (heap_alloc_new wr _); obtain ⟨⟨d0, d1, d2, d3⟩, _⟩ := res4 hbk1; have HW1 := Lib.hid (bt hW.out (bt (below_alloc _ _) hb1)); have Hbk1 := Lib.hid hbk1; clear hb1 hbk1) | (go_at_call 67; refine (HAl.out _).mono ?_; rintro e w2 ⟨rfl, hb2⟩; have hbk2 := (hb2.block _ (blk_lt' Hbk1.out)).trans Hbk1.out; obtain ⟨⟨d0, d1, d2, d3⟩, _⟩ := res4 hbk2; have HW2 := Lib.hid (bt HW1.out hb2); have Hbk2 := Lib.hid hbk2; clear hb2 hbk2) | (go_at_call 68; refine (HRi.out _ (HE.out.go HW2.out)).mono ?_; rintro e w3 ⟨rfl, hb3⟩; have hbk3 := (hb3.block _ (blk_lt' Hbk2.out)).trans Hbk2.out; obtain ⟨⟨d0, d1, d2, d3⟩, _⟩ := res4 hbk3; have HW3 := Lib.hid (bt HW2.out hb3); clear hb3 hbk3))
        go_roundg (gk - 1)
        case measure => omega
        case rel => exact ⟨k + 1, by go_num, by omega, a + 1, b, by go_num, rfl, by omega, by omega, HA2.out, HB2.out, HF2.out, HW3.out⟩
      by_cases h24 : ky = 24
      · subst h24
        rw [if_pos rfl] at hB2
        rw [if_neg (by decide), Nat.add_zero] at hA2
        have HA2 := Lib.hid hA2
        have HB2 := Lib.hid hB2
        clear hky hnm hal hri hte hF2 hA2 hB2 HFk h23
        go_wp2_with (first | (go_at_call 66; refine (HNm.out _).mono ?_; rintro e w1 ⟨rfl, hb1⟩; have hbk1 := (hb1.block _ (by simp)).trans (heap_alloc_new wr _); obtain ⟨⟨d0, d1, d2, d3⟩, _⟩ := res4 hbk1; have HW1 := Lib.hid (bt hW.out (bt (below_alloc _ _) hb1)); have Hbk1 := Lib.hid hbk1; clear hb1 hbk1) | (go_at_call 67; refine (HAl.out _).mono ?_; rintro e w2 ⟨rfl, hb2⟩; have hbk2 := (hb2.block _ (blk_lt' Hbk1.out)).trans Hbk1.out; obtain ⟨⟨d0, d1, d2, d3⟩, _⟩ := res4 hbk2; have HW2 := Lib.hid (bt HW1.out hb2); have Hbk2 := Lib.hid hbk2; clear hb2 hbk2) | (go_at_call 68; refine (HRi.out _ (HE.out.go HW2.out)).mono ?_; rintro e w3 ⟨rfl, hb3⟩; have hbk3 := (hb3.block _ (blk_lt' Hbk2.out)).trans Hbk2.out; obtain ⟨⟨d0, d1, d2, d3⟩, _⟩ := res4 hbk3; have HW3 := Lib.hid (bt HW2.out hb3); clear hb3 hbk3))
        go_roundg (gk - 1)
        case measure => omega
        case rel => exact ⟨k + 1, by go_num, by omega, a, b + 1, rfl, by go_num, by omega, by omega, HA2.out, HB2.out, HF2.out, HW3.out⟩
      rw [if_neg h23, Nat.add_zero] at hA2
      rw [if_neg h24, Nat.add_zero] at hB2
      have HA2 := Lib.hid hA2
      have HB2 := Lib.hid hB2
      have n23 : (ky == 23) = false := by simp [h23]
      have n24 : (ky == 24) = false := by simp [h24]
      clear hky hnm hal hri hte hF2 hA2 hB2 HFk h23 h24
      go_wp2_with (first | (go_at_call 66; refine (HNm.out _).mono ?_; rintro e w1 ⟨rfl, hb1⟩; have hbk1 := (hb1.block _ (by simp)).trans (heap_alloc_new wr _); obtain ⟨⟨d0, d1, d2, d3⟩, _⟩ := res4 hbk1; have HW1 := Lib.hid (bt hW.out (bt (below_alloc _ _) hb1)); have Hbk1 := Lib.hid hbk1; clear hb1 hbk1) | (go_at_call 67; refine (HAl.out _).mono ?_; rintro e w2 ⟨rfl, hb2⟩; have hbk2 := (hb2.block _ (blk_lt' Hbk1.out)).trans Hbk1.out; obtain ⟨⟨d0, d1, d2, d3⟩, _⟩ := res4 hbk2; have HW2 := Lib.hid (bt HW1.out hb2); have Hbk2 := Lib.hid hbk2; clear hb2 hbk2) | (go_at_call 68; refine (HRi.out _ (HE.out.go HW2.out)).mono ?_; rintro e w3 ⟨rfl, hb3⟩; have hbk3 := (hb3.block _ (blk_lt' Hbk2.out)).trans Hbk2.out; obtain ⟨⟨d0, d1, d2, d3⟩, _⟩ := res4 hbk3; have HW3 := Lib.hid (bt HW2.out hb3); clear hb3 hbk3))
      go_roundg (gk - 1)
      case measure => omega
      case rel => exact ⟨k + 1, by go_num, by omega, a, b, rfl, rfl, by omega, by omega, HA2.out, HB2.out, HF2.out, HW3.out⟩
    · obtain rfl : k = N := by omega
      have htk : l.take k = l := List.take_of_length_le (by rw [HN.out]; exact Nat.le_refl _)
      have HFin := Lib.hid (HL.out (by have := hF.out; rw [htk] at this; exact this))
      have hA' := hA.out
      have hB' := hB.out
      rw [htk] at hA' hB'
      have HA' := Lib.hid hA'
      have HB' := Lib.hid hB'
      clear htk hA' hB'
      by_cases h1 : 1 < a
      · have h1I : (1 : Int) < (a : Int) := by omega
        go_wp2
        go_ret
        exact ⟨ret_i (by rw [HFin.out, HA'.out, if_pos (Or.inl h1)]), hW.out⟩
      · have h1I : (a : Int) ≤ 1 := by omega
        by_cases h2 : 1 < b
        · have h2I : (1 : Int) < (b : Int) := by omega
          go_wp2
          go_ret
          exact ⟨ret_i (by rw [HFin.out, HB'.out, if_pos (Or.inr h2)]), hW.out⟩
        · have h2I : (b : Int) ≤ 1 := by omega
          go_wp2
          go_ret
          exact ⟨ret_i (by rw [HFin.out, HA'.out, HB'.out, if_neg (by omega)]), hW.out⟩
end Go.Proofs.YthcgkeiggnfgiaaGreatDoor
