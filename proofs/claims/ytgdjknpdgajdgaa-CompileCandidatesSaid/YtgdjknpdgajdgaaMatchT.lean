/-
  Contracts of both sides' Match of a pattern.
-/
import Derived.Test.YtgdjknpdgajdgaaG07
import Derived.Test.YtgdjknpdgajdgaaRMatchO
namespace Go.Proofs.Ytgdjknpdgajdgaa
open Go.RowKit
/-- One list of a list of lists. -/
theorem NstV.altAt {α : Type} {enc : α → List Value} {TO TI : TypeId} {k : Nat} {w : World} {base : Nat} {v : Value} {vs : List Value} {ls : List (List α)} (h : NstV TO TI k enc w base v vs ls) {i : Nat} (hi : i < ls.length) :
    ∃ g cv A c, v = .slice (some ⟨g, 0, none⟩) ls.length cv ∧ g < w.heap.size ∧ w.cell? ⟨g, i, none⟩ = some (.slice A ls[i].length c) ∧ RowAt w w.heap.size A k ls[i].length (cellsOf enc ls[i]) := by
  have hi2 : i < vs.length := by rw [h.len]; exact hi
  obtain ⟨g, cap, hv, hb, hg⟩ := h.outer.form (by omega)
  have ho := h.outer
  rw [hv] at ho
  have hc := ho.cellAt i (by omega)
  have hx : vs[i]? = some vs[i] := List.getElem?_eq_getElem hi2
  have hin := h.inner i vs[i] ls[i] hx (List.getElem?_eq_getElem hi)
  obtain ⟨A, c, e⟩ := own_slice hin
  refine ⟨g, cap, A, c, by rw [hv, h.len], hg, by rw [hc, hx, e], ?_⟩
  rw [e] at hin
  exact RowAt.of_own hin
theorem Nst.slice {α : Type} {enc : α → List Value} {TO TI : TypeId} {k : Nat} {w : World} {base : Nat} {v : Value} {ls : List (List α)} (h : Nst TO TI k enc w base v ls) : ∃ A c, v = .slice A ls.length c := by
  obtain ⟨vs, h⟩ := h
  obtain ⟨A, c, e⟩ := own_slice h.outer
  exact ⟨A, c, by rw [e, h.len]⟩
theorem pr_byte {s : ByteArray} (h : printS (L s) = true) : ∀ i, (hi : i < s.size) → 32 ≤ s[i].toNat ∧ s[i].toNat ≤ 126 := fun i hi => by
  have h2 : i < (L s).length := by rw [len_L]; exact hi
  have h1 := List.all_eq_true.1 h (L s)[i] (List.getElem_mem h2)
  have e : (L s)[i] = s[i] := rfl
  rw [e] at h1
  simp [pr] at h1
  omega
theorem any_take {α : Type} {f : α → Bool} {l : List α} {i : Nat} (hi : i < l.length) : (l.take (i + 1)).any f = ((l.take i).any f || f l[i]) := by
  rw [List.take_succ_eq_append_getElem hi, List.any_append]
  simp
theorem globE_none {p : Str} (h : globS p = none) : globE p ≠ 0 := by
  unfold globE
  split
  · decide
  · rw [h]; decide
theorem globE_some {p : Str} {alts : List (List El)} (h : globS p = some alts) : ¬ 256 < p.length ∧ globE p = 0 := by
  have h2 : ¬ 256 < p.length := fun h3 => by
    rw [globS, if_neg (fun h4 => by omega)] at h
    cases h
  exact ⟨h2, by rw [globE, if_neg h2, h]; rfl⟩
theorem globM_none {p s : Str} (h : globS p = none) : globM p s = false := by unfold globM; rw [h]
theorem globM_dark {p s : Str} (h : printS s = false) : globM p s = false := by unfold globM; cases globS p <;> simp [h]
theorem globM_some {p s : Str} {alts : List (List El)} (h : globS p = some alts) (hs : printS s = true) : globM p s = alts.any fun l => altB l s := by unfold globM; rw [h, hs]; simp
set_option maxRecDepth 100000 in
set_option maxHeartbeats 4000000 in
theorem RGMatch_any (p s : ByteArray) (w : World) (hp : p.size ≤ 4611686018427387904) (hs : s.size ≤ 4611686018427387904) :
    Calls Try.prog 70 #[.string p, .string s] w fun e w' => e = .returned (.bool (globM (L p) (L s))) ∧ Below w.heap.size w w' := by
  have hC := RGCheck_any p w (by omega)
  have HPr := Lib.hid (fun (W : World) => R2Printable_any s W (by omega))
  cases hg : globS (L p) with
  | none =>
    have hE := globE_none hg
    have HM := Lib.hid (globM_none (s := L s) hg)
    have HC := Lib.hid hC
    generalize globE (L p) = n at *
    have h1 : (n == 0) = false := by simp [hE]
    have h2 : (n != 0) = true := by simp [hE]
    clear hC hg hE
    go_enter Try.func70, Try.ntmps70
    go_wp2_with (go_at_call 84; refine HC.out.mono ?_; rintro e w1 ⟨rfl, hb1⟩; have HB1 := Lib.hid hb1; clear hb1)
    go_ret
    exact ⟨by rw [HM.out]; rfl, HB1.out⟩
  | some alts =>
    obtain ⟨h256, hE⟩ := globE_some hg
    rw [hE] at hC
    have HC := Lib.hid hC
    have hZ := globS_sizes hg
    have hGs := globS_le h256
    rw [len_L] at h256
    have HPa := Lib.hid (fun (W : World) => GParse_any p W (by omega))
    unfold GParsePost at HPa
    rw [← hGs, hg] at HPa
    cases hpr : printS (L s) with
    | false =>
      have HM := Lib.hid (globM_dark (p := L p) hpr)
      rw [hpr] at HPr
      clear hC hg hGs hpr hZ
      go_enter Try.func70, Try.ntmps70
      go_wp2_with (first
        | (go_at_call 84; refine HC.out.mono ?_; rintro e w1 ⟨rfl, hb1⟩; have HB1 := Lib.hid hb1; clear hb1)
        | (go_at_call 85; refine (HPr.out _).mono ?_; rintro e w2 ⟨rfl, rfl⟩))
      go_ret
      exact ⟨by rw [HM.out]; rfl, HB1.out⟩
    | true =>
      have HM := Lib.hid (globM_some hg hpr)
      have HBy := Lib.hid (pr_byte hpr)
      have HSm : Hid (∀ l, matchS El.isStar hasRB l (L s) = altB l (L s)) := Lib.hid fun l => alt_same hpr
      have HZ := Lib.hid hZ
      rw [hpr] at HPr
      clear hC hg hGs hpr hZ
      go_enter Try.func70, Try.ntmps70
      go_wp2_with (first
        | (go_at_call 84; refine HC.out.mono ?_; rintro e w1 ⟨rfl, hb1⟩; have HB1 := Lib.hid hb1; clear hb1)
        | (go_at_call 85; refine (HPr.out _).mono ?_; rintro e w2 ⟨rfl, rfl⟩))
      refine (HPa.out _).mono ?_
      rintro e w2 ⟨v, rfl, hN, hb2⟩
      obtain ⟨A, c, rfl⟩ := hN.slice
      obtain ⟨vs, hV⟩ := hN
      have HAt := Lib.hid (fun i (hi : i < alts.length) => hV.altAt hi)
      have HB2 := Lib.hid (bt HB1.out hb2)
      clear hV hb2
      go_wp2_with fail
      go_loopg [7] (alts.length + 1) (fun gk s7 wr => ∃ k : Nat, s7 = .int .i64 k ∧ k + gk = alts.length + 1 ∧ k ≤ alts.length ∧ Hid ((alts.take k).any (fun l => altB l (L s)) = false) ∧ Hid (Below w2.heap.size w2 wr))
      case atStart => exact ⟨0, rfl, by omega, Nat.zero_le _, rfl, Below.refl _ _⟩
      case round =>
        obtain ⟨k, rfl, hkg, hkN, hAn, hB⟩ := hrel
        have hM := HZ.out.2
        by_cases hlt : k < alts.length
        · have hltI : (k : Int) < (alts.length : Int) := by omega
          obtain ⟨g, cv, A', c', hv, hgl, hcell, hrow⟩ := HAt.out k hlt
          obtain ⟨rfl, rfl⟩ : A = some ⟨g, 0, none⟩ ∧ c = cv := by injection hv with h1 _ h2; exact ⟨h1, h2⟩
          have hl := HZ.out.1 alts[k] (List.getElem_mem _)
          have hc1 : wr.cell? ⟨g, k, none⟩ = some (.slice A' alts[k].length c') := (hB.out.cell (p := ⟨g, k, none⟩) hgl).trans hcell
          have HTk := Lib.hid (any_take (f := fun l => altB l (L s)) hlt)
          have hOn := Rone_any A' c' alts[k] s wr (by omega) (by omega) ((hrow.keep hB.out).up hB.out.size) (fun i hi => by have := HBy.out i hi; omega)
          rw [HSm.out] at hOn
          have HOn := Lib.hid hOn
          generalize alts[k] = l at *
          generalize l.length = ll at *
          clear hv hcell hrow hOn
          cases hab : altB l (L s) with
          | true =>
            rw [hab] at HOn
            have HFin : Hid (alts.any (fun l => altB l (L s)) = true) := Lib.hid (by
              have h1 := HTk.out
              rw [hab, Bool.or_true] at h1
              obtain ⟨x, hx, hx2⟩ := List.any_eq_true.1 h1
              exact List.any_eq_true.2 ⟨x, List.mem_of_mem_take hx, hx2⟩)
            clear hab
            go_wp2_with (go_at_call 87; refine HOn.out.mono ?_; rintro e w3 ⟨rfl, hb3⟩; have HB3 := Lib.hid (bt HB2.out (bt hB.out hb3)); clear hb3)
            go_ret
            exact ⟨by rw [HM.out, HFin.out]; rfl, HB3.out⟩
          | false =>
            rw [hab] at HOn
            have HAn2 : Hid ((alts.take (k + 1)).any (fun l => altB l (L s)) = false) := Lib.hid (by rw [HTk.out, hAn.out, hab]; rfl)
            clear hab
            go_wp2_with (go_at_call 87; refine HOn.out.mono ?_; rintro e w3 ⟨rfl, hb3⟩; have HB3 := Lib.hid (bt hB.out hb3); clear hb3)
            go_roundg (gk - 1)
            case measure => omega
            case rel => exact ⟨k + 1, by go_num, by omega, by omega, HAn2.out, HB3.out⟩
        · obtain rfl : k = alts.length := by omega
          have HFin : Hid (alts.any (fun l => altB l (L s)) = false) := Lib.hid (by have := hAn.out; rwa [List.take_length] at this)
          go_wp2
          go_ret
          exact ⟨by rw [HM.out, HFin.out]; rfl, bt HB2.out hB.out⟩
theorem print_at {s : ByteArray} {k : Nat} (hk : k < s.size) (h : pr s[k] = false) : printS (L s) = false := by
  rw [Bool.eq_false_iff]
  intro h1
  have h2 : k < (L s).length := by rw [len_L]; exact hk
  have h3 := List.all_eq_true.1 h1 (L s)[k] (List.getElem_mem h2)
  have e : (L s)[k] = s[k] := rfl
  rw [e, h] at h3
  cases h3
theorem print_all {s : ByteArray} (h : ∀ k, (hk : k < s.size) → pr s[k] = true) : printS (L s) = true := by
  refine List.all_eq_true.2 fun c hc => ?_
  obtain ⟨i, hi, rfl⟩ := List.getElem_of_mem hc
  have h2 : i < s.size := by rw [len_L] at hi; exact hi
  have e : (L s)[i] = s[i] := rfl
  rw [e]
  exact h i h2
set_option maxRecDepth 100000 in
set_option maxHeartbeats 4000000 in
theorem PGMatch_any (p s : ByteArray) (w : World) (hp : p.size ≤ 4611686018427387904) (hs : s.size ≤ 4611686018427387904) :
    Calls Try.prog 53 #[.string p, .string s] w fun e w' => e = .returned (.bool (globM (L p) (L s))) ∧ Below w.heap.size w w' := by
  have HPa := Lib.hid (PGParse_any p w (by omega))
  unfold PGParsePost at HPa
  cases hg : globS (L p) with
  | none =>
    have hE := globE_none hg
    have HM := Lib.hid (globM_none (s := L s) hg)
    rw [hg] at HPa
    dsimp only at HPa
    generalize globE (L p) = n at *
    have h1 : (n == 0) = false := by simp [hE]
    have h2 : (n != 0) = true := by simp [hE]
    clear hg hE
    go_enter Try.func53, Try.ntmps53
    go_wp2_with (go_at_call 49; refine HPa.out.mono ?_; rintro e w1 ⟨hb1, n', rfl, rfl⟩; have HB1 := Lib.hid hb1; clear hb1)
    go_ret
    exact ⟨by rw [HM.out]; rfl, HB1.out⟩
  | some alts =>
    have hZ := globS_sizes hg
    have HZ := Lib.hid hZ
    have HGs := Lib.hid hg
    rw [hg] at HPa
    dsimp only at HPa
    clear hg hZ
    go_enter Try.func53, Try.ntmps53
    go_wp2_with (go_at_call 49; refine HPa.out.mono ?_; rintro e w2 ⟨hb2, v, rfl, hN⟩; obtain ⟨A, c, rfl⟩ := hN.slice; have HN := Lib.hid hN; have HB2 := Lib.hid hb2; clear hb2 hN)
    go_loopg [19] (s.size + 1) (fun gk s19 wr => ∃ k : Nat, s19 = .int .i64 k ∧ k + gk = s.size + 1 ∧ k ≤ s.size ∧ Hid (∀ j, (hj : j < s.size) → j < k → pr s[j] = true) ∧ w2 = wr)
    case atStart => exact ⟨0, rfl, by omega, Nat.zero_le _, (fun j _ h => absurd h (Nat.not_lt_zero _)), rfl⟩
    case round =>
      obtain ⟨k, rfl, hkg, hkN, hPr, rfl⟩ := hrel
      by_cases hlt : k < s.size
      · have hltI : (k : Int) < (s.size : Int) := by omega
        have hpr2 : pr s[k] = (decide (32 ≤ (s[k].toNat : Int)) && decide ((s[k].toNat : Int) ≤ 126)) := rfl
        by_cases hlo : s[k].toNat < 32
        · have hloI : (s[k].toNat : Int) < 32 := by omega
          have HM := Lib.hid (globM_dark (p := L p) (print_at hlt (by rw [hpr2]; simp; omega)))
          clear hpr2
          go_wp2
          go_ret
          exact ⟨by rw [HM.out]; rfl, HB2.out⟩
        have hloI : ¬ (s[k].toNat : Int) < 32 := by omega
        by_cases hhi : 126 < s[k].toNat
        · have hhiI : (126 : Int) < (s[k].toNat : Int) := by omega
          have HM := Lib.hid (globM_dark (p := L p) (print_at hlt (by rw [hpr2]; simp; omega)))
          clear hpr2
          go_wp2
          go_ret
          exact ⟨by rw [HM.out]; rfl, HB2.out⟩
        have hhiI : ¬ (126 : Int) < (s[k].toNat : Int) := by omega
        have HPr2 : Hid (∀ j, (hj : j < s.size) → j < k + 1 → pr s[j] = true) := Lib.hid fun j hj h => by
          rcases (by omega : j < k ∨ j = k) with h | rfl
          · exact hPr.out j hj h
          · rw [hpr2]; simp; omega
        clear hpr2
        go_wp2
        go_roundg (gk - 1)
        case measure => omega
        case rel => exact ⟨k + 1, by go_num, by omega, by omega, HPr2.out, rfl⟩
      · obtain rfl : k = s.size := by omega
        have hpr := print_all (s := s) (fun j hj => hPr.out j hj hj)
        have HM := Lib.hid (globM_some HGs.out hpr)
        have HBy := Lib.hid (pr_byte hpr)
        obtain ⟨vs, hV⟩ := HN.out
        have HAt := Lib.hid (fun i (hi : i < alts.length) => hV.altAt hi)
        clear hV hpr hlt hkg
        go_wp2_with fail
        go_loopg [35] (alts.length + 1) (fun gk s35 wr => ∃ k : Nat, s35 = .int .i64 k ∧ k + gk = alts.length + 1 ∧ k ≤ alts.length ∧ Hid ((alts.take k).any (fun l => altB l (L s)) = false) ∧ Hid (Below w2.heap.size w2 wr))
        case atStart => exact ⟨0, rfl, by omega, Nat.zero_le _, rfl, Below.refl _ _⟩
        case round =>
          obtain ⟨k, rfl, hkg, hkN, hAn, hB⟩ := hrel
          have hM := HZ.out.2
          by_cases hlt : k < alts.length
          · have hltI : (k : Int) < (alts.length : Int) := by omega
            obtain ⟨g, cv, A', c', hv, hgl, hcell, hrow⟩ := HAt.out k hlt
            obtain ⟨rfl, rfl⟩ : A = some ⟨g, 0, none⟩ ∧ c = cv := by injection hv with h1 _ h2; exact ⟨h1, h2⟩
            have hl := HZ.out.1 alts[k] (List.getElem_mem _)
            have hc1 : wr.cell? ⟨g, k, none⟩ = some (.slice A' alts[k].length c') := (hB.out.cell (p := ⟨g, k, none⟩) hgl).trans hcell
            have HTk := Lib.hid (any_take (f := fun l => altB l (L s)) hlt)
            have HOn := Lib.hid (Gmatches_any A' c' alts[k] s wr (by omega) (by omega) ((hrow.keep hB.out).up hB.out.size) (fun i hi => by have := HBy.out i hi; omega))
            generalize alts[k] = l at *
            generalize l.length = ll at *
            clear hv hcell hrow
            cases hab : altB l (L s) with
            | true =>
              rw [hab] at HOn
              have HFin : Hid (alts.any (fun l => altB l (L s)) = true) := Lib.hid (by
                have h1 := HTk.out
                rw [hab, Bool.or_true] at h1
                obtain ⟨x, hx, hx2⟩ := List.any_eq_true.1 h1
                exact List.any_eq_true.2 ⟨x, List.mem_of_mem_take hx, hx2⟩)
              clear hab
              go_wp2_with (go_at_call 68; refine HOn.out.mono ?_; rintro e w3 ⟨rfl, hb3⟩; have HB3 := Lib.hid (bt HB2.out (bt hB.out hb3)); clear hb3)
              go_ret
              exact ⟨by rw [HM.out, HFin.out]; rfl, HB3.out⟩
            | false =>
              rw [hab] at HOn
              have HAn2 : Hid ((alts.take (k + 1)).any (fun l => altB l (L s)) = false) := Lib.hid (by rw [HTk.out, hAn.out, hab]; rfl)
              clear hab
              go_wp2_with (go_at_call 68; refine HOn.out.mono ?_; rintro e w3 ⟨rfl, hb3⟩; have HB3 := Lib.hid (bt hB.out hb3); clear hb3)
              go_roundg (gk - 1)
              case measure => omega
              case rel => exact ⟨k + 1, by go_num, by omega, by omega, HAn2.out, HB3.out⟩
          · obtain rfl : k = alts.length := by omega
            have HFin : Hid (alts.any (fun l => altB l (L s)) = false) := Lib.hid (by have := hAn.out; rwa [List.take_length] at this)
            go_wp2
            go_ret
            exact ⟨by rw [HM.out, HFin.out]; rfl, bt HB2.out hB.out⟩
end Go.Proofs.Ytgdjknpdgajdgaa
