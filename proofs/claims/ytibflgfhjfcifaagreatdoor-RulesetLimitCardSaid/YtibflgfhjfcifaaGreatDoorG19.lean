/-
  Contract of the reference's right: is the value of a term right.
  Contract of the reference's Check of terms.
  Contracts of the reference's Keys and Ops.
  Contract of the reference's Format of terms.
-/
import Derived.Test.YtibflgfhjfcifaaGreatDoorG18
import Derived.Deep.RegionHeld3
import Derived.Deep.AppendLies
import Derived.Test.YtibflgfhjfcifaaGreatDoorG06
namespace Go.Proofs.YtibflgfhjfcifaaGreatDoor
open Go.RowKit
theorem right14b (v : Str) (p : Bool) (h : (v == pathL || v == contentL || v == netL) = p) (op : Int) : rightB 14 op builtinL v = p := by rw [← h]; rfl
set_option maxRecDepth 100000 in
set_option maxHeartbeats 8000000 in
theorem RRight_any (t : Tm) (w : World) (hE : Env0 w) (hn : t.name.size ≤ 9223372036854775807) (hv : t.value.size ≤ 9223372036854775807) :
 Calls Tryz.prog 153 #[tmV t] w fun e w' => e = .returned (.bool (rightB t.key t.op (L t.name) (L t.value))) ∧ Below w.heap.size w w' := by
 have HM := fun W => RMatch_any t W
 obtain ⟨k, nm, op, v⟩ := t
 unfold tmV at HM ⊢
 dsimp only at hn hv HM ⊢
 have hbox : ∀ W', Below (w.heap.size + 1) (w.alloc (.cells #[.int .i64 k, .string nm, .int .i64 op, .string v] 66)) W' → Below w.heap.size w W' := fun W' h => ((Below.refl _ _).alloc (Nat.le_refl _) _).trans (h.mono (by omega))
 have HBx := Lib.hid hbox
 have HE := Lib.hid (hE.go (below_alloc w (.cells #[.int .i64 k, .string nm, .int .i64 op, .string v] 66)))
 clear hbox hE
 by_cases h22 : k = 22
 · subst h22
   have HR : Hid (rightB 22 op (L nm) (L v) = priS (L v)) := Lib.hid rfl
   have HP := Lib.hid (RPriority_any v _ HE.out hv)
   clear HM
   go_enter Tryz.func153, Tryz.ntmps153
   go_wp2_with (go_at_call 180; refine HP.out.mono ?_; rintro e w1 ⟨n, rfl, hb⟩)
   go_ret
   exact ⟨ret_bool (by rw [HR.out]), HBx.out _ (by simpa using hb)⟩
 by_cases h23 : k = 23 ∨ k = 24
 · have HR : Hid (rightB k op (L nm) (L v) = validS (L v)) := Lib.hid (by rw [rightB, if_neg h22, if_pos h23])
   have HV := Lib.hid (fun W => RValid_any v W hv)
   clear HM h22
   rcases h23 with rfl | rfl
   all_goals
    go_enter Tryz.func153, Tryz.ntmps153
    go_wp2_with (go_at_call 64; refine (HV.out _).mono ?_; rintro e w1 ⟨rfl, rfl⟩)
    go_ret
    exact ⟨ret_bool (by rw [HR.out]), by go_grown⟩
 have n22 : (k == 22) = false := by simp [h22]
 have n23 : (k == 23) = false := by simp only [not_or] at h23; simp [h23]
 have n24 : (k == 24) = false := by simp only [not_or] at h23; simp [h23]
 have HT := Lib.hid (RTCheck_any v _ HE.out hv)
 have HG := Lib.hid (RGCheck_any v (w.alloc (.cells #[.int .i64 k, .string nm, .int .i64 op, .string v] 66)) hv)
 by_cases h14 : k = 14
 · subst h14
   clear h22 h23 n22 n23 n24 HM
   by_cases hb1 : nm.toList = builtinL
   · rw [show L nm = builtinL from by rw [← tl]; exact hb1]
     clear HT HG
     by_cases e1 : v.toList = pathL
     · have HR : Hid (rightB 14 op builtinL (L v) = true) := Lib.hid (right14b _ _ (by rw [← tl, e1]; rfl) op)
       unfold pathL at e1
       unfold builtinL at hb1
       go_enter Tryz.func153, Tryz.ntmps153
       go_wp2
       go_ret
       exact ⟨ret_bool (by rw [HR.out]), by go_grown⟩
     · by_cases e2 : v.toList = contentL
       · have HR : Hid (rightB 14 op builtinL (L v) = true) := Lib.hid (right14b _ _ (by rw [← tl, e2]; rfl) op)
         unfold contentL at e2
         unfold pathL at e1
         unfold builtinL at hb1
         go_enter Tryz.func153, Tryz.ntmps153
         go_wp2
         go_ret
         exact ⟨ret_bool (by rw [HR.out]), by go_grown⟩
       · have HR : Hid (rightB 14 op builtinL (L v) = (v.toList == netL)) := Lib.hid (right14b _ _ (by rw [← tl]; simp [e1, e2]) op)
         unfold contentL at e2
         unfold pathL at e1
         unfold builtinL at hb1
         go_enter Tryz.func153, Tryz.ntmps153
         go_wp2
         go_ret
         exact ⟨ret_bool (by rw [HR.out]; simp [netL, e1, e2]), by go_grown⟩
   · by_cases hp1 : nm.toList = programL
     · have HR : Hid (rightB 14 op (L nm) (L v) = ((parseR (L v)).2 == 0)) := Lib.hid (by rw [← tl nm, hp1]; rfl)
       generalize (parseR (L v)).2 = cc at *
       have f1 : (nm.toList == [98, 117, 105, 108, 116, 105, 110]) = false := by rw [hp1]; decide
       have f2 : (nm.toList == [112, 114, 111, 103, 114, 97, 109]) = true := by rw [hp1]; decide
       have f3 : ¬ nm.toList = [98, 117, 105, 108, 116, 105, 110] := by rw [hp1]; decide
       have HP1 := Lib.hid hp1
       clear hp1 hb1
       go_enter Tryz.func153, Tryz.ntmps153
       go_wp2_with (go_at_call 181; refine HT.out.mono ?_; rintro e w1 ⟨rfl, hb⟩)
       go_ret
       exact ⟨ret_bool (by rw [HR.out]), HBx.out _ (by simpa using hb)⟩
     · have HR : Hid (rightB 14 op (L nm) (L v) = (globE (L v) == 0)) := Lib.hid (by
        have h1 : L nm ≠ builtinL := by rw [← tl]; exact hb1
        have h2 : L nm ≠ programL := by rw [← tl]; exact hp1
        rw [rightB, if_neg (by decide), if_neg (by decide), if_pos rfl, if_neg h1, if_neg h2]; rfl)
       generalize globE (L v) = cc at *
       have f1 : (nm.toList == [98, 117, 105, 108, 116, 105, 110]) = false := by simpa [builtinL] using hb1
       have f2 : (nm.toList == [112, 114, 111, 103, 114, 97, 109]) = false := by simpa [programL] using hp1
       clear hb1 hp1
       go_enter Tryz.func153, Tryz.ntmps153
       go_wp2_with (go_at_call 182; refine HG.out.mono ?_; rintro e w1 ⟨rfl, hb⟩)
       go_ret
       exact ⟨ret_bool (by rw [HR.out]), HBx.out _ (by simpa using hb)⟩
 have n14 : (k == 14) = false := by simp [h14]
 clear HT HG
 have HT := Lib.hid (fun W (hW : Env0 W) => RTCheck_any v W hW hv)
 have HG := Lib.hid (fun W => RGCheck_any v W hv)
 have HM := Lib.hid HM
 have hrest : rightB k op (L nm) (L v) = if matchB op = true ∧ k ≠ 12 then patB (L v) else tmplB (L v) := by
  rw [rightB, if_neg h22, if_neg h23, if_neg h14]
 by_cases hmk : matchB op = true ∧ k ≠ 12
 · have HR : Hid (rightB k op (L nm) (L v) = (globE (L v) == 0)) := Lib.hid (by rw [hrest, if_pos hmk]; rfl)
   have n12 : (k == 12) = false := by simp [hmk.2]
   have m12 : (k != 12) = true := by simp [hmk.2]
   have hmo := hmk.1
   generalize globE (L v) = cc at *
   generalize matchB op = mo at *
   subst hmo
   clear hrest h22 h23 h14 hmk
   go_enter Tryz.func153, Tryz.ntmps153
   go_wp2_with (first | (go_at_call 179; refine (HM.out _).mono ?_; rintro e w1 ⟨rfl, hb⟩; obtain ⟨c0, c1, c2, c3⟩ := box4 hb) | (go_at_call 182; refine (HG.out _).mono ?_; rintro e w2 ⟨rfl, hb2⟩))
   go_ret
   exact ⟨ret_bool (by rw [HR.out]), HBx.out _ (by simpa using bt hb hb2)⟩
 · have HR : Hid (rightB k op (L nm) (L v) = ((parseR (L v)).2 == 0)) := Lib.hid (by rw [hrest, if_neg hmk]; rfl)
   generalize (parseR (L v)).2 = cc at *
   by_cases hmo : matchB op = true
   · have hk : k = 12 := by
      by_cases h : k = 12
      · exact h
      · exact absurd ⟨hmo, h⟩ hmk
     subst hk
     generalize matchB op = mo at *
     subst hmo
     clear hrest h22 h23 h14 hmk n22 n23 n24 n14
     go_enter Tryz.func153, Tryz.ntmps153
     go_wp2_with (first | (go_at_call 179; refine (HM.out _).mono ?_; rintro e w1 ⟨rfl, hb⟩; obtain ⟨c0, c1, c2, c3⟩ := box4 hb) | (go_at_call 181; refine (HT.out _ (HE.out.go hb)).mono ?_; rintro e w2 ⟨rfl, hb2⟩))
     go_ret
     exact ⟨ret_bool (by rw [HR.out]), HBx.out _ (by simpa using bt hb hb2)⟩
   · have hmo : matchB op = false := by simpa using hmo
     generalize matchB op = mo at *
     subst hmo
     clear hrest h22 h23 h14 hmk
     go_enter Tryz.func153, Tryz.ntmps153
     go_wp2_with (first | (go_at_call 179; refine (HM.out _).mono ?_; rintro e w1 ⟨rfl, hb⟩; obtain ⟨c0, c1, c2, c3⟩ := box4 hb) | (go_at_call 181; refine (HT.out _ (HE.out.go hb)).mono ?_; rintro e w2 ⟨rfl, hb2⟩))
     go_ret
     exact ⟨ret_bool (by rw [HR.out]), HBx.out _ (by simpa using bt hb hb2)⟩
end Go.Proofs.YtibflgfhjfcifaaGreatDoor
namespace Go.Proofs.YtibflgfhjfcifaaGreatDoor
open Go.RowKit
structure TmOk (t : Tm) : Prop where
 name : t.name.size ≤ 9223372036854775807
 value : t.value.size ≤ 9223372036854775807
theorem TmSmall.ok {m : Nat} {t : Tm} (h : TmSmall m t) (hm : m ≤ 1000000) : TmOk t := ⟨by have := h.name; omega, by have := h.value; omega⟩
theorem RowAt.tm {w wr : World} {B : Nat} {A : Option Addr} {l : List Tm} (h : RowAt w B A 4 l.length (cellsOf encTm l)) (hb : Below B w wr) {k : Nat} (hk : k < l.length) : ∃ ba off, A = some ⟨ba, off, none⟩ ∧
 wr.cell? ⟨ba, off + k * 4, none⟩ = some (.int .i64 l[k].key) ∧ wr.cell? ⟨ba, off + k * 4 + 1, none⟩ = some (.string l[k].name) ∧ wr.cell? ⟨ba, off + k * 4 + 2, none⟩ = some (.int .i64 l[k].op) ∧ wr.cell? ⟨ba, off + k * 4 + 3, none⟩ = some (.string l[k].value) := by
 obtain ⟨ba, off, hA, hba, hc⟩ := h.cell encTm_len hk
 have hx : l[k]? = some l[k] := List.getElem?_eq_getElem hk
 refine ⟨ba, off, hA, ?_, ?_, ?_, ?_⟩
 · rw [hb.cell (p := ⟨ba, off + k * 4, none⟩) hba]; exact hc k _ hx 0 _ rfl
 · rw [hb.cell (p := ⟨ba, off + k * 4 + 1, none⟩) hba]; exact hc k _ hx 1 _ rfl
 · rw [hb.cell (p := ⟨ba, off + k * 4 + 2, none⟩) hba]; exact hc k _ hx 2 _ rfl
 · rw [hb.cell (p := ⟨ba, off + k * 4 + 3, none⟩) hba]; exact hc k _ hx 3 _ rfl
theorem take_succ_get {α : Type} (l : List α) (k : Nat) (h : k < l.length) : l.take (k + 1) = l.take k ++ [l[k]] := by
 rw [List.take_succ_eq_append_getElem h]
theorem checkE_first {l : List Tm} (h0 : l.length ≠ 0) (h1 : ¬ 16 < l.length) {k : Nat} (hk : k < l.length) (hf : firstE (l.take k) = 0) (he : termE l[k] ≠ 0) : checkE l = termE l[k] := by
 have h : firstE l = termE l[k] := by
  have e1 : firstE (l.take (k + 1)) = termE l[k] := by rw [take_succ_get l k hk, firstE_append _ _ hf]
  have e3 := firstE_pre (l.take (k + 1)) (l.drop (k + 1)) (by rw [e1]; exact he)
  rw [List.take_append_drop] at e3
  rw [e3, e1]
 rw [checkE, if_neg h0, if_neg h1, if_pos (by rw [h]; exact he), h]
theorem checkE_last {l : List Tm} (h0 : l.length ≠ 0) (h1 : ¬ 16 < l.length) (hf : firstE l = 0) : checkE l = if 1 < countK 23 l ∨ 1 < countK 24 l then 105 else 0 := by
 rw [checkE, if_neg h0, if_neg h1, if_neg (by rw [hf]; exact fun h => h rfl)]
set_option maxRecDepth 100000 in
set_option maxHeartbeats 8000000 in
theorem RCheck_any (A : Option Addr) (c : Nat) (l : List Tm) (w : World) (hE : Env0 w) (h : RowAt w w.heap.size A 4 l.length (cellsOf encTm l)) (hl : l.length ≤ 9223372036854775807) (hok : ∀ t ∈ l, TmOk t) :
 Calls Tryz.prog 101 #[.slice A l.length c] w fun e w' => e = .returned (.int .i64 (checkE l)) ∧ Below w.heap.size w w' := by
 have HE := Lib.hid hE
 have HR := Lib.hid h
 have HK := Lib.hid hok
 clear hE h hok
 by_cases h0 : l.length = 0
 · have hc : checkE l = 106 := by rw [checkE, if_pos h0]
   have HC := Lib.hid hc
   rw [h0]
   clear hc h0 HR
   go_enter Tryz.func101, Tryz.ntmps101
   go_wp2
   go_ret
   exact ⟨ret_i (by rw [HC.out]), Below.refl _ _⟩
 by_cases h16 : 16 < l.length
 · have hc : checkE l = 104 := by rw [checkE, if_neg h0, if_pos h16]
   have HC := Lib.hid hc
   have e0 : ((l.length : Int) == 0) = false := by simp; intro e; exact h0 (by rw [e]; rfl)
   have h16I : (16 : Int) < (l.length : Int) := by omega
   generalize l.length = N at *
   clear hc h0 HR
   go_enter Tryz.func101, Tryz.ntmps101
   go_wp2
   go_ret
   exact ⟨ret_i (by rw [HC.out]), Below.refl _ _⟩
 have e0 : ((l.length : Int) == 0) = false := by simp; intro e; exact h0 (by rw [e]; rfl)
 have h16I : (l.length : Int) ≤ 16 := by omega
 have HF := Lib.hid (fun k hk hf he => checkE_first (l := l) (k := k) h0 h16 hk hf he)
 have HL := Lib.hid (checkE_last h0 h16)
 clear h0 h16
 obtain ⟨N, hN⟩ : ∃ N, l.length = N := ⟨_, rfl⟩
 have HN := Lib.hid hN
 rw [hN] at e0 h16I ⊢
 clear hN hl
 go_enter Tryz.func101, Tryz.ntmps101
 go_wp2
 go_loopg [3, 4, 5] N (fun gk s3 s4 s5 wr => ∃ k : Nat, s5 = .int .i64 k ∧ k + gk = N ∧ ∃ a b : Nat, s3 = .int .i64 a ∧ s4 = .int .i64 b ∧ a ≤ k ∧ b ≤ k ∧ Hid (countK 23 (l.take k) = a) ∧ Hid (countK 24 (l.take k) = b) ∧ Hid (firstE (l.take k) = 0) ∧ Hid (Below w.heap.size w wr))
 case atStart => exact ⟨0, rfl, by omega, 0, 0, rfl, rfl, Nat.le_refl _, Nat.le_refl _, rfl, rfl, rfl, Below.refl _ _⟩
 case round =>
  obtain ⟨k, rfl, hkg, a, b, rfl, rfl, ha, hb, hA, hB, hF, hW⟩ := hrel
  by_cases hlt : k < N
  · have hltI : (k : Int) < (N : Int) := by omega
    have hk : k < l.length := by rw [HN.out]; exact hlt
    obtain ⟨ba, off, rfl, c0, c1, c2, c3⟩ := HR.out.tm hW.out hk
    have HT := Lib.hid (take_succ_get l k hk)
    have HFk := Lib.hid (HF.out k hk hF.out)
    have hok := HK.out l[k] (List.getElem_mem _)
    generalize l[k] = t at *
    have HNm := Lib.hid (fun W => RNamed_any t W hok.name)
    have HAl := Lib.hid (fun W => RAllowed_any t W)
    have HRi := Lib.hid (fun W (hW : Env0 W) => RRight_any t W hW hok.name hok.value)
    obtain ⟨ky, nm, op, vl⟩ := t
    unfold tmV at HNm HAl HRi
    dsimp only at c0 c1 c2 c3 HNm HAl HRi
    clear hk hok
    by_cases hky : ky < 1 ∨ 24 < ky
    · have hc : checkE l = 100 := by
       have e : termE ⟨ky, nm, op, vl⟩ = 100 := by rw [termE, if_pos hky]
       rw [HFk.out (by rw [e]; decide), e]
      have HC := Lib.hid hc
      clear hc HNm HAl HRi
      rcases hky with hky | hky
      · go_wp2
        go_ret
        exact ⟨ret_i (by rw [HC.out]), bt hW.out (by go_grown)⟩
      · have hky2 : 1 ≤ ky := by omega
        go_wp2
        go_ret
        exact ⟨ret_i (by rw [HC.out]), bt hW.out (by go_grown)⟩
    have hky1 : 1 ≤ ky := by omega
    have hky2 : ky ≤ 24 := by omega
    cases hnm : namedB ky (L nm)
    · have hc : checkE l = 101 := by
       have e : termE ⟨ky, nm, op, vl⟩ = 101 := by rw [termE, if_neg hky, if_pos hnm]
       rw [HFk.out (by rw [e]; decide), e]
      have HC := Lib.hid hc
      rw [hnm] at HNm
      clear hc HAl HRi hky hnm
      go_wp2_with (first | (go_at_call 151; refine (HNm.out _).mono ?_; rintro e w1 ⟨rfl, hb1⟩; have hbk1 := (hb1.block _ (by simp)).trans (heap_alloc_new wr _); obtain ⟨⟨d0, d1, d2, d3⟩, _⟩ := res4 hbk1; have HW1 := Lib.hid (bt hW.out (bt (below_alloc _ _) hb1)); have Hbk1 := Lib.hid hbk1; clear hb1 hbk1))
      go_ret
      exact ⟨ret_i (by rw [HC.out]), HW1.out⟩
    rw [hnm] at HNm
    cases hal : allowedB ky op
    · have hc : checkE l = 102 := by
       have e : termE ⟨ky, nm, op, vl⟩ = 102 := by rw [termE, if_neg hky, if_neg (by rw [hnm]; decide), if_pos hal]
       rw [HFk.out (by rw [e]; decide), e]
      have HC := Lib.hid hc
      rw [hal] at HAl
      clear hc HRi hky hnm hal
      go_wp2_with (first | (go_at_call 151; refine (HNm.out _).mono ?_; rintro e w1 ⟨rfl, hb1⟩; have hbk1 := (hb1.block _ (by simp)).trans (heap_alloc_new wr _); obtain ⟨⟨d0, d1, d2, d3⟩, _⟩ := res4 hbk1; have HW1 := Lib.hid (bt hW.out (bt (below_alloc _ _) hb1)); have Hbk1 := Lib.hid hbk1; clear hb1 hbk1) | (go_at_call 152; refine (HAl.out _).mono ?_; rintro e w2 ⟨rfl, hb2⟩; have hbk2 := (hb2.block _ (blk_lt' Hbk1.out)).trans Hbk1.out; obtain ⟨⟨d0, d1, d2, d3⟩, _⟩ := res4 hbk2; have HW2 := Lib.hid (bt HW1.out hb2); have Hbk2 := Lib.hid hbk2; clear hb2 hbk2))
      go_ret
      exact ⟨ret_i (by rw [HC.out]), HW2.out⟩
    rw [hal] at HAl
    cases hri : rightB ky op (L nm) (L vl)
    · have hc : checkE l = 103 := by
       have e : termE ⟨ky, nm, op, vl⟩ = 103 := by rw [termE, if_neg hky, if_neg (by rw [hnm]; decide), if_neg (by rw [hal]; decide), if_pos hri]
       rw [HFk.out (by rw [e]; decide), e]
      have HC := Lib.hid hc
      rw [hri] at HRi
      clear hc hky hnm hal hri
      go_wp2_with (first | (go_at_call 151; refine (HNm.out _).mono ?_; rintro e w1 ⟨rfl, hb1⟩; have hbk1 := (hb1.block _ (by simp)).trans (heap_alloc_new wr _); obtain ⟨⟨d0, d1, d2, d3⟩, _⟩ := res4 hbk1; have HW1 := Lib.hid (bt hW.out (bt (below_alloc _ _) hb1)); have Hbk1 := Lib.hid hbk1; clear hb1 hbk1) | (go_at_call 152; refine (HAl.out _).mono ?_; rintro e w2 ⟨rfl, hb2⟩; have hbk2 := (hb2.block _ (blk_lt' Hbk1.out)).trans Hbk1.out; obtain ⟨⟨d0, d1, d2, d3⟩, _⟩ := res4 hbk2; have HW2 := Lib.hid (bt HW1.out hb2); have Hbk2 := Lib.hid hbk2; clear hb2 hbk2) | (go_at_call 153; refine (HRi.out _ (HE.out.go HW2.out)).mono ?_; rintro e w3 ⟨rfl, hb3⟩; have hbk3 := (hb3.block _ (blk_lt' Hbk2.out)).trans Hbk2.out; obtain ⟨⟨d0, d1, d2, d3⟩, _⟩ := res4 hbk3; have HW3 := Lib.hid (bt HW2.out hb3); clear hb3 hbk3))
      go_ret
      exact ⟨ret_i (by rw [HC.out]), HW3.out⟩
    rw [hri] at HRi
    have hte : termE ⟨ky, nm, op, vl⟩ = 0 := by rw [termE, if_neg hky, if_neg (by rw [hnm]; decide), if_neg (by rw [hal]; decide), if_neg (by rw [hri]; decide)]
    have hF2 : firstE (l.take (k + 1)) = 0 := by rw [HT.out, firstE_append _ _ hF.out, hte]
    have hA2 : countK 23 (l.take (k + 1)) = a + (if ky = 23 then 1 else 0) := by rw [HT.out, countK_append, hA.out]
    have hB2 : countK 24 (l.take (k + 1)) = b + (if ky = 24 then 1 else 0) := by rw [HT.out, countK_append, hB.out]
    have HF2 := Lib.hid hF2
    by_cases h23 : ky = 23
    · subst h23
      rw [if_pos rfl] at hA2
      rw [if_neg (by decide), Nat.add_zero] at hB2
      have HA2 := Lib.hid hA2
      have HB2 := Lib.hid hB2
      clear hky hnm hal hri hte hF2 hA2 hB2 HFk
      go_wp2_with (first | (go_at_call 151; refine (HNm.out _).mono ?_; rintro e w1 ⟨rfl, hb1⟩; have hbk1 := (hb1.block _ (by simp)).trans (heap_alloc_new wr _); obtain ⟨⟨d0, d1, d2, d3⟩, _⟩ := res4 hbk1; have HW1 := Lib.hid (bt hW.out (bt (below_alloc _ _) hb1)); have Hbk1 := Lib.hid hbk1; clear hb1 hbk1) | (go_at_call 152; refine (HAl.out _).mono ?_; rintro e w2 ⟨rfl, hb2⟩; have hbk2 := (hb2.block _ (blk_lt' Hbk1.out)).trans Hbk1.out; obtain ⟨⟨d0, d1, d2, d3⟩, _⟩ := res4 hbk2; have HW2 := Lib.hid (bt HW1.out hb2); have Hbk2 := Lib.hid hbk2; clear hb2 hbk2) | (go_at_call 153; refine (HRi.out _ (HE.out.go HW2.out)).mono ?_; rintro e w3 ⟨rfl, hb3⟩; have hbk3 := (hb3.block _ (blk_lt' Hbk2.out)).trans Hbk2.out; obtain ⟨⟨d0, d1, d2, d3⟩, _⟩ := res4 hbk3; have HW3 := Lib.hid (bt HW2.out hb3); clear hb3 hbk3))
      go_roundg (gk - 1)
      case measure => omega
      case rel => exact ⟨k + 1, by go_num, by omega, a + 1, b, by go_num, rfl, by omega, by omega, HA2.out, HB2.out, HF2.out, HW3.out⟩
    by_cases h24 : ky = 24
    · subst h24
      rw [if_pos rfl] at hB2
      rw [if_neg (by decide), Nat.add_zero] at hA2
      have HA2 := Lib.hid hA2
      have HB2 := Lib.hid hB2
      clear hky hnm hal hri hte hF2 hA2 hB2 HFk h23
      go_wp2_with (first | (go_at_call 151; refine (HNm.out _).mono ?_; rintro e w1 ⟨rfl, hb1⟩; have hbk1 := (hb1.block _ (by simp)).trans (heap_alloc_new wr _); obtain ⟨⟨d0, d1, d2, d3⟩, _⟩ := res4 hbk1; have HW1 := Lib.hid (bt hW.out (bt (below_alloc _ _) hb1)); have Hbk1 := Lib.hid hbk1; clear hb1 hbk1) | (go_at_call 152; refine (HAl.out _).mono ?_; rintro e w2 ⟨rfl, hb2⟩; have hbk2 := (hb2.block _ (blk_lt' Hbk1.out)).trans Hbk1.out; obtain ⟨⟨d0, d1, d2, d3⟩, _⟩ := res4 hbk2; have HW2 := Lib.hid (bt HW1.out hb2); have Hbk2 := Lib.hid hbk2; clear hb2 hbk2) | (go_at_call 153; refine (HRi.out _ (HE.out.go HW2.out)).mono ?_; rintro e w3 ⟨rfl, hb3⟩; have hbk3 := (hb3.block _ (blk_lt' Hbk2.out)).trans Hbk2.out; obtain ⟨⟨d0, d1, d2, d3⟩, _⟩ := res4 hbk3; have HW3 := Lib.hid (bt HW2.out hb3); clear hb3 hbk3))
      go_roundg (gk - 1)
      case measure => omega
      case rel => exact ⟨k + 1, by go_num, by omega, a, b + 1, rfl, by go_num, by omega, by omega, HA2.out, HB2.out, HF2.out, HW3.out⟩
    rw [if_neg h23, Nat.add_zero] at hA2
    rw [if_neg h24, Nat.add_zero] at hB2
    have HA2 := Lib.hid hA2
    have HB2 := Lib.hid hB2
    have n23 : (ky == 23) = false := by simp [h23]
    have n24 : (ky == 24) = false := by simp [h24]
    clear hky hnm hal hri hte hF2 hA2 hB2 HFk h23 h24
    go_wp2_with (first | (go_at_call 151; refine (HNm.out _).mono ?_; rintro e w1 ⟨rfl, hb1⟩; have hbk1 := (hb1.block _ (by simp)).trans (heap_alloc_new wr _); obtain ⟨⟨d0, d1, d2, d3⟩, _⟩ := res4 hbk1; have HW1 := Lib.hid (bt hW.out (bt (below_alloc _ _) hb1)); have Hbk1 := Lib.hid hbk1; clear hb1 hbk1) | (go_at_call 152; refine (HAl.out _).mono ?_; rintro e w2 ⟨rfl, hb2⟩; have hbk2 := (hb2.block _ (blk_lt' Hbk1.out)).trans Hbk1.out; obtain ⟨⟨d0, d1, d2, d3⟩, _⟩ := res4 hbk2; have HW2 := Lib.hid (bt HW1.out hb2); have Hbk2 := Lib.hid hbk2; clear hb2 hbk2) | (go_at_call 153; refine (HRi.out _ (HE.out.go HW2.out)).mono ?_; rintro e w3 ⟨rfl, hb3⟩; have hbk3 := (hb3.block _ (blk_lt' Hbk2.out)).trans Hbk2.out; obtain ⟨⟨d0, d1, d2, d3⟩, _⟩ := res4 hbk3; have HW3 := Lib.hid (bt HW2.out hb3); clear hb3 hbk3))
    go_roundg (gk - 1)
    case measure => omega
    case rel => exact ⟨k + 1, by go_num, by omega, a, b, rfl, rfl, by omega, by omega, HA2.out, HB2.out, HF2.out, HW3.out⟩
  · obtain rfl : k = N := by omega
    have htk : l.take k = l := List.take_of_length_le (by rw [HN.out]; exact Nat.le_refl _)
    have HFin := Lib.hid (HL.out (by have := hF.out; rw [htk] at this; exact this))
    have hA' := hA.out
    have hB' := hB.out
    rw [htk] at hA' hB'
    have HA' := Lib.hid hA'
    have HB' := Lib.hid hB'
    clear htk hA' hB'
    by_cases h1 : 1 < a
    · have h1I : (1 : Int) < (a : Int) := by omega
      go_wp2
      go_ret
      exact ⟨ret_i (by rw [HFin.out, HA'.out, if_pos (Or.inl h1)]), hW.out⟩
    · have h1I : (a : Int) ≤ 1 := by omega
      by_cases h2 : 1 < b
      · have h2I : (1 : Int) < (b : Int) := by omega
        go_wp2
        go_ret
        exact ⟨ret_i (by rw [HFin.out, HB'.out, if_pos (Or.inr h2)]), hW.out⟩
      · have h2I : (b : Int) ≤ 1 := by omega
        go_wp2
        go_ret
        exact ⟨ret_i (by rw [HFin.out, HA'.out, HB'.out, if_neg (by omega)]), hW.out⟩
end Go.Proofs.YtibflgfhjfcifaaGreatDoor
namespace Go.Proofs.YtibflgfhjfcifaaGreatDoor
open Go.RowKit
def keysB : List ByteArray := [⟨#[]⟩, ⟨#[65, 67, 84, 73, 79, 78]⟩, ⟨#[75, 69, 82, 78, 69, 76]⟩, ⟨#[83, 85, 66, 83, 89, 83, 84, 69, 77]⟩, ⟨#[68, 82, 73, 86, 69, 82]⟩, ⟨#[65, 84, 84, 82]⟩, ⟨#[69, 78, 86]⟩, ⟨#[84, 65, 71]⟩, ⟨#[75, 69, 82, 78, 69, 76, 83]⟩, ⟨#[83, 85, 66, 83, 89, 83, 84, 69, 77, 83]⟩, ⟨#[68, 82, 73, 86, 69, 82, 83]⟩, ⟨#[65, 84, 84, 82, 83]⟩, ⟨#[80, 82, 79, 71, 82, 65, 77]⟩, ⟨#[82, 69, 83, 85, 76, 84]⟩, ⟨#[73, 77, 80, 79, 82, 84]⟩, ⟨#[78, 65, 77, 69]⟩, ⟨#[83, 89, 77, 76, 73, 78, 75]⟩, ⟨#[79, 87, 78, 69, 82]⟩, ⟨#[71, 82, 79, 85, 80]⟩, ⟨#[77, 79, 68, 69]⟩, ⟨#[82, 85, 78]⟩, ⟨#[76, 79, 65, 68]⟩, ⟨#[80, 82, 73, 79, 82, 73, 84, 89]⟩, ⟨#[76, 65, 66, 69, 76]⟩, ⟨#[71, 79, 84, 79]⟩]
def keysA : Array Value := (keysB.map Value.string).toArray
def opsW : List ByteArray := [⟨#[]⟩, ⟨#[61, 61]⟩, ⟨#[33, 61]⟩, ⟨#[61]⟩, ⟨#[43, 61]⟩, ⟨#[45, 61]⟩, ⟨#[58, 61]⟩]
def opsWA : Array Value := (opsW.map Value.string).toArray
set_option maxRecDepth 100000 in
theorem RKeys_any (w : World) :
 Calls Tryz.prog 102 #[] w fun e w' => e = .returned (.slice (some ⟨w.heap.size, 0, none⟩) 25 25) ∧ w.alloc (.cells keysA 9) = w' := by
 go_enter Tryz.func102, Tryz.ntmps102
 go_wp2
 go_ret
 exact ⟨rfl, rfl⟩
set_option maxRecDepth 100000 in
theorem ROps_any (w : World) :
 Calls Tryz.prog 103 #[] w fun e w' => e = .returned (.slice (some ⟨w.heap.size, 0, none⟩) 7 7) ∧ w.alloc (.cells opsWA 9) = w' := by
 go_enter Tryz.func103, Tryz.ntmps103
 go_wp2
 go_ret
 exact ⟨rfl, rfl⟩
def keyW (k : Int) : ByteArray := keysB.getD k.toNat ⟨#[]⟩
def opW (k : Int) : ByteArray := opsW.getD k.toNat ⟨#[]⟩
def tokOf (t : Tm) : Tk := ⟨keyW t.key, t.name, opW t.op, t.value⟩
def formatE (l : List Tm) : Str × Int := if checkE l = 0 then fmtS (l.map tokOf) else ([], checkE l)
theorem keysA_at (k : Nat) (h : k < 25) : keysA[k]? = some (.string (keyW k)) := by
 unfold keysA keyW
 rw [List.getElem?_toArray, List.getElem?_map, Int.toNat_natCast, List.getD, List.getElem?_eq_getElem (by simpa [keysB] using h)]
 rfl
theorem opsWA_at (k : Nat) (h : k < 7) : opsWA[k]? = some (.string (opW k)) := by
 unfold opsWA opW
 rw [List.getElem?_toArray, List.getElem?_map, Int.toNat_natCast, List.getD, List.getElem?_eq_getElem (by simpa [opsW] using h)]
 rfl
theorem keyW_len (k : Int) : (keyW k).size ≤ 1000 := by
 unfold keyW
 rw [List.getD]
 cases hx : keysB[k.toNat]? with
 | none => exact Nat.zero_le _
 | some x =>
   have : (keysB.all fun s => decide (s.size ≤ 1000)) = true := by decide
   simpa using List.all_eq_true.1 this x (List.mem_of_getElem? hx)
theorem opW_len (k : Int) : (opW k).size ≤ 1000 := by
 unfold opW
 rw [List.getD]
 cases hx : opsW[k.toNat]? with
 | none => exact Nat.zero_le _
 | some x =>
   have : (opsW.all fun s => decide (s.size ≤ 1000)) = true := by decide
   simpa using List.all_eq_true.1 this x (List.mem_of_getElem? hx)
theorem tokOf_small {t : Tm} (h : TmRight t) : TkSmall (tokOf t) := ⟨keyW_len _, by have := h.name; show t.name.size ≤ _; omega, opW_len _, by have := h.value; show t.value.size ≤ _; omega⟩
end Go.Proofs.YtibflgfhjfcifaaGreatDoor
namespace Go.Proofs.YtibflgfhjfcifaaGreatDoor
open Go.RowKit
theorem tokInfo : (Tryz.prog.info? 118).map (fun i => (i.zero, i.size, i.bytes)) = some (some (.agg #[.string ⟨#[]⟩, .string ⟨#[]⟩, .string ⟨#[]⟩, .string ⟨#[]⟩]), 4, 64) := by kernel_rfl
theorem encTk_one (x : Tk) : ∀ u ∈ encTk x, u.oneCell' = true := by simp [encTk, Value.oneCell']
def FormatPost (l : List Tm) (w : World) (e : Ending) (w' : World) : Prop := e = .returned (.tuple #[.string (bs (formatE l).1), .int .i64 (formatE l).2]) ∧ Below w.heap.size w w'
theorem own_below' {w w' : World} {base kk n : Nat} {e : TypeId} {v : Value} {xs : List Value} (h : w.ownsRow base e kk v n xs) (hb : Below w.heap.size w w') : w'.ownsRow base e kk v n xs :=
 h.kept (grown_below hb none) (by cases hv : v.ownBlock <;> simp)
theorem own_snoc3 {w : World} {base k : Nat} {e : TypeId} {v : Value} {l : List Tk} {x : Tk} (h : w.ownsRow base e 4 v (k + 1) (cellsOf encTk l ++ encTk x)) : w.ownsRow base e 4 v (k + 1) (cellsOf encTk (l ++ [x])) := by
 rw [cellsOf_append]
 have : cellsOf encTk [x] = encTk x := by simp [cellsOf]
 rw [this]
 exact h
set_option maxRecDepth 100000 in
set_option maxHeartbeats 8000000 in
theorem RFormat_any (A : Option Addr) (c : Nat) (l : List Tm) (w : World) (hE : Env0 w) (h : RowAt w w.heap.size A 4 l.length (cellsOf encTm l)) (hl : l.length ≤ 9223372036854775807) (hok : ∀ t ∈ l, TmOk t) :
 Calls Tryz.prog 66 #[.slice A l.length c] w (FormatPost l w) := by
 have HC := Lib.hid (RCheck_any A c l w hE h hl hok)
 have HE := Lib.hid hE
 have HR := Lib.hid h
 clear hE h hok
 by_cases hce : checkE l = 0
 · obtain ⟨h1, h16, hall⟩ := checkE_ok hce
   have HF : Hid (formatE l = fmtS (l.map tokOf)) := Lib.hid (by rw [formatE, if_pos hce])
   rw [hce] at HC
   have HK := Lib.hid (fun t ht => termE_right (hall t ht))
   obtain ⟨N, hN⟩ : ∃ N, l.length = N := ⟨_, rfl⟩
   have HN := Lib.hid hN
   rw [hN] at h1 h16 hl HC ⊢
   obtain ⟨i0, hi0, hz0, hz1, hz2⟩ := info_parts tokInfo
   have Hi0 := Lib.hid hi0
   have Hz0 := Lib.hid hz0
   have Hz1 := Lib.hid hz1
   have Hz2 := Lib.hid hz2
   clear hce hall hN hi0 hz0 hz1 hz2
   go_enter Tryz.func66, Tryz.ntmps66
   go_wp2_with (go_at_call 101; refine HC.out.mono ?_; rintro e w1 ⟨rfl, hb1⟩; have HW1 := Lib.hid hb1; clear hb1)
   clear HC
   go_loopg [5, 6] (N + 1) (fun gk s5 s6 wr => ∃ (k : Nat) (v : Value), s6 = .int .i64 k ∧ k + gk = N + 1 ∧ k ≤ N ∧ v = s5 ∧ Hid (wr.ownsRow w.heap.size 118 4 v k (cellsOf encTk ((l.take k).map tokOf))) ∧ Hid (Below w.heap.size w wr))
   case atStart => exact ⟨0, _, rfl, by omega, Nat.zero_le _, rfl, World.ownsRow_nil _ _ _ _, HW1.out⟩
   case round =>
    obtain ⟨k, v, rfl, hkg, hkN, rfl, hO, hW⟩ := hrel
    by_cases hlt : k < N
    · have hltI : (k : Int) < (N : Int) := by omega
      have hk : k < l.length := by rw [HN.out]; exact hlt
      have hQ0 := fun W' (hb : Below w.heap.size w W') => HR.out.tm hb hk
      have ht : l.take (k + 1) = l.take k ++ [l[k]] := List.take_succ_eq_append_getElem hk
      have hxs := HK.out l[k] (List.getElem_mem _)
      generalize l[k] = t at *
      obtain ⟨ky, nm, op, vl⟩ := t
      obtain ⟨k0, k1, o0, o1, zn, zv⟩ := hxs
      dsimp only at k0 k1 o0 o1 zn zv hQ0
      obtain ⟨kn, rfl⟩ := Int.eq_ofNat_of_zero_le (show 0 ≤ ky by omega)
      obtain ⟨on, rfl⟩ := Int.eq_ofNat_of_zero_le (show 0 ≤ op by omega)
      obtain ⟨ba, off, rfl, _⟩ := hQ0 w (Below.refl _ _)
      have hQ : ∀ W', Below w.heap.size w W' → W'.cell? ⟨ba, off + k * 4, none⟩ = some (.int .i64 kn) ∧ W'.cell? ⟨ba, off + k * 4 + 1, none⟩ = some (.string nm) ∧ W'.cell? ⟨ba, off + k * 4 + 2, none⟩ = some (.int .i64 on) ∧ W'.cell? ⟨ba, off + k * 4 + 3, none⟩ = some (.string vl) := fun W' hb => by
       obtain ⟨ba', off', e, h⟩ := hQ0 W' hb
       obtain ⟨rfl, rfl⟩ : ba = ba' ∧ off = off' := by injection e with e; injection e with e1 e2; exact ⟨e1, e2⟩
       exact h
      have HQ := Lib.hid hQ
      have hknI : (kn : Int) < 25 := by omega
      have honI : (on : Int) < 7 := by omega
      have hka := keysA_at kn (by omega)
      have hoa := opsWA_at on (by omega)
      have HX : Hid ((l.take (k + 1)).map tokOf = (l.take k).map tokOf ++ [⟨keyW kn, nm, opW on, vl⟩]) := Lib.hid (by rw [ht, List.map_append]; rfl)
      generalize keyW (kn : Int) = kw at *
      generalize opW (on : Int) = ow at *
      clear hQ hQ0 ht hk
      have hws := hW.out.size
      go_wp2
      -- REGION
      refine wp_region_held_drew (S := fun W' => W'.cell? ⟨ba, off + k * 4, none⟩ = some (.int .i64 kn) ∧ W'.cell? ⟨ba, off + k * 4 + 1, none⟩ = some (.string nm) ∧ W'.cell? ⟨ba, off + k * 4 + 2, none⟩ = some (.int .i64 on) ∧ W'.cell? ⟨ba, off + k * 4 + 3, none⟩ = some (.string vl)) (by kernel_rfl) ?_ (fun hHeld => ?_)
      · exact HQ.out _ (bt hW.out (by go_grown))
      refine wpAnyH_take (i := 0) (v := ?_) (by simp only [List.getElem?_toArray, List.getElem?_cons_zero]; rfl) (by kernel_rfl) (by kernel_rfl) (by kernel_rfl) (by exact fun _ _ _ h => h) (Or.inl ⟨by rfl, ?_⟩) (by assumption) ?_
      rotate_left
      · intro w hSw
        go_simp
        try with_reducible rfl
      try simp only [Act.put, List.setIfInBounds_toArray, List.set_cons_zero, List.set_cons_succ]
      refine wpAnyH_take (i := 2) (v := ?_) (by simp only [List.getElem?_toArray, List.getElem?_cons_succ, List.getElem?_cons_zero]; rfl) (by kernel_rfl) (by kernel_rfl) (by kernel_rfl) (by exact fun _ _ _ h => h) (Or.inl ⟨by rfl, ?_⟩) (by assumption) ?_
      rotate_left
      · intro w hSw
        go_simp
        try with_reducible rfl
      try simp only [Act.put, List.setIfInBounds_toArray, List.set_cons_zero, List.set_cons_succ]
      refine wpAnyH_take (i := 3) (v := ?_) (by simp only [List.getElem?_toArray, List.getElem?_cons_succ, List.getElem?_cons_zero]; rfl) (by kernel_rfl) (by kernel_rfl) (by kernel_rfl) (by exact fun _ _ _ h => h) (Or.inl ⟨by rfl, ?_⟩) (by assumption) ?_
      rotate_left
      · intro w hSw
        go_simp
        try with_reducible rfl
      try simp only [Act.put, List.setIfInBounds_toArray, List.set_cons_zero, List.set_cons_succ]
      refine wpAnyH_take (i := 4) (v := ?_) (by simp only [List.getElem?_toArray, List.getElem?_cons_succ, List.getElem?_cons_zero]; rfl) (by kernel_rfl) (by kernel_rfl) (by kernel_rfl) (by exact fun _ _ _ h => h) (Or.inl ⟨by rfl, ?_⟩) (by assumption) ?_
      rotate_left
      · intro w hSw
        go_simp
        try with_reducible rfl
      try simp only [Act.put, List.setIfInBounds_toArray, List.set_cons_zero, List.set_cons_succ]
      refine wpAnyH_take (i := 5) (v := ?_) (by simp only [List.getElem?_toArray, List.getElem?_cons_succ, List.getElem?_cons_zero]; rfl) (by kernel_rfl) (by kernel_rfl) (by kernel_rfl) (by exact fun _ _ _ h => h) (Or.inl ⟨by rfl, ?_⟩) (by assumption) ?_
      rotate_left
      · intro w hSw
        go_simp
        try with_reducible rfl
      try simp only [Act.put, List.setIfInBounds_toArray, List.set_cons_zero, List.set_cons_succ]
      refine wpAnyH_take (i := 6) (v := ?_) (by simp only [List.getElem?_toArray, List.getElem?_cons_succ, List.getElem?_cons_zero]; rfl) (by kernel_rfl) (by kernel_rfl) (by kernel_rfl) (by exact fun _ _ _ h => h) (Or.inl ⟨by rfl, ?_⟩) (by assumption) ?_
      rotate_left
      · intro w hSw
        go_simp
        try with_reducible rfl
      try simp only [Act.put, List.setIfInBounds_toArray, List.set_cons_zero, List.set_cons_succ]
      refine wpAnyH_take (i := 9) (v := ?_) (by simp only [List.getElem?_toArray, List.getElem?_cons_succ, List.getElem?_cons_zero]; rfl) (by kernel_rfl) (by kernel_rfl) (by kernel_rfl) (by exact fun _ _ _ h => h) (Or.inl ⟨by rfl, ?_⟩) (by assumption) ?_
      rotate_left
      · intro w hSw
        go_simp
        try with_reducible rfl
      try simp only [Act.put, List.setIfInBounds_toArray, List.set_cons_zero, List.set_cons_succ]
      refine wpAnyH_take (i := 10) (v := ?_) (by simp only [List.getElem?_toArray, List.getElem?_cons_succ, List.getElem?_cons_zero]; rfl) (by kernel_rfl) (by kernel_rfl) (by kernel_rfl) (by exact fun _ _ _ h => h) (Or.inl ⟨by rfl, ?_⟩) (by assumption) ?_
      rotate_left
      · intro w hSw
        go_simp
        try with_reducible rfl
      try simp only [Act.put, List.setIfInBounds_toArray, List.set_cons_zero, List.set_cons_succ]
      refine wpAnyH_take (i := 11) (v := ?_) (by simp only [List.getElem?_toArray, List.getElem?_cons_succ, List.getElem?_cons_zero]; rfl) (by kernel_rfl) (by kernel_rfl) (by kernel_rfl) (by exact fun _ _ _ h => h) (Or.inl ⟨by rfl, ?_⟩) (by assumption) ?_
      rotate_left
      · intro w hSw
        go_simp
        try with_reducible rfl
      try simp only [Act.put, List.setIfInBounds_toArray, List.set_cons_zero, List.set_cons_succ]
      refine wpAnyH_take (i := 12) (v := ?_) (by simp only [List.getElem?_toArray, List.getElem?_cons_succ, List.getElem?_cons_zero]; rfl) (by kernel_rfl) (by kernel_rfl) (by kernel_rfl) (by exact fun _ _ _ h => h) (Or.inl ⟨by rfl, ?_⟩) (by assumption) ?_
      rotate_left
      · intro w hSw
        go_simp
        try with_reducible rfl
      try simp only [Act.put, List.setIfInBounds_toArray, List.set_cons_zero, List.set_cons_succ]
      refine wpAnyH_take (i := 13) (v := ?_) (by simp only [List.getElem?_toArray, List.getElem?_cons_succ, List.getElem?_cons_zero]; rfl) (by kernel_rfl) (by kernel_rfl) (by kernel_rfl) (by exact fun _ _ _ h => h) (Or.inl ⟨by rfl, ?_⟩) (by assumption) ?_
      rotate_left
      · intro w hSw
        go_simp
        try with_reducible rfl
      try simp only [Act.put, List.setIfInBounds_toArray, List.set_cons_zero, List.set_cons_succ]
      refine wpAnyH_take (i := 15) (v := ?_) (by simp only [List.getElem?_toArray, List.getElem?_cons_succ, List.getElem?_cons_zero]; rfl) (by kernel_rfl) (by kernel_rfl) (by kernel_rfl) (by exact fun _ _ _ h => h) (Or.inl ⟨by rfl, ?_⟩) (by assumption) ?_
      rotate_left
      · intro w hSw
        go_simp
        try with_reducible rfl
      try simp only [Act.put, List.setIfInBounds_toArray, List.set_cons_zero, List.set_cons_succ]
      refine wpAnyH_take (i := 16) (v := ?_) (by simp only [List.getElem?_toArray, List.getElem?_cons_succ, List.getElem?_cons_zero]; rfl) (by kernel_rfl) (by kernel_rfl) (by kernel_rfl) (by exact fun _ _ _ h => h) (Or.inl ⟨by rfl, ?_⟩) (by assumption) ?_
      rotate_left
      · intro w hSw
        go_simp
        try with_reducible rfl
      try simp only [Act.put, List.setIfInBounds_toArray, List.set_cons_zero, List.set_cons_succ]
      refine wpAnyH_take (i := 17) (v := ?_) (by simp only [List.getElem?_toArray, List.getElem?_cons_succ, List.getElem?_cons_zero]; rfl) (by kernel_rfl) (by kernel_rfl) (by kernel_rfl) (by exact fun _ _ _ h => h) (Or.inl ⟨by rfl, ?_⟩) (by assumption) ?_
      rotate_left
      · intro w hSw
        go_simp
        try with_reducible rfl
      try simp only [Act.put, List.setIfInBounds_toArray, List.set_cons_zero, List.set_cons_succ]
      refine wpAnyH_take (i := 18) (v := ?_) (by simp only [List.getElem?_toArray, List.getElem?_cons_succ, List.getElem?_cons_zero]; rfl) (by kernel_rfl) (by kernel_rfl) (by kernel_rfl) (by exact fun _ _ _ h => h) (Or.inl ⟨by rfl, ?_⟩) (by assumption) ?_
      rotate_left
      · intro w hSw
        go_simp
        try with_reducible rfl
      try simp only [Act.put, List.setIfInBounds_toArray, List.set_cons_zero, List.set_cons_succ]
      refine wpAnyH_take (i := 19) (v := ?_) (by simp only [List.getElem?_toArray, List.getElem?_cons_succ, List.getElem?_cons_zero]; rfl) (by kernel_rfl) (by kernel_rfl) (by kernel_rfl) (by exact fun _ _ _ h => h) (Or.inl ⟨by rfl, ?_⟩) (by assumption) ?_
      rotate_left
      · intro w hSw
        go_simp
        try with_reducible rfl
      try simp only [Act.put, List.setIfInBounds_toArray, List.set_cons_zero, List.set_cons_succ]
      refine wpAnyH_take (i := 22) (v := ?_) (by simp only [List.getElem?_toArray, List.getElem?_cons_succ, List.getElem?_cons_zero]; rfl) (by kernel_rfl) (by kernel_rfl) (by kernel_rfl) (by exact fun _ _ _ h => h) (Or.inl ⟨by rfl, ?_⟩) (by assumption) ?_
      rotate_left
      · intro w hSw
        go_simp
        try with_reducible rfl
      try simp only [Act.put, List.setIfInBounds_toArray, List.set_cons_zero, List.set_cons_succ]
      refine wpAnyH_take (i := 23) (v := ?_) (by simp only [List.getElem?_toArray, List.getElem?_cons_succ, List.getElem?_cons_zero]; rfl) (by kernel_rfl) (by kernel_rfl) (by kernel_rfl) (by exact fun _ _ _ h => h) (Or.inl ⟨by rfl, ?_⟩) (by assumption) ?_
      rotate_left
      · intro w hSw
        go_simp
        try with_reducible rfl
      try simp only [Act.put, List.setIfInBounds_toArray, List.set_cons_zero, List.set_cons_succ]
      refine wpAnyH_take (i := 24) (v := ?_) (by simp only [List.getElem?_toArray, List.getElem?_cons_succ, List.getElem?_cons_zero]; rfl) (by kernel_rfl) (by kernel_rfl) (by kernel_rfl) (by exact fun _ _ _ h => h) (Or.inl ⟨by rfl, ?_⟩) (by assumption) ?_
      rotate_left
      · intro w hSw
        go_simp
        try with_reducible rfl
      try simp only [Act.put, List.setIfInBounds_toArray, List.set_cons_zero, List.set_cons_succ]
      refine wpAnyH_take (i := 25) (v := ?_) (by simp only [List.getElem?_toArray, List.getElem?_cons_succ, List.getElem?_cons_zero]; rfl) (by kernel_rfl) (by kernel_rfl) (by kernel_rfl) (by exact fun _ _ _ h => h) (Or.inl ⟨by rfl, ?_⟩) (by assumption) ?_
      rotate_left
      · intro w hSw
        go_simp
        try with_reducible rfl
      try simp only [Act.put, List.setIfInBounds_toArray, List.set_cons_zero, List.set_cons_succ]
      refine wpAnyH_take (i := 26) (v := ?_) (by simp only [List.getElem?_toArray, List.getElem?_cons_succ, List.getElem?_cons_zero]; rfl) (by kernel_rfl) (by kernel_rfl) (by kernel_rfl) (by exact fun _ _ _ h => h) (Or.inl ⟨by rfl, ?_⟩) (by assumption) ?_
      rotate_left
      · intro w hSw
        go_simp
        try with_reducible rfl
      try simp only [Act.put, List.setIfInBounds_toArray, List.set_cons_zero, List.set_cons_succ]
      refine wpAnyH_ready (rs := [1]) (by kernel_rfl) (by simp) ?_
      refine AllReadyH.cons (by simp only [List.getElem?_toArray, List.getElem?_cons_succ, List.getElem?_cons_zero]; rfl) (fun K hK => ?_) AllReadyH.nil
      go_simp
      go_at_call 102
      refine (RKeys_any _).mono ?_
      rintro e w1 ⟨rfl, rfl⟩
      refine hK.out _ _ (by first | exact HQ.out _ HB2.out | exact HQ.out _ (bt hW.out (by go_grown))) (fun hHeld => ?_)
      clear hK K
      try simp only [Act.put, List.setIfInBounds_toArray, List.set_cons_zero, List.set_cons_succ]
      refine wpAnyH_take (i := 7) (v := ?_) (by simp only [List.getElem?_toArray, List.getElem?_cons_succ, List.getElem?_cons_zero]; rfl) (by kernel_rfl) (by kernel_rfl) (by kernel_rfl) (by exact fun _ _ _ h => h) (Or.inl ⟨by rfl, ?_⟩) (by assumption) ?_
      rotate_left
      · intro w hSw
        go_simp
        try with_reducible rfl
      try simp only [Act.put, List.setIfInBounds_toArray, List.set_cons_zero, List.set_cons_succ]
      refine wpAnyH_ready (rs := [8, 14]) (by kernel_rfl) (by simp) ?_
      refine AllReadyH.cons (by simp only [List.getElem?_toArray, List.getElem?_cons_succ, List.getElem?_cons_zero]; rfl) (fun K hK => ?_) (AllReadyH.cons (by simp only [List.getElem?_toArray, List.getElem?_cons_succ, List.getElem?_cons_zero]; rfl) (fun K hK => ?_) AllReadyH.nil)
      · skip
        go_simp
        refine hK.out _ _ (by first | exact HQ.out _ HB2.out | exact HQ.out _ (bt hW.out (by go_grown))) (fun hHeld => ?_)
        clear hK K
        try simp only [Act.put, List.setIfInBounds_toArray, List.set_cons_zero, List.set_cons_succ]
        refine wpAnyH_ready (rs := [14]) (by kernel_rfl) (by simp) ?_
        refine AllReadyH.cons (by simp only [List.getElem?_toArray, List.getElem?_cons_succ, List.getElem?_cons_zero]; rfl) (fun K hK => ?_) AllReadyH.nil
        go_simp
        go_at_call 103
        refine (ROps_any _).mono ?_
        rintro e w1 ⟨rfl, rfl⟩
        refine hK.out _ _ (by first | exact HQ.out _ HB2.out | exact HQ.out _ (bt hW.out (by go_grown))) (fun hHeld => ?_)
        clear hK K
        try simp only [Act.put, List.setIfInBounds_toArray, List.set_cons_zero, List.set_cons_succ]
        refine wpAnyH_take (i := 20) (v := ?_) (by simp only [List.getElem?_toArray, List.getElem?_cons_succ, List.getElem?_cons_zero]; rfl) (by kernel_rfl) (by kernel_rfl) (by kernel_rfl) (by exact fun _ _ _ h => h) (Or.inl ⟨by rfl, ?_⟩) (by assumption) ?_
        rotate_left
        · intro w hSw
          go_simp
          try with_reducible rfl
        try simp only [Act.put, List.setIfInBounds_toArray, List.set_cons_zero, List.set_cons_succ]
        refine wpAnyH_ready (rs := [21]) (by kernel_rfl) (by simp) ?_
        refine AllReadyH.cons (by simp only [List.getElem?_toArray, List.getElem?_cons_succ, List.getElem?_cons_zero]; rfl) (fun K hK => ?_) AllReadyH.nil
        go_simp
        refine hK.out _ _ (by first | exact HQ.out _ HB2.out | exact HQ.out _ (bt hW.out (by go_grown))) (fun hHeld => ?_)
        clear hK K
        try simp only [Act.put, List.setIfInBounds_toArray, List.set_cons_zero, List.set_cons_succ]
        refine wpAnyH_take (i := 27) (v := ?_) (by simp only [List.getElem?_toArray, List.getElem?_cons_succ, List.getElem?_cons_zero]; rfl) (by kernel_rfl) (by kernel_rfl) (by kernel_rfl) (by exact fun _ _ _ h => h) (Or.inl ⟨by rfl, ?_⟩) (by assumption) ?_
        rotate_left
        · intro w hSw
          go_simp
          try with_reducible rfl
        try simp only [Act.put, List.setIfInBounds_toArray, List.set_cons_zero, List.set_cons_succ]
        refine wpAnyH_ready (rs := [28]) (by kernel_rfl) (by simp) ?_
        refine AllReadyH.cons (by simp only [List.getElem?_toArray, List.getElem?_cons_succ, List.getElem?_cons_zero]; rfl) (fun K hK => ?_) AllReadyH.nil
        go_simp
        refine hK.out _ _ (by first | exact HQ.out _ HB2.out | exact HQ.out _ (bt hW.out (by go_grown))) (fun hHeld => ?_)
        clear hK K
        try simp only [Act.put, List.setIfInBounds_toArray, List.set_cons_zero, List.set_cons_succ]
        refine wpAnyH_ready (rs := [29]) (by kernel_rfl) (by simp) ?_
        refine AllReadyH.cons (by simp only [List.getElem?_toArray, List.getElem?_cons_succ, List.getElem?_cons_zero]; rfl) (fun K hK => ?_) AllReadyH.nil
        refine step_append_lies _ (by rfl) _ _ _ (by rfl) w.heap.size 118 i0 _ 4 64 Tryz.underlying109 Hi0.out Hz0.out Hz1.out Hz2.out rfl (by omega) v k (cellsOf encTk ((l.take k).map tokOf)) (by rfl) (own_below' hO.out (by go_grown)) _ 1 1 (encTk ⟨kw, nm, ow, vl⟩) (by rfl) (by rfl) (by exact World.news_of_block (B := wr.heap.size + 2) (alloc3 _ _ _ _).2.2.2.1) (encTk_one _) (by omega) (by unfold maxLen;omega) (by omega) (by simp;omega) _ rfl ?_
        intro g2 cap w2 hown2 hgrow2 hat2 hlt2
        have HB2 := Lib.hid ((bt hW.out (by go_grown)).grown hgrow2 (by simp;omega) (fun j e => (hO.out.lt j e).1))
        have HO2 := Lib.hid hown2
        clear hown2 hgrow2 hat2 hlt2
        refine hK.out _ _ (by first | exact HQ.out _ HB2.out | exact HQ.out _ (bt hW.out (by go_grown))) (fun hHeld => ?_)
        clear hK K
        try simp only [Act.put, List.setIfInBounds_toArray, List.set_cons_zero, List.set_cons_succ]
        refine wpAnyH_take (i := 30) (v := ?_) (by simp only [List.getElem?_toArray, List.getElem?_cons_succ, List.getElem?_cons_zero]; rfl) (by kernel_rfl) (by kernel_rfl) (by kernel_rfl) (by exact fun _ _ _ h => h) (Or.inl ⟨by rfl, ?_⟩) (by assumption) ?_
        rotate_left
        · intro w hSw
          go_simp
          try with_reducible rfl
        try simp only [Act.put, List.setIfInBounds_toArray, List.set_cons_zero, List.set_cons_succ]
        refine wpAnyH_done (by kernel_rfl) ?_ _
        go_wp2
        go_roundg (gk - 1)
        case measure => omega
        case rel => exact ⟨k + 1, _, by go_num, by omega, by omega, rfl, by rw [HX.out]; exact own_snoc3 HO2.out, HB2.out⟩
      · skip
        go_simp
        go_at_call 103
        refine (ROps_any _).mono ?_
        rintro e w1 ⟨rfl, rfl⟩
        refine hK.out _ _ (by first | exact HQ.out _ HB2.out | exact HQ.out _ (bt hW.out (by go_grown))) (fun hHeld => ?_)
        clear hK K
        try simp only [Act.put, List.setIfInBounds_toArray, List.set_cons_zero, List.set_cons_succ]
        refine wpAnyH_take (i := 20) (v := ?_) (by simp only [List.getElem?_toArray, List.getElem?_cons_succ, List.getElem?_cons_zero]; rfl) (by kernel_rfl) (by kernel_rfl) (by kernel_rfl) (by exact fun _ _ _ h => h) (Or.inl ⟨by rfl, ?_⟩) (by assumption) ?_
        rotate_left
        · intro w hSw
          go_simp
          try with_reducible rfl
        try simp only [Act.put, List.setIfInBounds_toArray, List.set_cons_zero, List.set_cons_succ]
        refine wpAnyH_ready (rs := [8, 21]) (by kernel_rfl) (by simp) ?_
        refine AllReadyH.cons (by simp only [List.getElem?_toArray, List.getElem?_cons_succ, List.getElem?_cons_zero]; rfl) (fun K hK => ?_) (AllReadyH.cons (by simp only [List.getElem?_toArray, List.getElem?_cons_succ, List.getElem?_cons_zero]; rfl) (fun K hK => ?_) AllReadyH.nil)
        · skip
          go_simp
          refine hK.out _ _ (by first | exact HQ.out _ HB2.out | exact HQ.out _ (bt hW.out (by go_grown))) (fun hHeld => ?_)
          clear hK K
          try simp only [Act.put, List.setIfInBounds_toArray, List.set_cons_zero, List.set_cons_succ]
          refine wpAnyH_ready (rs := [21]) (by kernel_rfl) (by simp) ?_
          refine AllReadyH.cons (by simp only [List.getElem?_toArray, List.getElem?_cons_succ, List.getElem?_cons_zero]; rfl) (fun K hK => ?_) AllReadyH.nil
          go_simp
          refine hK.out _ _ (by first | exact HQ.out _ HB2.out | exact HQ.out _ (bt hW.out (by go_grown))) (fun hHeld => ?_)
          clear hK K
          try simp only [Act.put, List.setIfInBounds_toArray, List.set_cons_zero, List.set_cons_succ]
          refine wpAnyH_take (i := 27) (v := ?_) (by simp only [List.getElem?_toArray, List.getElem?_cons_succ, List.getElem?_cons_zero]; rfl) (by kernel_rfl) (by kernel_rfl) (by kernel_rfl) (by exact fun _ _ _ h => h) (Or.inl ⟨by rfl, ?_⟩) (by assumption) ?_
          rotate_left
          · intro w hSw
            go_simp
            try with_reducible rfl
          try simp only [Act.put, List.setIfInBounds_toArray, List.set_cons_zero, List.set_cons_succ]
          refine wpAnyH_ready (rs := [28]) (by kernel_rfl) (by simp) ?_
          refine AllReadyH.cons (by simp only [List.getElem?_toArray, List.getElem?_cons_succ, List.getElem?_cons_zero]; rfl) (fun K hK => ?_) AllReadyH.nil
          go_simp
          refine hK.out _ _ (by first | exact HQ.out _ HB2.out | exact HQ.out _ (bt hW.out (by go_grown))) (fun hHeld => ?_)
          clear hK K
          try simp only [Act.put, List.setIfInBounds_toArray, List.set_cons_zero, List.set_cons_succ]
          refine wpAnyH_ready (rs := [29]) (by kernel_rfl) (by simp) ?_
          refine AllReadyH.cons (by simp only [List.getElem?_toArray, List.getElem?_cons_succ, List.getElem?_cons_zero]; rfl) (fun K hK => ?_) AllReadyH.nil
          refine step_append_lies _ (by rfl) _ _ _ (by rfl) w.heap.size 118 i0 _ 4 64 Tryz.underlying109 Hi0.out Hz0.out Hz1.out Hz2.out rfl (by omega) v k (cellsOf encTk ((l.take k).map tokOf)) (by rfl) (own_below' hO.out (by go_grown)) _ 1 1 (encTk ⟨kw, nm, ow, vl⟩) (by rfl) (by rfl) (by exact World.news_of_block (B := wr.heap.size + 2) (alloc3 _ _ _ _).2.2.2.1) (encTk_one _) (by omega) (by unfold maxLen;omega) (by omega) (by simp;omega) _ rfl ?_
          intro g2 cap w2 hown2 hgrow2 hat2 hlt2
          have HB2 := Lib.hid ((bt hW.out (by go_grown)).grown hgrow2 (by simp;omega) (fun j e => (hO.out.lt j e).1))
          have HO2 := Lib.hid hown2
          clear hown2 hgrow2 hat2 hlt2
          refine hK.out _ _ (by first | exact HQ.out _ HB2.out | exact HQ.out _ (bt hW.out (by go_grown))) (fun hHeld => ?_)
          clear hK K
          try simp only [Act.put, List.setIfInBounds_toArray, List.set_cons_zero, List.set_cons_succ]
          refine wpAnyH_take (i := 30) (v := ?_) (by simp only [List.getElem?_toArray, List.getElem?_cons_succ, List.getElem?_cons_zero]; rfl) (by kernel_rfl) (by kernel_rfl) (by kernel_rfl) (by exact fun _ _ _ h => h) (Or.inl ⟨by rfl, ?_⟩) (by assumption) ?_
          rotate_left
          · intro w hSw
            go_simp
            try with_reducible rfl
          try simp only [Act.put, List.setIfInBounds_toArray, List.set_cons_zero, List.set_cons_succ]
          refine wpAnyH_done (by kernel_rfl) ?_ _
          go_wp2
          go_roundg (gk - 1)
          case measure => omega
          case rel => exact ⟨k + 1, _, by go_num, by omega, by omega, rfl, by rw [HX.out]; exact own_snoc3 HO2.out, HB2.out⟩
        · skip
          go_simp
          refine hK.out _ _ (by first | exact HQ.out _ HB2.out | exact HQ.out _ (bt hW.out (by go_grown))) (fun hHeld => ?_)
          clear hK K
          try simp only [Act.put, List.setIfInBounds_toArray, List.set_cons_zero, List.set_cons_succ]
          refine wpAnyH_ready (rs := [8]) (by kernel_rfl) (by simp) ?_
          refine AllReadyH.cons (by simp only [List.getElem?_toArray, List.getElem?_cons_succ, List.getElem?_cons_zero]; rfl) (fun K hK => ?_) AllReadyH.nil
          go_simp
          refine hK.out _ _ (by first | exact HQ.out _ HB2.out | exact HQ.out _ (bt hW.out (by go_grown))) (fun hHeld => ?_)
          clear hK K
          try simp only [Act.put, List.setIfInBounds_toArray, List.set_cons_zero, List.set_cons_succ]
          refine wpAnyH_take (i := 27) (v := ?_) (by simp only [List.getElem?_toArray, List.getElem?_cons_succ, List.getElem?_cons_zero]; rfl) (by kernel_rfl) (by kernel_rfl) (by kernel_rfl) (by exact fun _ _ _ h => h) (Or.inl ⟨by rfl, ?_⟩) (by assumption) ?_
          rotate_left
          · intro w hSw
            go_simp
            try with_reducible rfl
          try simp only [Act.put, List.setIfInBounds_toArray, List.set_cons_zero, List.set_cons_succ]
          refine wpAnyH_ready (rs := [28]) (by kernel_rfl) (by simp) ?_
          refine AllReadyH.cons (by simp only [List.getElem?_toArray, List.getElem?_cons_succ, List.getElem?_cons_zero]; rfl) (fun K hK => ?_) AllReadyH.nil
          go_simp
          refine hK.out _ _ (by first | exact HQ.out _ HB2.out | exact HQ.out _ (bt hW.out (by go_grown))) (fun hHeld => ?_)
          clear hK K
          try simp only [Act.put, List.setIfInBounds_toArray, List.set_cons_zero, List.set_cons_succ]
          refine wpAnyH_ready (rs := [29]) (by kernel_rfl) (by simp) ?_
          refine AllReadyH.cons (by simp only [List.getElem?_toArray, List.getElem?_cons_succ, List.getElem?_cons_zero]; rfl) (fun K hK => ?_) AllReadyH.nil
          refine step_append_lies _ (by rfl) _ _ _ (by rfl) w.heap.size 118 i0 _ 4 64 Tryz.underlying109 Hi0.out Hz0.out Hz1.out Hz2.out rfl (by omega) v k (cellsOf encTk ((l.take k).map tokOf)) (by rfl) (own_below' hO.out (by go_grown)) _ 1 1 (encTk ⟨kw, nm, ow, vl⟩) (by rfl) (by rfl) (by exact World.news_of_block (B := wr.heap.size + 2) (alloc3 _ _ _ _).2.2.2.1) (encTk_one _) (by omega) (by unfold maxLen;omega) (by omega) (by simp;omega) _ rfl ?_
          intro g2 cap w2 hown2 hgrow2 hat2 hlt2
          have HB2 := Lib.hid ((bt hW.out (by go_grown)).grown hgrow2 (by simp;omega) (fun j e => (hO.out.lt j e).1))
          have HO2 := Lib.hid hown2
          clear hown2 hgrow2 hat2 hlt2
          refine hK.out _ _ (by first | exact HQ.out _ HB2.out | exact HQ.out _ (bt hW.out (by go_grown))) (fun hHeld => ?_)
          clear hK K
          try simp only [Act.put, List.setIfInBounds_toArray, List.set_cons_zero, List.set_cons_succ]
          refine wpAnyH_take (i := 30) (v := ?_) (by simp only [List.getElem?_toArray, List.getElem?_cons_succ, List.getElem?_cons_zero]; rfl) (by kernel_rfl) (by kernel_rfl) (by kernel_rfl) (by exact fun _ _ _ h => h) (Or.inl ⟨by rfl, ?_⟩) (by assumption) ?_
          rotate_left
          · intro w hSw
            go_simp
            try with_reducible rfl
          try simp only [Act.put, List.setIfInBounds_toArray, List.set_cons_zero, List.set_cons_succ]
          refine wpAnyH_done (by kernel_rfl) ?_ _
          go_wp2
          go_roundg (gk - 1)
          case measure => omega
          case rel => exact ⟨k + 1, _, by go_num, by omega, by omega, rfl, by rw [HX.out]; exact own_snoc3 HO2.out, HB2.out⟩
      -- END
    · obtain rfl : k = N := by omega
      have HT : Hid ((l.take k).map tokOf = l.map tokOf) := Lib.hid (by rw [List.take_of_length_le (by rw [HN.out]; exact Nat.le_refl _)])
      have hlt2 : (l.map tokOf).length = k := by rw [List.length_map, HN.out]
      have HL := Lib.hid hlt2
      clear hlt2
      obtain ⟨A2, c2, rfl⟩ := own_slice hO.out
      have hrow := RowAt.of_own hO.out
      rw [HT.out] at hrow
      have HFm := Lib.hid (RLFormat_any A2 c2 (l.map tokOf) wr (HE.out.go hW.out) (by rw [HL.out]; exact hrow) (by rw [HL.out]; omega) (fun x hx => by
       obtain ⟨t, ht, rfl⟩ := List.mem_map.1 hx
       exact tokOf_small (HK.out t ht)))
      rw [HL.out] at HFm
      unfold FmtPost at HFm
      clear hrow HT HL
      go_wp2_with (go_at_call 104; refine HFm.out.mono ?_; rintro e w5 ⟨rfl, hb5⟩; have HB5 := Lib.hid (bt hW.out hb5); clear hb5)
      go_ret2
      unfold FormatPost
      rw [HF.out]
      exact ⟨rfl, HB5.out⟩
 · have HF : Hid (formatE l = ([], checkE l)) := Lib.hid (by rw [formatE, if_neg hce])
   generalize checkE l = ce at *
   have hne : (ce == 0) = false := by simp [hce]
   have hnn : (ce != 0) = true := by simp [hce]
   generalize l.length = N at *
   clear hce HR HE
   go_enter Tryz.func66, Tryz.ntmps66
   go_wp2_with (go_at_call 101; refine HC.out.mono ?_; rintro e w1 ⟨rfl, hb1⟩)
   go_ret2
   unfold FormatPost
   rw [HF.out]
   exact ⟨rfl, hb1⟩
end Go.Proofs.YtibflgfhjfcifaaGreatDoor
