/-
  Contract of the reference's Parse.
-/
import Derived.Test.YthcgkeiggnfgiaaGreatDoorG24
namespace Go.Proofs.YthcgkeiggnfgiaaGreatDoor
open Go.RowKit
/-- What holds at each round's head. -/
structure RIn (s : ByteArray) (w wr : World) (t : ByteArray) (acc : List Pc) (v : Value) : Prop where
  own : wr.ownsRow w.heap.size 241 4 v acc.length (cellsOf encPc acc)
  below : Below w.heap.size w wr
  fits : Fits t.size acc
  read : ∃ n, t.size ≤ n ∧ parseS (L s) = parseF n (L t) acc
theorem RIn.drew {s : ByteArray} {w wr : World} {t : ByteArray} {acc : List Pc} {v : Value} (h : RIn s w wr t acc v) : RIn s w wr.drew t acc v := ⟨h.own.drew, h.below.drew, h.fits, h.read⟩
theorem RIn.keep {s : ByteArray} {w wr W : World} {t : ByteArray} {acc : List Pc} {v : Value} (h : RIn s w wr t acc v) (hb : Below wr.heap.size wr W) : RIn s w W t acc v := ⟨own_keep h.own hb, h.below.trans (hb.mono h.below.size), h.fits, h.read⟩
theorem RIn.drewN {s : ByteArray} {w wr : World} {t : ByteArray} {acc : List Pc} {v : Value} (h : RIn s w wr t acc v) (n : Nat) : RIn s w (wr.drewN n) t acc v := ⟨own_keep h.own (below_drewN (Below.refl _ _) n), below_drewN h.below n, h.fits, h.read⟩
theorem RIn.add {s : ByteArray} {w wr : World} {t : ByteArray} {acc : List Pc} {v : Value} (h : RIn s w wr t acc v) (p : Pc) (ht : t.size ≤ 256) (hpt : p.text.size ≤ 256) (hp : p.kind = 1 → p = txt p.text) :
    Calls Tryz.prog 215 #[v, .agg #[.int .i64 p.kind, .string p.text, .int .i64 p.word, .bool p.more]] wr (RAddPost w.heap.size acc p wr) :=
  Radd_any w.heap.size v acc p wr h.own h.below.size (by have := h.fits.1; omega) (fun q hq => by have := h.fits.2 q hq; omega) (by omega) hp
theorem RIn.goOn {s : ByteArray} {w wr w' : World} {t t' : ByteArray} {acc : List Pc} {v v' : Value} {p : Pc} (h : RIn s w wr t acc v) (ho : w'.ownsRow w.heap.size 241 4 v' (addP acc p).length (cellsOf encPc (addP acc p))) (hb : Below w.heap.size wr w')
    (ht : t.size ≤ 256) (h1 : p.text.size + t'.size ≤ t.size) (h2 : t'.size + 1 ≤ t.size) (hr : ∃ n, t'.size ≤ n ∧ parseS (L s) = parseF n (L t') (addP acc p)) : RIn s w w' t' (addP acc p) v' :=
  ⟨ho, h.below.trans hb, h.fits.add ht h1 h2, hr⟩
set_option maxRecDepth 100000 in
set_option maxHeartbeats 4000000 in
theorem RParse_any (s : ByteArray) (w : World) (hE : Env0 w) (hs : s.size ≤ 9223372036854775807) :
    Calls Tryz.prog 164 #[.string s] w (ParsePost (L s) w) := by
  by_cases h256 : 256 < s.size
  · have hR : parseR (L s) = ([], 91) := by rw [parseR, len_L, if_pos h256]
    have HR := Lib.hid hR
    clear hR
    go_enter Tryz.func164, Tryz.ntmps164
    go_wp2
    go_ret2
    exact ⟨.slice none 0 0, by rw [HR.out]; rfl, by rw [HR.out]; exact ⟨rfl, .inl ⟨rfl, rfl⟩⟩, Below.refl _ _⟩
  have h256 : s.size ≤ 256 := by omega
  have HT := RText_any s w hs
  cases ht : textS (L s)
  · have hR : parseR (L s) = ([], 90) := by rw [parseR, len_L, if_neg (by omega), ht]; rfl
    have HR := Lib.hid hR
    rw [ht] at HT
    clear hR ht
    go_enter Tryz.func164, Tryz.ntmps164
    go_wp2_with (go_at_call 214; refine HT.mono ?_; rintro e w' ⟨rfl, rfl⟩)
    go_ret2
    exact ⟨.slice none 0 0, by rw [HR.out]; rfl, by rw [HR.out]; exact ⟨rfl, .inl ⟨rfl, rfl⟩⟩, Below.refl _ _⟩
  rw [ht] at HT
  have hR : parseR (L s) = match parseS (L s) with
    | some ps => (ps, 0)
    | none => ([], 90) := by rw [parseR, len_L, if_neg (by omega), ht]; rfl
  have HR := Lib.hid hR
  have HE := Lib.hid hE
  have HT2 := Lib.hid HT
  clear hR ht hE HT
  go_enter Tryz.func164, Tryz.ntmps164
  go_wp2_with (go_at_call 214; refine HT2.out.mono ?_; rintro e w' ⟨rfl, rfl⟩)
  go_loopg [0, 4] s.size (fun gk x v wr => ∃ (t : ByteArray) (acc : List Pc), x = .string t ∧ t.size ≤ gk ∧ t.size ≤ 256 ∧ Hid (RIn s w wr t acc v))
  case atStart => exact ⟨s, [], rfl, Nat.le_refl _, h256, ⟨⟨rfl, .inl ⟨rfl, rfl⟩⟩, Below.refl _ _, ⟨by simp; omega, fun q hq => by cases hq⟩, s.size, Nat.le_refl _, by rw [parseS, len_L]⟩⟩
  case round =>
    obtain ⟨t, acc, rfl, hgk, htz, hin⟩ := hrel
    by_cases h0 : t = ⟨#[]⟩
    · subst h0
      have hres : parseR (L s) = (acc, 0) := by
        obtain ⟨n, _, hn⟩ := hin.out.read
        have h1 : parseS (L s) = some acc := by
          rw [hn, show L ⟨#[]⟩ = [] from rfl]
          cases n <;> rfl
        rw [HR.out, h1]
      have HRes := Lib.hid hres
      clear hres
      go_wp2
      go_ret2
      exact ⟨_, by rw [HRes.out]; rfl, by rw [HRes.out]; exact hin.out.own, hin.out.below⟩
    · obtain ⟨c, r, hL⟩ := cons_of h0
      have hrl : r.length + 1 = t.size := by rw [← len_L, hL]; rfl
      have hpos : 0 < t.size := by omega
      have hpos1 : 1 ≤ t.size := by omega
      have hposI : (1 : Int) ≤ (t.size : Int) := by omega
      have ht0 := at0 hL hpos
      have hne : t.toList.isEmpty = false := by rw [tl, hL]; rfl
      have hne2 : ¬ t.toList = [] := fun e => by rw [e] at hne; cases hne
      obtain ⟨n, hn1, hn2⟩ := hin.out.read
      rw [hL] at hn2
      obtain ⟨n', hn3, hn4⟩ := parseF_step n c r acc (by omega)
      rw [hn4] at hn2
      have HRd := Lib.hid hn2
      have e01 := ext01 hL
      have e1 := ext1 hL
      have E01 := Lib.hid e01
      have E1 := Lib.hid e1
      have HLt := Lib.hid hL
      clear hn2 hn4 hn1 h0 e01 e1 hL
      by_cases hsg : sign c = true
      · have hc : c = 36 ∨ c = 37 := by simpa [sign] using hsg
        clear hsg
        rcases hc with rfl | rfl
        · have k36 : ((t[0].toNat : Int) == 36) = true := by rw [ht0]; decide
          have n36 : ((t[0].toNat : Int) != 36) = false := by rw [ht0]; decide
          have k37 : ((t[0].toNat : Int) == 37) = false := by rw [ht0]; decide
          have n37 : ((t[0].toNat : Int) != 37) = true := by rw [ht0]; decide
          by_cases hd : r.head? = some 36
          · obtain ⟨r2, rfl⟩ : ∃ r2, r = 36 :: r2 := by
              cases r with
              | nil => simp at hd
              | cons a b => simp at hd; exact ⟨b, by rw [hd]⟩
            have hlt1 : 1 < t.size := by simp at hrl; omega
            have ht1 := at1 HLt.out hlt1
            have hI2 : (2 : Int) ≤ (t.size : Int) := by omega
            have hI1 : (1 : Int) < (t.size : Int) := by omega
            have hI1' : decide ((1 : Int) < (t.size : Int)) = true := by simpa using hI1
            have hq : ((t[1].toNat : Int) == (t[0].toNat : Int)) = true := by rw [ht0, ht1]; decide
            have e2 := ext2 HLt.out
            have E2 := Lib.hid e2
            have HAd := Lib.hid (fun W (hb : Below wr.heap.size wr W) => (hin.out.keep hb).add (txt (bs [36])) htz (by show (bs [36]).size ≤ 256; rw [size_bs]; simp) (fun _ => rfl))
            clear hd ht0 ht1 e2
            go_wp2
            go_quiet (fail)
            go_wp2
            go_region_held3 (fun _ => True) (exact trivial) ((go_at_call 215; rw [E01.out]; refine (HAd.out _ (by first | exact (Below.refl _ _).drew | exact Below.refl _ _ | exact below_drewN (Below.refl _ _) _ | exact (below_drewN (Below.refl _ _) _).drew)).mono ?_; rintro e w2 ⟨v', rfl, ho2, hb2⟩))
            have hfin : RIn s w w2 (t.extract 2 t.size) (addP acc (txt (bs [36]))) v' := hin.out.goOn ho2 ((show Below w.heap.size wr _ from by first | exact (Below.refl _ _).drew | exact Below.refl _ _ | exact below_drewN (Below.refl _ _) _ | exact (below_drewN (Below.refl _ _) _).drew).trans hb2) htz (by rw [E2.out, size_bs]; show (bs [36]).size + r2.length ≤ t.size; rw [size_bs]; simp at hrl ⊢; omega) (by rw [E2.out, size_bs]; simp at hrl; omega) ⟨n', by rw [E2.out, size_bs]; simp at hn3; omega, by
              have := HRd.out
              rw [if_pos (by decide), show pieceS 36 (36 :: r2) = some (txt (bs [36]), r2) from by rw [pieceS, if_pos (show (36 :: r2 : Str).head? = some 36 from rfl)]; rfl] at this
              rw [this, E2.out, L_bs]⟩
            have HF := Lib.hid hfin
            have hz2 : (t.extract 2 t.size).size = r2.length := by rw [E2.out, size_bs]
            have hz3 : r2.length + 2 = t.size := by simp at hrl; omega
            clear hfin ho2 hb2
            go_wp2
            go_roundg (gk - 1)
            case measure => omega
            case rel => exact ⟨_, _, rfl, by omega, by omega, HF.out⟩
          · cases r with
            | nil =>
              have hI1' : decide ((1 : Int) < (t.size : Int)) = false := by simp at hrl; simp; omega
              have hI1 : ¬ ((1 : Int) < (t.size : Int)) := by simp at hrl; omega
              have HK1 : Hid (∀ x : Str, kindOf true x ≠ 1) := Lib.hid (fun x => kOf_ne1' _ x)
              clear ht0 
              go_wp2
              go_quiet (fail)
              go_wp2
              obtain ⟨wq, hwq⟩ : ∃ wq, wr.drewN nq = wq := ⟨_, rfl⟩
              rw [hwq]
              have hbq : Below wr.heap.size wr wq := by rw [← hwq]; exact below_drewN (Below.refl _ _) _
              have hinq := hin.out.keep hbq
              have HInq := Lib.hid hinq
              have Hbq := Lib.hid hbq
              clear hwq hinq hbq
              go_loop [6] (fun x => ∃ m : Nat, 1 ≤ m ∧ m ≤ t.size ∧ x = .int .i64 m ∧ Hid (∀ (j : Nat) b, j + 1 < m → ([] : Str)[j]? = some b → lowL.contains b = true)) (fun x => t.size - (intOf x).toNat)
              case atStart => exact ⟨1, Nat.le_refl _, hpos1, rfl, fun j b hj => absurd hj (by omega)⟩
              case round =>
                obtain ⟨m, hm1, hm2, rfl, hlow⟩ := hrel
                by_cases hlt : m < t.size
                · exact absurd hlt (by simp at hrl; omega)
                · have hw : wordLen true [] = m - 1 := wordLen_at [] (m - 1) (by simp at hrl ⊢; omega) (fun j b hj hb => hlow.out j b (by omega) hb) (fun b hb => by simp at hb)
                  have Hw := Lib.hid hw
                  clear hw
                  have hI3 : (m : Int) ≤ (t.size : Int) := by omega
                  have hI4 : (1 : Int) ≤ (m : Int) := by omega
                  have eA : L (t.extract 1 m) = ([] : Str).take (m - 1) := by
                    rw [L_extract, HLt.out]
                    obtain ⟨q, rfl⟩ : ∃ q, m = q + 1 := ⟨m - 1, by omega⟩
                    rfl
                  have eB : L (t.extract m t.size) = ([] : Str).drop (m - 1) := by
                    rw [L_extract, List.take_of_length_le (by rw [len_L]; exact Nat.le_refl _), HLt.out]
                    obtain ⟨q, rfl⟩ : ∃ q, m = q + 1 := ⟨m - 1, by omega⟩
                    rfl
                  have hpc : pieceS 36 ([] : Str) = placeS (kindOf true (L (t.extract 1 m))) (L (t.extract m t.size)) := by
                    rw [eA, eB, pieceS, if_neg (by simp), show ((36 : UInt8) == 36) = true from rfl, Hw.out]
                  have HPC := Lib.hid hpc
                  have HK := Lib.hid (Rkind_any (t.extract 1 m) wq)
                  have hks := HK1.out (L (t.extract 1 m))
                  generalize kindOf true (L (t.extract 1 m)) = K at *
                  have HK1 : Hid (K ≠ 1) := Lib.hid hks
                  have HPl := Lib.hid (fun (W : World) (hb : Below wr.heap.size wr W) => Rplace_any K (t.extract m t.size) W ((HE.out.keep hin.out.below HE.out.size).go hb) (by rw [size_extract]; omega))
                  clear hpc eA eB hks
                  go_wp2_with (go_at_call 216; refine HK.out.mono ?_; rintro e w1 ⟨rfl, hb1⟩; have hbk := bt Hbq.out hb1; clear hb1)
                  refine (HPl.out _ hbk).mono ?_
                  rintro e w2 ⟨p, r', ok, rfl, hb2, hpl⟩
                  unfold encP
                  have HB2 : Hid (Below wr.heap.size wr w2) := Lib.hid ((show Below wr.heap.size wr _ from by first | exact (Below.refl _ _).drew | exact Below.refl _ _ | exact below_drewN (Below.refl _ _) _ | exact (below_drewN (Below.refl _ _) _).drew | exact hbk).trans (hb2.mono (by first | exact Nat.le_refl _ | exact hbk.size)))
                  have HPl2 := Lib.hid (HPC.out.trans hpl)
                  clear hb2 hpl
                  cases ok
                  · have hres : parseR (L s) = ([], 90) := by rw [HR.out, HRd.out, if_pos (by decide), HPl2.out]; rfl
                    have HRes := Lib.hid hres
                    clear hres
                    go_wp2
                    go_ret2
                    exact ⟨.slice none 0 0, by rw [HRes.out]; rfl, by rw [HRes.out]; exact ⟨rfl, .inl ⟨rfl, rfl⟩⟩, (hin.out.below.trans (HB2.out.mono hin.out.below.size)).trans ((below_alloc w2 _).mono (Nat.le_trans hin.out.below.size HB2.out.size))⟩
                  · have hpc : pieceS 36 [] = some (p, L r') := HPl2.out
                    have hl1 := pieceS_len hpc
                    have hl2 := pieceS_len' hpc
                    rw [len_L] at hl1 hl2
                    have hk1 : p.kind ≠ 1 := place_ne1 (HPC.out.symm.trans hpc) HK1.out
                    have hin2 := (hin.out.keep HB2.out).keep (below_alloc w2 (.cells #[.int .i64 p.kind, .string p.text, .int .i64 p.word, .bool p.more] 241))
                    have HAd := Lib.hid (hin2.add p htz (by omega) (fun h => absurd h hk1))
                    have HIn2 := Lib.hid hin2
                    have HPC3 := Lib.hid hpc
                    have hrs : r'.size + 1 ≤ t.size := by omega
                    clear hpc hk1 hin2
                    go_wp2_with (go_at_call 215; refine HAd.out.mono ?_; rintro e w3 ⟨v', rfl, ho3, hb3⟩)
                    have hfin : RIn s w w3 r' (addP acc p) v' := HIn2.out.goOn ho3 hb3 htz (by omega) hrs ⟨n', by omega, by
                      have := HRd.out
                      rw [if_pos (by decide), HPC3.out] at this
                      exact this⟩
                    have HF := Lib.hid hfin
                    clear hfin ho3 hb3
                    go_roundg (gk - 1)
                    case measure => omega
                    case rel => exact ⟨_, _, rfl, by omega, by omega, HF.out⟩
            | cons d r2 =>
              have hlt1 : 1 < t.size := by simp at hrl; omega
              have ht1 := at1 HLt.out hlt1
              have hI2 : (2 : Int) ≤ (t.size : Int) := by omega
              have hI1 : (1 : Int) < (t.size : Int) := by omega
              have hI1' : decide ((1 : Int) < (t.size : Int)) = true := by simpa using hI1
              have hdc : d ≠ 36 := by simpa using hd
              have hq : ((t[1].toNat : Int) == (t[0].toNat : Int)) = false := by rw [ht0, ht1, toNat_eq]; simpa using hdc
              have HK1 : Hid (∀ x : Str, kindOf true x ≠ 1) := Lib.hid (fun x => kOf_ne1' _ x)
              have HDc := Lib.hid hdc
              clear ht0 hd hdc ht1
              go_wp2
              go_quiet (fail)
              go_wp2
              obtain ⟨wq, hwq⟩ : ∃ wq, wr.drewN nq = wq := ⟨_, rfl⟩
              rw [hwq]
              have hbq : Below wr.heap.size wr wq := by rw [← hwq]; exact below_drewN (Below.refl _ _) _
              have hinq := hin.out.keep hbq
              have HInq := Lib.hid hinq
              have Hbq := Lib.hid hbq
              clear hwq hinq hbq
              go_loop [6] (fun x => ∃ m : Nat, 1 ≤ m ∧ m ≤ t.size ∧ x = .int .i64 m ∧ Hid (∀ (j : Nat) b, j + 1 < m → (d :: r2 : Str)[j]? = some b → lowL.contains b = true)) (fun x => t.size - (intOf x).toNat)
              case atStart => exact ⟨1, Nat.le_refl _, hpos1, rfl, fun j b hj => absurd hj (by omega)⟩
              case round =>
                obtain ⟨m, hm1, hm2, rfl, hlow⟩ := hrel
                by_cases hlt : m < t.size
                · have hget : ((d :: r2) : Str)[m - 1]? = some t[m] := by
                    have h1 : (L t)[m]? = some t[m] := by rw [List.getElem?_eq_getElem (by rw [len_L]; exact hlt)]; rfl
                    have h2 : (36 :: d :: r2 : Str)[m]? = (d :: r2 : Str)[m - 1]? := by
                      cases m with
                      | zero => omega
                      | succ q => rfl
                    rw [← h2, ← HLt.out]
                    exact h1
                  have hlo := low_iff t[m]
                  by_cases hl : lowL.contains t[m] = true
                  · rw [hl] at hlo
                    obtain ⟨h97, h122⟩ : (97 : Int) ≤ (t[m].toNat : Int) ∧ (t[m].toNat : Int) ≤ 122 := by simpa using hlo.symm
                    have HG := Lib.hid hget
                    have HLw := Lib.hid hl
                    clear hlo hget hl
                    go_wp2
                    go_round
                    case rel => exact ⟨m + 1, by omega, by omega, by go_num, fun j b hj hb => by
                      rcases Nat.lt_or_ge (j + 1) m with h5 | h5
                      · exact hlow.out j b h5 hb
                      · obtain rfl : j = m - 1 := by omega
                        rw [HG.out] at hb
                        injection hb with hb
                        rw [← hb]; exact HLw.out⟩
                    case measure => simp [intOf]; omega
                  · have hl' : lowL.contains t[m] = false := by simpa using hl
                    have hw : wordLen true (d :: r2) = m - 1 := wordLen_at (d :: r2) (m - 1) (by simp at hrl ⊢; omega) (fun j b hj hb => hlow.out j b (by omega) hb) (fun b hb => by rw [hget] at hb; injection hb with hb; rw [← hb]; exact hl')
                    have Hw := Lib.hid hw
                    rw [hl'] at hlo
                    clear hget hl hl' hw
                    by_cases h97 : (97 : Int) ≤ (t[m].toNat : Int)
                    · have h122 : ¬ (t[m].toNat : Int) ≤ 122 := fun h => by simp [h97, h] at hlo
                      clear hlo
                      have hI3 : (m : Int) ≤ (t.size : Int) := by omega
                      have hI4 : (1 : Int) ≤ (m : Int) := by omega
                      have eA : L (t.extract 1 m) = (d :: r2).take (m - 1) := by
                        rw [L_extract, HLt.out]
                        obtain ⟨q, rfl⟩ : ∃ q, m = q + 1 := ⟨m - 1, by omega⟩
                        rfl
                      have eB : L (t.extract m t.size) = (d :: r2).drop (m - 1) := by
                        rw [L_extract, List.take_of_length_le (by rw [len_L]; exact Nat.le_refl _), HLt.out]
                        obtain ⟨q, rfl⟩ : ∃ q, m = q + 1 := ⟨m - 1, by omega⟩
                        rfl
                      have hpc : pieceS 36 (d :: r2) = placeS (kindOf true (L (t.extract 1 m))) (L (t.extract m t.size)) := by
                        rw [eA, eB, pieceS, if_neg (by simpa using HDc.out), show ((36 : UInt8) == 36) = true from rfl, Hw.out]
                      have HPC := Lib.hid hpc
                      have HK := Lib.hid (Rkind_any (t.extract 1 m) wq)
                      have hks := HK1.out (L (t.extract 1 m))
                      generalize kindOf true (L (t.extract 1 m)) = K at *
                      have HK1 : Hid (K ≠ 1) := Lib.hid hks
                      have HPl := Lib.hid (fun (W : World) (hb : Below wr.heap.size wr W) => Rplace_any K (t.extract m t.size) W ((HE.out.keep hin.out.below HE.out.size).go hb) (by rw [size_extract]; omega))
                      clear hpc eA eB hks
                      go_wp2_with (go_at_call 216; refine HK.out.mono ?_; rintro e w1 ⟨rfl, hb1⟩; have hbk := bt Hbq.out hb1; clear hb1)
                      refine (HPl.out _ hbk).mono ?_
                      rintro e w2 ⟨p, r', ok, rfl, hb2, hpl⟩
                      unfold encP
                      have HB2 : Hid (Below wr.heap.size wr w2) := Lib.hid ((show Below wr.heap.size wr _ from by first | exact (Below.refl _ _).drew | exact Below.refl _ _ | exact below_drewN (Below.refl _ _) _ | exact (below_drewN (Below.refl _ _) _).drew | exact hbk).trans (hb2.mono (by first | exact Nat.le_refl _ | exact hbk.size)))
                      have HPl2 := Lib.hid (HPC.out.trans hpl)
                      clear hb2 hpl
                      cases ok
                      · have hres : parseR (L s) = ([], 90) := by rw [HR.out, HRd.out, if_pos (by decide), HPl2.out]; rfl
                        have HRes := Lib.hid hres
                        clear hres
                        go_wp2
                        go_ret2
                        exact ⟨.slice none 0 0, by rw [HRes.out]; rfl, by rw [HRes.out]; exact ⟨rfl, .inl ⟨rfl, rfl⟩⟩, (hin.out.below.trans (HB2.out.mono hin.out.below.size)).trans ((below_alloc w2 _).mono (Nat.le_trans hin.out.below.size HB2.out.size))⟩
                      · have hpc : pieceS 36 (d :: r2) = some (p, L r') := HPl2.out
                        have hl1 := pieceS_len hpc
                        have hl2 := pieceS_len' hpc
                        rw [len_L] at hl1 hl2
                        have hk1 : p.kind ≠ 1 := place_ne1 (HPC.out.symm.trans hpc) HK1.out
                        have hin2 := (hin.out.keep HB2.out).keep (below_alloc w2 (.cells #[.int .i64 p.kind, .string p.text, .int .i64 p.word, .bool p.more] 241))
                        have HAd := Lib.hid (hin2.add p htz (by omega) (fun h => absurd h hk1))
                        have HIn2 := Lib.hid hin2
                        have HPC3 := Lib.hid hpc
                        have hrs : r'.size + 1 ≤ t.size := by omega
                        clear hpc hk1 hin2
                        go_wp2_with (go_at_call 215; refine HAd.out.mono ?_; rintro e w3 ⟨v', rfl, ho3, hb3⟩)
                        have hfin : RIn s w w3 r' (addP acc p) v' := HIn2.out.goOn ho3 hb3 htz (by omega) hrs ⟨n', by omega, by
                          have := HRd.out
                          rw [if_pos (by decide), HPC3.out] at this
                          exact this⟩
                        have HF := Lib.hid hfin
                        clear hfin ho3 hb3
                        go_roundg (gk - 1)
                        case measure => omega
                        case rel => exact ⟨_, _, rfl, by omega, by omega, HF.out⟩
                    · clear hlo
                      have hI3 : (m : Int) ≤ (t.size : Int) := by omega
                      have hI4 : (1 : Int) ≤ (m : Int) := by omega
                      have eA : L (t.extract 1 m) = (d :: r2).take (m - 1) := by
                        rw [L_extract, HLt.out]
                        obtain ⟨q, rfl⟩ : ∃ q, m = q + 1 := ⟨m - 1, by omega⟩
                        rfl
                      have eB : L (t.extract m t.size) = (d :: r2).drop (m - 1) := by
                        rw [L_extract, List.take_of_length_le (by rw [len_L]; exact Nat.le_refl _), HLt.out]
                        obtain ⟨q, rfl⟩ : ∃ q, m = q + 1 := ⟨m - 1, by omega⟩
                        rfl
                      have hpc : pieceS 36 (d :: r2) = placeS (kindOf true (L (t.extract 1 m))) (L (t.extract m t.size)) := by
                        rw [eA, eB, pieceS, if_neg (by simpa using HDc.out), show ((36 : UInt8) == 36) = true from rfl, Hw.out]
                      have HPC := Lib.hid hpc
                      have HK := Lib.hid (Rkind_any (t.extract 1 m) wq)
                      have hks := HK1.out (L (t.extract 1 m))
                      generalize kindOf true (L (t.extract 1 m)) = K at *
                      have HK1 : Hid (K ≠ 1) := Lib.hid hks
                      have HPl := Lib.hid (fun (W : World) (hb : Below wr.heap.size wr W) => Rplace_any K (t.extract m t.size) W ((HE.out.keep hin.out.below HE.out.size).go hb) (by rw [size_extract]; omega))
                      clear hpc eA eB hks
                      go_wp2_with (go_at_call 216; refine HK.out.mono ?_; rintro e w1 ⟨rfl, hb1⟩; have hbk := bt Hbq.out hb1; clear hb1)
                      refine (HPl.out _ hbk).mono ?_
                      rintro e w2 ⟨p, r', ok, rfl, hb2, hpl⟩
                      unfold encP
                      have HB2 : Hid (Below wr.heap.size wr w2) := Lib.hid ((show Below wr.heap.size wr _ from by first | exact (Below.refl _ _).drew | exact Below.refl _ _ | exact below_drewN (Below.refl _ _) _ | exact (below_drewN (Below.refl _ _) _).drew | exact hbk).trans (hb2.mono (by first | exact Nat.le_refl _ | exact hbk.size)))
                      have HPl2 := Lib.hid (HPC.out.trans hpl)
                      clear hb2 hpl
                      cases ok
                      · have hres : parseR (L s) = ([], 90) := by rw [HR.out, HRd.out, if_pos (by decide), HPl2.out]; rfl
                        have HRes := Lib.hid hres
                        clear hres
                        go_wp2
                        go_ret2
                        exact ⟨.slice none 0 0, by rw [HRes.out]; rfl, by rw [HRes.out]; exact ⟨rfl, .inl ⟨rfl, rfl⟩⟩, (hin.out.below.trans (HB2.out.mono hin.out.below.size)).trans ((below_alloc w2 _).mono (Nat.le_trans hin.out.below.size HB2.out.size))⟩
                      · have hpc : pieceS 36 (d :: r2) = some (p, L r') := HPl2.out
                        have hl1 := pieceS_len hpc
                        have hl2 := pieceS_len' hpc
                        rw [len_L] at hl1 hl2
                        have hk1 : p.kind ≠ 1 := place_ne1 (HPC.out.symm.trans hpc) HK1.out
                        have hin2 := (hin.out.keep HB2.out).keep (below_alloc w2 (.cells #[.int .i64 p.kind, .string p.text, .int .i64 p.word, .bool p.more] 241))
                        have HAd := Lib.hid (hin2.add p htz (by omega) (fun h => absurd h hk1))
                        have HIn2 := Lib.hid hin2
                        have HPC3 := Lib.hid hpc
                        have hrs : r'.size + 1 ≤ t.size := by omega
                        clear hpc hk1 hin2
                        go_wp2_with (go_at_call 215; refine HAd.out.mono ?_; rintro e w3 ⟨v', rfl, ho3, hb3⟩)
                        have hfin : RIn s w w3 r' (addP acc p) v' := HIn2.out.goOn ho3 hb3 htz (by omega) hrs ⟨n', by omega, by
                          have := HRd.out
                          rw [if_pos (by decide), HPC3.out] at this
                          exact this⟩
                        have HF := Lib.hid hfin
                        clear hfin ho3 hb3
                        go_roundg (gk - 1)
                        case measure => omega
                        case rel => exact ⟨_, _, rfl, by omega, by omega, HF.out⟩
                · have hw : wordLen true (d :: r2) = m - 1 := wordLen_at (d :: r2) (m - 1) (by simp at hrl ⊢; omega) (fun j b hj hb => hlow.out j b (by omega) hb) (fun b hb => by have := (List.getElem?_eq_some_iff.1 hb).1; simp at hrl this; omega)
                  have Hw := Lib.hid hw
                  clear hw
                  have hI3 : (m : Int) ≤ (t.size : Int) := by omega
                  have hI4 : (1 : Int) ≤ (m : Int) := by omega
                  have eA : L (t.extract 1 m) = (d :: r2).take (m - 1) := by
                    rw [L_extract, HLt.out]
                    obtain ⟨q, rfl⟩ : ∃ q, m = q + 1 := ⟨m - 1, by omega⟩
                    rfl
                  have eB : L (t.extract m t.size) = (d :: r2).drop (m - 1) := by
                    rw [L_extract, List.take_of_length_le (by rw [len_L]; exact Nat.le_refl _), HLt.out]
                    obtain ⟨q, rfl⟩ : ∃ q, m = q + 1 := ⟨m - 1, by omega⟩
                    rfl
                  have hpc : pieceS 36 (d :: r2) = placeS (kindOf true (L (t.extract 1 m))) (L (t.extract m t.size)) := by
                    rw [eA, eB, pieceS, if_neg (by simpa using HDc.out), show ((36 : UInt8) == 36) = true from rfl, Hw.out]
                  have HPC := Lib.hid hpc
                  have HK := Lib.hid (Rkind_any (t.extract 1 m) wq)
                  have hks := HK1.out (L (t.extract 1 m))
                  generalize kindOf true (L (t.extract 1 m)) = K at *
                  have HK1 : Hid (K ≠ 1) := Lib.hid hks
                  have HPl := Lib.hid (fun (W : World) (hb : Below wr.heap.size wr W) => Rplace_any K (t.extract m t.size) W ((HE.out.keep hin.out.below HE.out.size).go hb) (by rw [size_extract]; omega))
                  clear hpc eA eB hks
                  go_wp2_with (go_at_call 216; refine HK.out.mono ?_; rintro e w1 ⟨rfl, hb1⟩; have hbk := bt Hbq.out hb1; clear hb1)
                  refine (HPl.out _ hbk).mono ?_
                  rintro e w2 ⟨p, r', ok, rfl, hb2, hpl⟩
                  unfold encP
                  have HB2 : Hid (Below wr.heap.size wr w2) := Lib.hid ((show Below wr.heap.size wr _ from by first | exact (Below.refl _ _).drew | exact Below.refl _ _ | exact below_drewN (Below.refl _ _) _ | exact (below_drewN (Below.refl _ _) _).drew | exact hbk).trans (hb2.mono (by first | exact Nat.le_refl _ | exact hbk.size)))
                  have HPl2 := Lib.hid (HPC.out.trans hpl)
                  clear hb2 hpl
                  cases ok
                  · have hres : parseR (L s) = ([], 90) := by rw [HR.out, HRd.out, if_pos (by decide), HPl2.out]; rfl
                    have HRes := Lib.hid hres
                    clear hres
                    go_wp2
                    go_ret2
                    exact ⟨.slice none 0 0, by rw [HRes.out]; rfl, by rw [HRes.out]; exact ⟨rfl, .inl ⟨rfl, rfl⟩⟩, (hin.out.below.trans (HB2.out.mono hin.out.below.size)).trans ((below_alloc w2 _).mono (Nat.le_trans hin.out.below.size HB2.out.size))⟩
                  · have hpc : pieceS 36 (d :: r2) = some (p, L r') := HPl2.out
                    have hl1 := pieceS_len hpc
                    have hl2 := pieceS_len' hpc
                    rw [len_L] at hl1 hl2
                    have hk1 : p.kind ≠ 1 := place_ne1 (HPC.out.symm.trans hpc) HK1.out
                    have hin2 := (hin.out.keep HB2.out).keep (below_alloc w2 (.cells #[.int .i64 p.kind, .string p.text, .int .i64 p.word, .bool p.more] 241))
                    have HAd := Lib.hid (hin2.add p htz (by omega) (fun h => absurd h hk1))
                    have HIn2 := Lib.hid hin2
                    have HPC3 := Lib.hid hpc
                    have hrs : r'.size + 1 ≤ t.size := by omega
                    clear hpc hk1 hin2
                    go_wp2_with (go_at_call 215; refine HAd.out.mono ?_; rintro e w3 ⟨v', rfl, ho3, hb3⟩)
                    have hfin : RIn s w w3 r' (addP acc p) v' := HIn2.out.goOn ho3 hb3 htz (by omega) hrs ⟨n', by omega, by
                      have := HRd.out
                      rw [if_pos (by decide), HPC3.out] at this
                      exact this⟩
                    have HF := Lib.hid hfin
                    clear hfin ho3 hb3
                    go_roundg (gk - 1)
                    case measure => omega
                    case rel => exact ⟨_, _, rfl, by omega, by omega, HF.out⟩
        · have k36 : ((t[0].toNat : Int) == 36) = false := by rw [ht0]; decide
          have n36 : ((t[0].toNat : Int) != 36) = true := by rw [ht0]; decide
          have k37 : ((t[0].toNat : Int) == 37) = true := by rw [ht0]; decide
          have n37 : ((t[0].toNat : Int) != 37) = false := by rw [ht0]; decide
          by_cases hd : r.head? = some 37
          · obtain ⟨r2, rfl⟩ : ∃ r2, r = 37 :: r2 := by
              cases r with
              | nil => simp at hd
              | cons a b => simp at hd; exact ⟨b, by rw [hd]⟩
            have hlt1 : 1 < t.size := by simp at hrl; omega
            have ht1 := at1 HLt.out hlt1
            have hI2 : (2 : Int) ≤ (t.size : Int) := by omega
            have hI1 : (1 : Int) < (t.size : Int) := by omega
            have hI1' : decide ((1 : Int) < (t.size : Int)) = true := by simpa using hI1
            have hq : ((t[1].toNat : Int) == (t[0].toNat : Int)) = true := by rw [ht0, ht1]; decide
            have e2 := ext2 HLt.out
            have E2 := Lib.hid e2
            have HAd := Lib.hid (fun W (hb : Below wr.heap.size wr W) => (hin.out.keep hb).add (txt (bs [37])) htz (by show (bs [37]).size ≤ 256; rw [size_bs]; simp) (fun _ => rfl))
            clear hd ht0 ht1 e2
            go_wp2
            go_quiet (fail)
            go_wp2
            go_region_held3 (fun _ => True) (exact trivial) ((go_at_call 215; rw [E01.out]; refine (HAd.out _ (by first | exact (Below.refl _ _).drew | exact Below.refl _ _ | exact below_drewN (Below.refl _ _) _ | exact (below_drewN (Below.refl _ _) _).drew)).mono ?_; rintro e w2 ⟨v', rfl, ho2, hb2⟩))
            have hfin : RIn s w w2 (t.extract 2 t.size) (addP acc (txt (bs [37]))) v' := hin.out.goOn ho2 ((show Below w.heap.size wr _ from by first | exact (Below.refl _ _).drew | exact Below.refl _ _ | exact below_drewN (Below.refl _ _) _ | exact (below_drewN (Below.refl _ _) _).drew).trans hb2) htz (by rw [E2.out, size_bs]; show (bs [37]).size + r2.length ≤ t.size; rw [size_bs]; simp at hrl ⊢; omega) (by rw [E2.out, size_bs]; simp at hrl; omega) ⟨n', by rw [E2.out, size_bs]; simp at hn3; omega, by
              have := HRd.out
              rw [if_pos (by decide), show pieceS 37 (37 :: r2) = some (txt (bs [37]), r2) from by rw [pieceS, if_pos (show (37 :: r2 : Str).head? = some 37 from rfl)]; rfl] at this
              rw [this, E2.out, L_bs]⟩
            have HF := Lib.hid hfin
            have hz2 : (t.extract 2 t.size).size = r2.length := by rw [E2.out, size_bs]
            have hz3 : r2.length + 2 = t.size := by simp at hrl; omega
            clear hfin ho2 hb2
            go_wp2
            go_roundg (gk - 1)
            case measure => omega
            case rel => exact ⟨_, _, rfl, by omega, by omega, HF.out⟩
          · cases r with
            | nil =>
              have hI1' : decide ((1 : Int) < (t.size : Int)) = false := by simp at hrl; simp; omega
              have hI1 : ¬ ((1 : Int) < (t.size : Int)) := by simp at hrl; omega
              have hpc : pieceS 37 [] = placeS 0 (L (t.extract 1 t.size)) := by rw [E1.out, L_bs]; rfl
              have HPC := Lib.hid hpc
              have HPl := Lib.hid (fun (W : World) (hb : Below wr.heap.size wr W) => Rplace_any 0 (t.extract 1 t.size) W ((HE.out.keep hin.out.below HE.out.size).go hb) (by rw [E1.out, size_bs]; simp))
              have HK1 : Hid ((0 : Nat) ≠ 1) := Lib.hid (by decide)
              clear hd ht0 hpc
              go_wp2
              go_quiet (fail)
              go_wp2_with fail
              refine (HPl.out _ (by first | exact (Below.refl _ _).drew | exact Below.refl _ _ | exact below_drewN (Below.refl _ _) _)).mono ?_
              rintro e w2 ⟨p, r', ok, rfl, hb2, hpl⟩
              unfold encP
              have HB2 : Hid (Below wr.heap.size wr w2) := Lib.hid ((show Below wr.heap.size wr _ from by first | exact (Below.refl _ _).drew | exact Below.refl _ _ | exact below_drewN (Below.refl _ _) _ | exact (below_drewN (Below.refl _ _) _).drew | exact hbk).trans (hb2.mono (by first | exact Nat.le_refl _ | exact hbk.size)))
              have HPl2 := Lib.hid (HPC.out.trans hpl)
              clear hb2 hpl
              cases ok
              · have hres : parseR (L s) = ([], 90) := by rw [HR.out, HRd.out, if_pos (by decide), HPl2.out]; rfl
                have HRes := Lib.hid hres
                clear hres
                go_wp2
                go_ret2
                exact ⟨.slice none 0 0, by rw [HRes.out]; rfl, by rw [HRes.out]; exact ⟨rfl, .inl ⟨rfl, rfl⟩⟩, (hin.out.below.trans (HB2.out.mono hin.out.below.size)).trans ((below_alloc w2 _).mono (Nat.le_trans hin.out.below.size HB2.out.size))⟩
              · have hpc : pieceS 37 [] = some (p, L r') := HPl2.out
                have hl1 := pieceS_len hpc
                have hl2 := pieceS_len' hpc
                rw [len_L] at hl1 hl2
                have hk1 : p.kind ≠ 1 := place_ne1 (HPC.out.symm.trans hpc) HK1.out
                have hin2 := (hin.out.keep HB2.out).keep (below_alloc w2 (.cells #[.int .i64 p.kind, .string p.text, .int .i64 p.word, .bool p.more] 241))
                have HAd := Lib.hid (hin2.add p htz (by omega) (fun h => absurd h hk1))
                have HIn2 := Lib.hid hin2
                have HPC3 := Lib.hid hpc
                have hrs : r'.size + 1 ≤ t.size := by omega
                clear hpc hk1 hin2
                go_wp2_with (go_at_call 215; refine HAd.out.mono ?_; rintro e w3 ⟨v', rfl, ho3, hb3⟩)
                have hfin : RIn s w w3 r' (addP acc p) v' := HIn2.out.goOn ho3 hb3 htz (by omega) hrs ⟨n', by omega, by
                  have := HRd.out
                  rw [if_pos (by decide), HPC3.out] at this
                  exact this⟩
                have HF := Lib.hid hfin
                clear hfin ho3 hb3
                go_roundg (gk - 1)
                case measure => omega
                case rel => exact ⟨_, _, rfl, by omega, by omega, HF.out⟩
            | cons d r2 =>
              have hlt1 : 1 < t.size := by simp at hrl; omega
              have ht1 := at1 HLt.out hlt1
              have hI2 : (2 : Int) ≤ (t.size : Int) := by omega
              have hI1 : (1 : Int) < (t.size : Int) := by omega
              have hI1' : decide ((1 : Int) < (t.size : Int)) = true := by simpa using hI1
              have hdc : d ≠ 37 := by simpa using hd
              have hq : ((t[1].toNat : Int) == (t[0].toNat : Int)) = false := by rw [ht0, ht1, toNat_eq]; simpa using hdc
              have e2 := ext2 HLt.out
              have E2 := Lib.hid e2
              have HIx := Lib.hid (fun W => IndexByte_any ⟨#[32, 32, 107, 110, 112, 98, 100, 115, 69, 99, 80, 32]⟩ t[1] W)
              obtain ⟨K, hK⟩ : ∃ K, kindOf false [d] = K := ⟨_, rfl⟩
              have hpc : pieceS 37 (d :: r2) = placeS K (L (t.extract 2 t.size)) := by
                rw [E2.out, L_bs, pieceS, if_neg (by simpa using hdc), ← hK]
                have hw : wordLen ((37 : UInt8) == 36) (d :: r2) = 1 := by
                  rw [show ((37 : UInt8) == 36) = false from rfl]
                  unfold wordLen
                  rw [if_neg (by decide)]
                  simp
                rw [hw]; rfl
              have HPC := Lib.hid hpc
              have HPl := Lib.hid (fun (W : World) (hb : Below wr.heap.size wr W) => Rplace_any K (t.extract 2 t.size) W ((HE.out.keep hin.out.below HE.out.size).go hb) (by rw [E2.out, size_bs]; simp at hrl; omega))
              have hlet := letters_at d
              rw [hK] at hlet
              by_cases h32 : d = 32
              · have hK0 : K = 0 := hlet.1 h32
                subst hK0
                have HK1 : Hid ((0 : Nat) ≠ 1) := Lib.hid (by decide)
                have k32 : ((t[1].toNat : Int) == 32) = true := by rw [ht1, h32]; decide
                clear hd hdc ht0 hpc hlet h32 ht1 e2 hK
                go_wp2
                go_quiet (fail)
                go_wp2_with (go_at_call 160; refine (HIx.out _).mono ?_; rintro e w' ⟨rfl, rfl⟩)
                refine (HPl.out _ (by first | exact (Below.refl _ _).drew | exact Below.refl _ _ | exact below_drewN (Below.refl _ _) _)).mono ?_
                rintro e w2 ⟨p, r', ok, rfl, hb2, hpl⟩
                unfold encP
                have HB2 : Hid (Below wr.heap.size wr w2) := Lib.hid ((show Below wr.heap.size wr _ from by first | exact (Below.refl _ _).drew | exact Below.refl _ _ | exact below_drewN (Below.refl _ _) _ | exact (below_drewN (Below.refl _ _) _).drew | exact hbk).trans (hb2.mono (by first | exact Nat.le_refl _ | exact hbk.size)))
                have HPl2 := Lib.hid (HPC.out.trans hpl)
                clear hb2 hpl
                cases ok
                · have hres : parseR (L s) = ([], 90) := by rw [HR.out, HRd.out, if_pos (by decide), HPl2.out]; rfl
                  have HRes := Lib.hid hres
                  clear hres
                  go_wp2
                  go_ret2
                  exact ⟨.slice none 0 0, by rw [HRes.out]; rfl, by rw [HRes.out]; exact ⟨rfl, .inl ⟨rfl, rfl⟩⟩, (hin.out.below.trans (HB2.out.mono hin.out.below.size)).trans ((below_alloc w2 _).mono (Nat.le_trans hin.out.below.size HB2.out.size))⟩
                · have hpc : pieceS 37 (d :: r2) = some (p, L r') := HPl2.out
                  have hl1 := pieceS_len hpc
                  have hl2 := pieceS_len' hpc
                  rw [len_L] at hl1 hl2
                  have hk1 : p.kind ≠ 1 := place_ne1 (HPC.out.symm.trans hpc) HK1.out
                  have hin2 := (hin.out.keep HB2.out).keep (below_alloc w2 (.cells #[.int .i64 p.kind, .string p.text, .int .i64 p.word, .bool p.more] 241))
                  have HAd := Lib.hid (hin2.add p htz (by omega) (fun h => absurd h hk1))
                  have HIn2 := Lib.hid hin2
                  have HPC3 := Lib.hid hpc
                  have hrs : r'.size + 1 ≤ t.size := by omega
                  clear hpc hk1 hin2
                  go_wp2_with (go_at_call 215; refine HAd.out.mono ?_; rintro e w3 ⟨v', rfl, ho3, hb3⟩)
                  have hfin : RIn s w w3 r' (addP acc p) v' := HIn2.out.goOn ho3 hb3 htz (by omega) hrs ⟨n', by omega, by
                    have := HRd.out
                    rw [if_pos (by decide), HPC3.out] at this
                    exact this⟩
                  have HF := Lib.hid hfin
                  clear hfin ho3 hb3
                  go_roundg (gk - 1)
                  case measure => omega
                  case rel => exact ⟨_, _, rfl, by omega, by omega, HF.out⟩
              · have k32 : ((t[1].toNat : Int) == 32) = false := by rw [ht1, show (32 : Int) = ((32 : UInt8).toNat : Int) from rfl, toNat_eq]; simpa using h32
                have hK1 := hlet.2 h32
                have hix : ∃ ix : Int, Lib.indexByte (L ⟨#[32, 32, 107, 110, 112, 98, 100, 115, 69, 99, 80, 32]⟩) t[1] = ix ∧ ((ix = -1 ∧ K = 0) ∨ ∃ j : Nat, ix = j ∧ K = j) := by
                  refine ⟨_, rfl, ?_⟩
                  rw [ht1]
                  change (Lib.indexByte rletters d = -1 ∧ K = 0) ∨ ∃ j : Nat, Lib.indexByte rletters d = j ∧ K = j
                  have hge := Lib.indexByte_ge rletters d
                  generalize Lib.indexByte rletters d = ix at *
                  by_cases hn : ix < 0
                  · left; omega
                  · right; exact ⟨ix.toNat, by omega, by omega⟩
                obtain ⟨ix, hix1, hix2⟩ := hix
                have HIx2 := HIx.out
                rw [hix1] at HIx2
                have HIx3 := Lib.hid HIx2
                have HK1 : Hid (K ≠ 1) := Lib.hid (by rw [← hK]; exact kOf_ne1' _ _)
                clear hd hdc ht0 hpc hlet h32 ht1 e2 hK hix1 HIx HIx2 hK1
                rcases hix2 with ⟨rfl, rfl⟩ | ⟨j, rfl, rfl⟩
                · go_wp2
                  go_quiet (fail)
                  go_wp2_with (go_at_call 160; refine (HIx3.out _).mono ?_; rintro e w' ⟨rfl, rfl⟩)
                  refine (HPl.out _ (by first | exact (Below.refl _ _).drew | exact Below.refl _ _ | exact below_drewN (Below.refl _ _) _)).mono ?_
                  rintro e w2 ⟨p, r', ok, rfl, hb2, hpl⟩
                  unfold encP
                  have HB2 : Hid (Below wr.heap.size wr w2) := Lib.hid ((show Below wr.heap.size wr _ from by first | exact (Below.refl _ _).drew | exact Below.refl _ _ | exact below_drewN (Below.refl _ _) _ | exact (below_drewN (Below.refl _ _) _).drew | exact hbk).trans (hb2.mono (by first | exact Nat.le_refl _ | exact hbk.size)))
                  have HPl2 := Lib.hid (HPC.out.trans hpl)
                  clear hb2 hpl
                  cases ok
                  · have hres : parseR (L s) = ([], 90) := by rw [HR.out, HRd.out, if_pos (by decide), HPl2.out]; rfl
                    have HRes := Lib.hid hres
                    clear hres
                    go_wp2
                    go_ret2
                    exact ⟨.slice none 0 0, by rw [HRes.out]; rfl, by rw [HRes.out]; exact ⟨rfl, .inl ⟨rfl, rfl⟩⟩, (hin.out.below.trans (HB2.out.mono hin.out.below.size)).trans ((below_alloc w2 _).mono (Nat.le_trans hin.out.below.size HB2.out.size))⟩
                  · have hpc : pieceS 37 (d :: r2) = some (p, L r') := HPl2.out
                    have hl1 := pieceS_len hpc
                    have hl2 := pieceS_len' hpc
                    rw [len_L] at hl1 hl2
                    have hk1 : p.kind ≠ 1 := place_ne1 (HPC.out.symm.trans hpc) HK1.out
                    have hin2 := (hin.out.keep HB2.out).keep (below_alloc w2 (.cells #[.int .i64 p.kind, .string p.text, .int .i64 p.word, .bool p.more] 241))
                    have HAd := Lib.hid (hin2.add p htz (by omega) (fun h => absurd h hk1))
                    have HIn2 := Lib.hid hin2
                    have HPC3 := Lib.hid hpc
                    have hrs : r'.size + 1 ≤ t.size := by omega
                    clear hpc hk1 hin2
                    go_wp2_with (go_at_call 215; refine HAd.out.mono ?_; rintro e w3 ⟨v', rfl, ho3, hb3⟩)
                    have hfin : RIn s w w3 r' (addP acc p) v' := HIn2.out.goOn ho3 hb3 htz (by omega) hrs ⟨n', by omega, by
                      have := HRd.out
                      rw [if_pos (by decide), HPC3.out] at this
                      exact this⟩
                    have HF := Lib.hid hfin
                    clear hfin ho3 hb3
                    go_roundg (gk - 1)
                    case measure => omega
                    case rel => exact ⟨_, _, rfl, by omega, by omega, HF.out⟩
                · go_wp2
                  go_quiet (fail)
                  go_wp2_with (go_at_call 160; refine (HIx3.out _).mono ?_; rintro e w' ⟨rfl, rfl⟩)
                  refine (HPl.out _ (by first | exact (Below.refl _ _).drew | exact Below.refl _ _ | exact below_drewN (Below.refl _ _) _)).mono ?_
                  rintro e w2 ⟨p, r', ok, rfl, hb2, hpl⟩
                  unfold encP
                  have HB2 : Hid (Below wr.heap.size wr w2) := Lib.hid ((show Below wr.heap.size wr _ from by first | exact (Below.refl _ _).drew | exact Below.refl _ _ | exact below_drewN (Below.refl _ _) _ | exact (below_drewN (Below.refl _ _) _).drew | exact hbk).trans (hb2.mono (by first | exact Nat.le_refl _ | exact hbk.size)))
                  have HPl2 := Lib.hid (HPC.out.trans hpl)
                  clear hb2 hpl
                  cases ok
                  · have hres : parseR (L s) = ([], 90) := by rw [HR.out, HRd.out, if_pos (by decide), HPl2.out]; rfl
                    have HRes := Lib.hid hres
                    clear hres
                    go_wp2
                    go_ret2
                    exact ⟨.slice none 0 0, by rw [HRes.out]; rfl, by rw [HRes.out]; exact ⟨rfl, .inl ⟨rfl, rfl⟩⟩, (hin.out.below.trans (HB2.out.mono hin.out.below.size)).trans ((below_alloc w2 _).mono (Nat.le_trans hin.out.below.size HB2.out.size))⟩
                  · have hpc : pieceS 37 (d :: r2) = some (p, L r') := HPl2.out
                    have hl1 := pieceS_len hpc
                    have hl2 := pieceS_len' hpc
                    rw [len_L] at hl1 hl2
                    have hk1 : p.kind ≠ 1 := place_ne1 (HPC.out.symm.trans hpc) HK1.out
                    have hin2 := (hin.out.keep HB2.out).keep (below_alloc w2 (.cells #[.int .i64 p.kind, .string p.text, .int .i64 p.word, .bool p.more] 241))
                    have HAd := Lib.hid (hin2.add p htz (by omega) (fun h => absurd h hk1))
                    have HIn2 := Lib.hid hin2
                    have HPC3 := Lib.hid hpc
                    have hrs : r'.size + 1 ≤ t.size := by omega
                    clear hpc hk1 hin2
                    go_wp2_with (go_at_call 215; refine HAd.out.mono ?_; rintro e w3 ⟨v', rfl, ho3, hb3⟩)
                    have hfin : RIn s w w3 r' (addP acc p) v' := HIn2.out.goOn ho3 hb3 htz (by omega) hrs ⟨n', by omega, by
                      have := HRd.out
                      rw [if_pos (by decide), HPC3.out] at this
                      exact this⟩
                    have HF := Lib.hid hfin
                    clear hfin ho3 hb3
                    go_roundg (gk - 1)
                    case measure => omega
                    case rel => exact ⟨_, _, rfl, by omega, by omega, HF.out⟩
      · have hsg' : sign c = false := by simpa using hsg
        have h36 : ((t[0].toNat : Int) == 36) = false := by
          rw [ht0, show (36 : Int) = ((36 : UInt8).toNat : Int) from rfl, toNat_eq]
          unfold sign at hsg'
          simp only [Bool.or_eq_false_iff] at hsg'
          exact hsg'.1
        have h37 : ((t[0].toNat : Int) == 37) = false := by
          rw [ht0, show (37 : Int) = ((37 : UInt8).toNat : Int) from rfl, toNat_eq]
          unfold sign at hsg'
          simp only [Bool.or_eq_false_iff] at hsg'
          exact hsg'.2
        have h36' : ((t[0].toNat : Int) != 36) = true := by rw [bne, h36]; rfl
        have h37' : ((t[0].toNat : Int) != 37) = true := by rw [bne, h37]; rfl
        have HSg := Lib.hid hsg'
        have HAd := Lib.hid (hin.out.drew.add (txt (bs [c])) htz (by show (bs [c]).size ≤ 256; rw [size_bs]; simp) (fun _ => rfl))
        clear hsg hsg' ht0
        go_wp2
        go_region_held3 (fun _ => True) (exact trivial) ((go_at_call 215; rw [E01.out]; refine HAd.out.mono ?_; rintro e w2 ⟨v', rfl, ho2, hb2⟩))
        have hbs : (t.extract 1 t.size).size = r.length := by rw [E1.out, size_bs]
        have hfin : RIn s w w2 (t.extract 1 t.size) (addP acc (txt (bs [c]))) v' := hin.out.drew.goOn ho2 hb2 htz (by rw [hbs]; show (bs [c]).size + r.length ≤ t.size; rw [size_bs]; simp; omega) (by omega) ⟨n', by omega, by
          have := HRd.out
          rw [HSg.out] at this
          rw [this, E1.out, L_bs]; rfl⟩
        have HF := Lib.hid hfin
        clear hfin ho2 hb2
        go_wp2
        go_roundg (gk - 1)
        case measure => omega
        case rel => exact ⟨_, _, rfl, by omega, by omega, HF.out⟩
end Go.Proofs.YthcgkeiggnfgiaaGreatDoor
