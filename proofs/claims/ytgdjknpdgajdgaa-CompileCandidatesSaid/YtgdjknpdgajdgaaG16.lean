/-
  Contracts of the reference's Candidate and Candidates.
  Contract of the reference's Candidates.
-/
import Derived.Test.YtgdjknpdgajdgaaCand
import Derived.Deep.RegionHeld3
import Derived.Test.YtgdjknpdgajdgaaRLink
namespace Go.Proofs.Ytgdjknpdgajdgaa
open Go.RowKit
theorem all_take {l : List Tm} {d : Dv} {k : Nat} (h : k < l.length) : (l.take (k + 1)).all (fun t => devB t d) = ((l.take k).all (fun t => devB t d) && devB l[k] d) := by
  rw [List.take_succ_eq_append_getElem h, List.all_append]
  simp
theorem all_no {l : List Tm} {d : Dv} {k : Nat} (h : k < l.length) (hd : devB l[k] d = false) : l.all (fun t => devB t d) = false := by
  rw [Bool.eq_false_iff]
  intro h1
  have := List.all_eq_true.1 h1 l[k] (List.getElem_mem _)
  rw [hd] at this; cases this
set_option maxRecDepth 100000 in
set_option maxHeartbeats 8000000 in
theorem RCandidate_any (A : Option Addr) (c : Nat) (l : List Tm) (d : Dv) (w : World) (hl : l.length ≤ 1000) (hz : ∀ t ∈ l, t.value.size ≤ 1000) (h : RowAt w w.heap.size A 4 l.length (cellsOf encTm l)) (hd : DvOk d) (ha : DvAt w w.heap.size d) :
    Calls Try.prog 30 #[.slice A l.length c, dvV d] w fun e w' => e = .returned (.bool (candS l d)) ∧ Below w.heap.size w w' := by
  have HFr := Lib.hid (fun (W : World) (hW : Below w.heap.size w W) => RFront_any A c l W hl ((h.keep hW).up hW.size))
  unfold FrontPost at HFr
  have HDv : Hid (∀ t ∈ frontS l, ∀ W, Below w.heap.size w W → Calls Try.prog 45 #[tmV t, dvV d] W fun e w' => e = .returned (.bool (devB t d)) ∧ Below W.heap.size W w') := Lib.hid fun t ht W hW => RDevice_any t d W (by have := hz t (frontS_sub _ t ht); omega) hd ((ha.keep hW).up hW.size)
  have hfl := frontS_len l
  have HC : Hid (candS l d = (frontS l).all fun t => devB t d) := Lib.hid rfl
  clear h hd ha hz
  obtain ⟨w1, hw1⟩ : ∃ w1, w.alloc (.cells #[.int .i64 d.ix, .int .i64 d.pa, .string d.nam, .string d.og, .string d.sb, .string d.dr, .string d.al, .int .i64 d.kd, .int .i64 d.nb, .slice d.ats.A d.ats.l.length d.ats.c] 25) = w1 := ⟨_, rfl⟩
  have hy1 : DvBox w1 w.heap.size d := by unfold DvBox; rw [← hw1]; exact heap_alloc_new _ _
  have hb1 : Below w.heap.size w w1 := by rw [← hw1]; exact below_alloc _ _
  have HY1 := Lib.hid hy1
  have HB1 := Lib.hid hb1
  have HW1 := Lib.hid hw1
  clear hw1 hy1 hb1
  unfold dvV at *
  generalize frontS l = fs at *
  generalize candS l d = R at *
  go_enter Try.func30, Try.ntmps30
  go_upto_region 1 with fail
  rw [HW1.out]
  go_wp2_with (go_at_call 44; refine (HFr.out _ HB1.out).mono ?_; rintro e w2 ⟨v, rfl, hown2, hb2⟩; obtain ⟨FA, fc, rfl⟩ := own_slice hown2; have HR2 := Lib.hid (RowAt.of_own hown2); have HB2 := Lib.hid hb2; have HY2 := Lib.hid (HY1.out.keep hb2); clear hown2 hb2)
  generalize hN : fs.length = N at *
  have HN := Lib.hid hN
  clear hN
  go_loopg [6] (N + 1) (fun gk s6 wr => ∃ k : Nat, s6 = .int .i64 k ∧ k + gk = N + 1 ∧ k ≤ N ∧ Hid ((fs.take k).all (fun t => devB t d) = true) ∧ Hid (Below w2.heap.size w2 wr))
  case atStart => exact ⟨0, rfl, by omega, Nat.zero_le _, rfl, Below.refl _ _⟩
  case round =>
    obtain ⟨k, rfl, hkg, hkN, hAl, hB⟩ := hrel
    obtain ⟨wo, rfl⟩ : ∃ wo : World, wo = wr := ⟨_, rfl⟩
    by_cases hlt : k < N
    · have hltI : (k : Int) < (N : Int) := by omega
      have hk2 : k < fs.length := by rw [HN.out]; exact hlt
      have HTm : Hid (∀ W, Below wo.heap.size wo W → ∃ ba off, FA = some ⟨ba, off, none⟩ ∧ W.cell? ⟨ba, off + k * 4, none⟩ = some (.int .i64 fs[k].key) ∧ W.cell? ⟨ba, off + k * 4 + 1, none⟩ = some (.string fs[k].name) ∧ W.cell? ⟨ba, off + k * 4 + 2, none⟩ = some (.int .i64 fs[k].op) ∧ W.cell? ⟨ba, off + k * 4 + 3, none⟩ = some (.string fs[k].value)) := Lib.hid fun W hW => by
        have hr := HR2.out
        rw [← HN.out] at hr
        exact hr.tm (bt hB.out hW) hk2
      have HDk := Lib.hid (fun W hW => HDv.out fs[k] (List.getElem_mem _) W hW)
      have HTk := Lib.hid (all_take (d := d) hk2)
      have HNo := Lib.hid (fun h => all_no (d := d) hk2 h)
      generalize fs[k] = t at *
      generalize devB t d = b at *
      obtain ⟨ky, nmm, op, vl⟩ := t
      unfold tmV at HDk
      dsimp only at HTm HDk
      obtain ⟨wd, hwd⟩ : ∃ wd, wo.drew = wd := ⟨_, rfl⟩
      have hbd : Below wo.heap.size wo wd := by rw [← hwd]; exact (Below.refl _ _).drew
      obtain ⟨ba, off, rfl, c0, c1, c2, c3⟩ := HTm.out wo (Below.refl _ _)
      have HYo := Lib.hid (HY2.out.keep hB.out)
      obtain ⟨d0, d1, d2, d3, d4, d5, d6, d7, d8, d9⟩ := HYo.out.cells
      have HSx : Hid (∀ W, Below wo.heap.size wo W → (W.cell? ⟨ba, off + k * 4, none⟩ = some (.int .i64 ky) ∧ W.cell? ⟨ba, off + k * 4 + 1, none⟩ = some (.string nmm) ∧ W.cell? ⟨ba, off + k * 4 + 2, none⟩ = some (.int .i64 op) ∧ W.cell? ⟨ba, off + k * 4 + 3, none⟩ = some (.string vl)) ∧ (W.cell? ⟨w.heap.size, 0, none⟩ = some (.int .i64 d.ix) ∧ W.cell? ⟨w.heap.size, 1, none⟩ = some (.int .i64 d.pa) ∧ W.cell? ⟨w.heap.size, 2, none⟩ = some (.string d.nam) ∧ W.cell? ⟨w.heap.size, 3, none⟩ = some (.string d.og) ∧ W.cell? ⟨w.heap.size, 4, none⟩ = some (.string d.sb) ∧ W.cell? ⟨w.heap.size, 5, none⟩ = some (.string d.dr) ∧ W.cell? ⟨w.heap.size, 6, none⟩ = some (.string d.al) ∧ W.cell? ⟨w.heap.size, 7, none⟩ = some (.int .i64 d.kd) ∧ W.cell? ⟨w.heap.size, 8, none⟩ = some (.int .i64 d.nb) ∧ W.cell? ⟨w.heap.size, 9, none⟩ = some (.slice d.ats.A d.ats.l.length d.ats.c))) := Lib.hid fun W hW => by
        obtain ⟨ba', off', e', y⟩ := HTm.out W hW
        obtain ⟨rfl, rfl⟩ : ba = ba' ∧ off = off' := by injection e' with e'; injection e' with h1 h2; exact ⟨h1, h2⟩
        exact ⟨y, (HYo.out.keep hW).cells⟩
      have HBo : Hid (Below w.heap.size w wo) := Lib.hid (bt (bt HB1.out HB2.out) hB.out)
      clear hwd hbd hk2
      go_wp2
      go_cut [20, 21] from 15 to 21 (fun s20 s21 wx => s20 = .bool b ∧ s21 = .bool (!b) ∧ Hid (Below wo.heap.size wo wx))
      case first =>
        go_region_held3 (fun W' => (W'.cell? ⟨ba, off + k * 4, none⟩ = some (.int .i64 ky) ∧ W'.cell? ⟨ba, off + k * 4 + 1, none⟩ = some (.string nmm) ∧ W'.cell? ⟨ba, off + k * 4 + 2, none⟩ = some (.int .i64 op) ∧ W'.cell? ⟨ba, off + k * 4 + 3, none⟩ = some (.string vl)) ∧ (W'.cell? ⟨w.heap.size, 0, none⟩ = some (.int .i64 d.ix) ∧ W'.cell? ⟨w.heap.size, 1, none⟩ = some (.int .i64 d.pa) ∧ W'.cell? ⟨w.heap.size, 2, none⟩ = some (.string d.nam) ∧ W'.cell? ⟨w.heap.size, 3, none⟩ = some (.string d.og) ∧ W'.cell? ⟨w.heap.size, 4, none⟩ = some (.string d.sb) ∧ W'.cell? ⟨w.heap.size, 5, none⟩ = some (.string d.dr) ∧ W'.cell? ⟨w.heap.size, 6, none⟩ = some (.string d.al) ∧ W'.cell? ⟨w.heap.size, 7, none⟩ = some (.int .i64 d.kd) ∧ W'.cell? ⟨w.heap.size, 8, none⟩ = some (.int .i64 d.nb) ∧ W'.cell? ⟨w.heap.size, 9, none⟩ = some (.slice d.ats.A d.ats.l.length d.ats.c))) ((refine HSx.out _ ?_; first | exact rdBDr (Below.refl _ _) | exact hB3)) ((go_at_call 45; refine (HDk.out _ (bt HBo.out (rdBDr (Below.refl _ _)))).mono ?_; rintro e w3 ⟨rfl, hb3⟩; (have hB3 : Below wo.heap.size wo w3 := bt (rdBDr (Below.refl _ _)) hb3)))
        all_goals
          go_wp2
          go_meet
          exact ⟨rfl, rfl, hB3⟩
      case rest =>
      obtain ⟨rfl, rfl, hb3⟩ := hcut
      cases b
      · have HE := Lib.hid (HNo.out rfl)
        go_wp2
        go_ret
        exact ⟨by rw [HC.out, HE.out]; rfl, bt HBo.out hb3.out⟩
      · have HA2 : Hid ((fs.take (k + 1)).all (fun t => devB t d) = true) := Lib.hid (by rw [HTk.out, hAl.out]; rfl)
        go_wp2
        go_roundg (gk - 1)
        case measure => omega
        case rel => exact ⟨k + 1, by go_num, by omega, by omega, HA2.out, bt hB.out hb3.out⟩
    · obtain rfl : k = N := by omega
      have HE : Hid (fs.all (fun t => devB t d) = true) := Lib.hid (by have := hAl.out; rw [← HN.out, List.take_length] at this; exact this)
      go_wp2
      go_ret
      exact ⟨by rw [HC.out, HE.out]; rfl, bt (bt HB1.out HB2.out) hB.out⟩
end Go.Proofs.Ytgdjknpdgajdgaa
namespace Go.Proofs.Ytgdjknpdgajdgaa
open Go.RowKit
theorem candI_take {ls : List (List Tm)} {d : Dv} {k : Nat} (h : k < ls.length) : candI (ls.take (k + 1)) d = if candS ls[k] d then candI (ls.take k) d ++ [(k : Int)] else candI (ls.take k) d := by
  unfold candI
  rw [take_snocL h, idxS_snoc, List.length_take, Nat.min_eq_left (Nat.le_of_lt h)]
  rfl
set_option maxRecDepth 100000 in
set_option maxHeartbeats 8000000 in
theorem RCands_any (A : Option Addr) (c : Nat) (l : List Rl) (ls : List (List Tm)) (d : Dv) (w : World) (hls : l.map (fun x => x.tms.l) = ls) (hok : LsOk ls) (h : RowAt w w.heap.size A 3 l.length (cellsOf encRl l)) (hi : InAt 4 encTm Rl.tms w w.heap.size l) (hd : DvOk d) (ha : DvAt w w.heap.size d) :
    Calls Try.prog 10 #[.slice A l.length c, dvV d] w (CandPost ls d w) := by
  have H := Lib.hid h
  have HI := Lib.hid hi
  have HLs := Lib.hid hls
  have HOk := Lib.hid hok
  have HCa : Hid (∀ x ∈ l, ∀ W, Below w.heap.size w W → Calls Try.prog 30 #[.slice x.tms.A x.tms.l.length x.tms.c, dvV d] W fun e w' => e = .returned (.bool (candS x.tms.l d)) ∧ Below W.heap.size W w') := Lib.hid fun x hx W hW => by
    obtain ⟨h1, h2⟩ := hok.tms x.tms.l (by rw [← hls]; exact List.mem_map_of_mem hx)
    exact RCandidate_any x.tms.A x.tms.c x.tms.l d W h1 h2 (((hi x hx).keep hW).up hW.size) hd ((ha.keep hW).up hW.size)
  have hN1 : l.length ≤ 1000 := by have := hok.len; rw [← hls, List.length_map] at this; exact this
  have HLl : Hid (ls.length = l.length) := Lib.hid (by rw [← hls, List.length_map])
  have HEnd : Hid (∀ (A : Option Addr) (c : Nat) (m : List Int) (W : World), m = candI ls d → RowAt W W.heap.size A 1 m.length (iV m) → Below w.heap.size w W → CandPost ls d w (.returned (.slice A m.length c)) W) := Lib.hid fun A c m W h1 h2 h3 => by
    subst h1
    exact ⟨A, c, rfl, h2, h3⟩
  generalize hPP : CandPost ls d w = P at *
  clear hPP h hi hls hok hd ha
  obtain ⟨i0, hi0, hz0, hz1, hz2⟩ := info_parts intInfo
  have Hi0 := Lib.hid hi0
  have Hz0 := Lib.hid hz0
  have Hz1 := Lib.hid hz1
  have Hz2 := Lib.hid hz2
  clear hi0 hz0 hz1 hz2
  obtain ⟨w1, hw1⟩ : ∃ w1, w.alloc (.cells #[.int .i64 d.ix, .int .i64 d.pa, .string d.nam, .string d.og, .string d.sb, .string d.dr, .string d.al, .int .i64 d.kd, .int .i64 d.nb, .slice d.ats.A d.ats.l.length d.ats.c] 25) = w1 := ⟨_, rfl⟩
  have hy1 : DvBox w1 w.heap.size d := by unfold DvBox; rw [← hw1]; exact heap_alloc_new _ _
  have hb1 : Below w.heap.size w w1 := by rw [← hw1]; exact below_alloc _ _
  have HY1 := Lib.hid hy1
  have HB1 := Lib.hid hb1
  have HW1 := Lib.hid hw1
  have hz1 : w1.heap.size = w.heap.size + 1 := by rw [← hw1]; simp
  clear hw1 hy1 hb1
  unfold dvV at *
  obtain ⟨N, hN⟩ : ∃ N, l.length = N := ⟨_, rfl⟩
  have HN := Lib.hid hN
  rw [hN] at hN1 HLl ⊢
  clear hN
  go_enter Try.func10, Try.ntmps10
  go_upto_region 1 with fail
  rw [HW1.out]
  go_wp2_with fail
  go_loopg [5, 6] (N + 1) (fun gk s5 s6 wr => ∃ (k : Nat) (B : Option Addr) (m : Nat) (ml : List Int), s5 = .slice B ml.length m ∧ s6 = .int .i64 k ∧ k + gk = N + 1 ∧ k ≤ N ∧ ml.length ≤ k ∧ Hid (ml = candI (ls.take k) d) ∧ Hid (wr.ownsRow w1.heap.size 3 1 (.slice B ml.length m) ml.length (iV ml)) ∧ Hid (Below w1.heap.size w1 wr))
  case atStart => exact ⟨0, none, 0, [], rfl, rfl, by omega, Nat.zero_le _, Nat.le_refl _, rfl, World.ownsRow_nil _ _ _ _, Below.refl _ _⟩
  case round =>
    obtain ⟨k, B, m, ml, rfl, rfl, hkg, hkN, hmk, hM, hO, hB⟩ := hrel
    obtain ⟨wo, rfl⟩ : ∃ wo : World, wo = wr := ⟨_, rfl⟩
    have hwz := hB.out.size
    by_cases hlt : k < N
    · have hltI : (k : Int) < (N : Int) := by omega
      have hk2 : k < l.length := by rw [HN.out]; exact hlt
      have HBo : Hid (Below w.heap.size w wo) := Lib.hid (bt HB1.out hB.out)
      have HRw : Hid (∀ W, Below wo.heap.size wo W → ∃ ba off, A = some ⟨ba, off, none⟩ ∧ W.cell? ⟨ba, off + k * 3, none⟩ = some (.string l[k].file) ∧ W.cell? ⟨ba, off + k * 3 + 1, none⟩ = some (.int .i64 l[k].line) ∧ W.cell? ⟨ba, off + k * 3 + 2, none⟩ = some (.slice l[k].tms.A l[k].tms.l.length l[k].tms.c)) := Lib.hid fun W hW => H.out.three encRl_len (bt HBo.out hW) hk2 _ _ _ rfl
      have HCk := Lib.hid (fun W hW => HCa.out l[k] (List.getElem_mem _) W hW)
      have HTk : Hid (candI (ls.take (k + 1)) d = if candS l[k].tms.l d then candI (ls.take k) d ++ [(k : Int)] else candI (ls.take k) d) := Lib.hid (by
        rw [candI_take (by rw [HLl.out]; exact hlt)]
        have : ls[k]'(by rw [HLl.out]; exact hlt) = l[k].tms.l := by simp [← HLs.out]
        rw [this])
      generalize l[k] = y at *
      obtain ⟨yf, yl, yA, yc, yt⟩ := y
      dsimp only at HRw HCk HTk
      generalize candS yt d = b at *
      obtain ⟨ba, off, rfl, c0, c1, c2⟩ := HRw.out wo (Below.refl _ _)
      have HYo := Lib.hid (HY1.out.keep hB.out)
      obtain ⟨d0, d1, d2, d3, d4, d5, d6, d7, d8, d9⟩ := HYo.out.cells
      have HSx : Hid (∀ W, Below wo.heap.size wo W → W.cell? ⟨ba, off + k * 3 + 2, none⟩ = some (.slice yA yt.length yc) ∧ (W.cell? ⟨w.heap.size, 0, none⟩ = some (.int .i64 d.ix) ∧ W.cell? ⟨w.heap.size, 1, none⟩ = some (.int .i64 d.pa) ∧ W.cell? ⟨w.heap.size, 2, none⟩ = some (.string d.nam) ∧ W.cell? ⟨w.heap.size, 3, none⟩ = some (.string d.og) ∧ W.cell? ⟨w.heap.size, 4, none⟩ = some (.string d.sb) ∧ W.cell? ⟨w.heap.size, 5, none⟩ = some (.string d.dr) ∧ W.cell? ⟨w.heap.size, 6, none⟩ = some (.string d.al) ∧ W.cell? ⟨w.heap.size, 7, none⟩ = some (.int .i64 d.kd) ∧ W.cell? ⟨w.heap.size, 8, none⟩ = some (.int .i64 d.nb) ∧ W.cell? ⟨w.heap.size, 9, none⟩ = some (.slice d.ats.A d.ats.l.length d.ats.c))) := Lib.hid fun W hW => by
        obtain ⟨ba', off', e', _, _, y2⟩ := HRw.out W hW
        obtain ⟨rfl, rfl⟩ : ba = ba' ∧ off = off' := by injection e' with e'; injection e' with h1 h2; exact ⟨h1, h2⟩
        exact ⟨y2, (HYo.out.keep hW).cells⟩
      clear hk2
      go_wp2
      go_cut [19] from 13 to 19 (fun s19 wx => s19 = .bool b ∧ Hid (Below wo.heap.size wo wx))
      case first =>
        go_region_held3 (fun W' => W'.cell? ⟨ba, off + k * 3 + 2, none⟩ = some (.slice yA yt.length yc) ∧ (W'.cell? ⟨w.heap.size, 0, none⟩ = some (.int .i64 d.ix) ∧ W'.cell? ⟨w.heap.size, 1, none⟩ = some (.int .i64 d.pa) ∧ W'.cell? ⟨w.heap.size, 2, none⟩ = some (.string d.nam) ∧ W'.cell? ⟨w.heap.size, 3, none⟩ = some (.string d.og) ∧ W'.cell? ⟨w.heap.size, 4, none⟩ = some (.string d.sb) ∧ W'.cell? ⟨w.heap.size, 5, none⟩ = some (.string d.dr) ∧ W'.cell? ⟨w.heap.size, 6, none⟩ = some (.string d.al) ∧ W'.cell? ⟨w.heap.size, 7, none⟩ = some (.int .i64 d.kd) ∧ W'.cell? ⟨w.heap.size, 8, none⟩ = some (.int .i64 d.nb) ∧ W'.cell? ⟨w.heap.size, 9, none⟩ = some (.slice d.ats.A d.ats.l.length d.ats.c))) ((refine HSx.out _ ?_; first | exact rdBDr (Below.refl _ _) | exact hB3)) ((go_at_call 30; refine (HCk.out _ (bt HBo.out (rdBDr (Below.refl _ _)))).mono ?_; rintro e w3 ⟨rfl, hb3⟩; (have hB3 : Below wo.heap.size wo w3 := bt (rdBDr (Below.refl _ _)) hb3)))
        all_goals
          go_wp2
          go_meet
          exact ⟨rfl, hB3⟩
      case rest =>
      obtain ⟨rfl, hb3⟩ := hcut
      have HO3 := Lib.hid (own_below2 hO.out hb3.out)
      have HB3 := Lib.hid (bt hB.out hb3.out)
      have hz3 := HB3.out.size
      cases b
      · have HM2 : Hid (ml = candI (ls.take (k + 1)) d) := Lib.hid (by rw [HTk.out, if_neg (by simp)]; exact hM.out)
        go_wp2
        go_roundg (gk - 1)
        case measure => omega
        case rel => exact ⟨k + 1, B, m, ml, rfl, by go_num, by omega, by omega, by omega, HM2.out, HO3.out, HB3.out⟩
      · have HM2 : Hid (ml ++ [(k : Int)] = candI (ls.take (k + 1)) d) := Lib.hid (by rw [HTk.out, if_pos rfl, hM.out])
        go_wp2_with (at_builtin; go_loud (refine wpList_append_lies _ rfl _ _ _ (by rfl) w1.heap.size 3 i0 _ 1 8 Try.underlying22 Hi0.out Hz0.out Hz1.out Hz2.out rfl (by omega) (.slice B ml.length m) ml.length (iV ml) (by rfl) (HO3.out.alloc _) _ 1 1 [.int .i64 k] (by rfl) (by rfl) (by exact World.news_of_block (heap_alloc_new _ _)) (by simp [Value.oneCell']) (by omega) (by unfold maxLen; omega) (by omega) (by simp; omega) _ rfl ?_; intro g9 cap9 w9 hown9 hgrow9 hat9 hlt9; have HO9 := Lib.hid hown9; have HB9 : Hid (Below w1.heap.size w1 w9) := Lib.hid ((bt HB3.out (below_alloc _ _)).grown hgrow9 (bt HB3.out (below_alloc _ _)).size (fun j e => (HO3.out.lt j e).1)); clear hown9 hgrow9 hat9 hlt9))
        go_roundg (gk - 1)
        case measure => omega
        case rel => exact ⟨k + 1, _, _, ml ++ [(k : Int)], by rw [List.length_append]; rfl, by go_num, by omega, by omega, by simp; omega, HM2.out, by rw [List.length_append, iV_app]; exact HO9.out, HB9.out⟩
    · obtain rfl : k = N := by omega
      have HE : Hid (ml = candI ls d) := Lib.hid (by have := hM.out; rw [← HLl.out, List.take_length] at this; exact this)
      go_wp2
      exact HEnd.out _ _ _ _ HE.out (RowAt.of_own hO.out) (bt HB1.out hB.out)
end Go.Proofs.Ytgdjknpdgajdgaa
