/-
  A program stays where an elder block is written.
  The law CompileCandidates, walked.
-/
import Derived.Test.YtgdjknpdgajdgaaG10
import Derived.Test.YtgdjknpdgajdgaaKnown16
import Derived.Test.YtgdjknpdgajdgaaG17
import Derived.Test.YtgdjknpdgajdgaaWDev
namespace Go.Proofs.Ytgdjknpdgajdgaa
open Go.RowKit Go.Maps
/-- The memory as it was when there were but n blocks. -/
theorem cut_world {W : World} {n : Nat} (h : n ≤ W.heap.size) : ∃ wb : World, wb.heap.size = n ∧ Below wb.heap.size wb W := by
  have hs : (W.heap.extract 0 n).size = n := by simp; omega
  refine ⟨{ W with heap := W.heap.extract 0 n }, hs, rfl, rfl, rfl, by show (W.heap.extract 0 n).size ≤ _; omega, fun k hk => ?_⟩
  have hk' : k < n := by rw [← hs]; exact hk
  show W.heap[k]? = (W.heap.extract 0 n)[k]?
  rw [Array.getElem?_extract]
  simp
  omega
theorem Prg.tape {W W1 : World} {pb b : Nat} {ls : List (List Tm)} (h : Prg W pb ls) (hg : W.grownBy W1 (some b)) (hb : b + 1 < pb) : Prg W1 pb ls := by
  obtain ⟨wb, RV, vs, F, G, Lb, rfl, h⟩ := h
  have hm := h.mlt
  have hlo := h.lo
  have nb : ∀ {v : Value} {k : Nat} {e : TypeId} {m : Nat} {xs : List Value}, W.ownsRow (wb.heap.size + 2) e k v m xs → v.ownBlock = none ∨ v.ownBlock ≠ some b := fun {v _ _ _ _} ho => by
    cases hv : v.ownBlock with
    | none => exact Or.inl rfl
    | some g => right; intro e; have := (ho.lt g hv).1; injection e with e; omega
  obtain ⟨wc, hwc, hbc⟩ := cut_world (W := W1) (n := wb.heap.size) (by have := hg.size; omega)
  refine ⟨wc, RV, vs, F, G, Lb, by rw [hwc], ?_⟩
  refine ⟨hbc, ?_, ?_, ?_, ?_, ?_, ?_, ?_, h.d1, h.d2⟩ <;> rw [hwc]
  · exact Nat.le_trans hlo hg.size
  · exact (hg.block _ (blk_lt' h.box) (fun e => by injection e with e; omega)).trans h.box
  · exact h.fr.other hg (fun g e => Or.inl (by injection e with e; omega))
  · exact h.gr.kept hg (fun e => by injection e with e; omega) (h.gr.rowsAbove (fun j e => by injection e with e; omega))
  · exact h.ge.kept hg (nb h.ge)
  · exact h.la.kept hg (nb h.la)
  · exact h.sh.kept hg hm (fun e => by injection e with e; omega)
end Go.Proofs.Ytgdjknpdgajdgaa
namespace Go.Proofs.Ytgdjknpdgajdgaa
open Go.RowKit
/-- The law under way: the box of its device, the tape, the rules, the program, the devices' attributes. -/
structure LwS (w w0 : World) (n D : Nat) (d : Dv) (pb : Nat) (A : Option Addr) (rl : List Rl) (xs : List Dv) (W : World) : Prop where
  bel : Below w.heap.size w W
  st : TSt w0 (w.heap.size + 1) n 0 D W
  bx : W.heap[w.heap.size]? = some (.cells (encDv d).toArray 25 (0, 0))
  prg : Prg W pb (rl.map fun x => x.tms.l)
  far : w.heap.size + 1 + 1 < pb
  hr : RowOff W W.heap.size (some (w.heap.size + 1)) A 3 rl.length (cellsOf encRl rl)
  hi : InOff 4 encTm Rl.tms W W.heap.size (some (w.heap.size + 1)) rl
  ds : ∀ x ∈ xs, RowOff W W.heap.size (some (w.heap.size + 1)) x.ats.A 2 x.ats.l.length (cellsOf encAt x.ats.l)
  lo : w.heap.size + 1 < W.heap.size
section
variable {w w0 W W1 : World} {n D D' pb : Nat} {d x : Dv} {A : Option Addr} {rl : List Rl} {xs : List Dv}
theorem LwS.go (h : LwS w w0 n D d pb A rl xs W) (hb : Below W.heap.size W W1) : LwS w w0 n D d pb A rl xs W1 :=
  ⟨bt h.bel hb, h.st.below hb, (hb.block _ (blk_lt' h.bx)).trans h.bx, h.prg.keep hb, h.far, ⟨(h.hr.at_.keep hb).up hb.size, h.hr.off⟩, (h.hi.keep hb).up hb.size, fun x hx => ⟨((h.ds x hx).at_.keep hb).up hb.size, (h.ds x hx).off⟩, Nat.lt_of_lt_of_le h.lo hb.size⟩
theorem LwS.dev (h : LwS w w0 n D d pb A rl xs W) (hT : TNx w0 (w.heap.size + 1) n 0 D' W W1) (ha : DvAt W1 W1.heap.size x) (hf : ∀ a, x.ats.A = some a → W.heap.size ≤ a.block) : LwS w w0 n D' d pb A rl (xs ++ [x]) W1 := by
  have hs := hT.gr.size
  have hl := h.lo
  have hup : ∀ {A : Option Addr} {k m : Nat} {vs : List Value}, RowOff W W.heap.size (some (w.heap.size + 1)) A k m vs → RowOff W1 W1.heap.size (some (w.heap.size + 1)) A k m vs := fun {_ _ _ _} ho => ⟨(ho.at_.grown (Nat.le_refl _) hT.gr (fun h0 a e => ho.off h0 a e)).up hs, ho.off⟩
  refine ⟨h.bel.grown hT.gr (by have := h.bel.size; omega) (fun j e => by injection e with e; omega), hT.st, hT.blk h.bx (by omega), h.prg.tape hT.gr (by have := h.far; omega), h.far, hup h.hr, fun y hy => hup (h.hi y hy), fun y hy => ?_, by omega⟩
  rcases List.mem_append.1 hy with hy | hy
  · exact hup (h.ds y hy)
  · obtain rfl := List.mem_singleton.1 hy
    exact ⟨ha, fun _ a e e2 => by have := hf a e; injection e2 with e2; omega⟩
theorem LwS.cells (h : LwS w w0 n D d pb A rl xs W) : W.cell? ⟨w.heap.size, 0, none⟩ = some (.int .i64 d.ix) ∧ W.cell? ⟨w.heap.size, 1, none⟩ = some (.int .i64 d.pa) ∧ W.cell? ⟨w.heap.size, 2, none⟩ = some (.string d.nam) ∧ W.cell? ⟨w.heap.size, 3, none⟩ = some (.string d.og) ∧ W.cell? ⟨w.heap.size, 4, none⟩ = some (.string d.sb) ∧ W.cell? ⟨w.heap.size, 5, none⟩ = some (.string d.dr) ∧ W.cell? ⟨w.heap.size, 6, none⟩ = some (.string d.al) ∧ W.cell? ⟨w.heap.size, 7, none⟩ = some (.int .i64 d.kd) ∧ W.cell? ⟨w.heap.size, 8, none⟩ = some (.int .i64 d.nb) ∧ W.cell? ⟨w.heap.size, 9, none⟩ = some (.slice d.ats.A d.ats.l.length d.ats.c) :=
  ⟨cellOf h.bx rfl, cellOf h.bx rfl, cellOf h.bx rfl, cellOf h.bx rfl, cellOf h.bx rfl, cellOf h.bx rfl, cellOf h.bx rfl, cellOf h.bx rfl, cellOf h.bx rfl, cellOf h.bx rfl⟩
end
theorem candI_len (ls : List (List Tm)) (d : Dv) (h : ls.length ≤ 12) : (candI ls d).length ≤ 4000000 := by
  unfold candI idxS
  rw [List.length_map]
  refine Nat.le_trans (List.length_filter_le _ _) ?_
  rw [List.length_range]
  omega
theorem encDv_len (x : Dv) : (encDv x).length = 10 := rfl
theorem lsOk_of {rl : List Rl} (hl : rl.length ≤ 12) (hz : ∀ x ∈ rl, 1 ≤ x.tms.l.length ∧ x.tms.l.length ≤ 6 ∧ ∀ t ∈ x.tms.l, TmSmall 60 t) : LsOk (rl.map fun x => x.tms.l) := ⟨by rw [List.length_map]; omega, fun l hl => by
  obtain ⟨x, hx, rfl⟩ := List.mem_map.1 hl
  have h := hz x hx
  exact ⟨by omega, fun t ht => by have := (h.2.2 t ht).value; omega⟩⟩
set_option maxRecDepth 100000 in
set_option maxHeartbeats 8000000 in
theorem lawCands (TA : Option Addr) (n tc : Nat) (d : Dv) (w : World) (hI : ∀ W', Below w.heap.size w W' → 0 < W'.heap.size → IntsIn W' TA n) (ho : DvOk d) (ha : DvAt w w.heap.size d) :
    Calls Try.prog 3 #[.slice TA n tc, dvV d] w fun e w' => e = .returned (.bool true) ∧ Below w.heap.size w w' := by
  have HO := Lib.hid ho
  have HA := Lib.hid ha
  have HI := Lib.hid hI
  obtain ⟨wA, hwA⟩ : ∃ wA, w.alloc (.cells (encDv d).toArray 25) = wA := ⟨_, rfl⟩
  have hsA : wA.heap.size = w.heap.size + 1 := by rw [← hwA]; simp
  have hbA : Below w.heap.size w wA := by rw [← hwA]; exact below_alloc _ _
  have hbx : wA.heap[w.heap.size]? = some (.cells (encDv d).toArray 25 (0, 0)) := by rw [← hwA]; exact heap_alloc_new _ _
  have HWA := Lib.hid hwA
  have HBA := Lib.hid hbA
  have HBX := Lib.hid hbx
  have c9 : wA.cell? ⟨w.heap.size, 9, none⟩ = some (.slice d.ats.A d.ats.l.length d.ats.c) := cellOf hbx rfl
  clear ho ha hI hwA hbA hbx
  unfold dvV
  go_enter Try.func3, Try.ntmps3
  go_upto_region 1 with fail
  rw [show w.alloc (.cells #[.int .i64 d.ix, .int .i64 d.pa, .string d.nam, .string d.og, .string d.sb, .string d.dr, .string d.al, .int .i64 d.kd, .int .i64 d.nb, .slice d.ats.A d.ats.l.length d.ats.c] 25) = wA from HWA.out]
  by_cases hmany : (60 : Int) < (d.ats.l.length : Int)
  · go_wp2_with fail
    refine (known_any wA).mono ?_
    rintro e w2 ⟨rfl, hb2⟩
    go_wp2
    go_ret
    exact ⟨rfl, bt HBA.out hb2⟩
  · obtain ⟨wT, hwT⟩ : ∃ wT, wA.alloc (.cells #[.slice TA n tc, .int .i64 0] 29) = wT := ⟨_, rfl⟩
    have hT0 : TSt wT (w.heap.size + 1) n 0 0 wT := by rw [← hwT, ← hsA]; exact TSt.start ((HI.out wA HBA.out (by omega)).tape tc _)
    have hbT : Below wA.heap.size wA wT := by rw [← hwT]; exact below_alloc _ _
    have hsT : wT.heap.size = w.heap.size + 2 := by rw [← hwT]; simp; omega
    have HT0 := Lib.hid hT0
    have HBT := Lib.hid hbT
    have HWT := Lib.hid hwT
    have hWR := Rules_any (m := 12) hT0 (by omega) (by omega)
    rw [show ((12 : Nat) : Int) = 12 from rfl] at hWR
    have HWR := Lib.hid hWR
    clear hT0 hbT hwT hWR
    go_wp2_with fail
    clear c9
    rw [HWT.out]
    try rw [hsA]
    refine HWR.out.mono ?_
    rintro e w1 ⟨A, c, rl, rfl, hl, hz, hr, hi, hnx⟩
    have HLs := Lib.hid (lsOk_of hl hz)
    have HPn := Lib.hid (PNew_any A c rl w1 (by omega) (fun x hx => by have h := hz x hx; exact ⟨h.1, by omega, fun t ht => by have := (h.2.2 t ht).value; omega⟩) hr.at_ hi.at_)
    have HR1 := Lib.hid hr
    have HI1 := Lib.hid hi
    have HN1 := Lib.hid hnx
    clear hz hr hi hnx HWR HWT
    go_wp2_with fail
    refine HPn.out.mono ?_
    rintro e w2 ⟨pb, rfl, hP, hb2, hpb⟩
    have HL2 : Hid (LwS w wT n (0 + 1300) d pb A rl [d] w2) := Lib.hid (by
      have h1 := HN1.out.gr.size
      have hb1 : Below w.heap.size w w1 := (bt HBA.out HBT.out).grown HN1.out.gr (by omega) (fun j e => by injection e with e; omega)
      refine ⟨bt hb1 hb2, HN1.out.st.below hb2, ?_, hP, by omega, ⟨(HR1.out.at_.keep hb2).up hb2.size, HR1.out.off⟩, (HI1.out.keep hb2).up hb2.size, fun x hx => ?_, by have := hb2.size; omega⟩
      · have h2 := (HBT.out.block _ (by omega)).trans HBX.out
        have h3 := HN1.out.blk h2 (by omega)
        exact (hb2.block _ (blk_lt' h3)).trans h3
      · obtain rfl := List.mem_singleton.1 hx
        refine ⟨(HA.out.keep (bt hb1 hb2)).up (bt hb1 hb2).size, fun h0 a e e2 => ?_⟩
        obtain ⟨ba, off, e3, h4, _⟩ := HA.out.at_ h0
        rw [e3] at e
        injection e with e
        subst e
        injection e2 with e2
        have h5 : ba = w.heap.size + 1 := e2
        omega)
    clear hP hb2 HPn HR1 HI1 HN1
    go_wp2_with fail
    refine (known_any w2).mono ?_
    rintro e w3 ⟨rfl, hb3⟩
    obtain ⟨wd, hwd⟩ : ∃ wd, w3.drew = wd := ⟨_, rfl⟩
    have HLd : Hid (LwS w wT n (0 + 1300) d pb A rl [d] wd) := Lib.hid (by rw [← hwd]; exact (HL2.out.go hb3).go (Below.refl _ _).drew)
    have HWd := Lib.hid hwd
    clear hb3 hwd HL2
    go_upto_region 8 with fail
    go_region_held3 (fun W' => W'.cell? ⟨w.heap.size, 0, none⟩ = some (.int .i64 d.ix) ∧ W'.cell? ⟨w.heap.size, 1, none⟩ = some (.int .i64 d.pa) ∧ W'.cell? ⟨w.heap.size, 2, none⟩ = some (.string d.nam) ∧ W'.cell? ⟨w.heap.size, 3, none⟩ = some (.string d.og) ∧ W'.cell? ⟨w.heap.size, 4, none⟩ = some (.string d.sb) ∧ W'.cell? ⟨w.heap.size, 5, none⟩ = some (.string d.dr) ∧ W'.cell? ⟨w.heap.size, 6, none⟩ = some (.string d.al) ∧ W'.cell? ⟨w.heap.size, 7, none⟩ = some (.int .i64 d.kd) ∧ W'.cell? ⟨w.heap.size, 8, none⟩ = some (.int .i64 d.nb) ∧ W'.cell? ⟨w.heap.size, 9, none⟩ = some (.slice d.ats.A d.ats.l.length d.ats.c)) ((first | (rw [HWd.out]; exact HLd.out.cells) | exact HLd.out.cells | exact HLe.out.cells | exact HLf.out.cells | exact (HLf.out.go (below_alloc _ _)).cells)) ((first
      | (go_at_call 7; (with_reducible refine (Device_any (n := n) (p := 0) HLe.out.st (by omega)).mono ?_); rintro e wf ⟨x2, hs2, rfl, ha2, hn2, hf2⟩; have HLf := Lib.hid (HLe.out.dev hn2 ha2 hf2); have HS2 := Lib.hid hs2; clear hs2 ha2 hn2 hf2; unfold dvV)
      | (go_at_call 7; (try rw [HWd.out]); (with_reducible refine (Device_any (n := n) (p := 0) HLd.out.st (by omega)).mono ?_); rintro e we ⟨x1, hs1, rfl, ha1, hn1, hf1⟩; have HLe := Lib.hid (HLd.out.dev hn1 ha1 hf1); have HS1 := Lib.hid hs1; clear hs1 ha1 hn1 hf1; unfold dvV)))
    obtain ⟨w6, hw6⟩ : ∃ w6, wf.alloc (.cells #[.int .i64 d.ix, .int .i64 d.pa, .string d.nam, .string d.og, .string d.sb, .string d.dr, .string d.al, .int .i64 d.kd, .int .i64 d.nb, .slice d.ats.A d.ats.l.length d.ats.c, .int .i64 x1.ix, .int .i64 x1.pa, .string x1.nam, .string x1.og, .string x1.sb, .string x1.dr, .string x1.al, .int .i64 x1.kd, .int .i64 x1.nb, .slice x1.ats.A x1.ats.l.length x1.ats.c, .int .i64 x2.ix, .int .i64 x2.pa, .string x2.nam, .string x2.og, .string x2.sb, .string x2.dr, .string x2.al, .int .i64 x2.kd, .int .i64 x2.nb, .slice x2.ats.A x2.ats.l.length x2.ats.c] 25) = w6 := ⟨_, rfl⟩
    have hrow : RowAt w6 w6.heap.size (some ⟨wf.heap.size, 0, none⟩) 10 ([d] ++ [x1] ++ [x2]).length (cellsOf encDv ([d] ++ [x1] ++ [x2])) := by rw [← hw6]; exact row_of_cells (heap_alloc_new _ _) rfl rfl
    have HL6 : Hid (LwS w wT n (0 + 1300 + 40 + 40) d pb A rl ([d] ++ [x1] ++ [x2]) w6) := Lib.hid (by rw [← hw6]; exact HLf.out.go (below_alloc _ _))
    have HOk : Hid (∀ y ∈ [d] ++ [x1] ++ [x2], DvOk y) := Lib.hid fun y hy => by
      rcases List.mem_append.1 hy with hy | hy
      · rcases List.mem_append.1 hy with hy | hy
        · obtain rfl := List.mem_singleton.1 hy; exact HO.out
        · obtain rfl := List.mem_singleton.1 hy; exact HS1.out.ok
      · obtain rfl := List.mem_singleton.1 hy; exact HS2.out.ok
    have HXl : Hid (([d] ++ [x1] ++ [x2]).length = 3) := Lib.hid rfl
    rw [hw6]
    clear hw6 HLd HLe HLf HS1 HS2 HO HA HI HWd HBT HT0 HBA HBX HWA
    generalize [d] ++ [x1] ++ [x2] = xs at *
    obtain ⟨LA, hLA⟩ : ∃ LA : Option Addr, some ⟨wf.heap.size, 0, none⟩ = LA := ⟨_, rfl⟩
    rw [hLA] at hrow ⊢
    have HRow := Lib.hid hrow
    clear hLA hrow
    go_wp2_with fail
    go_loopg [9] 4 (fun gk s9 wr => ∃ k : Nat, s9 = .int .i64 k ∧ k + gk = 4 ∧ k ≤ 3 ∧ Hid (Below w6.heap.size w6 wr))
    case atStart => exact ⟨0, rfl, rfl, by omega, Below.refl _ _⟩
    case round =>
      obtain ⟨k, rfl, hkg, hk3, hB⟩ := hrel
      by_cases hlt : k < 3
      · have hltI : (k : Int) < 3 := by omega
        have hk' : k < xs.length := by rw [HXl.out]; exact hlt
        obtain ⟨ba, off, rfl, hba, hcc⟩ := HRow.out.cell encDv_len hk'
        obtain ⟨y, hy⟩ : ∃ y, xs[k]? = some y := ⟨_, List.getElem?_eq_getElem hk'⟩
        have hmem : y ∈ xs := List.mem_of_getElem? hy
        have HYo := Lib.hid (HOk.out y hmem)
        have HC : Hid (∀ W', Below w6.heap.size w6 W' → W'.cell? ⟨ba, off + k * 10, none⟩ = some (.int .i64 y.ix) ∧ W'.cell? ⟨ba, off + k * 10 + 1, none⟩ = some (.int .i64 y.pa) ∧ W'.cell? ⟨ba, off + k * 10 + 2, none⟩ = some (.string y.nam) ∧ W'.cell? ⟨ba, off + k * 10 + 3, none⟩ = some (.string y.og) ∧ W'.cell? ⟨ba, off + k * 10 + 4, none⟩ = some (.string y.sb) ∧ W'.cell? ⟨ba, off + k * 10 + 5, none⟩ = some (.string y.dr) ∧ W'.cell? ⟨ba, off + k * 10 + 6, none⟩ = some (.string y.al) ∧ W'.cell? ⟨ba, off + k * 10 + 7, none⟩ = some (.int .i64 y.kd) ∧ W'.cell? ⟨ba, off + k * 10 + 8, none⟩ = some (.int .i64 y.nb) ∧ W'.cell? ⟨ba, off + k * 10 + 9, none⟩ = some (.slice y.ats.A y.ats.l.length y.ats.c)) := Lib.hid fun W' hW => ⟨(hW.cell (p := ⟨ba, off + k * 10, none⟩) hba).trans (hcc k _ hy 0 _ rfl), (hW.cell (p := ⟨ba, off + k * 10 + 1, none⟩) hba).trans (hcc k _ hy 1 _ rfl), (hW.cell (p := ⟨ba, off + k * 10 + 2, none⟩) hba).trans (hcc k _ hy 2 _ rfl), (hW.cell (p := ⟨ba, off + k * 10 + 3, none⟩) hba).trans (hcc k _ hy 3 _ rfl), (hW.cell (p := ⟨ba, off + k * 10 + 4, none⟩) hba).trans (hcc k _ hy 4 _ rfl), (hW.cell (p := ⟨ba, off + k * 10 + 5, none⟩) hba).trans (hcc k _ hy 5 _ rfl), (hW.cell (p := ⟨ba, off + k * 10 + 6, none⟩) hba).trans (hcc k _ hy 6 _ rfl), (hW.cell (p := ⟨ba, off + k * 10 + 7, none⟩) hba).trans (hcc k _ hy 7 _ rfl), (hW.cell (p := ⟨ba, off + k * 10 + 8, none⟩) hba).trans (hcc k _ hy 8 _ rfl), (hW.cell (p := ⟨ba, off + k * 10 + 9, none⟩) hba).trans (hcc k _ hy 9 _ rfl)⟩
        have HLr := Lib.hid (HL6.out.go hB.out)
        have HBr := hB
        have HYa : Hid (∀ (W' : World) (D : Nat), LwS w wT n D d pb A rl xs W' → DvAt W' W'.heap.size y) := Lib.hid fun W' D h => (h.ds y hmem).at_
        clear hcc hy hmem hk' hba
        obtain ⟨wd, hwd⟩ : ∃ wd, wr.drew = wd := ⟨_, rfl⟩
        have hbd : Below wr.heap.size wr wd := by rw [← hwd]; exact (Below.refl _ _).drew
        have HLd := Lib.hid (HLr.out.go hbd)
        have HBd := Lib.hid (bt hB.out hbd)
        have HWd := Lib.hid hwd
        clear hbd hwd
        go_wp2_with fail
        go_region_held3 (fun W' => W'.cell? ⟨ba, off + k * 10, none⟩ = some (.int .i64 y.ix) ∧ W'.cell? ⟨ba, off + k * 10 + 1, none⟩ = some (.int .i64 y.pa) ∧ W'.cell? ⟨ba, off + k * 10 + 2, none⟩ = some (.string y.nam) ∧ W'.cell? ⟨ba, off + k * 10 + 3, none⟩ = some (.string y.og) ∧ W'.cell? ⟨ba, off + k * 10 + 4, none⟩ = some (.string y.sb) ∧ W'.cell? ⟨ba, off + k * 10 + 5, none⟩ = some (.string y.dr) ∧ W'.cell? ⟨ba, off + k * 10 + 6, none⟩ = some (.string y.al) ∧ W'.cell? ⟨ba, off + k * 10 + 7, none⟩ = some (.int .i64 y.kd) ∧ W'.cell? ⟨ba, off + k * 10 + 8, none⟩ = some (.int .i64 y.nb) ∧ W'.cell? ⟨ba, off + k * 10 + 9, none⟩ = some (.slice y.ats.A y.ats.l.length y.ats.c)) ((first | (rw [HWd.out]; exact HC.out _ HBd.out) | exact HC.out _ HBr.out | exact HC.out _ HBd.out | exact HC.out _ HBe.out | exact HC.out _ HBf.out | exact HC.out _ HBg.out)) ((first
          | (go_at_call 9; (try rw [HWd.out]); refine (PCand_any pb _ y wd HLd.out.prg HLs.out HYo.out (by have := HYo.out.sb; unfold maxLen; omega) (HYa.out _ _ HLd.out)).mono ?_; rintro e we ⟨A7, c7, rfl, hr7, hb7⟩; have HR7 := Lib.hid hr7; have HBe := Lib.hid (bt HBd.out hb7); have HLe := Lib.hid (HLd.out.go hb7); clear hr7 hb7)
          | (go_at_call 10; refine (RCands_any A c rl _ y we rfl HLs.out HLe.out.hr.at_ (fun z hz => (HLe.out.hi z hz).at_) HYo.out (HYa.out _ _ HLe.out)).mono ?_; rintro e wf ⟨A8, c8, rfl, hr8, hb8⟩; have HR8 := Lib.hid hr8; have HR78 := Lib.hid ((HR7.out.keep hb8).up hb8.size); have HBf := Lib.hid (bt HBe.out hb8); clear hr8 hb8)
          | (go_at_call 8; refine (SameInts_yes A7 A8 c7 c8 _ wf (candI_len _ _ (by rw [List.length_map]; omega)) HR78.out HR8.out).mono ?_; rintro e wg ⟨rfl, hb9⟩; have HBg := Lib.hid (bt HBf.out hb9); clear hb9)))
        go_wp2_with fail
        go_roundg (gk - 1)
        case measure => omega
        case rel => exact ⟨k + 1, by go_num, by omega, by omega, HBg.out⟩
      · obtain rfl : k = 3 := by omega
        go_wp2
        go_ret
        exact ⟨rfl, bt HL6.out.bel hB.out⟩
end Go.Proofs.Ytgdjknpdgajdgaa
