/-
  Contract of compile's New.
-/
import Derived.Test.YtgdjknpdgajdgaaG10
import Derived.Test.YtgdjknpdgajdgaaCopied
import Derived.Test.YtgdjknpdgajdgaaPKey
import Derived.Test.YtgdjknpdgajdgaaG12
import Derived.Deep.RegionHeld3
namespace Go.Proofs.Ytgdjknpdgajdgaa
open Go.RowKit Go.Maps
theorem slTInfo : (Try.prog.info? 44).map (fun i => (i.zero, i.size, i.bytes)) = some (some (.slice none 0 0), 1, 24) := by kernel_rfl
theorem res3 {W : World} {g : Nat} {T : TypeId} {x0 x1 x2 : Value} (h : W.heap[g]? = some (.cells #[x0, x1, x2] T (0, 0))) : W.cell? ⟨g, 0, none⟩ = some x0 ∧ W.cell? ⟨g, 1, none⟩ = some x1 ∧ W.cell? ⟨g, 2, none⟩ = some x2 := ⟨cellOf h rfl, cellOf h rfl, cellOf h rfl⟩
theorem box5 {W : World} {g : Nat} {T : TypeId} {x0 x1 x2 x3 x4 : Value} (h : W.heap[g]? = some (.cells #[x0, x1, x2, x3, x4] T (0, 0))) : (W.cell? ⟨g, 0, none⟩ = some x0 ∧ W.cell? ⟨g, 1, none⟩ = some x1 ∧ W.cell? ⟨g, 2, none⟩ = some x2 ∧ W.cell? ⟨g, 3, none⟩ = some x3 ∧ W.cell? ⟨g, 4, none⟩ = some x4) ∧ ∀ j, W.frozen? ⟨g, j, none⟩ = false :=
  ⟨⟨cellOf h rfl, cellOf h rfl, cellOf h rfl, cellOf h rfl, cellOf h rfl⟩, fun _j => frozen_of_row _ _ _ _ _ h⟩
theorem own_one {W : World} {base k n : Nat} {e : TypeId} {v : Value} {xs : List Value} (h : W.ownsRow base e k v n xs) : v.oneCell' = true := by
  obtain ⟨A, c, rfl⟩ := own_slice h
  rfl
set_option maxRecDepth 100000 in
set_option maxHeartbeats 8000000 in
theorem PNew_any (A : Option Addr) (c : Nat) (l : List Rl) (w : World) (hl : l.length ≤ 1000) (hz : ∀ x ∈ l, 1 ≤ x.tms.l.length ∧ x.tms.l.length ≤ 1000 ∧ ∀ t ∈ x.tms.l, t.value.size ≤ 1000) (h : RowAt w w.heap.size A 3 l.length (cellsOf encRl l)) (hi : InAt 4 encTm Rl.tms w w.heap.size l) :
    Calls Try.prog 6 #[.slice A l.length c] w (NewPost (l.map fun x => x.tms.l) w) := by
  have HCo := Lib.hid (Copied_any A c l w hl (fun x hx => ⟨(hz x hx).1, (hz x hx).2.1⟩) h hi)
  unfold CopPost at HCo
  have HZ := Lib.hid hz
  have HLn : Hid (l.length ≤ 1000) := Lib.hid hl
  have hmm := @run_makeMap Try.prog
  obtain ⟨i0, hi0, hz0, hz1, hz2⟩ := info_parts intInfo
  have Hi0 := Lib.hid hi0
  have Hz0 := Lib.hid hz0
  have Hz1 := Lib.hid hz1
  have Hz2 := Lib.hid hz2
  obtain ⟨j0, hj0, hy0, hy1, hy2⟩ := info_parts slTInfo
  have Hj0 := Lib.hid hj0
  have Hy0 := Lib.hid hy0
  have Hy1 := Lib.hid hy1
  have Hy2 := Lib.hid hy2
  clear h hi hz hl hi0 hz0 hz1 hz2 hj0 hy0 hy1 hy2
  generalize hP : NewPost (l.map fun x => x.tms.l) w = P at *
  have HEnd : Hid (∀ pb W, Prg W pb (l.map fun x => x.tms.l) → Below w.heap.size w W → w.heap.size < pb → P (.returned (.pointer (some ⟨pb, 0, none⟩))) W) := Lib.hid fun pb W h1 h2 h3 => by rw [← hP]; exact ⟨pb, rfl, h1, h2, h3⟩
  clear hP
  go_enter Try.func6, Try.ntmps6
  go_wp2_with (go_at_call 17; refine HCo.out.mono ?_; rintro e wb ⟨A1, c1, l2, rfl, hp, hr, hi, hb1⟩; have HP2 := Lib.hid hp; have HR := Lib.hid hr; have HI := Lib.hid hi; have HB1 := Lib.hid hb1; clear hp hr hi hb1)
  obtain ⟨ls, hls⟩ : ∃ ls, (l.map fun x => x.tms.l) = ls := ⟨_, rfl⟩
  have HLs : Hid (l2.map (fun x => x.tms.l) = ls) := Lib.hid (by
    rw [← hls]
    have := congrArg (List.map Rp.tms) HP2.out
    rw [List.map_map, List.map_map] at this
    exact this)
  have HZ2 : Hid (∀ x ∈ ls, 1 ≤ x.length ∧ x.length ≤ 1000 ∧ ∀ t ∈ x, t.value.size ≤ 1000) := Lib.hid fun x hx => by
    rw [← hls] at hx
    obtain ⟨y, hy, rfl⟩ := List.mem_map.1 hx
    exact HZ.out y hy
  rw [hls] at HEnd
  have hN1 : l2.length ≤ 1000 := by
    have h1 := congrArg List.length HP2.out
    rw [List.length_map, List.length_map] at h1
    have := HLn.out
    omega
  have HLl : Hid (ls.length = l2.length) := Lib.hid (by rw [← HLs.out, List.length_map])
  clear hls HLn HP2 HCo
  obtain ⟨RV, hRV⟩ : ∃ RV, Value.slice A1 l2.length c1 = RV := ⟨_, rfl⟩
  have hstart : NewSt wb (.slice A1 l2.length c1) [] [] (.slice none 0 0) 0 (.map []) (.slice none 0 0) [] (.slice none 0 0) [] ((wb.alloc (.map #[] 0)).alloc (.cells #[.slice A1 l2.length c1, .slice none 0 0, .map (some wb.heap.size), .slice none 0 0, .slice none 0 0] 60)) :=
    NewSt.start (by rw [heap_alloc_old _ _ (by simp)]; exact heap_alloc_new _ _) (by have := heap_alloc_new (wb.alloc (.map #[] 0)) (.cells #[.slice A1 l2.length c1, .slice none 0 0, .map (some wb.heap.size), .slice none 0 0, .slice none 0 0] 60); simpa using this) (bt (below_alloc _ _) (below_alloc _ _)) (by simp)
  have HSta := Lib.hid hstart
  clear hstart
  rw [hRV] at HSta
  have HRV := Lib.hid hRV
  clear hRV
  go_loopg [19] (l2.length + 1) (fun gk s19 wr => ∃ (k : Nat) (vs : List Value) (F G Lb : Value), s19 = .int .i64 k ∧ k + gk = l2.length + 1 ∧ k ≤ l2.length ∧ Hid (NewSt wb RV ((ls.take k).map frontS) vs F k (grpD (ksS (ls.take k))) G (genS (ls.take k)) Lb (labS (ls.take k)) wr))
  case atStart => exact ⟨0, [], .slice none 0 0, .slice none 0 0, .slice none 0 0, rfl, by omega, Nat.zero_le _, by first | exact HSta.out | (rw [HRV.out]; exact HSta.out)⟩
  case round =>
    obtain ⟨k, vs, F, G, Lb, rfl, hkg, hkN, hS⟩ := hrel
    obtain ⟨wo, rfl⟩ : ∃ wo : World, wo = wr := ⟨_, rfl⟩
    obtain ⟨FA, fc, rfl⟩ := own_slice hS.out.fr.outer
    obtain ⟨GA, gc, rfl⟩ := own_slice hS.out.ge
    obtain ⟨LA, lc, rfl⟩ := own_slice hS.out.la
    by_cases hlt : k < l2.length
    · have hltI : (k : Int) < (l2.length : Int) := by omega
      have hkl : k < ls.length := by rw [HLl.out]; exact hlt
      have hlo := hS.out.lo
      obtain ⟨ba, off, rfl, d0, d1, d2⟩ := HR.out.three encRl_len hS.out.bel hlt _ _ _ rfl
      have hin := HI.out l2[k] (List.getElem_mem _)
      have hz := HZ2.out l2[k].tms.l (by rw [← HLs.out]; exact List.mem_map_of_mem (List.getElem_mem _))
      have HTk : Hid (ls.take (k + 1) = ls.take k ++ [l2[k].tms.l]) := Lib.hid (by rw [take_snocL hkl]; congr 2; simp [← HLs.out])
      have HTl : Hid ((ls.take k).length = k) := Lib.hid (by rw [List.length_take]; omega)
      generalize l2[k] = y at *
      obtain ⟨yf, yl, yA, yc, yt⟩ := y
      dsimp only at d0 d1 d2 hin hz HTk
      obtain ⟨w1, hw1⟩ : ∃ w1, wo.alloc (.cells #[.string yf, .int .i64 yl, .slice yA yt.length yc] 46) = w1 := ⟨_, rfl⟩
      have hB1 : Below wo.heap.size wo w1 := by rw [← hw1]; exact below_alloc _ _
      have hx : w1.heap[wo.heap.size]? = some (.cells #[.string yf, .int .i64 yl, .slice yA yt.length yc] 46 (0, 0)) := by rw [← hw1]; exact heap_alloc_new _ _
      have hs1 : w1.heap.size = wo.heap.size + 1 := by rw [← hw1]; simp
      have hY1 := (hin.keep (bt hS.out.bel hB1)).up (bt hS.out.bel hB1).size
      have HFr := Lib.hid (PFront_any yf yl yA yc yt w1 (by omega) hY1)
      unfold FrontPost at HFr
      have HS1 := Lib.hid (hS.out.go hB1)
      have HX := Lib.hid hx
      have HBw1 := Lib.hid hB1
      have HY1 := Lib.hid hY1
      have HW1 := Lib.hid hw1
      have HZy := Lib.hid hz
      have HIn : Hid (∀ W, Below wb.heap.size wb W → RowAt W W.heap.size yA 4 yt.length (cellsOf encTm yt)) := Lib.hid fun W hW => (hin.keep hW).up hW.size
      have hfl := HS1.out.fr.len
      rw [List.length_map, HTl.out] at hfl
      have HFl := Lib.hid hfl
      have hvl : vs.length ≤ 1000 := by omega
      clear hfl
      obtain ⟨e0, e1, e2⟩ := res3 hx
      clear hin hB1 hx hw1 hkl hY1 hz
      go_upto_region 5 with fail
      rw [HW1.out]
      go_upto_region 7 with (first
        | (go_at_call 18; refine HFr.out.mono ?_; rintro e w2 ⟨x, rfl, hown2, hb2⟩; obtain ⟨A2, c2, rfl⟩ := own_slice hown2; have HO2 := Lib.hid hown2; have HB2 := Lib.hid hb2; have HS2 := Lib.hid (HS1.out.go hb2); (obtain ⟨⟨p0, p1, p2, p3, p4⟩, pf⟩ := box5 HS2.out.box); have pf1 := pf 1; have hz2 := HS2.out.lo; clear hown2 hb2 pf)
        | (at_builtin; go_loud (refine wpList_append_lies _ rfl _ _ _ (by rfl) (wb.heap.size + 2) 44 j0 _ 1 24 Try.underlying58 Hj0.out Hy0.out Hy1.out Hy2.out rfl (by omega) (.slice FA vs.length fc) vs.length vs (by rfl) (HS2.out.fr.outer.alloc _) _ 1 1 [.slice A2 (frontS yt).length c2] (by rfl) (by rfl) (by exact World.news_of_block (heap_alloc_new _ _)) (by intro u hu; rw [List.mem_singleton.1 hu]; exact own_one HO2.out) (by omega) (by unfold maxLen; omega) (by omega) (by simp; omega) _ rfl ?_; intro g2 cap w3 hown3 hgrow3 hat3 hlt3; have HO3 := Lib.hid hown3; have HG3 := Lib.hid hgrow3; have HA3 := Lib.hid hat3; (have hbx3 : w3.heap[wb.heap.size + 1]? = some (.cells #[RV, .slice FA vs.length fc, .map (some wb.heap.size), .slice GA (genS (ls.take k)).length gc, .slice LA (labS (ls.take k)).length lc] 60 (0, 0)) := (hgrow3.block _ (by simp; omega) (fun e => by have h7 := (HS2.out.fr.outer.lt _ e.symm).1; omega)).trans ((heap_alloc_old _ _ (blk_lt' HS2.out.box)).trans HS2.out.box)); have HX3 := Lib.hid hbx3; (obtain ⟨⟨q0, q1, q2, q3, q4⟩, qf⟩ := box5 hbx3); have qf1 := qf 1; clear hown3 hgrow3 hat3 hbx3 qf)))
      obtain ⟨w4, hw4⟩ : ∃ w4, w3.setCell ⟨wb.heap.size + 1, 1, none⟩ (.slice (some ⟨g2, 0, none⟩) (vs.length + 1) cap) = w4 := ⟨_, rfl⟩
      have hg4 : w3.grownBy w4 (some (wb.heap.size + 1)) := by rw [← hw4]; exact grown_set _ _ _ _
      have hx4 : w4.heap[wb.heap.size + 1]? = some (.cells #[RV, .slice (some ⟨g2, 0, none⟩) (vs.length + 1) cap, .map (some wb.heap.size), .slice GA (genS (ls.take k)).length gc, .slice LA (labS (ls.take k)).length lc] 60 (0, 0)) := by
        rw [← hw4, heap_setCell_same _ _ _ _ _ _ HX3.out]; rfl
      have hS4 := HS1.out.front (bt HB2.out (below_alloc _ _)) (own_below2 HO2.out (below_alloc w2 _)) HO3.out HG3.out HA3.out hg4 hx4
      have hY4 := RowAt.of_own (fr_last hS4.fr)
      have hfl2 := frontS_len yt
      have hgl : (genS (ls.take k)).length ≤ 1000 := by
        have h1 := idxS_len (fun l => rkF l == none) (ls.take k)
        have h2 := HTl.out
        unfold genS
        omega
      have HKy := Lib.hid (PKey_any A2 c2 (frontS yt) w4 (by have := HZy.out; omega) (fun t ht => by have := HZy.out.2.2 t (frontS_sub _ t ht); omega) hY4)
      have hx2r := (HB2.out.block _ (blk_lt' HX.out)).trans HX.out
      have hx4r := keep_box hx2r HG3.out (fun r e => by have h7 := (hS.out.fr.outer.lt _ e).2; omega) hg4 (by omega)
      have HX4r := Lib.hid hx4r
      have HS4 := Lib.hid hS4
      have HSh4 : Hid (w4.Shuns wb.heap.size (fun g => g = wo.heap.size)) := Lib.hid (((((hS.out.sh.reno hS.out.gr (No' := fun g => g = wo.heap.size) (fun g hg => Or.inr (Nat.le_of_eq hg.symm))).kept (grown_below HBw1.out none) hS.out.mlt (by simp)).kept (grown_below HB2.out none) HS1.out.mlt (by simp)).kept (grown_below (below_alloc w2 _) none) HS2.out.mlt (by simp)).kept HG3.out (by have := HS2.out.mlt; simp; omega) (fun e => by have h7 := (HS2.out.fr.outer.lt _ e.symm).1; omega) |>.kept hg4 (by have := HS2.out.mlt; have := HG3.out.size; have h8 : (w2.alloc (.cells #[.slice A2 (frontS yt).length c2] 44)).heap.size = w2.heap.size + 1 := (by simp); omega) (fun e => by injection e with e; omega))
      have hkk : rkeyS (frontS yt) = rkF yt := rfl
      rw [hkk] at HKy
      rw [hw4]
      clear hw4 hg4 hx4 hS4 hY4 hfl2 hx2r hx4r hkk q0 q1 q2 q3 q4 qf1 p0 p1 p2 p3 p4 pf1 e0 e1 e2
      have hz4 := HS4.out.lo
      unfold litV at HKy
      cases hk : rkF yt with
      | none =>
        rw [hk] at HKy
        have HGs : Hid (genS (ls.take (k + 1)) = genS (ls.take k) ++ [(k : Int)]) := Lib.hid (by rw [HTk.out, genS_none hk, HTl.out]; rfl)
        have HDs : Hid (grpD (ksS (ls.take (k + 1))) = grpD (ksS (ls.take k))) := Lib.hid (by rw [HTk.out, grp_none hk])
        have HFs : Hid ((ls.take (k + 1)).map frontS = (ls.take k).map frontS ++ [frontS yt]) := Lib.hid (by rw [HTk.out, fsS_snoc])
        clear hk
        go_upto_region 11 with (first
          | (go_at_call 19; refine HKy.out.mono ?_; rintro e w5 ⟨rfl, hb5⟩; have HS5 := Lib.hid (HS4.out.go hb5); have HX5 := Lib.hid ((hb5.block _ (blk_lt' HX4r.out)).trans HX4r.out); (obtain ⟨⟨v0, v1, v2, v3, v4⟩, vf⟩ := box5 HS5.out.box); have hlo5 := HS5.out.lo; clear hb5 vf)
          | (at_builtin; go_loud (refine wpList_append_lies _ rfl _ _ _ (by rfl) (wb.heap.size + 2) 3 i0 _ 1 8 Try.underlying22 Hi0.out Hz0.out Hz1.out Hz2.out rfl (by omega) (.slice GA (genS (ls.take k)).length gc) (genS (ls.take k)).length (iV (genS (ls.take k))) (by rfl) (HS5.out.ge.alloc _) _ 1 1 [.int .i64 k] (by rfl) (by rfl) (by exact World.news_of_block (heap_alloc_new _ _)) (by simp [Value.oneCell']) (by omega) (by unfold maxLen; omega) (by omega) (by simp; omega) _ rfl ?_; intro g6 cap6 w6 hown6 hgrow6 hat6 hlt6; have HO6 := Lib.hid hown6; have HG6 := Lib.hid hgrow6; have HA6 := Lib.hid hat6; (have hbx6 := (hgrow6.block (wb.heap.size + 1) (by simp; omega) (fun e => by have h7 := (HS5.out.ge.lt _ e.symm).1; omega)).trans ((heap_alloc_old _ _ (blk_lt' HS5.out.box)).trans HS5.out.box)); have HX6 := Lib.hid hbx6; (obtain ⟨⟨y0, y1, y2, y3, y4⟩, yf9⟩ := box5 hbx6); have yf3 := yf9 3; clear hown6 hgrow6 hat6 hbx6 yf9)))
        obtain ⟨w7, hw7⟩ : ∃ w7, w6.setCell ⟨wb.heap.size + 1, 3, none⟩ (.slice (some ⟨g6, 0, none⟩) ((genS (ls.take k)).length + 1) cap6) = w7 := ⟨_, rfl⟩
        have hg7 : w6.grownBy w7 (some (wb.heap.size + 1)) := by rw [← hw7]; exact grown_set _ _ _ _
        have hS7 := (HS5.out.go (below_alloc _ (.cells #[.int .i64 k] 3))).gen HO6.out HG6.out HA6.out hg7 (by rw [← hw7, heap_setCell_same _ _ _ _ _ _ HX6.out]; rfl)
        have HS7 : Hid (NewSt wb RV ((ls.take (k + 1)).map frontS) _ _ (k + 1) (grpD (ksS (ls.take (k + 1)))) _ (genS (ls.take (k + 1))) _ (labS (ls.take k)) w7) := Lib.hid (by rw [HFs.out, HDs.out, HGs.out]; exact hS7.more (by omega))
        have HX7 := Lib.hid (keep_box HX5.out HG6.out (fun r e => by have h7 := (hS.out.ge.lt _ e).2; omega) hg7 (by omega))
        rw [hw7]
        clear hw7 hg7 hS7 v0 v1 v2 v3 v4 y0 y1 y2 y3 y4 yf3
        obtain ⟨u0, u1, u2⟩ := res3 HX7.out
        have hCt := ContainsL_any yA yc yt (fun t => t.key == 23) w7 (by have := HZy.out; omega) (HIn.out w7 HS7.out.bel) (fun t _ W _ => Lab_any t W)
        have HCt : Hid (Calls Try.prog 20 #[.slice yA yt.length yc, .func (.func 21) #[] #[]] w7 fun e w' => e = .returned (.bool (labB1 yt)) ∧ Below w7.heap.size w7 w') := Lib.hid hCt
        clear hCt
        have hll : (labS (ls.take k)).length ≤ 1000 := by
          have h1 := idxS_len labB1 (ls.take k)
          have h2 := HTl.out
          unfold labS
          omega
        cases hlb : labB1 yt with
        | false =>
          rw [hlb] at HCt
          have HLb : Hid (labS (ls.take (k + 1)) = labS (ls.take k)) := Lib.hid (by rw [HTk.out]; exact labS_no hlb)
          clear hlb
          go_wp2_with (go_at_call 20; refine HCt.out.mono ?_; rintro e w8 ⟨rfl, hb8⟩; have HS8 := Lib.hid (HS7.out.go hb8); clear hb8)
          go_roundg (gk - 1)
          case measure => omega
          case rel => exact ⟨k + 1, _, _, _, _, by go_num, by omega, by omega, by rw [HLb.out]; exact HS8.out⟩
        | true =>
          rw [hlb] at HCt
          have HLb : Hid (labS (ls.take (k + 1)) = labS (ls.take k) ++ [(k : Int)]) := Lib.hid (by rw [HTk.out, labS_yes hlb, HTl.out]; rfl)
          clear hlb
          go_wp2_with (first
            | (go_at_call 20; refine HCt.out.mono ?_; rintro e w8 ⟨rfl, hb8⟩; have HS8 := Lib.hid (HS7.out.go hb8); (obtain ⟨⟨v0, v1, v2, v3, v4⟩, vf⟩ := box5 HS8.out.box); have hlo8 := HS8.out.lo; clear hb8 vf)
            | (at_builtin; go_loud (refine wpList_append_lies _ rfl _ _ _ (by rfl) (wb.heap.size + 2) 3 i0 _ 1 8 Try.underlying22 Hi0.out Hz0.out Hz1.out Hz2.out rfl (by omega) (.slice LA (labS (ls.take k)).length lc) (labS (ls.take k)).length (iV (labS (ls.take k))) (by rfl) (HS8.out.la.alloc _) _ 1 1 [.int .i64 k] (by rfl) (by rfl) (by exact World.news_of_block (heap_alloc_new _ _)) (by simp [Value.oneCell']) (by omega) (by unfold maxLen; omega) (by omega) (by simp; omega) _ rfl ?_; intro g9 cap9 w9 hown9 hgrow9 hat9 hlt9; have HO9 := Lib.hid hown9; have HG9 := Lib.hid hgrow9; have HA9 := Lib.hid hat9; (have hbx9 := (hgrow9.block (wb.heap.size + 1) (by simp; omega) (fun e => by have h7 := (HS8.out.la.lt _ e.symm).1; omega)).trans ((heap_alloc_old _ _ (blk_lt' HS8.out.box)).trans HS8.out.box)); have HX9 := Lib.hid hbx9; (obtain ⟨⟨y0, y1, y2, y3, y4⟩, yf9⟩ := box5 hbx9); have yf4 := yf9 4; clear hown9 hgrow9 hat9 hbx9 yf9)))
          go_roundg (gk - 1)
          case measure => omega
          case rel => exact ⟨k + 1, _, _, _, _, by go_num, by omega, by omega, by rw [HLb.out]; exact (HS8.out.go (below_alloc _ _)).lab HO9.out HG9.out HA9.out (grown_set _ _ _ _) (by rw [heap_setCell_same _ _ _ _ _ _ HX9.out]; rfl)⟩
      | some ky =>
        rw [hk] at HKy
        have hgd : (some ky).getD [] = ky := rfl
        rw [hgd] at HKy
        have hlen := rkF_len hk
        have HKey := Lib.hid (key_of hlen)
        have HGs : Hid (genS (ls.take (k + 1)) = genS (ls.take k)) := Lib.hid (by rw [HTk.out, genS_some hk])
        have HDs : Hid (grpD (ksS (ls.take (k + 1))) = (grpD (ksS (ls.take k))).put (.string ky) (.slice (ChangeShapes.lits .i64 (plcS (ksS (ls.take k)) ky ++ [(k : Int)])) [])) := Lib.hid (by rw [HTk.out, grp_some hk, HTl.out]; rfl)
        have HFs : Hid ((ls.take (k + 1)).map frontS = (ls.take k).map frontS ++ [frontS yt]) := Lib.hid (by rw [HTk.out, fsS_snoc])
        clear hk hlen hgd
        generalize bs ky = kb at *
        go_upto_region 9 with (go_at_call 19; refine HKy.out.mono ?_; rintro e w5 ⟨rfl, hb5⟩; have HS5 := Lib.hid (HS4.out.go hb5); have HX5 := Lib.hid ((hb5.block _ (blk_lt' HX4r.out)).trans HX4r.out); have HSh5 := Lib.hid (HSh4.out.kept (grown_below hb5 none) HS4.out.mlt (by simp)); (obtain ⟨⟨v0, v1, v2, v3, v4⟩, vf⟩ := box5 HS5.out.box); have hlo5 := HS5.out.lo; clear hb5 vf)
        -- REGION9
        have hSd := HS5.out.go (Below.refl w5.heap.size w5).drew
        obtain ⟨wd, hwd⟩ : ∃ wd, w5.drew = wd := ⟨_, rfl⟩
        rw [hwd] at hSd
        have hgd : w5.grownBy wd none := by rw [← hwd]; exact ⟨rfl, rfl, rfl, Nat.le_refl _, fun _ _ _ => rfl⟩
        have HXd : Hid (wd.heap[wo.heap.size]? = some (.cells #[.string yf, .int .i64 yl, .slice yA yt.length yc] 46 (0, 0))) := Lib.hid ((hgd.block _ (blk_lt' HX5.out) (by simp)).trans HX5.out)
        have HShd := Lib.hid (HSh5.out.kept hgd HS5.out.mlt (by simp))
        have HSd := Lib.hid hSd
        have HWd := Lib.hid hwd
        have hlod := hSd.lo
        clear hwd hgd hSd v0 v1 v2 v3 v4
        refine wp_region_held_drew (S := fun W' => W'.cell? ⟨wb.heap.size + 1, 2, none⟩ = some (.map (some wb.heap.size))) (by kernel_rfl) ?_ (fun hHeld => ?_)
        · rw [HWd.out]; exact (box5 HSd.out.box).1.2.2.1
        rw [HWd.out] at hHeld ⊢
        refine wpAnyH_take (i := 0) (v := ?_) (by simp only [List.getElem?_toArray, List.getElem?_cons_zero]; rfl) (by kernel_rfl) (by kernel_rfl) (by kernel_rfl) (by exact fun _ _ _ h => h) (Or.inl ⟨by rfl, ?_⟩) (by assumption) ?_
        rotate_left
        · intro w hSw
          go_simp
          try with_reducible rfl
        try simp only [Act.put, List.setIfInBounds_toArray, List.set_cons_zero, List.set_cons_succ]
        refine wpAnyH_take (i := 1) (v := ?_) (by simp only [List.getElem?_toArray, List.getElem?_cons_succ, List.getElem?_cons_zero]; rfl) (by kernel_rfl) (by kernel_rfl) (by kernel_rfl) (by exact fun _ _ _ h => h) (Or.inl ⟨by rfl, ?_⟩) (by assumption) ?_
        rotate_left
        · intro w hSw
          go_simp
          try with_reducible rfl
        try simp only [Act.put, List.setIfInBounds_toArray, List.set_cons_zero, List.set_cons_succ]
        refine wpAnyH_take (i := 2) (v := ?_) (by simp only [List.getElem?_toArray, List.getElem?_cons_succ, List.getElem?_cons_zero]; rfl) (by kernel_rfl) (by kernel_rfl) (by kernel_rfl) (by exact fun _ _ _ h => h) (Or.inl ⟨by rfl, ?_⟩) (by assumption) ?_
        rotate_left
        · intro w hSw
          go_simp
          try with_reducible rfl
        try simp only [Act.put, List.setIfInBounds_toArray, List.set_cons_zero, List.set_cons_succ]
        refine wpAnyH_take (i := 3) (v := ?_) (by simp only [List.getElem?_toArray, List.getElem?_cons_succ, List.getElem?_cons_zero]; rfl) (by kernel_rfl) (by kernel_rfl) (by kernel_rfl) (by exact fun _ _ _ h => h) (Or.inl ⟨by rfl, ?_⟩) (by assumption) ?_
        rotate_left
        · intro w hSw
          go_simp
          try with_reducible rfl
        try simp only [Act.put, List.setIfInBounds_toArray, List.set_cons_zero, List.set_cons_succ]
        refine wpAnyH_take (i := 4) (v := ?_) (by simp only [List.getElem?_toArray, List.getElem?_cons_succ, List.getElem?_cons_zero]; rfl) (by kernel_rfl) (by kernel_rfl) (by kernel_rfl) (by exact fun _ _ _ h => h) (Or.inl ⟨by rfl, ?_⟩) (by assumption) ?_
        rotate_left
        · intro w hSw
          go_simp
          try with_reducible rfl
        try simp only [Act.put, List.setIfInBounds_toArray, List.set_cons_zero, List.set_cons_succ]
        refine wpAnyH_take (i := 5) (v := ?_) (by simp only [List.getElem?_toArray, List.getElem?_cons_succ, List.getElem?_cons_zero]; rfl) (by kernel_rfl) (by kernel_rfl) (by kernel_rfl) (by exact fun _ _ _ h => h) (Or.inl ⟨by rfl, ?_⟩) (by assumption) ?_
        rotate_left
        · intro w hSw
          go_simp
          try with_reducible rfl
        try simp only [Act.put, List.setIfInBounds_toArray, List.set_cons_zero, List.set_cons_succ]
        refine wpAnyH_take (i := 6) (v := ?_) (by simp only [List.getElem?_toArray, List.getElem?_cons_succ, List.getElem?_cons_zero]; rfl) (by kernel_rfl) (by kernel_rfl) (by kernel_rfl) (by exact fun _ _ _ h => h) (Or.inl ⟨by rfl, ?_⟩) (by assumption) ?_
        rotate_left
        · intro w hSw
          go_simp
          try with_reducible rfl
        try simp only [Act.put, List.setIfInBounds_toArray, List.set_cons_zero, List.set_cons_succ]
        refine wpAnyH_take (i := 7) (v := ?_) (by simp only [List.getElem?_toArray, List.getElem?_cons_succ, List.getElem?_cons_zero]; rfl) (by kernel_rfl) (by kernel_rfl) (by kernel_rfl) (by exact fun _ _ _ h => h) (Or.inl ⟨by rfl, ?_⟩) (by assumption) ?_
        rotate_left
        · intro w hSw
          go_simp
          try with_reducible rfl
        try simp only [Act.put, List.setIfInBounds_toArray, List.set_cons_zero, List.set_cons_succ]
        refine wpAnyH_take (i := 8) (v := ?_) (by simp only [List.getElem?_toArray, List.getElem?_cons_succ, List.getElem?_cons_zero]; rfl) (by kernel_rfl) (by kernel_rfl) (by kernel_rfl) (by exact fun _ _ _ h => h) (Or.inl ⟨by rfl, ?_⟩) (by assumption) ?_
        rotate_left
        · intro w hSw
          go_simp
          try with_reducible rfl
        try simp only [Act.put, List.setIfInBounds_toArray, List.set_cons_zero, List.set_cons_succ]
        refine wpAnyH_take (i := 9) (v := ?_) (by simp only [List.getElem?_toArray, List.getElem?_cons_succ, List.getElem?_cons_zero]; rfl) (by kernel_rfl) (by kernel_rfl) (by kernel_rfl) (by exact fun _ _ _ h => h) (Or.inl ⟨by rfl, ?_⟩) (by assumption) ?_
        rotate_left
        · intro w hSw
          go_simp
          try with_reducible rfl
        try simp only [Act.put, List.setIfInBounds_toArray, List.set_cons_zero, List.set_cons_succ]
        refine wpAnyH_take (i := 11) (v := ?_) (by simp only [List.getElem?_toArray, List.getElem?_cons_succ, List.getElem?_cons_zero]; rfl) (by kernel_rfl) (by kernel_rfl) (by kernel_rfl) (by exact fun _ _ _ h => h) (Or.inl ⟨by rfl, ?_⟩) (by assumption) ?_
        rotate_left
        · intro w hSw
          go_simp
          try with_reducible rfl
        try simp only [Act.put, List.setIfInBounds_toArray, List.set_cons_zero, List.set_cons_succ]
        refine wpAnyH_ready (rs := [10, 12]) (by kernel_rfl) (by simp) ?_
        refine AllReadyH.cons (by simp only [List.getElem?_toArray, List.getElem?_cons_succ, List.getElem?_cons_zero]; rfl) (fun K hK => ?_) (AllReadyH.cons (by simp only [List.getElem?_toArray, List.getElem?_cons_succ, List.getElem?_cons_zero]; rfl) (fun K hK => ?_) AllReadyH.nil)
        · skip
          obtain ⟨v, zs, hrun, hat, hoi, hzl, hback, hsh⟩ := groups_at HSd.out.gr keyedS Try.underlying57 (zeroInts _) (by unfold maxLen; omega) HKey.out
          obtain ⟨VA, vc, rfl⟩ := own_slice hoi.1
          have HPl := Lib.hid (places_of hat hoi)
          have HOi := Lib.hid hoi
          have HBk := Lib.hid hback
          have HSh := Lib.hid hsh
          have HZl := Lib.hid hzl
          have HNe := Lib.hid (hsh _ HShd.out)
          clear hat hoi hback hsh
          go_simp
          refine hK.out _ _ (by exact (box5 HSd.out.box).1.2.2.1) (fun hHeld => ?_)
          clear hK K
          try simp only [Act.put, List.setIfInBounds_toArray, List.set_cons_zero, List.set_cons_succ]
          refine wpAnyH_ready (rs := [12]) (by kernel_rfl) (by simp) ?_
          refine AllReadyH.cons (by simp only [List.getElem?_toArray, List.getElem?_cons_succ, List.getElem?_cons_zero]; rfl) (fun K hK => ?_) AllReadyH.nil
          go_simp
          refine hK.out _ _ (by exact (box5 (HSd.out.go (below_alloc wd (.cells #[.int .i64 k] 3))).box).1.2.2.1) (fun hHeld => ?_)
          clear hK K
          try simp only [Act.put, List.setIfInBounds_toArray, List.set_cons_zero, List.set_cons_succ]
          refine wpAnyH_ready (rs := [13]) (by kernel_rfl) (by simp) ?_
          refine AllReadyH.cons (by simp only [List.getElem?_toArray, List.getElem?_cons_succ, List.getElem?_cons_zero]; rfl) (fun K hK => ?_) AllReadyH.nil
          refine step_append_lies _ (by rfl) _ _ _ (by rfl) (wb.heap.size + 2) 3 i0 _ 1 8 Try.underlying22 Hi0.out Hz0.out Hz1.out Hz2.out rfl (by omega) (.slice VA zs.length vc) zs.length (iV zs) (by rfl) (HOi.out.1.alloc _) _ 1 1 [.int .i64 k] (by rfl) (by rfl) (by exact World.news_of_block (B := wd.heap.size) (heap_alloc_new wd _)) (by simp [Value.oneCell']) (by omega) (by unfold maxLen; omega) (by omega) (by simp; omega) _ rfl ?_
          intro g6 cap6 w6 hown6 hgrow6 hat6 hlt6
          have hown7 : w6.ownsInts (wb.heap.size + 2) 3 .i64 (.slice (some ⟨g6, 0, none⟩) (zs.length + 1) cap6) (zs ++ [(k : Int)]) := HOi.out.appended hown6 (WalkArith.wf_i64 (by omega))
          have hlc : (Value.slice (some ⟨g6, 0, none⟩) (zs.length + 1) cap6).ownBlock = (Value.slice VA zs.length vc).ownBlock ∨ ∃ g, (Value.slice (some ⟨g6, 0, none⟩) (zs.length + 1) cap6).ownBlock = some g ∧ wd.heap.size ≤ g := by
            rcases hat6 with e | e
            · exact Or.inl e.symm
            · exact Or.inr ⟨g6, rfl, by rw [e]; simp⟩
          obtain ⟨w7, hrun7, hS7, hg7⟩ := HSd.out.keyed (by unfold maxLen; omega) keyedS Try.underlying57 HKey.out HOi.out HBk.out HSh.out ((World.grownBy_alloc _ _ _).trans hgrow6) hown7 (by simp; omega) hlc
          have hpos := hown7.datum_pos (H := Unit) (by simp)
          rw [hpos, HPl.out] at hS7
          have HS7 : Hid (NewSt wb RV ((ls.take (k + 1)).map frontS) _ _ (k + 1) (grpD (ksS (ls.take (k + 1)))) _ (genS (ls.take (k + 1))) _ (labS (ls.take k)) w7) := Lib.hid (by rw [HFs.out, HDs.out, HGs.out]; exact hS7)
          have HX7 : Hid (w7.heap[wo.heap.size]? = some (.cells #[.string yf, .int .i64 yl, .slice yA yt.length yc] 46 (0, 0))) := Lib.hid (keep_box HXd.out hgrow6 (fun r e => HNe.out r e) hg7 (by omega))
          have hkeep : w6.cell? ⟨wb.heap.size + 1, 2, none⟩ = some (.map (some wb.heap.size)) := (hgrow6.cell (by exact (box5 (HSd.out.go (below_alloc wd (.cells #[.int .i64 k] 3))).box).1.2.2.1) (fun e => by have h7 := (HOi.out.1.lt _ e.symm).1; simp at h7))
          refine hK.out _ _ (by exact hkeep) (fun hHeld => ?_)
          clear hK K
          try simp only [Act.put, List.setIfInBounds_toArray, List.set_cons_zero, List.set_cons_succ]
          refine wpAnyH_ready (rs := [14]) (by kernel_rfl) (by simp) ?_
          refine AllReadyH.cons (by simp only [List.getElem?_toArray, List.getElem?_cons_succ, List.getElem?_cons_zero]; rfl) (fun K hK => ?_) AllReadyH.nil
          go_simp
          refine hK.out _ _ (by exact (box5 HS7.out.box).1.2.2.1) (fun hHeld => ?_)
          clear hK K
          try simp only [Act.put, List.setIfInBounds_toArray, List.set_cons_zero, List.set_cons_succ]
          refine wpAnyH_done (by kernel_rfl) ?_ _
          clear hkeep hrun hrun7 hown6 hgrow6 hat6 hown7 hlc hpos hg7
          go_upto_region 11 with fail
          obtain ⟨u0, u1, u2⟩ := res3 HX7.out
          have hCt := ContainsL_any yA yc yt (fun t => t.key == 23) w7 (by have := HZy.out; omega) (HIn.out w7 HS7.out.bel) (fun t _ W _ => Lab_any t W)
          have HCt : Hid (Calls Try.prog 20 #[.slice yA yt.length yc, .func (.func 21) #[] #[]] w7 fun e w' => e = .returned (.bool (labB1 yt)) ∧ Below w7.heap.size w7 w') := Lib.hid hCt
          clear hCt
          have hll : (labS (ls.take k)).length ≤ 1000 := by
            have h1 := idxS_len labB1 (ls.take k)
            have h2 := HTl.out
            unfold labS
            omega
          cases hlb : labB1 yt with
          | false =>
            rw [hlb] at HCt
            have HLb : Hid (labS (ls.take (k + 1)) = labS (ls.take k)) := Lib.hid (by rw [HTk.out]; exact labS_no hlb)
            clear hlb
            go_wp2_with (go_at_call 20; refine HCt.out.mono ?_; rintro e w8 ⟨rfl, hb8⟩; have HS8 := Lib.hid (HS7.out.go hb8); clear hb8)
            go_roundg (gk - 1)
            case measure => omega
            case rel => exact ⟨k + 1, _, _, _, _, by go_num, by omega, by omega, by rw [HLb.out]; exact HS8.out⟩
          | true =>
            rw [hlb] at HCt
            have HLb : Hid (labS (ls.take (k + 1)) = labS (ls.take k) ++ [(k : Int)]) := Lib.hid (by rw [HTk.out, labS_yes hlb, HTl.out]; rfl)
            clear hlb
            go_wp2_with (first
              | (go_at_call 20; refine HCt.out.mono ?_; rintro e w8 ⟨rfl, hb8⟩; have HS8 := Lib.hid (HS7.out.go hb8); (obtain ⟨⟨v0, v1, v2, v3, v4⟩, vf⟩ := box5 HS8.out.box); have hlo8 := HS8.out.lo; clear hb8 vf)
              | (at_builtin; go_loud (refine wpList_append_lies _ rfl _ _ _ (by rfl) (wb.heap.size + 2) 3 i0 _ 1 8 Try.underlying22 Hi0.out Hz0.out Hz1.out Hz2.out rfl (by omega) (.slice LA (labS (ls.take k)).length lc) (labS (ls.take k)).length (iV (labS (ls.take k))) (by rfl) (HS8.out.la.alloc _) _ 1 1 [.int .i64 k] (by rfl) (by rfl) (by exact World.news_of_block (heap_alloc_new _ _)) (by simp [Value.oneCell']) (by omega) (by unfold maxLen; omega) (by omega) (by simp; omega) _ rfl ?_; intro g9 cap9 w9 hown9 hgrow9 hat9 hlt9; have HO9 := Lib.hid hown9; have HG9 := Lib.hid hgrow9; have HA9 := Lib.hid hat9; (have hbx9 := (hgrow9.block (wb.heap.size + 1) (by simp; omega) (fun e => by have h7 := (HS8.out.la.lt _ e.symm).1; omega)).trans ((heap_alloc_old _ _ (blk_lt' HS8.out.box)).trans HS8.out.box)); have HX9 := Lib.hid hbx9; (obtain ⟨⟨y0, y1, y2, y3, y4⟩, yf9⟩ := box5 hbx9); have yf4 := yf9 4; clear hown9 hgrow9 hat9 hbx9 yf9)))
            go_roundg (gk - 1)
            case measure => omega
            case rel => exact ⟨k + 1, _, _, _, _, by go_num, by omega, by omega, by rw [HLb.out]; exact (HS8.out.go (below_alloc _ _)).lab HO9.out HG9.out HA9.out (grown_set _ _ _ _) (by rw [heap_setCell_same _ _ _ _ _ _ HX9.out]; rfl)⟩
        · skip
          go_simp
          refine hK.out _ _ (by exact (box5 (HSd.out.go (below_alloc wd (.cells #[.int .i64 k] 3))).box).1.2.2.1) (fun hHeld => ?_)
          clear hK K
          try simp only [Act.put, List.setIfInBounds_toArray, List.set_cons_zero, List.set_cons_succ]
          refine wpAnyH_ready (rs := [10]) (by kernel_rfl) (by simp) ?_
          refine AllReadyH.cons (by simp only [List.getElem?_toArray, List.getElem?_cons_succ, List.getElem?_cons_zero]; rfl) (fun K hK => ?_) AllReadyH.nil
          have HSe := Lib.hid (HSd.out.go (below_alloc wd (.cells #[.int .i64 k] 3)))
          obtain ⟨v, zs, hrun, hat, hoi, hzl, hback, hsh⟩ := groups_at HSe.out.gr keyedS Try.underlying57 (zeroInts _) (by unfold maxLen; omega) HKey.out
          obtain ⟨VA, vc, rfl⟩ := own_slice hoi.1
          have HPl := Lib.hid (places_of hat hoi)
          have HOi := Lib.hid hoi
          have HBk := Lib.hid hback
          have HSh := Lib.hid hsh
          have HZl := Lib.hid hzl
          have HNe := Lib.hid (hsh _ (HShd.out.kept (grown_below (below_alloc wd (.cells #[.int .i64 k] 3)) none) HSd.out.mlt (by simp)))
          clear hat hoi hback hsh
          go_simp
          refine hK.out _ _ (by exact (box5 HSe.out.box).1.2.2.1) (fun hHeld => ?_)
          clear hK K
          try simp only [Act.put, List.setIfInBounds_toArray, List.set_cons_zero, List.set_cons_succ]
          refine wpAnyH_ready (rs := [13]) (by kernel_rfl) (by simp) ?_
          refine AllReadyH.cons (by simp only [List.getElem?_toArray, List.getElem?_cons_succ, List.getElem?_cons_zero]; rfl) (fun K hK => ?_) AllReadyH.nil
          refine step_append_lies _ (by rfl) _ _ _ (by rfl) (wb.heap.size + 2) 3 i0 _ 1 8 Try.underlying22 Hi0.out Hz0.out Hz1.out Hz2.out rfl (by omega) (.slice VA zs.length vc) zs.length (iV zs) (by rfl) HOi.out.1 _ 1 1 [.int .i64 k] (by rfl) (by rfl) (by exact World.news_of_block (B := wd.heap.size) (heap_alloc_new wd _)) (by simp [Value.oneCell']) (by omega) (by unfold maxLen; omega) (by omega) (by simp; omega) _ rfl ?_
          intro g6 cap6 w6 hown6 hgrow6 hat6 hlt6
          have hown7 : w6.ownsInts (wb.heap.size + 2) 3 .i64 (.slice (some ⟨g6, 0, none⟩) (zs.length + 1) cap6) (zs ++ [(k : Int)]) := HOi.out.appended hown6 (WalkArith.wf_i64 (by omega))
          have hlc : (Value.slice (some ⟨g6, 0, none⟩) (zs.length + 1) cap6).ownBlock = (Value.slice VA zs.length vc).ownBlock ∨ ∃ g, (Value.slice (some ⟨g6, 0, none⟩) (zs.length + 1) cap6).ownBlock = some g ∧ (wd.alloc (.cells #[.int .i64 k] 3)).heap.size ≤ g := by
            rcases hat6 with e | e
            · exact Or.inl e.symm
            · exact Or.inr ⟨g6, rfl, by rw [e]; simp⟩
          obtain ⟨w7, hrun7, hS7, hg7⟩ := HSe.out.keyed (by unfold maxLen; omega) keyedS Try.underlying57 HKey.out HOi.out HBk.out HSh.out hgrow6 hown7 (by simp; omega) hlc
          have hpos := hown7.datum_pos (H := Unit) (by simp)
          rw [hpos, HPl.out] at hS7
          have HS7 : Hid (NewSt wb RV ((ls.take (k + 1)).map frontS) _ _ (k + 1) (grpD (ksS (ls.take (k + 1)))) _ (genS (ls.take (k + 1))) _ (labS (ls.take k)) w7) := Lib.hid (by rw [HFs.out, HDs.out, HGs.out]; exact hS7)
          have HX7 : Hid (w7.heap[wo.heap.size]? = some (.cells #[.string yf, .int .i64 yl, .slice yA yt.length yc] 46 (0, 0))) := Lib.hid (keep_box HXd.out hgrow6 (fun r e => HNe.out r e) hg7 (by omega))
          have hkeep : w6.cell? ⟨wb.heap.size + 1, 2, none⟩ = some (.map (some wb.heap.size)) := (hgrow6.cell (by exact (box5 (HSd.out.go (below_alloc wd (.cells #[.int .i64 k] 3))).box).1.2.2.1) (fun e => by have h7 := (HOi.out.1.lt _ e.symm).1; simp at h7))
          refine hK.out _ _ (by exact hkeep) (fun hHeld => ?_)
          clear hK K
          try simp only [Act.put, List.setIfInBounds_toArray, List.set_cons_zero, List.set_cons_succ]
          refine wpAnyH_ready (rs := [14]) (by kernel_rfl) (by simp) ?_
          refine AllReadyH.cons (by simp only [List.getElem?_toArray, List.getElem?_cons_succ, List.getElem?_cons_zero]; rfl) (fun K hK => ?_) AllReadyH.nil
          go_simp
          refine hK.out _ _ (by exact (box5 HS7.out.box).1.2.2.1) (fun hHeld => ?_)
          clear hK K
          try simp only [Act.put, List.setIfInBounds_toArray, List.set_cons_zero, List.set_cons_succ]
          refine wpAnyH_done (by kernel_rfl) ?_ _
          clear hkeep hrun hrun7 hown6 hgrow6 hat6 hown7 hlc hpos hg7
          go_upto_region 11 with fail
          obtain ⟨u0, u1, u2⟩ := res3 HX7.out
          have hCt := ContainsL_any yA yc yt (fun t => t.key == 23) w7 (by have := HZy.out; omega) (HIn.out w7 HS7.out.bel) (fun t _ W _ => Lab_any t W)
          have HCt : Hid (Calls Try.prog 20 #[.slice yA yt.length yc, .func (.func 21) #[] #[]] w7 fun e w' => e = .returned (.bool (labB1 yt)) ∧ Below w7.heap.size w7 w') := Lib.hid hCt
          clear hCt
          have hll : (labS (ls.take k)).length ≤ 1000 := by
            have h1 := idxS_len labB1 (ls.take k)
            have h2 := HTl.out
            unfold labS
            omega
          cases hlb : labB1 yt with
          | false =>
            rw [hlb] at HCt
            have HLb : Hid (labS (ls.take (k + 1)) = labS (ls.take k)) := Lib.hid (by rw [HTk.out]; exact labS_no hlb)
            clear hlb
            go_wp2_with (go_at_call 20; refine HCt.out.mono ?_; rintro e w8 ⟨rfl, hb8⟩; have HS8 := Lib.hid (HS7.out.go hb8); clear hb8)
            go_roundg (gk - 1)
            case measure => omega
            case rel => exact ⟨k + 1, _, _, _, _, by go_num, by omega, by omega, by rw [HLb.out]; exact HS8.out⟩
          | true =>
            rw [hlb] at HCt
            have HLb : Hid (labS (ls.take (k + 1)) = labS (ls.take k) ++ [(k : Int)]) := Lib.hid (by rw [HTk.out, labS_yes hlb, HTl.out]; rfl)
            clear hlb
            go_wp2_with (first
              | (go_at_call 20; refine HCt.out.mono ?_; rintro e w8 ⟨rfl, hb8⟩; have HS8 := Lib.hid (HS7.out.go hb8); (obtain ⟨⟨v0, v1, v2, v3, v4⟩, vf⟩ := box5 HS8.out.box); have hlo8 := HS8.out.lo; clear hb8 vf)
              | (at_builtin; go_loud (refine wpList_append_lies _ rfl _ _ _ (by rfl) (wb.heap.size + 2) 3 i0 _ 1 8 Try.underlying22 Hi0.out Hz0.out Hz1.out Hz2.out rfl (by omega) (.slice LA (labS (ls.take k)).length lc) (labS (ls.take k)).length (iV (labS (ls.take k))) (by rfl) (HS8.out.la.alloc _) _ 1 1 [.int .i64 k] (by rfl) (by rfl) (by exact World.news_of_block (heap_alloc_new _ _)) (by simp [Value.oneCell']) (by omega) (by unfold maxLen; omega) (by omega) (by simp; omega) _ rfl ?_; intro g9 cap9 w9 hown9 hgrow9 hat9 hlt9; have HO9 := Lib.hid hown9; have HG9 := Lib.hid hgrow9; have HA9 := Lib.hid hat9; (have hbx9 := (hgrow9.block (wb.heap.size + 1) (by simp; omega) (fun e => by have h7 := (HS8.out.la.lt _ e.symm).1; omega)).trans ((heap_alloc_old _ _ (blk_lt' HS8.out.box)).trans HS8.out.box)); have HX9 := Lib.hid hbx9; (obtain ⟨⟨y0, y1, y2, y3, y4⟩, yf9⟩ := box5 hbx9); have yf4 := yf9 4; clear hown9 hgrow9 hat9 hbx9 yf9)))
            go_roundg (gk - 1)
            case measure => omega
            case rel => exact ⟨k + 1, _, _, _, _, by go_num, by omega, by omega, by rw [HLb.out]; exact (HS8.out.go (below_alloc _ _)).lab HO9.out HG9.out HA9.out (grown_set _ _ _ _) (by rw [heap_setCell_same _ _ _ _ _ _ HX9.out]; rfl)⟩
    · obtain rfl : k = l2.length := by omega
      have hT : ls.take l2.length = ls := by rw [← HLl.out, List.take_length]
      have hfin := hS.out
      rw [hT] at hfin
      have hPr : Prg wo (wb.heap.size + 1) ls := ⟨wb, RV, vs, _, _, _, rfl, by rw [HLl.out]; exact hfin⟩
      go_wp2
      exact HEnd.out _ _ hPr (bt HB1.out hfin.bel) (Nat.lt_succ_of_le HB1.out.size)
end Go.Proofs.Ytgdjknpdgajdgaa
