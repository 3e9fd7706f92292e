/-
  Contract of the program's Merge of directories.
  SameFiles at two lists that are alike; the example of the chapter.
  What a file in a first directory of its own does to made directories, in plain words.
-/
import Derived.Test.YthcgkeiggnfgiaaGreatDoorG17
import Derived.Test.YthcgkeiggnfgiaaGreatDoorG18
import Derived.Test.YthcgkeiggnfgiaaGreatDoorG15
import Derived.Maps.RangeWalk
import Derived.Sort.OwnSorted
import Derived.Test.YthcgkeiggnfgiaaGreatDoorG16
namespace Go.Proofs.YthcgkeiggnfgiaaGreatDoor
open Go.RowKit Go.Shelf Go.Maps
attribute [local go_sem] Oper.semAt_some
theorem at_pick {l : List At} {n s : Str} (h : ∀ zd, (textD l).atKey (.string n) zd = .lit (.string s)) : ∃ f, findF l.reverse n = some f ∧ L f.val = s := by
  have h1 := h (.lit (.bool true))
  rw [textD_at] at h1
  cases hf : findF l.reverse n with
  | none => rw [hf] at h1; cases h1
  | some f =>
    rw [hf] at h1
    refine ⟨f, rfl, ?_⟩
    have : (DataW.lit (.string (L f.val)) : DW) = .lit (.string s) := h1
    injection this with this
    injection this
abbrev bkL {ds : List (Ls At)} (y : BkD ds) : List At := y.1.2.l
theorem flat_len {ds : List (Ls At)} (N : Nat) (hN : ∀ d ∈ ds, d.l.length ≤ N) (pre : List (BkD ds)) : (pre.flatMap bkL).length ≤ pre.length * N := by
  induction pre with
  | nil => simp
  | cons y r ih =>
    rw [List.flatMap_cons, List.length_append, List.length_cons, Nat.add_mul]
    have : (bkL y).length ≤ N := hN _ y.2
    omega
theorem flatB_len (ds : List (Ls At)) : (flatB (lsOf ds)).length ≤ bulk ds := by
  induction ds with
  | nil => exact Nat.zero_le _
  | cons d r ih =>
    have e : flatB (lsOf (d :: r)) = flatB (lsOf r) ++ d.l := by simp [flatB, lsOf]
    rw [e, List.length_append, bulk_cons]
    omega
abbrev mapS (w : World) (b n : Nat) (D : DW) : Prop := w.ownsMap Tryz.prog 9 (plainElem (H := Unit) Tryz.prog 9) b n D
set_option maxRecDepth 100000 in
set_option maxHeartbeats 4000000 in
theorem PMergeD_any (A : Option Addr) (c : Nat) (ds : List (Ls At)) (w : World) (h : DirsAt w A ds) (hb : bulk ds ≤ 100000) (hsz : ∀ d ∈ ds, ∀ x ∈ d.l, FileOk x) :
    Calls Tryz.prog 19 #[.slice A ds.length c] w (FilesPost (mergeF (lsOf ds)) w) := by
  have HCk := Lib.hid (PCheckD_any A c ds w h hb hsz)
  have hM : ds.length ≤ 100000 := Nat.le_trans (bulk_len ds) hb
  unfold ErrPost at HCk
  by_cases hce : checkF (lsOf ds) = 0
  · have HMf : Hid (mergeF (lsOf ds) = (mergeL (lsOf ds), 0)) := Lib.hid (by rw [mergeF, if_pos hce])
    have HFl := Lib.hid (fun n => find_flat (check_bads hce) n)
    rw [hce] at HCk
    obtain ⟨ys, hyl, hym, hyj⟩ := back_listD ds
    have HYm : Hid (ys.flatMap bkL = flatB (lsOf ds)) := Lib.hid (by
      have : ys.flatMap bkL = (ys.map (fun y => y.1.2)).flatMap (·.l) := by rw [List.flatMap_map]
      rw [this, hym, flatB, lsOf, ← List.map_reverse, List.flatMap_map]; rfl)
    have hdl : ∀ d ∈ ds, d.l.length ≤ 100000 := fun d hd => by have := bulk_mem hd; omega
    have H := Lib.hid h
    have HFb := Lib.hid (Nat.le_trans (flatB_len ds) hb)
    have HSz := Lib.hid hsz
    have HDl := Lib.hid hdl
    have HBr := Lib.hid (fun W (hW : Below w.heap.size w W) => (BackRowD.of h hyj).below hW)
    have hmm := @run_makeMap Tryz.prog
    obtain ⟨i0, hi0, hz0, hz1, hz2⟩ := info_parts fileInfo
    have Hi0 := Lib.hid hi0
    have Hz0 := Lib.hid hz0
    have Hz1 := Lib.hid hz1
    have Hz2 := Lib.hid hz2
    rw [← hyl] at HCk ⊢
    rw [← hyl] at hM
    clear hce h hb hsz hyl hym hyj hdl hi0 hz0 hz1 hz2
    refine (callsIn_wide (n := 6)).1 (callsIn_of_wp_marks Tryz.func19 rfl trivial (wpIn_wide.2 ?_) rfl)
    simp only [Tryz.ntmps19, List.size_toArray, List.length_cons, List.length_nil, Nat.reduceAdd, Nat.reduceSub, Array.replicate_succ, Array.replicate_zero, List.push_toArray, List.append_toArray, List.nil_append, List.cons_append]
    go_wp2_with (first
      | (go_at_call 22; refine HCk.out.mono ?_; rintro e w1 ⟨rfl, hb1⟩)
      | (go_at_call 51; refine ((callsIn_wide (n := 6)).1 (BackwardD_in Fence.wide 6 trivial rfl _ _ _ _)).mono ?_; rintro e w' ⟨rfl, rfl⟩))
    have hm0 := World.ownsMap_made w1 Tryz.prog 9 (plainElem (H := Unit) Tryz.prog 9)
    have bS := (Boxed.new (w1.alloc (.map #[] 0)) 86 (.map (some w1.heap.size))).alloc (.cells #[.slice A ys.length c] 22)
    have bN := Boxed.new ((w1.alloc (.map #[] 0)).alloc (.cells #[.map (some w1.heap.size)] 86)) 22 (.slice A ys.length c)
    simp only [World.size_alloc] at bS bN
    have hB0 : Below w1.heap.size w1 (((w1.alloc (.map #[] 0)).alloc (.cells #[.map (some w1.heap.size)] 86)).alloc (.cells #[.slice A ys.length c] 22)) := (((Below.refl _ w1).alloc (Nat.le_refl _) _).alloc (by simp) _).alloc (by simp; omega) _
    obtain ⟨W0, hW0⟩ : ∃ W0, ((w1.alloc (.map #[] 0)).alloc (.cells #[.map (some w1.heap.size)] 86)).alloc (.cells #[.slice A ys.length c] 22) = W0 := ⟨_, rfl⟩
    have hs0 : W0.heap.size = w1.heap.size + 3 := by rw [← hW0]; simp
    have hm1 : mapS W0 w1.heap.size 0 (.map []) := by rw [← hW0]; exact (hm0.alloc _).alloc _
    rw [hW0] at bS bN hB0 ⊢
    have hbr1 : BackRowD ds w1 w1.heap.size A ys := ⟨fun j y hy => by
      obtain ⟨h1, b, off, e, hbn, h2⟩ := (HBr.out w1 hb1).at_ j y hy
      exact ⟨h1, b, off, e, Nat.lt_of_lt_of_le hbn hb1.size, h2⟩⟩
    clear hmm hm0 hW0
    refine wpIn_wide.1 (wpIn_rangeFunc_ownH (F := Fence.wide) (n := 6) rfl (by omega) (gf := 89) (lb := #[.pointer (some ⟨w1.heap.size + 1 + 1, 0, none⟩)]) rfl trivial (enters_of Tryz.func89 (by kernel_rfl) rfl)
      (backD_stops ds Fence.wide 5 trivial rfl (by omega) (w1.heap.size + 1 + 1) w1.heap.size A c ys (by omega) W0 (by omega) (by omega) bN.cell (hbr1.below hB0)) KpB.t (KpB.b (by omega) (by omega)) (Below.refl _ _) (fun _ => rfl)
      (fun (pre : List (BkD ds)) W => (W.cell? ⟨w1.heap.size + 1, 0, none⟩ = some (.map (some w1.heap.size)) ∧ mapS W w1.heap.size (pre.flatMap bkL).length (textD (pre.flatMap bkL))) ∧ Below w1.heap.size w1 W ∧ w1.heap.size + 3 ≤ W.heap.size)
      (fun _ _ _ => False)
      (OwnFrom.and (fun s A B row hs hg hr => ⟨cell_kept hs.1 hg (fun r e => (hr r e).2), hs.2.kept hg (fun e => by have := (hr _ e.symm).1; omega)⟩) (OwnFrom.and (ownFrom_below (Nat.le_refl _) (by omega)) (fun _ _ _ _ hs hg _ => Nat.le_trans hs hg.size)))
      (fun _ _ _ _ _ hs _ _ => hs)
      ⟨⟨bS.cell, hm1⟩, hB0, by omega⟩
      (fun x a' _ => a' = { tmps := #[.slice A ys.length c, undef, .slice none 0 0, .int .i64 0, .int .i64 0, .pointer (some ⟨w1.heap.size + 1, 0, none⟩), undef, .slice x.1.2.A x.1.2.l.length x.1.2.c, undef, undef, undef, undef, undef, .slice A ys.length c, .int .i64 0, .int .i64 0, .bool false, undef, .map (some w1.heap.size), .slice A ys.length c, .func (.func 89) #[] #[.pointer (some ⟨w1.heap.size + 1 + 1, 0, none⟩)], .int .i64 (x.1.1 : Int), .slice x.1.2.A x.1.2.l.length x.1.2.c, undef, undef, undef, undef, undef, undef, undef, undef, undef, undef, undef, undef, undef, undef, undef, undef, undef, undef, undef, undef, undef, undef, undef, undef, undef, undef, undef, undef, undef, undef, undef, undef], defers := [] })
      ?hAx ?assign ?body ?done ?stop)
    case assign =>
      rintro l pre x W K hi hK
      obtain ⟨x, hx⟩ := x
      gi_wp2
      exact hK _ _ (KeepsFrom.refl _ _) ⟨Below.refl _ _, rfl⟩ hi rfl
    case hAx =>
      rintro x a' s A B row h1 hg hr
      exact h1
    case stop =>
      rintro D c pre W _ _ h _
      exact h.elim
    case body =>
      rintro l pre x a' W hl ⟨r, hr⟩ ⟨⟨hc, hown⟩, hB, hW3⟩ rfl hlt
      obtain ⟨⟨ix, d⟩, hd⟩ := x
      have hN := HDl.out d hd
      have hpl := flat_len 100000 HDl.out pre
      have hpl2 : (pre.flatMap bkL).length ≤ 10000000000 := by omega
      have hF : Hid (∀ m x, d.l[m]? = some x → ∃ ba off, d.A = some ⟨ba, off, none⟩ ∧ ba < w.heap.size ∧ ∀ W, Below w.heap.size w W → W.cell? ⟨ba, off + m * 2, none⟩ = some (.string x.name) ∧ W.cell? ⟨ba, off + m * 2 + 1, none⟩ = some (.string x.val)) := Lib.hid fun m x hx => (H.out.inner d hd).fileX hx
      have hOk := Lib.hid (HSz.out d hd)
      have HPre : Hid ((pre ++ [(⟨(ix, d), hd⟩ : BkD ds)]).flatMap bkL = pre.flatMap bkL ++ d.l) := Lib.hid (by simp [bkL])
      have HOwn := Lib.hid hown
      have HC := Lib.hid hc
      have HBw := Lib.hid hB
      dsimp only
      generalize hpp : pre.flatMap bkL = pl at *
      obtain ⟨dA, dc, dl⟩ := d
      dsimp only at *
      generalize hNN : dl.length = N at *
      have HNN := Lib.hid hNN
      clear hNN hpp hown hpl hr
      gi_wp2
      gi_loopw [25] (fun s25 wr => ∃ m : Nat, m ≤ N ∧ s25 = .int .i64 m ∧ Hid (mapS wr w1.heap.size (pl.length + m) (textD (pl ++ dl.take m))) ∧ Hid (wr.cell? ⟨w1.heap.size + 1, 0, none⟩ = some (.map (some w1.heap.size))) ∧ Hid (KeepsFrom W0.heap.size W wr) ∧ Hid (KpB w1.heap.size (w1.heap.size + 1 + 1) W wr) ∧ w1.heap.size + 3 ≤ wr.heap.size) (fun s25 _ => N - (intOf s25).toNat)
      case atStart => exact ⟨0, Nat.zero_le _, rfl, by rw [List.take_zero, List.append_nil]; exact HOwn.out, HC.out, KeepsFrom.refl _ _, ⟨Below.refl _ _, rfl⟩, hW3⟩
      case round =>
        obtain ⟨m, hm, rfl, hMp, hCb, hKf, hKp, hsz3⟩ := hrel
        by_cases hltm : m < N
        · have hltmI : (m : Int) < (N : Int) := by omega
          obtain ⟨x, hx⟩ : ∃ x, dl[m]? = some x := ⟨_, List.getElem?_eq_getElem (by rw [HNN.out]; exact hltm)⟩
          obtain ⟨ba, off2, rfl, hba, hcc⟩ := hF.out m x hx
          have hbe : Below w1.heap.size w1 wr := HBw.out.trans hKp.out.1
          obtain ⟨c0, c1⟩ := hcc _ (bt hb1 hbe)
          have hxok := hOk.out x (List.mem_of_getElem? hx)
          have HTk : Hid (dl.take (m + 1) = dl.take m ++ [x]) := Lib.hid (by rw [List.take_add_one, hx]; rfl)
          have hkey := WideMaps.keyOf_string_mk (P := Tryz.prog) Tryz.underlying9 hxok.1
          have hcb := hCb.out
          have hba2 : ba < wr.heap.size := Nat.lt_of_lt_of_le hba (bt hb1 hbe).size
          have hlt5 : w1.heap.size + 1 < wr.heap.size := by omega
          have hBe := Lib.hid hbe
          clear hx hcc hbe
          gi_wp2_with (first
            | (gi_at_mapUpdate; refine wpListIn_mapUpdate_own _ rfl _ _ _ 86 rfl 9 9 (Maps.string_keyed Tryz.underlying9) Tryz.underlying86 _ w1.heap.size (pl.length + m) _ rfl (hMp.out.alloc _) (by unfold maxLen; omega) _ _ _ rfl rfl hkey _ [] (plainElem_string Tryz.underlying9 hxok.2) ?_; intro w6 hown6 hgrow6))
          have HM6 : Hid (mapS w6 w1.heap.size (pl.length + (m + 1)) (textD (pl ++ dl.take (m + 1)))) := Lib.hid (by rw [HTk.out, ← List.append_assoc, textD_snoc, ← Nat.add_assoc]; exact hown6)
          obtain ⟨es, ck, hh, _⟩ := hMp.out.alloc (.cells #[.string x.name, .string x.val] 34)
          have hsz6 := hgrow6.size
          have HC6 : Hid (w6.cell? ⟨w1.heap.size + 1, 0, none⟩ = some (.map (some w1.heap.size))) := Lib.hid ((World.cell?_of_block (a := ⟨w1.heap.size + 1, 0, none⟩) (hgrow6.block (w1.heap.size + 1) (by simp; omega) (by intro e; have := Option.some.inj e; omega))).trans (by rw [World.cell?_of_block (Below.heap_alloc _ _ _ (by show w1.heap.size + 1 < _; omega))]; exact hcb))
          have HK6 : Hid (KeepsFrom W0.heap.size W w6) := Lib.hid (hKf.out.trans (((KeepsOthers.alloc _ _).from _).trans (KeepsFrom.of_grownBy hgrow6 (fun j e => by cases e; omega))))
          have HP6 : Hid (KpB w1.heap.size (w1.heap.size + 1 + 1) W w6) := Lib.hid (hKp.out.t (KpB.t ⟨(Below.refl _ _).alloc hBe.out.size _, Below.heap_alloc _ _ _ (by omega)⟩ ⟨(Below.refl _ _).grown hgrow6 (by simp; omega) (fun k e => by cases e; exact Nat.le_refl _), hgrow6.block _ (by simp; omega) (by intro e; have := Option.some.inj e; omega)⟩))
          have hw6 : w1.heap.size + 3 ≤ w6.heap.size := Nat.le_trans (by simp; omega) hsz6
          clear hown6 hgrow6 hh
          gi_wp2
          go_roundw
          case rel => exact ⟨m + 1, by omega, by go_num, HM6.out, HC6.out, HK6.out, HP6.out, hw6⟩
          case measure => simp [intOf]; omega
        · obtain rfl : m = N := by omega
          gi_wp2
          refine ⟨hKf.out, hKp.out, ⟨hCb.out, ?_⟩, HBw.out.trans hKp.out.1, hsz3⟩
          rw [HPre.out, List.length_append, HNN.out]
          have := hMp.out
          rw [List.take_of_length_le (by rw [HNN.out]; exact Nat.le_refl _)] at this
          exact this
    case done =>
      rintro D zs W hD rfl ⟨⟨hc, hown⟩, hB, hW3⟩ hK
      have hfl := flat_len 100000 HDl.out zs
      rw [HYm.out] at hown hfl
      have hfl2 : (flatB (lsOf ds)).length ≤ 100000 := HFb.out
      generalize flatB (lsOf ds) = fl at *
      have hlt5 : w1.heap.size + 1 < W.heap.size := by omega
      have HBw := Lib.hid hB
      have HK := Lib.hid hK
      have hDl := (Array.getElem?_eq_some_iff.1 hK).1
      have hszD : Maps.size (textD fl) ≤ fl.length := by rw [textD_size]; have := len_namesS (fl.map nm); rwa [List.length_map] at this
      clear hfl HFb hK bS bN hm1 hbr1 HBr H HSz HDl HYm hB0 HCk
      go_wp2_with (at_range; refine wpList_range_own _ rfl _ 86 rfl 9 9 lawS Tryz.underlying86 _ w1.heap.size fl.length _ rfl (hown.alloc _) ?_; intro w2 hrg0 hg0 hs0)
      go_frame
      simp only [World.size_alloc]
      rw [World.size_alloc] at hrg0 hs0
      have hB2 : Below W.heap.size W w2 := (below_alloc W _).trans ((grown_none hg0).mono (by simp))
      have HX2 := Lib.hid ((hg0.block W.heap.size (by simp) (by simp)).trans (heap_alloc_new W _))
      have HR0 := Lib.hid hrg0
      have HB2 := Lib.hid hB2
      clear hrg0 hg0 hB2
      go_loopw [11] (fun s11 wr => ∃ (left : Lit → Bool) (cnt : Nat) (ss : List Str) (v : Value) (out : List At), Hid (wr.ranges Tryz.prog 9 (plainElem (H := Unit) Tryz.prog 9) w1.heap.size (W.heap.size + 1) fl.length (textD fl) left cnt) ∧ Hid (Collected (textD fl) left ss) ∧ Hid (wr.heap[W.heap.size]? = some (.cells #[v] 31 (0, 0))) ∧ Hid (wr.ownsRow (W.heap.size + 2) 34 2 v out.length (cellsOf encAt out)) ∧ Hid (out = ss.filterMap (keepF (lsOf ds))) ∧ ss.length + cnt ≤ fl.length ∧ out.length ≤ ss.length ∧ Hid (Below W.heap.size W wr) ∧ W.heap.size + 2 ≤ wr.heap.size) (fun _ wr => wr.rangeLeft w1.heap.size (W.heap.size + 1))
      case atStart => exact ⟨_, _, [], _, [], HR0.out, Collected.start _, HX2.out, World.ownsRow_nil _ _ _ _, rfl, by simpa using hszD, Nat.le_refl _, HB2.out, by omega⟩
      case round =>
        obtain ⟨left, cnt, ss, v, out, hrg, hC, hX, hOw, hOut, hcs, hos, hBl, hwz⟩ := hrel
        have hcb : wr.cell? ⟨W.heap.size, 0, none⟩ = some v := by rw [cell_of_row _ _ 0 _ _ _ hX.out]; rfl
        have hfb : wr.frozen? ⟨W.heap.size, 0, none⟩ = false := frozen_of_row _ _ _ _ _ hX.out
        have hne : v.ownBlock ≠ some W.heap.size := fun e => by have := (hOw.out.lt _ e).1; omega
        have hneR : v.ownBlock ≠ some (W.heap.size + 1) := fun e => by have := (hOw.out.lt _ e).1; omega
        go_wp2_with (at_next; refine wpList_next_ranges _ rfl _ rfl 9 lawS (plainElem (H := Unit) Tryz.prog 9) Value.string Value.string (fun key kl hk => by obtain ⟨x, hx, _⟩ := Maps.keyOf_str Tryz.underlying9 hk; exact ⟨⟨x.toArray⟩, hx⟩) (fun v y hv => by obtain ⟨x, hx, _⟩ := plainElem_string_inv Tryz.underlying9 hv; exact ⟨x, hx⟩) w1.heap.size (W.heap.size + 1) fl.length _ _ _ rfl hrg.out ?_ ?_)
        · intro hc0 hl0
          have hss : ∀ x, x ∈ ss ↔ (pickF (lsOf ds) x).isSome = true := fun x => by
            rw [hC.out.2 x, textD_has, HFl.out]
            exact ⟨fun h => h.1, fun h => ⟨h, hl0 _⟩⟩
          have HSs := Lib.hid hss
          have HCn := Lib.hid hC.out.1
          obtain ⟨A2, c2, rfl, hc2⟩ := own_slice2 hOw.out
          have HSrt := Lib.hid (SortOwn_any hOw.out (by omega) hcb hne)
          unfold SortPost at HSrt
          clear hss hl0 hc0
          go_wp2_with (go_at_call 52; refine HSrt.out.mono ?_; rintro e w9 ⟨rfl, l', hperm, hpw, hrow9, hg9⟩; have hcb9 := (World.cell?_of_block (a := ⟨W.heap.size, 0, none⟩) (hg9.block W.heap.size (by omega) (fun e => hne e.symm))).trans hcb)
          have hl' : l' = mergeL (lsOf ds) := merge_sorted HCn.out HSs.out (by rw [← hOut.out]; exact hperm) hpw
          have hlen : l'.length = out.length := hperm.length_eq
          have hBl9 : Below w1.heap.size w1 w9 := (HBw.out.trans (hBl.out.mono HBw.out.size)).grown hg9 (by have := HBw.out.size; omega) (fun j e => by have := (hOw.out.lt j e).1; have := HBw.out.size; omega)
          have hD9 : w9.heap[D]? = some (.deferred (some [])) := (hg9.block D (by omega) (fun e => by have := (hOw.out.lt D e.symm).1; omega)).trans ((hBl.out.block D hDl).trans HK.out)
          refine ⟨by simp, .inl ⟨_, _, rfl, run_takeDeferred hD9, ?_⟩⟩
          refine ⟨.tuple #[.slice A2 out.length c2, .int .i64 0], by simp [results, Tryz.results19, go_sem], ?_⟩
          unfold FilesPost
          rw [HMf.out, ← hl', hlen]
          have hp := grownBy_putObj' w9 D (.deferred none)
          refine ⟨A2, c2, rfl, hc2, ?_, (bt hb1 hBl9).trans ((belowK_b (w := w) (Nat.le_refl _) w9 D _ _ (Nat.le_trans hb1.size (by omega)) hD9 rfl rfl))⟩
          rw [hlen] at hrow9
          refine (hrow9.grown (Nat.le_refl _) hp (fun h0 a ea e => ?_)).up hp.size
          subst ea
          have h1 := (hOw.out.lt a.block rfl).1
          have := Option.some.inj e
          omega
        · intro x cv kl yd yp w3 cnt2 hkey hlk hv hat hrg2 hlt hg2 hs2 hen
          obtain ⟨x', ex, rfl, _⟩ := Maps.keyOf_str Tryz.underlying9 hkey
          obtain rfl : x' = L x := by
            have : x = bs x' := by injection ex
            rw [this, L_bs]
          obtain ⟨s', es, ez, _⟩ := plainElem_string_inv Tryz.underlying9 hv
          obtain rfl : cv = s' := by injection es
          obtain rfl : yd = .lit (.string (L cv)) := (Prod.mk.inj ez).1
          obtain ⟨f, hf1, hf2⟩ := at_pick hat
          have hf3 := (findF_name hf1).1
          rw [HFl.out] at hf1
          obtain rfl : f = ⟨x, cv⟩ := by
            obtain ⟨fn, fv⟩ := f
            rw [show fn = x from L_inj hf3, show fv = cv from L_inj hf2]
          have HC2 := Lib.hid (hC.out.step hlk hat)
          have HR2 := Lib.hid hrg2
          have HX3 : Hid (w3.heap[W.heap.size]? = some (.cells #[v] 31 (0, 0))) := Lib.hid ((hg2.block W.heap.size (by omega) (by intro e; have := Option.some.inj e; omega)).trans hX.out)
          have HO3 := Lib.hid (hOw.out.kept hg2 (Or.inr hneR))
          have HB3 : Hid (Below W.heap.size W w3) := Lib.hid (hBl.out.grown hg2 (by omega) (fun k e => by cases e; omega))
          have hw3 : W.heap.size + 2 ≤ w3.heap.size := Nat.le_trans hwz hg2.size
          have hcb3 : w3.cell? ⟨W.heap.size, 0, none⟩ = some v := by rw [cell_of_row _ _ 0 _ _ _ HX3.out]; rfl
          have HPk := Lib.hid hf1
          have HLt : Hid (∀ wq : World, wq.rangeLeft w1.heap.size (W.heap.size + 1) = cnt2 → wq.rangeLeft w1.heap.size (W.heap.size + 1) < wr.rangeLeft w1.heap.size (W.heap.size + 1)) := Lib.hid fun wq e => by rw [e, hrg.out.left_eq]; exact hlt
          have hlt' : cnt2 < cnt := hlt
          clear hs2 hkey hlk hv hat hrg2 hg2 hf1 hf2 hf3 ez es ex hlt hcb hfb
          cases hve : (L cv).isEmpty with
          | true =>
            have HKn : Hid (keepF (lsOf ds) (L x) = none) := Lib.hid (keep_no HPk.out hve)
            have hv1 : cv.toList.isEmpty = true := by rw [tl]; exact hve
            have hv2 : cv.toList = [] := by rw [tl]; simpa using hve
            clear hve
            go_wp2
            go_roundw
            case rel => exact ⟨_, cnt2, ss ++ [L x], v, out, HR2.out, HC2.out, HX3.out, HO3.out, (by show out = _; rw [List.filterMap_append, ← hOut.out]; simp [HKn.out]), by simp; omega, by simp; omega, HB3.out, hw3⟩
            case measure => exact HLt.out _ HR2.out.left_eq
          | false =>
            have HKn : Hid (keepF (lsOf ds) (L x) = some ⟨x, cv⟩) := Lib.hid (keep_yes HPk.out hve)
            have hv1 : cv.toList.isEmpty = false := by rw [tl]; exact hve
            have hv2 : ¬ cv.toList = [] := by rw [tl]; simpa using hve
            clear hve
            go_wp2_with (at_builtin; refine wpList_append_lies _ rfl _ _ _ (by rfl) (W.heap.size + 2) 34 i0 _ 2 32 Tryz.underlying31 Hi0.out Hz0.out Hz1.out Hz2.out rfl (by omega) v out.length (cellsOf encAt out) (by rfl) (HO3.out.alloc _) _ 1 1 (encAt ⟨x, cv⟩) (by rfl) (by rfl) (by exact World.news_of_block (B := w3.heap.size) (heap_alloc_new _ _)) (encAt_one _) (by omega) (by unfold maxLen; omega) (by omega) (by simp; omega) _ rfl ?_; intro g2 cap w9 hown9 hgrow9 hat9 hlt9; have hX9 : w9.heap[W.heap.size]? = some (.cells #[v] 31 (0, 0)) := (hgrow9.block W.heap.size (by simp; omega) (fun e => hne e.symm)).trans ((Below.heap_alloc _ _ _ (by omega)).trans HX3.out); have hcb9 : w9.cell? ⟨W.heap.size, 0, none⟩ = some v := (cell_of_row _ _ 0 _ _ _ hX9).trans rfl; have hfb9 : w9.frozen? ⟨W.heap.size, 0, none⟩ = false := frozen_of_row _ _ _ _ _ hX9)
            have HR9 := Lib.hid (((HR2.out.alloc _).kept hgrow9 (fun e => by have := (HO3.out.lt _ e.symm).1; omega) (fun e => hneR e.symm)).kept (grown_set w9 W.heap.size 0 (.slice (some ⟨g2, 0, none⟩) (out.length + 1) cap)) (by intro e; have := Option.some.inj e; omega) (by intro e; have := Option.some.inj e; omega))
            have HO9 := Lib.hid ((own_snoc hown9).kept (grown_set w9 W.heap.size 0 (.slice (some ⟨g2, 0, none⟩) (out.length + 1) cap)) (Or.inr (by intro e; have := (hown9.lt _ e).1; omega)))
            have HX10 : Hid ((w9.setCell ⟨W.heap.size, 0, none⟩ (.slice (some ⟨g2, 0, none⟩) (out.length + 1) cap)).heap[W.heap.size]? = some (.cells #[.slice (some ⟨g2, 0, none⟩) (out.length + 1) cap] 31 (0, 0))) := Lib.hid (by rw [heap_setCell_same _ _ _ _ _ _ hX9]; rfl)
            have HB9 : Hid (Below W.heap.size W (w9.setCell ⟨W.heap.size, 0, none⟩ (.slice (some ⟨g2, 0, none⟩) (out.length + 1) cap))) := Lib.hid (((HB3.out.alloc (by omega) _).grown hgrow9 (by simp; omega) (fun j e => by have := (HO3.out.lt j e).1; omega)).setCell (p := ⟨W.heap.size, 0, none⟩) (Nat.le_refl _) _)
            have hw9 : W.heap.size + 2 ≤ (w9.setCell ⟨W.heap.size, 0, none⟩ (.slice (some ⟨g2, 0, none⟩) (out.length + 1) cap)).heap.size := by
              have h1 := hgrow9.size
              simp only [World.size_alloc] at h1
              simp [World.setCell]
              omega
            clear hX9 hcb9 hfb9 hgrow9 hown9 hat9 hlt9
            go_roundw
            case rel => exact ⟨_, cnt2, ss ++ [L x], .slice (some ⟨g2, 0, none⟩) (out.length + 1) cap, out ++ [(⟨x, cv⟩ : At)], HR9.out, HC2.out, HX10.out, HO9.out, (by show out ++ _ = _; rw [List.filterMap_append, ← hOut.out]; simp [HKn.out]), by simp; omega, by simp; omega, HB9.out, hw9⟩
            case measure => exact HLt.out _ HR9.out.left_eq
  · have HMf : Hid (mergeF (lsOf ds) = ([], checkF (lsOf ds))) := Lib.hid (by rw [mergeF, if_neg hce])
    generalize checkF (lsOf ds) = ce at *
    have hne : (ce == 0) = false := by simp [hce]
    have hnn : (ce != 0) = true := by simp [hce]
    generalize ds.length = N at *
    clear hce h hb hsz
    go_enter Tryz.func19, Tryz.ntmps19
    go_wp2_with (go_at_call 22; refine HCk.out.mono ?_; rintro e w1 ⟨rfl, hb1⟩)
    go_ret2
    unfold FilesPost
    rw [HMf.out]
    exact ⟨none, 0, rfl, Nat.le_refl _, ⟨rfl, fun h => absurd h (Nat.lt_irrefl 0)⟩, hb1⟩
end Go.Proofs.YthcgkeiggnfgiaaGreatDoor
namespace Go.Proofs.YthcgkeiggnfgiaaGreatDoor
open Go.RowKit
set_option maxRecDepth 100000 in
set_option maxHeartbeats 1000000 in
theorem SameFiles_yes (A A' : Option Addr) (c c' : Nat) (l : List At) (w : World) (hn : l.length ≤ 1000000) (h : RowAt w w.heap.size A 2 l.length (cellsOf encAt l)) (h' : RowAt w w.heap.size A' 2 l.length (cellsOf encAt l)) :
    Calls Tryz.prog 21 #[.slice A l.length c, .slice A' l.length c'] w fun e w' => e = .returned (.bool true) ∧ Below w.heap.size w w' := by
  have H := Lib.hid h
  have H' := Lib.hid h'
  clear h h'
  generalize hN : l.length = N at *
  have HN := Lib.hid hN
  clear hN
  go_enter Tryz.func21, Tryz.ntmps21
  go_wp2
  go_loopw [5] (fun i wr => ∃ k : Nat, k ≤ N ∧ i = .int .i64 k ∧ Hid (Below w.heap.size w wr)) (fun i _ => N - (intOf i).toNat)
  case atStart => exact ⟨0, Nat.zero_le _, rfl, Below.refl _ _⟩
  case round =>
    obtain ⟨k, hk, rfl, hdr⟩ := hrel
    by_cases hlt : k < N
    · obtain ⟨x, hx⟩ : ∃ x, l[k]? = some x := ⟨_, List.getElem?_eq_getElem (by rw [HN.out]; exact hlt)⟩
      have hr := H.out
      have hr' := H'.out
      rw [← HN.out] at hr hr'
      obtain ⟨ba, off, hA, hba, hcc⟩ := hr.fileX hx
      obtain ⟨ba', off', hA', hba', hcc'⟩ := hr'.fileX hx
      obtain ⟨c0, c1⟩ := hcc _ hdr.out
      obtain ⟨d0, d1⟩ := hcc' _ hdr.out
      subst hA hA'
      have hltI : (k : Int) < (N : Int) := by omega
      have hNI : (N : Int) ≤ 1000000 := by omega
      clear hr hr' hcc hcc' hx hba hba'
      go_wp2
      go_quiet (fail)
      go_wp2
      exact ⟨⟨k + 1, by omega, by go_num, below_drewN hdr.out _⟩, by simp [intOf]; omega⟩
    · obtain rfl : k = N := by omega
      go_wp2
      go_ret
      exact ⟨rfl, hdr.out⟩
def kd1 : List At := [⟨⟨#[53, 48, 45, 98]⟩, ⟨#[66, 49]⟩⟩, ⟨⟨#[49, 48, 45, 97]⟩, ⟨#[65]⟩⟩]
def kd2 : List At := [⟨⟨#[53, 48, 45, 98]⟩, ⟨#[66, 50]⟩⟩, ⟨⟨#[57, 48, 45, 99]⟩, ⟨#[]⟩⟩, ⟨⟨#[50, 48, 45, 100]⟩, ⟨#[68]⟩⟩]
def kd3 : List At := [⟨⟨#[49, 48, 45, 97]⟩, ⟨#[65]⟩⟩, ⟨⟨#[50, 48, 45, 100]⟩, ⟨#[68]⟩⟩, ⟨⟨#[53, 48, 45, 98]⟩, ⟨#[66, 49]⟩⟩]
theorem known_val : mergeF [kd1, kd2] = (kd3, 0) := by
  have hc : checkF [kd1, kd2] = 0 := by decide +kernel
  have hm : mergeL [kd1, kd2] = kd3 := by kernel_rfl
  rw [mergeF, if_pos hc, hm]
theorem RowAt.of_cells {W : World} {g : Nat} {T : TypeId} {C : Array Value} {k n : Nat} {xs : List Value} (h : W.heap[g]? = some (.cells C T (0, 0))) (hx : C.toList = xs) (hl : xs.length = n * k) : RowAt W W.heap.size (some ⟨g, 0, none⟩) k n xs :=
  ⟨hl, fun _ => ⟨g, 0, rfl, blk_lt' h, fun j u hu => by
    rw [Nat.zero_add, cell_of_row _ _ j _ _ _ h, ← Array.getElem?_toList, hx]; exact hu⟩⟩
set_option maxRecDepth 100000 in
set_option maxHeartbeats 2000000 in
theorem known_any (w : World) :
    Calls Tryz.prog 15 #[] w fun e w' => e = .returned (.bool true) ∧ Below w.heap.size w w' := by
  have HM : Hid (∀ W, W.heap[w.heap.size]? = some (.cells #[.string ⟨#[53, 48, 45, 98]⟩, .string ⟨#[66, 49]⟩, .string ⟨#[49, 48, 45, 97]⟩, .string ⟨#[65]⟩] 34 (0, 0)) → W.heap[w.heap.size + 1]? = some (.cells #[.string ⟨#[53, 48, 45, 98]⟩, .string ⟨#[66, 50]⟩, .string ⟨#[57, 48, 45, 99]⟩, .string ⟨#[]⟩, .string ⟨#[50, 48, 45, 100]⟩, .string ⟨#[68]⟩] 34 (0, 0)) →
      W.heap[w.heap.size + 2]? = some (.cells #[.slice (some ⟨w.heap.size, 0, none⟩) 2 2, .slice (some ⟨w.heap.size + 1, 0, none⟩) 3 3] 31 (0, 0)) → Calls Tryz.prog 19 #[.slice (some ⟨w.heap.size + 2, 0, none⟩) 2 2] W (FilesPost (kd3, 0) W)) := Lib.hid fun W h0 h1 h2 => by
    have hd : DirsAt W (some ⟨w.heap.size + 2, 0, none⟩) [⟨some ⟨w.heap.size, 0, none⟩, 2, kd1⟩, ⟨some ⟨w.heap.size + 1, 0, none⟩, 3, kd2⟩] := by
      refine ⟨RowAt.of_cells h2 rfl rfl, fun d hd => ?_, fun d hd => ?_⟩
      · rcases List.mem_cons.1 hd with rfl | hd
        · exact RowAt.of_cells h0 rfl rfl
        · obtain rfl := List.mem_singleton.1 hd
          exact RowAt.of_cells h1 rfl rfl
      · rcases List.mem_cons.1 hd with rfl | hd
        · exact Nat.le_refl _
        · obtain rfl := List.mem_singleton.1 hd
          exact Nat.le_refl _
    have hok : ∀ d ∈ [kd1, kd2], ∀ x ∈ d, x.name.size ≤ 100 ∧ x.val.size ≤ 100 := by decide
    have := PMergeD_any _ 2 _ W hd (by show (7 : Nat) ≤ 100000; omega) (fun d hd x hx => by
      have h3 : x.name.size ≤ 100 ∧ x.val.size ≤ 100 := by
        rcases List.mem_cons.1 hd with rfl | hd
        · exact hok kd1 (by simp) x hx
        · obtain rfl := List.mem_singleton.1 hd
          exact hok kd2 (by simp) x hx
      unfold FileOk maxLen
      omega)
    rw [show lsOf [(⟨some ⟨w.heap.size, 0, none⟩, 2, kd1⟩ : Ls At), ⟨some ⟨w.heap.size + 1, 0, none⟩, 3, kd2⟩] = [kd1, kd2] from rfl, known_val] at this
    exact this
  go_enter Tryz.func15, Tryz.ntmps15
  go_wp2_with fail
  refine (HM.out _ (alloc3 _ _ _ _).2.1 (alloc3 _ _ _ _).2.2.1 (alloc3 _ _ _ _).2.2.2.1).mono ?_
  rintro e w1 ⟨A, c, rfl, hc, hr, hb⟩
  have hb1 := (alloc3 w _ _ _).2.2.2.2.trans (hb.mono (alloc3 w _ _ _).2.2.2.2.size)
  have HB1 := Lib.hid hb1
  have HS : Hid (∀ W, Below w1.heap.size w1 W → W.heap[w1.heap.size]? = some (.cells #[.string ⟨#[49, 48, 45, 97]⟩, .string ⟨#[65]⟩, .string ⟨#[50, 48, 45, 100]⟩, .string ⟨#[68]⟩, .string ⟨#[53, 48, 45, 98]⟩, .string ⟨#[66, 49]⟩] 34 (0, 0)) → Calls Tryz.prog 21 #[.slice A 3 c, .slice (some ⟨w1.heap.size, 0, none⟩) 3 3] W fun e w' => e = .returned (.bool true) ∧ Below W.heap.size W w') := Lib.hid fun W hW h0 =>
    SameFiles_yes A (some ⟨w1.heap.size, 0, none⟩) c 3 kd3 W (by decide) ((hr.keep hW).up hW.size) (RowAt.of_cells h0 rfl rfl)
  clear hb hb1 hr hc
  have e0 : ((⟨kd3, 0⟩ : List At × Int).2 == 0) = true := rfl
  go_wp2_with (go_at_call 21; refine (HS.out _ (below_alloc _ _) (heap_alloc_new _ _)).mono ?_; rintro e w5 ⟨rfl, hb5⟩; have HB5 := Lib.hid (bt HB1.out (bt (below_alloc _ _) hb5)); clear hb5)
  go_ret
  exact ⟨rfl, HB5.out⟩
end Go.Proofs.YthcgkeiggnfgiaaGreatDoor
namespace Go.Proofs.YthcgkeiggnfgiaaGreatDoor
open Go.RowKit
theorem fileN_ok : fileN.Nodup ∧ ∀ n ∈ fileN, validS n = true ∧ n.length ≤ 100 := by decide +kernel
theorem sub_mem {l : List At} {i : Nat} (h : SubOk l i) {x : At} (hx : x ∈ l) : nm x ∈ fileN := (List.take_subset _ _) (h.1.subset (List.mem_map.2 ⟨x, hx, rfl⟩))
theorem sub_good {l : List At} (h : SubOk l 3) : badD l = false := by
  refine good_of ((h.1.trans (List.take_sublist _ _)).nodup fileN_ok.1) (List.all_eq_true.2 fun x hx => (fileN_ok.2 _ (sub_mem h hx)).1)
theorem made_ok {ls : List (List At)} (h : MadeD ls) : ∀ l ∈ ls, ∀ x ∈ l, x.name.size ≤ 100 ∧ x.val.size ≤ 6000 := fun l hl x hx => by
  refine ⟨?_, (h l hl).2 x hx⟩
  have := (fileN_ok.2 _ (sub_mem (h l hl) hx)).2
  rwa [nm, len_L] at this
theorem allN_le {ls : List (List At)} (h : MadeD ls) : (allN ls).length ≤ 3 * ls.length := by
  induction ls with
  | nil => simp [allN]
  | cons l r ih =>
    have h1 := sub_len (h l (by simp))
    have h2 := ih (fun x hx => h x (by simp [hx]))
    have e : allN (l :: r) = l.map nm ++ allN r := by simp [allN]
    rw [e, List.length_append, List.length_map, List.length_cons]
    omega
theorem made_check {ls : List (List At)} (h : MadeD ls) (hl : ls.length ≤ 10) : checkF ls = 0 := by
  rw [check_good (fun d hd => sub_good (h d hd)), if_neg]
  have h1 := len_namesS (allN ls)
  have h2 := allN_le h
  omega
theorem hide_check {ls : List (List At)} {x : At} (h : MadeD ls) (hl : ls.length ≤ 10) (hx : validS (nm x) = true) : checkF ([x] :: ls) = 0 := by
  rw [check_good, if_neg]
  · have h1 := len_namesS (allN ([x] :: ls))
    have h2 := allN_le h
    have e : allN ([x] :: ls) = [nm x] ++ allN ls := by simp [allN]
    rw [e, List.length_append, List.length_singleton] at h1
    rw [e]
    omega
  · intro d hd
    rcases List.mem_cons.1 hd with rfl | hd
    · exact good_of (by simp) (by simp [hx])
    · exact sub_good (h d hd)
/-- What the law's last loop finds: whether the last file of a name has a text. -/
def fndS (n s : Str) (l : List At) : Bool := l.foldl (fun f y => if nm y = n then L y.val == s else f) false
theorem fndS_snoc (n s : Str) (l : List At) (y : At) : fndS n s (l ++ [y]) = if nm y = n then L y.val == s else fndS n s l := by simp [fndS]
theorem fndS_filter (n s : Str) (l : List At) : fndS n s l = fndS n s (l.filter fun y => nm y == n) := by
  suffices h : ∀ (l : List At) (b : Bool), l.foldl (fun f y => if nm y = n then L y.val == s else f) b = (l.filter fun y => nm y == n).foldl (fun f y => if nm y = n then L y.val == s else f) b from h l false
  intro l
  induction l with
  | nil => intro b; rfl
  | cons x r ih =>
    intro b
    rw [List.foldl_cons, ih]
    by_cases e : nm x = n
    · have e2 : (nm x == n) = true := by simpa using e
      simp [e]
    · have e2 : (nm x == n) = false := by simpa using e
      simp [e2, e]
theorem fnd_hides (x : At) (ls : List (List At)) : fndS (nm x) (L x.val) (mergeL ([x] :: ls)) = !(L x.val).isEmpty := by
  rw [fndS_filter, mergeL_first]
  cases h : (L x.val).isEmpty with
  | true => rfl
  | false => simp [fndS]
/-- The other files. -/
def othF (n : Str) (l : List At) : List At := l.filter fun y => !(nm y == n)
theorem othF_snoc (n : Str) (l : List At) (y : At) : othF n (l ++ [y]) = if nm y = n then othF n l else othF n l ++ [y] := by
  unfold othF
  rw [List.filter_append]
  by_cases e : nm y = n <;> simp [e]
theorem oth_hides (x : At) (ls : List (List At)) : othF (nm x) (mergeL ([x] :: ls)) = othF (nm x) (mergeL ls) := mergeL_hides x ls
theorem mergeL_len (ls : List (List At)) : (mergeL ls).length ≤ (allN ls).length := Nat.le_trans (List.length_filterMap_le _ _) (len_namesS _)
theorem othF_len (n : Str) (l : List At) : (othF n l).length ≤ l.length := List.length_filter_le _ _
end Go.Proofs.YthcgkeiggnfgiaaGreatDoor
