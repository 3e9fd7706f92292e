/-
  Contracts of slices.Grow at nil and of slices.Concat, over lists of files.
-/
import Derived.Test.YthcgkeiggnfgiaaGreatDoorG15
import Derived.Test.YthcgkeiggnfgiaaGreatDoorG13
import Derived.Test.YthcgkeiggnfgiaaGreatDoorG16
import Derived.Lib.AppendZerosOnto
namespace Go.Proofs.YthcgkeiggnfgiaaGreatDoor
open Go.RowKit
def catF (ds : List (Ls At)) : List At := ds.flatMap (·.l)
theorem catF_take_succ {ds : List (Ls At)} {k : Nat} (hk : k < ds.length) : catF (ds.take (k + 1)) = catF (ds.take k) ++ ds[k].l := by
  unfold catF; rw [List.take_succ_eq_append_getElem hk, List.flatMap_append]; simp only [List.flatMap_cons, List.flatMap_nil, List.append_nil]
theorem catF_len (ds : List (Ls At)) : (catF ds).length ≤ bulk ds := by
  induction ds with
  | nil => exact Nat.zero_le _
  | cons d r ih =>
    rw [bulk_cons]
    have : catF (d :: r) = d.l ++ catF r := by simp [catF]
    rw [this, List.length_append]; omega
theorem catF_take_le (ds : List (Ls At)) (k : Nat) : (catF (ds.take k)).length ≤ (catF ds).length := by
  have : catF ds = catF (ds.take k) ++ catF (ds.drop k) := by
    unfold catF; rw [← List.flatMap_append, List.take_append_drop]
  rw [this, List.length_append]; omega
def NilRow (w : World) (e : Ending) (w' : World) : Prop := ∃ v, e = .returned v ∧ w'.ownsRow w.heap.size 34 2 v 0 [] ∧ Below w.heap.size w w'
set_option maxRecDepth 100000 in
set_option maxHeartbeats 1000000 in
theorem Grow_nil (n : Nat) (hn : n ≤ 1000000) (w : World) :
    Calls Tryz.prog 102 #[.slice none 0 0, .int .i64 n] w (NilRow w) := by
  rcases Nat.eq_zero_or_pos n with rfl | h0
  · go_enter Tryz.func102, Tryz.ntmps102
    go_wp2
    go_ret
    exact ⟨_, rfl, World.ownsRow_nil _ _ _ _, Below.refl _ _⟩
  · obtain ⟨i0, hi0, hz0, hz1, hz2⟩ := info_parts fileInfo
    have hold : (Builtin.firstCells i0.size 0 (.slice none 0 0)).run Tryz.prog w.drew = .ok ([] : List Value).toArray w.drew := run_firstCells_none (w := w.drew) i0.size 0 0 0
    have hrz : ∀ ty, (Builtin.append_ #[31, 3] ty #[.slice none 0 0, .int .i64 (n : Int)]).run Tryz.prog w = .ok (.slice (some ⟨w.heap.size, 0, none⟩) n (grownCap w n 0 34)) (w.drew.alloc (.cells (([] : List Value).toArray ++ Builtin.zeroCells (Value.agg #[.string ⟨#[]⟩, .string ⟨#[]⟩]).cells n ++ Builtin.zeroCells (Value.agg #[.string ⟨#[]⟩, .string ⟨#[]⟩]).cells (grownCap w n 0 34 - n)) 34)) := fun ty => by
      have h := Lib.run_append_grow_zeros w 31 3 ty 34 i0 _ .i64 .i64 Tryz.underlying31 Tryz.underlying3 hi0 hz0 none 0 0 [] hold n h0 (by rw [hz1]; omega) (by omega) (by omega) (by rw [hz2]; omega) (by rw [hz2, Nat.zero_add]; exact growslice_fits h0 (by omega))
      rw [Nat.zero_add] at h
      exact h
    have hGn : n ≤ grownCap w n 0 34 := grownCap_ge w _ _ _
    have hG63 : grownCap w n 0 34 ≤ maxLen := grownCap_le_maxLen w n 0 34 (by unfold maxLen; omega)
    generalize grownCap w n 0 34 = G at *
    have h1 : ¬ ((n : Int) < 0) := by omega
    have h4 : (n : Int) > 0 := by omega
    have hG64 : G ≤ 9223372036854775807 := by unfold maxLen at hG63; omega
    clear hold hi0 hz0 hz1 hz2
    go_enter Tryz.func102, Tryz.ntmps102
    go_wp2_with (at_builtin; refine Lib.wpList_append_run _ rfl _ _ _ _ rfl _ _ rfl rfl _ _ (hrz _) ?_)
    all_goals
      go_ret
      exact ⟨_, rfl, ⟨rfl, Or.inr ⟨w.heap.size, G, _, rfl, Nat.le_refl _, heap_alloc_new w _, Nat.zero_le _, hG63, by simp [size_zeroCells]; omega, by simp⟩⟩, (below_alloc w _).drew⟩
set_option maxRecDepth 100000 in
set_option maxHeartbeats 2000000 in
theorem Concat_any (A : Option Addr) (c : Nat) (ds : List (Ls At)) (w : World) (h : DirsAt w A ds) (hb : bulk ds ≤ 100000) :
    Calls Tryz.prog 59 #[.slice A ds.length c] w fun e w' => ∃ v, e = .returned v ∧ OutIn w (catF ds) v w' := by
  have H := Lib.hid h
  have hM : ds.length ≤ 100000 := Nat.le_trans (bulk_len ds) hb
  have hcl := Nat.le_trans (catF_len ds) hb
  have HT := Lib.hid (fun k => Nat.le_trans (catF_take_le ds k) hcl)
  have HFull : Hid (catF (ds.take ds.length) = catF ds) := Lib.hid (by rw [List.take_length])
  clear h hb
  generalize hMM : ds.length = M at *
  have HM := Lib.hid hMM
  clear hMM
  obtain ⟨i0, hi0, hz0, hz1, hz2⟩ := info_parts fileInfo
  have Hi0 := Lib.hid hi0
  have Hz0 := Lib.hid hz0
  have Hz1 := Lib.hid hz1
  have Hz2 := Lib.hid hz2
  clear hi0 hz0 hz1 hz2
  go_enter Tryz.func59, Tryz.ntmps59
  go_wp2
  go_loopg [3, 5, 11] (M + 1) (fun gk s3 _ s11 wr => ∃ (k b : Nat), s3 = .int .i64 b ∧ s11 = .int .i64 k ∧ k + gk = M + 1 ∧ k ≤ M ∧ b ≤ 100000 ∧ Hid ((catF (ds.take k)).length = b) ∧ Hid (Below w.heap.size w wr))
  case atStart => exact ⟨0, 0, rfl, rfl, by omega, Nat.zero_le _, by omega, (by exact rfl), Below.refl _ _⟩
  case round =>
    obtain ⟨k, b, rfl, rfl, hkg, hkM, hb1, hbe, hB⟩ := hrel
    by_cases hlt : k < M
    · have hltI : (k : Int) < (M : Int) := by omega
      have hk' : k < ds.length := by rw [HM.out]; exact hlt
      obtain ⟨g, off, rfl, hg, hcell, hrow⟩ := H.out.dir hk'
      have hT1 := HT.out (k + 1)
      have hn2 : (catF (ds.take (k + 1))).length = (catF (ds.take k)).length + ds[k].l.length := by rw [catF_take_succ hk', List.length_append]
      rw [hbe.out] at hn2
      rw [hn2] at hT1
      have HN2 := Lib.hid hn2
      have hc0 := hcell wr hB.out
      clear hcell hrow hn2
      generalize ds[k] = d at *
      obtain ⟨dA, dc, dl⟩ := d
      dsimp only at *
      generalize dl.length = N at *
      have hN0 : ¬ ((b : Int) + (N : Int) < 0) := by omega
      go_wp2
      go_roundg (gk - 1)
      case measure => omega
      case rel => exact ⟨k + 1, b + N, by go_num, by go_num, by omega, by omega, hT1, HN2.out, hB.out⟩
    · obtain rfl : k = M := by omega
      have hbb := hbe.out
      rw [HFull.out] at hbb
      have HBb := Lib.hid hbb
      clear hbb hbe
      have hN1 : b ≤ 1000000 := by omega
      have HG := Lib.hid (fun n hn => Grow_nil n hn wr)
      go_wp2_with (go_at_call 102; refine (HG.out _ hN1).mono ?_; rintro e w2 ⟨v, rfl, hown, hb2⟩; have HO := Lib.hid hown; have HB2 := Lib.hid hb2; clear hown hb2)
      have HBw := Lib.hid (bt hB.out HB2.out)
      have hws := hB.out.size
      obtain ⟨w2o, rfl⟩ : ∃ w2o : World, w2o = w2 := ⟨_, rfl⟩
      obtain ⟨wo, rfl⟩ : ∃ wo : World, wo = wr := ⟨_, rfl⟩
      go_loopg [6, 8, 27] (k + 1) (fun gk s6 _ s27 wr => ∃ (m : Nat) (u : Value), u = s6 ∧ s27 = .int .i64 m ∧ m + gk = k + 1 ∧ m ≤ k ∧ Hid (OutIn w (catF (ds.take m)) u wr))
      case atStart => exact ⟨0, _, rfl, rfl, by omega, Nat.zero_le _, ⟨by rw [List.take_zero]; exact own_base HO.out hws, HBw.out⟩⟩
      case round =>
        obtain ⟨m, u, rfl, rfl, hmg, hmk, hO⟩ := hrel
        have hT2 := HT.out m
        by_cases hltm : m < k
        · have hltI : (m : Int) < (k : Int) := by omega
          have hk' : m < ds.length := by rw [HM.out]; exact hltm
          obtain ⟨g, off, rfl, hg, hcell, hrow⟩ := H.out.dir hk'
          have HN := Lib.hid (catF_take_succ hk')
          have hT3 := HT.out (m + 1)
          have hn2 : (catF (ds.take (m + 1))).length = (catF (ds.take m)).length + ds[m].l.length := by rw [HN.out, List.length_append]
          have hc0 := hcell wr hO.out.2
          have HR := Lib.hid (hrow wr hO.out.2)
          have hO' := hO
          have hwx : w.heap.size ≤ wr.heap.size := hO.out.2.size
          clear hcell hrow hO
          obtain ⟨b1, hb1⟩ : ∃ b1, catF (ds.take (m + 1)) = b1 := ⟨_, rfl⟩
          rw [hb1] at HN hT3 hn2
          have HB1 := Lib.hid hb1
          clear hb1
          generalize catF (ds.take m) = b0 at *
          generalize ds[m] = d at *
          obtain ⟨dA, dc, dl⟩ := d
          dsimp only at *
          have HO' := Lib.hid hO'.out.1
          have HOb := Lib.hid hO'.out.2
          clear hO'
          rw [hn2] at hT3
          clear hn2
          generalize hdl : dl.length = N at *
          generalize hbl : b0.length = N0 at *
          have HDl := Lib.hid hdl
          have HBl := Lib.hid hbl
          clear hdl hbl
          go_wp2_with (at_builtin; go_loud (refine wpList_append_row rfl (.tmp 31) (.tmp 32) 31 rfl w.heap.size 34 i0 _ 2 32 Tryz.underlying31 Hi0.out Hz0.out Hz1.out Hz2.out rfl (by omega) u N0 (cellsOf encAt b0) (by rfl) HO'.out dA N dc _ (cellsOf encAt dl) (by rfl) HR.out (fun y hy => by obtain ⟨q, _, hq⟩ := List.mem_flatMap.1 hy; exact encAt_one _ _ hq) (by unfold maxLen; omega) (by omega) (by omega) ?_; intro v4 w4 hown4 hgrow4 hloc4 hnn4))
          have HO4 : Hid (OutIn w b1 v4 w4) := Lib.hid ⟨by rw [HN.out, List.length_append, cellsOf_append, HBl.out, HDl.out]; exact hown4, HOb.out.grown hgrow4 (by omega) (fun j e => (HO'.out.lt j e).1)⟩
          clear hown4 hgrow4 hloc4 hnn4
          go_wp2
          go_roundg (gk - 1)
          case measure => omega
          case rel => exact ⟨m + 1, _, rfl, by go_num, by omega, by omega, by rw [HB1.out]; exact HO4.out⟩
        · obtain rfl : m = k := by omega
          rw [HFull.out] at hO
          go_wp2
          go_ret
          exact ⟨_, rfl, hO.out⟩
end Go.Proofs.YthcgkeiggnfgiaaGreatDoor
