/-
  The law RulesetMerges, walked: for every tape and all directories whose number and files together are at most 2^62, it returns true and turns no memory that was there.
-/
import Derived.Test.YthcgkeiggnfgiaaGreatDoorLHides
import Derived.Test.YthcgkeiggnfgiaaGreatDoorSmallD
import Derived.Test.YthcgkeiggnfgiaaGreatDoorNst3
import Derived.Test.YthcgkeiggnfgiaaGreatDoorOpenD
import Derived.Deep.CutBlock
import Derived.Deep.Cut
namespace Go.Proofs.YthcgkeiggnfgiaaGreatDoor
open Go.RowKit
theorem IntsIn.keep {w W : World} {A : Option Addr} {n : Nat} (h : IntsIn w A n) (hb : Below w.heap.size w W) : IntsIn W A n := by
  obtain ⟨h0, ba, off, hA, hlt, hz⟩ := h
  refine ⟨h0, ba, off, hA, Nat.lt_of_lt_of_le hlt hb.size, fun i hi => ?_⟩
  obtain ⟨z, hc, z1, z2⟩ := hz i hi
  exact ⟨z, by rw [hb.cell (p := ⟨ba, off + i, none⟩) hlt]; exact hc, z1, z2⟩
theorem bulk_le {ds : List (Ls At)} {m : Nat} (h : ∀ d ∈ ds, d.l.length ≤ m) : bulk ds ≤ (m + 1) * ds.length := by
  induction ds with
  | nil => simp [bulk]
  | cons d r ih =>
    have h1 := h d (by simp)
    have h2 := ih (fun x hx => h x (by simp [hx]))
    rw [bulk_cons, List.length_cons, Nat.mul_add]
    omega
theorem mergeF_len (ds : List (Ls At)) : (mergeF (lsOf ds)).1.length ≤ bulk ds := by
  unfold mergeF
  split
  · exact Nat.le_trans (mergeL_len _) (allN_len ds)
  · simp
theorem run_two (w : World) (x y : Int) : (convert 35 9 (.slice (some ⟨w.heap.size, 0, none⟩) 2 2)).run Tryz.prog (w.alloc (.cells #[.int .u8 x, .int .u8 y] 5)) = .ok (.string (strOfNums [x, y])) (w.alloc (.cells #[.int .u8 x, .int .u8 y] 5)) :=
  run_convert_bytes_arg (w.alloc (.cells #[.int .u8 x, .int .u8 y] 5)) 35 5 Tryz.underlying35 Tryz.underlying5 w.heap.size 0 2 2 [x, y] rfl (fun i hi => by
    rw [cell_of_row _ _ (0 + i) _ _ _ (heap_alloc_new w _)]
    rcases (by omega : i = 0 ∨ i = 1) with rfl | rfl <;> rfl) 9 Tryz.underlying9
theorem had (w : World) (o : Obj) : (w.alloc o).drew.heap[w.heap.size]? = some o := heap_alloc_new w o
theorem NstV.outAt {α : Type} {TO TI : TypeId} {k : Nat} {enc : α → List Value} {w : World} {base : Nat} {v : Value} {vs : List Value} {ls : List (List α)} (h : NstV TO TI k enc w base v vs ls) (hv : 0 < vs.length) :
    ∃ (g c : Nat) (cu : Array Value), v = .slice (some ⟨g, 0, none⟩) vs.length c ∧ base ≤ g ∧ w.heap[g]? = some (.cells cu TO (0, 0)) ∧ ∀ (i : Nat) (x : Value), vs[i]? = some x → cu[i]? = some x := by
  rcases h.outer.2 with ⟨_, h0⟩ | ⟨g, cap, cu, h1, hb, hg, hn, _, _, ht⟩
  · omega
  · refine ⟨g, cap, cu, h1, hb, hg, fun i x hx => ?_⟩
    have hi := (List.getElem?_eq_some_iff.1 hx).1
    rw [← ht, List.getElem?_take] at hx
    rw [← Array.getElem?_toList]
    simpa [hi] using hx
set_option maxRecDepth 100000 in
set_option maxHeartbeats 4000000 in
theorem lawMerges (A TA : Option Addr) (c n tc : Nat) (ds : List (Ls At)) (w : World) (hE : Env0 w) (hD : DirsAt w A ds) (hI : IntsIn w TA n) (hb : bulk ds ≤ 4611686018427387904) (hok : ∀ d ∈ ds, ∀ x ∈ d.l, FileOk x) :
    Calls Tryz.prog 3 #[.slice A ds.length c, .slice TA n tc] w fun e w' => e = .returned (.bool true) ∧ Below w.heap.size w w' := by
  have HS := Lib.hid (Small_any A c ds w hD hb)
  have HE := Lib.hid hE
  have HD := Lib.hid hD
  have HI := Lib.hid hI
  have HOk := Lib.hid hok
  clear hE hD hI hok
  by_cases h200 : bulk ds ≤ 200
  · rw [decide_eq_true h200] at HS
    obtain ⟨i0, hi0, hz0, hz1, hz2⟩ := info_parts fileInfo
    have Hi0 := Lib.hid hi0
    have Hz0 := Lib.hid hz0
    have Hz1 := Lib.hid hz1
    have Hz2 := Lib.hid hz2
    obtain ⟨j0, hj0, hy0, hy1, hy2⟩ := info_parts dirInfo
    have Hj0 := Lib.hid hj0
    have Hy0 := Lib.hid hy0
    have Hy1 := Lib.hid hy1
    have Hy2 := Lib.hid hy2
    clear hi0 hz0 hz1 hz2 hj0 hy0 hy1 hy2
    go_enter Tryz.func3, Tryz.ntmps3
    go_wp2_with (first
      | (go_at_call 14; refine HS.out.mono ?_; rintro e w1 ⟨rfl, hb1⟩; have HB1 := Lib.hid hb1; clear hb1))
    have hnG : nG ≤ w1.heap.size := by have := HE.out.size; have := HB1.out.size; omega
    have HT := Lib.hid (TSt.start ((HI.out.keep HB1.out).tape tc 28))
    have HE1 := Lib.hid ((HE.out.go HB1.out).go (below_alloc w1 (.cells #[.slice TA n tc, .int .i64 0] 28)))
    have HB2 := Lib.hid (bt HB1.out (below_alloc w1 (.cells #[.slice TA n tc, .int .i64 0] 28)))
    obtain ⟨W0, hW0⟩ : ∃ W0, w1.alloc (.cells #[.slice TA n tc, .int .i64 0] 28) = W0 := ⟨_, rfl⟩
    rw [hW0] at HT HE1 HB2
    have HS0 : Hid (W0.heap.size = w1.heap.size + 1) := Lib.hid (by rw [← hW0]; simp)
    rw [hW0]
    clear hW0
    (with_reducible refine (Dirs_any (n := n) (p := 0) (d := 0) HT.out HE1.out hnG (by omega)).mono ?_)
    rintro e w2 ⟨v, vs, ls, rfl, hl1, hl2, hN, hMd, hT2⟩
    have HT2 := Lib.hid hT2
    have HN := Lib.hid hN
    have HMd := Lib.hid hMd
    have hw2 : w1.heap.size + 1 ≤ w2.heap.size := by have := hT2.gr.size; have := HS0.out; omega
    clear hN hT2 hMd HT HS
    go_wp2_with fail
    (with_reducible refine (Next_t (n := n) (p := 0) _ HT2.out.st (by omega) (by omega) (by omega)).mono ?_)
    rintro e w3 ⟨r, r0, r1, rfl, hT3⟩
    have HT3 := Lib.hid hT3
    have HTx := Lib.hid (HT2.out.trans hT3)
    have HN3 := Lib.hid (HN.out.other hT3.gr (fun g e => Or.inl (by have := Option.some.inj e; have := HS0.out; omega)))
    have hw3 := hT3.gr.size
    clear hT3 HN HT2
    obtain ⟨rn, rfl⟩ := Int.eq_ofNat_of_zero_le r0
    have hrn : rn ≤ 4 := by omega
    clear r0 r1
    have hr5 : rn = 0 ∨ rn = 1 ∨ 2 ≤ rn := by omega
    go_upto_block 0 with fail
    go_cut [6, 7] from 25 to 62 (fun s6 _ wx => ∃ (v : Value) (vs : List Value) (ls : List (List At)), v = s6 ∧ ls.length ≤ 100 ∧ Hid (DirsV wx W0.heap.size v vs ls) ∧ Hid (∀ l ∈ ls, l.length ≤ 100 ∧ ∀ x ∈ l, x.name.size ≤ 100 ∧ x.val.size ≤ 6000) ∧ Hid (TNx W0 w1.heap.size n 0 60000 W0 wx))
    case first =>
      rcases hr5 with rfl | rfl | hr2
      · obtain ⟨x, vr, rfl⟩ : ∃ x vr, vs = x :: vr := by
          cases vs with
          | nil => have := HN3.out.len; simp at this; omega
          | cons x vr => exact ⟨_, _, rfl⟩
        obtain ⟨cur, lr, rfl⟩ : ∃ cur lr, ls = cur :: lr := by
          cases ls with
          | nil => simp at hl1
          | cons y r => exact ⟨_, _, rfl⟩
        obtain ⟨go, c0, cu, rfl, hgo, hbk, hcu⟩ := HN3.out.outAt (by simp)
        have hgl := blk_lt' hbk
        have hc3 : w3.cell? ⟨go, 0, none⟩ = some x := by rw [cell_of_row _ _ 0 _ _ _ hbk]; exact hcu 0 x rfl
        have hgw : go ≠ w1.heap.size := by have := HS0.out; omega
        have hcl : cur.length ≤ 3 := sub_len (HMd.out cur (by simp))
        have hlr : (cur :: lr).length ≤ 2 := hl2
        have HBk := Lib.hid hbk
        have HCu := Lib.hid (hcu 0 x rfl)
        have HXg := Lib.hid (fun g (e : x.ownBlock = some g) => And.intro (HN3.out.lt (i := 0) rfl e).1 (fun e2 : g = go => HN3.out.off 0 x g rfl e (by rw [e2]; rfl)))
        have HT3 := Lib.hid HTx.out.st
        have hw3d : W0.heap.size ≤ w3.heap.size := HTx.out.gr.size
        have hS0 := HS0.out
        clear hbk hcu
        generalize hvl : (x :: vr).length = vl at *
        have HVl := Lib.hid hvl
        have hvl0 : 0 < vl := by rw [← hvl]; simp
        clear hvl
        go_wp2
        refine wp_region_held_drew (S := fun _ => True) (by kernel_rfl) ?_ (fun hHeld => ?_)
        · trivial
        refine wpAnyH_take (i := 0) (v := ?_) (by simp only [List.getElem?_toArray, List.getElem?_cons_zero]; rfl) (by kernel_rfl) (by kernel_rfl) (by kernel_rfl) (by exact fun _ _ _ h => h) (Or.inl ⟨by rfl, ?_⟩) (by assumption) ?_
        rotate_left
        · intro w hSw
          go_simp
          try with_reducible rfl
        try simp only [Act.put, List.setIfInBounds_toArray, List.set_cons_zero, List.set_cons_succ]
        refine wpAnyH_take (i := 1) (v := ?_) (by simp only [List.getElem?_toArray, List.getElem?_cons_succ, List.getElem?_cons_zero]; rfl) (by kernel_rfl) (by kernel_rfl) (by kernel_rfl) (by exact fun _ _ _ h => h) (Or.inl ⟨by rfl, ?_⟩) (by assumption) ?_
        rotate_left
        · intro w hSw
          go_simp
          try with_reducible rfl
        try simp only [Act.put, List.setIfInBounds_toArray, List.set_cons_zero, List.set_cons_succ]
        refine wpAnyH_take (i := 2) (v := ?_) (by simp only [List.getElem?_toArray, List.getElem?_cons_succ, List.getElem?_cons_zero]; rfl) (by kernel_rfl) (by kernel_rfl) (by kernel_rfl) (by exact fun _ _ _ h => h) (Or.inl ⟨by rfl, ?_⟩) (by assumption) ?_
        rotate_left
        · intro w hSw
          go_simp
          try with_reducible rfl
        try simp only [Act.put, List.setIfInBounds_toArray, List.set_cons_zero, List.set_cons_succ]
        refine wpAnyH_take (i := 4) (v := ?_) (by simp only [List.getElem?_toArray, List.getElem?_cons_succ, List.getElem?_cons_zero]; rfl) (by kernel_rfl) (by kernel_rfl) (by kernel_rfl) (by exact fun _ _ _ h => h) (Or.inl ⟨by rfl, ?_⟩) (by assumption) ?_
        rotate_left
        · intro w hSw
          go_simp
          try with_reducible rfl
        try simp only [Act.put, List.setIfInBounds_toArray, List.set_cons_zero, List.set_cons_succ]
        refine wpAnyH_ready (rs := [3, 5]) (by kernel_rfl) (by simp) ?_
        refine AllReadyH.cons (by simp only [List.getElem?_toArray, List.getElem?_cons_succ, List.getElem?_cons_zero]; rfl) (fun K hK => ?_) (AllReadyH.cons (by simp only [List.getElem?_toArray, List.getElem?_cons_succ, List.getElem?_cons_zero]; rfl) (fun K hK => ?_) AllReadyH.nil)
        · skip
          go_simp
          refine hK.out _ _ trivial (fun hHeld => ?_)
          clear hK K
          try simp only [Act.put, List.setIfInBounds_toArray, List.set_cons_zero, List.set_cons_succ]
          refine wpAnyH_ready (rs := [5]) (by kernel_rfl) (by simp) ?_
          refine AllReadyH.cons (by simp only [List.getElem?_toArray, List.getElem?_cons_succ, List.getElem?_cons_zero]; rfl) (fun K hK => ?_) AllReadyH.nil
          go_simp
          refine hK.out _ _ trivial (fun hHeld => ?_)
          clear hK K
          try simp only [Act.put, List.setIfInBounds_toArray, List.set_cons_zero, List.set_cons_succ]
          refine wpAnyH_ready (rs := [6]) (by kernel_rfl) (by simp) ?_
          refine AllReadyH.cons (by simp only [List.getElem?_toArray, List.getElem?_cons_succ, List.getElem?_cons_zero]; rfl) (fun K hK => ?_) AllReadyH.nil
          go_simp
          (with_reducible refine (One_k (n := n) (p := 0) 100 _ _ _ _ _ (HT3.out.below (by go_grown)) (by first | exact heap_alloc_new w3 _ | exact had w3 _) (by decide) (by simp) (by decide) (by decide) (by omega) (by omega)).mono ?_)
          rintro e w4 ⟨s, hs, rfl, hT4⟩
          have HT4 := Lib.hid (hT4.of_below (W := w3) (by go_grown))
          have hw4 := HT4.out.gr.size
          have HB4 := Lib.hid (HT4.out.blk (g := go) HBk.out hgw)
          have HN4 := Lib.hid (HN3.out.other HT4.out.gr (fun g e => Or.inl (by have := Option.some.inj e; omega)))
          have hc4 : w4.cell? ⟨go, 0, none⟩ = some x := (by rw [cell_of_row _ _ 0 _ _ _ HB4.out]; exact HCu.out)
          have hgl4 := blk_lt' HB4.out
          clear hT4
          refine hK.out _ _ trivial (fun hHeld => ?_)
          clear hK K
          try simp only [Act.put, List.setIfInBounds_toArray, List.set_cons_zero, List.set_cons_succ]
          refine wpAnyH_take (i := 7) (v := ?_) (by simp only [List.getElem?_toArray, List.getElem?_cons_succ, List.getElem?_cons_zero]; rfl) (by kernel_rfl) (by kernel_rfl) (by kernel_rfl) (by exact fun _ _ _ h => h) (Or.inl ⟨by rfl, ?_⟩) (by assumption) ?_
          rotate_left
          · intro w hSw
            go_simp
            try with_reducible rfl
          try simp only [Act.put, List.setIfInBounds_toArray, List.set_cons_zero, List.set_cons_succ]
          refine wpAnyH_ready (rs := [8]) (by kernel_rfl) (by simp) ?_
          refine AllReadyH.cons (by simp only [List.getElem?_toArray, List.getElem?_cons_succ, List.getElem?_cons_zero]; rfl) (fun K hK => ?_) AllReadyH.nil
          go_simp
          refine hK.out _ _ trivial (fun hHeld => ?_)
          clear hK K
          try simp only [Act.put, List.setIfInBounds_toArray, List.set_cons_zero, List.set_cons_succ]
          refine wpAnyH_ready (rs := [9]) (by kernel_rfl) (by simp) ?_
          refine AllReadyH.cons (by simp only [List.getElem?_toArray, List.getElem?_cons_succ, List.getElem?_cons_zero]; rfl) (fun K hK => ?_) AllReadyH.nil
          refine step_append_lies _ (by rfl) _ _ _ (by rfl) W0.heap.size 34 i0 _ 2 32 Tryz.underlying31 Hi0.out Hz0.out Hz1.out Hz2.out rfl (by omega) x cur.length (cellsOf encAt cur) (by rfl) ((HN4.out.inner 0 x cur rfl rfl).alloc _) _ 1 1 (encAt ⟨s, ⟨#[]⟩⟩) (by rfl) (by rfl) (by exact World.news_of_block (B := w4.heap.size) (heap_alloc_new _ _)) (encAt_one _) (by omega) (by unfold maxLen; omega) (by omega) (by simp; omega) _ rfl ?_
          intro g2 cap w9 hown2 hgrow2 hat2 hlt2
          have HB9 := Lib.hid ((hgrow2.block go (by simp; omega) (fun e => (HXg.out go e.symm).2 rfl)).trans ((Below.heap_alloc _ _ _ hgl4).trans HB4.out))
          have hc9 : w9.cell? ⟨go, 0, none⟩ = some x := (by rw [cell_of_row _ _ 0 _ _ _ HB9.out]; exact HCu.out)
          have hf9 : w9.frozen? ⟨go, 0, none⟩ = false := frozen_of_row _ _ _ _ _ HB9.out
          have hgl9 := blk_lt' HB9.out
          have HOw := Lib.hid hown2
          have HGr := Lib.hid hgrow2
          have HAt := Lib.hid hat2
          clear hown2 hgrow2 hat2 hlt2
          refine hK.out _ _ trivial (fun hHeld => ?_)
          clear hK K
          try simp only [Act.put, List.setIfInBounds_toArray, List.set_cons_zero, List.set_cons_succ]
          refine wpAnyH_take (i := 10) (v := ?_) (by simp only [List.getElem?_toArray, List.getElem?_cons_succ, List.getElem?_cons_zero]; rfl) (by kernel_rfl) (by kernel_rfl) (by kernel_rfl) (by exact fun _ _ _ h => h) (Or.inl ⟨by rfl, ?_⟩) (by assumption) ?_
          rotate_left
          · intro w hSw
            go_simp
            try with_reducible rfl
          try simp only [Act.put, List.setIfInBounds_toArray, List.set_cons_zero, List.set_cons_succ]
          refine wpAnyH_ready (rs := [11]) (by kernel_rfl) (by simp) ?_
          refine AllReadyH.cons (by simp only [List.getElem?_toArray, List.getElem?_cons_succ, List.getElem?_cons_zero]; rfl) (fun K hK => ?_) AllReadyH.nil
          go_simp
          refine hK.out _ _ trivial (fun hHeld => ?_)
          clear hK K
          try simp only [Act.put, List.setIfInBounds_toArray, List.set_cons_zero, List.set_cons_succ]
          refine wpAnyH_done (by kernel_rfl) ?_ _
          have HNa := Lib.hid (HN4.out.below (below_alloc w4 (.cells #[.string s, .string ⟨#[]⟩] 34)))
          have HN5 := Lib.hid (NstV.appendAt (t := ⟨s, ⟨#[]⟩⟩) 0 HNa.out HVl.out rfl rfl HOw.out HGr.out (HAt.out.imp id (fun e => by rw [e]; exact Nat.le_refl _)))
          have HTz := Lib.hid ((((HTx.out.trans HT4.out).allocR.grownR HGr.out (fun j e => ⟨(HXg.out j e).1, (HXg.out j e).1⟩))).setCellR (i := 0) (u := .slice (some ⟨g2, 0, none⟩) (cur.length + 1) cap) hgo (Nat.le_refl _))
          clear HN4 HT4 HNa HOw HGr HAt
          go_wp2
          go_meet
          case rel => exact ⟨_, _, _, rfl, by rw [List.length_set]; omega, HN5.out, fun l hl => by
            rcases List.mem_cons.1 hl with rfl | hl
            · refine ⟨by rw [List.length_append, List.length_singleton]; omega, fun y hy => ?_⟩
              rcases List.mem_append.1 hy with hy | hy
              · exact made_ok HMd.out cur (by simp) y hy
              · obtain rfl := List.mem_singleton.1 hy
                exact ⟨hs, Nat.zero_le _⟩
            · exact ⟨by have := sub_len (HMd.out l (by simp [hl])); omega, fun y hy => made_ok HMd.out l (by simp [hl]) y hy⟩, HTz.out.more (by omega)⟩
        · skip
          go_simp
          refine hK.out _ _ trivial (fun hHeld => ?_)
          clear hK K
          try simp only [Act.put, List.setIfInBounds_toArray, List.set_cons_zero, List.set_cons_succ]
          refine wpAnyH_ready (rs := [3, 6]) (by kernel_rfl) (by simp) ?_
          refine AllReadyH.cons (by simp only [List.getElem?_toArray, List.getElem?_cons_succ, List.getElem?_cons_zero]; rfl) (fun K hK => ?_) (AllReadyH.cons (by simp only [List.getElem?_toArray, List.getElem?_cons_succ, List.getElem?_cons_zero]; rfl) (fun K hK => ?_) AllReadyH.nil)
          · skip
            go_simp
            refine hK.out _ _ trivial (fun hHeld => ?_)
            clear hK K
            try simp only [Act.put, List.setIfInBounds_toArray, List.set_cons_zero, List.set_cons_succ]
            refine wpAnyH_ready (rs := [6]) (by kernel_rfl) (by simp) ?_
            refine AllReadyH.cons (by simp only [List.getElem?_toArray, List.getElem?_cons_succ, List.getElem?_cons_zero]; rfl) (fun K hK => ?_) AllReadyH.nil
            go_simp
            (with_reducible refine (One_k (n := n) (p := 0) 100 _ _ _ _ _ (HT3.out.below (by go_grown)) (by first | exact heap_alloc_new w3 _ | exact had w3 _) (by decide) (by simp) (by decide) (by decide) (by omega) (by omega)).mono ?_)
            rintro e w4 ⟨s, hs, rfl, hT4⟩
            have HT4 := Lib.hid (hT4.of_below (W := w3) (by go_grown))
            have hw4 := HT4.out.gr.size
            have HB4 := Lib.hid (HT4.out.blk (g := go) HBk.out hgw)
            have HN4 := Lib.hid (HN3.out.other HT4.out.gr (fun g e => Or.inl (by have := Option.some.inj e; omega)))
            have hc4 : w4.cell? ⟨go, 0, none⟩ = some x := (by rw [cell_of_row _ _ 0 _ _ _ HB4.out]; exact HCu.out)
            have hgl4 := blk_lt' HB4.out
            clear hT4
            refine hK.out _ _ trivial (fun hHeld => ?_)
            clear hK K
            try simp only [Act.put, List.setIfInBounds_toArray, List.set_cons_zero, List.set_cons_succ]
            refine wpAnyH_take (i := 7) (v := ?_) (by simp only [List.getElem?_toArray, List.getElem?_cons_succ, List.getElem?_cons_zero]; rfl) (by kernel_rfl) (by kernel_rfl) (by kernel_rfl) (by exact fun _ _ _ h => h) (Or.inl ⟨by rfl, ?_⟩) (by assumption) ?_
            rotate_left
            · intro w hSw
              go_simp
              try with_reducible rfl
            try simp only [Act.put, List.setIfInBounds_toArray, List.set_cons_zero, List.set_cons_succ]
            refine wpAnyH_ready (rs := [8]) (by kernel_rfl) (by simp) ?_
            refine AllReadyH.cons (by simp only [List.getElem?_toArray, List.getElem?_cons_succ, List.getElem?_cons_zero]; rfl) (fun K hK => ?_) AllReadyH.nil
            go_simp
            refine hK.out _ _ trivial (fun hHeld => ?_)
            clear hK K
            try simp only [Act.put, List.setIfInBounds_toArray, List.set_cons_zero, List.set_cons_succ]
            refine wpAnyH_ready (rs := [9]) (by kernel_rfl) (by simp) ?_
            refine AllReadyH.cons (by simp only [List.getElem?_toArray, List.getElem?_cons_succ, List.getElem?_cons_zero]; rfl) (fun K hK => ?_) AllReadyH.nil
            refine step_append_lies _ (by rfl) _ _ _ (by rfl) W0.heap.size 34 i0 _ 2 32 Tryz.underlying31 Hi0.out Hz0.out Hz1.out Hz2.out rfl (by omega) x cur.length (cellsOf encAt cur) (by rfl) ((HN4.out.inner 0 x cur rfl rfl).alloc _) _ 1 1 (encAt ⟨s, ⟨#[]⟩⟩) (by rfl) (by rfl) (by exact World.news_of_block (B := w4.heap.size) (heap_alloc_new _ _)) (encAt_one _) (by omega) (by unfold maxLen; omega) (by omega) (by simp; omega) _ rfl ?_
            intro g2 cap w9 hown2 hgrow2 hat2 hlt2
            have HB9 := Lib.hid ((hgrow2.block go (by simp; omega) (fun e => (HXg.out go e.symm).2 rfl)).trans ((Below.heap_alloc _ _ _ hgl4).trans HB4.out))
            have hc9 : w9.cell? ⟨go, 0, none⟩ = some x := (by rw [cell_of_row _ _ 0 _ _ _ HB9.out]; exact HCu.out)
            have hf9 : w9.frozen? ⟨go, 0, none⟩ = false := frozen_of_row _ _ _ _ _ HB9.out
            have hgl9 := blk_lt' HB9.out
            have HOw := Lib.hid hown2
            have HGr := Lib.hid hgrow2
            have HAt := Lib.hid hat2
            clear hown2 hgrow2 hat2 hlt2
            refine hK.out _ _ trivial (fun hHeld => ?_)
            clear hK K
            try simp only [Act.put, List.setIfInBounds_toArray, List.set_cons_zero, List.set_cons_succ]
            refine wpAnyH_take (i := 10) (v := ?_) (by simp only [List.getElem?_toArray, List.getElem?_cons_succ, List.getElem?_cons_zero]; rfl) (by kernel_rfl) (by kernel_rfl) (by kernel_rfl) (by exact fun _ _ _ h => h) (Or.inl ⟨by rfl, ?_⟩) (by assumption) ?_
            rotate_left
            · intro w hSw
              go_simp
              try with_reducible rfl
            try simp only [Act.put, List.setIfInBounds_toArray, List.set_cons_zero, List.set_cons_succ]
            refine wpAnyH_ready (rs := [11]) (by kernel_rfl) (by simp) ?_
            refine AllReadyH.cons (by simp only [List.getElem?_toArray, List.getElem?_cons_succ, List.getElem?_cons_zero]; rfl) (fun K hK => ?_) AllReadyH.nil
            go_simp
            refine hK.out _ _ trivial (fun hHeld => ?_)
            clear hK K
            try simp only [Act.put, List.setIfInBounds_toArray, List.set_cons_zero, List.set_cons_succ]
            refine wpAnyH_done (by kernel_rfl) ?_ _
            have HNa := Lib.hid (HN4.out.below (below_alloc w4 (.cells #[.string s, .string ⟨#[]⟩] 34)))
            have HN5 := Lib.hid (NstV.appendAt (t := ⟨s, ⟨#[]⟩⟩) 0 HNa.out HVl.out rfl rfl HOw.out HGr.out (HAt.out.imp id (fun e => by rw [e]; exact Nat.le_refl _)))
            have HTz := Lib.hid ((((HTx.out.trans HT4.out).allocR.grownR HGr.out (fun j e => ⟨(HXg.out j e).1, (HXg.out j e).1⟩))).setCellR (i := 0) (u := .slice (some ⟨g2, 0, none⟩) (cur.length + 1) cap) hgo (Nat.le_refl _))
            clear HN4 HT4 HNa HOw HGr HAt
            go_wp2
            go_meet
            case rel => exact ⟨_, _, _, rfl, by rw [List.length_set]; omega, HN5.out, fun l hl => by
              rcases List.mem_cons.1 hl with rfl | hl
              · refine ⟨by rw [List.length_append, List.length_singleton]; omega, fun y hy => ?_⟩
                rcases List.mem_append.1 hy with hy | hy
                · exact made_ok HMd.out cur (by simp) y hy
                · obtain rfl := List.mem_singleton.1 hy
                  exact ⟨hs, Nat.zero_le _⟩
              · exact ⟨by have := sub_len (HMd.out l (by simp [hl])); omega, fun y hy => made_ok HMd.out l (by simp [hl]) y hy⟩, HTz.out.more (by omega)⟩
          · skip
            go_simp
            (with_reducible refine (One_k (n := n) (p := 0) 100 _ _ _ _ _ (HT3.out.below (by go_grown)) (by first | exact heap_alloc_new w3 _ | exact had w3 _) (by decide) (by simp) (by decide) (by decide) (by omega) (by omega)).mono ?_)
            rintro e w4 ⟨s, hs, rfl, hT4⟩
            have HT4 := Lib.hid (hT4.of_below (W := w3) (by go_grown))
            have hw4 := HT4.out.gr.size
            have HB4 := Lib.hid (HT4.out.blk (g := go) HBk.out hgw)
            have HN4 := Lib.hid (HN3.out.other HT4.out.gr (fun g e => Or.inl (by have := Option.some.inj e; omega)))
            have hc4 : w4.cell? ⟨go, 0, none⟩ = some x := (by rw [cell_of_row _ _ 0 _ _ _ HB4.out]; exact HCu.out)
            have hgl4 := blk_lt' HB4.out
            clear hT4
            refine hK.out _ _ trivial (fun hHeld => ?_)
            clear hK K
            try simp only [Act.put, List.setIfInBounds_toArray, List.set_cons_zero, List.set_cons_succ]
            refine wpAnyH_take (i := 7) (v := ?_) (by simp only [List.getElem?_toArray, List.getElem?_cons_succ, List.getElem?_cons_zero]; rfl) (by kernel_rfl) (by kernel_rfl) (by kernel_rfl) (by exact fun _ _ _ h => h) (Or.inl ⟨by rfl, ?_⟩) (by assumption) ?_
            rotate_left
            · intro w hSw
              go_simp
              try with_reducible rfl
            try simp only [Act.put, List.setIfInBounds_toArray, List.set_cons_zero, List.set_cons_succ]
            refine wpAnyH_ready (rs := [3, 8]) (by kernel_rfl) (by simp) ?_
            refine AllReadyH.cons (by simp only [List.getElem?_toArray, List.getElem?_cons_succ, List.getElem?_cons_zero]; rfl) (fun K hK => ?_) (AllReadyH.cons (by simp only [List.getElem?_toArray, List.getElem?_cons_succ, List.getElem?_cons_zero]; rfl) (fun K hK => ?_) AllReadyH.nil)
            · skip
              go_simp
              refine hK.out _ _ trivial (fun hHeld => ?_)
              clear hK K
              try simp only [Act.put, List.setIfInBounds_toArray, List.set_cons_zero, List.set_cons_succ]
              refine wpAnyH_ready (rs := [8]) (by kernel_rfl) (by simp) ?_
              refine AllReadyH.cons (by simp only [List.getElem?_toArray, List.getElem?_cons_succ, List.getElem?_cons_zero]; rfl) (fun K hK => ?_) AllReadyH.nil
              go_simp
              refine hK.out _ _ trivial (fun hHeld => ?_)
              clear hK K
              try simp only [Act.put, List.setIfInBounds_toArray, List.set_cons_zero, List.set_cons_succ]
              refine wpAnyH_ready (rs := [9]) (by kernel_rfl) (by simp) ?_
              refine AllReadyH.cons (by simp only [List.getElem?_toArray, List.getElem?_cons_succ, List.getElem?_cons_zero]; rfl) (fun K hK => ?_) AllReadyH.nil
              refine step_append_lies _ (by rfl) _ _ _ (by rfl) W0.heap.size 34 i0 _ 2 32 Tryz.underlying31 Hi0.out Hz0.out Hz1.out Hz2.out rfl (by omega) x cur.length (cellsOf encAt cur) (by rfl) ((HN4.out.inner 0 x cur rfl rfl).alloc _) _ 1 1 (encAt ⟨s, ⟨#[]⟩⟩) (by rfl) (by rfl) (by exact World.news_of_block (B := w4.heap.size) (heap_alloc_new _ _)) (encAt_one _) (by omega) (by unfold maxLen; omega) (by omega) (by simp; omega) _ rfl ?_
              intro g2 cap w9 hown2 hgrow2 hat2 hlt2
              have HB9 := Lib.hid ((hgrow2.block go (by simp; omega) (fun e => (HXg.out go e.symm).2 rfl)).trans ((Below.heap_alloc _ _ _ hgl4).trans HB4.out))
              have hc9 : w9.cell? ⟨go, 0, none⟩ = some x := (by rw [cell_of_row _ _ 0 _ _ _ HB9.out]; exact HCu.out)
              have hf9 : w9.frozen? ⟨go, 0, none⟩ = false := frozen_of_row _ _ _ _ _ HB9.out
              have hgl9 := blk_lt' HB9.out
              have HOw := Lib.hid hown2
              have HGr := Lib.hid hgrow2
              have HAt := Lib.hid hat2
              clear hown2 hgrow2 hat2 hlt2
              refine hK.out _ _ trivial (fun hHeld => ?_)
              clear hK K
              try simp only [Act.put, List.setIfInBounds_toArray, List.set_cons_zero, List.set_cons_succ]
              refine wpAnyH_take (i := 10) (v := ?_) (by simp only [List.getElem?_toArray, List.getElem?_cons_succ, List.getElem?_cons_zero]; rfl) (by kernel_rfl) (by kernel_rfl) (by kernel_rfl) (by exact fun _ _ _ h => h) (Or.inl ⟨by rfl, ?_⟩) (by assumption) ?_
              rotate_left
              · intro w hSw
                go_simp
                try with_reducible rfl
              try simp only [Act.put, List.setIfInBounds_toArray, List.set_cons_zero, List.set_cons_succ]
              refine wpAnyH_ready (rs := [11]) (by kernel_rfl) (by simp) ?_
              refine AllReadyH.cons (by simp only [List.getElem?_toArray, List.getElem?_cons_succ, List.getElem?_cons_zero]; rfl) (fun K hK => ?_) AllReadyH.nil
              go_simp
              refine hK.out _ _ trivial (fun hHeld => ?_)
              clear hK K
              try simp only [Act.put, List.setIfInBounds_toArray, List.set_cons_zero, List.set_cons_succ]
              refine wpAnyH_done (by kernel_rfl) ?_ _
              have HNa := Lib.hid (HN4.out.below (below_alloc w4 (.cells #[.string s, .string ⟨#[]⟩] 34)))
              have HN5 := Lib.hid (NstV.appendAt (t := ⟨s, ⟨#[]⟩⟩) 0 HNa.out HVl.out rfl rfl HOw.out HGr.out (HAt.out.imp id (fun e => by rw [e]; exact Nat.le_refl _)))
              have HTz := Lib.hid ((((HTx.out.trans HT4.out).allocR.grownR HGr.out (fun j e => ⟨(HXg.out j e).1, (HXg.out j e).1⟩))).setCellR (i := 0) (u := .slice (some ⟨g2, 0, none⟩) (cur.length + 1) cap) hgo (Nat.le_refl _))
              clear HN4 HT4 HNa HOw HGr HAt
              go_wp2
              go_meet
              case rel => exact ⟨_, _, _, rfl, by rw [List.length_set]; omega, HN5.out, fun l hl => by
                rcases List.mem_cons.1 hl with rfl | hl
                · refine ⟨by rw [List.length_append, List.length_singleton]; omega, fun y hy => ?_⟩
                  rcases List.mem_append.1 hy with hy | hy
                  · exact made_ok HMd.out cur (by simp) y hy
                  · obtain rfl := List.mem_singleton.1 hy
                    exact ⟨hs, Nat.zero_le _⟩
                · exact ⟨by have := sub_len (HMd.out l (by simp [hl])); omega, fun y hy => made_ok HMd.out l (by simp [hl]) y hy⟩, HTz.out.more (by omega)⟩
            · skip
              go_simp
              refine hK.out _ _ trivial (fun hHeld => ?_)
              clear hK K
              try simp only [Act.put, List.setIfInBounds_toArray, List.set_cons_zero, List.set_cons_succ]
              refine wpAnyH_ready (rs := [3]) (by kernel_rfl) (by simp) ?_
              refine AllReadyH.cons (by simp only [List.getElem?_toArray, List.getElem?_cons_succ, List.getElem?_cons_zero]; rfl) (fun K hK => ?_) AllReadyH.nil
              go_simp
              refine hK.out _ _ trivial (fun hHeld => ?_)
              clear hK K
              try simp only [Act.put, List.setIfInBounds_toArray, List.set_cons_zero, List.set_cons_succ]
              refine wpAnyH_ready (rs := [9]) (by kernel_rfl) (by simp) ?_
              refine AllReadyH.cons (by simp only [List.getElem?_toArray, List.getElem?_cons_succ, List.getElem?_cons_zero]; rfl) (fun K hK => ?_) AllReadyH.nil
              refine step_append_lies _ (by rfl) _ _ _ (by rfl) W0.heap.size 34 i0 _ 2 32 Tryz.underlying31 Hi0.out Hz0.out Hz1.out Hz2.out rfl (by omega) x cur.length (cellsOf encAt cur) (by rfl) ((HN4.out.inner 0 x cur rfl rfl).alloc _) _ 1 1 (encAt ⟨s, ⟨#[]⟩⟩) (by rfl) (by rfl) (by exact World.news_of_block (B := w4.heap.size) (heap_alloc_new _ _)) (encAt_one _) (by omega) (by unfold maxLen; omega) (by omega) (by simp; omega) _ rfl ?_
              intro g2 cap w9 hown2 hgrow2 hat2 hlt2
              have HB9 := Lib.hid ((hgrow2.block go (by simp; omega) (fun e => (HXg.out go e.symm).2 rfl)).trans ((Below.heap_alloc _ _ _ hgl4).trans HB4.out))
              have hc9 : w9.cell? ⟨go, 0, none⟩ = some x := (by rw [cell_of_row _ _ 0 _ _ _ HB9.out]; exact HCu.out)
              have hf9 : w9.frozen? ⟨go, 0, none⟩ = false := frozen_of_row _ _ _ _ _ HB9.out
              have hgl9 := blk_lt' HB9.out
              have HOw := Lib.hid hown2
              have HGr := Lib.hid hgrow2
              have HAt := Lib.hid hat2
              clear hown2 hgrow2 hat2 hlt2
              refine hK.out _ _ trivial (fun hHeld => ?_)
              clear hK K
              try simp only [Act.put, List.setIfInBounds_toArray, List.set_cons_zero, List.set_cons_succ]
              refine wpAnyH_take (i := 10) (v := ?_) (by simp only [List.getElem?_toArray, List.getElem?_cons_succ, List.getElem?_cons_zero]; rfl) (by kernel_rfl) (by kernel_rfl) (by kernel_rfl) (by exact fun _ _ _ h => h) (Or.inl ⟨by rfl, ?_⟩) (by assumption) ?_
              rotate_left
              · intro w hSw
                go_simp
                try with_reducible rfl
              try simp only [Act.put, List.setIfInBounds_toArray, List.set_cons_zero, List.set_cons_succ]
              refine wpAnyH_ready (rs := [11]) (by kernel_rfl) (by simp) ?_
              refine AllReadyH.cons (by simp only [List.getElem?_toArray, List.getElem?_cons_succ, List.getElem?_cons_zero]; rfl) (fun K hK => ?_) AllReadyH.nil
              go_simp
              refine hK.out _ _ trivial (fun hHeld => ?_)
              clear hK K
              try simp only [Act.put, List.setIfInBounds_toArray, List.set_cons_zero, List.set_cons_succ]
              refine wpAnyH_done (by kernel_rfl) ?_ _
              have HNa := Lib.hid (HN4.out.below (below_alloc w4 (.cells #[.string s, .string ⟨#[]⟩] 34)))
              have HN5 := Lib.hid (NstV.appendAt (t := ⟨s, ⟨#[]⟩⟩) 0 HNa.out HVl.out rfl rfl HOw.out HGr.out (HAt.out.imp id (fun e => by rw [e]; exact Nat.le_refl _)))
              have HTz := Lib.hid ((((HTx.out.trans HT4.out).allocR.grownR HGr.out (fun j e => ⟨(HXg.out j e).1, (HXg.out j e).1⟩))).setCellR (i := 0) (u := .slice (some ⟨g2, 0, none⟩) (cur.length + 1) cap) hgo (Nat.le_refl _))
              clear HN4 HT4 HNa HOw HGr HAt
              go_wp2
              go_meet
              case rel => exact ⟨_, _, _, rfl, by rw [List.length_set]; omega, HN5.out, fun l hl => by
                rcases List.mem_cons.1 hl with rfl | hl
                · refine ⟨by rw [List.length_append, List.length_singleton]; omega, fun y hy => ?_⟩
                  rcases List.mem_append.1 hy with hy | hy
                  · exact made_ok HMd.out cur (by simp) y hy
                  · obtain rfl := List.mem_singleton.1 hy
                    exact ⟨hs, Nat.zero_le _⟩
                · exact ⟨by have := sub_len (HMd.out l (by simp [hl])); omega, fun y hy => made_ok HMd.out l (by simp [hl]) y hy⟩, HTz.out.more (by omega)⟩
      · go_wp2
        go_loopg [6, 7] 67 (fun gk s6 s7 wr => ∃ (i : Nat) (v : Value) (vs : List Value) (ls : List (List At)), v = s6 ∧ s7 = .int .i64 i ∧ i + gk = 67 ∧ i ≤ 66 ∧ ls.length ≤ 2 + i ∧ Hid (DirsV wr W0.heap.size v vs ls) ∧ Hid (∀ l ∈ ls, l.length ≤ 100 ∧ ∀ x ∈ l, x.name.size ≤ 100 ∧ x.val.size ≤ 6000) ∧ Hid (TNx W0 w1.heap.size n 0 (4001 + i) W0 wr))
        case atStart => exact ⟨0, v, vs, ls, rfl, rfl, by omega, by omega, by omega, HN3.out, fun l hl => ⟨by have := sub_len (HMd.out l hl); omega, fun x hx => made_ok HMd.out l hl x hx⟩, HTx.out.more (by omega)⟩
        case round =>
          clear HN3 HMd HTx hl1 hl2
          obtain ⟨i, v, vs, ls, rfl, rfl, hig, hi66, hls, hN, hM, hT⟩ := hrel
          go_wp2_with fail
          (with_reducible refine (Next_t (n := n) (p := 0) _ hT.out.st (by omega) (by omega) (by omega)).mono ?_)
          rintro e w4 ⟨r, r0, r1, rfl, hT4⟩
          obtain ⟨rr, rfl⟩ := Int.eq_ofNat_of_zero_le r0
          have HT4 := Lib.hid (hT.out.trans hT4)
          have HN4 := Lib.hid (hN.out.other hT4.gr (fun g e => Or.inl (by have := Option.some.inj e; have := HS0.out; omega)))
          have hw4 := hT4.gr.size
          clear hT4 hN hT
          by_cases hlt : i + rr < 64
          · have hltI : (i : Int) < 64 - (rr : Int) := by omega
            have hcv := run_two w4 (97 + (i : Int) / 26) (97 + (i : Int) % 26)
            have hsz2 : (strOfNums [97 + (i : Int) / 26, 97 + (i : Int) % 26]).size = 2 := rfl
            generalize strOfNums [97 + (i : Int) / 26, 97 + (i : Int) % 26] = s2 at *
            have hovf : (9223372036854775807 < (⟨#[120]⟩ : ByteArray).size + s2.size) = False := by rw [hsz2]; decide
            have hvl := HN4.out.len
            obtain ⟨A4, c4, rfl⟩ := own_slice HN4.out.outer
            have hvl2 : vs.length ≤ 100 := by omega
            have hwz : W0.heap.size ≤ w4.heap.size := HT4.out.gr.size
            have HVL := Lib.hid hvl
            clear hvl
            go_wp2_with (at_builtin; go_loud (refine wpList_append_lies _ rfl _ _ _ (by rfl) W0.heap.size 31 j0 _ 1 24 Tryz.underlying22 Hj0.out Hy0.out Hy1.out Hy2.out rfl (by omega) (.slice A4 vs.length c4) vs.length vs (by rfl) (((HN4.out.outer.alloc _).alloc _).alloc _) _ 1 1 [Value.slice (some ⟨w4.heap.size + 1, 0, none⟩) 1 1] (by rfl) (by rfl) (by exact World.news_of_block (alloc3 w4 _ _ _).2.2.2.1) (by simp [Value.oneCell']) (by omega) (by unfold maxLen; omega) (by omega) (by simp; omega) _ rfl ?_; intro g2 cap w9 hown2 hgrow2 hat2 hlt2))
            have hx := World.ownsRow_lit (base := W0.heap.size) (e := 34) (size := 2) (w4.alloc (.cells #[.int .u8 (97 + (i : Int) / 26), .int .u8 (97 + (i : Int) % 26)] 5)) #[.string (⟨#[120]⟩ ++ s2), .string ⟨#[]⟩] 1 (by simp; omega) (by unfold maxLen; omega) rfl
            rw [World.size_alloc] at hx
            have HN5 := Lib.hid (NstV.push (x := .slice (some ⟨w4.heap.size + 1, 0, none⟩) 1 1) (l := [⟨⟨#[120]⟩ ++ s2, ⟨#[]⟩⟩]) (((HN4.out.below (below_alloc _ _)).below (below_alloc _ _)).below (below_alloc _ _)) (hx.alloc _) (fun g e => by
              obtain rfl : w4.heap.size + 1 = g := by simpa [Value.ownBlock] using e
              exact HN4.out.fresh (by omega)) rfl hown2 hgrow2 (hat2.imp id (fun e => by rw [e]; exact Nat.le_refl _)))
            have HT5 := Lib.hid (((HT4.out.allocR.allocR.allocR).grownR hgrow2 (fun j e => ⟨(HN4.out.outer.lt j e).1, (HN4.out.outer.lt j e).1⟩)))
            have HM5 : Hid (∀ l ∈ ls ++ [[(⟨⟨#[120]⟩ ++ s2, ⟨#[]⟩⟩ : At)]], l.length ≤ 100 ∧ ∀ x ∈ l, x.name.size ≤ 100 ∧ x.val.size ≤ 6000) := Lib.hid fun l hl => by
              rcases List.mem_append.1 hl with hl | hl
              · exact hM.out l hl
              · obtain rfl := List.mem_singleton.1 hl
                refine ⟨by simp, fun y hy => ?_⟩
                obtain rfl := List.mem_singleton.1 hy
                refine ⟨?_, Nat.zero_le _⟩
                rw [ByteArray.size_append, hsz2]
                decide
            have hll : (ls ++ [[(⟨⟨#[120]⟩ ++ s2, ⟨#[]⟩⟩ : At)]]).length ≤ 2 + (i + 1) := by rw [List.length_append, List.length_singleton]; omega
            clear hown2 hgrow2 hat2 hlt2 hx HN4 HT4 hM
            go_wp2
            go_roundg (gk - 1)
            case measure => omega
            case rel => exact ⟨i + 1, _, _, _, rfl, by go_num, by omega, by omega, hll, HN5.out, HM5.out, HT5.out.more (by omega)⟩
          · have hltI : ¬ (i : Int) < 64 - (rr : Int) := by omega
            go_wp2
            go_meet
            case rel => exact ⟨v, vs, ls, rfl, by omega, HN4.out, hM.out, HT4.out.more (by omega)⟩
      · have hr0 : ¬ (rn : Int) = 0 := by omega
        have hr1 : ¬ (rn : Int) = 1 := by omega
        go_wp2
        go_meet
        case rel => exact ⟨v, vs, ls, rfl, by omega, HN3.out, fun l hl => ⟨by have := sub_len (HMd.out l hl); omega, fun x hx => made_ok HMd.out l hl x hx⟩, HTx.out.more (by omega)⟩
    case rest =>
      clear HN3 HMd HTx HT3 hl1 hl2 hr5 hrn
      obtain ⟨v, vs, ls, rfl, hls, hN, hM, hT⟩ := hcut
      obtain ⟨A1, c1, d1, rfl, hl1, hvs, hD1, hdc1⟩ := hN.out.dirs
      subst hl1
      have hdl : d1.length ≤ 100 := by simpa [lsOf] using hls
      have hgr := hT.out.gr
      have hBx : Below w.heap.size w wc := by
        have h2 := HB2.out
        exact ⟨hgr.os.trans h2.os, hgr.tape.trans h2.tape, hgr.output.trans h2.output, Nat.le_trans h2.size hgr.size, fun k hk => (hgr.block k (Nat.lt_of_lt_of_le hk h2.size) (by intro e; have := Option.some.inj e; have := HB1.out.size; omega)).trans (h2.block k hk)⟩
      have hok1 : ∀ d ∈ d1, d.l.length ≤ 100 ∧ ∀ x ∈ d.l, FileOk x := fun d hd => by
        obtain ⟨q1, q2⟩ := hM.out d.l (List.mem_map.2 ⟨d, hd, rfl⟩)
        exact ⟨q1, fun x hx => ⟨by have := (q2 x hx).1; unfold maxLen; omega, by have := (q2 x hx).2; unfold maxLen; omega⟩⟩
      have hbk1 : bulk d1 ≤ 101 * 100 := Nat.le_trans (bulk_le (m := 100) fun d hd => (hok1 d hd).1) (Nat.mul_le_mul_left _ hdl)
      have HL : Hid (∀ W, Below wc.heap.size wc W → ∀ k, k < 2 → ∃ (Ak : Option Addr) (ck : Nat) (dk : List (Ls At)), ([Value.slice A ds.length c, Value.slice A1 d1.length c1] : List Value)[k]? = some (.slice Ak dk.length ck) ∧ DirsAt W Ak dk ∧ bulk dk ≤ 100000 ∧ ∀ d ∈ dk, ∀ x ∈ d.l, FileOk x) := Lib.hid fun W hW k hk => by
        rcases (by omega : k = 0 ∨ k = 1) with rfl | rfl
        · exact ⟨A, c, ds, rfl, HD.out.keep (bt hBx hW), by omega, HOk.out⟩
        · exact ⟨A1, c1, d1, rfl, hD1.keep hW, by omega, fun d hd => (hok1 d hd).2⟩
      have HBx := Lib.hid hBx
      clear hN hM hT hvs hD1 hdc1 hgr hBx hok1 hbk1 hls hdl HOk HI
      go_wp2
      obtain ⟨WL, hWL⟩ : ∃ WL, wc.alloc (.cells #[.slice A ds.length c, .slice A1 d1.length c1] 22) = WL := ⟨_, rfl⟩
      have HG : Hid (∀ k x, ([Value.slice A ds.length c, Value.slice A1 d1.length c1] : List Value)[k]? = some x → ∀ W, Below WL.heap.size WL W → W.cell? ⟨wc.heap.size, k, none⟩ = some x) := Lib.hid fun k x hx W hW => by
        rw [hW.cell (p := ⟨wc.heap.size, k, none⟩) (by rw [← hWL]; simp), ← hWL, cell_of_row _ _ k _ _ _ (heap_alloc_new wc _)]
        simpa using hx
      have HBc : Hid (Below wc.heap.size wc WL) := Lib.hid (by rw [← hWL]; exact below_alloc _ _)
      rw [hWL]
      clear hWL
      go_loopg [9, 10, 11, 12, 13] 3 (fun gk s9 _ _ _ _ wr => ∃ (k : Nat), s9 = .int .i64 k ∧ k + gk = 3 ∧ k ≤ 2 ∧ Hid (Below WL.heap.size WL wr))
      case atStart => exact ⟨0, rfl, by omega, by omega, Below.refl _ _⟩
      case round =>
        obtain ⟨k, rfl, hkg, hk2, hB⟩ := hrel
        by_cases hlt : k < 2
        · have hltI : (k : Int) < 2 := by omega
          obtain ⟨Ak, ck, dk, hdk, hDk, hbk, hokk⟩ := HL.out wr (bt HBc.out hB.out) k hlt
          have HCe := Lib.hid (HG.out k _ hdk)
          have HDk := Lib.hid hDk
          have HOkk := Lib.hid hokk
          have hc0 := HCe.out wr hB.out
          have HOk9 : Hid (∀ d ∈ dk, ∀ x ∈ d.l, x.name.size ≤ 9223372036854775807) := Lib.hid fun d hd x hx => by have := (HOkk.out d hd x hx).1; unfold maxLen at this; exact this
          have hml := mergeF_len dk
          have hP := fun W (hW : Below wr.heap.size wr W) => PMergeD_any Ak ck dk W (HDk.out.keep hW) hbk HOkk.out
          have hR := fun W (hW : Below wr.heap.size wr W) => RMergeD_any Ak ck dk W (HDk.out.keep hW) hbk HOk9.out
          have hPC := fun W (hW : Below wr.heap.size wr W) => PCheckD_any Ak ck dk W (HDk.out.keep hW) hbk HOkk.out
          have hRC := fun W (hW : Below wr.heap.size wr W) => RCheckD_any Ak ck dk W (HDk.out.keep hW) hbk HOk9.out
          generalize mergeF (lsOf dk) = mf at *
          generalize checkF (lsOf dk) = ce at *
          obtain ⟨ml, me⟩ := mf
          unfold FilesPost at hP hR
          unfold ErrPost at hPC hRC
          dsimp only at hP hR hml
          have HP := Lib.hid hP
          have HR := Lib.hid hR
          have HPC := Lib.hid hPC
          have HRC := Lib.hid hRC
          have HCx : Hid (∀ W, Below wr.heap.size wr W → W.cell? ⟨wc.heap.size, k, none⟩ = some (.slice Ak dk.length ck)) := Lib.hid fun W hW => HCe.out W (bt hB.out hW)
          have hdl : dk.length ≤ 100000 := by have := bulk_len dk; omega
          clear hdk hDk hokk hP hR hPC hRC HDk HOkk HOk9 HCe
          generalize dk.length = dn at *
          go_wp2_with (first
            | (go_at_call 19; refine (HP.out _ (Below.refl _ _)).mono ?_; rintro e w4 ⟨A4, c4, rfl, hc4, hr4, hb4⟩; have HR4 := Lib.hid hr4; have HB4 := Lib.hid hb4; clear hr4 hb4 hc4; have hc5 := HCx.out _ HB4.out)
            | (go_at_call 20; refine (HR.out _ HB4.out).mono ?_; rintro e w5 ⟨A5, c5, rfl, hc6, hr5, hb5⟩; have HR5 := Lib.hid hr5; have HB5 := Lib.hid (bt HB4.out hb5); have HR4b := Lib.hid ((HR4.out.keep hb5).up hb5.size); clear hr5 hb5 hc6; have hc7 := HCx.out _ HB5.out))
          have hSm := fun W (hW : Below w5.heap.size w5 W) => SameFiles_yes A4 A5 c4 c5 ml W (by omega) ((HR4b.out.keep hW).up hW.size) ((HR5.out.keep hW).up hW.size)
          generalize ml.length = mn at *
          have HSm := Lib.hid hSm
          have HS : Hid (∀ W, Below w5.heap.size w5 W → Below w5.heap.size w5 W ∧ W.cell? ⟨wc.heap.size, k, none⟩ = some (.slice Ak dn ck)) := Lib.hid fun W hW => ⟨hW, HCx.out W (bt HB5.out hW)⟩
          clear hSm HP HR HR4 HR5 HR4b
          go_region_held3 (fun W' => Below w5.heap.size w5 W' ∧ W'.cell? ⟨wc.heap.size, k, none⟩ = some (.slice Ak dn ck)) ((refine HS.out _ ?_; repeat (first | exact Below.refl _ _ | refine bD ?_ | refine bA ?_ | refine bt ?_ hb6 | refine bt ?_ hb7 | refine bt ?_ hb8))) ((first
            | (go_at_call 21; refine (HSm.out _ (by repeat (first | exact Below.refl _ _ | refine bD ?_ | refine bA ?_ | refine bt ?_ hb6 | refine bt ?_ hb7 | refine bt ?_ hb8))).mono ?_; rintro e w6 ⟨rfl, hb6⟩)
            | (go_at_call 22; refine (HPC.out _ (bt HB5.out (by repeat (first | exact Below.refl _ _ | refine bD ?_ | refine bA ?_ | refine bt ?_ hb6 | refine bt ?_ hb7 | refine bt ?_ hb8)))).mono ?_; rintro e w7 ⟨rfl, hb7⟩)
            | (go_at_call 23; refine (HRC.out _ (bt HB5.out (by repeat (first | exact Below.refl _ _ | refine bD ?_ | refine bA ?_ | refine bt ?_ hb6 | refine bt ?_ hb7 | refine bt ?_ hb8)))).mono ?_; rintro e w8 ⟨rfl, hb8⟩)))
          all_goals
            rename_i hHeld
            have HBe := Lib.hid (bt HB5.out hHeld.1)
            clear hHeld
            go_wp2
            go_roundg (gk - 1)
            case measure => omega
            case rel => exact ⟨k + 1, by go_num, by omega, by omega, bt hB.out HBe.out⟩
        · obtain rfl : k = 2 := by omega
          go_wp2_with (first
            | (go_at_call 15; refine (known_any _).mono ?_; rintro e w5 ⟨rfl, hb5⟩))
          go_ret
          exact ⟨rfl, bt (bt HBx.out HBc.out) (bt hB.out hb5)⟩
  · rw [decide_eq_false h200] at HS
    go_enter Tryz.func3, Tryz.ntmps3
    go_wp2_with (first
      | (go_at_call 14; refine HS.out.mono ?_; rintro e w1 ⟨rfl, hb1⟩; have HB1 := Lib.hid hb1; clear hb1)
      | (go_at_call 15; refine (known_any _).mono ?_; rintro e w5 ⟨rfl, hb5⟩))
    go_ret
    exact ⟨rfl, bt HB1.out hb5⟩
end Go.Proofs.YthcgkeiggnfgiaaGreatDoor
