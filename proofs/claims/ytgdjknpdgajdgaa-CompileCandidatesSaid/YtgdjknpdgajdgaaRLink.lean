/-
  Contract of the reference's Link. (Printed by gen_rlink.py.)
-/
import Derived.Test.YtgdjknpdgajdgaaG10
import Derived.Deep.RegionHeld3
import Derived.Deep.CutBlock
namespace Go.Proofs.Ytgdjknpdgajdgaa
open Go.RowKit
theorem cells_oneF (l : List Fl) : ∀ u ∈ cellsOf encFl l, u.oneCell' = true := fun u hu => by
  unfold cellsOf at hu
  obtain ⟨t, _, hu⟩ := List.mem_flatMap.1 hu
  exact encFl_one t u hu
theorem cells_oneR (l : List Rl) : ∀ u ∈ cellsOf encRl l, u.oneCell' = true := fun u hu => by
  unfold cellsOf at hu
  obtain ⟨t, _, hu⟩ := List.mem_flatMap.1 hu
  exact encRl_one t u hu
theorem consF {w : World} {base n c : Nat} {A : Option Addr} {y : Fl} {l : List Fl} (h : w.ownsRow base 82 3 (.slice A n c) n (encFl y ++ cellsOf encFl l)) : w.ownsRow base 82 3 (.slice A n c) n (cellsOf encFl (y :: l)) := h
theorem consR {w : World} {base n c : Nat} {A : Option Addr} {y : Rl} {l : List Rl} (h : w.ownsRow base 46 3 (.slice A n c) n (encRl y ++ cellsOf encRl l)) : w.ownsRow base 46 3 (.slice A n c) n (cellsOf encRl (y :: l)) := h
theorem below_grownX {w W W' : World} {row : Option Nat} (h : Below w.heap.size w W) (hg : W.grownBy W' row) (hr : ∀ g, row = some g → w.heap.size ≤ g) : Below w.heap.size w W' := h.grown hg h.size hr
set_option maxRecDepth 100000 in
set_option maxHeartbeats 8000000 in
theorem RLink_any (A : Option Addr) (c : Nat) (l : List Rl) (w : World) (hl : l.length ≤ 1000) (hz : ∀ x ∈ l, x.tms.l.length ≤ 1000) (h : RowAt w w.heap.size A 3 l.length (cellsOf encRl l)) (hi : InAt 4 encTm Rl.tms w w.heap.size l) :
    Calls Try.prog 16 #[.slice A l.length c] w (LinkPost (fun a => ∃ x ∈ l, x.tms.A = some a) (l.map Rl.p) w) := by
  have H := Lib.hid h
  have HI := Lib.hid hi
  have HZ := Lib.hid hz
  clear h hi hz
  unfold LinkPost
  have HD : Hid (∀ j, (h : j < l.length) → linkF ((l.map Rl.p).drop j) = if keepB (linkF ((l.map Rl.p).drop (j + 1))).1 (Rl.p l[j]) then (Rl.p l[j] :: (linkF ((l.map Rl.p).drop (j + 1))).1, (linkF ((l.map Rl.p).drop (j + 1))).2) else ((linkF ((l.map Rl.p).drop (j + 1))).1, ⟨l[j].file, l[j].line, 107⟩ :: (linkF ((l.map Rl.p).drop (j + 1))).2)) := Lib.hid fun j h => by
    rw [linkF_drop (by simpa using h)]
    simp only [List.getElem_map]
    rfl
  obtain ⟨N, hN⟩ : ∃ N, l.length = N := ⟨_, rfl⟩
  have HN := Lib.hid hN
  rw [hN] at hl ⊢
  have HDe : Hid (linkF ((l.map Rl.p).drop N) = ([], [])) := Lib.hid (by rw [List.drop_of_length_le (by rw [List.length_map, hN]; exact Nat.le_refl _)]; rfl)
  clear hN
  obtain ⟨i0, hi0, hz0, hz1, hz2⟩ := info_parts rlInfo
  have Hi0 := Lib.hid hi0
  have Hz0 := Lib.hid hz0
  have Hz1 := Lib.hid hz1
  have Hz2 := Lib.hid hz2
  obtain ⟨j0, hj0, hy0, hy1, hy2⟩ := info_parts flInfo
  have Hj0 := Lib.hid hj0
  have Hy0 := Lib.hid hy0
  have Hy1 := Lib.hid hy1
  have Hy2 := Lib.hid hy2
  clear hi0 hz0 hz1 hz2 hj0 hy0 hy1 hy2
  go_enter Try.func16, Try.ntmps16
  go_wp2
  go_loopg [4, 5, 6] (N + 1) (fun gk s4 s5 s6 wr => ∃ (k : Nat) (rl : List Rl) (fl : List Fl) (Ar : Option Addr) (cr : Nat) (Af : Option Addr) (cf : Nat), s4 = .slice Ar rl.length cr ∧ s5 = .slice Af fl.length cf ∧ s6 = .int .i64 ((k : Int) - 1) ∧ k < gk ∧ k ≤ N ∧ rl.length + k ≤ N ∧ fl.length + k ≤ N ∧ Hid (wr.ownsRow w.heap.size 46 3 (.slice Ar rl.length cr) rl.length (cellsOf encRl rl)) ∧ Hid (wr.ownsRow w.heap.size 82 3 (.slice Af fl.length cf) fl.length (cellsOf encFl fl)) ∧ Hid (Below w.heap.size w wr) ∧ Hid (∀ x ∈ rl, x ∈ l) ∧ Hid (rl.map Rl.p = (linkF ((l.map Rl.p).drop k)).1) ∧ Hid (fl = (linkF ((l.map Rl.p).drop k)).2))
  case atStart => exact ⟨N, [], [], none, 0, none, 0, rfl, rfl, rfl, by omega, Nat.le_refl _, by simp, by simp, World.ownsRow_nil _ _ _ _, World.ownsRow_nil _ _ _ _, Below.refl _ _, (fun x hx => by cases hx), (by show _ = _; rw [HDe.out]; rfl), (by show _ = _; rw [HDe.out])⟩
  case round =>
    obtain ⟨k, rl, fl, Ar, cr, Af, cf, rfl, rfl, rfl, hkg, hkN, hrl, hfl, hOr, hOf, hB, hIn, hLr, hLf⟩ := hrel
    obtain ⟨wo, rfl⟩ : ∃ wo : World, wo = wr := ⟨_, rfl⟩
    obtain ⟨gko, rfl⟩ : ∃ gko : Nat, gko = gk := ⟨_, rfl⟩
    have hwz := hB.out.size
    by_cases hk0 : 0 < k
    · obtain ⟨j, rfl⟩ : ∃ j, k = j + 1 := ⟨k - 1, by omega⟩
      have hji : ((j + 1 : Nat) : Int) - 1 = (j : Int) := by omega
      rw [hji]
      have hjI : (0 : Int) ≤ (j : Int) := by omega
      have hjN : (j : Int) < (N : Int) := by omega
      have hj : j < l.length := by rw [HN.out]; omega
      have HQ0 : Hid (∀ W', Below w.heap.size w W' → ∃ ba off, A = some ⟨ba, off, none⟩ ∧ W'.cell? ⟨ba, off + j * 3, none⟩ = some (.string l[j].file) ∧ W'.cell? ⟨ba, off + j * 3 + 1, none⟩ = some (.int .i64 l[j].line) ∧ W'.cell? ⟨ba, off + j * 3 + 2, none⟩ = some (.slice l[j].tms.A l[j].tms.l.length l[j].tms.c)) := Lib.hid fun W' hb => H.out.three encRl_len hb hj _ _ _ rfl
      have hdj := HD.out j hj
      have hmem : l[j] ∈ l := List.getElem_mem _
      have hin := HI.out l[j] hmem
      have hzj := HZ.out l[j] hmem
      obtain ⟨x, hx⟩ : ∃ x, l[j] = x := ⟨_, rfl⟩
      rw [hx] at HQ0 hdj hmem hin hzj
      rw [← hLr.out, ← hLf.out] at hdj
      have HMem := Lib.hid hmem
      clear hx hj hmem hLr hLf
      obtain ⟨xf, xl, xA, xc, xt⟩ := x
      obtain ⟨ba, off, rfl, _⟩ := HQ0.out w (Below.refl _ _)
      dsimp only at HQ0 hin hzj hdj
      have HQ1 : Hid (∀ W', Below w.heap.size w W' → W'.cell? ⟨ba, off + j * 3, none⟩ = some (.string xf) ∧ W'.cell? ⟨ba, off + j * 3 + 1, none⟩ = some (.int .i64 xl) ∧ W'.cell? ⟨ba, off + j * 3 + 2, none⟩ = some (.slice xA xt.length xc)) := Lib.hid fun W' hb => by
        obtain ⟨ba', off', e, h⟩ := HQ0.out W' hb
        obtain ⟨rfl, rfl⟩ : ba = ba' ∧ off = off' := by injection e with e; injection e with e1 e2; exact ⟨e1, e2⟩
        exact h
      have HVal := Lib.hid (RValue_any xA xc xt 24 wo (by omega) ((hin.keep hB.out).up hB.out.size))
      have HKp : Hid (keepB (rl.map Rl.p) (Rl.p ⟨xf, xl, ⟨xA, xc, xt⟩⟩) = (match valT xt 24 with | some tg => labB (rl.map Rl.p) tg | none => true)) := Lib.hid rfl
      have HDj := Lib.hid hdj
      obtain ⟨c0, c1, c2⟩ := HQ1.out wo hB.out
      obtain ⟨o, ho⟩ : ∃ o, valT xt 24 = o := ⟨_, rfl⟩
      rw [ho] at HVal HKp
      clear HQ0 hdj hin ho
      unfold valOV at HVal
      obtain ⟨tg, htg⟩ : ∃ tg : ByteArray, o.getD ⟨#[]⟩ = tg := ⟨_, rfl⟩
      obtain ⟨ob, hob⟩ : ∃ ob : Bool, o.isSome = ob := ⟨_, rfl⟩
      rw [htg, hob] at HVal
      have HKq : Hid (keepB (rl.map Rl.p) (Rl.p ⟨xf, xl, ⟨xA, xc, xt⟩⟩) = (!ob || labB (rl.map Rl.p) tg)) := Lib.hid (by rw [HKp.out, ← htg, ← hob]; cases o <;> rfl)
      clear HKp htg hob
      go_upto_block 2 with (go_at_call 36; refine HVal.out.mono ?_; rintro e wv ⟨rfl, hv⟩; obtain rfl : wo = wv := hv)
      go_cut [9] from 31 to 54 (fun s9 wx => s9 = .bool (!ob || labB (rl.map Rl.p) tg) ∧ wo = wx)
      case first =>
        go_wp2_with fail
        go_loopg [9, 10] (rl.length + 1) (fun gk s9 s10 wx => ∃ m : Nat, s9 = .bool (!ob || labB ((rl.take m).map Rl.p) tg) ∧ s10 = .int .i64 m ∧ m + gk = rl.length + 1 ∧ m ≤ rl.length ∧ wo = wx)
        case atStart => exact ⟨0, by simp [labB], rfl, by omega, Nat.zero_le _, rfl⟩
        case round =>
          obtain ⟨m, rfl, rfl, hmg, hmM, rfl⟩ := hrel
          by_cases hlt : m < rl.length
          · have hltI : (m : Int) < (rl.length : Int) := by omega
            have hm := hlt
            obtain ⟨ra, ro, rfl, d0, d1, d2⟩ := (RowAt.of_own hOr.out).three encRl_len (Below.refl _ _) hm _ _ _ rfl
            have hmem := hIn.out rl[m] (List.getElem_mem _)
            have hin := HI.out rl[m] hmem
            have hzm := HZ.out rl[m] hmem
            have hts : labB ((rl.take (m + 1)).map Rl.p) tg = (labB ((rl.take m).map Rl.p) tg || sameV (valT rl[m].tms.l 23) tg) := by
              rw [List.take_succ_eq_append_getElem hm, List.map_append, labB, List.any_append]
              simp [labB, Rl.p]
            generalize rl[m] = y at *
            obtain ⟨yf, yl, yA, yc, yt⟩ := y
            dsimp only at d0 d1 d2 hin hzm hts
            have HVy := Lib.hid (RValue_any yA yc yt 23 wo (by omega) ((hin.keep hB.out).up hB.out.size))
            obtain ⟨o2, ho2⟩ : ∃ o2, valT yt 23 = o2 := ⟨_, rfl⟩
            rw [ho2] at HVy hts
            obtain ⟨fb, hfb⟩ : ∃ fb, (!ob || labB ((rl.take m).map Rl.p) tg) = fb := ⟨_, rfl⟩
            have HNw : Hid ((!ob || labB ((rl.take (m + 1)).map Rl.p) tg) = (fb || sameV o2 tg)) := Lib.hid (by rw [hts, ← hfb, Bool.or_assoc])
            rw [hfb]
            unfold valOV at HVy
            generalize yt.length = qy at *
            clear hts hfb ho2 hin hzm hmem hm
            cases fb
            · cases o2 with
              | none =>
                go_wp2_with (go_at_call 36; refine HVy.out.mono ?_; rintro e wv ⟨rfl, hv⟩; obtain rfl : wo = wv := hv)
                go_roundg (gk - 1)
                case measure => omega
                case rel => exact ⟨m + 1, by rw [HNw.out]; rfl, by go_num, by omega, by omega, rfl⟩
              | some vv =>
                go_wp2_with (go_at_call 36; refine HVy.out.mono ?_; rintro e wv ⟨rfl, hv⟩; obtain rfl : wo = wv := hv)
                go_roundg (gk - 1)
                case measure => omega
                case rel => exact ⟨m + 1, by rw [HNw.out]; rfl, by go_num, by omega, by omega, rfl⟩
            · go_wp2_with (go_at_call 36; refine HVy.out.mono ?_; rintro e wv ⟨rfl, hv⟩; obtain rfl : wo = wv := hv)
              go_roundg (gk - 1)
              case measure => omega
              case rel => exact ⟨m + 1, by rw [HNw.out]; rfl, by go_num, by omega, by omega, rfl⟩
          · obtain rfl : m = rl.length := by omega
            have HTa : Hid ((rl.take rl.length).map Rl.p = rl.map Rl.p) := Lib.hid (by rw [List.take_length])
            go_wp2
            go_meet
            exact ⟨by rw [HTa.out], rfl⟩
      case rest =>
      obtain ⟨rfl, rfl⟩ := hcut
      cases hkp : (!ob || labB (rl.map Rl.p) tg)
      · have hk2 := HKq.out
        rw [hkp] at hk2
        have hd := HDj.out
        rw [hk2, if_neg (by simp)] at hd
        have HLr : Hid (rl.map Rl.p = (linkF ((l.map Rl.p).drop j)).1) := Lib.hid (by rw [hd])
        have HLf : Hid ((⟨xf, xl, 107⟩ : Fl) :: fl = (linkF ((l.map Rl.p).drop j)).2) := Lib.hid (by rw [hd])
        have HInn := hIn
        have HQ : Hid (∀ W', Below wo.heap.size wo W' → W'.cell? ⟨ba, off + j * 3, none⟩ = some (.string xf) ∧ W'.cell? ⟨ba, off + j * 3 + 1, none⟩ = some (.int .i64 xl)) := Lib.hid fun W' hb => by
          obtain ⟨h0, h1, _⟩ := HQ1.out W' (bt hB.out hb)
          exact ⟨h0, h1⟩
        clear hk2 hd hkp c0 c1 c2
        go_wp2_with fail
        refine wp_region_held_drew (S := fun W' => W'.cell? ⟨ba, off + j * 3, none⟩ = some (.string xf) ∧ W'.cell? ⟨ba, off + j * 3 + 1, none⟩ = some (.int .i64 xl)) (by kernel_rfl) ?_ (fun hHeld => ?_)
        · exact HQ.out _ (by go_grown)
        refine wpAnyH_take (i := 0) (v := ?_) (by simp only [List.getElem?_toArray, List.getElem?_cons_zero]; rfl) (by kernel_rfl) (by kernel_rfl) (by kernel_rfl) (by exact fun _ _ _ h => h) (Or.inl ⟨by rfl, ?_⟩) (by assumption) ?_
        rotate_left
        · intro w hSw
          go_simp
          try with_reducible rfl
        try simp only [Act.put, List.setIfInBounds_toArray, List.set_cons_zero, List.set_cons_succ]
        refine wpAnyH_take (i := 1) (v := ?_) (by simp only [List.getElem?_toArray, List.getElem?_cons_succ, List.getElem?_cons_zero]; rfl) (by kernel_rfl) (by kernel_rfl) (by kernel_rfl) (by exact fun _ _ _ h => h) (Or.inl ⟨by rfl, ?_⟩) (by assumption) ?_
        rotate_left
        · intro w hSw
          go_simp
          try with_reducible rfl
        try simp only [Act.put, List.setIfInBounds_toArray, List.set_cons_zero, List.set_cons_succ]
        refine wpAnyH_take (i := 2) (v := ?_) (by simp only [List.getElem?_toArray, List.getElem?_cons_succ, List.getElem?_cons_zero]; rfl) (by kernel_rfl) (by kernel_rfl) (by kernel_rfl) (by exact fun _ _ _ h => h) (Or.inl ⟨by rfl, ?_⟩) (by assumption) ?_
        rotate_left
        · intro w hSw
          go_simp
          try with_reducible rfl
        try simp only [Act.put, List.setIfInBounds_toArray, List.set_cons_zero, List.set_cons_succ]
        refine wpAnyH_take (i := 3) (v := ?_) (by simp only [List.getElem?_toArray, List.getElem?_cons_succ, List.getElem?_cons_zero]; rfl) (by kernel_rfl) (by kernel_rfl) (by kernel_rfl) (by exact fun _ _ _ h => h) (Or.inl ⟨by rfl, ?_⟩) (by assumption) ?_
        rotate_left
        · intro w hSw
          go_simp
          try with_reducible rfl
        try simp only [Act.put, List.setIfInBounds_toArray, List.set_cons_zero, List.set_cons_succ]
        refine wpAnyH_take (i := 4) (v := ?_) (by simp only [List.getElem?_toArray, List.getElem?_cons_succ, List.getElem?_cons_zero]; rfl) (by kernel_rfl) (by kernel_rfl) (by kernel_rfl) (by exact fun _ _ _ h => h) (Or.inl ⟨by rfl, ?_⟩) (by assumption) ?_
        rotate_left
        · intro w hSw
          go_simp
          try with_reducible rfl
        try simp only [Act.put, List.setIfInBounds_toArray, List.set_cons_zero, List.set_cons_succ]
        refine wpAnyH_take (i := 5) (v := ?_) (by simp only [List.getElem?_toArray, List.getElem?_cons_succ, List.getElem?_cons_zero]; rfl) (by kernel_rfl) (by kernel_rfl) (by kernel_rfl) (by exact fun _ _ _ h => h) (Or.inl ⟨by rfl, ?_⟩) (by assumption) ?_
        rotate_left
        · intro w hSw
          go_simp
          try with_reducible rfl
        try simp only [Act.put, List.setIfInBounds_toArray, List.set_cons_zero, List.set_cons_succ]
        refine wpAnyH_take (i := 6) (v := ?_) (by simp only [List.getElem?_toArray, List.getElem?_cons_succ, List.getElem?_cons_zero]; rfl) (by kernel_rfl) (by kernel_rfl) (by kernel_rfl) (by exact fun _ _ _ h => h) (Or.inl ⟨by rfl, ?_⟩) (by assumption) ?_
        rotate_left
        · intro w hSw
          go_simp
          try with_reducible rfl
        try simp only [Act.put, List.setIfInBounds_toArray, List.set_cons_zero, List.set_cons_succ]
        refine wpAnyH_take (i := 7) (v := ?_) (by simp only [List.getElem?_toArray, List.getElem?_cons_succ, List.getElem?_cons_zero]; rfl) (by kernel_rfl) (by kernel_rfl) (by kernel_rfl) (by exact fun _ _ _ h => h) (Or.inl ⟨by rfl, ?_⟩) (by assumption) ?_
        rotate_left
        · intro w hSw
          go_simp
          try with_reducible rfl
        try simp only [Act.put, List.setIfInBounds_toArray, List.set_cons_zero, List.set_cons_succ]
        refine wpAnyH_take (i := 8) (v := ?_) (by simp only [List.getElem?_toArray, List.getElem?_cons_succ, List.getElem?_cons_zero]; rfl) (by kernel_rfl) (by kernel_rfl) (by kernel_rfl) (by exact fun _ _ _ h => h) (Or.inl ⟨by rfl, ?_⟩) (by assumption) ?_
        rotate_left
        · intro w hSw
          go_simp
          try with_reducible rfl
        try simp only [Act.put, List.setIfInBounds_toArray, List.set_cons_zero, List.set_cons_succ]
        refine wpAnyH_take (i := 9) (v := ?_) (by simp only [List.getElem?_toArray, List.getElem?_cons_succ, List.getElem?_cons_zero]; rfl) (by kernel_rfl) (by kernel_rfl) (by kernel_rfl) (by exact fun _ _ _ h => h) (Or.inl ⟨by rfl, ?_⟩) (by assumption) ?_
        rotate_left
        · intro w hSw
          go_simp
          try with_reducible rfl
        try simp only [Act.put, List.setIfInBounds_toArray, List.set_cons_zero, List.set_cons_succ]
        refine wpAnyH_take (i := 10) (v := ?_) (by simp only [List.getElem?_toArray, List.getElem?_cons_succ, List.getElem?_cons_zero]; rfl) (by kernel_rfl) (by kernel_rfl) (by kernel_rfl) (by exact fun _ _ _ h => h) (Or.inl ⟨by rfl, ?_⟩) (by assumption) ?_
        rotate_left
        · intro w hSw
          go_simp
          try with_reducible rfl
        try simp only [Act.put, List.setIfInBounds_toArray, List.set_cons_zero, List.set_cons_succ]
        refine wpAnyH_take (i := 12) (v := ?_) (by simp only [List.getElem?_toArray, List.getElem?_cons_succ, List.getElem?_cons_zero]; rfl) (by kernel_rfl) (by kernel_rfl) (by kernel_rfl) (by exact fun _ _ _ h => h) (Or.inl ⟨by rfl, ?_⟩) (by assumption) ?_
        rotate_left
        · intro w hSw
          go_simp
          try with_reducible rfl
        try simp only [Act.put, List.setIfInBounds_toArray, List.set_cons_zero, List.set_cons_succ]
        refine wpAnyH_ready (rs := [11]) (by kernel_rfl) (by simp) ?_
        refine AllReadyH.cons (by simp only [List.getElem?_toArray, List.getElem?_cons_succ, List.getElem?_cons_zero]; rfl) (fun K hK => ?_) AllReadyH.nil
        go_simp
        refine hK.out _ _ (by first | exact HQ9.out | exact HQ.out _ (by go_grown)) (fun hHeld => ?_)
        clear hK K
        try simp only [Act.put, List.setIfInBounds_toArray, List.set_cons_zero, List.set_cons_succ]
        refine wpAnyH_ready (rs := [13]) (by kernel_rfl) (by simp) ?_
        refine AllReadyH.cons (by simp only [List.getElem?_toArray, List.getElem?_cons_succ, List.getElem?_cons_zero]; rfl) (fun K hK => ?_) AllReadyH.nil
        refine step_append_row (by rfl) _ _ _ (by rfl) w.heap.size 82 j0 _ 3 32 Try.underlying53 Hj0.out Hy0.out Hy1.out Hy2.out rfl (by omega) (.slice (some ⟨wo.heap.size, 0, none⟩) 1 1) 1 (encFl (⟨xf, xl, 107⟩ : Fl)) (by rfl) (by first | exact World.ownsRow_lit wo _ 1 (by omega) (by unfold maxLen; omega) (by rfl) | exact own_below2 (World.ownsRow_lit wo _ 1 (by omega) (by unfold maxLen; omega) (by rfl)) (Below.refl _ _).drew | exact World.ownsRow_lit wo.drew _ 1 (by simpa using hwz) (by unfold maxLen; omega) (by rfl)) Af fl.length cf wo.heap.size (cellsOf encFl fl) (by rfl) ((RowAt.of_own hOf.out).keep (by go_grown)) (cells_oneF fl) (by unfold maxLen; omega) (by omega) (by simp; omega) ?_
        intro v9 w9 hown2 hgrow2 hat2 _
        obtain ⟨A9, c9, rfl⟩ := own_slice hown2
        have HO9 := Lib.hid (consF hown2)
        have HG9 : Hid (Below wo.heap.size wo w9) := Lib.hid (below_grownX (by go_grown) hgrow2 (fun g e => by simp [Value.ownBlock] at e; omega))
        have HQ9 := Lib.hid (HQ.out w9 HG9.out)
        clear hown2 hgrow2 hat2
        refine hK.out _ _ (by first | exact HQ9.out | exact HQ.out _ (by go_grown)) (fun hHeld => ?_)
        clear hK K
        try simp only [Act.put, List.setIfInBounds_toArray, List.set_cons_zero, List.set_cons_succ]
        refine wpAnyH_take (i := 14) (v := ?_) (by simp only [List.getElem?_toArray, List.getElem?_cons_succ, List.getElem?_cons_zero]; rfl) (by kernel_rfl) (by kernel_rfl) (by kernel_rfl) (by exact fun _ _ _ h => h) (Or.inl ⟨by rfl, ?_⟩) (by assumption) ?_
        rotate_left
        · intro w hSw
          go_simp
          try with_reducible rfl
        try simp only [Act.put, List.setIfInBounds_toArray, List.set_cons_zero, List.set_cons_succ]
        refine wpAnyH_done (by kernel_rfl) ?_ _
        go_wp2
        go_roundg (gko - 1)
        case measure => omega
        case rel => exact ⟨j, rl, (⟨xf, xl, 107⟩ : Fl) :: fl, _, _, _, _, rfl, by rw [List.length_cons, Nat.add_comm fl.length 1], rfl, by omega, by omega, by omega, by rw [List.length_cons]; omega, own_below2 hOr.out HG9.out, by rw [List.length_cons, Nat.add_comm fl.length 1]; exact HO9.out, bt hB.out HG9.out, HInn.out, HLr.out, HLf.out⟩
      · have hk2 := HKq.out
        rw [hkp] at hk2
        have hd := HDj.out
        rw [hk2, if_pos rfl] at hd
        have HLr : Hid (((⟨xf, xl, ⟨xA, xc, xt⟩⟩ : Rl) :: rl).map Rl.p = (linkF ((l.map Rl.p).drop j)).1) := Lib.hid (by rw [hd]; rfl)
        have HLf : Hid (fl = (linkF ((l.map Rl.p).drop j)).2) := Lib.hid (by rw [hd])
        have HInn : Hid (∀ x ∈ (⟨xf, xl, ⟨xA, xc, xt⟩⟩ : Rl) :: rl, x ∈ l) := Lib.hid fun y hy => by
          rcases List.mem_cons.1 hy with rfl | hy
          · exact HMem.out
          · exact hIn.out y hy
        clear hk2 hd hkp
        go_wp2_with (at_builtin; go_loud (refine wpList_append_row rfl _ _ _ (by rfl) w.heap.size 46 i0 _ 3 48 Try.underlying30 Hi0.out Hz0.out Hz1.out Hz2.out rfl (by omega) (.slice (some ⟨wo.heap.size, 0, none⟩) 1 1) 1 (encRl (⟨xf, xl, ⟨xA, xc, xt⟩⟩ : Rl)) (by rfl) (by exact World.ownsRow_lit wo _ 1 (by omega) (by unfold maxLen; omega) (by rfl)) Ar rl.length cr wo.heap.size (cellsOf encRl rl) (by rfl) ((RowAt.of_own hOr.out).keep (below_alloc _ _)) (cells_oneR rl) (by unfold maxLen; omega) (by omega) (by simp; omega) ?_; intro v9 w9 hown2 hgrow2 hat2 _; obtain ⟨A9, c9, rfl⟩ := own_slice hown2; have HO9 := Lib.hid (consR hown2); have HG9 : Hid (Below wo.heap.size wo w9) := Lib.hid (below_grownX (below_alloc wo _) hgrow2 (fun g e => by simp [Value.ownBlock] at e; omega)); clear hown2 hgrow2 hat2))
        go_roundg (gko - 1)
        case measure => omega
        case rel => exact ⟨j, (⟨xf, xl, ⟨xA, xc, xt⟩⟩ : Rl) :: rl, fl, _, _, _, _, by rw [List.length_cons, Nat.add_comm rl.length 1], rfl, rfl, by omega, by omega, by rw [List.length_cons]; omega, by omega, by rw [List.length_cons, Nat.add_comm rl.length 1]; exact HO9.out, own_below2 hOf.out HG9.out, bt hB.out HG9.out, HInn.out, HLr.out, HLf.out⟩
    · obtain rfl : k = 0 := by omega
      rw [List.drop_zero] at hLr hLf
      have HIr : Hid (InAt 4 encTm Rl.tms wo wo.heap.size rl) := Lib.hid ((InAt.sub (HI.out.keep hB.out) hIn.out).up hB.out.size)
      go_wp2
      go_ret2
      exact ⟨_, _, _, _, rl, fl, rfl, hLr.out, hLf.out, RowAt.of_own hOr.out, RowAt.of_own hOf.out, HIr.out, hB.out, cap_of hOr.out, fun a e => (hOr.out.lt a.block (by rw [e]; rfl)).1, fun y hy a e => ⟨y, hIn.out y hy, e⟩⟩
end Go.Proofs.Ytgdjknpdgajdgaa
