/-
  The law RulesetValid, walked.
-/
import Derived.Test.YtibflgfhjfcifaaGreatDoorG42
import Derived.Test.YtibflgfhjfcifaaGreatDoorG24
import Derived.Test.YtibflgfhjfcifaaGreatDoorG29
namespace Go.Proofs.YtibflgfhjfcifaaGreatDoor
open Go.RowKit
theorem loadR_len (fs : List At) : (loadR fs).length ≤ 512 := by
 have h := linkF_len ((allR fs).take 512)
 rw [List.length_take] at h
 unfold loadR
 omega
theorem check_pre {l : List Tm} (h : checkE l = 0) : ∀ t ∈ l, TmPre t := fun t ht => by
 have := right_of h t ht
 exact ⟨by have := this.name; omega, by have := this.value; omega⟩
set_option maxRecDepth 100000 in
set_option maxHeartbeats 8000000 in
theorem lawValid (TA : Option Addr) (n tc : Nat) (w : World) (hE : Env w) (hI : IntsIn w TA n) :
 Calls Tryz.prog 6 #[.slice TA n tc] w fun e w' => e = .returned (.bool true) ∧ Below w.heap.size w w' := by
 have HD := Lib.hid (Dirs_new tc hE.toEnv0 hI)
 have HE := Lib.hid (fun (W : World) (hW : Below w.heap.size w W) => hE.go hW)
 clear hE hI
 go_enter Tryz.func6, Tryz.ntmps6
 go_wp2_with fail
 refine HD.out.mono ?_
 rintro e w1 ⟨A1, c1, ds1, rfl, hD1, hm1, _, hl1, _, hb1⟩
 have HB1 := Lib.hid hb1
 have hbk := bulk_made hm1 hl1
 have hmg := PMergeD_any A1 c1 ds1 w1 hD1 (by omega) (madeOk hm1)
 have hls : (lsOf ds1).length = ds1.length := by simp [lsOf]
 rw [mergeF, if_pos (made_check hm1 (by omega))] at hmg
 have hmf := madeF_of hm1 hl1
 have HM := Lib.hid hmg
 unfold FilesPost at HM
 dsimp only at HM
 clear hmg hD1 hm1 hls hbk HD hb1
 generalize mergeL (lsOf ds1) = fs at *
 generalize ds1.length = dl1 at *
 go_wp2_with fail
 refine HM.out.mono ?_
 rintro e w2 ⟨A2, c2, rfl, hc2, hr2, hb2⟩
 have HB2 := Lib.hid (bt HB1.out hb2)
 have HR2 := Lib.hid hr2
 have hln := hmf.1
 have hvz : ∀ x ∈ fs, x.val.size ≤ 10000 := fun x hx => by have := (hmf.2 x hx).2; omega
 have HVz := Lib.hid hvz
 have HPl := Lib.hid (PLoad_any A2 c2 fs w2 (HE.out _ HB2.out) (by omega) hvz hr2)
 have HLen := Lib.hid (load_len fs)
 have HRl := Lib.hid (loadR_len fs)
 have HGd := Lib.hid (loadR_good fs)
 have HAg := Lib.hid (loadR_again fs)
 have HAk := Lib.hid (fun (k : Nat) => all_len (fs := fs.take k) (fun x hx => hvz x (List.mem_of_mem_take hx)))
 obtain ⟨N, hN⟩ : ∃ N, fs.length = N := ⟨_, rfl⟩
 have HN := Lib.hid hN
 rw [hN] at HPl hln ⊢
 unfold LoadPost at HPl
 clear hr2 hb2 hmf hvz HM hN
 generalize loadR fs = RL at *
 generalize loadF fs = FL at *
 go_wp2_with fail
 refine HPl.out.mono ?_
 rintro e w3 ⟨A3, c3, A3f, c3f, rl, fl, rfl, hp, hf, hr3, hrf3, hi3, hb3⟩
 rw [hf]
 have HLr : Hid (rl.length = RL.length) := Lib.hid (by have := congrArg List.length hp; rwa [List.length_map] at this)
 have htm := good_tms HGd.out hp
 have HTm := Lib.hid htm
 have HPk : Hid (∀ W, Below w3.heap.size w3 W → Calls Tryz.prog 9 #[.slice A3 rl.length c3] W fun e w' => ∃ (Ar : Option Addr) (cr : Nat) (Af : Option Addr) (cf : Nat) (m : Nat), e = .returned (.tuple #[.slice Ar m cr, .slice Af 0 cf]) ∧ Below W.heap.size W w') := Lib.hid fun W hW => by
  refine (PLink_any A3 c3 rl W (by have := HRl.out; have := HLr.out; omega) htm ((hr3.keep hW).up hW.size) ((hi3.keep hW).up hW.size)).mono ?_
  rintro e w4 ⟨A4, c4, A4f, c4f, rl4, fl4, rfl, hp4, hf4, _, _, _, hb4, _, _, _⟩
  rw [hp, HAg.out] at hf4
  obtain rfl : fl4 = [] := hf4
  exact ⟨A4, c4, A4f, c4f, rl4.length, rfl, hb4⟩
 have HC : Hid (∀ x ∈ rl, checkE x.tms.l = 0) := Lib.hid fun x hx => HGd.out (Rl.p x) (by rw [← hp]; exact List.mem_map_of_mem hx)
 have HR3 := Lib.hid hr3
 have HI3 := Lib.hid hi3
 have HB3 := Lib.hid (bt HB2.out hb3)
 have HR23 := Lib.hid ((HR2.out.keep hb3).up hb3.size)
 have hrl512 : rl.length ≤ 512 := by have := HRl.out; have := HLr.out; omega
 have hFL : FL.length ≤ 2000000 := by
  have h1 := HLen.out
  have h2 := HAk.out N
  rw [List.take_of_length_le (by rw [HN.out]; exact Nat.le_refl _)] at h2
  rw [HN.out] at h2
  omega
 clear hr3 hrf3 hi3 hb3 htm hp hf HPl
 go_wp2_with fail
 go_loopg [7] (rl.length + 1) (fun gk s7 wr => ∃ k : Nat, s7 = .int .i64 k ∧ k + gk = rl.length + 1 ∧ k ≤ rl.length ∧ Hid (Below w3.heap.size w3 wr))
 case atStart => exact ⟨0, rfl, by omega, Nat.zero_le _, Below.refl _ _⟩
 case round =>
  obtain ⟨k, rfl, hkg, hkN, hB⟩ := hrel
  by_cases hlt : k < rl.length
  · have hltI : (k : Int) < (rl.length : Int) := by omega
    obtain ⟨ba, off, rfl, d0, d1, d2⟩ := HR3.out.three encRl_len hB.out hlt _ _ _ rfl
    have hin := HI3.out rl[k] (List.getElem_mem _)
    have hzm := HTm.out rl[k] (List.getElem_mem _)
    have hck := HC.out rl[k] (List.getElem_mem _)
    generalize rl[k] = y at *
    obtain ⟨yf, yl, yA, yc, yt⟩ := y
    dsimp only at d0 d1 d2 hin hzm hck
    have HV := Lib.hid (PTCheck_any yA yc yt wr (HE.out _ (bt HB3.out hB.out)) ((hin.keep hB.out).up hB.out.size) (by omega) (check_pre hck))
    rw [hck] at HV
    generalize yt.length = qy at *
    clear hin hzm hck
    go_wp2_with (go_at_call 21; refine HV.out.mono ?_; rintro e wv ⟨rfl, hbv⟩; have HBv := Lib.hid (bt hB.out hbv); clear hbv)
    go_roundg (gk - 1)
    case measure => omega
    case rel => exact ⟨k + 1, by go_num, by omega, by omega, HBv.out⟩
  · obtain rfl : k = rl.length := by omega
    clear hlt hkg
    go_wp2_with (go_at_call 9; refine (HPk.out _ hB.out).mono ?_; rintro e w5 ⟨A5, c5, A5f, c5f, m5, rfl, hb5⟩; have HB5 := Lib.hid (bt hB.out hb5); clear hb5)
    have HR5 := Lib.hid ((HR23.out.keep HB5.out).up HB5.out.size)
    have HB35 := Lib.hid (bt HB3.out HB5.out)
    rw [HN.out] at HR5
    have H5 : Hid (RowAt w5 w5.heap.size A2 2 fs.length (cellsOf encAt fs)) := Lib.hid (by rw [HN.out]; exact HR5.out)
    go_loopg [10, 11] (N + 1) (fun gk s10 s11 wr => ∃ k : Nat, s10 = .int .i64 (((allR (fs.take k)).length + (allF (fs.take k)).length : Nat) : Int) ∧ s11 = .int .i64 k ∧ k + gk = N + 1 ∧ k ≤ N ∧ Hid (Below w5.heap.size w5 wr))
    case atStart => exact ⟨0, rfl, rfl, by omega, Nat.zero_le _, Below.refl _ _⟩
    case round =>
     obtain ⟨k, rfl, rfl, hkg, hkN, hB⟩ := hrel
     obtain ⟨ha1, ha2⟩ := HAk.out k
     have hk1 : (fs.take k).length ≤ 8 := by rw [List.length_take, HN.out]; omega
     by_cases hlt : k < N
     · have hltI : (k : Int) < (N : Int) := by omega
       have hk : k < fs.length := by rw [HN.out]; exact hlt
       obtain ⟨ba, off, rfl, hba, hcc⟩ := H5.out.fileX (List.getElem?_eq_getElem hk)
       obtain ⟨c0, c1⟩ := hcc wr hB.out
       have hR2 := allR_take hk
       have hF2 := allF_take hk
       have hvx := HVz.out fs[k] (List.getElem_mem _)
       generalize fs[k] = x at *
       obtain ⟨xn, xt⟩ := x
       dsimp only at c0 c1 hvx hR2 hF2
       have HPs := Lib.hid (PScript_any xn xt wr (HE.out _ (bt HB35.out hB.out)) (by omega))
       have HSum : Hid ((allR (fs.take (k + 1))).length = (allR (fs.take k)).length + (scrR xn (linesS xt)).length ∧ (allF (fs.take (k + 1))).length = (allF (fs.take k)).length + (scrF xn (linesS xt)).length) := Lib.hid ⟨by rw [hR2, List.length_append], by rw [hF2, List.length_append]⟩
       have h3 := linesS_len3 (s := xt) (by omega)
       have h4 := scrR_len xn (linesS xt)
       have h5 := scrF_len xn (linesS xt)
       generalize allR (fs.take k) = aR at *
       generalize allF (fs.take k) = aF at *
       unfold ScrPost at HPs
       generalize scrR xn (linesS xt) = sR at *
       generalize scrF xn (linesS xt) = sF at *
       clear hcc hR2 hF2 hk
       go_wp2_with (go_at_call 22; refine HPs.out.mono ?_; rintro e w4 hG; obtain ⟨A4, c4, A4f, c4f, rl4, fl4, rfl, hp4, hf4, hr4, hrf4, hi4, hb4⟩ := scr_out hG; have e4 : rl4.length = sR.length := (by have := congrArg List.length hp4; rwa [List.length_map] at this); rw [hf4, e4]; have HB4 := Lib.hid (bt hB.out hb4); clear hG hr4 hrf4 hi4 hb4 hp4 hf4 e4)
       go_roundg (gk - 1)
       case measure => omega
       case rel => exact ⟨k + 1, by rw [HSum.out.1, HSum.out.2]; go_num, by go_num, by omega, by omega, HB4.out⟩
     · obtain rfl : k = N := by omega
       have hsum : (rl.length : Int) + (FL.length : Int) = (((allR (fs.take k)).length + (allF (fs.take k)).length : Nat) : Int) := by
        have h1 := HLen.out
        have h9 := HLr.out
        rw [List.take_of_length_le (by rw [HN.out]; exact Nat.le_refl _)]
        omega
       rw [← hsum]
       clear hsum ha1 ha2 hk1
       have HBw := Lib.hid (bt HB35.out hB.out)
       have HKn := Lib.hid (known_any wr)
       go_wp2_with (go_at_call 15; refine HKn.out.mono ?_; rintro e w8 ⟨rfl, hb8⟩; have HB8 := Lib.hid (bt HBw.out hb8); clear hb8)
       go_ret
       exact ⟨rfl, HB8.out⟩
end Go.Proofs.YtibflgfhjfcifaaGreatDoor
