/-
  The law RulesetChanges, walked: for all lists of files and all tapes it returns true and turns no memory that was there.
-/
import Derived.Test.YthcgkeiggnfgiaaGreatDoorDirsN
import Derived.Test.YthcgkeiggnfgiaaGreatDoorPChg
import Derived.Test.YthcgkeiggnfgiaaGreatDoorSameT
namespace Go.Proofs.YthcgkeiggnfgiaaGreatDoor
open Go.RowKit
theorem changed_len (a b : List At) : (changedF a b).length ≤ a.length + b.length := by
  have h1 := List.length_filter_le (difF a b) (namesS (a.map nm ++ b.map nm))
  have h2 := len_namesS (a.map nm ++ b.map nm)
  rw [List.length_append, List.length_map, List.length_map] at h2
  unfold changedF
  omega
set_option maxRecDepth 100000 in
set_option maxHeartbeats 4000000 in
theorem lawChanges (A B TA TB : Option Addr) (ca cb n tc m tm : Nat) (a b : List At) (w : World) (hE : Env0 w) (ha : RowAt w w.heap.size A 2 a.length (cellsOf encAt a)) (hb : RowAt w w.heap.size B 2 b.length (cellsOf encAt b)) (hca : a.length ≤ ca) (hcb : b.length ≤ cb)
    (hza : ∀ x ∈ a, FileOk x) (hzb : ∀ x ∈ b, FileOk x) (hla : a.length ≤ 140737488355328) (hlb : b.length ≤ 140737488355328) (hI : IntsIn w TA n) (hJ : IntsIn w TB m) :
    Calls Tryz.prog 5 #[.slice A a.length ca, .slice B b.length cb, .slice TA n tc, .slice TB m tm] w fun e w' => e = .returned (.bool true) ∧ Below w.heap.size w w' := by
  by_cases h60 : 60 < a.length + b.length
  · have h60I : (60 : Int) < (a.length : Int) + (b.length : Int) := by omega
    have HK := Lib.hid (known_any w)
    clear hE ha hb hza hzb hI hJ h60
    generalize a.length = la at *
    generalize b.length = lb at *
    go_enter Tryz.func5, Tryz.ntmps5
    go_wp2_with (go_at_call 15; refine HK.out.mono ?_; rintro e w5 ⟨rfl, hb5⟩)
    go_ret
    exact ⟨rfl, hb5⟩
  · have h60I : ¬ (60 : Int) < (a.length : Int) + (b.length : Int) := by omega
    have hab := changed_len a b
    have HPab : Hid (∀ W, Below w.heap.size w W → Calls Tryz.prog 25 #[.slice A a.length ca, .slice B b.length cb] W (TextsPost (changedF a b) W)) := Lib.hid fun W hW => PChanged_any A B ca cb a b W ((ha.keep hW).up hW.size) ((hb.keep hW).up hW.size) (by omega) (by omega) hca hcb hza hzb
    have HRab : Hid (∀ W, Below w.heap.size w W → Calls Tryz.prog 26 #[.slice A a.length ca, .slice B b.length cb] W (TextsPost (changedF a b) W)) := Lib.hid fun W hW => RChanged_any A B ca cb a b W ((ha.keep hW).up hW.size) ((hb.keep hW).up hW.size) (by omega) (by omega) hca hcb
    have hd1 := Lib.hid (Dirs_new tc hE hI)
    have hE' := fun W (hW : Below w.heap.size w W) => hE.go hW
    have hJ' := fun W (hW : Below w.heap.size w W) => hJ.keep hW
    have HD2 : Hid (∀ W, Below w.heap.size w W → Calls Tryz.prog 16 #[.pointer (some ⟨W.heap.size, 0, none⟩)] (W.alloc (.cells #[.slice TB m tm, .int .i64 0] 28)) (NewDirs W)) := Lib.hid fun W hW => Dirs_new tm (hE' W hW) (hJ' W hW)
    have hlen : (changedF a b).length ≤ 60 := by omega
    clear hE ha hb hca hcb hza hzb hI hJ hE' hJ' hab h60
    generalize changedF a b = t1 at *
    generalize a.length = la at *
    generalize b.length = lb at *
    go_enter Tryz.func5, Tryz.ntmps5
    go_wp2_with fail
    refine hd1.out.mono ?_
    rintro e w1 ⟨A1, c1, ds1, rfl, hD1, hm1, _, hl1, _, hb1⟩
    have HB1 := Lib.hid hb1
    have HM1 := Lib.hid (RMerge_made (c := c1) hD1 hm1 hl1)
    clear hD1 hm1 hb1 hd1
    generalize ds1.length = dl1 at *
    go_wp2_with fail
    refine HM1.out.mono ?_
    rintro e w2 ⟨A2, c2, x, rfl, hc2, hr2, hx, hb2⟩
    have HB2 := Lib.hid (bt HB1.out hb2)
    have HR2 := Lib.hid hr2
    have HX := Lib.hid hx
    clear hr2 hb2 hx HM1
    have hxl := HX.out.1
    go_wp2_with fail
    refine (HD2.out _ HB2.out).mono ?_
    rintro e w3 ⟨A3, c3, ds3, rfl, hD3, hm3, _, hl3, _, hb3⟩
    have HB3 := Lib.hid (bt HB2.out hb3)
    have HR3 := Lib.hid ((HR2.out.keep hb3).up hb3.size)
    have HM3 := Lib.hid (RMerge_made (c := c3) hD3 hm3 hl3)
    clear hD3 hm3 hb3 HR2 HD2
    generalize ds3.length = dl3 at *
    go_wp2_with fail
    refine HM3.out.mono ?_
    rintro e w4 ⟨A4, c4, y, rfl, hc4, hr4, hy, hb4⟩
    have HB4 := Lib.hid (bt HB3.out hb4)
    have HR4 := Lib.hid ((HR3.out.keep hb4).up hb4.size)
    have hyl := hy.1
    have HPxy : Hid (∀ W, Below w4.heap.size w4 W → Calls Tryz.prog 25 #[.slice A2 x.length c2, .slice A4 y.length c4] W (TextsPost (changedF x y) W)) := Lib.hid fun W hW => PChanged_any A2 A4 c2 c4 x y W ((HR4.out.keep hW).up hW.size) ((hr4.keep hW).up hW.size) (by omega) (by omega) hc2 hc4 HX.out.ok hy.ok
    have HRxy : Hid (∀ W, Below w4.heap.size w4 W → Calls Tryz.prog 26 #[.slice A2 x.length c2, .slice A4 y.length c4] W (TextsPost (changedF x y) W)) := Lib.hid fun W hW => RChanged_any A2 A4 c2 c4 x y W ((HR4.out.keep hW).up hW.size) ((hr4.keep hW).up hW.size) (by omega) (by omega) hc2 hc4
    have HPxx : Hid (∀ W, Below w4.heap.size w4 W → Calls Tryz.prog 25 #[.slice A2 x.length c2, .slice A2 x.length c2] W (TextsPost [] W)) := Lib.hid fun W hW => by
      have := PChanged_any A2 A2 c2 c2 x x W ((HR4.out.keep hW).up hW.size) ((HR4.out.keep hW).up hW.size) (by omega) (by omega) hc2 hc2 HX.out.ok HX.out.ok
      rwa [changedF_self] at this
    have hxy := changed_len x y
    have hlen2 : (changedF x y).length ≤ 60 := by omega
    clear hr4 hb4 hy hc2 hc4 HM3 HR3 HR4 HX hxy
    generalize changedF x y = t2 at *
    generalize x.length = lx at *
    generalize y.length = ly at *
    unfold TextsPost at HPab HRab HPxy HRxy HPxx
    obtain ⟨q1, hq1⟩ : ∃ q1, t1.length = q1 := ⟨_, rfl⟩
    obtain ⟨q2, hq2⟩ : ∃ q2, t2.length = q2 := ⟨_, rfl⟩
    rw [hq1] at HPab HRab hlen
    rw [hq2] at HPxy HRxy hlen2
    have HQ1 := Lib.hid hq1
    have HQ2 := Lib.hid hq2
    clear hq1 hq2
    go_wp2_with (first
      | (go_at_call_of 25 (Value.slice A la ca); refine (HPab.out _ HB4.out).mono ?_; rintro e w5 ⟨A5, c5, rfl, hc5, hr5, hb5⟩; have HB5 := Lib.hid hb5; have HR5 := Lib.hid hr5; clear hb5 hr5 hc5)
      | (go_at_call_of 26 (Value.slice A la ca); refine (HRab.out _ (bt HB4.out HB5.out)).mono ?_; rintro e w6 ⟨A6, c6, rfl, hc6, hr6, hb6⟩; have HB6 := Lib.hid (bt HB5.out hb6); have HR6 := Lib.hid hr6; have HR56 := Lib.hid ((HR5.out.keep hb6).up hb6.size); clear hb6 hr6 hc6)
      | (go_at_call_of 24 (Value.slice A5 q1 c5); (have hst := SameTexts_yes A5 A6 c5 c6 t1 w6 (by rw [HQ1.out]; omega) (by rw [HQ1.out]; exact HR56.out) (by rw [HQ1.out]; exact HR6.out)); rw [HQ1.out] at hst; refine hst.mono ?_; rintro e w7 ⟨rfl, hb7⟩; have HB7 := Lib.hid (bt HB6.out hb7); clear hb7 hst)
      | (go_at_call_of 25 (Value.slice A4 ly c4); refine (HPxy.out _ HB7.out).mono ?_; rintro e w8 ⟨A8, c8, rfl, hc8, hr8, hb8⟩; have HB8 := Lib.hid (bt HB7.out hb8); have HR8 := Lib.hid hr8; clear hb8 hr8 hc8)
      | (go_at_call_of 26 (Value.slice A4 ly c4); refine (HRxy.out _ HB8.out).mono ?_; rintro e w9 ⟨A9, c9, rfl, hc9, hr9, hb9⟩; have HB9 := Lib.hid (bt HB8.out hb9); have HR9 := Lib.hid hr9; have HR89 := Lib.hid ((HR8.out.keep hb9).up hb9.size); clear hb9 hr9 hc9)
      | (go_at_call_of 24 (Value.slice A8 q2 c8); (have hst := SameTexts_yes A8 A9 c8 c9 t2 w9 (by rw [HQ2.out]; omega) (by rw [HQ2.out]; exact HR89.out) (by rw [HQ2.out]; exact HR9.out)); rw [HQ2.out] at hst; refine hst.mono ?_; rintro e wA ⟨rfl, hbA⟩; have HBA := Lib.hid (bt HB9.out hbA); clear hbA hst)
      | (go_at_call 25; refine (HPxx.out _ HBA.out).mono ?_; rintro e wB ⟨AB, cB, rfl, hcB, hrB, hbB⟩; have HBB := Lib.hid (bt HBA.out hbB); clear hbB hrB hcB)
      | (go_at_call 15; refine (known_any _).mono ?_; rintro e wC ⟨rfl, hbC⟩; have HBC := Lib.hid (bt HB4.out (bt HBB.out hbC)); clear hbC))
    go_ret
    exact ⟨rfl, HBC.out⟩
end Go.Proofs.YthcgkeiggnfgiaaGreatDoor
