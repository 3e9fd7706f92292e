/-
  Contract of the program's Candidates. (Printed by gen_cand.py.)
-/
import Derived.Test.YtgdjknpdgajdgaaG14
import Derived.Test.YtgdjknpdgajdgaaG05
import Derived.Test.YtgdjknpdgajdgaaG10
import Derived.Deep.RegionHeld3
namespace Go.Proofs.Ytgdjknpdgajdgaa
open Go.RowKit Go.Maps
theorem cap_max {w : World} {base k n : Nat} {e : TypeId} {A : Option Addr} {c : Nat} {xs : List Value} (h : w.ownsRow base e k (.slice A n c) n xs) : c ≤ 9223372036854775807 := by
  rcases h.2 with ⟨h1, _⟩ | ⟨g, cap, cur, e, _, _, _, hcm, _⟩
  · injection h1 with _ _ h1; rw [h1]; exact Nat.zero_le _
  · injection e with _ _ e; rw [e]; unfold maxLen at hcm; omega
theorem idxS_map {α β : Type} (f : α → β) (P : β → Bool) (l : List α) : idxS P (l.map f) = idxS (fun x => P (f x)) l := by
  unfold idxS
  rw [List.length_map]
  congr 1
  refine List.filter_congr fun i hi => ?_
  rw [List.getElem?_map]
  cases l[i]? <;> rfl
theorem plcS_is (ls : List (List Tm)) (s : Str) : plcS (ksS ls) s = idxS (fun l => rkeyS (frontS l) == some s) ls := by
  unfold plcS ksS
  rw [idxS_map]; rfl
theorem genS_is (ls : List (List Tm)) : genS ls = idxS (fun l => rkeyS (frontS l) == none) ls := rfl
/-- Is the rule at a place struck. -/
def strB (ls : List (List Tm)) (d : Dv) (z : Int) : Bool := !candS (ls[z.toNat]?.getD []) d
def candI (ls : List (List Tm)) (d : Dv) : List Int := idxS (fun l => candS l d) ls
theorem cand_list (ls : List (List Tm)) (d : Dv) : (mergeS (plcS (ksS ls) (L d.sb)) (genS ls)).filter (fun z => !strB ls d z) = candI ls d := by
  rw [plcS_is, genS_is]
  refine cand_places ls d _ fun i l hl => ?_
  unfold strB
  rw [Bool.not_not, show (Int.ofNat i).toNat = i from rfl, hl]; rfl
theorem place_lt {ls : List (List Tm)} {s : Str} {z : Int} (h : z ∈ mergeS (plcS (ksS ls) s) (genS ls)) : ∃ k : Nat, z = k ∧ k < ls.length := by
  rw [mem_mergeS, plcS_is, genS_is, mem_idxS, mem_idxS] at h
  rcases h with ⟨i, l, rfl, hl, _⟩ | ⟨i, l, rfl, hl, _⟩
  · exact ⟨i, rfl, (List.getElem?_eq_some_iff.1 hl).1⟩
  · exact ⟨i, rfl, (List.getElem?_eq_some_iff.1 hl).1⟩
def CandPost (ls : List (List Tm)) (d : Dv) (w : World) (e : Ending) (w' : World) : Prop := ∃ A c, e = .returned (.slice A (candI ls d).length c) ∧ IRow w' w'.heap.size A (candI ls d) ∧ Below w.heap.size w w'
set_option maxRecDepth 100000 in
set_option maxHeartbeats 8000000 in
theorem PCand_any (pb : Nat) (ls : List (List Tm)) (d : Dv) (w : World) (hp : Prg w pb ls) (hls : LsOk ls) (hd : DvOk d) (hsb : d.sb.size ≤ maxLen) (ha : DvAt w w.heap.size d) :
    Calls Try.prog 9 #[.pointer (some ⟨pb, 0, none⟩), dvV d] w (CandPost ls d w) := by
  have HLs := Lib.hid hls
  have HD := Lib.hid hd
  have HP := Lib.hid hp
  have HA := Lib.hid ha
  have HKey := Lib.hid (WideMaps.keyOf_string_mk (P := Try.prog) Try.underlying9 hsb)
  have hpl : pb < w.heap.size := by obtain ⟨RV, FA, fc, mb, G, Lb, hbx, _⟩ := hp.parts; exact blk_lt' hbx
  clear hp hls hd hsb ha
  have HEnd : Hid (∀ (A : Option Addr) (c : Nat) (W : World), IRow W W.heap.size A (candI ls d) → Below w.heap.size w W → CandPost ls d w (.returned (.slice A (candI ls d).length c)) W) := Lib.hid fun A c W h1 h2 => ⟨A, c, rfl, h1, h2⟩
  generalize hPP : CandPost ls d w = P at *
  clear hPP
  obtain ⟨w1, hw1⟩ : ∃ w1, (w.alloc (.cells #[.pointer (some ⟨pb, 0, none⟩)] 32)).alloc (.cells #[.int .i64 d.ix, .int .i64 d.pa, .string d.nam, .string d.og, .string d.sb, .string d.dr, .string d.al, .int .i64 d.kd, .int .i64 d.nb, .slice d.ats.A d.ats.l.length d.ats.c] 25) = w1 := ⟨_, rfl⟩
  have hx1 : w1.heap[w.heap.size]? = some (.cells #[.pointer (some ⟨pb, 0, none⟩)] 32 (0, 0)) := by rw [← hw1, heap_alloc_old _ _ (by simp)]; exact heap_alloc_new _ _
  have hy1 : DvBox w1 (w.heap.size + 1) d := by
    unfold DvBox
    rw [← hw1]
    have := heap_alloc_new (w.alloc (.cells #[.pointer (some ⟨pb, 0, none⟩)] 32)) (.cells #[.int .i64 d.ix, .int .i64 d.pa, .string d.nam, .string d.og, .string d.sb, .string d.dr, .string d.al, .int .i64 d.kd, .int .i64 d.nb, .slice d.ats.A d.ats.l.length d.ats.c] 25)
    simpa using this
  have hb1 : Below w.heap.size w w1 := by rw [← hw1]; exact bt (below_alloc _ _) (below_alloc _ _)
  have HX1 := Lib.hid hx1
  have HY1 := Lib.hid hy1
  have HB1 := Lib.hid hb1
  have HW1 := Lib.hid hw1
  clear hw1 hx1 hy1 hb1
  unfold dvV
  go_enter Try.func9, Try.ntmps9
  go_upto_region 1 with fail
  rw [HW1.out]
  obtain ⟨wd, hwd⟩ : ∃ wd, w1.drew = wd := ⟨_, rfl⟩
  have hbd : Below w1.heap.size w1 wd := by rw [← hwd]; exact (Below.refl _ _).drew
  have HBd := Lib.hid (bt HB1.out hbd)
  have HXd := Lib.hid ((hbd.block _ (blk_lt' HX1.out)).trans HX1.out)
  have HYd := Lib.hid (HY1.out.keep hbd)
  have HWd := Lib.hid hwd
  clear hwd hbd
  obtain ⟨wb, RV, vs, F, G, Lb, rfl, hNS⟩ := (HP.out.keep HBd.out)
  have HNS := Lib.hid hNS
  obtain ⟨GA, gc, rfl⟩ := own_slice hNS.ge
  have HGc := Lib.hid (cap_of hNS.ge)
  have HGm := Lib.hid (cap_max hNS.ge)
  have HBx := Lib.hid hNS.box
  clear hNS
  have HSx : Hid (∀ W, Below wd.heap.size wd W → W.cell? ⟨w.heap.size, 0, none⟩ = some (.pointer (some ⟨wb.heap.size + 1, 0, none⟩)) ∧ W.cell? ⟨wb.heap.size + 1, 2, none⟩ = some (.map (some wb.heap.size)) ∧ W.cell? ⟨wb.heap.size + 1, 3, none⟩ = some (.slice GA (genS ls).length gc) ∧ W.cell? ⟨w.heap.size + 1, 4, none⟩ = some (.string d.sb)) := Lib.hid fun W hW => by
    have h1 := (hW.block _ (blk_lt' HXd.out)).trans HXd.out
    have h2 := (hW.block _ (blk_lt' HBx.out)).trans HBx.out
    have h3 := (HYd.out.keep hW)
    exact ⟨cellOf h1 rfl, cellOf h2 rfl, cellOf h2 rfl, cellOf h3 rfl⟩
  refine wp_region_held_drew (S := fun W' => W'.cell? ⟨w.heap.size, 0, none⟩ = some (.pointer (some ⟨wb.heap.size + 1, 0, none⟩)) ∧ W'.cell? ⟨wb.heap.size + 1, 2, none⟩ = some (.map (some wb.heap.size)) ∧ W'.cell? ⟨wb.heap.size + 1, 3, none⟩ = some (.slice GA (genS ls).length gc) ∧ W'.cell? ⟨w.heap.size + 1, 4, none⟩ = some (.string d.sb)) (by kernel_rfl) ?_ (fun hHeld => ?_)
  · rw [HWd.out]; exact HSx.out wd (Below.refl _ _)
  rw [HWd.out] at hHeld ⊢
  refine wpAnyH_take (i := 0) (v := ?_) (by simp only [List.getElem?_toArray, List.getElem?_cons_zero]; rfl) (by kernel_rfl) (by kernel_rfl) (by kernel_rfl) (by exact fun _ _ _ h => h) (Or.inl ⟨by rfl, ?_⟩) (by assumption) ?_
  rotate_left
  · intro w hSw
    obtain ⟨s0, s1, s2, s3⟩ := hSw
    go_simp
    try with_reducible rfl
  try simp only [Act.put, List.setIfInBounds_toArray, List.set_cons_zero, List.set_cons_succ]
  refine wpAnyH_take (i := 1) (v := ?_) (by simp only [List.getElem?_toArray, List.getElem?_cons_succ, List.getElem?_cons_zero]; rfl) (by kernel_rfl) (by kernel_rfl) (by kernel_rfl) (by exact fun _ _ _ h => h) (Or.inl ⟨by rfl, ?_⟩) (by assumption) ?_
  rotate_left
  · intro w hSw
    obtain ⟨s0, s1, s2, s3⟩ := hSw
    go_simp
    try with_reducible rfl
  try simp only [Act.put, List.setIfInBounds_toArray, List.set_cons_zero, List.set_cons_succ]
  refine wpAnyH_take (i := 2) (v := ?_) (by simp only [List.getElem?_toArray, List.getElem?_cons_succ, List.getElem?_cons_zero]; rfl) (by kernel_rfl) (by kernel_rfl) (by kernel_rfl) (by exact fun _ _ _ h => h) (Or.inl ⟨by rfl, ?_⟩) (by assumption) ?_
  rotate_left
  · intro w hSw
    obtain ⟨s0, s1, s2, s3⟩ := hSw
    go_simp
    try with_reducible rfl
  try simp only [Act.put, List.setIfInBounds_toArray, List.set_cons_zero, List.set_cons_succ]
  refine wpAnyH_take (i := 3) (v := ?_) (by simp only [List.getElem?_toArray, List.getElem?_cons_succ, List.getElem?_cons_zero]; rfl) (by kernel_rfl) (by kernel_rfl) (by kernel_rfl) (by exact fun _ _ _ h => h) (Or.inl ⟨by rfl, ?_⟩) (by assumption) ?_
  rotate_left
  · intro w hSw
    obtain ⟨s0, s1, s2, s3⟩ := hSw
    go_simp
    try with_reducible rfl
  try simp only [Act.put, List.setIfInBounds_toArray, List.set_cons_zero, List.set_cons_succ]
  refine wpAnyH_take (i := 4) (v := ?_) (by simp only [List.getElem?_toArray, List.getElem?_cons_succ, List.getElem?_cons_zero]; rfl) (by kernel_rfl) (by kernel_rfl) (by kernel_rfl) (by exact fun _ _ _ h => h) (Or.inl ⟨by rfl, ?_⟩) (by assumption) ?_
  rotate_left
  · intro w hSw
    obtain ⟨s0, s1, s2, s3⟩ := hSw
    go_simp
    try with_reducible rfl
  try simp only [Act.put, List.setIfInBounds_toArray, List.set_cons_zero, List.set_cons_succ]
  refine wpAnyH_take (i := 5) (v := ?_) (by simp only [List.getElem?_toArray, List.getElem?_cons_succ, List.getElem?_cons_zero]; rfl) (by kernel_rfl) (by kernel_rfl) (by kernel_rfl) (by exact fun _ _ _ h => h) (Or.inl ⟨by rfl, ?_⟩) (by assumption) ?_
  rotate_left
  · intro w hSw
    obtain ⟨s0, s1, s2, s3⟩ := hSw
    go_simp
    try with_reducible rfl
  try simp only [Act.put, List.setIfInBounds_toArray, List.set_cons_zero, List.set_cons_succ]
  refine wpAnyH_take (i := 7) (v := ?_) (by simp only [List.getElem?_toArray, List.getElem?_cons_succ, List.getElem?_cons_zero]; rfl) (by kernel_rfl) (by kernel_rfl) (by kernel_rfl) (by exact fun _ _ _ h => h) (Or.inl ⟨by rfl, ?_⟩) (by assumption) ?_
  rotate_left
  · intro w hSw
    obtain ⟨s0, s1, s2, s3⟩ := hSw
    go_simp
    try with_reducible rfl
  try simp only [Act.put, List.setIfInBounds_toArray, List.set_cons_zero, List.set_cons_succ]
  refine wpAnyH_take (i := 8) (v := ?_) (by simp only [List.getElem?_toArray, List.getElem?_cons_succ, List.getElem?_cons_zero]; rfl) (by kernel_rfl) (by kernel_rfl) (by kernel_rfl) (by exact fun _ _ _ h => h) (Or.inl ⟨by rfl, ?_⟩) (by assumption) ?_
  rotate_left
  · intro w hSw
    obtain ⟨s0, s1, s2, s3⟩ := hSw
    go_simp
    try with_reducible rfl
  try simp only [Act.put, List.setIfInBounds_toArray, List.set_cons_zero, List.set_cons_succ]
  refine wpAnyH_take (i := 9) (v := ?_) (by simp only [List.getElem?_toArray, List.getElem?_cons_succ, List.getElem?_cons_zero]; rfl) (by kernel_rfl) (by kernel_rfl) (by kernel_rfl) (by exact fun _ _ _ h => h) (Or.inl ⟨by rfl, ?_⟩) (by assumption) ?_
  rotate_left
  · intro w hSw
    obtain ⟨s0, s1, s2, s3⟩ := hSw
    go_simp
    try with_reducible rfl
  try simp only [Act.put, List.setIfInBounds_toArray, List.set_cons_zero, List.set_cons_succ]
  refine wpAnyH_take (i := 10) (v := ?_) (by simp only [List.getElem?_toArray, List.getElem?_cons_succ, List.getElem?_cons_zero]; rfl) (by kernel_rfl) (by kernel_rfl) (by kernel_rfl) (by exact fun _ _ _ h => h) (Or.inl ⟨by rfl, ?_⟩) (by assumption) ?_
  rotate_left
  · intro w hSw
    obtain ⟨s0, s1, s2, s3⟩ := hSw
    go_simp
    try with_reducible rfl
  try simp only [Act.put, List.setIfInBounds_toArray, List.set_cons_zero, List.set_cons_succ]
  refine wpAnyH_take (i := 12) (v := ?_) (by simp only [List.getElem?_toArray, List.getElem?_cons_succ, List.getElem?_cons_zero]; rfl) (by kernel_rfl) (by kernel_rfl) (by kernel_rfl) (by exact fun _ _ _ h => h) (Or.inl ⟨by rfl, ?_⟩) (by assumption) ?_
  rotate_left
  · intro w hSw
    obtain ⟨s0, s1, s2, s3⟩ := hSw
    go_simp
    try with_reducible rfl
  try simp only [Act.put, List.setIfInBounds_toArray, List.set_cons_zero, List.set_cons_succ]
  refine wpAnyH_ready (rs := [6]) (by kernel_rfl) (by simp) ?_
  refine AllReadyH.cons (by simp only [List.getElem?_toArray, List.getElem?_cons_succ, List.getElem?_cons_zero]; rfl) (fun K hK => ?_) AllReadyH.nil
  obtain ⟨v, zs, hrun, hat, hoi, _, _, _⟩ := groups_at HNS.out.gr keyedS Try.underlying57 (zeroInts _) (by have := HLs.out.len; unfold maxLen; omega) HKey.out
  obtain ⟨VA, vc, rfl⟩ := own_slice hoi.1
  obtain rfl : zs = plcS (ksS ls) (L d.sb) := places_of hat hoi
  have HMg := Lib.hid (Merged_any VA GA vc gc (plcS (ksS ls) (L d.sb)) (genS ls) wd (by have := HLs.out.len; have := idxS_len (fun o => o == some (L d.sb)) (ksS ls); unfold plcS; unfold ksS at *; rw [List.length_map] at this; omega) (by have := HLs.out.len; have := idxS_len (fun l => rkF l == none) ls; unfold genS; omega) (cap_of hoi.1) HGc.out (cap_max hoi.1) HGm.out (RowAt.of_own hoi.1) (RowAt.of_own HNS.out.ge))
  unfold IntsPost at HMg
  clear hat hoi
  go_simp
  refine hK.out _ _ (by exact HSx.out wd (Below.refl _ _)) (fun hHeld => ?_)
  clear hK K
  try simp only [Act.put, List.setIfInBounds_toArray, List.set_cons_zero, List.set_cons_succ]
  refine wpAnyH_ready (rs := [11]) (by kernel_rfl) (by simp) ?_
  refine AllReadyH.cons (by simp only [List.getElem?_toArray, List.getElem?_cons_succ, List.getElem?_cons_zero]; rfl) (fun K hK => ?_) AllReadyH.nil
  go_simp
  go_at_call 26
  refine HMg.out.mono ?_
  rintro e w2 ⟨v2, rfl, hown2, hb2⟩
  obtain ⟨MA, mc, rfl⟩ := own_slice hown2
  have HDl := Lib.hid (Del_any MA mc w.heap.size (w.heap.size + 1) (mergeS (plcS (ksS ls) (L d.sb)) (genS ls)) (strB ls d) wd w2 (by have := merge_len (plcS (ksS ls) (L d.sb)) (genS ls); have := HLs.out.len; have := idxS_len (fun l => rkF l == none) ls; have h7 := idxS_len (fun o => o == some (L d.sb)) (ksS ls); unfold plcS genS at *; unfold ksS at *; rw [List.length_map] at h7; omega) hown2 (cap_of hown2) (cap_max hown2) hb2 (fun z hz W hW => by
    obtain ⟨k, rfl, hk⟩ := place_lt hz
    have h1 := Hit_any k (wb.heap.size + 1) w.heap.size (w.heap.size + 1) ls d W (HP.out.keep (bt HBd.out hW)) HLs.out hk (HSx.out W hW).1 (HYd.out.keep hW) HD.out ((HA.out.keep (bt HBd.out hW)).up (bt HBd.out hW).size)
    unfold strB
    rw [show ((k : Nat) : Int).toNat = k from rfl, List.getElem?_eq_getElem hk]
    exact h1))
  unfold DelPost at HDl
  rw [cand_list] at HDl
  have HB2 := Lib.hid hb2
  clear hown2
  refine hK.out _ _ (by exact HSx.out w2 HB2.out) (fun hHeld => ?_)
  clear hK K
  try simp only [Act.put, List.setIfInBounds_toArray, List.set_cons_zero, List.set_cons_succ]
  refine wpAnyH_ready (rs := [13]) (by kernel_rfl) (by simp) ?_
  refine AllReadyH.cons (by simp only [List.getElem?_toArray, List.getElem?_cons_succ, List.getElem?_cons_zero]; rfl) (fun K hK => ?_) AllReadyH.nil
  go_simp
  go_at_call 25
  refine HDl.out.mono ?_
  rintro e w3 ⟨A3, c3, rfl, hr3, hb3⟩
  refine hK.out _ _ (by exact HSx.out w3 hb3) (fun hHeld => ?_)
  clear hK K
  try simp only [Act.put, List.setIfInBounds_toArray, List.set_cons_zero, List.set_cons_succ]
  refine wpAnyH_ready (rs := [14]) (by kernel_rfl) (by simp) ?_
  refine AllReadyH.cons (by simp only [List.getElem?_toArray, List.getElem?_cons_succ, List.getElem?_cons_zero]; rfl) (fun K hK => ?_) AllReadyH.nil
  go_simp
  refine hK.out _ _ (by exact HSx.out w3 hb3) (fun hHeld => ?_)
  clear hK K
  try simp only [Act.put, List.setIfInBounds_toArray, List.set_cons_zero, List.set_cons_succ]
  refine wpAnyH_done (by kernel_rfl) ?_ _
  go_wp2
  exact HEnd.out _ _ _ hr3 (bt HBd.out hb3)
end Go.Proofs.Ytgdjknpdgajdgaa
