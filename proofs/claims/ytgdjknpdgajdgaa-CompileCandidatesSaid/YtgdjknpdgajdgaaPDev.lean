/-
  Contract of the program's Device of a term. (Printed by gen_pdev.py.)
-/
import Derived.Test.YtgdjknpdgajdgaaRDevB
import Derived.Test.YtgdjknpdgajdgaaG09
namespace Go.Proofs.Ytgdjknpdgajdgaa
open Go.RowKit
theorem neqNilL (w : World) : (binOp .neq 89 .nilFunc .nilFunc).run Try.prog w = .ok (.bool false) w := by kernel_rfl
theorem neqFnL (n : Nat) (w : World) : (binOp .neq 89 (.func (.func n) #[] #[]) .nilFunc).run Try.prog w = .ok (.bool true) w := by kernel_rfl
set_option maxRecDepth 100000 in
set_option maxHeartbeats 2000000 in
theorem PHolds_any (t : Tm) (v : ByteArray) (w : World) (hp : t.value.size ≤ 4611686018427387904) (hv : v.size ≤ 4611686018427387904) : Calls Try.prog 43 #[tmV t, .string v] w fun e w' => e = .returned (.bool (holdsB t v)) ∧ Below w.heap.size w w' := by
  have HM := Lib.hid (fun W => PGMatch_any t.value v W hp hv)
  have HR : Hid (holdsB t v = (globM (L t.value) (L v) == (t.op == 1))) := Lib.hid rfl
  unfold tmV
  generalize globM (L t.value) (L v) = b at *
  obtain ⟨w1, hw1⟩ : ∃ w1, (w.alloc (.cells #[.int .i64 t.key, .string t.name, .int .i64 t.op, .string t.value] 43)) = w1 := ⟨_, rfl⟩
  have HSx : Hid (∀ W, Below w1.heap.size w1 W → W.cell? ⟨w.heap.size, 2, none⟩ = some (.int .i64 t.op) ∧ W.cell? ⟨w.heap.size, 3, none⟩ = some (.string t.value)) := Lib.hid fun W hW => by
    rw [← hw1] at hW
    obtain ⟨_, _, c2, c3⟩ := box4 hW
    exact ⟨c2, c3⟩
  have HB1 : Hid (Below w.heap.size w w1) := Lib.hid (by rw [← hw1]; exact below_alloc _ _)
  have HW1 := Lib.hid hw1
  clear hw1
  go_enter Try.func43, Try.ntmps43
  go_upto_region 1 with fail
  rw [HW1.out]
  obtain ⟨c2, c3⟩ := HSx.out w1 (Below.refl _ _)
  go_region_held3 (fun W' => W'.cell? ⟨w.heap.size, 2, none⟩ = some (.int .i64 t.op) ∧ W'.cell? ⟨w.heap.size, 3, none⟩ = some (.string t.value)) ((refine HSx.out _ ?_; first | exact rdBDr (Below.refl _ _) | exact hB2)) ((go_at_call 53; refine (HM.out _).mono ?_; rintro e w2 ⟨rfl, hb2⟩; (have hB2 : Below w1.heap.size w1 w2 := bt (rdBDr (Below.refl _ _)) hb2)))
  all_goals
    go_wp2
    go_ret
    exact ⟨ret_bool (by rw [HR.out]), bt HB1.out hB2⟩
set_option maxRecDepth 100000 in
set_option maxHeartbeats 1000000 in
theorem LkF1_any (t : Tm) (d : Dv) (w : World) : Calls Try.prog 63 #[tmV t, dvV d] w fun e w' => e = .returned (.string d.og) ∧ Below w.heap.size w w' := by
  unfold tmV dvV
  go_enter Try.func63, Try.ntmps63
  go_wp2
  go_ret
  exact ⟨rfl, bt (below_alloc _ _) (below_alloc _ _)⟩
set_option maxRecDepth 100000 in
set_option maxHeartbeats 1000000 in
theorem LkF2_any (t : Tm) (d : Dv) (w : World) : Calls Try.prog 64 #[tmV t, dvV d] w fun e w' => e = .returned (.string d.sb) ∧ Below w.heap.size w w' := by
  unfold tmV dvV
  go_enter Try.func64, Try.ntmps64
  go_wp2
  go_ret
  exact ⟨rfl, bt (below_alloc _ _) (below_alloc _ _)⟩
set_option maxRecDepth 100000 in
set_option maxHeartbeats 1000000 in
theorem LkF3_any (t : Tm) (d : Dv) (w : World) : Calls Try.prog 65 #[tmV t, dvV d] w fun e w' => e = .returned (.string d.dr) ∧ Below w.heap.size w w' := by
  unfold tmV dvV
  go_enter Try.func65, Try.ntmps65
  go_wp2
  go_ret
  exact ⟨rfl, bt (below_alloc _ _) (below_alloc _ _)⟩
set_option maxRecDepth 100000 in
set_option maxHeartbeats 1000000 in
theorem LkF4_any (t : Tm) (d : Dv) (w : World) (hd : DvOk d) (h : DvAt w w.heap.size d) : Calls Try.prog 66 #[tmV t, dvV d] w fun e w' => e = .returned (.string (attrS d.ats.l (L t.name))) ∧ Below w.heap.size w w' := by
  have hgv := getV_is d.ats.l (L t.name)
  have HGe : Hid (∀ W, Below w.heap.size w W → Calls Try.prog 67 #[.slice d.ats.A d.ats.l.length d.ats.c, .string t.name] W (GetPost (findF d.ats.l (L t.name)) W)) := Lib.hid fun W hW => PGet_any d.ats.A d.ats.c d.ats.l t.name W ((h.keep hW).up hW.size) hd.len
  unfold GetPost at HGe
  rw [hgv] at HGe
  clear hgv hd h
  generalize attrS d.ats.l (L t.name) = av at *
  generalize (findF d.ats.l (L t.name)).isSome = ab at *
  unfold tmV dvV
  go_enter Try.func66, Try.ntmps66
  go_wp2_with (go_at_call 67; refine (HGe.out _ (bt (below_alloc _ _) (below_alloc _ _))).mono ?_; rintro e w4 ⟨rfl, hb4⟩; have HB4 := Lib.hid hb4; clear hb4)
  go_ret
  exact ⟨rfl, bt (bt (below_alloc _ _) (below_alloc _ _)) HB4.out⟩
theorem fnOf_no {t : Tm} (h : staticB t = false) (h2 : upB t = false) : fnOf t = .nilFunc := by
  unfold staticB at h
  unfold upB at h2
  unfold fnOf
  cases hm : matchB t.op with
  | false => rfl
  | true =>
    rw [hm] at h h2
    simp only [Bool.true_and, Bool.or_eq_false_iff, beq_eq_false_iff_ne] at h h2
    rw [if_pos rfl, lkF, if_neg (by omega), if_neg (by omega), if_neg (by omega), if_neg (by omega)]
theorem fnOf_at {t : Tm} (hm : matchB t.op = true) {v : Value} (h : lkF t.key = v) : fnOf t = v := by unfold fnOf; rw [hm, if_pos rfl, h]
theorem look_one (b u : Bool) {f : Value} (h : f.oneCell' = true) : (#[.bool b, .bool u, f] : Array Value).all (·.oneCell') = true := by
  rw [Array.all_eq_true_iff_forall_mem]
  intro x hx
  simp only [List.mem_toArray, List.mem_cons, List.not_mem_nil, or_false] at hx
  rcases hx with rfl | rfl | rfl
  · rfl
  · rfl
  · exact h
theorem fn_one (t : Tm) : (fnOf t).oneCell' = true := by
  unfold fnOf lkF
  repeat (split; · rfl)
  split
  · repeat (split; · rfl)
    rfl
  · rfl
attribute [local go_sem ↓] st_look
set_option maxRecDepth 100000 in
set_option maxHeartbeats 8000000 in
theorem PDevice_any (t : Tm) (d : Dv) (w : World) (hp : t.value.size ≤ 4611686018427387904) (hd : DvOk d) (h : DvAt w w.heap.size d) :
    Calls Try.prog 29 #[tmV t, dvV d] w fun e w' => e = .returned (.bool (devB t d)) ∧ Below w.heap.size w w' := by
  obtain ⟨ky, nmm, op, vl⟩ := t
  dsimp only at hp
  have hO := fun W => POf_any (⟨ky, nmm, op, vl⟩ : Tm) W
  rw [ofA_is] at hO
  have HO := Lib.hid hO
  have HHo := Lib.hid (fun v (hv : v.size ≤ 4611686018427387904) W => PHolds_any (⟨ky, nmm, op, vl⟩ : Tm) v W hp hv)
  have HF1 := Lib.hid (fun W => LkF1_any (⟨ky, nmm, op, vl⟩ : Tm) d W)
  have HF2 := Lib.hid (fun W => LkF2_any (⟨ky, nmm, op, vl⟩ : Tm) d W)
  have HF3 := Lib.hid (fun W => LkF3_any (⟨ky, nmm, op, vl⟩ : Tm) d W)
  have HF4 : Hid (∀ W, Below w.heap.size w W → Calls Try.prog 66 #[tmV (⟨ky, nmm, op, vl⟩ : Tm), dvV d] W fun e w' => e = .returned (.string (attrS d.ats.l (L nmm))) ∧ Below W.heap.size W w') := Lib.hid fun W hW => LkF4_any (⟨ky, nmm, op, vl⟩ : Tm) d W hd ((h.keep hW).up hW.size)
  have HD := Lib.hid hd
  have HOa := Lib.hid (attrS_size hd.ats (L nmm))
  have h1c := fn_one (⟨ky, nmm, op, vl⟩ : Tm)
  clear hO hd h hp
  obtain ⟨w1, hw1⟩ : ∃ w1, (w.alloc (.cells #[.int .i64 ky, .string nmm, .int .i64 op, .string vl] 43)).alloc (.cells #[.int .i64 d.ix, .int .i64 d.pa, .string d.nam, .string d.og, .string d.sb, .string d.dr, .string d.al, .int .i64 d.kd, .int .i64 d.nb, .slice d.ats.A d.ats.l.length d.ats.c] 25) = w1 := ⟨_, rfl⟩
  have hT : w1.heap[w.heap.size]? = some (.cells #[.int .i64 ky, .string nmm, .int .i64 op, .string vl] 43) := by rw [← hw1, heap_alloc_old _ _ (by simp)]; exact heap_alloc_new _ _
  have hD : w1.heap[w.heap.size + 1]? = some (.cells #[.int .i64 d.ix, .int .i64 d.pa, .string d.nam, .string d.og, .string d.sb, .string d.dr, .string d.al, .int .i64 d.kd, .int .i64 d.nb, .slice d.ats.A d.ats.l.length d.ats.c] 25) := by rw [← hw1]; have := heap_alloc_new (w.alloc (.cells #[.int .i64 ky, .string nmm, .int .i64 op, .string vl] 43)) (.cells #[.int .i64 d.ix, .int .i64 d.pa, .string d.nam, .string d.og, .string d.sb, .string d.dr, .string d.al, .int .i64 d.kd, .int .i64 d.nb, .slice d.ats.A d.ats.l.length d.ats.c] 25); simpa using this
  have HSx : Hid (∀ W, Below w1.heap.size w1 W → W.cell? ⟨w.heap.size, 0, none⟩ = some (.int .i64 ky) ∧ W.cell? ⟨w.heap.size, 1, none⟩ = some (.string nmm) ∧ W.cell? ⟨w.heap.size, 2, none⟩ = some (.int .i64 op) ∧ W.cell? ⟨w.heap.size, 3, none⟩ = some (.string vl) ∧ W.cell? ⟨w.heap.size + 1, 0, none⟩ = some (.int .i64 d.ix) ∧ W.cell? ⟨w.heap.size + 1, 1, none⟩ = some (.int .i64 d.pa) ∧ W.cell? ⟨w.heap.size + 1, 2, none⟩ = some (.string d.nam) ∧ W.cell? ⟨w.heap.size + 1, 3, none⟩ = some (.string d.og) ∧ W.cell? ⟨w.heap.size + 1, 4, none⟩ = some (.string d.sb) ∧ W.cell? ⟨w.heap.size + 1, 5, none⟩ = some (.string d.dr) ∧ W.cell? ⟨w.heap.size + 1, 6, none⟩ = some (.string d.al) ∧ W.cell? ⟨w.heap.size + 1, 7, none⟩ = some (.int .i64 d.kd) ∧ W.cell? ⟨w.heap.size + 1, 8, none⟩ = some (.int .i64 d.nb) ∧ W.cell? ⟨w.heap.size + 1, 9, none⟩ = some (.slice d.ats.A d.ats.l.length d.ats.c)) := Lib.hid fun W hW => by
    have h1 := (hW.block _ (blk_lt' hT)).trans hT
    have h2 := (hW.block _ (blk_lt' hD)).trans hD
    exact ⟨cellOf h1 rfl, cellOf h1 rfl, cellOf h1 rfl, cellOf h1 rfl, cellOf h2 rfl, cellOf h2 rfl, cellOf h2 rfl, cellOf h2 rfl, cellOf h2 rfl, cellOf h2 rfl, cellOf h2 rfl, cellOf h2 rfl, cellOf h2 rfl, cellOf h2 rfl⟩
  have HB1 : Hid (Below w.heap.size w w1) := Lib.hid (by rw [← hw1]; exact bt (below_alloc _ _) (below_alloc _ _))
  have HSz : Hid (w1.heap.size = w.heap.size + 2) := Lib.hid (by rw [← hw1]; simp)
  have HW1 := Lib.hid hw1
  clear hw1 hT hD
  by_cases hno : staticB (⟨ky, nmm, op, vl⟩ : Tm) = false ∧ upB (⟨ky, nmm, op, vl⟩ : Tm) = false
  · have HR := Lib.hid (devB_no (t := ⟨ky, nmm, op, vl⟩) (d := d) hno.1 hno.2)
    have hfn := fnOf_no hno.1 hno.2
    rw [hfn] at HO h1c
    have HLo : Hid ((#[.bool (staticB (⟨ky, nmm, op, vl⟩ : Tm)), .bool (upB (⟨ky, nmm, op, vl⟩ : Tm)), .nilFunc] : Array Value).all (·.oneCell') = true) := Lib.hid (look_one _ _ rfl)
    generalize staticB (⟨ky, nmm, op, vl⟩ : Tm) = bs at *
    generalize upB (⟨ky, nmm, op, vl⟩ : Tm) = bu at *
    clear hno hfn HHo
    unfold tmV dvV at *
    dsimp only at *
    have hnq := neqNilL
    go_enter Try.func29, Try.ntmps29
    go_upto_region 1 with fail
    rw [HW1.out]
    obtain ⟨c0, c1, c2, c3, c4, c5, c6, c7, c8, c9, c10, c11, c12, c13⟩ := HSx.out w1 (Below.refl _ _)
    go_upto_region 2 with (go_at_call 42; refine (HO.out _).mono ?_; rintro e w2 ⟨rfl, hb2⟩; have HB2 := Lib.hid hb2; have hst := stLook_at (w := w2.alloc (.cells lookZ 91)) (cs := #[.bool bs, .bool bu, .nilFunc]) (heap_alloc_new w2 _) rfl rfl HLo.out; clear hb2)
    clear hst
    obtain ⟨w3, hw3⟩ : ∃ w3, (w2.alloc (.cells lookZ 91)).setRow w2.heap.size #[.bool bs, .bool bu, .nilFunc] = w3 := ⟨_, rfl⟩
    have HB3 : Hid (Below w2.heap.size w2 w3) := Lib.hid (by rw [← hw3]; exact lkBR (below_alloc _ _) (Nat.le_refl _))
    have hf3 : w3.heap[w2.heap.size]? = some (.cells #[.bool bs, .bool bu, .nilFunc] 91 (0, 0)) := by rw [← hw3]; exact setRow_heap _ _ _ _ _ _ (heap_alloc_new w2 _)
    have HSf : Hid (∀ W, Below w3.heap.size w3 W → W.cell? ⟨w2.heap.size, 2, none⟩ = some (.nilFunc)) := Lib.hid fun W hW => cellOf ((hW.block _ (blk_lt' hf3)).trans hf3) rfl
    have HBw : Hid (Below w1.heap.size w1 w3) := Lib.hid (bt HB2.out HB3.out)
    rw [hw3]
    have HW3 := Lib.hid hw3
    clear hw3 hf3
    obtain ⟨d0, d1, d2, d3, d4, d5, d6, d7, d8, d9, d10, d11, d12, d13⟩ := HSx.out w3 HBw.out
    have g2 := HSf.out w3 (Below.refl _ _)
    go_quiet (fail)
    go_wp2
    go_ret
    exact ⟨ret_bool (by rw [HR.out]), below_drewN (bt HB1.out HBw.out) _⟩
  have hm : matchB op = true := by
    cases hm : matchB op with
    | true => rfl
    | false => exact absurd ⟨by unfold staticB; rw [hm]; rfl, by unfold upB; rw [hm]; rfl⟩ hno
  have hk : ky = 2 ∨ ky = 3 ∨ ky = 4 ∨ ky = 5 ∨ ky = 8 ∨ ky = 9 ∨ ky = 10 ∨ ky = 11 := by
    refine Classical.byContradiction fun h => hno ⟨?_, ?_⟩
    · unfold staticB; rw [hm]; simp; omega
    · unfold upB; rw [hm]; simp; omega
  have HAt := Lib.hid (fun v h => devB_at (t := ⟨ky, nmm, op, vl⟩) (d := d) hm v h)
  have HFa := Lib.hid (fun v h => fnOf_at (t := ⟨ky, nmm, op, vl⟩) hm (v := v) h)
  clear hno
  have hkk : ∃ n v, (n = 1 ∧ v = d.og ∨ n = 2 ∧ v = d.sb ∨ n = 3 ∧ v = d.dr ∨ n = 4 ∧ v = attrS d.ats.l (L nmm)) ∧ seenV (⟨ky, nmm, op, vl⟩ : Tm) d = some v ∧ lkF ky = .func (.func (match n with | 1 => 63 | 2 => 64 | 3 => 65 | _ => 66)) #[] #[] := by
    rcases hk with rfl | rfl | rfl | rfl | rfl | rfl | rfl | rfl
    · exact ⟨1, d.og, Or.inl ⟨rfl, rfl⟩, rfl, rfl⟩
    · exact ⟨2, d.sb, Or.inr (Or.inl ⟨rfl, rfl⟩), rfl, rfl⟩
    · exact ⟨3, d.dr, Or.inr (Or.inr (Or.inl ⟨rfl, rfl⟩)), rfl, rfl⟩
    · exact ⟨4, attrS d.ats.l (L nmm), Or.inr (Or.inr (Or.inr ⟨rfl, rfl⟩)), rfl, rfl⟩
    · exact ⟨1, d.og, Or.inl ⟨rfl, rfl⟩, rfl, rfl⟩
    · exact ⟨2, d.sb, Or.inr (Or.inl ⟨rfl, rfl⟩), rfl, rfl⟩
    · exact ⟨3, d.dr, Or.inr (Or.inr (Or.inl ⟨rfl, rfl⟩)), rfl, rfl⟩
    · exact ⟨4, attrS d.ats.l (L nmm), Or.inr (Or.inr (Or.inr ⟨rfl, rfl⟩)), rfl, rfl⟩
  obtain ⟨n, v, hnv, hsv, hlk⟩ := hkk
  have HR := Lib.hid (HAt.out v hsv)
  have hfn := HFa.out _ hlk
  rw [hfn] at HO h1c
  clear hm hk HAt HFa hsv hlk hfn
  rcases hnv with ⟨rfl, rfl⟩ | ⟨rfl, rfl⟩ | ⟨rfl, rfl⟩ | ⟨rfl, rfl⟩
  · have HHv := Lib.hid (HHo.out (d.og) (by exact HD.out.og))
    have HLo : Hid ((#[.bool (staticB (⟨ky, nmm, op, vl⟩ : Tm)), .bool (upB (⟨ky, nmm, op, vl⟩ : Tm)), .func (.func 63) #[] #[]] : Array Value).all (·.oneCell') = true) := Lib.hid (look_one _ _ rfl)
    generalize staticB (⟨ky, nmm, op, vl⟩ : Tm) = bs at *
    generalize upB (⟨ky, nmm, op, vl⟩ : Tm) = bu at *
    generalize holdsB (⟨ky, nmm, op, vl⟩ : Tm) (d.og) = hb at *
    clear HHo
    try dsimp only at HO
    unfold tmV dvV at *
    dsimp only at *
    have hnq := neqFnL 63
    go_enter Try.func29, Try.ntmps29
    go_upto_region 1 with fail
    rw [HW1.out]
    obtain ⟨c0, c1, c2, c3, c4, c5, c6, c7, c8, c9, c10, c11, c12, c13⟩ := HSx.out w1 (Below.refl _ _)
    go_upto_region 2 with (go_at_call 42; refine (HO.out _).mono ?_; rintro e w2 ⟨rfl, hb2⟩; have HB2 := Lib.hid hb2; have hst := stLook_at (w := w2.alloc (.cells lookZ 91)) (cs := #[.bool bs, .bool bu, .func (.func 63) #[] #[]]) (heap_alloc_new w2 _) rfl rfl HLo.out; clear hb2)
    clear hst
    obtain ⟨w3, hw3⟩ : ∃ w3, (w2.alloc (.cells lookZ 91)).setRow w2.heap.size #[.bool bs, .bool bu, .func (.func 63) #[] #[]] = w3 := ⟨_, rfl⟩
    have HB3 : Hid (Below w2.heap.size w2 w3) := Lib.hid (by rw [← hw3]; exact lkBR (below_alloc _ _) (Nat.le_refl _))
    have hf3 : w3.heap[w2.heap.size]? = some (.cells #[.bool bs, .bool bu, .func (.func 63) #[] #[]] 91 (0, 0)) := by rw [← hw3]; exact setRow_heap _ _ _ _ _ _ (heap_alloc_new w2 _)
    have HSf : Hid (∀ W, Below w3.heap.size w3 W → W.cell? ⟨w2.heap.size, 2, none⟩ = some (.func (.func 63) #[] #[])) := Lib.hid fun W hW => cellOf ((hW.block _ (blk_lt' hf3)).trans hf3) rfl
    have HBw : Hid (Below w1.heap.size w1 w3) := Lib.hid (bt HB2.out HB3.out)
    rw [hw3]
    have HW3 := Lib.hid hw3
    clear hw3 hf3
    obtain ⟨d0, d1, d2, d3, d4, d5, d6, d7, d8, d9, d10, d11, d12, d13⟩ := HSx.out w3 HBw.out
    have g2 := HSf.out w3 (Below.refl _ _)
    have HSa : Hid (∀ W, Below w3.heap.size w3 W → W.cell? ⟨w2.heap.size, 2, none⟩ = some (.func (.func 63) #[] #[]) ∧ (W.cell? ⟨w.heap.size, 0, none⟩ = some (.int .i64 ky) ∧ W.cell? ⟨w.heap.size, 1, none⟩ = some (.string nmm) ∧ W.cell? ⟨w.heap.size, 2, none⟩ = some (.int .i64 op) ∧ W.cell? ⟨w.heap.size, 3, none⟩ = some (.string vl) ∧ W.cell? ⟨w.heap.size + 1, 0, none⟩ = some (.int .i64 d.ix) ∧ W.cell? ⟨w.heap.size + 1, 1, none⟩ = some (.int .i64 d.pa) ∧ W.cell? ⟨w.heap.size + 1, 2, none⟩ = some (.string d.nam) ∧ W.cell? ⟨w.heap.size + 1, 3, none⟩ = some (.string d.og) ∧ W.cell? ⟨w.heap.size + 1, 4, none⟩ = some (.string d.sb) ∧ W.cell? ⟨w.heap.size + 1, 5, none⟩ = some (.string d.dr) ∧ W.cell? ⟨w.heap.size + 1, 6, none⟩ = some (.string d.al) ∧ W.cell? ⟨w.heap.size + 1, 7, none⟩ = some (.int .i64 d.kd) ∧ W.cell? ⟨w.heap.size + 1, 8, none⟩ = some (.int .i64 d.nb) ∧ W.cell? ⟨w.heap.size + 1, 9, none⟩ = some (.slice d.ats.A d.ats.l.length d.ats.c))) := Lib.hid fun W hW => ⟨HSf.out W hW, HSx.out W (bt HBw.out hW)⟩
    go_region_held3 (fun W' => W'.cell? ⟨w2.heap.size, 2, none⟩ = some (.func (.func 63) #[] #[]) ∧ (W'.cell? ⟨w.heap.size, 0, none⟩ = some (.int .i64 ky) ∧ W'.cell? ⟨w.heap.size, 1, none⟩ = some (.string nmm) ∧ W'.cell? ⟨w.heap.size, 2, none⟩ = some (.int .i64 op) ∧ W'.cell? ⟨w.heap.size, 3, none⟩ = some (.string vl) ∧ W'.cell? ⟨w.heap.size + 1, 0, none⟩ = some (.int .i64 d.ix) ∧ W'.cell? ⟨w.heap.size + 1, 1, none⟩ = some (.int .i64 d.pa) ∧ W'.cell? ⟨w.heap.size + 1, 2, none⟩ = some (.string d.nam) ∧ W'.cell? ⟨w.heap.size + 1, 3, none⟩ = some (.string d.og) ∧ W'.cell? ⟨w.heap.size + 1, 4, none⟩ = some (.string d.sb) ∧ W'.cell? ⟨w.heap.size + 1, 5, none⟩ = some (.string d.dr) ∧ W'.cell? ⟨w.heap.size + 1, 6, none⟩ = some (.string d.al) ∧ W'.cell? ⟨w.heap.size + 1, 7, none⟩ = some (.int .i64 d.kd) ∧ W'.cell? ⟨w.heap.size + 1, 8, none⟩ = some (.int .i64 d.nb) ∧ W'.cell? ⟨w.heap.size + 1, 9, none⟩ = some (.slice d.ats.A d.ats.l.length d.ats.c))) ((refine HSa.out _ ?_; first | exact rdBDr (Below.refl _ _) | exact hB5 | exact hB4)) ((first
      | (go_at_call 63; refine (HF1.out _).mono ?_; rintro e w4 ⟨rfl, hb4⟩; (have hB4 : Below w3.heap.size w3 w4 := bt (rdBDr (Below.refl _ _)) hb4))
      | (go_at_call 43; refine (HHv.out _).mono ?_; rintro e w5 ⟨rfl, hb5⟩; (have hB5 : Below w3.heap.size w3 w5 := bt hB4 hb5))))
    all_goals
      go_wp2
      go_ret
      exact ⟨ret_bool (by rw [HR.out]), bt HB1.out (bt HBw.out hB5)⟩
  · have HHv := Lib.hid (HHo.out (d.sb) (by exact HD.out.sb))
    have HLo : Hid ((#[.bool (staticB (⟨ky, nmm, op, vl⟩ : Tm)), .bool (upB (⟨ky, nmm, op, vl⟩ : Tm)), .func (.func 64) #[] #[]] : Array Value).all (·.oneCell') = true) := Lib.hid (look_one _ _ rfl)
    generalize staticB (⟨ky, nmm, op, vl⟩ : Tm) = bs at *
    generalize upB (⟨ky, nmm, op, vl⟩ : Tm) = bu at *
    generalize holdsB (⟨ky, nmm, op, vl⟩ : Tm) (d.sb) = hb at *
    clear HHo
    try dsimp only at HO
    unfold tmV dvV at *
    dsimp only at *
    have hnq := neqFnL 64
    go_enter Try.func29, Try.ntmps29
    go_upto_region 1 with fail
    rw [HW1.out]
    obtain ⟨c0, c1, c2, c3, c4, c5, c6, c7, c8, c9, c10, c11, c12, c13⟩ := HSx.out w1 (Below.refl _ _)
    go_upto_region 2 with (go_at_call 42; refine (HO.out _).mono ?_; rintro e w2 ⟨rfl, hb2⟩; have HB2 := Lib.hid hb2; have hst := stLook_at (w := w2.alloc (.cells lookZ 91)) (cs := #[.bool bs, .bool bu, .func (.func 64) #[] #[]]) (heap_alloc_new w2 _) rfl rfl HLo.out; clear hb2)
    clear hst
    obtain ⟨w3, hw3⟩ : ∃ w3, (w2.alloc (.cells lookZ 91)).setRow w2.heap.size #[.bool bs, .bool bu, .func (.func 64) #[] #[]] = w3 := ⟨_, rfl⟩
    have HB3 : Hid (Below w2.heap.size w2 w3) := Lib.hid (by rw [← hw3]; exact lkBR (below_alloc _ _) (Nat.le_refl _))
    have hf3 : w3.heap[w2.heap.size]? = some (.cells #[.bool bs, .bool bu, .func (.func 64) #[] #[]] 91 (0, 0)) := by rw [← hw3]; exact setRow_heap _ _ _ _ _ _ (heap_alloc_new w2 _)
    have HSf : Hid (∀ W, Below w3.heap.size w3 W → W.cell? ⟨w2.heap.size, 2, none⟩ = some (.func (.func 64) #[] #[])) := Lib.hid fun W hW => cellOf ((hW.block _ (blk_lt' hf3)).trans hf3) rfl
    have HBw : Hid (Below w1.heap.size w1 w3) := Lib.hid (bt HB2.out HB3.out)
    rw [hw3]
    have HW3 := Lib.hid hw3
    clear hw3 hf3
    obtain ⟨d0, d1, d2, d3, d4, d5, d6, d7, d8, d9, d10, d11, d12, d13⟩ := HSx.out w3 HBw.out
    have g2 := HSf.out w3 (Below.refl _ _)
    have HSa : Hid (∀ W, Below w3.heap.size w3 W → W.cell? ⟨w2.heap.size, 2, none⟩ = some (.func (.func 64) #[] #[]) ∧ (W.cell? ⟨w.heap.size, 0, none⟩ = some (.int .i64 ky) ∧ W.cell? ⟨w.heap.size, 1, none⟩ = some (.string nmm) ∧ W.cell? ⟨w.heap.size, 2, none⟩ = some (.int .i64 op) ∧ W.cell? ⟨w.heap.size, 3, none⟩ = some (.string vl) ∧ W.cell? ⟨w.heap.size + 1, 0, none⟩ = some (.int .i64 d.ix) ∧ W.cell? ⟨w.heap.size + 1, 1, none⟩ = some (.int .i64 d.pa) ∧ W.cell? ⟨w.heap.size + 1, 2, none⟩ = some (.string d.nam) ∧ W.cell? ⟨w.heap.size + 1, 3, none⟩ = some (.string d.og) ∧ W.cell? ⟨w.heap.size + 1, 4, none⟩ = some (.string d.sb) ∧ W.cell? ⟨w.heap.size + 1, 5, none⟩ = some (.string d.dr) ∧ W.cell? ⟨w.heap.size + 1, 6, none⟩ = some (.string d.al) ∧ W.cell? ⟨w.heap.size + 1, 7, none⟩ = some (.int .i64 d.kd) ∧ W.cell? ⟨w.heap.size + 1, 8, none⟩ = some (.int .i64 d.nb) ∧ W.cell? ⟨w.heap.size + 1, 9, none⟩ = some (.slice d.ats.A d.ats.l.length d.ats.c))) := Lib.hid fun W hW => ⟨HSf.out W hW, HSx.out W (bt HBw.out hW)⟩
    go_region_held3 (fun W' => W'.cell? ⟨w2.heap.size, 2, none⟩ = some (.func (.func 64) #[] #[]) ∧ (W'.cell? ⟨w.heap.size, 0, none⟩ = some (.int .i64 ky) ∧ W'.cell? ⟨w.heap.size, 1, none⟩ = some (.string nmm) ∧ W'.cell? ⟨w.heap.size, 2, none⟩ = some (.int .i64 op) ∧ W'.cell? ⟨w.heap.size, 3, none⟩ = some (.string vl) ∧ W'.cell? ⟨w.heap.size + 1, 0, none⟩ = some (.int .i64 d.ix) ∧ W'.cell? ⟨w.heap.size + 1, 1, none⟩ = some (.int .i64 d.pa) ∧ W'.cell? ⟨w.heap.size + 1, 2, none⟩ = some (.string d.nam) ∧ W'.cell? ⟨w.heap.size + 1, 3, none⟩ = some (.string d.og) ∧ W'.cell? ⟨w.heap.size + 1, 4, none⟩ = some (.string d.sb) ∧ W'.cell? ⟨w.heap.size + 1, 5, none⟩ = some (.string d.dr) ∧ W'.cell? ⟨w.heap.size + 1, 6, none⟩ = some (.string d.al) ∧ W'.cell? ⟨w.heap.size + 1, 7, none⟩ = some (.int .i64 d.kd) ∧ W'.cell? ⟨w.heap.size + 1, 8, none⟩ = some (.int .i64 d.nb) ∧ W'.cell? ⟨w.heap.size + 1, 9, none⟩ = some (.slice d.ats.A d.ats.l.length d.ats.c))) ((refine HSa.out _ ?_; first | exact rdBDr (Below.refl _ _) | exact hB5 | exact hB4)) ((first
      | (go_at_call 64; refine (HF2.out _).mono ?_; rintro e w4 ⟨rfl, hb4⟩; (have hB4 : Below w3.heap.size w3 w4 := bt (rdBDr (Below.refl _ _)) hb4))
      | (go_at_call 43; refine (HHv.out _).mono ?_; rintro e w5 ⟨rfl, hb5⟩; (have hB5 : Below w3.heap.size w3 w5 := bt hB4 hb5))))
    all_goals
      go_wp2
      go_ret
      exact ⟨ret_bool (by rw [HR.out]), bt HB1.out (bt HBw.out hB5)⟩
  · have HHv := Lib.hid (HHo.out (d.dr) (by exact HD.out.dr))
    have HLo : Hid ((#[.bool (staticB (⟨ky, nmm, op, vl⟩ : Tm)), .bool (upB (⟨ky, nmm, op, vl⟩ : Tm)), .func (.func 65) #[] #[]] : Array Value).all (·.oneCell') = true) := Lib.hid (look_one _ _ rfl)
    generalize staticB (⟨ky, nmm, op, vl⟩ : Tm) = bs at *
    generalize upB (⟨ky, nmm, op, vl⟩ : Tm) = bu at *
    generalize holdsB (⟨ky, nmm, op, vl⟩ : Tm) (d.dr) = hb at *
    clear HHo
    try dsimp only at HO
    unfold tmV dvV at *
    dsimp only at *
    have hnq := neqFnL 65
    go_enter Try.func29, Try.ntmps29
    go_upto_region 1 with fail
    rw [HW1.out]
    obtain ⟨c0, c1, c2, c3, c4, c5, c6, c7, c8, c9, c10, c11, c12, c13⟩ := HSx.out w1 (Below.refl _ _)
    go_upto_region 2 with (go_at_call 42; refine (HO.out _).mono ?_; rintro e w2 ⟨rfl, hb2⟩; have HB2 := Lib.hid hb2; have hst := stLook_at (w := w2.alloc (.cells lookZ 91)) (cs := #[.bool bs, .bool bu, .func (.func 65) #[] #[]]) (heap_alloc_new w2 _) rfl rfl HLo.out; clear hb2)
    clear hst
    obtain ⟨w3, hw3⟩ : ∃ w3, (w2.alloc (.cells lookZ 91)).setRow w2.heap.size #[.bool bs, .bool bu, .func (.func 65) #[] #[]] = w3 := ⟨_, rfl⟩
    have HB3 : Hid (Below w2.heap.size w2 w3) := Lib.hid (by rw [← hw3]; exact lkBR (below_alloc _ _) (Nat.le_refl _))
    have hf3 : w3.heap[w2.heap.size]? = some (.cells #[.bool bs, .bool bu, .func (.func 65) #[] #[]] 91 (0, 0)) := by rw [← hw3]; exact setRow_heap _ _ _ _ _ _ (heap_alloc_new w2 _)
    have HSf : Hid (∀ W, Below w3.heap.size w3 W → W.cell? ⟨w2.heap.size, 2, none⟩ = some (.func (.func 65) #[] #[])) := Lib.hid fun W hW => cellOf ((hW.block _ (blk_lt' hf3)).trans hf3) rfl
    have HBw : Hid (Below w1.heap.size w1 w3) := Lib.hid (bt HB2.out HB3.out)
    rw [hw3]
    have HW3 := Lib.hid hw3
    clear hw3 hf3
    obtain ⟨d0, d1, d2, d3, d4, d5, d6, d7, d8, d9, d10, d11, d12, d13⟩ := HSx.out w3 HBw.out
    have g2 := HSf.out w3 (Below.refl _ _)
    have HSa : Hid (∀ W, Below w3.heap.size w3 W → W.cell? ⟨w2.heap.size, 2, none⟩ = some (.func (.func 65) #[] #[]) ∧ (W.cell? ⟨w.heap.size, 0, none⟩ = some (.int .i64 ky) ∧ W.cell? ⟨w.heap.size, 1, none⟩ = some (.string nmm) ∧ W.cell? ⟨w.heap.size, 2, none⟩ = some (.int .i64 op) ∧ W.cell? ⟨w.heap.size, 3, none⟩ = some (.string vl) ∧ W.cell? ⟨w.heap.size + 1, 0, none⟩ = some (.int .i64 d.ix) ∧ W.cell? ⟨w.heap.size + 1, 1, none⟩ = some (.int .i64 d.pa) ∧ W.cell? ⟨w.heap.size + 1, 2, none⟩ = some (.string d.nam) ∧ W.cell? ⟨w.heap.size + 1, 3, none⟩ = some (.string d.og) ∧ W.cell? ⟨w.heap.size + 1, 4, none⟩ = some (.string d.sb) ∧ W.cell? ⟨w.heap.size + 1, 5, none⟩ = some (.string d.dr) ∧ W.cell? ⟨w.heap.size + 1, 6, none⟩ = some (.string d.al) ∧ W.cell? ⟨w.heap.size + 1, 7, none⟩ = some (.int .i64 d.kd) ∧ W.cell? ⟨w.heap.size + 1, 8, none⟩ = some (.int .i64 d.nb) ∧ W.cell? ⟨w.heap.size + 1, 9, none⟩ = some (.slice d.ats.A d.ats.l.length d.ats.c))) := Lib.hid fun W hW => ⟨HSf.out W hW, HSx.out W (bt HBw.out hW)⟩
    go_region_held3 (fun W' => W'.cell? ⟨w2.heap.size, 2, none⟩ = some (.func (.func 65) #[] #[]) ∧ (W'.cell? ⟨w.heap.size, 0, none⟩ = some (.int .i64 ky) ∧ W'.cell? ⟨w.heap.size, 1, none⟩ = some (.string nmm) ∧ W'.cell? ⟨w.heap.size, 2, none⟩ = some (.int .i64 op) ∧ W'.cell? ⟨w.heap.size, 3, none⟩ = some (.string vl) ∧ W'.cell? ⟨w.heap.size + 1, 0, none⟩ = some (.int .i64 d.ix) ∧ W'.cell? ⟨w.heap.size + 1, 1, none⟩ = some (.int .i64 d.pa) ∧ W'.cell? ⟨w.heap.size + 1, 2, none⟩ = some (.string d.nam) ∧ W'.cell? ⟨w.heap.size + 1, 3, none⟩ = some (.string d.og) ∧ W'.cell? ⟨w.heap.size + 1, 4, none⟩ = some (.string d.sb) ∧ W'.cell? ⟨w.heap.size + 1, 5, none⟩ = some (.string d.dr) ∧ W'.cell? ⟨w.heap.size + 1, 6, none⟩ = some (.string d.al) ∧ W'.cell? ⟨w.heap.size + 1, 7, none⟩ = some (.int .i64 d.kd) ∧ W'.cell? ⟨w.heap.size + 1, 8, none⟩ = some (.int .i64 d.nb) ∧ W'.cell? ⟨w.heap.size + 1, 9, none⟩ = some (.slice d.ats.A d.ats.l.length d.ats.c))) ((refine HSa.out _ ?_; first | exact rdBDr (Below.refl _ _) | exact hB5 | exact hB4)) ((first
      | (go_at_call 65; refine (HF3.out _).mono ?_; rintro e w4 ⟨rfl, hb4⟩; (have hB4 : Below w3.heap.size w3 w4 := bt (rdBDr (Below.refl _ _)) hb4))
      | (go_at_call 43; refine (HHv.out _).mono ?_; rintro e w5 ⟨rfl, hb5⟩; (have hB5 : Below w3.heap.size w3 w5 := bt hB4 hb5))))
    all_goals
      go_wp2
      go_ret
      exact ⟨ret_bool (by rw [HR.out]), bt HB1.out (bt HBw.out hB5)⟩
  · have HHv := Lib.hid (HHo.out (attrS d.ats.l (L nmm)) (by exact HOa.out))
    have HLo : Hid ((#[.bool (staticB (⟨ky, nmm, op, vl⟩ : Tm)), .bool (upB (⟨ky, nmm, op, vl⟩ : Tm)), .func (.func 66) #[] #[]] : Array Value).all (·.oneCell') = true) := Lib.hid (look_one _ _ rfl)
    generalize staticB (⟨ky, nmm, op, vl⟩ : Tm) = bs at *
    generalize upB (⟨ky, nmm, op, vl⟩ : Tm) = bu at *
    generalize holdsB (⟨ky, nmm, op, vl⟩ : Tm) (attrS d.ats.l (L nmm)) = hb at *
    clear HHo
    try dsimp only at HO
    unfold tmV dvV at *
    dsimp only at *
    have hnq := neqFnL 66
    generalize attrS d.ats.l (L nmm) = av at *
    go_enter Try.func29, Try.ntmps29
    go_upto_region 1 with fail
    rw [HW1.out]
    obtain ⟨c0, c1, c2, c3, c4, c5, c6, c7, c8, c9, c10, c11, c12, c13⟩ := HSx.out w1 (Below.refl _ _)
    go_upto_region 2 with (go_at_call 42; refine (HO.out _).mono ?_; rintro e w2 ⟨rfl, hb2⟩; have HB2 := Lib.hid hb2; have hst := stLook_at (w := w2.alloc (.cells lookZ 91)) (cs := #[.bool bs, .bool bu, .func (.func 66) #[] #[]]) (heap_alloc_new w2 _) rfl rfl HLo.out; clear hb2)
    clear hst
    obtain ⟨w3, hw3⟩ : ∃ w3, (w2.alloc (.cells lookZ 91)).setRow w2.heap.size #[.bool bs, .bool bu, .func (.func 66) #[] #[]] = w3 := ⟨_, rfl⟩
    have HB3 : Hid (Below w2.heap.size w2 w3) := Lib.hid (by rw [← hw3]; exact lkBR (below_alloc _ _) (Nat.le_refl _))
    have hf3 : w3.heap[w2.heap.size]? = some (.cells #[.bool bs, .bool bu, .func (.func 66) #[] #[]] 91 (0, 0)) := by rw [← hw3]; exact setRow_heap _ _ _ _ _ _ (heap_alloc_new w2 _)
    have HSf : Hid (∀ W, Below w3.heap.size w3 W → W.cell? ⟨w2.heap.size, 2, none⟩ = some (.func (.func 66) #[] #[])) := Lib.hid fun W hW => cellOf ((hW.block _ (blk_lt' hf3)).trans hf3) rfl
    have HBw : Hid (Below w1.heap.size w1 w3) := Lib.hid (bt HB2.out HB3.out)
    rw [hw3]
    have HW3 := Lib.hid hw3
    clear hw3 hf3
    obtain ⟨d0, d1, d2, d3, d4, d5, d6, d7, d8, d9, d10, d11, d12, d13⟩ := HSx.out w3 HBw.out
    have g2 := HSf.out w3 (Below.refl _ _)
    have HSa : Hid (∀ W, Below w3.heap.size w3 W → W.cell? ⟨w2.heap.size, 2, none⟩ = some (.func (.func 66) #[] #[]) ∧ (W.cell? ⟨w.heap.size, 0, none⟩ = some (.int .i64 ky) ∧ W.cell? ⟨w.heap.size, 1, none⟩ = some (.string nmm) ∧ W.cell? ⟨w.heap.size, 2, none⟩ = some (.int .i64 op) ∧ W.cell? ⟨w.heap.size, 3, none⟩ = some (.string vl) ∧ W.cell? ⟨w.heap.size + 1, 0, none⟩ = some (.int .i64 d.ix) ∧ W.cell? ⟨w.heap.size + 1, 1, none⟩ = some (.int .i64 d.pa) ∧ W.cell? ⟨w.heap.size + 1, 2, none⟩ = some (.string d.nam) ∧ W.cell? ⟨w.heap.size + 1, 3, none⟩ = some (.string d.og) ∧ W.cell? ⟨w.heap.size + 1, 4, none⟩ = some (.string d.sb) ∧ W.cell? ⟨w.heap.size + 1, 5, none⟩ = some (.string d.dr) ∧ W.cell? ⟨w.heap.size + 1, 6, none⟩ = some (.string d.al) ∧ W.cell? ⟨w.heap.size + 1, 7, none⟩ = some (.int .i64 d.kd) ∧ W.cell? ⟨w.heap.size + 1, 8, none⟩ = some (.int .i64 d.nb) ∧ W.cell? ⟨w.heap.size + 1, 9, none⟩ = some (.slice d.ats.A d.ats.l.length d.ats.c))) := Lib.hid fun W hW => ⟨HSf.out W hW, HSx.out W (bt HBw.out hW)⟩
    go_region_held3 (fun W' => W'.cell? ⟨w2.heap.size, 2, none⟩ = some (.func (.func 66) #[] #[]) ∧ (W'.cell? ⟨w.heap.size, 0, none⟩ = some (.int .i64 ky) ∧ W'.cell? ⟨w.heap.size, 1, none⟩ = some (.string nmm) ∧ W'.cell? ⟨w.heap.size, 2, none⟩ = some (.int .i64 op) ∧ W'.cell? ⟨w.heap.size, 3, none⟩ = some (.string vl) ∧ W'.cell? ⟨w.heap.size + 1, 0, none⟩ = some (.int .i64 d.ix) ∧ W'.cell? ⟨w.heap.size + 1, 1, none⟩ = some (.int .i64 d.pa) ∧ W'.cell? ⟨w.heap.size + 1, 2, none⟩ = some (.string d.nam) ∧ W'.cell? ⟨w.heap.size + 1, 3, none⟩ = some (.string d.og) ∧ W'.cell? ⟨w.heap.size + 1, 4, none⟩ = some (.string d.sb) ∧ W'.cell? ⟨w.heap.size + 1, 5, none⟩ = some (.string d.dr) ∧ W'.cell? ⟨w.heap.size + 1, 6, none⟩ = some (.string d.al) ∧ W'.cell? ⟨w.heap.size + 1, 7, none⟩ = some (.int .i64 d.kd) ∧ W'.cell? ⟨w.heap.size + 1, 8, none⟩ = some (.int .i64 d.nb) ∧ W'.cell? ⟨w.heap.size + 1, 9, none⟩ = some (.slice d.ats.A d.ats.l.length d.ats.c))) ((refine HSa.out _ ?_; first | exact rdBDr (Below.refl _ _) | exact hB5 | exact hB4)) ((first
      | (go_at_call 66; refine (HF4.out _ (bt HB1.out (bt HBw.out (rdBDr (Below.refl _ _))))).mono ?_; rintro e w4 ⟨rfl, hb4⟩; (have hB4 : Below w3.heap.size w3 w4 := bt (rdBDr (Below.refl _ _)) hb4))
      | (go_at_call 43; refine (HHv.out _).mono ?_; rintro e w5 ⟨rfl, hb5⟩; (have hB5 : Below w3.heap.size w3 w5 := bt hB4 hb5))))
    all_goals
      go_wp2
      go_ret
      exact ⟨ret_bool (by rw [HR.out]), bt HB1.out (bt HBw.out hB5)⟩
end Go.Proofs.Ytgdjknpdgajdgaa
