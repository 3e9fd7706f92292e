/-
  The program's table of what terms look at, and whether a term depends on the device alone.
  Contracts of the program's of and Static: what a term looks at.
-/
import Derived.Test.YtgdjknpdgajdgaaG04
import Derived.Test.YtgdjknpdgajdgaaG05
import Derived.Laws.EntriesVeiled
import Derived.Deep.RegionHeld3
namespace Go.Proofs.Ytgdjknpdgajdgaa
open Go.RowKit
abbrev lkF (k : Int) : Value := if k = 2 ∨ k = 8 then .func (.func 63) #[] #[] else if k = 3 ∨ k = 9 then .func (.func 64) #[] #[] else if k = 4 ∨ k = 10 then .func (.func 65) #[] #[] else if k = 5 ∨ k = 11 then .func (.func 66) #[] #[] else .nilFunc
def lkA (k : Int) : Array Value := #[.bool (k == 2 || k == 3 || k == 4 || k == 5), .bool (k == 8 || k == 9 || k == 10 || k == 11), lkF k]
def looksA : Array Value := #[.bool false, .bool false, .nilFunc, .bool false, .bool false, .nilFunc,
  .bool true, .bool false, .func (.func 63) #[] #[], .bool true, .bool false, .func (.func 64) #[] #[], .bool true, .bool false, .func (.func 65) #[] #[], .bool true, .bool false, .func (.func 66) #[] #[],
  .bool false, .bool false, .nilFunc, .bool false, .bool false, .nilFunc,
  .bool false, .bool true, .func (.func 63) #[] #[], .bool false, .bool true, .func (.func 64) #[] #[], .bool false, .bool true, .func (.func 65) #[] #[], .bool false, .bool true, .func (.func 66) #[] #[],
  .bool false, .bool false, .nilFunc, .bool false, .bool false, .nilFunc, .bool false, .bool false, .nilFunc, .bool false, .bool false, .nilFunc, .bool false, .bool false, .nilFunc, .bool false, .bool false, .nilFunc, .bool false, .bool false, .nilFunc, .bool false, .bool false, .nilFunc, .bool false, .bool false, .nilFunc, .bool false, .bool false, .nilFunc, .bool false, .bool false, .nilFunc, .bool false, .bool false, .nilFunc, .bool false, .bool false, .nilFunc]
theorem size_looks : looksA.size = 75 := rfl
theorem looks_one : looksA.all (·.oneCell') = true := by kernel_rfl
theorem looksSize : (Try.prog.info? 101).map (·.size) = some 75 := by kernel_rfl
theorem lookSize : (Try.prog.info? 91).map (·.size) = some 3 := by kernel_rfl
theorem zeroLooks : Try.zeroCells101.size = 75 := by kernel_rfl
theorem built_looks : Try.prog.built 101 [(2, .agg #[.bool true, .bool false, .func (.func 63) #[] #[]]), (3, .agg #[.bool true, .bool false, .func (.func 64) #[] #[]]), (4, .agg #[.bool true, .bool false, .func (.func 65) #[] #[]]), (5, .agg #[.bool true, .bool false, .func (.func 66) #[] #[]]), (8, .agg #[.bool false, .bool true, .func (.func 63) #[] #[]]), (9, .agg #[.bool false, .bool true, .func (.func 64) #[] #[]]), (10, .agg #[.bool false, .bool true, .func (.func 65) #[] #[]]), (11, .agg #[.bool false, .bool true, .func (.func 66) #[] #[]])] = some looksA := by
  kernel_rfl
noncomputable def bdLooks (parts : Array (Nat × Value)) : Sem Value := Instr.build 101 parts
theorem bd_looks (parts : Array (Nat × Value)) : Instr.build 101 parts = bdLooks parts := rfl
theorem bdLooks_at (w : World) : (bdLooks #[(2, .agg #[.bool true, .bool false, .func (.func 63) #[] #[]]), (3, .agg #[.bool true, .bool false, .func (.func 64) #[] #[]]), (4, .agg #[.bool true, .bool false, .func (.func 65) #[] #[]]), (5, .agg #[.bool true, .bool false, .func (.func 66) #[] #[]]), (8, .agg #[.bool false, .bool true, .func (.func 63) #[] #[]]), (9, .agg #[.bool false, .bool true, .func (.func 64) #[] #[]]), (10, .agg #[.bool false, .bool true, .func (.func 65) #[] #[]]), (11, .agg #[.bool false, .bool true, .func (.func 66) #[] #[]])]).run Try.prog w = .ok (.agg looksA) w := by
  unfold bdLooks
  exact run_build w _ _ _ built_looks
attribute [irreducible] bdLooks
noncomputable def stLooks (v u : Value) : Sem Unit := Instr.storeAt 101 v u
theorem st_looks (v u : Value) : Instr.storeAt 101 v u = stLooks v u := rfl
set_option maxRecDepth 100000 in
theorem stLooks_at {w : World} {g : Nat} {old cs : Array Value} {t : TypeId} (h : w.heap[g]? = some (.cells old t (0, 0))) (ho : old.size = 75) (hs : cs.size = 75) (h1 : cs.all (·.oneCell') = true) : (stLooks (.pointer (some ⟨g, 0, none⟩)) (.agg cs)).run Try.prog w = .ok () (w.setRow g cs) := by
  unfold stLooks
  simp only [Instr.storeAt, Instr.sureAddr, Sem.run_bind, Sem.run_pure, Result.andThen_ok]
  exact run_storeVar_row w g t 101 old cs h (by rw [hs]; exact looksSize) (by rw [ho, hs]) h1
attribute [irreducible] stLooks looksA
attribute [local go_sem ↓] bd_looks st_looks
set_option maxRecDepth 100000 in
set_option maxHeartbeats 4000000 in
theorem PLooks_any (w : World) : Calls Try.prog 52 #[] w fun e w' => e = .returned (.agg looksA) ∧ Below w.heap.size w w' := by
  have hbd := bdLooks_at
  have hst := stLooks_at (w := w.alloc (.cells Try.zeroCells101 101)) (cs := looksA) (heap_alloc_new w _) zeroLooks size_looks looks_one
  go_enter Try.func52, Try.ntmps52
  go_wp2
  refine post_cellrow rfl (by rfl) (heap_alloc_new w _) Try.underlying101 rfl (by rw [size_looks]; exact looksSize) (by rfl) ?_
  exact ⟨rfl, (below_alloc w _).grown (grown_setRow _ _ _) (by simp) (fun j e => by cases e; exact Nat.le_refl _)⟩
end Go.Proofs.Ytgdjknpdgajdgaa
namespace Go.Proofs.Ytgdjknpdgajdgaa
open Go.RowKit
abbrev lookZ : Array Value := #[.bool false, .bool false, .nilFunc]
def ofA (t : Tm) : Array Value := if matchB t.op then lkA t.key else lookZ
theorem lookZ_one : lookZ.all (·.oneCell') = true := by kernel_rfl
theorem size_lkA (k : Int) : (lkA k).size = 3 := rfl
theorem lkA_one (k : Int) : (lkA k).all (·.oneCell') = true := by
  have hf : (lkF k).oneCell' = true := by
    unfold lkF
    repeat (split; · rfl)
    rfl
  rw [Array.all_eq_true_iff_forall_mem]
  intro u hu
  simp only [lkA, List.mem_toArray, List.mem_cons, List.not_mem_nil, or_false] at hu
  rcases hu with rfl | rfl | rfl
  · rfl
  · rfl
  · exact hf
theorem lkA_out {k : Int} (h : k < 0 ∨ 24 < k) : lkA k = lookZ := by
  unfold lkA lkF lookZ
  rw [if_neg (by omega), if_neg (by omega), if_neg (by omega), if_neg (by omega)]
  have e : ∀ n : Int, 0 ≤ n → n ≤ 24 → (k == n) = false := fun n h1 h2 => by simp; omega
  rw [e 2 (by omega) (by omega), e 3 (by omega) (by omega), e 4 (by omega) (by omega), e 5 (by omega) (by omega), e 8 (by omega) (by omega), e 9 (by omega) (by omega), e 10 (by omega) (by omega), e 11 (by omega) (by omega)]
  rfl
def lkRow (k : Int) : Array Value := looksA.extract (3 * k.toNat) (3 * k.toNat + 3)
theorem lkRows : (List.range 25).map (fun n : Nat => lkRow n) = (List.range 25).map (fun n : Nat => lkA n) := by kernel_rfl
theorem lkRow_is {k : Int} (h1 : 0 ≤ k) (h2 : k ≤ 24) : lkRow k = lkA k := by
  obtain ⟨n, rfl⟩ := Int.eq_ofNat_of_zero_le h1
  exact List.map_inj_left.1 lkRows n (List.mem_range.2 (by omega))
set_option maxRecDepth 100000 in
theorem ixLooks_at {k : Int} (h1 : 0 ≤ k) (h2 : k ≤ 24) (W : World) : (Instr.index 101 (.agg looksA) (.int .i64 k)).run Try.prog W = .ok (.agg (lkA k)) W := by
  have hb : 0 ≤ k ∧ k < 25 := ⟨by omega, by omega⟩
  rw [← lkRow_is h1 h2]
  simp [Instr.index, asIntOf, run_underlying Try.underlying101, hb, part, Try.isAgg91, Try.sizeOf91, lkRow, Nat.mul_comm]
noncomputable def stLook (v u : Value) : Sem Unit := Instr.storeAt 91 v u
theorem st_look (v u : Value) : Instr.storeAt 91 v u = stLook v u := rfl
set_option maxRecDepth 100000 in
theorem stLook_at {w : World} {g : Nat} {old cs : Array Value} {t : TypeId} (h : w.heap[g]? = some (.cells old t (0, 0))) (ho : old.size = 3) (hs : cs.size = 3) (h1 : cs.all (·.oneCell') = true) : (stLook (.pointer (some ⟨g, 0, none⟩)) (.agg cs)).run Try.prog w = .ok () (w.setRow g cs) := by
  unfold stLook
  simp only [Instr.storeAt, Instr.sureAddr, Sem.run_bind, Sem.run_pure, Result.andThen_ok]
  exact run_storeVar_row w g t 91 old cs h (by rw [hs]; exact lookSize) (by rw [ho, hs]) h1
attribute [irreducible] stLook
theorem lkBAl {w W : World} {o : Obj} (h : Below w.heap.size w W) : Below w.heap.size w (W.alloc o) := h.alloc h.size _
theorem lkBDr {w W : World} (h : Below w.heap.size w W) : Below w.heap.size w W.drew := h.drew
theorem lkBR {w W : World} {g : Nat} {cs : Array Value} (h : Below w.heap.size w W) (hg : w.heap.size ≤ g) : Below w.heap.size w (W.setRow g cs) := h.grown (grown_setRow _ _ _) h.size (fun j e => by cases e; exact hg)
attribute [local go_sem ↓] st_look
set_option maxRecDepth 100000 in
set_option maxHeartbeats 4000000 in
theorem POf_any (t : Tm) (w : World) : Calls Try.prog 42 #[tmV t] w fun e w' => e = .returned (.agg (ofA t)) ∧ Below w.heap.size w w' := by
  obtain ⟨w1, hw1⟩ : ∃ w1, (w.alloc (.cells #[.int .i64 t.key, .string t.name, .int .i64 t.op, .string t.value] 43)).alloc (.cells lookZ 91) = w1 := ⟨_, rfl⟩
  have hW1 : w1.heap[w.heap.size]? = some (.cells #[.int .i64 t.key, .string t.name, .int .i64 t.op, .string t.value] 43 (0, 0)) := by rw [← hw1, heap_alloc_old _ _ (by simp)]; exact heap_alloc_new _ _
  have hW2 : w1.heap[w.heap.size + 1]? = some (.cells lookZ 91 (0, 0)) := by rw [← hw1]; have := heap_alloc_new (w.alloc (.cells #[.int .i64 t.key, .string t.name, .int .i64 t.op, .string t.value] 43)) (.cells lookZ 91); simpa using this
  have hB1 : Below w.heap.size w w1 := by rw [← hw1]; exact bt (below_alloc _ _) (below_alloc _ _)
  have hM := PMatch_any t w1
  have HEnd : Hid (∀ W cs, Below w1.heap.size w1 W → Below w.heap.size w (W.setRow (w.heap.size + 1) cs)) := Lib.hid fun W cs h => lkBR (bt hB1 h) (by omega)
  have HB1 := Lib.hid hB1
  have HM := Lib.hid hM
  have HW1 := Lib.hid hW1
  have HW2 := Lib.hid hW2
  have HOf : Hid (ofA t = if matchB t.op then lkA t.key else lookZ) := Lib.hid rfl
  obtain ⟨⟨c0, c1, c2, c3⟩, _⟩ := res4 hW1
  clear hB1 hM hW1 hW2
  have HSx : Hid (∀ W, Below w1.heap.size w1 W → W.cell? ⟨w.heap.size, 0, none⟩ = some (.int .i64 t.key) ∧ W.cell? ⟨w.heap.size, 1, none⟩ = some (.string t.name) ∧ W.cell? ⟨w.heap.size, 2, none⟩ = some (.int .i64 t.op) ∧ W.cell? ⟨w.heap.size, 3, none⟩ = some (.string t.value)) := Lib.hid fun W hW => (res4 ((hW.block _ (blk_lt' HW1.out)).trans HW1.out)).1
  have HSz : w1.heap.size = w.heap.size + 2 := by rw [← hw1]; simp
  unfold tmV at HM ⊢
  cases hm : matchB t.op with
  | false =>
    rw [hm] at HM HOf
    clear hm
    go_enter Try.func42, Try.ntmps42
    go_upto_region 1 with fail
    try rw [hw1]
    go_wp2_with (go_at_call 51; refine HM.out.mono ?_; rintro e w2 ⟨rfl, hb2⟩; have hz2 := (hb2.block _ (blk_lt' HW2.out)).trans HW2.out; have hst := stLook_at (cs := lookZ) hz2 rfl rfl lookZ_one; have HB2 := Lib.hid hb2; have HZ2 := Lib.hid hz2; clear hb2 hz2; obtain ⟨d0, d1, d2, d3⟩ := HSx.out w2 HB2.out)
    refine post_cellrow rfl (by rfl) HZ2.out Try.underlying91 rfl (by exact lookSize) (by rfl) ?_
    exact ⟨by rw [HOf.out]; rfl, HEnd.out _ _ HB2.out⟩
  | true =>
    rw [hm] at HM HOf
    clear hm
    by_cases hk : t.key < 0 ∨ 24 < t.key
    · have HE : Hid (ofA t = lookZ) := Lib.hid (by rw [HOf.out, if_pos rfl, lkA_out hk])
      rcases hk with hk | hk
      · go_enter Try.func42, Try.ntmps42
        go_upto_region 1 with fail
        go_wp2_with (go_at_call 51; refine HM.out.mono ?_; rintro e w2 ⟨rfl, hb2⟩; have hz2 := (hb2.block _ (blk_lt' HW2.out)).trans HW2.out; have hst := stLook_at (cs := lookZ) hz2 rfl rfl lookZ_one; have HB2 := Lib.hid hb2; have HZ2 := Lib.hid hz2; clear hb2 hz2; obtain ⟨d0, d1, d2, d3⟩ := HSx.out w2 HB2.out)
        refine post_cellrow rfl (by rfl) HZ2.out Try.underlying91 rfl (by exact lookSize) (by rfl) ?_
        exact ⟨by rw [HE.out], HEnd.out _ _ HB2.out⟩
      · have hk0 : ¬ t.key < 0 := by omega
        go_enter Try.func42, Try.ntmps42
        go_upto_region 1 with fail
        go_wp2_with (go_at_call 51; refine HM.out.mono ?_; rintro e w2 ⟨rfl, hb2⟩; have hz2 := (hb2.block _ (blk_lt' HW2.out)).trans HW2.out; have hst := stLook_at (cs := lookZ) hz2 rfl rfl lookZ_one; have HB2 := Lib.hid hb2; have HZ2 := Lib.hid hz2; clear hb2 hz2; obtain ⟨d0, d1, d2, d3⟩ := HSx.out w2 HB2.out)
        refine post_cellrow rfl (by rfl) HZ2.out Try.underlying91 rfl (by exact lookSize) (by rfl) ?_
        exact ⟨by rw [HE.out], HEnd.out _ _ HB2.out⟩
    · have h1 : ¬ t.key < 0 := by omega
      have h2 : ¬ 24 < t.key := by omega
      have hix := fun W => ixLooks_at (k := t.key) (by omega) (by omega) W
      have HE : Hid (ofA t = lkA t.key) := Lib.hid (by rw [HOf.out, if_pos rfl])
      clear hk
      go_enter Try.func42, Try.ntmps42
      go_upto_region 1 with fail
      go_wp2_with (go_at_call 51; refine HM.out.mono ?_; rintro e w2 ⟨rfl, hb2⟩; have hz2 := (hb2.block _ (blk_lt' HW2.out)).trans HW2.out; have hst := stLook_at (cs := lookZ) hz2 rfl rfl lookZ_one; have HB2 := Lib.hid hb2; have HZ2 := Lib.hid hz2; clear hb2 hz2; obtain ⟨d0, d1, d2, d3⟩ := HSx.out w2 HB2.out)
      have HSy : Hid (∀ W, Below w2.heap.size w2 W → W.cell? ⟨w.heap.size, 0, none⟩ = some (.int .i64 t.key) ∧ ∀ cs, (W.setRow (w.heap.size + 1) cs).cell? ⟨w.heap.size, 0, none⟩ = some (.int .i64 t.key)) := Lib.hid fun W hW => ⟨(HSx.out W (bt HB2.out hW)).1, fun cs => by
        have h3 := (HSx.out W (bt HB2.out hW)).1
        rw [World.cell?_of_block (w := W) (setRow_other W (w.heap.size + 1) w.heap.size cs (by omega))]
        exact h3⟩
      clear hst
      go_region_held3 (fun W' => W'.cell? ⟨w.heap.size, 0, none⟩ = some (.int .i64 t.key)) ((first | exact (HSy.out _ (by first | exact lkBDr (Below.refl _ _) | exact hB3)).1 | exact (HSy.out _ hB3).2 _)) ((go_at_call 52; refine (PLooks_any _).mono ?_; rintro e w3 ⟨rfl, hb3⟩; (have hB3 : Below w2.heap.size w2 w3 := bt (lkBDr (Below.refl _ _)) hb3); have hz3 := (hB3.block _ (blk_lt' HZ2.out)).trans HZ2.out; have hst3 := stLook_at (cs := lkA t.key) hz3 rfl rfl (lkA_one _)))
      all_goals
        go_wp2
        refine post_cellrow rfl (by rfl) hz3 Try.underlying91 rfl (by exact lookSize) (by rfl) ?_
        exact ⟨by rw [HE.out], HEnd.out _ _ (bt HB2.out hB3)⟩
/-- What a term's function is. -/
def fnOf (t : Tm) : Value := if matchB t.op then lkF t.key else .nilFunc
theorem ofA_is (t : Tm) : ofA t = #[.bool (staticB t), .bool (upB t), fnOf t] := by
  unfold ofA staticB upB fnOf
  cases matchB t.op <;> rfl
theorem field_look (b u : Bool) (f : Value) (w : World) : (Instr.field 91 (.agg #[.bool b, .bool u, f]) 0).run Try.prog w = .ok (.bool b) w := by kernel_rfl
set_option maxRecDepth 100000 in
set_option maxHeartbeats 1000000 in
theorem PStatic_any (t : Tm) (w : World) : Calls Try.prog 38 #[tmV t] w fun e w' => e = .returned (.bool (staticB t)) ∧ Below w.heap.size w w' := by
  have hO := POf_any t (w.alloc (.cells #[.int .i64 t.key, .string t.name, .int .i64 t.op, .string t.value] 43))
  rw [ofA_is] at hO
  have HO := Lib.hid hO
  clear hO
  unfold tmV at HO ⊢
  generalize staticB t = b at *
  generalize upB t = u at *
  generalize fnOf t = f at *
  have hfl := field_look b u f
  go_enter Try.func38, Try.ntmps38
  go_wp2_with (go_at_call 42; refine HO.out.mono ?_; rintro e w2 ⟨rfl, hb2⟩; have HB2 := Lib.hid hb2; clear hb2)
  go_ret
  exact ⟨rfl, bt (below_alloc _ _) HB2.out⟩
end Go.Proofs.Ytgdjknpdgajdgaa
