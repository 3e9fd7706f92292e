/-
  Contract of the program's check of a term.
  Contract of the program's Check of terms.
-/
import Derived.Test.YtibflgfhjfcifaaGreatDoorG28
namespace Go.Proofs.YtibflgfhjfcifaaGreatDoor
open Go.RowKit
def nfK (k : Int) : Nat := if k = 5 ∨ k = 11 then 70 else if k = 6 then 94 else if k = 14 then 97 else 91
def mfV (k : Int) : Value := if 15 ≤ k then .nilFunc else if k = 12 then fnV 96 else if k = 14 then fnV 98 else fnV 92
def vfV (k : Int) : Value := if k = 22 then fnV 99 else if k = 23 ∨ k = 24 then fnV 70 else if k = 6 ∨ k = 7 ∨ 15 ≤ k then fnV 95 else .nilFunc
def rowOf (cs : Array Value) (k : Int) : Array Value := cs.extract (5 * k.toNat) (5 * k.toNat + 5)
def FormsOk (cs : Array Value) (w : World) : Prop := cs.size = 125 ∧ ∀ k : Int, 1 ≤ k → k ≤ 24 → ∃ sl, rowOf cs k = #[.string (keyW k), fnV (nfK k), sl, mfV k, vfV k] ∧ SlcOk w sl (opsK k)
set_option maxRecDepth 100000 in
theorem PForms_all (w : World) : Calls Tryz.prog 59 #[] w fun e w' => ∃ cs, e = .returned (.agg cs) ∧ FormsOk cs w' ∧ rowOf cs 0 = #[.string ⟨#[]⟩, .nilFunc, .slice none 0 0, .nilFunc, .nilFunc] ∧ cs.all (·.oneCell') = true ∧ Below w.heap.size w w' := by
 refine (PForms_walk w).mono ?_
 rintro e w' ⟨g6, g7, g15, g16, g17, g18, g19, g20, g21, g22, g23, g24, rfl, h6, h7, h15, h16, h17, h18, h19, h20, h21, h22, h23, h24, hB⟩
 refine ⟨_, rfl, ⟨size_gformsA .., fun k h1 h2 => ?_⟩, by kernel_rfl, gforms_one .., hB⟩
 have hk : k = 1 ∨ k = 2 ∨ k = 3 ∨ k = 4 ∨ k = 5 ∨ k = 6 ∨ k = 7 ∨ k = 8 ∨ k = 9 ∨ k = 10 ∨ k = 11 ∨ k = 12 ∨ k = 13 ∨ k = 14 ∨ k = 15 ∨ k = 16 ∨ k = 17 ∨ k = 18 ∨ k = 19 ∨ k = 20 ∨ k = 21 ∨ k = 22 ∨ k = 23 ∨ k = 24 := by omega
 rcases hk with rfl | rfl | rfl | rfl | rfl | rfl | rfl | rfl | rfl | rfl | rfl | rfl | rfl | rfl | rfl | rfl | rfl | rfl | rfl | rfl | rfl | rfl | rfl | rfl
 iterate 5 (exact ⟨.slice none 0 0, by kernel_rfl, Or.inl ⟨rfl, rfl⟩⟩)
 · exact ⟨.slice (some ⟨g6, 0, none⟩) 2 2, by kernel_rfl, Or.inr ⟨g6, _, rfl, h6⟩⟩
 · exact ⟨.slice (some ⟨g7, 0, none⟩) 3 3, by kernel_rfl, Or.inr ⟨g7, _, rfl, h7⟩⟩
 iterate 7 (exact ⟨.slice none 0 0, by kernel_rfl, Or.inl ⟨rfl, rfl⟩⟩)
 · exact ⟨.slice (some ⟨g15, 0, none⟩) 2 2, by kernel_rfl, Or.inr ⟨g15, _, rfl, h15⟩⟩
 · exact ⟨.slice (some ⟨g16, 0, none⟩) 4 4, by kernel_rfl, Or.inr ⟨g16, _, rfl, h16⟩⟩
 · exact ⟨.slice (some ⟨g17, 0, none⟩) 2 2, by kernel_rfl, Or.inr ⟨g17, _, rfl, h17⟩⟩
 · exact ⟨.slice (some ⟨g18, 0, none⟩) 2 2, by kernel_rfl, Or.inr ⟨g18, _, rfl, h18⟩⟩
 · exact ⟨.slice (some ⟨g19, 0, none⟩) 2 2, by kernel_rfl, Or.inr ⟨g19, _, rfl, h19⟩⟩
 · exact ⟨.slice (some ⟨g20, 0, none⟩) 3 3, by kernel_rfl, Or.inr ⟨g20, _, rfl, h20⟩⟩
 · exact ⟨.slice (some ⟨g21, 0, none⟩) 1 1, by kernel_rfl, Or.inr ⟨g21, _, rfl, h21⟩⟩
 · exact ⟨.slice (some ⟨g22, 0, none⟩) 1 1, by kernel_rfl, Or.inr ⟨g22, _, rfl, h22⟩⟩
 · exact ⟨.slice (some ⟨g23, 0, none⟩) 1 1, by kernel_rfl, Or.inr ⟨g23, _, rfl, h23⟩⟩
 · exact ⟨.slice (some ⟨g24, 0, none⟩) 1 1, by kernel_rfl, Or.inr ⟨g24, _, rfl, h24⟩⟩
theorem PForms_any (w : World) : Calls Tryz.prog 59 #[] w fun e w' => ∃ cs, e = .returned (.agg cs) ∧ FormsOk cs w' ∧ Below w.heap.size w w' :=
 (PForms_all w).mono fun _e _w' ⟨cs, h1, h2, _, _, h3⟩ => ⟨cs, h1, h2, h3⟩
theorem size_rowOf {cs : Array Value} {k : Int} (h : cs.size = 125) (h1 : 1 ≤ k) (h2 : k ≤ 24) : (rowOf cs k).size = 5 := by
 rw [rowOf, Array.size_extract, h]; omega
theorem rowOf_one {cs : Array Value} {w : World} {k : Int} (h : FormsOk cs w) (h1 : 1 ≤ k) (h2 : k ≤ 24) : (rowOf cs k).all (·.oneCell') = true := by
 obtain ⟨sl, e, hs⟩ := h.2 k h1 h2
 rw [e]
 have hsl : sl.oneCell' = true := by
  rcases hs with ⟨rfl, _⟩ | ⟨g, T, rfl, _⟩ <;> rfl
 have hm : (mfV k).oneCell' = true := by
  unfold mfV
  split
  · rfl
  split
  · rfl
  split <;> rfl
 have hf : (vfV k).oneCell' = true := by
  unfold vfV
  split
  · rfl
  split
  · rfl
  split <;> rfl
 rw [Array.all_eq_true_iff_forall_mem]
 intro u hu
 simp only [List.mem_toArray, List.mem_cons, List.not_mem_nil, or_false] at hu
 rcases hu with rfl | rfl | rfl | rfl | rfl
 · rfl
 · rfl
 · exact hsl
 · exact hm
 · exact hf
theorem bAl {w W : World} {o : Obj} (h : Below w.heap.size w W) : Below w.heap.size w (W.alloc o) := h.alloc h.size _
theorem bDr {w W : World} (h : Below w.heap.size w W) : Below w.heap.size w W.drew := h.drew
theorem bR {w W : World} {g : Nat} {cs : Array Value} (h : Below w.heap.size w W) (hg : w.heap.size ≤ g) : Below w.heap.size w (W.setRow g cs) := h.grown (grown_setRow _ _ _) h.size (fun j e => by cases e; exact hg)
set_option maxRecDepth 100000 in
theorem ixForms_at {cs : Array Value} {k : Int} (_h : cs.size = 125) (h1 : 1 ≤ k) (h2 : k ≤ 24) (W : World) : (Instr.index 115 (.agg cs) (.int .i64 k)).run Tryz.prog W = .ok (.agg (rowOf cs k)) W := by
 have hb : 0 ≤ k ∧ k < 25 := ⟨by omega, by omega⟩
 simp [Instr.index, asIntOf, run_underlying Tryz.underlying115, hb, part, Tryz.isAgg114, Tryz.sizeOf114, rowOf, Nat.mul_comm]
noncomputable def stForm (v u : Value) : Sem Unit := Instr.storeAt 114 v u
theorem st_form (v u : Value) : Instr.storeAt 114 v u = stForm v u := rfl
set_option maxRecDepth 100000 in
theorem stForm_at {w : World} {g : Nat} {old cs : Array Value} {t : TypeId} (h : w.heap[g]? = some (.cells old t (0, 0))) (ho : old.size = 5) (hs : cs.size = 5) (h1 : cs.all (·.oneCell') = true) : (stForm (.pointer (some ⟨g, 0, none⟩)) (.agg cs)).run Tryz.prog w = .ok () (w.setRow g cs) := by
 unfold stForm
 simp only [Instr.storeAt, Instr.sureAddr, Sem.run_bind, Sem.run_pure, Result.andThen_ok]
 exact run_storeVar_row w g t 114 old cs h (by rw [hs]; exact formSize) (by rw [ho, hs]) h1
attribute [irreducible] stForm
abbrev formZ : Obj := .cells #[.string ⟨#[]⟩, .nilFunc, .slice none 0 0, .nilFunc, .nilFunc] 114 (0, 0)
theorem formZ_no {l : List Int} {T : TypeId} (h : some formZ = some (.cells (intsV l).toArray T (0, 0))) : False := by
 have h1 := congrArg (fun o : Option Obj => match o with
  | some (.cells c _ _) => c.toList.head?
  | _ => none) h
 cases l with
 | nil => simp [intsV] at h1
 | cons a r => simp [intsV] at h1
theorem stForm_new (w : World) (cs : Array Value) (hs : cs.size = 5) (h1 : cs.all (·.oneCell') = true) : (stForm (.pointer (some ⟨w.heap.size, 0, none⟩)) (.agg cs)).run Tryz.prog (w.alloc formZ) = .ok () ((w.alloc formZ).setRow w.heap.size cs) := stForm_at (heap_alloc_new w _) rfl hs h1
theorem eqFnT (n : Nat) (w : World) : (binOp .eql 108 (.func (.func n) #[] #[]) .nilFunc).run Tryz.prog w = .ok (.bool false) w := by kernel_rfl
theorem eqNilT (w : World) : (binOp .eql 108 .nilFunc .nilFunc).run Tryz.prog w = .ok (.bool true) w := by kernel_rfl
theorem len_opsK (k : Int) : (opsK k).length ≤ 4 := by
 unfold opsK
 repeat' split
 all_goals simp
theorem ContOps (w : World) {sl : Value} {l : List Int} (x : Int) (h : SlcOk w sl l) (hl : l.length ≤ 4) : Calls Tryz.prog 78 #[sl, .int .i64 x] w fun e w' => e = .returned (.bool (l.contains x)) ∧ w' = w := by
 rcases h with ⟨rfl, rfl⟩ | ⟨g, T, rfl, hg⟩
 · exact Tryz.slices_Contains_int_empty none 0 x w
 · refine (Tryz.slices_Contains_int g 0 l.length l.length l x w (Nat.le_refl _) (by omega) (fun j hj => by
    refine cellOf hg ?_
    have hm : (intsV l)[j]? = some (.int .i64 (l.getD j 0)) := by
     rw [intsV, List.getElem?_map, List.getElem?_eq_getElem hj, List.getD_eq_getElem?_getD, List.getElem?_eq_getElem hj]; rfl
    rw [Nat.zero_add, List.getElem?_toArray]; exact hm)).mono ?_
   rintro e w' ⟨rfl, rfl⟩
   exact ⟨by rw [List.take_length], rfl⟩
theorem mf_any (t : Tm) (w : World) (hE : Env w) (hv : t.value.size ≤ 281474976710656) (hm : matchB t.op = true) (h15 : ¬ 15 ≤ t.key) (hn : namedB t.key (L t.name) = true) :
 (mfV t.key = fnV 92 ∧ ∀ W, Below w.heap.size w W → Calls Tryz.prog 92 #[tmV t] W fun e w' => e = .returned (.bool (rightB t.key t.op (L t.name) (L t.value))) ∧ Below W.heap.size W w')
 ∨ (mfV t.key = fnV 96 ∧ ∀ W, Below w.heap.size w W → Calls Tryz.prog 96 #[tmV t] W fun e w' => e = .returned (.bool (rightB t.key t.op (L t.name) (L t.value))) ∧ Below W.heap.size W w')
 ∨ (mfV t.key = fnV 98 ∧ ∀ W, Below w.heap.size w W → Calls Tryz.prog 98 #[tmV t] W fun e w' => e = .returned (.bool (rightB t.key t.op (L t.name) (L t.value))) ∧ Below W.heap.size W w') := by
 have hv2 : t.value.size ≤ 9223372036854775807 := by omega
 by_cases h12 : t.key = 12
 · have hr : rightB t.key t.op (L t.name) (L t.value) = tmplB (L t.value) := by
    rw [rightB, if_neg (by omega), if_neg (by omega), if_neg (by omega), if_neg (fun h => h.2 h12)]
   refine Or.inr (Or.inl ⟨by rw [mfV, if_neg h15, if_pos h12], fun W hW => ?_⟩)
   rw [hr]
   exact PCommand_any t W (hE.go hW) hv2
 by_cases h14 : t.key = 14
 · have hr : rightB t.key t.op (L t.name) (L t.value) = (if L t.name = programL then tmplB (L t.value) else if L t.name = parentL then patB (L t.value) else L t.value == pathL || L t.value == contentL || L t.value == netL) := by
    rw [rightB, if_neg (by omega), if_neg (by omega), if_pos h14]
    rw [namedB, if_neg (by omega), if_neg (by omega), if_pos h14, Bool.or_eq_true, Bool.or_eq_true, beq_iff_eq, beq_iff_eq, beq_iff_eq] at hn
    rcases hn with (e | e) | e
    · rw [e, if_neg (by decide), if_pos rfl, if_pos rfl]
    · rw [e, if_neg (by decide), if_neg (by decide), if_neg (by decide), if_pos rfl]
    · rw [e, if_pos rfl, if_neg (by decide), if_neg (by decide)]
   refine Or.inr (Or.inr ⟨by rw [mfV, if_neg h15, if_neg h12, if_pos h14], fun W hW => ?_⟩)
   rw [hr]
   exact PImported_any t W (hE.go hW) hv2
 · have hr : rightB t.key t.op (L t.name) (L t.value) = patB (L t.value) := by
    rw [rightB, if_neg (by omega), if_neg (by omega), if_neg (by omega), if_pos ⟨hm, h12⟩]
   refine Or.inl ⟨by rw [mfV, if_neg h15, if_neg h12, if_neg h14], fun W hW => ?_⟩
   rw [hr]
   exact PPattern_any t W hv2
theorem vf_any (t : Tm) (w : World) (hE : Env w) (hv : t.value.size ≤ 281474976710656) (hm : matchB t.op = false) (_h2 : t.key ≤ 24) (hc : (opsK t.key).contains t.op = true) :
 (vfV t.key = fnV 99 ∧ ∀ W, Below w.heap.size w W → Calls Tryz.prog 99 #[.string t.value] W fun e w' => e = .returned (.bool (rightB t.key t.op (L t.name) (L t.value))) ∧ Below W.heap.size W w')
 ∨ (vfV t.key = fnV 70 ∧ ∀ W, Below w.heap.size w W → Calls Tryz.prog 70 #[.string t.value] W fun e w' => e = .returned (.bool (rightB t.key t.op (L t.name) (L t.value))) ∧ Below W.heap.size W w')
 ∨ (vfV t.key = fnV 95 ∧ ∀ W, Below w.heap.size w W → Calls Tryz.prog 95 #[.string t.value] W fun e w' => e = .returned (.bool (rightB t.key t.op (L t.name) (L t.value))) ∧ Below W.heap.size W w') := by
 have hv2 : t.value.size ≤ 9223372036854775807 := by omega
 have hk : t.key = 6 ∨ t.key = 7 ∨ 15 ≤ t.key := by
  rcases Int.lt_or_le t.key 15 with h | h
  · by_cases h6 : t.key = 6
    · exact Or.inl h6
    by_cases h7 : t.key = 7
    · exact Or.inr (Or.inl h7)
    rw [opsK, if_neg h6, if_neg h7, if_neg (by omega), if_neg (by omega), if_neg (by omega), if_neg (by omega), if_neg (by omega)] at hc
    simp at hc
  · exact Or.inr (Or.inr h)
 by_cases h22 : t.key = 22
 · refine Or.inl ⟨by rw [vfV, if_pos h22], fun W hW => ?_⟩
   rw [rightB, if_pos h22]
   exact PPriority_any t.value W (hE.go hW) hv
 by_cases h23 : t.key = 23 ∨ t.key = 24
 · refine Or.inr (Or.inl ⟨by rw [vfV, if_neg h22, if_pos h23], fun W hW => ?_⟩)
   rw [rightB, if_neg h22, if_pos h23]
   exact Valid_any t.value W hv2
 · refine Or.inr (Or.inr ⟨by rw [vfV, if_neg h22, if_neg h23, if_pos hk], fun W hW => ?_⟩)
   rw [rightB, if_neg h22, if_neg h23, if_neg (by omega), if_neg (by rw [hm]; simp)]
   exact PTemplate_any t.value W (hE.go hW) hv2
attribute [local go_sem ↓] st_form
set_option maxRecDepth 100000 in
set_option maxHeartbeats 4000000 in
theorem PCheck1_any (t : Tm) (w : World) (hE : Env w) (hn : t.name.size ≤ 9223372036854775807) (hv : t.value.size ≤ 281474976710656) :
 Calls Tryz.prog 45 #[tmV t] w fun e w' => e = .returned (.int .i64 (termE t)) ∧ Below w.heap.size w w' := by
 unfold tmV
 by_cases hk : t.key < 1 ∨ 24 < t.key
 · have HT : Hid (termE t = 100) := Lib.hid (by rw [termE, if_pos hk])
   by_cases h1 : t.key < 1
   · clear hk
     go_enter Tryz.func45, Tryz.ntmps45
     go_wp2
     go_ret
     exact ⟨ret_i (by rw [HT.out]), below_alloc _ _⟩
   · have h2 : 24 < t.key := by omega
     clear hk
     go_enter Tryz.func45, Tryz.ntmps45
     go_wp2
     go_ret
     exact ⟨ret_i (by rw [HT.out]), below_alloc _ _⟩
 · have h1 : ¬ t.key < 1 := by omega
   have h2 : ¬ 24 < t.key := by omega
   have HK := Lib.hid hk
   clear hk
   go_enter Tryz.func45, Tryz.ntmps45
   have hk1 : 1 ≤ t.key := by omega
   have hk2 : t.key ≤ 24 := by omega
   have HSx : Hid (∀ W, Below (w.alloc (.cells #[.int .i64 t.key, .string t.name, .int .i64 t.op, .string t.value] 66)).heap.size (w.alloc (.cells #[.int .i64 t.key, .string t.name, .int .i64 t.op, .string t.value] 66)) W → W.cell? ⟨w.heap.size, 0, none⟩ = some (.int .i64 t.key) ∧ W.cell? ⟨w.heap.size, 1, none⟩ = some (.string t.name) ∧ W.cell? ⟨w.heap.size, 2, none⟩ = some (.int .i64 t.op) ∧ W.cell? ⟨w.heap.size, 3, none⟩ = some (.string t.value)) := Lib.hid fun W hW => box4 hW
   go_upto_region 3 with fail
   obtain ⟨w1, hw1⟩ : ∃ w1, w.alloc (.cells #[.int .i64 t.key, .string t.name, .int .i64 t.op, .string t.value] 66) = w1 := ⟨_, rfl⟩
   have HB1 : Hid (Below w.heap.size w w1) := Lib.hid (by rw [← hw1]; exact below_alloc _ _)
   rw [hw1]
   rw [hw1] at HSx
   clear hw1
   go_cut [3] from 12 to 15 (fun s3 wx => ∃ (F : Nat) (cs : Array Value), s3 = .pointer (some ⟨F, 0, none⟩) ∧ Hid (wx.heap[F]? = some (.cells (rowOf cs t.key) 114 (0, 0))) ∧ Hid (FormsOk cs wx) ∧ Hid (Below w1.heap.size w1 wx))
   case first =>
    go_region_held3 (fun W' => W'.cell? ⟨w.heap.size, 0, none⟩ = some (.int .i64 t.key)) ((exact (HSx.out _ (by first | exact bDr (Below.refl _ _) | exact bAl (bDr (Below.refl _ _)) | exact bDr (bAl (Below.refl _ _)) | exact hB2 | exact bAl hB2 | exact bR (bAl hB2) hB2.size | exact bR hB2 (Nat.le_refl _))).1)) ((first
     | (go_at_call 59; refine (PForms_any _).mono ?_; rintro e w2 ⟨cs, rfl, hF, hb2⟩; have hix := fun W => ixForms_at hF.1 hk1 hk2 W; have hst := stForm_new w2 (rowOf cs t.key) (size_rowOf hF.1 hk1 hk2) (rowOf_one hF hk1 hk2); (have hB2 : Below w1.heap.size w1 w2 := (by first | exact bt (bDr (Below.refl _ _)) hb2 | exact bt (bAl (bDr (Below.refl _ _))) hb2 | exact bt (bDr (bAl (Below.refl _ _))) hb2)); (first | (have hz : w2.heap[w1.heap.size]? = some formZ := (hb2.block w1.heap.size (by simp)).trans (heap_alloc_new w1 _); have hst2 := stForm_at hz rfl (size_rowOf hF.1 hk1 hk2) (rowOf_one hF hk1 hk2)) | skip))))
    all_goals
     have HFk := Lib.hid hF
     clear hix hst hF hb2
     go_wp2
     go_meet
     first
      | exact ⟨w2.heap.size, cs, rfl, setRow_heap _ _ _ _ _ _ (heap_alloc_new w2 _), ⟨HFk.out.1, fun k h1 h2 => by
       obtain ⟨sl, e, hs⟩ := HFk.out.2 k h1 h2
       exact ⟨sl, e, hs.keep ((below_alloc w2 formZ).grown (grown_setRow _ _ _) (by simp) (fun j e => by cases e; exact Nat.le_refl _))⟩⟩, bR (bAl hB2) hB2.size⟩
      | exact ⟨w1.heap.size, cs, rfl, setRow_heap _ _ _ _ _ _ hz, ⟨HFk.out.1, fun k h1 h2 => by
       obtain ⟨sl, e, hs⟩ := HFk.out.2 k h1 h2
       refine ⟨sl, e, ?_⟩
       rcases hs with hs | ⟨g, T, hs1, hs2⟩
       · exact Or.inl hs
       · refine Or.inr ⟨g, T, hs1, ?_⟩
         rw [setRow_other _ _ _ _ (fun e => by rw [e, hz] at hs2; exact formZ_no hs2)]
         exact hs2⟩, bR hB2 (Nat.le_refl _)⟩
   case rest =>
   obtain ⟨F, cs, rfl, hR, hF, hB⟩ := hcut
   obtain ⟨sl, hrow, hsl⟩ := hF.out.2 t.key hk1 hk2
   rw [hrow] at hR
   have HSl := Lib.hid hsl
   have HTe : Hid (termE t = if namedB t.key (L t.name) = false then 101 else if allowedB t.key t.op = false then 102 else if rightB t.key t.op (L t.name) (L t.value) = false then 103 else 0) := Lib.hid (by rw [termE, if_neg HK.out])
   have HEx := Lib.hid (fun (W : World) (hW : Below w.heap.size w W) => hE.go hW)
   have HFc : Hid (∀ W, Below wc.heap.size wc W → W.cell? ⟨F, 1, none⟩ = some (fnV (nfK t.key)) ∧ W.cell? ⟨F, 2, none⟩ = some sl ∧ W.cell? ⟨F, 3, none⟩ = some (mfV t.key) ∧ W.cell? ⟨F, 4, none⟩ = some (vfV t.key)) := Lib.hid fun W hW => by
    have h := (hW.block F (blk_lt' hR.out)).trans hR.out
    exact ⟨cellOf h rfl, cellOf h rfl, cellOf h rfl, cellOf h rfl⟩
   have HSw : Hid (∀ W, Below wc.heap.size wc W → SlcOk W sl (opsK t.key)) := Lib.hid fun W hW => HSl.out.keep hW
   have HSb : Hid (∀ W, Below wc.heap.size wc W → W.cell? ⟨w.heap.size, 0, none⟩ = some (.int .i64 t.key) ∧ W.cell? ⟨w.heap.size, 1, none⟩ = some (.string t.name) ∧ W.cell? ⟨w.heap.size, 2, none⟩ = some (.int .i64 t.op) ∧ W.cell? ⟨w.heap.size, 3, none⟩ = some (.string t.value)) := Lib.hid fun W hW => HSx.out W (bt hB.out hW)
   have HBw := Lib.hid (bt HB1.out hB.out)
   clear hrow hsl hR hF HSl HSx hE hB HB1 HK
   obtain ⟨k1, k2, k3, k4⟩ := HFc.out wc (Below.refl _ _)
   obtain ⟨b0, b1, b2, b3⟩ := HSb.out wc (Below.refl _ _)
   obtain ⟨wf, rfl⟩ : ∃ wf : World, wf = wc := ⟨_, rfl⟩
   -- the name
   have hnf : (nfK t.key = 70 ∧ namedB t.key (L t.name) = validS (L t.name)) ∨ (nfK t.key = 94 ∧ namedB t.key (L t.name) = keyS (L t.name)) ∨ (nfK t.key = 97 ∧ namedB t.key (L t.name) = (L t.name == programL || L t.name == parentL || L t.name == builtinL)) ∨ (nfK t.key = 91 ∧ namedB t.key (L t.name) = (L t.name).isEmpty) := by
    unfold nfK namedB
    split
    · exact Or.inl ⟨rfl, rfl⟩
    split
    · exact Or.inr (Or.inl ⟨rfl, rfl⟩)
    split
    · exact Or.inr (Or.inr (Or.inl ⟨rfl, rfl⟩))
    · exact Or.inr (Or.inr (Or.inr ⟨rfl, rfl⟩))
   have HNf := Lib.hid hnf
   clear hnf
   go_upto_region 4 with fail
   go_cut [16] from 17 to 22 (fun s16 wx => s16 = .bool (!namedB t.key (L t.name)) ∧ Hid (Below wf.heap.size wf wx))
   case first =>
    rcases HNf.out with ⟨e1, e2⟩ | ⟨e1, e2⟩ | ⟨e1, e2⟩ | ⟨e1, e2⟩
    all_goals
     rw [e1] at k1
     have E2 := Lib.hid e2
     unfold fnV at k1
     clear e1 e2
     go_wp2_with (first
      | (go_at_call 70; refine (Valid_any t.name _ hn).mono ?_; rintro e w5 ⟨rfl, hb5⟩)
      | (go_at_call 94; refine (Key_any t.name _ hn).mono ?_; rintro e w5 ⟨rfl, hb5⟩)
      | (go_at_call 97; refine (PKind_any t.name _).mono ?_; rintro e w5 ⟨rfl, hb5⟩)
      | (go_at_call 91; refine (PEmpty_any t.name _).mono ?_; rintro e w5 ⟨rfl, hb5⟩))
     go_meet
     exact ⟨by first | (rw [E2.out]; done) | (rw [E2.out]; first | rfl | (simp [Bool.not_or, Bool.and_assoc]; done) | (simp [L]; done)), Lib.hid hb5⟩
   case rest =>
   obtain ⟨rfl, hB5⟩ := hcut
   clear HNf
   obtain ⟨k1, k2, k3, k4⟩ := HFc.out wc hB5.out
   obtain ⟨b0, b1, b2, b3⟩ := HSb.out wc hB5.out
   cases hnb : namedB t.key (L t.name) with
   | false =>
     have HT : Hid (termE t = 101) := Lib.hid (by rw [HTe.out, if_pos hnb])
     have HB6 := Lib.hid (bt HBw.out hB5.out)
     clear hnb
     go_wp2
     go_ret
     exact ⟨ret_i (by rw [HT.out]), HB6.out⟩
   | true =>
   have HT1 : Hid (termE t = if allowedB t.key t.op = false then 102 else if rightB t.key t.op (L t.name) (L t.value) = false then 103 else 0) := Lib.hid (by rw [HTe.out, if_neg (by rw [hnb]; simp)])
   have HNb := Lib.hid hnb
   have HM := fun W => PMatch_any t W
   unfold tmV at HM
   have HMm := Lib.hid HM
   clear hnb HTe HM
   have heN := Lib.hid eqNilT
   have heF := Lib.hid eqFnT
   clear b0 b1 b2 b3 k1 k2 k3 k4
   cases hm : matchB t.op with
   | true =>
     rw [hm] at HMm
     have HAl : Hid (allowedB t.key t.op = decide (t.key ≤ 14)) := Lib.hid (by rw [allowedB, if_pos hm])
     by_cases h15 : 15 ≤ t.key
     · have HT : Hid (termE t = 102) := Lib.hid (by rw [HT1.out, HAl.out, if_pos (by rw [decide_eq_false]; omega)])
       have em : mfV t.key = .nilFunc := by rw [mfV, if_pos h15]
       have heN2 := heN.out
       (obtain ⟨k1, k2, k3, k4⟩ := HFc.out wc hB5.out)
       (obtain ⟨b0, b1, b2, b3⟩ := HSb.out wc hB5.out)
       rw [em] at k3
       clear hm em
       go_wp2_with (go_at_call 77; refine (HMm.out _).mono ?_; rintro e w6 ⟨rfl, hb6⟩; have HB6 := Lib.hid (bt hB5.out hb6); (obtain ⟨k1, k2, k3, k4⟩ := HFc.out _ HB6.out); rw [mfV, if_pos h15] at k3; clear hb6)
       go_ret
       exact ⟨ret_i (by rw [HT.out]), bt HBw.out HB6.out⟩
     · have HT2 : Hid (termE t = if rightB t.key t.op (L t.name) (L t.value) = false then 103 else 0) := Lib.hid (by rw [HT1.out, HAl.out, if_neg (by rw [decide_eq_false_iff_not]; omega)])
       have hmf := mf_any t wf (HEx.out wf HBw.out) hv hm h15 HNb.out
       clear hm
       unfold tmV at hmf
       generalize rightB t.key t.op (L t.name) (L t.value) = rb at *
       rcases hmf with ⟨em, hM⟩ | ⟨em, hM⟩ | ⟨em, hM⟩
       all_goals
        have HV := Lib.hid hM
        clear hM
        unfold fnV at em
        have Hem := Lib.hid em
        have heF2 := heF.out
        clear em
        cases rb with
        | false =>
          (obtain ⟨b0, b1, b2, b3⟩ := HSb.out wc hB5.out)
          have hBx := hB5
          go_wp2_with (first
           | (go_at_call 77; refine (HMm.out _).mono ?_; rintro e w6 ⟨rfl, hb6⟩; replace hBx := Lib.hid (bt hBx.out hb6); (obtain ⟨k1, k2, k3, k4⟩ := HFc.out _ hBx.out); (obtain ⟨b0, b1, b2, b3⟩ := HSb.out _ hBx.out); rw [Hem.out] at k3; clear hb6)
           | (first | go_at_call 92 | go_at_call 96 | go_at_call 98
              refine (HV.out _ hBx.out).mono ?_; rintro e w6 ⟨rfl, hb6⟩; replace hBx := Lib.hid (bt hBx.out hb6); (obtain ⟨b0, b1, b2, b3⟩ := HSb.out _ hBx.out); clear hb6))
          go_ret
          exact ⟨ret_i (by rw [HT2.out]; rfl), bt HBw.out hBx.out⟩
        | true =>
          (obtain ⟨b0, b1, b2, b3⟩ := HSb.out wc hB5.out)
          have hBx := hB5
          go_wp2_with (first
           | (go_at_call 77; refine (HMm.out _).mono ?_; rintro e w6 ⟨rfl, hb6⟩; replace hBx := Lib.hid (bt hBx.out hb6); (obtain ⟨k1, k2, k3, k4⟩ := HFc.out _ hBx.out); (obtain ⟨b0, b1, b2, b3⟩ := HSb.out _ hBx.out); rw [Hem.out] at k3; clear hb6)
           | (first | go_at_call 92 | go_at_call 96 | go_at_call 98
              refine (HV.out _ hBx.out).mono ?_; rintro e w6 ⟨rfl, hb6⟩; replace hBx := Lib.hid (bt hBx.out hb6); (obtain ⟨b0, b1, b2, b3⟩ := HSb.out _ hBx.out); clear hb6))
          go_ret
          exact ⟨ret_i (by rw [HT2.out]; rfl), bt HBw.out hBx.out⟩
   | false =>
     rw [hm] at HMm
     have HAl : Hid (allowedB t.key t.op = (opsK t.key).contains t.op) := Lib.hid (by rw [allowedB, if_neg (by rw [hm]; simp)])
     have HCo := Lib.hid (fun (W : World) (hW : Below wf.heap.size wf W) => ContOps W t.op (HSw.out W hW) (len_opsK _))
     cases hc : (opsK t.key).contains t.op with
     | false =>
       rw [hc] at HCo
       have HT : Hid (termE t = 102) := Lib.hid (by rw [HT1.out, HAl.out, hc]; rfl)
       clear hc hm
       (obtain ⟨b0, b1, b2, b3⟩ := HSb.out wc hB5.out)
       have hBx := hB5
       go_wp2_with (first
        | (go_at_call 77; refine (HMm.out _).mono ?_; rintro e w6 ⟨rfl, hb6⟩; replace hBx := Lib.hid (bt hBx.out hb6); (obtain ⟨k1, k2, k3, k4⟩ := HFc.out _ hBx.out); (obtain ⟨b0, b1, b2, b3⟩ := HSb.out _ hBx.out); clear hb6)
        | (go_at_call 78; refine (HCo.out _ hBx.out).mono ?_; rintro e w6 ⟨rfl, rfl⟩))
       go_ret
       exact ⟨ret_i (by rw [HT.out]), bt HBw.out hBx.out⟩
     | true =>
       rw [hc] at HCo
       have HT2 : Hid (termE t = if rightB t.key t.op (L t.name) (L t.value) = false then 103 else 0) := Lib.hid (by rw [HT1.out, HAl.out, hc]; rfl)
       have hvf := vf_any t wf (HEx.out wf HBw.out) hv hm hk2 hc
       clear hc hm
       generalize rightB t.key t.op (L t.name) (L t.value) = rb at *
       rcases hvf with ⟨em, hM⟩ | ⟨em, hM⟩ | ⟨em, hM⟩
       all_goals
        have HV := Lib.hid hM
        clear hM
        unfold fnV at em
        have Hem := Lib.hid em
        clear em
        cases rb with
        | false =>
          (obtain ⟨b0, b1, b2, b3⟩ := HSb.out wc hB5.out)
          have hBx := hB5
          go_wp2_with (first
           | (go_at_call 77; refine (HMm.out _).mono ?_; rintro e w6 ⟨rfl, hb6⟩; replace hBx := Lib.hid (bt hBx.out hb6); (obtain ⟨k1, k2, k3, k4⟩ := HFc.out _ hBx.out); (obtain ⟨b0, b1, b2, b3⟩ := HSb.out _ hBx.out); rw [Hem.out] at k4; clear hb6)
           | (go_at_call 78; refine (HCo.out _ hBx.out).mono ?_; rintro e w6 ⟨rfl, rfl⟩)
           | (first | go_at_call 99 | go_at_call 70 | go_at_call 95
              refine (HV.out _ hBx.out).mono ?_; rintro e w6 ⟨rfl, hb6⟩; replace hBx := Lib.hid (bt hBx.out hb6); (obtain ⟨b0, b1, b2, b3⟩ := HSb.out _ hBx.out); clear hb6))
          go_ret
          exact ⟨ret_i (by rw [HT2.out]; rfl), bt HBw.out hBx.out⟩
        | true =>
          (obtain ⟨b0, b1, b2, b3⟩ := HSb.out wc hB5.out)
          have hBx := hB5
          go_wp2_with (first
           | (go_at_call 77; refine (HMm.out _).mono ?_; rintro e w6 ⟨rfl, hb6⟩; replace hBx := Lib.hid (bt hBx.out hb6); (obtain ⟨k1, k2, k3, k4⟩ := HFc.out _ hBx.out); (obtain ⟨b0, b1, b2, b3⟩ := HSb.out _ hBx.out); rw [Hem.out] at k4; clear hb6)
           | (go_at_call 78; refine (HCo.out _ hBx.out).mono ?_; rintro e w6 ⟨rfl, rfl⟩)
           | (first | go_at_call 99 | go_at_call 70 | go_at_call 95
              refine (HV.out _ hBx.out).mono ?_; rintro e w6 ⟨rfl, hb6⟩; replace hBx := Lib.hid (bt hBx.out hb6); (obtain ⟨b0, b1, b2, b3⟩ := HSb.out _ hBx.out); clear hb6))
          go_ret
          exact ⟨ret_i (by rw [HT2.out]; rfl), bt HBw.out hBx.out⟩
end Go.Proofs.YtibflgfhjfcifaaGreatDoor
namespace Go.Proofs.YtibflgfhjfcifaaGreatDoor
open Go.RowKit
structure TmPre (t : Tm) : Prop where
 name : t.name.size ≤ 9223372036854775807
 value : t.value.size ≤ 281474976710656
set_option maxRecDepth 100000 in
set_option maxHeartbeats 8000000 in
theorem PTCheck_any (A : Option Addr) (c : Nat) (l : List Tm) (w : World) (hE : Env w) (h : RowAt w w.heap.size A 4 l.length (cellsOf encTm l)) (hl : l.length ≤ 9223372036854775807) (hok : ∀ t ∈ l, TmPre t) :
 Calls Tryz.prog 21 #[.slice A l.length c] w fun e w' => e = .returned (.int .i64 (checkE l)) ∧ Below w.heap.size w w' := by
 have HE := Lib.hid (fun (W : World) (hW : Below w.heap.size w W) => hE.go hW)
 have HR := Lib.hid h
 have HK := Lib.hid hok
 clear hE h hok
 by_cases h0 : l.length = 0
 · have hc : checkE l = 106 := by rw [checkE, if_pos h0]
   have HC := Lib.hid hc
   rw [h0]
   clear hc h0 HR
   go_enter Tryz.func21, Tryz.ntmps21
   go_wp2
   go_ret
   exact ⟨ret_i (by rw [HC.out]), Below.refl _ _⟩
 by_cases h16 : 16 < l.length
 · have hc : checkE l = 104 := by rw [checkE, if_neg h0, if_pos h16]
   have HC := Lib.hid hc
   have e0 : ((l.length : Int) == 0) = false := by simp; intro e; exact h0 (by rw [e]; rfl)
   have h16I : (16 : Int) < (l.length : Int) := by omega
   generalize l.length = N at *
   clear hc h0 HR
   go_enter Tryz.func21, Tryz.ntmps21
   go_wp2
   go_ret
   exact ⟨ret_i (by rw [HC.out]), Below.refl _ _⟩
 have e0 : ((l.length : Int) == 0) = false := by simp; intro e; exact h0 (by rw [e]; rfl)
 have h16I : (l.length : Int) ≤ 16 := by omega
 have HF := Lib.hid (fun k hk hf he => checkE_first (l := l) (k := k) h0 h16 hk hf he)
 have HL := Lib.hid (checkE_last h0 h16)
 clear h0 h16
 obtain ⟨N, hN⟩ : ∃ N, l.length = N := ⟨_, rfl⟩
 have HN := Lib.hid hN
 rw [hN] at e0 h16I ⊢
 clear hN hl
 go_enter Tryz.func21, Tryz.ntmps21
 go_wp2
 go_loopg [3, 4, 18] N (fun gk s3 s4 s5 wr => ∃ k : Nat, s5 = .int .i64 k ∧ k + gk = N ∧ ∃ a b : Nat, s3 = .int .i64 a ∧ s4 = .int .i64 b ∧ a ≤ k ∧ b ≤ k ∧ Hid (countK 23 (l.take k) = a) ∧ Hid (countK 24 (l.take k) = b) ∧ Hid (firstE (l.take k) = 0) ∧ Hid (Below w.heap.size w wr))
 case atStart => exact ⟨0, rfl, by omega, 0, 0, rfl, rfl, Nat.le_refl _, Nat.le_refl _, rfl, rfl, rfl, Below.refl _ _⟩
 case round =>
  obtain ⟨k, rfl, hkg, a, b, rfl, rfl, ha, hb, hA, hB, hF, hW⟩ := hrel
  by_cases hlt : k < N
  · have hltI : (k : Int) < (N : Int) := by omega
    have hk : k < l.length := by rw [HN.out]; exact hlt
    obtain ⟨ba, off, rfl, c0, c1, c2, c3⟩ := HR.out.tm hW.out hk
    have HT := Lib.hid (take_succ_get l k hk)
    have HFk := Lib.hid (HF.out k hk hF.out)
    have hok := HK.out l[k] (List.getElem_mem _)
    generalize l[k] = t at *
    have HCk := Lib.hid (fun (W : World) (hWW : Below w.heap.size w W) => PCheck1_any t W (HE.out W hWW) hok.name hok.value)
    obtain ⟨ky, nm, op, vl⟩ := t
    unfold tmV at HCk
    dsimp only at c0 c1 c2 c3 HCk
    clear hk hok
    by_cases hte : termE ⟨ky, nm, op, vl⟩ = 0
    · have hF2 : firstE (l.take (k + 1)) = 0 := by rw [HT.out, firstE_append _ _ hF.out, hte]
      have hA2 : countK 23 (l.take (k + 1)) = a + (if ky = 23 then 1 else 0) := by rw [HT.out, countK_append, hA.out]
      have hB2 : countK 24 (l.take (k + 1)) = b + (if ky = 24 then 1 else 0) := by rw [HT.out, countK_append, hB.out]
      have HF2 := Lib.hid hF2
      rw [hte] at HCk
      by_cases h23 : ky = 23
      · subst h23
        rw [if_pos rfl] at hA2
        rw [if_neg (by decide), Nat.add_zero] at hB2
        have HA2 := Lib.hid hA2
        have HB2 := Lib.hid hB2
        clear hte hF2 hA2 hB2 HFk
        go_wp2_with (go_at_call 45; refine (HCk.out _ (bt hW.out (by go_grown))).mono ?_; rintro e w1 ⟨rfl, hb1⟩; have hbk1 := (hb1.block _ (by simp)).trans (heap_alloc_new wr _); obtain ⟨⟨d0, d1, d2, d3⟩, _⟩ := res4 hbk1; have HW1 := Lib.hid (bt hW.out (bt (below_alloc _ _) hb1)); clear hb1 hbk1)
        go_roundg (gk - 1)
        case measure => omega
        case rel => exact ⟨k + 1, by go_num, by omega, a + 1, b, by go_num, rfl, by omega, by omega, HA2.out, HB2.out, HF2.out, HW1.out⟩
      by_cases h24 : ky = 24
      · subst h24
        rw [if_pos rfl] at hB2
        rw [if_neg (by decide), Nat.add_zero] at hA2
        have HA2 := Lib.hid hA2
        have HB2 := Lib.hid hB2
        clear hte hF2 hA2 hB2 HFk h23
        go_wp2_with (go_at_call 45; refine (HCk.out _ (bt hW.out (by go_grown))).mono ?_; rintro e w1 ⟨rfl, hb1⟩; have hbk1 := (hb1.block _ (by simp)).trans (heap_alloc_new wr _); obtain ⟨⟨d0, d1, d2, d3⟩, _⟩ := res4 hbk1; have HW1 := Lib.hid (bt hW.out (bt (below_alloc _ _) hb1)); clear hb1 hbk1)
        go_roundg (gk - 1)
        case measure => omega
        case rel => exact ⟨k + 1, by go_num, by omega, a, b + 1, rfl, by go_num, by omega, by omega, HA2.out, HB2.out, HF2.out, HW1.out⟩
      rw [if_neg h23, Nat.add_zero] at hA2
      rw [if_neg h24, Nat.add_zero] at hB2
      have HA2 := Lib.hid hA2
      have HB2 := Lib.hid hB2
      have n23 : (ky == 23) = false := by simp [h23]
      have n24 : (ky == 24) = false := by simp [h24]
      clear hte hF2 hA2 hB2 HFk h23 h24
      go_wp2_with (go_at_call 45; refine (HCk.out _ (bt hW.out (by go_grown))).mono ?_; rintro e w1 ⟨rfl, hb1⟩; have hbk1 := (hb1.block _ (by simp)).trans (heap_alloc_new wr _); obtain ⟨⟨d0, d1, d2, d3⟩, _⟩ := res4 hbk1; have HW1 := Lib.hid (bt hW.out (bt (below_alloc _ _) hb1)); clear hb1 hbk1)
      go_roundg (gk - 1)
      case measure => omega
      case rel => exact ⟨k + 1, by go_num, by omega, a, b, rfl, rfl, by omega, by omega, HA2.out, HB2.out, HF2.out, HW1.out⟩
    · have hc : checkE l = termE ⟨ky, nm, op, vl⟩ := HFk.out hte
      have HC := Lib.hid hc
      have hne : (termE ⟨ky, nm, op, vl⟩ == 0) = false := by simp [hte]
      generalize termE ⟨ky, nm, op, vl⟩ = r at *
      clear hc hte
      go_wp2_with (go_at_call 45; refine (HCk.out _ (bt hW.out (by go_grown))).mono ?_; rintro e w1 ⟨rfl, hb1⟩; have hbk1 := (hb1.block _ (by simp)).trans (heap_alloc_new wr _); obtain ⟨⟨d0, d1, d2, d3⟩, _⟩ := res4 hbk1; have HW1 := Lib.hid (bt hW.out (bt (below_alloc _ _) hb1)); clear hb1 hbk1)
      go_ret
      exact ⟨ret_i (by rw [HC.out]), HW1.out⟩
  · obtain rfl : k = N := by omega
    have htk : l.take k = l := List.take_of_length_le (by rw [HN.out]; exact Nat.le_refl _)
    have HFin := Lib.hid (HL.out (by have := hF.out; rw [htk] at this; exact this))
    have hA' := hA.out
    have hB' := hB.out
    rw [htk] at hA' hB'
    have HA' := Lib.hid hA'
    have HB' := Lib.hid hB'
    clear htk hA' hB'
    by_cases h1 : 1 < a
    · have h1I : (1 : Int) < (a : Int) := by omega
      go_wp2
      go_ret
      exact ⟨ret_i (by rw [HFin.out, HA'.out, if_pos (Or.inl h1)]), hW.out⟩
    · have h1I : (a : Int) ≤ 1 := by omega
      by_cases h2 : 1 < b
      · have h2I : (1 : Int) < (b : Int) := by omega
        go_wp2
        go_ret
        exact ⟨ret_i (by rw [HFin.out, HB'.out, if_pos (Or.inr h2)]), hW.out⟩
      · have h2I : (b : Int) ≤ 1 := by omega
        go_wp2
        go_ret
        exact ⟨ret_i (by rw [HFin.out, HA'.out, HB'.out, if_neg (by omega)]), hW.out⟩
end Go.Proofs.YtibflgfhjfcifaaGreatDoor
