/-
  The program's table of forms: a row for each key.
-/
import Derived.Test.YthcgkeiggnfgiaaGreatDoorPGrA
import Derived.Test.YthcgkeiggnfgiaaGreatDoorG30
import Derived.Laws.EntriesVeiled
namespace Go.Proofs.YthcgkeiggnfgiaaGreatDoor
open Go.RowKit
abbrev fnV (n : Nat) : Value := .func (.func n) #[] #[]
def intsV (l : List Int) : List Value := l.map (Value.int .i64)
/-- A slice of numbers, whole and made anew, or nil. -/
def SlcOk (w : World) (v : Value) (l : List Int) : Prop := (v = .slice none 0 0 ∧ l = []) ∨ ∃ g T, v = .slice (some ⟨g, 0, none⟩) l.length l.length ∧ w.heap[g]? = some (.cells (intsV l).toArray T (0, 0))
theorem SlcOk.keep {w w' : World} {v : Value} {l : List Int} (h : SlcOk w v l) (hb : Below w.heap.size w w') : SlcOk w' v l := by
  rcases h with h | ⟨g, T, h1, h2⟩
  · exact Or.inl h
  · exact Or.inr ⟨g, T, h1, (hb.block g (blk_lt' h2)).trans h2⟩
theorem SlcOk.new (w : World) (l : List Int) (T : TypeId) : SlcOk (w.alloc (.cells (intsV l).toArray T)) (.slice (some ⟨w.heap.size, 0, none⟩) l.length l.length) l := Or.inr ⟨w.heap.size, T, rfl, heap_alloc_new w _⟩
/-- The table, its rows one behind the other. -/
def gformsA (s6 s7 s15 s16 s17 s18 s19 s20 s21 s22 s23 s24 : Value) : Array Value := #[.string ⟨#[]⟩, .nilFunc, .slice none 0 0, .nilFunc, .nilFunc, .string ⟨#[65, 67, 84, 73, 79, 78]⟩, .func (.func 114) #[] #[], .slice none 0 0, .func (.func 115) #[] #[], .nilFunc, .string ⟨#[75, 69, 82, 78, 69, 76]⟩, .func (.func 114) #[] #[], .slice none 0 0, .func (.func 115) #[] #[], .nilFunc, .string ⟨#[83, 85, 66, 83, 89, 83, 84, 69, 77]⟩, .func (.func 114) #[] #[], .slice none 0 0, .func (.func 115) #[] #[], .nilFunc, .string ⟨#[68, 82, 73, 86, 69, 82]⟩, .func (.func 114) #[] #[], .slice none 0 0, .func (.func 115) #[] #[], .nilFunc, .string ⟨#[65, 84, 84, 82]⟩, .func (.func 57) #[] #[], .slice none 0 0, .func (.func 115) #[] #[], .nilFunc, .string ⟨#[69, 78, 86]⟩, .func (.func 117) #[] #[], s6, .func (.func 115) #[] #[], .func (.func 118) #[] #[], .string ⟨#[84, 65, 71]⟩, .func (.func 114) #[] #[], s7, .func (.func 115) #[] #[], .func (.func 118) #[] #[], .string ⟨#[75, 69, 82, 78, 69, 76, 83]⟩, .func (.func 114) #[] #[], .slice none 0 0, .func (.func 115) #[] #[], .nilFunc, .string ⟨#[83, 85, 66, 83, 89, 83, 84, 69, 77, 83]⟩, .func (.func 114) #[] #[], .slice none 0 0, .func (.func 115) #[] #[], .nilFunc, .string ⟨#[68, 82, 73, 86, 69, 82, 83]⟩, .func (.func 114) #[] #[], .slice none 0 0, .func (.func 115) #[] #[], .nilFunc, .string ⟨#[65, 84, 84, 82, 83]⟩, .func (.func 57) #[] #[], .slice none 0 0, .func (.func 115) #[] #[], .nilFunc, .string ⟨#[80, 82, 79, 71, 82, 65, 77]⟩, .func (.func 114) #[] #[], .slice none 0 0, .func (.func 119) #[] #[], .nilFunc, .string ⟨#[82, 69, 83, 85, 76, 84]⟩, .func (.func 114) #[] #[], .slice none 0 0, .func (.func 115) #[] #[], .nilFunc, .string ⟨#[73, 77, 80, 79, 82, 84]⟩, .func (.func 120) #[] #[], .slice none 0 0, .func (.func 121) #[] #[], .nilFunc, .string ⟨#[78, 65, 77, 69]⟩, .func (.func 114) #[] #[], s15, .nilFunc, .func (.func 118) #[] #[], .string ⟨#[83, 89, 77, 76, 73, 78, 75]⟩, .func (.func 114) #[] #[], s16, .nilFunc, .func (.func 118) #[] #[], .string ⟨#[79, 87, 78, 69, 82]⟩, .func (.func 114) #[] #[], s17, .nilFunc, .func (.func 118) #[] #[], .string ⟨#[71, 82, 79, 85, 80]⟩, .func (.func 114) #[] #[], s18, .nilFunc, .func (.func 118) #[] #[], .string ⟨#[77, 79, 68, 69]⟩, .func (.func 114) #[] #[], s19, .nilFunc, .func (.func 118) #[] #[], .string ⟨#[82, 85, 78]⟩, .func (.func 114) #[] #[], s20, .nilFunc, .func (.func 118) #[] #[], .string ⟨#[76, 79, 65, 68]⟩, .func (.func 114) #[] #[], s21, .nilFunc, .func (.func 118) #[] #[], .string ⟨#[80, 82, 73, 79, 82, 73, 84, 89]⟩, .func (.func 114) #[] #[], s22, .nilFunc, .func (.func 122) #[] #[], .string ⟨#[76, 65, 66, 69, 76]⟩, .func (.func 114) #[] #[], s23, .nilFunc, .func (.func 57) #[] #[], .string ⟨#[71, 79, 84, 79]⟩, .func (.func 114) #[] #[], s24, .nilFunc, .func (.func 57) #[] #[]]
theorem size_gformsA (s6 s7 s15 s16 s17 s18 s19 s20 s21 s22 s23 s24 : Value) : (gformsA s6 s7 s15 s16 s17 s18 s19 s20 s21 s22 s23 s24).size = 125 := rfl
theorem gforms_one (g6 g7 g15 g16 g17 g18 g19 g20 g21 g22 g23 g24 : Nat) : (gformsA (.slice (some ⟨g6, 0, none⟩) 2 2) (.slice (some ⟨g7, 0, none⟩) 3 3) (.slice (some ⟨g15, 0, none⟩) 2 2) (.slice (some ⟨g16, 0, none⟩) 4 4) (.slice (some ⟨g17, 0, none⟩) 2 2) (.slice (some ⟨g18, 0, none⟩) 2 2) (.slice (some ⟨g19, 0, none⟩) 2 2) (.slice (some ⟨g20, 0, none⟩) 3 3) (.slice (some ⟨g21, 0, none⟩) 1 1) (.slice (some ⟨g22, 0, none⟩) 1 1) (.slice (some ⟨g23, 0, none⟩) 1 1) (.slice (some ⟨g24, 0, none⟩) 1 1)).all (·.oneCell') = true := by kernel_rfl
theorem formSize : (Tryz.prog.info? 113).map (·.size) = some 5 := by kernel_rfl
theorem gformsSize : (Tryz.prog.info? 114).map (·.size) = some 125 := by kernel_rfl
theorem built_forms (g6 g7 g15 g16 g17 g18 g19 g20 g21 g22 g23 g24 : Nat) (_u : Nat) : Tryz.prog.built 114 [(1, .agg #[.string ⟨#[65, 67, 84, 73, 79, 78]⟩, .func (.func 114) #[] #[], .slice none 0 0, .func (.func 115) #[] #[], .nilFunc]), (2, .agg #[.string ⟨#[75, 69, 82, 78, 69, 76]⟩, .func (.func 114) #[] #[], .slice none 0 0, .func (.func 115) #[] #[], .nilFunc]), (3, .agg #[.string ⟨#[83, 85, 66, 83, 89, 83, 84, 69, 77]⟩, .func (.func 114) #[] #[], .slice none 0 0, .func (.func 115) #[] #[], .nilFunc]), (4, .agg #[.string ⟨#[68, 82, 73, 86, 69, 82]⟩, .func (.func 114) #[] #[], .slice none 0 0, .func (.func 115) #[] #[], .nilFunc]), (5, .agg #[.string ⟨#[65, 84, 84, 82]⟩, .func (.func 57) #[] #[], .slice none 0 0, .func (.func 115) #[] #[], .nilFunc]), (6, .agg #[.string ⟨#[69, 78, 86]⟩, .func (.func 117) #[] #[], .slice (some ⟨g6, 0, none⟩) 2 2, .func (.func 115) #[] #[], .func (.func 118) #[] #[]]), (7, .agg #[.string ⟨#[84, 65, 71]⟩, .func (.func 114) #[] #[], .slice (some ⟨g7, 0, none⟩) 3 3, .func (.func 115) #[] #[], .func (.func 118) #[] #[]]), (8, .agg #[.string ⟨#[75, 69, 82, 78, 69, 76, 83]⟩, .func (.func 114) #[] #[], .slice none 0 0, .func (.func 115) #[] #[], .nilFunc]), (9, .agg #[.string ⟨#[83, 85, 66, 83, 89, 83, 84, 69, 77, 83]⟩, .func (.func 114) #[] #[], .slice none 0 0, .func (.func 115) #[] #[], .nilFunc]), (10, .agg #[.string ⟨#[68, 82, 73, 86, 69, 82, 83]⟩, .func (.func 114) #[] #[], .slice none 0 0, .func (.func 115) #[] #[], .nilFunc]), (11, .agg #[.string ⟨#[65, 84, 84, 82, 83]⟩, .func (.func 57) #[] #[], .slice none 0 0, .func (.func 115) #[] #[], .nilFunc]), (12, .agg #[.string ⟨#[80, 82, 79, 71, 82, 65, 77]⟩, .func (.func 114) #[] #[], .slice none 0 0, .func (.func 119) #[] #[], .nilFunc]), (13, .agg #[.string ⟨#[82, 69, 83, 85, 76, 84]⟩, .func (.func 114) #[] #[], .slice none 0 0, .func (.func 115) #[] #[], .nilFunc]), (14, .agg #[.string ⟨#[73, 77, 80, 79, 82, 84]⟩, .func (.func 120) #[] #[], .slice none 0 0, .func (.func 121) #[] #[], .nilFunc]), (15, .agg #[.string ⟨#[78, 65, 77, 69]⟩, .func (.func 114) #[] #[], .slice (some ⟨g15, 0, none⟩) 2 2, .nilFunc, .func (.func 118) #[] #[]]), (16, .agg #[.string ⟨#[83, 89, 77, 76, 73, 78, 75]⟩, .func (.func 114) #[] #[], .slice (some ⟨g16, 0, none⟩) 4 4, .nilFunc, .func (.func 118) #[] #[]]), (17, .agg #[.string ⟨#[79, 87, 78, 69, 82]⟩, .func (.func 114) #[] #[], .slice (some ⟨g17, 0, none⟩) 2 2, .nilFunc, .func (.func 118) #[] #[]]), (18, .agg #[.string ⟨#[71, 82, 79, 85, 80]⟩, .func (.func 114) #[] #[], .slice (some ⟨g18, 0, none⟩) 2 2, .nilFunc, .func (.func 118) #[] #[]]), (19, .agg #[.string ⟨#[77, 79, 68, 69]⟩, .func (.func 114) #[] #[], .slice (some ⟨g19, 0, none⟩) 2 2, .nilFunc, .func (.func 118) #[] #[]]), (20, .agg #[.string ⟨#[82, 85, 78]⟩, .func (.func 114) #[] #[], .slice (some ⟨g20, 0, none⟩) 3 3, .nilFunc, .func (.func 118) #[] #[]]), (21, .agg #[.string ⟨#[76, 79, 65, 68]⟩, .func (.func 114) #[] #[], .slice (some ⟨g21, 0, none⟩) 1 1, .nilFunc, .func (.func 118) #[] #[]]), (22, .agg #[.string ⟨#[80, 82, 73, 79, 82, 73, 84, 89]⟩, .func (.func 114) #[] #[], .slice (some ⟨g22, 0, none⟩) 1 1, .nilFunc, .func (.func 122) #[] #[]]), (23, .agg #[.string ⟨#[76, 65, 66, 69, 76]⟩, .func (.func 114) #[] #[], .slice (some ⟨g23, 0, none⟩) 1 1, .nilFunc, .func (.func 57) #[] #[]]), (24, .agg #[.string ⟨#[71, 79, 84, 79]⟩, .func (.func 114) #[] #[], .slice (some ⟨g24, 0, none⟩) 1 1, .nilFunc, .func (.func 57) #[] #[]])] = some (gformsA (.slice (some ⟨g6, 0, none⟩) 2 2) (.slice (some ⟨g7, 0, none⟩) 3 3) (.slice (some ⟨g15, 0, none⟩) 2 2) (.slice (some ⟨g16, 0, none⟩) 4 4) (.slice (some ⟨g17, 0, none⟩) 2 2) (.slice (some ⟨g18, 0, none⟩) 2 2) (.slice (some ⟨g19, 0, none⟩) 2 2) (.slice (some ⟨g20, 0, none⟩) 3 3) (.slice (some ⟨g21, 0, none⟩) 1 1) (.slice (some ⟨g22, 0, none⟩) 1 1) (.slice (some ⟨g23, 0, none⟩) 1 1) (.slice (some ⟨g24, 0, none⟩) 1 1)) := by
  kernel_rfl
noncomputable def bdForms (parts : Array (Nat × Value)) : Sem Value := Instr.build 114 parts
theorem bd_forms (parts : Array (Nat × Value)) : Instr.build 114 parts = bdForms parts := rfl
theorem bdForms_at (g6 g7 g15 g16 g17 g18 g19 g20 g21 g22 g23 g24 : Nat) (w : World) : (bdForms #[(1, .agg #[.string ⟨#[65, 67, 84, 73, 79, 78]⟩, .func (.func 114) #[] #[], .slice none 0 0, .func (.func 115) #[] #[], .nilFunc]), (2, .agg #[.string ⟨#[75, 69, 82, 78, 69, 76]⟩, .func (.func 114) #[] #[], .slice none 0 0, .func (.func 115) #[] #[], .nilFunc]), (3, .agg #[.string ⟨#[83, 85, 66, 83, 89, 83, 84, 69, 77]⟩, .func (.func 114) #[] #[], .slice none 0 0, .func (.func 115) #[] #[], .nilFunc]), (4, .agg #[.string ⟨#[68, 82, 73, 86, 69, 82]⟩, .func (.func 114) #[] #[], .slice none 0 0, .func (.func 115) #[] #[], .nilFunc]), (5, .agg #[.string ⟨#[65, 84, 84, 82]⟩, .func (.func 57) #[] #[], .slice none 0 0, .func (.func 115) #[] #[], .nilFunc]), (6, .agg #[.string ⟨#[69, 78, 86]⟩, .func (.func 117) #[] #[], .slice (some ⟨g6, 0, none⟩) 2 2, .func (.func 115) #[] #[], .func (.func 118) #[] #[]]), (7, .agg #[.string ⟨#[84, 65, 71]⟩, .func (.func 114) #[] #[], .slice (some ⟨g7, 0, none⟩) 3 3, .func (.func 115) #[] #[], .func (.func 118) #[] #[]]), (8, .agg #[.string ⟨#[75, 69, 82, 78, 69, 76, 83]⟩, .func (.func 114) #[] #[], .slice none 0 0, .func (.func 115) #[] #[], .nilFunc]), (9, .agg #[.string ⟨#[83, 85, 66, 83, 89, 83, 84, 69, 77, 83]⟩, .func (.func 114) #[] #[], .slice none 0 0, .func (.func 115) #[] #[], .nilFunc]), (10, .agg #[.string ⟨#[68, 82, 73, 86, 69, 82, 83]⟩, .func (.func 114) #[] #[], .slice none 0 0, .func (.func 115) #[] #[], .nilFunc]), (11, .agg #[.string ⟨#[65, 84, 84, 82, 83]⟩, .func (.func 57) #[] #[], .slice none 0 0, .func (.func 115) #[] #[], .nilFunc]), (12, .agg #[.string ⟨#[80, 82, 79, 71, 82, 65, 77]⟩, .func (.func 114) #[] #[], .slice none 0 0, .func (.func 119) #[] #[], .nilFunc]), (13, .agg #[.string ⟨#[82, 69, 83, 85, 76, 84]⟩, .func (.func 114) #[] #[], .slice none 0 0, .func (.func 115) #[] #[], .nilFunc]), (14, .agg #[.string ⟨#[73, 77, 80, 79, 82, 84]⟩, .func (.func 120) #[] #[], .slice none 0 0, .func (.func 121) #[] #[], .nilFunc]), (15, .agg #[.string ⟨#[78, 65, 77, 69]⟩, .func (.func 114) #[] #[], .slice (some ⟨g15, 0, none⟩) 2 2, .nilFunc, .func (.func 118) #[] #[]]), (16, .agg #[.string ⟨#[83, 89, 77, 76, 73, 78, 75]⟩, .func (.func 114) #[] #[], .slice (some ⟨g16, 0, none⟩) 4 4, .nilFunc, .func (.func 118) #[] #[]]), (17, .agg #[.string ⟨#[79, 87, 78, 69, 82]⟩, .func (.func 114) #[] #[], .slice (some ⟨g17, 0, none⟩) 2 2, .nilFunc, .func (.func 118) #[] #[]]), (18, .agg #[.string ⟨#[71, 82, 79, 85, 80]⟩, .func (.func 114) #[] #[], .slice (some ⟨g18, 0, none⟩) 2 2, .nilFunc, .func (.func 118) #[] #[]]), (19, .agg #[.string ⟨#[77, 79, 68, 69]⟩, .func (.func 114) #[] #[], .slice (some ⟨g19, 0, none⟩) 2 2, .nilFunc, .func (.func 118) #[] #[]]), (20, .agg #[.string ⟨#[82, 85, 78]⟩, .func (.func 114) #[] #[], .slice (some ⟨g20, 0, none⟩) 3 3, .nilFunc, .func (.func 118) #[] #[]]), (21, .agg #[.string ⟨#[76, 79, 65, 68]⟩, .func (.func 114) #[] #[], .slice (some ⟨g21, 0, none⟩) 1 1, .nilFunc, .func (.func 118) #[] #[]]), (22, .agg #[.string ⟨#[80, 82, 73, 79, 82, 73, 84, 89]⟩, .func (.func 114) #[] #[], .slice (some ⟨g22, 0, none⟩) 1 1, .nilFunc, .func (.func 122) #[] #[]]), (23, .agg #[.string ⟨#[76, 65, 66, 69, 76]⟩, .func (.func 114) #[] #[], .slice (some ⟨g23, 0, none⟩) 1 1, .nilFunc, .func (.func 57) #[] #[]]), (24, .agg #[.string ⟨#[71, 79, 84, 79]⟩, .func (.func 114) #[] #[], .slice (some ⟨g24, 0, none⟩) 1 1, .nilFunc, .func (.func 57) #[] #[]])]).run Tryz.prog w = .ok (.agg (gformsA (.slice (some ⟨g6, 0, none⟩) 2 2) (.slice (some ⟨g7, 0, none⟩) 3 3) (.slice (some ⟨g15, 0, none⟩) 2 2) (.slice (some ⟨g16, 0, none⟩) 4 4) (.slice (some ⟨g17, 0, none⟩) 2 2) (.slice (some ⟨g18, 0, none⟩) 2 2) (.slice (some ⟨g19, 0, none⟩) 2 2) (.slice (some ⟨g20, 0, none⟩) 3 3) (.slice (some ⟨g21, 0, none⟩) 1 1) (.slice (some ⟨g22, 0, none⟩) 1 1) (.slice (some ⟨g23, 0, none⟩) 1 1) (.slice (some ⟨g24, 0, none⟩) 1 1))) w := by
  unfold bdForms
  exact run_build w _ _ _ (built_forms g6 g7 g15 g16 g17 g18 g19 g20 g21 g22 g23 g24 0)
attribute [irreducible] bdForms
noncomputable def stForms (v u : Value) : Sem Unit := Instr.storeAt 114 v u
theorem st_forms (v u : Value) : Instr.storeAt 114 v u = stForms v u := rfl
set_option maxRecDepth 100000 in
theorem stForms_at {w : World} {g : Nat} {old cs : Array Value} {t : TypeId} (h : w.heap[g]? = some (.cells old t (0, 0))) (ho : old.size = 125) (hs : cs.size = 125) (h1 : cs.all (·.oneCell') = true) : (stForms (.pointer (some ⟨g, 0, none⟩)) (.agg cs)).run Tryz.prog w = .ok () (w.setRow g cs) := by
  unfold stForms
  simp only [Instr.storeAt, Instr.sureAddr, Sem.run_bind, Sem.run_pure, Result.andThen_ok]
  exact run_storeVar_row w g t 114 old cs h (by rw [hs]; exact gformsSize) (by rw [ho, hs]) h1
attribute [irreducible] stForms
theorem zeroForms : Tryz.zeroCells114.size = 125 := by kernel_rfl

set_option maxRecDepth 100000 in
theorem FormM_any (wd : ByteArray) (w : World) : Calls Tryz.prog 113 #[.string wd] w fun e w' => e = .returned (.agg #[.string wd, .func (.func 114) #[] #[], .slice none 0 0, .func (.func 115) #[] #[], .nilFunc]) ∧ Below w.heap.size w w' := by
  go_enter Tryz.func113, Tryz.ntmps113
  go_wp2
  refine bodyPost_ret (v := .agg #[.string wd, .func (.func 114) #[] #[], .slice none 0 0, .func (.func 115) #[] #[], .nilFunc]) (by simp [results, Tryz.results113, go_sem, *]) rfl ?_
  exact ⟨rfl, by go_grown⟩
set_option maxRecDepth 100000 in
theorem FormA_any (wd : ByteArray) (n g m : Nat) (w : World) : Calls Tryz.prog 116 #[.string wd, .func (.func n) #[] #[], .slice (some ⟨g, 0, none⟩) m m] w fun e w' => e = .returned (.agg #[.string wd, .func (.func 114) #[] #[], .slice (some ⟨g, 0, none⟩) m m, .nilFunc, .func (.func n) #[] #[]]) ∧ Below w.heap.size w w' := by
  go_enter Tryz.func116, Tryz.ntmps116
  go_wp2
  refine bodyPost_ret (v := .agg #[.string wd, .func (.func 114) #[] #[], .slice (some ⟨g, 0, none⟩) m m, .nilFunc, .func (.func n) #[] #[]]) (by simp [results, Tryz.results116, go_sem, *]) rfl ?_
  exact ⟨rfl, by go_grown⟩
theorem lift0 {w w' : World} {g : Nat} {o : Obj} (h : w.heap[g]? = some o) (hb : Below w.heap.size w w') : w'.heap[g]? = some o := (hb.block g (blk_lt' h)).trans h
theorem lift1 {w w' : World} {g : Nat} {o p : Obj} (h : w.heap[g]? = some o) (hb : Below (w.alloc p).heap.size (w.alloc p) w') : w'.heap[g]? = some o := lift0 ((heap_alloc_old _ _ (blk_lt' h)).trans h) hb
theorem lift2 {w w' : World} {g : Nat} {o p q : Obj} (h : w.heap[g]? = some o) (hb : Below ((w.alloc p).alloc q).heap.size ((w.alloc p).alloc q) w') : w'.heap[g]? = some o := lift1 ((heap_alloc_old _ _ (blk_lt' h)).trans h) hb
theorem liftB0 {w0 w w' : World} (h : Below w0.heap.size w0 w) (hb : Below w.heap.size w w') : Below w0.heap.size w0 w' := bt h hb
theorem liftB1 {w0 w w' : World} {p : Obj} (h : Below w0.heap.size w0 w) (hb : Below (w.alloc p).heap.size (w.alloc p) w') : Below w0.heap.size w0 w' := bt (bt h (below_alloc _ _)) hb
theorem liftB2 {w0 w w' : World} {p q : Obj} (h : Below w0.heap.size w0 w) (hb : Below ((w.alloc p).alloc q).heap.size ((w.alloc p).alloc q) w') : Below w0.heap.size w0 w' := liftB1 (bt h (below_alloc _ _)) hb
theorem new1_0 {w w' : World} {p : Obj} (hb : Below (w.alloc p).heap.size (w.alloc p) w') : w'.heap[w.heap.size]? = some p := lift0 (heap_alloc_new w p) hb
theorem new2_0 {w w' : World} {p q : Obj} (hb : Below ((w.alloc p).alloc q).heap.size ((w.alloc p).alloc q) w') : w'.heap[w.heap.size]? = some p := lift1 (heap_alloc_new w p) hb
theorem new2_1 {w w' : World} {p q : Obj} (hb : Below ((w.alloc p).alloc q).heap.size ((w.alloc p).alloc q) w') : w'.heap[w.heap.size + 1]? = some q := by
  have := lift0 (heap_alloc_new (w.alloc p) q) hb
  simpa using this
attribute [irreducible] gformsA
attribute [local go_sem ↓] bd_forms st_forms
set_option maxRecDepth 100000 in
set_option maxHeartbeats 4000000 in
theorem PForms_walk (w : World) : Calls Tryz.prog 74 #[] w fun e w' => ∃ g6 g7 g15 g16 g17 g18 g19 g20 g21 g22 g23 g24 : Nat, e = .returned (.agg (gformsA (.slice (some ⟨g6, 0, none⟩) 2 2) (.slice (some ⟨g7, 0, none⟩) 3 3) (.slice (some ⟨g15, 0, none⟩) 2 2) (.slice (some ⟨g16, 0, none⟩) 4 4) (.slice (some ⟨g17, 0, none⟩) 2 2) (.slice (some ⟨g18, 0, none⟩) 2 2) (.slice (some ⟨g19, 0, none⟩) 2 2) (.slice (some ⟨g20, 0, none⟩) 3 3) (.slice (some ⟨g21, 0, none⟩) 1 1) (.slice (some ⟨g22, 0, none⟩) 1 1) (.slice (some ⟨g23, 0, none⟩) 1 1) (.slice (some ⟨g24, 0, none⟩) 1 1))) ∧ w'.heap[g6]? = some (.cells #[.int .i64 3, .int .i64 4] 3 (0, 0)) ∧ w'.heap[g7]? = some (.cells #[.int .i64 3, .int .i64 4, .int .i64 5] 3 (0, 0)) ∧ w'.heap[g15]? = some (.cells #[.int .i64 3, .int .i64 6] 3 (0, 0)) ∧ w'.heap[g16]? = some (.cells #[.int .i64 3, .int .i64 4, .int .i64 5, .int .i64 6] 3 (0, 0)) ∧ w'.heap[g17]? = some (.cells #[.int .i64 3, .int .i64 6] 3 (0, 0)) ∧ w'.heap[g18]? = some (.cells #[.int .i64 3, .int .i64 6] 3 (0, 0)) ∧ w'.heap[g19]? = some (.cells #[.int .i64 3, .int .i64 6] 3 (0, 0)) ∧ w'.heap[g20]? = some (.cells #[.int .i64 3, .int .i64 4, .int .i64 6] 3 (0, 0)) ∧ w'.heap[g21]? = some (.cells #[.int .i64 4] 3 (0, 0)) ∧ w'.heap[g22]? = some (.cells #[.int .i64 3] 3 (0, 0)) ∧ w'.heap[g23]? = some (.cells #[.int .i64 3] 3 (0, 0)) ∧ w'.heap[g24]? = some (.cells #[.int .i64 3] 3 (0, 0)) ∧ Below w.heap.size w w' := by
  have hbd := fun (g6 : Nat) (g7 : Nat) (g15 : Nat) (g16 : Nat) (g17 : Nat) (g18 : Nat) (g19 : Nat) (g20 : Nat) (g21 : Nat) (g22 : Nat) (g23 : Nat) (g24 : Nat) W => bdForms_at g6 g7 g15 g16 g17 g18 g19 g20 g21 g22 g23 g24 W
  go_enter Tryz.func74, Tryz.ntmps74
  have h0 := heap_alloc_new w (.cells Tryz.zeroCells114 114)
  have hB := below_alloc w (.cells Tryz.zeroCells114 114)
  go_wp2_with fail
  refine (FormM_any _ _).mono ?_
  rintro e w1 ⟨rfl, hb⟩
  have h0 := (hb.block _ (blk_lt' h0)).trans h0
  have hB := bt hB hb
  clear hb
  go_wp2_with fail
  refine (FormM_any _ _).mono ?_
  rintro e w2 ⟨rfl, hb⟩
  have h0 := (lift0 (hb := hb) h0)
  have hB := (liftB0 hB hb)
  clear hb
  go_wp2_with fail
  refine (FormM_any _ _).mono ?_
  rintro e w3 ⟨rfl, hb⟩
  have h0 := (lift0 (hb := hb) h0)
  have hB := (liftB0 hB hb)
  clear hb
  go_wp2_with fail
  refine (FormM_any _ _).mono ?_
  rintro e w4 ⟨rfl, hb⟩
  have h0 := (lift0 (hb := hb) h0)
  have hB := (liftB0 hB hb)
  clear hb
  go_wp2_with fail
  refine (FormM_any _ _).mono ?_
  rintro e w5 ⟨rfl, hb⟩
  have n6 : w.heap.size ≠ w4.heap.size := by have := blk_lt' h0; omega
  have n7 : w.heap.size ≠ w4.heap.size + 1 := by have := blk_lt' h0; omega
  have h0 := (lift2 (hb := hb) h0)
  have hB := (liftB2 hB hb)
  have s6 := (new2_0 hb)
  have s7 := (new2_1 hb)
  clear hb
  go_wp2_with fail
  refine (FormM_any _ _).mono ?_
  rintro e w6 ⟨rfl, hb⟩
  have h0 := (lift0 (hb := hb) h0)
  have s6 := (lift0 (hb := hb) s6)
  have s7 := (lift0 (hb := hb) s7)
  have hB := (liftB0 hB hb)
  clear hb
  go_wp2_with fail
  refine (FormM_any _ _).mono ?_
  rintro e w7 ⟨rfl, hb⟩
  have h0 := (lift0 (hb := hb) h0)
  have s6 := (lift0 (hb := hb) s6)
  have s7 := (lift0 (hb := hb) s7)
  have hB := (liftB0 hB hb)
  clear hb
  go_wp2_with fail
  refine (FormM_any _ _).mono ?_
  rintro e w8 ⟨rfl, hb⟩
  have h0 := (lift0 (hb := hb) h0)
  have s6 := (lift0 (hb := hb) s6)
  have s7 := (lift0 (hb := hb) s7)
  have hB := (liftB0 hB hb)
  clear hb
  go_wp2_with fail
  refine (FormA_any _ _ _ _ _).mono ?_
  rintro e w9 ⟨rfl, hb⟩
  have n15 : w.heap.size ≠ w8.heap.size := by have := blk_lt' h0; omega
  have h0 := (lift1 (hb := hb) h0)
  have s6 := (lift1 (hb := hb) s6)
  have s7 := (lift1 (hb := hb) s7)
  have hB := (liftB1 hB hb)
  have s15 := (new1_0 hb)
  clear hb
  go_wp2_with fail
  refine (FormA_any _ _ _ _ _).mono ?_
  rintro e w10 ⟨rfl, hb⟩
  have n16 : w.heap.size ≠ w9.heap.size := by have := blk_lt' h0; omega
  have h0 := (lift1 (hb := hb) h0)
  have s6 := (lift1 (hb := hb) s6)
  have s7 := (lift1 (hb := hb) s7)
  have s15 := (lift1 (hb := hb) s15)
  have hB := (liftB1 hB hb)
  have s16 := (new1_0 hb)
  clear hb
  go_wp2_with fail
  refine (FormA_any _ _ _ _ _).mono ?_
  rintro e w11 ⟨rfl, hb⟩
  have n17 : w.heap.size ≠ w10.heap.size := by have := blk_lt' h0; omega
  have h0 := (lift1 (hb := hb) h0)
  have s6 := (lift1 (hb := hb) s6)
  have s7 := (lift1 (hb := hb) s7)
  have s15 := (lift1 (hb := hb) s15)
  have s16 := (lift1 (hb := hb) s16)
  have hB := (liftB1 hB hb)
  have s17 := (new1_0 hb)
  clear hb
  go_wp2_with fail
  refine (FormA_any _ _ _ _ _).mono ?_
  rintro e w12 ⟨rfl, hb⟩
  have n18 : w.heap.size ≠ w11.heap.size := by have := blk_lt' h0; omega
  have h0 := (lift1 (hb := hb) h0)
  have s6 := (lift1 (hb := hb) s6)
  have s7 := (lift1 (hb := hb) s7)
  have s15 := (lift1 (hb := hb) s15)
  have s16 := (lift1 (hb := hb) s16)
  have s17 := (lift1 (hb := hb) s17)
  have hB := (liftB1 hB hb)
  have s18 := (new1_0 hb)
  clear hb
  go_wp2_with fail
  refine (FormA_any _ _ _ _ _).mono ?_
  rintro e w13 ⟨rfl, hb⟩
  have n19 : w.heap.size ≠ w12.heap.size := by have := blk_lt' h0; omega
  have h0 := (lift1 (hb := hb) h0)
  have s6 := (lift1 (hb := hb) s6)
  have s7 := (lift1 (hb := hb) s7)
  have s15 := (lift1 (hb := hb) s15)
  have s16 := (lift1 (hb := hb) s16)
  have s17 := (lift1 (hb := hb) s17)
  have s18 := (lift1 (hb := hb) s18)
  have hB := (liftB1 hB hb)
  have s19 := (new1_0 hb)
  clear hb
  go_wp2_with fail
  refine (FormA_any _ _ _ _ _).mono ?_
  rintro e w14 ⟨rfl, hb⟩
  have n20 : w.heap.size ≠ w13.heap.size := by have := blk_lt' h0; omega
  have h0 := (lift1 (hb := hb) h0)
  have s6 := (lift1 (hb := hb) s6)
  have s7 := (lift1 (hb := hb) s7)
  have s15 := (lift1 (hb := hb) s15)
  have s16 := (lift1 (hb := hb) s16)
  have s17 := (lift1 (hb := hb) s17)
  have s18 := (lift1 (hb := hb) s18)
  have s19 := (lift1 (hb := hb) s19)
  have hB := (liftB1 hB hb)
  have s20 := (new1_0 hb)
  clear hb
  go_wp2_with fail
  refine (FormA_any _ _ _ _ _).mono ?_
  rintro e w15 ⟨rfl, hb⟩
  have n21 : w.heap.size ≠ w14.heap.size := by have := blk_lt' h0; omega
  have h0 := (lift1 (hb := hb) h0)
  have s6 := (lift1 (hb := hb) s6)
  have s7 := (lift1 (hb := hb) s7)
  have s15 := (lift1 (hb := hb) s15)
  have s16 := (lift1 (hb := hb) s16)
  have s17 := (lift1 (hb := hb) s17)
  have s18 := (lift1 (hb := hb) s18)
  have s19 := (lift1 (hb := hb) s19)
  have s20 := (lift1 (hb := hb) s20)
  have hB := (liftB1 hB hb)
  have s21 := (new1_0 hb)
  clear hb
  go_wp2_with fail
  refine (FormA_any _ _ _ _ _).mono ?_
  rintro e w16 ⟨rfl, hb⟩
  have n22 : w.heap.size ≠ w15.heap.size := by have := blk_lt' h0; omega
  have h0 := (lift1 (hb := hb) h0)
  have s6 := (lift1 (hb := hb) s6)
  have s7 := (lift1 (hb := hb) s7)
  have s15 := (lift1 (hb := hb) s15)
  have s16 := (lift1 (hb := hb) s16)
  have s17 := (lift1 (hb := hb) s17)
  have s18 := (lift1 (hb := hb) s18)
  have s19 := (lift1 (hb := hb) s19)
  have s20 := (lift1 (hb := hb) s20)
  have s21 := (lift1 (hb := hb) s21)
  have hB := (liftB1 hB hb)
  have s22 := (new1_0 hb)
  clear hb
  go_wp2_with fail
  refine (FormA_any _ _ _ _ _).mono ?_
  rintro e w17 ⟨rfl, hb⟩
  have n23 : w.heap.size ≠ w16.heap.size := by have := blk_lt' h0; omega
  have h0 := (lift1 (hb := hb) h0)
  have s6 := (lift1 (hb := hb) s6)
  have s7 := (lift1 (hb := hb) s7)
  have s15 := (lift1 (hb := hb) s15)
  have s16 := (lift1 (hb := hb) s16)
  have s17 := (lift1 (hb := hb) s17)
  have s18 := (lift1 (hb := hb) s18)
  have s19 := (lift1 (hb := hb) s19)
  have s20 := (lift1 (hb := hb) s20)
  have s21 := (lift1 (hb := hb) s21)
  have s22 := (lift1 (hb := hb) s22)
  have hB := (liftB1 hB hb)
  have s23 := (new1_0 hb)
  clear hb
  go_wp2_with fail
  refine (FormA_any _ _ _ _ _).mono ?_
  rintro e w18 ⟨rfl, hb⟩
  have n24 : w.heap.size ≠ w17.heap.size := by have := blk_lt' h0; omega
  have h0 := (lift1 (hb := hb) h0)
  have s6 := (lift1 (hb := hb) s6)
  have s7 := (lift1 (hb := hb) s7)
  have s15 := (lift1 (hb := hb) s15)
  have s16 := (lift1 (hb := hb) s16)
  have s17 := (lift1 (hb := hb) s17)
  have s18 := (lift1 (hb := hb) s18)
  have s19 := (lift1 (hb := hb) s19)
  have s20 := (lift1 (hb := hb) s20)
  have s21 := (lift1 (hb := hb) s21)
  have s22 := (lift1 (hb := hb) s22)
  have s23 := (lift1 (hb := hb) s23)
  have hB := (liftB1 hB hb)
  have s24 := (new1_0 hb)
  clear hb
  have hsz : (gformsA (.slice (some ⟨w4.heap.size, 0, none⟩) 2 2) (.slice (some ⟨w4.heap.size + 1, 0, none⟩) 3 3) (.slice (some ⟨w8.heap.size, 0, none⟩) 2 2) (.slice (some ⟨w9.heap.size, 0, none⟩) 4 4) (.slice (some ⟨w10.heap.size, 0, none⟩) 2 2) (.slice (some ⟨w11.heap.size, 0, none⟩) 2 2) (.slice (some ⟨w12.heap.size, 0, none⟩) 2 2) (.slice (some ⟨w13.heap.size, 0, none⟩) 3 3) (.slice (some ⟨w14.heap.size, 0, none⟩) 1 1) (.slice (some ⟨w15.heap.size, 0, none⟩) 1 1) (.slice (some ⟨w16.heap.size, 0, none⟩) 1 1) (.slice (some ⟨w17.heap.size, 0, none⟩) 1 1)).size = 125 := size_gformsA _ _ _ _ _ _ _ _ _ _ _ _
  have hst := stForms_at h0 zeroForms hsz (gforms_one _ _ _ _ _ _ _ _ _ _ _ _)
  go_wp2
  refine post_cellrow rfl (by rfl) h0 Tryz.underlying114 rfl (by rw [hsz]; exact gformsSize) (by rfl) ?_
  exact ⟨_, _, _, _, _, _, _, _, _, _, _, _, rfl, (setRow_other _ _ _ _ n6.symm).trans s6, (setRow_other _ _ _ _ n7.symm).trans s7, (setRow_other _ _ _ _ n15.symm).trans s15, (setRow_other _ _ _ _ n16.symm).trans s16, (setRow_other _ _ _ _ n17.symm).trans s17, (setRow_other _ _ _ _ n18.symm).trans s18, (setRow_other _ _ _ _ n19.symm).trans s19, (setRow_other _ _ _ _ n20.symm).trans s20, (setRow_other _ _ _ _ n21.symm).trans s21, (setRow_other _ _ _ _ n22.symm).trans s22, (setRow_other _ _ _ _ n23.symm).trans s23, (setRow_other _ _ _ _ n24.symm).trans s24, hB.grown (grown_setRow _ _ _) hB.size (fun j e => by cases e; exact Nat.le_refl _)⟩
end Go.Proofs.YthcgkeiggnfgiaaGreatDoor
