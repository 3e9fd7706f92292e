/-
  The table of the forms of pieces.
-/
import Derived.Test.YthcgkeiggnfgiaaGreatDoorG09
namespace Go.Proofs.YthcgkeiggnfgiaaGreatDoor
open Go.RowKit
def sv (l : Str) : Value := .string ⟨l.toArray⟩
def fv (n : Nat) : Value := .func (.func n) #[] #[]
def formsZero : Array Value := (List.replicate 12 [sv [], sv [], .nilFunc, .nilFunc]).flatten.toArray
/-- The word of a kind behind the dollar sign. -/
def longN : Nat → Str
  | 2 => [107, 101, 114, 110, 101, 108]
  | 3 => [110, 117, 109, 98, 101, 114]
  | 4 => [100, 101, 118, 112, 97, 116, 104]
  | 5 => [105, 100]
  | 6 => [100, 114, 105, 118, 101, 114]
  | 7 => [97, 116, 116, 114]
  | 8 => [101, 110, 118]
  | 9 => [114, 101, 115, 117, 108, 116]
  | 10 => [112, 97, 114, 101, 110, 116]
  | 11 => [110, 97, 109, 101]
  | _ => []
/-- The letter of a kind behind the percent sign. -/
def shortN : Nat → Str
  | 2 => [107]
  | 3 => [110]
  | 4 => [112]
  | 5 => [98]
  | 6 => [100]
  | 7 => [115]
  | 8 => [69]
  | 9 => [99]
  | 10 => [80]
  | _ => []
def braV : Nat → Value
  | 7 => fv 57
  | 8 => fv 117
  | _ => .nilFunc
def valV : Nat → Value
  | 1 => fv 294
  | 2 => fv 295
  | 3 => fv 296
  | 4 => fv 298
  | 5 => fv 299
  | 6 => fv 300
  | 7 => fv 301
  | 8 => fv 303
  | 9 => fv 304
  | 10 => fv 305
  | 11 => fv 306
  | _ => .nilFunc
/-- The row of a kind. -/
def formRow (k : Nat) : List Value := [sv (longN k), sv (shortN k), braV k, valV k]
def formsA : Array Value := ((List.range 12).map formRow).flatten.toArray
theorem forms_info : (Tryz.prog.info? 313).map (fun i => (i.zero, i.size)) = some (some (.agg formsZero), 48) := by kernel_rfl
theorem form_size : (Tryz.prog.info? 312).map (·.size) = some 4 := by kernel_rfl
theorem formsA_size : formsA.size = 48 := by kernel_rfl
theorem formsA_one : formsA.all (·.oneCell') = true := by kernel_rfl
set_option maxRecDepth 100000 in
set_option maxHeartbeats 4000000 in
theorem forms_any (w : World) :
    Calls Tryz.prog 282 #[] w fun e w' => e = .returned (.agg formsA) ∧ Below w.heap.size w w' := by
  have hz := (zero_of_info forms_info).1
  have Hi := Lib.hid (zero_of_info forms_info).2
  have Hz := Lib.hid hz
  clear hz
  go_enter Tryz.func282, Tryz.ntmps282
  have Hs := Lib.hid formsA_size
  have Ho := Lib.hid formsA_one
  go_wp2_with (first | (refine wpList_alloc_known rfl 313 rfl (.agg formsZero) (Hz.out _) ?_) | (refine wpList_store_last rfl 312 _ _ rfl _ _ _ _ _ (World.size_alloc _ _) rfl rfl (by (try simp only [size_setAll]); decide) (by exact form_size) (by simp [Value.oneCell']) ?_) | (refine wpList_load_row rfl 313 _ rfl (w.heap.size + 1) rfl 313 formsA (0, 0) _ ((heap_alloc2_new w _ _).trans (congrArg (fun c => some (Obj.cells c 313 (0, 0))) (by kernel_rfl))) Tryz.underlying313 rfl (by rw [Hs.out]; exact Hi.out) ?_) | (refine wpList_store_row rfl 313 _ _ rfl w.heap.size formsA rfl rfl 313 formsZero (heap_alloc2_old w _ _) (by rw [Hs.out]; exact Hi.out) (by rw [Hs.out]; decide) Ho.out ?_))
  refine bodyPost_ret (v := .agg formsA) (results_cell_row rfl _ _ w.heap.size 313 formsA (0, 0) _ rfl (setRow_heap _ _ _ _ _ _ (heap_alloc2_old w _ _)) Tryz.underlying313 rfl (by rw [Hs.out]; exact Hi.out)) rfl ⟨rfl, ?_⟩
  exact below_setRow (((Below.refl _ _).alloc (Nat.le_refl _) _).alloc (by simp) _) (Nat.le_refl _) _
/-- A row of the table, by its place. -/
theorem forms_row (k : Nat) (hk : k < 12) (w : World) : (Instr.index 313 (.agg formsA) (.int .i64 k)).run Tryz.prog w = .ok (.agg #[.string ⟨(longN k).toArray⟩, .string ⟨(shortN k).toArray⟩, braV k, valV k]) w := by
  rcases (by omega : k = 0 ∨ k = 1 ∨ k = 2 ∨ k = 3 ∨ k = 4 ∨ k = 5 ∨ k = 6 ∨ k = 7 ∨ k = 8 ∨ k = 9 ∨ k = 10 ∨ k = 11) with h | h | h | h | h | h | h | h | h | h | h | h <;> subst h <;> kernel_rfl
attribute [irreducible] formsA
end Go.Proofs.YthcgkeiggnfgiaaGreatDoor
