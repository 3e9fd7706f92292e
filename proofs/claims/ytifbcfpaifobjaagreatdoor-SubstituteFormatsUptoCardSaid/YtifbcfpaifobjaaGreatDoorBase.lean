/-
  Small facts on strings, lists and worlds, for the contracts of this seat; no program in sight.
-/
import Derived.WalkKit
import Derived.WalkSpells
import Derived.WalkLawsBesides
import Derived.Handy
import Derived.LoopTactic
import Derived.Lib.Hide
import Derived.Deep.QuietTactic
import Derived.BigQuiet
import Derived.Deep.LoopGhost
import Derived.Deep.DeepFit
import Derived.Deep.RegionWith
import Derived.Deep.AppendLies
import Derived.StillTailTactics
import Derived.Deep.RegionHeld3
import Derived.Lib.Strings
namespace Go.Proofs.YtifbcfpaifobjaaGreatDoor
open Go.RowKit
/-- A text as the list of its bytes. -/
abbrev Str := List UInt8
abbrev L (s : ByteArray) : Str := s.data.toList
def bs (l : Str) : ByteArray := ⟨l.toArray⟩
theorem L_bs (l : Str) : L (bs l) = l := by simp [L, bs]
theorem bs_L (s : ByteArray) : bs (L s) = s := by simp [L, bs]
theorem size_bs (l : Str) : (bs l).size = l.length := by simp [bs, ByteArray.size]
theorem len_L (s : ByteArray) : (L s).length = s.size := Array.length_toList
theorem L_inj {a b : ByteArray} (h : L a = L b) : a = b := by rw [← bs_L a, ← bs_L b, h]
theorem L_get (s : ByteArray) (k : Nat) (h : k < s.size) : (L s)[k]'(by rw [len_L]; exact h) = s[k] := rfl
theorem eq_bs {r : ByteArray} {l : Str} (h : L r = l) : r = bs l := by rw [← h, bs_L]
theorem take_snoc (s : ByteArray) (k : Nat) (h : k < s.size) : (L s).take (k + 1) = (L s).take k ++ [s[k]] := by
  rw [List.take_succ_eq_append_getElem (by rw [len_L]; exact h)]; rfl
theorem drop_cons (s : ByteArray) (k : Nat) (h : k < s.size) : (L s).drop k = s[k] :: (L s).drop (k + 1) := by
  rw [List.drop_eq_getElem_cons (by rw [len_L]; exact h)]; rfl
theorem take_all (s : ByteArray) (k : Nat) (h : ¬ k < s.size) : (L s).take k = L s := List.take_of_length_le (by rw [len_L]; omega)
theorem tl (s : ByteArray) : s.toList = L s := Lib.toList_data s
theorem L_nil {s : ByteArray} (h : s.toList = []) : L s = [] := by rw [← tl]; exact h
theorem L_ne {s : ByteArray} (h : ¬ s.toList = []) : (L s).isEmpty = false := by rw [← tl]; cases hs : s.toList with | nil => exact absurd hs h | cons a b => rfl
theorem L_extract (s : ByteArray) (a b : Nat) : L (s.extract a b) = ((L s).take b).drop a := by
  simp only [L, ByteArray.data_extract, Array.toList_extract, List.extract_eq_take_drop]
  rw [List.drop_take]
theorem L_append (a b : ByteArray) : L (a ++ b) = L a ++ L b := by simp [L, ByteArray.data_append]
theorem size_extract (s : ByteArray) (a b : Nat) : (s.extract a b).size = min b s.size - a := by rw [← len_L, L_extract, List.length_drop, List.length_take, len_L]
/-- Two steps, the second told from where the first has ended. -/
theorem bt {w a b : World} (h : Below w.heap.size w a) (k : Below a.heap.size a b) : Below w.heap.size w b := h.trans (k.mono h.size)
theorem below_drewN {B : Nat} {a w : World} (h : Below B a w) (n : Nat) : Below B a (w.drewN n) := ⟨h.os, h.tape, h.output, h.size, h.block⟩
theorem ret_bool {a b : Bool} (h : a = b) : Ending.returned (.bool a) = .returned (.bool b) := by rw [h]
theorem ret_int {k : IntKind} {a b : Int} (h : a = b) : Ending.returned (.int k a) = .returned (.int k b) := by rw [h]
theorem ret_str {a b : ByteArray} (h : a = b) : Ending.returned (.string a) = .returned (.string b) := by rw [h]
end Go.Proofs.YtifbcfpaifobjaaGreatDoor
