/-
  Plain facts for the reference's Parse: the letters, the run of a word, one step.
-/
import Derived.Test.YtifbcfpaifobjaaGreatDoorRefA
namespace Go.Proofs.YtifbcfpaifobjaaGreatDoor
open Go.RowKit
def rletters : Str := [32, 32, 107, 110, 112, 98, 100, 115, 69, 99, 80, 32]
theorem letters_all : ((List.range 256).all fun n => if n = 32 then kindOf false [UInt8.ofNat n] == 0 else (kindOf false [UInt8.ofNat n] : Int) == max 0 (Lib.indexByte rletters (UInt8.ofNat n))) = true := by kernel_rfl
theorem letters_at (b : UInt8) : (b = 32 → kindOf false [b] = 0) ∧ (b ≠ 32 → (kindOf false [b] : Int) = max 0 (Lib.indexByte rletters b)) := by
  have h := List.all_eq_true.1 letters_all b.toNat (List.mem_range.2 (UInt8.toNat_lt b))
  have e : UInt8.ofNat b.toNat = b := by simp
  rw [e] at h
  by_cases hb : b.toNat = 32
  · rw [if_pos hb] at h
    have h1 : b = 32 := UInt8.toNat_inj.1 hb
    exact ⟨fun _ => by simpa using h, fun h2 => absurd h1 h2⟩
  · rw [if_neg hb] at h
    exact ⟨fun h1 => absurd (by rw [h1]; rfl) hb, fun _ => by simpa using h⟩
theorem kind_none : kindOf false [] = 0 ∧ kindOf true [] = 0 := by decide
theorem low_iff (b : UInt8) : lowL.contains b = (decide (97 ≤ (b.toNat : Int)) && decide ((b.toNat : Int) ≤ 122)) := by
  have h : ((List.range 256).all fun n => lowL.contains (UInt8.ofNat n) == (decide (97 ≤ ((UInt8.ofNat n).toNat : Int)) && decide (((UInt8.ofNat n).toNat : Int) ≤ 122))) = true := by kernel_rfl
  have h := List.all_eq_true.1 h b.toNat (List.mem_range.2 (UInt8.toNat_lt b))
  have e : UInt8.ofNat b.toNat = b := by simp
  rw [e] at h
  simpa using h
theorem wordLen_at (r : Str) (k : Nat) (hk : k ≤ r.length) (h1 : ∀ (j : Nat) b, j < k → r[j]? = some b → lowL.contains b = true) (h2 : ∀ b, r[k]? = some b → lowL.contains b = false) : wordLen true r = k := by
  unfold wordLen
  rw [if_pos rfl, Lib.trimLeftS_drop r lowL k hk h1 h2, List.length_drop]
  omega
/-- One step of the reading. -/
theorem parseF_step (n : Nat) (c : UInt8) (r : Str) (acc : List Pc) (hn : r.length + 1 ≤ n) : ∃ n', r.length ≤ n' ∧
    parseF n (c :: r) acc = if sign c = true then (match pieceS c r with
      | some (p, r') => parseF n' r' (addP acc p)
      | none => none) else parseF n' r (addP acc (txt (bs [c]))) := by
  cases n with
  | zero => omega
  | succ n => exact ⟨n, by omega, rfl⟩
theorem cons_of {t : ByteArray} (h : t ≠ ⟨#[]⟩) : ∃ c r, L t = c :: r := by
  cases hl : L t with
  | nil => exact absurd (L_inj hl) h
  | cons c r => exact ⟨c, r, rfl⟩
theorem ext01 {t : ByteArray} {c : UInt8} {r : Str} (h : L t = c :: r) : t.extract 0 1 = bs [c] := L_inj (by rw [L_extract, h, L_bs]; rfl)
theorem ext1 {t : ByteArray} {c : UInt8} {r : Str} (h : L t = c :: r) : t.extract 1 t.size = bs r := L_inj (by rw [L_extract, List.take_of_length_le (by rw [len_L]; exact Nat.le_refl _), h, L_bs]; rfl)
theorem ext2 {t : ByteArray} {c d : UInt8} {r : Str} (h : L t = c :: d :: r) : t.extract 2 t.size = bs r := L_inj (by rw [L_extract, List.take_of_length_le (by rw [len_L]; exact Nat.le_refl _), h, L_bs]; rfl)
theorem at0 {t : ByteArray} {c : UInt8} {r : Str} (h : L t = c :: r) (h0 : 0 < t.size) : t[0] = c := by
  have : (L t)[0]? = some c := by rw [h]; rfl
  rw [List.getElem?_eq_getElem (by rw [len_L]; exact h0)] at this
  injection this
theorem at1 {t : ByteArray} {c d : UInt8} {r : Str} (h : L t = c :: d :: r) (h0 : 1 < t.size) : t[1] = d := by
  have : (L t)[1]? = some d := by rw [h]; rfl
  rw [List.getElem?_eq_getElem (by rw [len_L]; exact h0)] at this
  injection this
theorem toNat_eq (a b : UInt8) : ((a.toNat : Int) == (b.toNat : Int)) = (a == b) := by
  rw [Bool.eq_iff_iff]
  simp
  constructor
  · intro h; exact UInt8.toNat_inj.1 (by omega)
  · intro h; rw [h]
theorem kOf_ne1' (long : Bool) (w : Str) : kindOf long w ≠ 1 := kindOf_ne1 long w
theorem place_ne1 {k : Nat} {r r' : Str} {p : Pc} (h : placeS k r = some (p, r')) (hk : k ≠ 1) : p.kind ≠ 1 := by
  unfold placeS at h
  split at h
  · cases h
  split at h
  · cases hb : bracesS r with
    | none => rw [hb] at h; cases h
    | some ab =>
      rw [hb] at h
      simp only [Option.bind_some] at h
      split at h
      · injection h with h; injection h with h1 h2; subst h1; show (7 : Int) ≠ 1; decide
      · cases h
  split at h
  · cases hb : bracesS r with
    | none => rw [hb] at h; cases h
    | some ab =>
      rw [hb] at h
      simp only [Option.bind_some] at h
      split at h
      · injection h with h; injection h with h1 h2; subst h1; show (8 : Int) ≠ 1; decide
      · cases h
  split at h
  · cases hb : bracesS r with
    | none => rw [hb] at h; cases h
    | some ab =>
      rw [hb] at h
      simp only [Option.bind_some] at h
      cases hc : countS ab.1 with
      | none => rw [hc] at h; cases h
      | some nm =>
        rw [hc] at h
        simp only [Option.map_some] at h
        injection h with h; injection h with h1 h2; subst h1; show (9 : Int) ≠ 1; decide
  · injection h with h; injection h with h1 h2; subst h1
    show (k : Int) ≠ 1
    omega
end Go.Proofs.YtifbcfpaifobjaaGreatDoor
