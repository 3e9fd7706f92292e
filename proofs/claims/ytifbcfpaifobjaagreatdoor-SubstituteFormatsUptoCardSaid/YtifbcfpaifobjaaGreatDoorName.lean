/-
  Contracts of package name: Text; the sets of bytes.
-/
import Derived.Test.YtifbcfpaifobjaaGreatDoorProg
import Derived.Test.YtifbcfpaifobjaaGreatDoorBase
import Derived.Deep.WholeRow
namespace Go.Proofs.YtifbcfpaifobjaaGreatDoor
open Go.RowKit
def pr (c : UInt8) : Bool := decide (32 ≤ (c.toNat : Int)) && decide ((c.toNat : Int) ≤ 126)
def printS (l : Str) : Bool := l.all pr
def textS (l : Str) : Bool := printS l && decide (l.length ≤ 256)
theorem printS_snoc (l : Str) (c : UInt8) : printS (l ++ [c]) = (printS l && pr c) := by simp [printS]
theorem printS_no {l : Str} {k : Nat} (s : ByteArray) (hk : k < s.size) (hl : L s = l) (h : pr s[k] = false) : printS l = false := by
  subst hl
  rw [printS, List.all_eq_false]
  exact ⟨s[k], by rw [← L_get s k hk]; exact List.getElem_mem _, by simp [h]⟩
set_option maxHeartbeats 400000 in
theorem Text_any (s : ByteArray) (w : World) (hs : s.size ≤ 9223372036854775807) :
    Calls Tryz.prog 31 #[.string s] w fun e w' => e = .returned (.bool (textS (L s))) ∧ w = w' := by
  go_enter Tryz.func31, Tryz.ntmps31
  go_wp2
  go_loop [6] (fun i => ∃ k : Nat, k ≤ s.size ∧ i = .int .i64 k ∧ Hid (printS ((L s).take k) = true)) (fun i => s.size - (intOf i).toNat)
  case atStart => exact ⟨0, Nat.zero_le _, rfl, rfl⟩
  case round =>
    obtain ⟨k, hk, rfl, hp⟩ := hrel
    go_wp2
    case roundEnd =>
      go_round
      case rel => exact ⟨k + 1, by omega, by go_num, by
        show printS _ = true
        rw [take_snoc s k (by omega), printS_snoc, hp.out]
        simp [pr]; omega⟩
      case measure => simp [intOf]; omega
    · go_ret
      exact ⟨ret_bool (by rw [textS, printS_no s (by assumption) rfl (by simp [pr]; omega)]; rfl), rfl⟩
    · go_ret
      exact ⟨ret_bool (by rw [textS, printS_no s (by assumption) rfl (by simp [pr]; omega)]; rfl), rfl⟩
    · go_ret
      refine ⟨ret_bool ?_, rfl⟩
      have h := hp.out
      rw [take_all s k (by assumption)] at h
      rw [textS, h, len_L]
      simp
      omega
def setA (f : Nat → Bool) : Array Value := Array.ofFn (n := 256) fun i => .bool (f i)
def addS (f : Nat → Bool) (l : Str) : Nat → Bool := fun c => f c || l.any fun b => b.toNat == c
def noneS : Nat → Bool := fun _ => false
theorem set_info : (Tryz.prog.info? 128).map (fun i => (i.zero, i.size)) = some (some (.agg (setA noneS)), 256) := by kernel_rfl
theorem size_setA (f : Nat → Bool) : (setA f).size = 256 := by simp [setA]
theorem setA_get (f : Nat → Bool) (c : Nat) (h : c < 256) : (setA f)[c]? = some (.bool (f c)) := by
  simp [setA, h]
theorem below_setRow {B : Nat} {a w : World} (h : Below B a w) {g : Nat} (hg : B ≤ g) (cs : Array Value) : Below B a (w.setRow g cs) :=
  h.trans ⟨rfl, rfl, rfl, by simp, fun k hk => setRow_other w g k cs (by omega)⟩
theorem setA_set (f : Nat → Bool) (c : Nat) (h : c < 256) : (setA f).setIfInBounds c (.bool true) = setA (fun d => f d || d == c) := by
  apply Array.ext_getElem?
  intro i
  rw [Array.getElem?_setIfInBounds]
  by_cases e : c = i
  · subst e
    rw [if_pos rfl, if_pos (by rw [size_setA]; exact h), setA_get _ _ h]
    simp
  · have e' : (i == c) = false := by rw [beq_eq_false_iff_ne]; exact fun h => e h.symm
    rw [if_neg e]
    by_cases hi : i < 256
    · rw [setA_get _ _ hi, setA_get _ _ hi, e', Bool.or_false]
    · rw [Array.getElem?_eq_none (by rw [size_setA]; omega), Array.getElem?_eq_none (by rw [size_setA]; omega)]
theorem setA_one (f : Nat → Bool) : (setA f).all (·.oneCell') = true := by
  rw [Array.all_eq_true]
  intro i hi
  have h := setA_get f i (by rw [size_setA] at hi; exact hi)
  rw [Array.getElem?_eq_getElem hi] at h
  have h' := Option.some.inj h
  rw [h']
  simp [Value.oneCell']
theorem addS_nil (f : Nat → Bool) : addS f [] = f := by funext c; simp [addS]
attribute [irreducible] setA noneS
theorem addS_snoc (f : Nat → Bool) (l : Str) (b : UInt8) : (fun d => addS f l d || d == b.toNat) = addS f (l ++ [b]) := by
  funext d
  simp only [addS, List.any_append, List.any_cons, List.any_nil, Bool.or_false, Bool.or_assoc]
  rw [show (d == b.toNat) = (b.toNat == d) from by rw [Bool.eq_iff_iff]; simp; exact eq_comm]
set_option maxRecDepth 100000 in
set_option maxHeartbeats 400000 in
theorem plus_any (f : Nat → Bool) (s : ByteArray) (w : World) (hs : s.size ≤ 9223372036854775807) :
    Calls Tryz.prog 102 #[.agg (setA f), .string s] w fun e w' => e = .returned (.agg (setA (addS f (L s)))) ∧ Below w.heap.size w w' := by
  have hz := (zero_of_info set_info).1
  have hi := (zero_of_info set_info).2
  go_enter Tryz.func102, Tryz.ntmps102
  go_wp2
  clear hz
  have Hi := Lib.hid hi
  clear hi
  go_loopg [8] (s.size) (fun g i wr => ∃ k : Nat, k + g = s.size ∧ i = .int .i64 k ∧ wr = (w.alloc (.cells (setA (addS f ((L s).take k))) 128)).alloc (.cells (setA noneS) 128))
  case atStart => exact ⟨0, by omega, rfl, by simp [addS_nil]⟩
  case round =>
    obtain ⟨k, hk, rfl, rfl⟩ := hrel
    by_cases hlt : k < s.size
    · have hb : (s[k].toNat : Int) < 256 := by have := s[k].toNat_lt; omega
      have hg := setA_get (addS f ((L s).take k)) s[k].toNat (by omega)
      have HG := Lib.hid (setA_set (addS f ((L s).take k)) s[k].toNat (by omega))
      have Hk := Lib.hid hk
      clear hk
      go_wp2
      have hk := Hk.out
      go_roundg (gk - 1)
      case measure => omega
      case rel =>
        refine ⟨k + 1, by omega, by go_num, ?_⟩
        rw [HG.out, addS_snoc, take_snoc s k hlt]
    · have hall := take_all s k hlt
      rw [hall]
      clear hall
      have h1 := size_setA (addS f (L s))
      have h2 := setA_one (addS f (L s))
      have h0 := size_setA noneS
      have HS : Hid (∃ S, setA (addS f (L s)) = S) := ⟨_, rfl⟩
      obtain ⟨S, hS⟩ := HS.out
      rw [hS] at h1 h2 ⊢
      have HS := Lib.hid hS
      clear hS
      generalize setA noneS = S0 at *
      have hl1 := heap_alloc2_old w (.cells S 128) (.cells S0 128)
      have hl2 := heap_alloc2_new w (.cells S 128) (.cells S0 128)
      have H1 := Lib.hid hl1
      have H2 := Lib.hid hl2
      have H3 := Lib.hid h1
      have H4 := Lib.hid h2
      have H5 := Lib.hid h0
      clear hl1 hl2 h1 h2 h0
      go_wp2_with (first | (refine wpList_load_row rfl 128 _ rfl _ rfl _ _ _ _ H1.out Tryz.underlying128 rfl (by rw [H3.out]; exact Hi.out) ?_) | (refine wpList_store_row rfl 128 _ _ rfl _ _ rfl rfl _ _ H2.out (by rw [H3.out]; exact Hi.out) (by rw [H3.out, H5.out]) H4.out ?_))
      refine bodyPost_ret (v := .agg S) (results_cell_row rfl _ _ (w.heap.size + 1) 128 S (0, 0) _ rfl (setRow_heap _ _ _ _ _ _ H2.out) Tryz.underlying128 rfl (by rw [H3.out]; exact Hi.out)) rfl ⟨by rw [HS.out], ?_⟩
      exact below_setRow (((Below.refl _ _).alloc (Nat.le_refl _) _).alloc (by simp) _) (by omega) _
theorem has_cell (f : Nat → Bool) (w : World) (c : Nat) (h : c < 256) : (w.alloc (.cells (setA f) 128)).cell? ⟨w.heap.size, c, none⟩ = some (.bool (f c)) := by
  rw [cell_of_row _ _ c (setA f) _ (0, 0) (heap_alloc_new w _), setA_get f c h]
def hasS (f : Nat → Bool) (l : Str) : Bool := l.all fun b => f b.toNat
theorem hasS_snoc (f : Nat → Bool) (l : Str) (c : UInt8) : hasS f (l ++ [c]) = (hasS f l && f c.toNat) := by simp [hasS]
theorem hasS_no {f : Nat → Bool} {l : Str} {k : Nat} (s : ByteArray) (hk : k < s.size) (hl : L s = l) (h : f s[k].toNat = false) : hasS f l = false := by
  subst hl
  rw [hasS, List.all_eq_false]
  exact ⟨s[k], by rw [← L_get s k hk]; exact List.getElem_mem _, by simp [h]⟩
set_option maxRecDepth 100000 in
set_option maxHeartbeats 400000 in
theorem has_any (f : Nat → Bool) (s : ByteArray) (w : World) (hs : s.size ≤ 9223372036854775807) :
    Calls Tryz.prog 103 #[.agg (setA f), .string s] w fun e w' => e = .returned (.bool (hasS f (L s))) ∧ Below w.heap.size w w' := by
  go_enter Tryz.func103, Tryz.ntmps103
  go_wp2
  go_loopg [8] (s.size) (fun g i wr => ∃ k : Nat, k + g = s.size ∧ i = .int .i64 k ∧ w.alloc (.cells (setA f) 128) = wr ∧ Hid (hasS f ((L s).take k) = true))
  case atStart => exact ⟨0, by omega, rfl, rfl, rfl⟩
  case round =>
    obtain ⟨k, hk, rfl, rfl, hp⟩ := hrel
    have hkk : k ≤ s.size := by omega
    have Hk := Lib.hid hk
    clear hk
    by_cases hlt : k < s.size
    · have hb : (s[k].toNat : Int) < 256 := by have := s[k].toNat_lt; omega
      have hc := has_cell f w s[k].toNat (by omega)
      cases hf : f s[k].toNat
      · rw [hf] at hc
        have HF := Lib.hid hf
        clear hf
        go_wp2
        go_ret
        exact ⟨ret_bool (by rw [hasS_no s hlt rfl HF.out]), (Below.refl _ _).alloc (Nat.le_refl _) _⟩
      · rw [hf] at hc
        have HF := Lib.hid hf
        clear hf
        go_wp2
        have hk := Hk.out
        go_roundg (gk - 1)
        case measure => omega
        case rel => exact ⟨k + 1, by omega, by go_num, rfl, by show hasS _ _ = true; rw [take_snoc s k hlt, hasS_snoc, hp.out, HF.out]; rfl⟩
    · go_wp2
      go_ret
      have h := hp.out
      rw [take_all s k hlt] at h
      exact ⟨ret_bool (by rw [h]), (Below.refl _ _).alloc (Nat.le_refl _) _⟩
end Go.Proofs.YtifbcfpaifobjaaGreatDoor
