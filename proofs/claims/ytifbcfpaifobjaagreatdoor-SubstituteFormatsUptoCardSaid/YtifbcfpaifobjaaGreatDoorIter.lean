/-
  The words of a text, as an iterator hands them out: its state lies in a box of its own.
-/
import Derived.Test.YtifbcfpaifobjaaGreatDoorVals
import Derived.RangeFuncNested
import Derived.RangeFuncBound
import Derived.RangeFuncCalls
import Derived.RangeFuncLeaves
import Derived.Shelf.Abstract
import Derived.Shelf.RegionOpen
import Derived.OwnWalkIn
import Derived.TacticsInMore
import Derived.LoopNIn
import Derived.LoopIn
namespace Go.Proofs.YtifbcfpaifobjaaGreatDoor
open Go.RowKit Go.Shelf
attribute [local go_sem] Oper.semAt_some
def trim (s : Str) : Str := Lib.trimLeftB s 32
/-- The words of a text that does not begin with a space. -/
def wordsT : Nat → Str → List Str
  | 0, _ => []
  | n + 1, t => if t.isEmpty then [] else (Lib.cut t [32]).1 :: wordsT n (trim (Lib.cut t [32]).2.1)
def wordsS (s : Str) : List Str := wordsT s.length (trim s)
theorem trim_len (s : Str) : (trim s).length ≤ s.length := (List.dropWhile_sublist _).length_le
theorem cut_short (t : Str) (h : t ≠ []) : (Lib.cut t [32]).2.1.length < t.length := by
  unfold Lib.cut
  have : 0 < t.length := List.length_pos_iff.2 h
  split
  · dsimp only; rw [List.length_drop]; simp; omega
  · exact this
theorem wordsT_fuel : ∀ (n m : Nat) (t : Str), t.length ≤ n → t.length ≤ m → wordsT n t = wordsT m t := by
  intro n
  induction n with
  | zero =>
    intro m t h1 h2
    have : t = [] := List.length_eq_zero_iff.1 (by omega)
    subst this
    cases m <;> rfl
  | succ n ih =>
    intro m t h1 h2
    by_cases h : t = []
    · subst h; cases m <;> rfl
    · cases m with
      | zero => exact absurd (List.length_eq_zero_iff.1 (by omega)) h
      | succ m =>
        rw [wordsT, wordsT]
        have h3 := cut_short t h
        have h4 := trim_len (Lib.cut t [32]).2.1
        rw [ih m _ (by omega) (by omega)]
theorem wordsT_cons (n : Nat) (t : Str) (h : t ≠ []) (hn : t.length ≤ n) : wordsT n t = (Lib.cut t [32]).1 :: wordsT n (trim (Lib.cut t [32]).2.1) := by
  cases n with
  | zero => exact absurd (List.length_eq_zero_iff.1 (by omega)) h
  | succ n =>
    have h3 := cut_short t h
    have h4 := trim_len (Lib.cut t [32]).2.1
    rw [wordsT, if_neg (by simpa using h), wordsT_fuel n (n + 1) _ (by omega) (by omega)]
/-- How long the text in a box is. -/
def boxLen (w : World) (b : Nat) : Nat := match w.cell? ⟨b, 0, none⟩ with
  | some (.string s) => s.size
  | _ => 0
theorem boxLen_of {w : World} {b : Nat} {s : ByteArray} (h : w.cell? ⟨b, 0, none⟩ = some (.string s)) : boxLen w b = s.size := by
  unfold boxLen; rw [h]
theorem Trim_any (s : ByteArray) (w : World) : Calls Tryz.prog 109 #[.string s, .string ⟨#[32]⟩] w fun e w' => e = .returned (.string (bs (trim (L s)))) ∧ w = w' := (Tryz.strings_TrimLeft_one s 32 (by decide) w).mono fun e w' h => ⟨h.1, h.2.symm⟩
set_option maxRecDepth 100000 in
set_option maxHeartbeats 2000000 in
theorem words1_in (n l Bn : Nat) (s : ByteArray) (hs : s.size ≤ 4294967) (J : List ByteArray → World → Prop)
    (hJn : ∀ pre A B, J pre A → A.grownBy B none → J pre B) (hJb : ∀ pre A v, J pre A → J pre (A.setCell ⟨Bn, 0, none⟩ v)) (hJE : ∀ pre A, J pre A → Env A ∧ Bn < A.heap.size)
    (hY : ∀ pre x W1, J pre W1 → pre.length < s.size → x.size ≤ s.size → YieldAt Fence.wide (n - 1) Tryz.prog l #[.string x] W1 fun e W' => e = .returned (.bool true) ∧ J (pre ++ [x]) W' ∧ W'.heap[Bn]? = W1.heap[Bn]?)
    (W : World) (hB : Boxed W Bn 9 (.string s)) (h0 : J [] W) :
    CallsIn Fence.wide n Tryz.prog 128 #[.func (.yield l) #[] #[], .pointer (some ⟨Bn, 0, none⟩)] W fun e W' => (∃ v, e = .returned v) ∧ J ((wordsS (L s)).map bs) W' := by
  refine callsIn_of_wp Tryz.func128 rfl trivial ?_ rfl
  have c0 := hB.cell
  have f0 := hB.frozen
  have HB := Lib.hid hB
  have H0 := Lib.hid h0
  clear hB h0
  simp only [Tryz.ntmps128, List.size_toArray, List.length_cons, List.length_nil, Nat.reduceAdd, Nat.reduceSub, Array.replicate_succ, Array.replicate_zero, List.push_toArray, List.append_toArray, List.nil_append, List.cons_append]
  gi_wp2_with (refine ⟨trivial, (fun h => (by cases h)), ?_⟩; gi_at_call 109; refine (callsIn_wide.2 (Trim_any _ _)).mono ?_; rintro e w2 ⟨rfl, rfl⟩)
  have hB1 : Boxed (W.setCell ⟨Bn, 0, none⟩ (.string (bs (trim (L s))))) Bn 9 (.string (bs (trim (L s)))) := HB.out.set _
  have hJ1 := hJb [] W (.string (bs (trim (L s)))) H0.out
  have HJ1 := Lib.hid hJ1
  have HB1 := Lib.hid hB1
  have ht := trim_len (L s)
  rw [len_L] at ht
  have HJn := Lib.hid hJn
  have HJb := Lib.hid hJb
  have HJE := Lib.hid hJE
  have HY := Lib.hid hY
  clear hB1 hJ1 hJn hJb hJE hY c0 f0
  gi_loopw [4] (fun u wr => ∃ (pre : List Str) (t : Str), Hid (wordsS (L s) = pre ++ wordsT s.size t) ∧ pre.length + t.length ≤ s.size ∧ Hid (J (pre.map bs) wr) ∧ Hid (Boxed wr Bn 9 (.string (bs t)))) (fun u wr => boxLen wr Bn)
  case atStart => exact ⟨[], trim (L s), (by show wordsS (L s) = _; rw [wordsS, len_L]; rfl), by simpa using ht, HJ1.out, HB1.out⟩
  case round =>
    obtain ⟨pre, t, hw, hl, hJ, hBx⟩ := hrel
    have c1 := hBx.out.cell
    have f1 := hBx.out.frozen
    have hlt := hBx.out.lt
    by_cases h0 : t = []
    · subst h0
      have he : (bs []).toList.isEmpty = true := by rw [tl, L_bs]; rfl
      gi_wp2
      go_end0
      refine ⟨⟨_, rfl⟩, ?_⟩
      rw [hw.out]
      have : wordsT s.size [] = [] := by cases s.size <;> rfl
      rw [this, List.append_nil]
      exact hJ.out
    · have he : (bs t).toList.isEmpty = false := by rw [tl, L_bs]; simpa using h0
      have hz : (bs t).size < 4294967281 := by rw [size_bs]; omega
      have hpos : 0 < t.length := List.length_pos_iff.2 h0
      have HC := Cut_any (bs t) ⟨#[32]⟩ wr (HJE.out _ _ hJ.out).1 hz
      rw [L_bs] at HC
      change Calls _ _ _ _ (fun e w' => e = .returned (.tuple #[.string (bs (Lib.cut t [32]).1), .string (bs (Lib.cut t [32]).2.1), .bool (Lib.cut t [32]).2.2]) ∧ ∃ n, wr.drewN n = w') at HC
      have hc1 := (cut_len t [32]).1
      have hc2 := cut_short t h0
      have hwc : wordsS (L s) = (pre ++ [(Lib.cut t [32]).1]) ++ wordsT s.size (trim (Lib.cut t [32]).2.1) := by
        rw [hw.out, wordsT_cons _ t h0 (by omega), List.append_assoc]; rfl
      have hm := boxLen_of c1
      rw [size_bs] at hm
      generalize (Lib.cut t [32]).1 = a1 at *
      generalize (Lib.cut t [32]).2.1 = a2 at *
      generalize (Lib.cut t [32]).2.2 = a3 at *
      have HW := Lib.hid hwc
      have HM := Lib.hid hm
      clear hwc hm h0
      have e1 : (bs a1).size ≤ s.size := by rw [size_bs]; omega
      gi_wp2_with (first | (refine ⟨trivial, (fun h => (by cases h)), ?_⟩; gi_at_call 110; refine (callsIn_wide.2 HC).mono ?_; rintro e w2 ⟨rfl, m, rfl⟩; have hyy := HY.out (pre.map bs) (bs a1) (wr.drewN m) (HJn.out _ _ _ hJ.out (grown_drewN _ _ _)) (by simp; omega) e1; obtain ⟨fn, tmps, assign, body, hy, hR⟩ := hyy))
      refine ⟨(fun h => (by cases h)), hR.mono ?_⟩
      rintro e W3 ⟨rfl, hJ3, hb3⟩
      have hB3 : Boxed W3 Bn 9 (.string (bs t)) := hb3.trans hBx.out
      have hB4 := hB3.set (.string (bs a2))
      have c3 := hB3.cell
      have f3 := hB3.frozen
      have hJ4 := HJb.out _ _ (.string (bs a2)) hJ3
      have hlt3 := hB3.lt
      have HB4 := Lib.hid hB4
      have HJ4 := Lib.hid hJ4
      clear hB3 hB4 hJ4 hJ3 hb3 hy hR
      gi_wp2_with (first | (refine ⟨trivial, (fun h => (by cases h)), ?_⟩; gi_at_call 109; refine (callsIn_wide.2 (Trim_any _ _)).mono ?_; rintro e w2 ⟨rfl, rfl⟩))
      have hB5 := HB4.out.set (.string (bs (trim (L (bs a2)))))
      have hJ5 := HJb.out _ _ (.string (bs (trim (L (bs a2))))) HJ4.out
      have ht2 := trim_len a2
      go_roundw
      case rel =>
        refine ⟨pre ++ [a1], trim a2, HW.out, by simp; omega, ?_, ?_⟩
        · rw [L_bs] at hJ5 ⊢
          show J _ _
          rw [List.map_append]
          exact hJ5
        · rw [L_bs] at hB5 ⊢
          exact hB5
      case measure =>
        rw [boxLen_of hB5.cell, HM.out, size_bs, L_bs]
        omega
end Go.Proofs.YtifbcfpaifobjaaGreatDoor
