/-
  A text in which the signs are doubled is read as the text; plain functions.
-/
import Derived.Test.YtifbcfpaifobjaaGreatDoorExpS
import Derived.Test.YtifbcfpaifobjaaGreatDoorPlainA
namespace Go.Proofs.YtifbcfpaifobjaaGreatDoor
open Go.RowKit
theorem sign_dbl (b : UInt8) : sign b = decide (b = 36 ∨ b = 37) := by
  unfold sign
  rw [Bool.eq_iff_iff]
  simp
theorem parseF_dbl : ∀ (s : Str) (n : Nat) (acc : List Pc), (dbl s).length ≤ n → parseF n (dbl s) acc = some (s.foldl (fun a c => addP a (txt (bs [c]))) acc) := by
  intro s
  induction s with
  | nil => intro n acc _; cases n <;> rfl
  | cons b s ih =>
    intro n acc hn
    have e : dbl (b :: s) = (if b = 36 ∨ b = 37 then [b, b] else [b]) ++ dbl s := by unfold dbl; rw [List.flatMap_cons]
    rw [e] at hn ⊢
    by_cases h : b = 36 ∨ b = 37
    · have hs : sign b = true := by rw [sign_dbl]; simpa using h
      rw [if_pos h] at hn ⊢
      simp only [List.cons_append, List.nil_append, List.length_cons] at hn ⊢
      cases n with
      | zero => omega
      | succ n =>
        rw [parseF, hs]
        have hp : pieceS b (b :: dbl s) = some (txt (bs [b]), dbl s) := by
          rw [pieceS, if_pos (show (b :: dbl s).head? = some b from rfl)]; rfl
        simp only [if_true, hp]
        rw [ih n _ (by omega)]; rfl
    · have hs : sign b = false := by rw [sign_dbl]; simpa using h
      rw [if_neg h] at hn ⊢
      simp only [List.cons_append, List.nil_append, List.length_cons] at hn ⊢
      cases n with
      | zero => omega
      | succ n =>
        rw [parseF, hs]
        simp only [Bool.false_eq_true, if_false]
        rw [ih n _ (by omega)]; rfl
theorem fold_txt : ∀ (s a : Str) (acc : List Pc), s.foldl (fun l c => addP l (txt (bs [c]))) (addP acc (txt (bs a))) = addP acc (txt (bs (a ++ s))) := by
  intro s
  induction s with
  | nil => intro a acc; rw [List.append_nil]; rfl
  | cons b s ih =>
    intro a acc
    rw [List.foldl_cons, addP_txt, ih, List.append_assoc]; rfl
theorem parseS_dbl (s : Str) : parseS (dbl s) = some (if s = [] then [] else [txt (bs s)]) := by
  rw [parseS, parseF_dbl s _ _ (Nat.le_refl _)]
  cases s with
  | nil => rfl
  | cons b s =>
    rw [List.foldl_cons, fold_txt]
    rw [if_neg (by simp)]
    rfl
theorem printS_dbl (s : Str) : printS (dbl s) = printS s := by
  unfold printS dbl
  rw [List.all_flatMap]
  congr 1
  funext b
  split <;> simp
theorem parseR_dbl (s : Str) (h : printS s = true) (hl : (dbl s).length ≤ 256) : parseR (dbl s) = ((if s = [] then [] else [txt (bs s)]), 0) := by
  have ht : textS (dbl s) = true := by
    unfold textS
    rw [printS_dbl, h]; simpa using hl
  rw [parseR, if_neg (by omega), if_pos ht, parseS_dbl]
theorem expandS_dbl (s : Str) (v : Vs) (h : printS s = true) (hl : (dbl s).length ≤ 256) : expandS (dbl s) v = (bs s, 0) := by
  have hs := dbl_len s
  rw [expandS, parseR_dbl s h hl]
  simp only [if_true]
  congr 1
  cases s with
  | nil => rfl
  | cons b s =>
    rw [if_neg (by simp)]
    have : outS [txt (bs (b :: s))] v = bs (b :: s) := by
      unfold outS
      simp only [List.foldl_cons, List.foldl_nil]
      refine L_inj ?_
      rw [L_append]
      have hv : valueS (txt (bs (b :: s))) v = bs (b :: s) := by rw [valueS, if_pos (show (txt (bs (b :: s))).kind = 1 from rfl)]; rfl
      rw [hv]; rfl
    rw [this]
    refine L_inj ?_
    rw [L_extract, L_bs, List.drop_zero, List.take_of_length_le (by omega)]
end Go.Proofs.YtifbcfpaifobjaaGreatDoor
