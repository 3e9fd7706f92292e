/-
  Plain facts on cuts, words and replaced bytes; no program in sight.
-/
import Derived.Test.YtifbcfpaifobjaaGreatDoorResult
import Derived.Lib.Replace
import Derived.Lib.SplitLaws
namespace Go.Proofs.YtifbcfpaifobjaaGreatDoor
open Go.RowKit
theorem pre1 (c b : UInt8) (l : Str) : [c].isPrefixOf (b :: l) = (b == c) := by
  simp only [List.isPrefixOf, Bool.and_true]
  rw [Bool.eq_iff_iff]; simp; exact eq_comm
theorem index1_cons (c b : UInt8) (l : Str) : Lib.index (b :: l) [c] = if b == c then 0 else if Lib.index l [c] == -1 then -1 else Lib.index l [c] + 1 := by
  rw [Lib.index, pre1]
/-- Cut at one byte. -/
theorem cut1 (c : UInt8) (t : Str) : Lib.cut t [c] = (t.takeWhile (· != c), (t.dropWhile (· != c)).drop 1, t.contains c) := by
  induction t with
  | nil => rfl
  | cons b l ih =>
    unfold Lib.cut at ih ⊢
    rw [index1_cons]
    by_cases hb : b = c
    · subst hb
      simp
    · have hbc : (b == c) = false := by simpa using hb
      have hbn : (b != c) = true := by simpa using hb
      have hcb : (c == b) = false := by simpa using fun e => hb e.symm
      rw [List.takeWhile_cons, List.dropWhile_cons, List.contains_cons, hbn, hbc, hcb]
      simp only [Bool.false_eq_true, if_false, if_true, Bool.false_or]
      have hge := Lib.index_ge l [c]
      by_cases hm : Lib.index l [c] = -1
      · rw [hm] at ih ⊢
        simp only [beq_self_eq_true, if_true, show ¬ (0 : Int) ≤ -1 from by omega, if_false] at ih ⊢
        simp only [Prod.mk.injEq] at ih ⊢
        exact ⟨by rw [← ih.1], ih.2.1, ih.2.2⟩
      · have hm' : (Lib.index l [c] == -1) = false := by simpa using hm
        rw [hm']
        simp only [Bool.false_eq_true, if_false]
        rw [if_pos (by omega)] at ih ⊢
        simp only [Prod.mk.injEq, List.length_singleton] at ih ⊢
        obtain ⟨i, hi⟩ := Int.eq_ofNat_of_zero_le (show 0 ≤ Lib.index l [c] by omega)
        rw [hi] at ih ⊢
        rw [show ((i : Int) + 1).toNat = i + 1 from by omega]
        rw [show ((i : Int)).toNat = i from by omega] at ih
        exact ⟨by rw [List.take_succ_cons, ih.1], by rw [show i + 1 + 1 = (i + 1) + 1 from rfl, List.drop_succ_cons]; exact ih.2.1, ih.2.2⟩
theorem index1_contains (c : UInt8) (t : Str) : Lib.contains t [c] = t.contains c := by
  have h := cut1 c t
  unfold Lib.cut at h
  unfold Lib.contains
  by_cases h0 : 0 ≤ Lib.index t [c]
  · rw [if_pos h0] at h
    rw [← (Prod.mk.inj (Prod.mk.inj h).2).2]; simpa using h0
  · rw [if_neg h0] at h
    rw [← (Prod.mk.inj (Prod.mk.inj h).2).2]; simpa using h0
/-- A word. -/
def IsWord (w : Str) : Prop := w ≠ [] ∧ (32 : UInt8) ∉ w
theorem trim_head (s : Str) : (trim s).head? ≠ some 32 := by
  unfold trim Lib.trimLeftB
  intro h
  have := List.head?_dropWhile_not (· == (32 : UInt8)) s
  rw [h] at this
  simp at this
theorem takeWhile_ne (t : Str) : (32 : UInt8) ∉ t.takeWhile (· != 32) := by
  intro h
  have h := List.all_takeWhile (p := (· != (32 : UInt8))) (l := t)
  rw [List.all_eq_true] at h
  have := h 32 ‹_›
  simp at this
theorem wordsT_words : ∀ (n : Nat) (t : Str), t.head? ≠ some 32 → ∀ x ∈ wordsT n t, IsWord x := by
  intro n
  induction n with
  | zero => intro t _ x hx; cases hx
  | succ n ih =>
    intro t ht x hx
    rw [wordsT] at hx
    split at hx
    · cases hx
    · rename_i h0
      rcases List.mem_cons.1 hx with rfl | hx
      · rw [cut1]
        refine ⟨?_, takeWhile_ne t⟩
        cases t with
        | nil => simp at h0
        | cons b l =>
          have : b ≠ 32 := by simpa using ht
          dsimp only
          rw [List.takeWhile_cons, if_pos (by simpa using this)]
          simp
      · exact ih _ (trim_head _) x hx
theorem wordsS_words (s : Str) : ∀ x ∈ wordsS s, IsWord x := wordsT_words _ _ (trim_head s)
theorem join_cons2 (x y : Str) (l : List Str) : Lib.join (x :: y :: l) [32] = x ++ [32] ++ Lib.join (y :: l) [32] := by
  simp [Lib.join, List.intercalate, List.intersperse]
theorem join_one (x : Str) : Lib.join [x] [32] = x := by simp [Lib.join]
theorem join_nil : Lib.join [] [32] = [] := by simp [Lib.join]
theorem join_wordsT : ∀ (n : Nat) (t : Str), (Lib.join (wordsT n t) [32]).length ≤ t.length := by
  intro n
  induction n with
  | zero => intro t; simp [wordsT, join_nil]
  | succ n ih =>
    intro t
    rw [wordsT]
    split
    · simp [join_nil]
    · rename_i h0
      have hi := ih (trim (Lib.cut t [32]).2.1)
      have ht := trim_len (Lib.cut t [32]).2.1
      have hc : (Lib.cut t [32]).1.length + (Lib.cut t [32]).2.1.length ≤ t.length ∧ ((Lib.cut t [32]).2.1 ≠ [] → (Lib.cut t [32]).1.length + 1 + (Lib.cut t [32]).2.1.length ≤ t.length) := by
        rw [cut1]
        dsimp only
        have := congrArg List.length (List.takeWhile_append_dropWhile (p := (· != (32 : UInt8))) (l := t))
        rw [List.length_append] at this
        refine ⟨by rw [List.length_drop]; omega, fun hne => ?_⟩
        have h1 : 0 < ((t.dropWhile (· != 32)).drop 1).length := List.length_pos_iff.2 hne
        rw [List.length_drop] at h1 ⊢
        omega
      cases hw : wordsT n (trim (Lib.cut t [32]).2.1) with
      | nil => rw [join_one]; omega
      | cons y l =>
        rw [join_cons2, ← hw, List.length_append, List.length_append]
        have hne : (Lib.cut t [32]).2.1 ≠ [] := by
          intro e
          rw [e] at hw
          have : trim [] = [] := rfl
          rw [this] at hw
          cases n <;> simp [wordsT] at hw
        have := hc.2 hne
        simp only [List.length_singleton]
        omega
theorem join_wordsS (s : Str) : (Lib.join (wordsS s) [32]).length ≤ s.length := Nat.le_trans (join_wordsT _ _) (trim_len s)
theorem join_drop (l : List Str) (k : Nat) : (Lib.join (l.drop k) [32]).length ≤ (Lib.join l [32]).length := by
  induction k generalizing l with
  | zero => simp
  | succ k ih =>
    cases l with
    | nil => simp
    | cons x l =>
      rw [List.drop_succ_cons]
      refine Nat.le_trans (ih l) ?_
      cases l with
      | nil => simp [join_nil]
      | cons y l => rw [join_cons2, List.length_append]; omega
theorem join_take1 (l : List Str) : (Lib.join (l.take 1) [32]).length ≤ (Lib.join l [32]).length := by
  cases l with
  | nil => simp
  | cons x l =>
    cases l with
    | nil => simp
    | cons y l => rw [join_cons2]; simp [join_one]
theorem join_selW (k : Nat) (more : Bool) (l : List Str) : (Lib.join (selW k more l) [32]).length ≤ (Lib.join l [32]).length := by
  unfold selW
  split
  · exact join_drop l _
  · exact Nat.le_trans (join_take1 _) (join_drop l _)
/-- The n-th word, and what is behind it. -/
theorem law_words (ws : List Str) (hw : ∀ x ∈ ws, IsWord x) (n : Nat) (hn : 1 ≤ n) :
    (Lib.join (selW n false ws) [32]).contains 32 = false ∧
    (if Lib.join (selW (n + 1) true ws) [32] = [] then Lib.join (selW n false ws) [32] else Lib.join (selW n false ws) [32] ++ ([32] ++ Lib.join (selW (n + 1) true ws) [32])) = Lib.join (selW n true ws) [32] := by
  have e1 : selW (n + 1) true ws = (ws.drop (n - 1)).drop 1 := by
    unfold selW; rw [if_pos rfl, List.drop_drop]; congr 1; omega
  have e2 : selW n true ws = ws.drop (n - 1) := rfl
  have e3 : selW n false ws = (ws.drop (n - 1)).take 1 := rfl
  rw [e1, e2, e3]
  have hd : ∀ x ∈ ws.drop (n - 1), IsWord x := fun x hx => hw x (List.mem_of_mem_drop hx)
  generalize ws.drop (n - 1) = l at hd
  cases l with
  | nil => simp [join_nil]
  | cons x l =>
    have hx := hd x (by simp)
    cases l with
    | nil => simp [join_nil, join_one]; simpa using hx.2
    | cons y l =>
      have hy := hd y (by simp)
      have hne : Lib.join (y :: l) [32] ≠ [] := by
        cases l with
        | nil => rw [join_one]; exact hy.1
        | cons z l => rw [join_cons2]; simp
      simp only [List.take_succ_cons, List.take_zero, List.drop_succ_cons, List.drop_zero, join_one, join_cons2, if_neg hne, List.append_assoc]
      exact ⟨by simpa using hx.2, trivial⟩
theorem index1 (c : UInt8) (s : Str) : (Lib.index s [c] = -1 ∧ c ∉ s) ∨ ∃ (a r : Str), s = a ++ c :: r ∧ c ∉ a ∧ Lib.index s [c] = a.length := by
  induction s with
  | nil => left; exact ⟨rfl, by simp⟩
  | cons b l ih =>
    have e : Lib.index (b :: l) [c] = if b == c then 0 else if Lib.index l [c] == -1 then -1 else Lib.index l [c] + 1 := by
      rw [Lib.index]
      have : [c].isPrefixOf (b :: l) = (b == c) := by
        simp only [List.isPrefixOf, Bool.and_true]; rw [Bool.eq_iff_iff]; simp; exact eq_comm
      rw [this]
    rw [e]
    by_cases hb : b = c
    · subst hb
      right; exact ⟨[], l, rfl, by simp, by simp⟩
    · have hbc : (b == c) = false := by simpa using hb
      rw [hbc]
      rcases ih with ⟨h1, h2⟩ | ⟨a, r, h1, h2, h3⟩
      · left; rw [h1]; exact ⟨by simp, by simp [h2]; exact fun e => hb e.symm⟩
      · right
        refine ⟨b :: a, r, by rw [h1]; rfl, by simp [h2]; exact fun e => hb e.symm, ?_⟩
        have : (Lib.index l [c] == -1) = false := by rw [h3]; simp
        rw [this, h3]; simp
theorem flat_no (c : UInt8) (new s : Str) (h : c ∉ s) : (s.flatMap fun b => if b = c then new else [b]) = s := by
  induction s with
  | nil => rfl
  | cons b l ih =>
    rw [List.flatMap_cons, ih (fun h' => h (by simp [h'])), if_neg (fun e => h (by simp [e]))]; rfl
theorem replaceK1 (c : UInt8) (new : Str) : ∀ (k : Nat) (s : Str), Lib.count s [c] ≤ k → Lib.replaceK [c] new k s = s.flatMap fun b => if b = c then new else [b] := by
  intro k
  induction k with
  | zero =>
    intro s h
    rcases index1 c s with ⟨_, h2⟩ | ⟨a, r, h1, _, h3⟩
    · rw [flat_no c new s h2]; rfl
    · rw [Lib.count_hit (by simp) h3] at h; omega
  | succ k ih =>
    intro s h
    rcases index1 c s with ⟨h1, h2⟩ | ⟨a, r, h1, h2, h3⟩
    · rw [flat_no c new s h2, Lib.replaceK, h1]; rfl
    · have hd : s.drop (a.length + 1) = r := by rw [h1]; simp
      rw [Lib.count_hit (by simp) h3] at h
      rw [Lib.replaceK_hit _ _ _ _ _ h3]
      simp only [List.length_singleton] at h ⊢
      rw [hd] at h ⊢
      rw [ih r (by omega), h1]
      rw [List.flatMap_append, List.flatMap_cons, if_pos rfl, flat_no c new a h2]
      simp
theorem replaceAll1 (s : Str) (c : UInt8) (new : Str) (h : new ≠ [c]) : Lib.replaceAll s [c] new = s.flatMap fun b => if b = c then new else [b] := by
  unfold Lib.replaceAll Lib.replace
  have hn : ([c] == new) = false := by
    rw [beq_eq_false_iff_ne]; exact fun e => h e.symm
  rw [hn]
  exact replaceK1 c new _ s (by unfold Lib.replaceNum; rw [if_pos (Or.inl (by omega))]; exact Nat.le_refl _)
def dbl (s : Str) : Str := s.flatMap fun b => if b = 36 ∨ b = 37 then [b, b] else [b]
theorem dbl_eq (s : Str) : Lib.replaceAll (Lib.replaceAll s [36] [36, 36]) [37] [37, 37] = dbl s := by
  rw [replaceAll1 _ _ _ (by simp), replaceAll1 _ _ _ (by simp)]
  unfold dbl
  rw [List.flatMap_assoc]
  congr 1
  funext b
  by_cases h1 : b = 36
  · subst h1; rfl
  · by_cases h2 : b = 37
    · subst h2; rfl
    · simp [h1, h2]
theorem dbl_len (s : Str) : s.length ≤ (dbl s).length := by
  induction s with
  | nil => simp
  | cons b s ih =>
    unfold dbl at ih ⊢
    rw [List.flatMap_cons, List.length_append, List.length_cons]
    split
    · rw [show ([b, b] : Str).length = 2 from rfl]; omega
    · rw [show ([b] : Str).length = 1 from rfl]; omega
end Go.Proofs.YtifbcfpaifobjaaGreatDoor
