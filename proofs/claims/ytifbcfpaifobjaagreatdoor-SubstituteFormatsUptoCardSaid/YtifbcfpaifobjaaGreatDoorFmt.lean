/-
  The template of pieces: two plain functions, as the program and as the reference go, and that they are one; no program in sight.
  The pieces of the template of pieces are these pieces; plain functions.
-/
import Derived.Test.YtifbcfpaifobjaaGreatDoorPlainA
import Derived.Test.YtifbcfpaifobjaaGreatDoorExpS
import Derived.Test.YtifbcfpaifobjaaGreatDoorDbl
namespace Go.Proofs.YtifbcfpaifobjaaGreatDoor
/-- A piece that a parse can give. -/
def properS (p : Pc) : Bool :=
  if p.kind < 1 ∨ 11 < p.kind then false
  else if p.kind = 1 then !(L p.text).isEmpty && printS (L p.text) && p.word == 0 && !p.more
  else if (if p.kind = 7 then !validS (L p.text) else if p.kind = 8 then !keyS (L p.text) else !(L p.text).isEmpty) then false
  else if p.kind ≠ 9 ∨ p.word = 0 then p.word == 0 && !p.more
  else decide (1 ≤ p.word ∧ p.word ≤ 99)
/-- What it has in braces. -/
def insideS (p : Pc) : Str := (if 0 < p.word then Lib.decDigits p.word.toNat else L p.text) ++ (if p.more then [43] else [])
def inBracesS (p : Pc) : Str := if insideS p = [] then [] else 123 :: (insideS p ++ [125])
def lowAt (s : Str) : Bool := match s with
  | [] => false
  | b :: _ => decide (97 ≤ b.toNat ∧ b.toNat ≤ 122)
/-- How it is written ahead of a text. -/
def writeS (p : Pc) (behind : Str) : Option Str :=
  if p.kind = 1 then some (dbl (L p.text))
  else if p.kind = 9 ∧ inBracesS p = [] ∧ behind.head? = some 123 then none
  else if inBracesS p ≠ [] ∨ lowAt behind = false then some (36 :: (longN p.kind.toNat ++ inBracesS p))
  else if shortN p.kind.toNat = [] then none else some (37 :: shortN p.kind.toNat)
def behindS : List Pc → Str
  | [] => []
  | q :: _ => if q.kind = 1 then L q.text else []
def stepS (p : Pc) (behind : Str) : Option Str :=
  if properS p then (writeS p behind).bind fun s => if p.kind = 1 ∧ behind ≠ [] then none else some s else none
def fmtF : List Pc → Option Str
  | [] => some []
  | p :: l => (stepS p (behindS l)).bind fun s => (fmtF l).map (s ++ ·)
/-- The step as the reference goes: it looks back at a text, not ahead. -/
def rstepS (prev : Bool) (p : Pc) (behind : Str) : Option Str :=
  if p.kind = 1 ∧ prev = true then none else if properS p then writeS p behind else none
def fmtR (prev : Bool) : List Pc → Option Str
  | [] => some []
  | p :: l => (rstepS prev p (behindS l)).bind fun s => (fmtR (p.kind == 1) l).map (s ++ ·)
theorem fmt_same : ∀ (l : List Pc) (prev : Bool), fmtR prev l = if prev = true ∧ (∃ q, l.head? = some q ∧ q.kind = 1) then none else fmtF l := by
  intro l
  induction l with
  | nil => intro prev; simp [fmtR, fmtF]
  | cons p l ih =>
    intro prev
    rw [fmtR]
    by_cases h : prev = true ∧ p.kind = 1
    · rw [if_pos ⟨h.1, p, rfl, h.2⟩, rstepS, if_pos ⟨h.2, h.1⟩]; rfl
    · rw [if_neg (fun ⟨a, q, b, c⟩ => h ⟨a, by simp at b; rw [b]; exact c⟩), rstepS, if_neg (fun ⟨a, b⟩ => h ⟨b, a⟩), fmtF, stepS]
      by_cases hp : properS p = true
      · rw [if_pos hp, if_pos hp]
        cases hw : writeS p (behindS l) with
        | none => rfl
        | some s =>
          simp only [Option.bind_some]
          rw [ih]
          by_cases h1 : p.kind = 1
          · rw [h1]
            simp only [BEq.rfl, true_and]
            cases l with
            | nil => simp [behindS, fmtF]
            | cons q l =>
              by_cases hq : q.kind = 1
              · rw [if_pos ⟨q, rfl, hq⟩]
                by_cases hb : behindS (q :: l) = []
                · have hi : properS q = false := by
                    have h2 : L q.text = [] := by rw [behindS, if_pos hq] at hb; exact hb
                    unfold properS
                    rw [if_neg (by omega), if_pos hq, h2]; rfl
                  rw [if_neg (fun h => h hb), fmtF, stepS, hi]
                  simp
                · rw [if_pos hb]; rfl
              · have hb : behindS (q :: l) = [] := by rw [behindS, if_neg hq]
                rw [if_neg (fun ⟨a, b, c⟩ => hq (by simp at b; rw [b]; exact c)), if_neg (fun h => h hb)]
                rfl
          · rw [if_neg (fun ⟨a, _⟩ => h1 (by simpa using a)), if_neg (fun ⟨a, _⟩ => h1 a)]
            rfl
      · rw [if_neg hp, if_neg hp]; rfl
theorem fmt_one (l : List Pc) : fmtR false l = fmtF l := by rw [fmt_same]; simp
/-- The template, and the error. -/
def formatR (l : List Pc) : ByteArray × Int := match fmtF l with
  | none => (⟨#[]⟩, 90)
  | some s => if 256 < s.length then (⟨#[]⟩, 91) else (bs s, 0)
open Go.RowKit
theorem low_contains (b : UInt8) (h : lowL.contains b = true) : 97 ≤ b.toNat ∧ b.toNat ≤ 122 := by
  have hm : b ∈ lowL := by simpa using h
  simp only [lowL, List.mem_cons, List.not_mem_nil, or_false] at hm
  rcases hm with h | h | h | h | h | h | h | h | h | h | h | h | h | h | h | h | h | h | h | h | h | h | h | h | h | h <;> subst h <;> decide
theorem trim_run (a r : Str) (ha : ∀ x ∈ a, lowL.contains x = true) (hr : lowAt r = false) : Lib.trimLeftS (a ++ r) lowL = r := by
  unfold Lib.trimLeftS
  rw [List.dropWhile_append_of_pos ha]
  cases r with
  | nil => rfl
  | cons b t =>
    rw [List.dropWhile_cons, if_neg]
    intro h
    have h1 := low_contains b h
    simp [lowAt] at hr
    omega
theorem long_low (k : Nat) (h2 : 2 ≤ k) (hk : k < 12) : (∀ x ∈ longN k, lowL.contains x = true) ∧ kindOf true (longN k) = k ∧ (longN k).head? ≠ some 36 ∧ longN k ≠ [] ∧ printS (longN k) = true := by
  rcases (by omega : k = 2 ∨ k = 3 ∨ k = 4 ∨ k = 5 ∨ k = 6 ∨ k = 7 ∨ k = 8 ∨ k = 9 ∨ k = 10 ∨ k = 11) with h | h | h | h | h | h | h | h | h | h <;> subst h <;>
    exact ⟨by decide, by decide, by decide, by decide, by decide⟩
theorem pieceS_long (k : Nat) (h2 : 2 ≤ k) (hk : k < 12) (r : Str) (hr : lowAt r = false) : pieceS 36 (longN k ++ r) = placeS k r := by
  obtain ⟨h1, h3, h4, h5, _⟩ := long_low k h2 hk
  have hh : ¬ (longN k ++ r).head? = some 36 := by
    cases hl : longN k with
    | nil => exact absurd hl h5
    | cons a t => rw [hl] at h4; simpa using h4
  have hw : wordLen true (longN k ++ r) = (longN k).length := by
    rw [wordLen, if_pos rfl, trim_run _ _ h1 hr, List.length_append]; omega
  rw [pieceS, if_neg hh, show ((36 : UInt8) == 36) = true from rfl, hw, List.take_left, List.drop_left, h3]
theorem short_one (k : Nat) (h2 : 2 ≤ k) (hk : k < 12) (hs : shortN k ≠ []) : ∃ c, shortN k = [c] ∧ c ≠ 37 ∧ kindOf false [c] = k ∧ pr c = true := by
  rcases (by omega : k = 2 ∨ k = 3 ∨ k = 4 ∨ k = 5 ∨ k = 6 ∨ k = 7 ∨ k = 8 ∨ k = 9 ∨ k = 10 ∨ k = 11) with h | h | h | h | h | h | h | h | h | h <;> subst h <;>
    first | exact absurd rfl hs | exact ⟨_, rfl, by decide, by decide, by decide⟩
theorem pieceS_short (k : Nat) (h2 : 2 ≤ k) (hk : k < 12) (hs : shortN k ≠ []) (r : Str) : pieceS 37 (shortN k ++ r) = placeS k r := by
  obtain ⟨c, h1, h3, h4, _⟩ := short_one k h2 hk hs
  rw [h1]
  have hw : wordLen false (c :: r) = 1 := by rw [wordLen, if_neg (by decide), List.length_cons]; omega
  rw [pieceS, List.singleton_append, if_neg (by simpa using h3), show ((37 : UInt8) == 36) = false from rfl, hw]
  show placeS (kindOf false [c]) r = _
  rw [h4]
theorem parse_piece {c : UInt8} {r r' : Str} {p : Pc} {n : Nat} {acc : List Pc} (hc : sign c = true) (h : pieceS c r = some (p, r')) (hn : r.length < n) : parseF n (c :: r) acc = parseF n r' (addP acc p) := by
  have hl := pieceS_len' h
  cases n with
  | zero => omega
  | succ n =>
    rw [parseF, if_pos hc, h]
    exact parseF_fuel _ _ _ _ (by omega) (by omega)
theorem parse_dbl : ∀ (t : Str) (n : Nat) (s : Str) (acc : List Pc), (dbl t ++ s).length ≤ n → parseF n (dbl t ++ s) acc = parseF n s (t.foldl (fun a c => addP a (txt (bs [c]))) acc) := by
  intro t
  induction t with
  | nil => intro n s acc _; rfl
  | cons b t ih =>
    intro n s acc hn
    have e : dbl (b :: t) = (if b = 36 ∨ b = 37 then [b, b] else [b]) ++ dbl t := by unfold dbl; rw [List.flatMap_cons]
    rw [e] at hn ⊢
    by_cases h : b = 36 ∨ b = 37
    · have hs : sign b = true := by rw [sign_dbl]; simpa using h
      rw [if_pos h] at hn ⊢
      simp only [List.cons_append, List.nil_append, List.length_cons] at hn ⊢
      have hp : pieceS b (b :: (dbl t ++ s)) = some (txt (bs [b]), dbl t ++ s) := by
        rw [pieceS, if_pos (show (b :: (dbl t ++ s)).head? = some b from rfl)]; rfl
      rw [parse_piece hs hp (by rw [List.length_cons]; omega), ih n _ _ (by omega)]; rfl
    · have hs : sign b = false := by rw [sign_dbl]; simpa using h
      rw [if_neg h] at hn ⊢
      simp only [List.cons_append, List.nil_append, List.length_cons] at hn ⊢
      cases n with
      | zero => omega
      | succ n =>
        rw [parseF, hs]
        simp only [Bool.false_eq_true, if_false]
        rw [ih n _ _ (by omega), List.foldl_cons]
        exact parseF_fuel _ _ _ _ (by rw [List.length_append] at hn; omega) (by rw [List.length_append] at hn; omega)
/-- No text is at the end. -/
def NoText (acc : List Pc) : Prop := acc.getLast?.map (·.kind) ≠ some 1
theorem addP_new {acc : List Pc} {p : Pc} (h : p.kind = 1 → NoText acc) : addP acc p = acc ++ [p] := by
  rw [addP, if_neg (fun ⟨a, b⟩ => h a b)]
theorem parse_text (t : Str) (h0 : t ≠ []) (n : Nat) (s : Str) (acc : List Pc) (hn : (dbl t ++ s).length ≤ n) (ha : NoText acc) : parseF n (dbl t ++ s) acc = parseF n s (acc ++ [txt (bs t)]) := by
  rw [parse_dbl t n s acc hn]
  cases t with
  | nil => exact absurd rfl h0
  | cons b t => rw [List.foldl_cons, fold_txt, addP_new (fun _ => ha)]; rfl
theorem braces_of (t s : Str) (h : (125 : UInt8) ∉ t) : bracesS (123 :: (t ++ 125 :: s)) = some (t, s) := by
  have h1 : (t ++ 125 :: s).takeWhile (· != 125) = t := by
    rw [List.takeWhile_append_of_pos (fun x hx => by simp; rintro rfl; exact h hx)]
    simp
  have h2 : (t ++ 125 :: s).dropWhile (· != 125) = 125 :: s := by
    rw [List.dropWhile_append_of_pos (fun x hx => by simp; rintro rfl; exact h hx)]
    simp
  rw [bracesS, if_pos rfl, cut1, h1, h2]
  simp
theorem hasS_out {f : Nat → Bool} {c : UInt8} (hf : f c.toNat = false) {l : Str} (h : hasS f l = true) : c ∉ l := fun hm => by
  have := List.all_eq_true.1 h c hm
  simp only [hf] at this
  cases this
theorem valid_125 : addS commonS [33] (125 : UInt8).toNat = false := by kernel_rfl
theorem key_125 : addS (addS (addS noneS upperL) digitL) [95] (125 : UInt8).toNat = false := by kernel_rfl
theorem valid_no {l : Str} (h : validS l = true) : (125 : UInt8) ∉ l ∧ l ≠ [] := by
  simp only [validS, Bool.and_eq_true] at h
  exact ⟨hasS_out valid_125 h.2, by have := h.1.1.1; simpa using this⟩
theorem key_no {l : Str} (h : keyS l = true) : (125 : UInt8) ∉ l ∧ l ≠ [] := by
  simp only [keyS, Bool.and_eq_true] at h
  exact ⟨hasS_out key_125 h.2, by have := h.1.1; simpa using this.1⟩
theorem hasS_print {f : Nat → Bool} (hf : ∀ n, n < 256 → (n < 32 ∨ 126 < n) → f n = false) {l : Str} (h : hasS f l = true) : printS l = true := by
  unfold printS
  rw [List.all_eq_true]
  intro b hb
  have h1 := List.all_eq_true.1 h b hb
  have h2 := b.toNat_lt
  unfold pr
  simp
  refine Classical.byContradiction fun hc => ?_
  rw [hf b.toNat h2 (by omega)] at h1
  cases h1
theorem out_of {f : Nat → Bool} (h : ((List.range 256).all fun n => !(decide (n < 32) || decide (126 < n)) || !f n) = true) : ∀ n, n < 256 → (n < 32 ∨ 126 < n) → f n = false := fun n h1 h2 => by
  have := List.all_eq_true.1 h n (List.mem_range.2 h1)
  rw [show (decide (n < 32) || decide (126 < n)) = true by simpa using h2] at this
  simpa using this
theorem common_out : ∀ n, n < 256 → (n < 32 ∨ 126 < n) → addS commonS [33] n = false := out_of (by kernel_rfl)
theorem keys_out : ∀ n, n < 256 → (n < 32 ∨ 126 < n) → (addS (addS (addS noneS upperL) digitL) [95]) n = false := out_of (by kernel_rfl)
theorem valid_print {l : Str} (h : validS l = true) : printS l = true := by
  simp only [validS, Bool.and_eq_true] at h
  exact hasS_print common_out h.2
theorem key_print {l : Str} (h : keyS l = true) : printS l = true := by
  simp only [keyS, Bool.and_eq_true] at h
  exact hasS_print keys_out h.2
def cntB (t : Str) (n : Nat) (m : Bool) : Bool := (match countS t with
  | some (a, b) => decide (a = n) && b == m
  | none => false) && printS t && !t.contains 125 && !t.isEmpty
theorem count_all : ((List.range 100).all fun m => m == 0 || (cntB (Lib.decDigits m) m false && cntB (Lib.decDigits m ++ [43]) m true)) = true := by kernel_rfl
theorem cntB_at {t : Str} {n : Nat} {m : Bool} (h : cntB t n m = true) : countS t = some ((n : Int), m) ∧ printS t = true ∧ (125 : UInt8) ∉ t ∧ t ≠ [] := by
  unfold cntB at h
  simp only [Bool.and_eq_true] at h
  obtain ⟨⟨⟨h1, h2⟩, h3⟩, h4⟩ := h
  refine ⟨?_, h2, by simpa using h3, by simpa using h4⟩
  cases hc : countS t with
  | none => rw [hc] at h1; cases h1
  | some ab => rw [hc] at h1; obtain ⟨a, b⟩ := ab; simp at h1; rw [h1.1, h1.2]
theorem count_at (m : Nat) (mo : Bool) (h0 : 0 < m) (h1 : m < 100) : cntB (Lib.decDigits m ++ if mo then [43] else []) m mo = true := by
  have := List.all_eq_true.1 count_all m (List.mem_range.2 h1)
  simp only [Bool.or_eq_true, Bool.and_eq_true] at this
  rcases this with h | h
  · simp at h; omega
  · cases mo
    · rw [if_neg (by decide), List.append_nil]; exact h.1
    · rw [if_pos rfl]; exact h.2
/-- What a piece that stands for something is like. -/
theorem proper_form {p : Pc} {k : Nat} (hk : p.kind = k) (h2 : 2 ≤ k) (h : properS p = true) : k < 12 ∧
    ((k = 7 ∧ validS (L p.text) = true ∧ p.word = 0 ∧ p.more = false) ∨ (k = 8 ∧ keyS (L p.text) = true ∧ p.word = 0 ∧ p.more = false) ∨
     (k = 9 ∧ L p.text = [] ∧ ∃ m : Nat, p.word = m ∧ 0 < m ∧ m < 100) ∨ (k ≠ 7 ∧ k ≠ 8 ∧ L p.text = [] ∧ p.word = 0 ∧ p.more = false)) := by
  unfold properS at h
  have h12 : k < 12 := by
    refine Classical.byContradiction fun hn => ?_
    rw [if_pos (by omega)] at h; cases h
  rw [if_neg (by omega), if_neg (by omega)] at h
  refine ⟨h12, ?_⟩
  by_cases h7 : k = 7
  · left
    rw [if_pos (show p.kind = 7 by omega), if_pos (show p.kind ≠ 9 ∨ p.word = 0 from .inl (by omega))] at h
    by_cases hv : validS (L p.text) = true
    · rw [hv] at h
      simp at h
      exact ⟨h7, hv, h.1, h.2⟩
    · rw [Bool.eq_false_iff.2 hv] at h; cases h
  by_cases h8 : k = 8
  · right; left
    rw [if_neg (show ¬ p.kind = 7 by omega), if_pos (show p.kind = 8 by omega), if_pos (show p.kind ≠ 9 ∨ p.word = 0 from .inl (by omega))] at h
    by_cases hv : keyS (L p.text) = true
    · rw [hv] at h
      simp at h
      exact ⟨h8, hv, h.1, h.2⟩
    · rw [Bool.eq_false_iff.2 hv] at h; cases h
  right; right
  rw [if_neg (show ¬ p.kind = 7 by omega), if_neg (show ¬ p.kind = 8 by omega)] at h
  have ht : L p.text = [] := by
    cases hl : L p.text with
    | nil => rfl
    | cons a t => rw [hl] at h; cases h
  rw [ht] at h
  simp only [List.isEmpty_nil, Bool.not_true, Bool.false_eq_true, if_false] at h
  by_cases hc : p.kind ≠ 9 ∨ p.word = 0
  · right
    rw [if_pos hc] at h
    simp at h
    exact ⟨h7, h8, ht, h.1, h.2⟩
  · left
    rw [if_neg hc] at h
    simp at h
    exact ⟨by omega, ht, p.word.toNat, by omega, by omega, by omega⟩
theorem pc_ext {p : Pc} {k : Int} {t : ByteArray} {m : Int} {b : Bool} (h1 : p.kind = k) (h2 : p.text = t) (h3 : p.word = m) (h4 : p.more = b) : p = ⟨k, t, m, b⟩ := by
  obtain ⟨a, b, c, d⟩ := p
  subst h1 h2 h3 h4
  rfl
theorem text_of {p : Pc} (h : L p.text = []) : p.text = bs [] := by rw [← bs_L p.text, h]
/-- What stands behind the word of a kind is read as the piece. -/
theorem place_of {p : Pc} {k : Nat} (hk : p.kind = k) (h2 : 2 ≤ k) (h : properS p = true) (s : Str) (h9 : p.kind = 9 → inBracesS p = [] → s.head? ≠ some 123) : placeS k (inBracesS p ++ s) = some (p, s) := by
  obtain ⟨h12, h7 | h8 | h9' | ho⟩ := proper_form hk h2 h
  · obtain ⟨rfl, hv, hw, hm⟩ := h7
    obtain ⟨hn, h0⟩ := valid_no hv
    have hi : inBracesS p = 123 :: (L p.text ++ [125]) := by
      unfold inBracesS insideS
      rw [hw, hm]
      simp [h0]
    rw [placeS, if_neg (by decide), if_pos rfl, hi]
    have := braces_of (L p.text) s hn
    simp only [List.cons_append, List.append_assoc, List.nil_append]
    rw [this]
    simp only [Option.bind_some]
    rw [if_pos hv, bs_L]
    exact congrArg (fun q => some (q, s)) (pc_ext hk rfl hw hm).symm
  · obtain ⟨rfl, hv, hw, hm⟩ := h8
    obtain ⟨hn, h0⟩ := key_no hv
    have hi : inBracesS p = 123 :: (L p.text ++ [125]) := by
      unfold inBracesS insideS
      rw [hw, hm]
      simp [h0]
    rw [placeS, if_neg (by decide), if_neg (by decide), if_pos rfl, hi]
    have := braces_of (L p.text) s hn
    simp only [List.cons_append, List.append_assoc, List.nil_append]
    rw [this]
    simp only [Option.bind_some]
    rw [if_pos hv, bs_L]
    exact congrArg (fun q => some (q, s)) (pc_ext hk rfl hw hm).symm
  · obtain ⟨rfl, ht, m, hw, m0, m1⟩ := h9'
    obtain ⟨hc, _, hn, h0⟩ := cntB_at (count_at m p.more m0 m1)
    have hins : insideS p = Lib.decDigits m ++ if p.more then [43] else [] := by
      unfold insideS
      rw [hw, if_pos (by omega), Int.toNat_natCast]
    have hi : inBracesS p = 123 :: (insideS p ++ [125]) := by
      unfold inBracesS
      rw [if_neg (by rw [hins]; exact h0)]
    rw [placeS, if_neg (by decide), if_neg (by decide), if_neg (by decide), hi, if_pos ⟨rfl, rfl⟩, hins]
    have := braces_of _ s hn
    simp only [List.cons_append, List.append_assoc, List.nil_append] at this ⊢
    rw [this]
    simp only [Option.bind_some]
    rw [← List.append_assoc] at *
    rw [hc]
    simp only [Option.map_some]
    exact congrArg (fun q => some (q, s)) (pc_ext hk (text_of ht) hw rfl).symm
  · obtain ⟨h7, h8, ht, hw, hm⟩ := ho
    have hi : inBracesS p = [] := by
      unfold inBracesS insideS
      rw [hw, hm, ht]
      rfl
    rw [placeS, if_neg (by omega), if_neg h7, if_neg h8, hi, if_neg (fun ⟨a, b⟩ => h9 (by omega) hi b)]
    exact congrArg (fun q => some (q, s)) (pc_ext hk (text_of ht) hw hm).symm
theorem dbl_head (t : Str) : (dbl t).head? = t.head? := by
  cases t with
  | nil => rfl
  | cons b t =>
    have e : dbl (b :: t) = (if b = 36 ∨ b = 37 then [b, b] else [b]) ++ dbl t := by unfold dbl; rw [List.flatMap_cons]
    rw [e]
    split <;> rfl
theorem lowAt_head {a b : Str} (h : a.head? = b.head?) : lowAt a = lowAt b := by
  cases a <;> cases b <;> simp at h
  · rfl
  · subst h; rfl
theorem head_append {a b : Str} (h : a ≠ []) : (a ++ b).head? = a.head? := by
  cases a with
  | nil => exact absurd rfl h
  | cons x a => rfl
theorem proper_text_ne {p : Pc} (hk : p.kind = 1) (h : properS p = true) : L p.text ≠ [] ∧ printS (L p.text) = true ∧ p.word = 0 ∧ p.more = false := by
  unfold properS at h
  rw [if_neg (by omega), if_pos hk] at h
  simp only [Bool.and_eq_true] at h
  obtain ⟨⟨⟨h1, h2⟩, h3⟩, h4⟩ := h
  exact ⟨by simpa using h1, h2, by simpa using h3, by simpa using h4⟩
/-- How a piece is written that stands for something. -/
theorem write_form_cases {p : Pc} {k : Nat} (hk : p.kind = k) (h2 : 2 ≤ k) {b w : Str} (h : writeS p b = some w) :
    (p.kind = 9 → inBracesS p = [] → b.head? ≠ some 123) ∧ ((w = 36 :: (longN k ++ inBracesS p) ∧ (inBracesS p ≠ [] ∨ lowAt b = false)) ∨ (w = 37 :: shortN k ∧ shortN k ≠ [] ∧ inBracesS p = [])) := by
  unfold writeS at h
  rw [if_neg (by omega)] at h
  by_cases h1 : p.kind = 9 ∧ inBracesS p = [] ∧ b.head? = some 123
  · rw [if_pos h1] at h; cases h
  · rw [if_neg h1] at h
    refine ⟨fun a b c => h1 ⟨a, b, c⟩, ?_⟩
    rw [hk, Int.toNat_natCast] at h
    by_cases h3 : inBracesS p ≠ [] ∨ lowAt b = false
    · rw [if_pos h3] at h
      injection h with h
      exact .inl ⟨h.symm, h3⟩
    · rw [if_neg h3] at h
      by_cases h4 : shortN k = []
      · rw [if_pos h4] at h; cases h
      · rw [if_neg h4] at h
        injection h with h
        exact .inr ⟨h.symm, h4, Classical.byContradiction fun hn => h3 (.inl hn)⟩
theorem kind_nat {p : Pc} (h : properS p = true) (h1 : p.kind ≠ 1) : ∃ k : Nat, p.kind = k ∧ 2 ≤ k := by
  unfold properS at h
  by_cases h0 : p.kind < 1 ∨ 11 < p.kind
  · rw [if_pos h0] at h; cases h
  · exact ⟨p.kind.toNat, by omega, by omega⟩
theorem fmtF_cons {p : Pc} {l : List Pc} {s : Str} (h : fmtF (p :: l) = some s) : ∃ w s', properS p = true ∧ writeS p (behindS l) = some w ∧ (p.kind = 1 → behindS l = []) ∧ fmtF l = some s' ∧ s = w ++ s' := by
  rw [fmtF, stepS] at h
  by_cases hp : properS p = true
  · rw [if_pos hp] at h
    cases hw : writeS p (behindS l) with
    | none => rw [hw] at h; cases h
    | some w =>
      rw [hw] at h
      simp only [Option.bind_some] at h
      by_cases hk : p.kind = 1 ∧ behindS l ≠ []
      · rw [if_pos hk] at h; cases h
      · rw [if_neg hk] at h
        simp only [Option.bind_some] at h
        cases hl : fmtF l with
        | none => rw [hl] at h; cases h
        | some s' =>
          rw [hl] at h
          injection h with h
          exact ⟨w, s', hp, rfl, fun a => Classical.byContradiction fun b => hk ⟨a, b⟩, rfl, h.symm⟩
  · rw [if_neg hp] at h; cases h
theorem fmt_head : ∀ (l : List Pc) (s : Str), fmtF l = some s → lowAt s = lowAt (behindS l) ∧ (s.head? = some 123 → (behindS l).head? = some 123) := by
  intro l s h
  cases l with
  | nil =>
    injection h with h
    subst h
    exact ⟨rfl, fun h => h⟩
  | cons p l =>
    obtain ⟨w, s', hp, hw, hb, hl, rfl⟩ := fmtF_cons h
    by_cases h1 : p.kind = 1
    · have h0 := (proper_text_ne h1 hp).1
      have hwe : w = dbl (L p.text) := by rw [writeS, if_pos h1] at hw; injection hw with hw; exact hw.symm
      have hd : dbl (L p.text) ≠ [] := fun e => by
        have := dbl_head (L p.text)
        rw [e] at this
        cases hx : L p.text with
        | nil => exact h0 hx
        | cons a t => rw [hx] at this; cases this
      have hh : (w ++ s').head? = (behindS (p :: l)).head? := by
        rw [hwe, head_append hd, dbl_head, behindS, if_pos h1]
      exact ⟨lowAt_head hh, fun h => by rw [← hh]; exact h⟩
    · obtain ⟨k, hk, h2⟩ := kind_nat hp h1
      rw [behindS, if_neg h1]
      obtain ⟨_, ⟨rfl, _⟩ | ⟨rfl, _⟩⟩ := write_form_cases hk h2 hw
      · exact ⟨rfl, fun h => by cases h⟩
      · exact ⟨rfl, fun h => by cases h⟩
theorem lowAt_braces {p : Pc} (h : inBracesS p ≠ []) (s : Str) : lowAt (inBracesS p ++ s) = false := by
  unfold inBracesS at h ⊢
  split
  · rename_i h1; rw [if_pos h1] at h; exact absurd rfl h
  · rfl
theorem parse_fmt : ∀ (l : List Pc) (s : Str), fmtF l = some s → ∀ (n : Nat) (acc : List Pc), s.length ≤ n → ((∃ q, l.head? = some q ∧ q.kind = 1) → NoText acc) → parseF n s acc = some (acc ++ l) := by
  intro l
  induction l with
  | nil =>
    intro s h n acc _ _
    injection h with h
    subst h
    rw [List.append_nil]
    cases n <;> rfl
  | cons p l ih =>
    intro s h n acc hn ha
    obtain ⟨w, s', hp, hw, hb, hl, rfl⟩ := fmtF_cons h
    have hs' : s'.length ≤ n := by rw [List.length_append] at hn; omega
    have hnext : (∃ q, l.head? = some q ∧ q.kind = 1) → NoText (acc ++ [p]) := by
      rintro ⟨q, hq, hq1⟩ hc
      have hp1 : p.kind = 1 := by simpa using hc
      have hb0 := hb hp1
      cases l with
      | nil => cases hq
      | cons x l =>
        injection hq with hq
        subst hq
        rw [behindS, if_pos hq1] at hb0
        obtain ⟨_, _, hpx, _⟩ := fmtF_cons hl
        exact (proper_text_ne hq1 hpx).1 hb0
    have hfin := ih s' hl n (acc ++ [p]) hs' hnext
    rw [List.append_assoc, List.singleton_append] at hfin
    rw [← hfin]
    by_cases h1 : p.kind = 1
    · obtain ⟨h0, _, hw0, hm0⟩ := proper_text_ne h1 hp
      have hwe : w = dbl (L p.text) := by rw [writeS, if_pos h1] at hw; injection hw with hw; exact hw.symm
      subst hwe
      rw [parse_text _ h0 n s' acc hn (ha ⟨p, rfl, h1⟩), bs_L, show txt p.text = p from (pc_ext h1 rfl hw0 hm0).symm]
    · obtain ⟨k, hk, h2⟩ := kind_nat hp h1
      have h12 := (proper_form hk h2 hp).1
      obtain ⟨h9, hc⟩ := write_form_cases hk h2 hw
      obtain ⟨hd1, hd2⟩ := fmt_head l s' hl
      have hpl := place_of hk h2 hp s' (fun a b c => h9 a b (hd2 c))
      have hadd : addP acc p = acc ++ [p] := addP_new (fun a => absurd a h1)
      rcases hc with ⟨rfl, hc⟩ | ⟨rfl, hc, hi⟩
      · have hlow : lowAt (inBracesS p ++ s') = false := by
          by_cases hi : inBracesS p = []
          · rw [hi, List.nil_append, hd1]
            exact hc.resolve_left (fun h => h hi)
          · exact lowAt_braces hi s'
        have hpc : pieceS 36 (longN k ++ (inBracesS p ++ s')) = some (p, s') := by rw [pieceS_long k h2 h12 _ hlow]; exact hpl
        rw [List.cons_append, List.append_assoc]
        rw [List.cons_append, List.length_cons, List.append_assoc] at hn
        rw [parse_piece rfl hpc (by omega), hadd]
      · rw [hi, List.nil_append] at hpl
        have hpc : pieceS 37 (shortN k ++ s') = some (p, s') := by rw [pieceS_short k h2 h12 hc]; exact hpl
        rw [List.cons_append]
        rw [List.cons_append, List.length_cons] at hn
        rw [parse_piece rfl hpc (by omega), hadd]
theorem printS_append (a b : Str) : printS (a ++ b) = (printS a && printS b) := by simp [printS]
theorem printS_cons (a : UInt8) (b : Str) : printS (a :: b) = (pr a && printS b) := by simp [printS]
theorem write_print {p : Pc} (hp : properS p = true) {b w : Str} (h : writeS p b = some w) : printS w = true := by
  by_cases h1 : p.kind = 1
  · have hwe : w = dbl (L p.text) := by rw [writeS, if_pos h1] at h; injection h with h; exact h.symm
    rw [hwe, printS_dbl]
    exact (proper_text_ne h1 hp).2.1
  · obtain ⟨k, hk, h2⟩ := kind_nat hp h1
    obtain ⟨h12, hf⟩ := proper_form hk h2 hp
    have hin : printS (insideS p) = true := by
      rcases hf with ⟨_, hv, hw, hm⟩ | ⟨_, hv, hw, hm⟩ | ⟨_, _, m, hw, m0, m1⟩ | ⟨_, _, ht, hw, hm⟩
      · unfold insideS
        rw [hw, hm, if_neg (by decide), if_neg (by decide), List.append_nil]
        exact valid_print hv
      · unfold insideS
        rw [hw, hm, if_neg (by decide), if_neg (by decide), List.append_nil]
        exact key_print hv
      · unfold insideS
        rw [hw, if_pos (by omega), Int.toNat_natCast]
        exact (cntB_at (count_at m p.more m0 m1)).2.1
      · unfold insideS
        rw [hw, hm, if_neg (by decide), if_neg (by decide), ht]
        rfl
    have hbr : printS (inBracesS p) = true := by
      unfold inBracesS
      split
      · rfl
      · rw [printS_cons, printS_append, hin]; rfl
    obtain ⟨_, ⟨rfl, _⟩ | ⟨rfl, hs, _⟩⟩ := write_form_cases hk h2 h
    · rw [printS_cons, printS_append, hbr, (long_low k h2 h12).2.2.2.2]; rfl
    · obtain ⟨c, hc, _, _, hpr⟩ := short_one k h2 h12 hs
      rw [hc, printS_cons, printS_cons, hpr]; rfl
theorem fmt_print : ∀ (l : List Pc) (s : Str), fmtF l = some s → printS s = true := by
  intro l
  induction l with
  | nil => intro s h; injection h with h; subst h; rfl
  | cons p l ih =>
    intro s h
    obtain ⟨w, s', hp, hw, _, hl, rfl⟩ := fmtF_cons h
    rw [printS_append, write_print hp hw, ih s' hl]; rfl
/-- The pieces of the template of pieces are these pieces. -/
theorem format_back (l : List Pc) (h : (formatR l).2 = 0) : parseR (L (formatR l).1) = (l, 0) := by
  unfold formatR at h ⊢
  cases hf : fmtF l with
  | none => rw [hf] at h; cases h
  | some s =>
    rw [hf] at h
    dsimp only at h ⊢
    by_cases hs : 256 < s.length
    · rw [if_pos hs] at h; cases h
    · rw [if_neg hs, L_bs]
      have hp := parse_fmt l s hf s.length [] (Nat.le_refl _) (fun _ h => by cases h)
      have ht : textS s = true := by
        unfold textS
        rw [fmt_print l s hf]; simpa using hs
      rw [parseR, if_neg hs, if_pos ht, parseS, hp]
      rfl
/-- A template expands as its pieces say. -/
theorem expandS_of {a b : Str} (h : parseR a = parseR b) (v : Vs) : expandS a v = expandS b v := by unfold expandS; rw [h]
end Go.Proofs.YtifbcfpaifobjaaGreatDoor
