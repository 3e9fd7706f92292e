/-
  What templates are: pieces, how they are read. Plain functions; no program in sight but for the words of the kinds.
-/
import Derived.Test.YthcgkeiggnfgiaaGreatDoorForms
namespace Go.Proofs.YthcgkeiggnfgiaaGreatDoor
open Go.RowKit
/-- A piece. -/
structure Pc where
  kind : Int
  text : ByteArray
  word : Int
  more : Bool
def encPc (p : Pc) : List Value := [.int .i64 p.kind, .string p.text, .int .i64 p.word, .bool p.more]
theorem encPc_len (p : Pc) : (encPc p).length = 4 := rfl
def txt (t : ByteArray) : Pc := ⟨1, t, 0, false⟩
/-- The list with its last element changed. -/
def setLast (l : List Pc) (f : Pc → Pc) : List Pc := l.modify (l.length - 1) f
/-- A piece is added; a text is joined with one ahead of it. -/
def addP (l : List Pc) (p : Pc) : List Pc :=
  if p.kind = 1 ∧ (l.getLast?.map (·.kind)) = some 1 then setLast l fun q => { q with text := q.text ++ p.text } else l ++ [p]
def lowL : Str := [97, 98, 99, 100, 101, 102, 103, 104, 105, 106, 107, 108, 109, 110, 111, 112, 113, 114, 115, 116, 117, 118, 119, 120, 121, 122]
/-- How long the word is that says the kind. -/
def wordLen (long : Bool) (r : Str) : Nat := if long then r.length - (Lib.trimLeftS r lowL).length else min 1 r.length
theorem wordLen_le (long : Bool) (r : Str) : wordLen long r ≤ r.length := by unfold wordLen; split <;> omega
def isKind (long : Bool) (w : Str) (k : Nat) : Bool := !w.isEmpty && ((long && longN k == w) || (!long && shortN k == w))
/-- The kind that a word says; 0: none. -/
def kindOf (long : Bool) (w : Str) : Nat := ((List.range 12).find? (isKind long w)).getD 0
theorem find_first (p : Nat → Bool) (n k : Nat) (hk : k < n) (h1 : p k = true) (h0 : ∀ j, j < k → p j = false) : (List.range n).find? p = some k := by
  rw [List.find?_eq_some_iff_append]
  refine ⟨h1, List.range k, (List.range n).drop (k + 1), ?_, fun a ha => by rw [h0 a (List.mem_range.1 ha)]; rfl⟩
  have e1 : List.range k = (List.range n).take k := by rw [List.take_range]; congr 1; omega
  have e2 : k :: (List.range n).drop (k + 1) = (List.range n).drop k := by
    rw [List.drop_eq_getElem_cons (i := k) (by simpa using hk)]; simp
  rw [e1, e2, List.take_append_drop]
theorem kindOf_hit (long : Bool) (w : Str) (k : Nat) (hk : k < 12) (h1 : isKind long w k = true) (h0 : ∀ j, j < k → isKind long w j = false) : kindOf long w = k := by
  rw [kindOf, find_first _ 12 k hk h1 h0]; rfl
theorem kindOf_miss (long : Bool) (w : Str) (h0 : ∀ j, j < 12 → isKind long w j = false) : kindOf long w = 0 := by
  rw [kindOf, List.find?_eq_none.2 (fun x hx => by rw [h0 x (List.mem_range.1 hx)]; simp)]; rfl
theorem kindOf_lt (long : Bool) (w : Str) : kindOf long w < 12 := by
  unfold kindOf
  cases h : (List.range 12).find? (isKind long w) with
  | none => simp
  | some k => exact List.mem_range.1 (List.mem_of_find?_eq_some h)
/-- What stands in braces at the beginning, and the rest. -/
def bracesS (r : Str) : Option (Str × Str) :=
  match r with
  | [] => none
  | b :: t => if b = 123 then (if (Lib.cut t [125]).2.2 then some ((Lib.cut t [125]).1, (Lib.cut t [125]).2.1) else none) else none
/-- Which word of the result is meant. -/
def countS (t : Str) : Option (Int × Bool) :=
  match (List.range 100).find? (fun n => decide (1 ≤ n) && Lib.decDigits n == Lib.trimSuffix t [43]) with
  | some n => some (n, Lib.hasSuffix t [43])
  | none => none
/-- A piece of a known kind, and the rest. -/
def placeS (k : Nat) (r : Str) : Option (Pc × Str) :=
  if k = 0 then none
  else if k = 7 then (bracesS r).bind fun (t, r') => if validS t then some (⟨7, bs t, 0, false⟩, r') else none
  else if k = 8 then (bracesS r).bind fun (t, r') => if keyS t then some (⟨8, bs t, 0, false⟩, r') else none
  else if k = 9 ∧ r.head? = some 123 then (bracesS r).bind fun (t, r') => (countS t).map fun (n, m) => (⟨9, bs [], n, m⟩, r')
  else some (⟨k, bs [], 0, false⟩, r)
/-- A piece that begins with a sign, and the rest. -/
def pieceS (c : UInt8) (r : Str) : Option (Pc × Str) :=
  if r.head? = some c then some (txt (bs [c]), r.tail) else placeS (kindOf (c == 36) (r.take (wordLen (c == 36) r))) (r.drop (wordLen (c == 36) r))
def sign (c : UInt8) : Bool := c == 36 || c == 37
/-- The pieces of a text, behind those that have been read. -/
def parseF : Nat → Str → List Pc → Option (List Pc)
  | _, [], acc => some acc
  | 0, _ :: _, _ => none
  | n + 1, c :: r, acc => if sign c then match pieceS c r with
      | some (p, r') => parseF n r' (addP acc p)
      | none => none
    else parseF n r (addP acc (txt (bs [c])))
def parseS (s : Str) : Option (List Pc) := parseF s.length s []
theorem bs_append (a b : Str) : bs a ++ bs b = bs (a ++ b) := L_inj (by rw [L_append, L_bs, L_bs, L_bs])
theorem setLast_snoc (l : List Pc) (q : Pc) (f : Pc → Pc) : setLast (l ++ [q]) f = l ++ [f q] := by
  unfold setLast
  rw [List.length_append, List.length_singleton, Nat.add_sub_cancel, List.modify_eq_take_drop]
  simp []
theorem addP_txt (l : List Pc) (a b : Str) : addP (addP l (txt (bs a))) (txt (bs b)) = addP l (txt (bs (a ++ b))) := by
  rcases List.eq_nil_or_concat l with h | ⟨m, q, h⟩
  · subst h
    have e : addP [] (txt (bs a)) = [] ++ [txt (bs a)] := by simp [addP]
    rw [e]
    simp only [addP, List.getLast?_append, List.getLast?_singleton, Option.some_or, Option.map_some]
    simp [txt, bs_append, setLast]
  · rw [List.concat_eq_append] at h
    subst h
    by_cases hq : q.kind = 1
    · have e : ∀ t, addP (m ++ [q]) (txt t) = m ++ [{ q with text := q.text ++ t }] := fun t => by
        rw [addP, if_pos ⟨rfl, by simp [hq]⟩, setLast_snoc]; rfl
      rw [e, e, addP, if_pos ⟨rfl, by simp [hq]⟩, setLast_snoc]
      simp [txt, ByteArray.append_assoc, bs_append]
    · have e : ∀ t, addP (m ++ [q]) (txt t) = (m ++ [q]) ++ [txt t] := fun t => by
        rw [addP, if_neg (by simp [hq])]
      rw [e, e, addP, if_pos ⟨rfl, by simp [txt]⟩, setLast_snoc]
      simp [txt, bs_append]
/-- A run of other bytes is read at once. -/
theorem parseF_run (run rest : Str) (h : ∀ c ∈ run, sign c = false) (hr : run ≠ []) (n : Nat) (acc : List Pc) : parseF (n + run.length) (run ++ rest) acc = parseF n rest (addP acc (txt (bs run))) := by
  induction run generalizing acc with
  | nil => exact absurd rfl hr
  | cons c run ih =>
    have hc := h c (by simp)
    rw [List.length_cons, show n + (run.length + 1) = (n + run.length) + 1 from by omega, List.cons_append]
    rw [parseF, hc]
    simp only [Bool.false_eq_true, if_false]
    by_cases h0 : run = []
    · subst h0; rfl
    · rw [ih (fun d hd => h d (by simp [hd])) h0, addP_txt]; rfl
end Go.Proofs.YthcgkeiggnfgiaaGreatDoor
