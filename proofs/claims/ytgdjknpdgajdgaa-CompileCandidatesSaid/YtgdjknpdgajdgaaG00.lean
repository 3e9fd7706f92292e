/-
  Small facts on strings, lists and worlds, for the contracts of this seat; no program in sight.
  Contracts of package name: Text; the sets of bytes.
  Patterns: what a pattern's alternatives are, in plain words; no program in sight.
  What it is that a list of elements matches a text, in plain words; no program in sight. Both ways to find it out: the greedy one, and that by sets of places.
  Matching by sets of places, in plain words; no program in sight.
-/
import Derived.WalkKit
import Derived.WalkSpells
import Derived.WalkLawsBesides
import Derived.Handy
import Derived.LoopTactic
import Derived.Lib.Hide
import Derived.Deep.QuietTactic
import Derived.BigQuiet
import Derived.Deep.LoopGhost
import Derived.Deep.DeepFit
import Derived.Deep.RegionWith
import Derived.Deep.AppendLies
import Derived.StillTailTactics
import Derived.Deep.RegionHeld3
import Derived.Lib.Strings
import Derived.Test.YtgdjknpdgajdgaaProg
import Derived.Deep.WholeRow
namespace Go.Proofs.Ytgdjknpdgajdgaa
open Go.RowKit
/-- A text as the list of its bytes. -/
abbrev Str := List UInt8
abbrev L (s : ByteArray) : Str := s.data.toList
def bs (l : Str) : ByteArray := ⟨l.toArray⟩
theorem L_bs (l : Str) : L (bs l) = l := by simp [L, bs]
theorem bs_L (s : ByteArray) : bs (L s) = s := by simp [L, bs]
theorem size_bs (l : Str) : (bs l).size = l.length := by simp [bs, ByteArray.size]
theorem len_L (s : ByteArray) : (L s).length = s.size := Array.length_toList
theorem L_inj {a b : ByteArray} (h : L a = L b) : a = b := by rw [← bs_L a, ← bs_L b, h]
theorem L_get (s : ByteArray) (k : Nat) (h : k < s.size) : (L s)[k]'(by rw [len_L]; exact h) = s[k] := rfl
theorem eq_bs {r : ByteArray} {l : Str} (h : L r = l) : r = bs l := by rw [← h, bs_L]
theorem take_snoc (s : ByteArray) (k : Nat) (h : k < s.size) : (L s).take (k + 1) = (L s).take k ++ [s[k]] := by
  rw [List.take_succ_eq_append_getElem (by rw [len_L]; exact h)]; rfl
theorem drop_cons (s : ByteArray) (k : Nat) (h : k < s.size) : (L s).drop k = s[k] :: (L s).drop (k + 1) := by
  rw [List.drop_eq_getElem_cons (by rw [len_L]; exact h)]; rfl
theorem take_all (s : ByteArray) (k : Nat) (h : ¬ k < s.size) : (L s).take k = L s := List.take_of_length_le (by rw [len_L]; omega)
theorem tl (s : ByteArray) : s.toList = L s := Lib.toList_data s
theorem L_nil {s : ByteArray} (h : s.toList = []) : L s = [] := by rw [← tl]; exact h
theorem L_ne {s : ByteArray} (h : ¬ s.toList = []) : (L s).isEmpty = false := by rw [← tl]; cases hs : s.toList with | nil => exact absurd hs h | cons a b => rfl
theorem L_extract (s : ByteArray) (a b : Nat) : L (s.extract a b) = ((L s).take b).drop a := by
  simp only [L, ByteArray.data_extract, Array.toList_extract, List.extract_eq_take_drop]
  rw [List.drop_take]
theorem L_append (a b : ByteArray) : L (a ++ b) = L a ++ L b := by simp [L, ByteArray.data_append]
theorem size_extract (s : ByteArray) (a b : Nat) : (s.extract a b).size = min b s.size - a := by rw [← len_L, L_extract, List.length_drop, List.length_take, len_L]
/-- Two steps, the second told from where the first has ended. -/
theorem bt {w a b : World} (h : Below w.heap.size w a) (k : Below a.heap.size a b) : Below w.heap.size w b := h.trans (k.mono h.size)
theorem below_drewN {B : Nat} {a w : World} (h : Below B a w) (n : Nat) : Below B a (w.drewN n) := ⟨h.os, h.tape, h.output, h.size, h.block⟩
theorem ret_bool {a b : Bool} (h : a = b) : Ending.returned (.bool a) = .returned (.bool b) := by rw [h]
theorem ret_int {k : IntKind} {a b : Int} (h : a = b) : Ending.returned (.int k a) = .returned (.int k b) := by rw [h]
theorem ret_str {a b : ByteArray} (h : a = b) : Ending.returned (.string a) = .returned (.string b) := by rw [h]
end Go.Proofs.Ytgdjknpdgajdgaa
namespace Go.Proofs.Ytgdjknpdgajdgaa
open Go.RowKit
def pr (c : UInt8) : Bool := decide (32 ≤ (c.toNat : Int)) && decide ((c.toNat : Int) ≤ 126)
def printS (l : Str) : Bool := l.all pr
def textS (l : Str) : Bool := printS l && decide (l.length ≤ 256)
theorem printS_snoc (l : Str) (c : UInt8) : printS (l ++ [c]) = (printS l && pr c) := by simp [printS]
theorem printS_no {l : Str} {k : Nat} (s : ByteArray) (hk : k < s.size) (hl : L s = l) (h : pr s[k] = false) : printS l = false := by
  subst hl
  rw [printS, List.all_eq_false]
  exact ⟨s[k], by rw [← L_get s k hk]; exact List.getElem_mem _, by simp [h]⟩
set_option maxHeartbeats 400000 in
theorem Text_any (s : ByteArray) (w : World) (hs : s.size ≤ 9223372036854775807) :
    Calls Try.prog 61 #[.string s] w fun e w' => e = .returned (.bool (textS (L s))) ∧ w = w' := by
  go_enter Try.func61, Try.ntmps61
  go_wp2
  go_loop [6] (fun i => ∃ k : Nat, k ≤ s.size ∧ i = .int .i64 k ∧ Hid (printS ((L s).take k) = true)) (fun i => s.size - (intOf i).toNat)
  case atStart => exact ⟨0, Nat.zero_le _, rfl, rfl⟩
  case round =>
    obtain ⟨k, hk, rfl, hp⟩ := hrel
    go_wp2
    case roundEnd =>
      go_round
      case rel => exact ⟨k + 1, by omega, by go_num, by
        show printS _ = true
        rw [take_snoc s k (by omega), printS_snoc, hp.out]
        simp [pr]; omega⟩
      case measure => simp [intOf]; omega
    · go_ret
      exact ⟨ret_bool (by rw [textS, printS_no s (by assumption) rfl (by simp [pr]; omega)]; rfl), rfl⟩
    · go_ret
      exact ⟨ret_bool (by rw [textS, printS_no s (by assumption) rfl (by simp [pr]; omega)]; rfl), rfl⟩
    · go_ret
      refine ⟨ret_bool ?_, rfl⟩
      have h := hp.out
      rw [take_all s k (by assumption)] at h
      rw [textS, h, len_L]
      simp
      omega
def setA (f : Nat → Bool) : Array Value := Array.ofFn (n := 256) fun i => .bool (f i)
def addS (f : Nat → Bool) (l : Str) : Nat → Bool := fun c => f c || l.any fun b => b.toNat == c
def noneS : Nat → Bool := fun _ => false
theorem size_setA (f : Nat → Bool) : (setA f).size = 256 := by simp [setA]
theorem setA_get (f : Nat → Bool) (c : Nat) (h : c < 256) : (setA f)[c]? = some (.bool (f c)) := by
  simp [setA, h]
theorem below_setRow {B : Nat} {a w : World} (h : Below B a w) {g : Nat} (hg : B ≤ g) (cs : Array Value) : Below B a (w.setRow g cs) :=
  h.trans ⟨rfl, rfl, rfl, by simp, fun k hk => setRow_other w g k cs (by omega)⟩
theorem setA_set (f : Nat → Bool) (c : Nat) (h : c < 256) : (setA f).setIfInBounds c (.bool true) = setA (fun d => f d || d == c) := by
  apply Array.ext_getElem?
  intro i
  rw [Array.getElem?_setIfInBounds]
  by_cases e : c = i
  · subst e
    rw [if_pos rfl, if_pos (by rw [size_setA]; exact h), setA_get _ _ h]
    simp
  · have e' : (i == c) = false := by rw [beq_eq_false_iff_ne]; exact fun h => e h.symm
    rw [if_neg e]
    by_cases hi : i < 256
    · rw [setA_get _ _ hi, setA_get _ _ hi, e', Bool.or_false]
    · rw [Array.getElem?_eq_none (by rw [size_setA]; omega), Array.getElem?_eq_none (by rw [size_setA]; omega)]
theorem setA_one (f : Nat → Bool) : (setA f).all (·.oneCell') = true := by
  rw [Array.all_eq_true]
  intro i hi
  have h := setA_get f i (by rw [size_setA] at hi; exact hi)
  rw [Array.getElem?_eq_getElem hi] at h
  have h' := Option.some.inj h
  rw [h']
  simp [Value.oneCell']
theorem addS_nil (f : Nat → Bool) : addS f [] = f := by funext c; simp [addS]
attribute [irreducible] setA noneS
theorem addS_snoc (f : Nat → Bool) (l : Str) (b : UInt8) : (fun d => addS f l d || d == b.toNat) = addS f (l ++ [b]) := by
  funext d
  simp only [addS, List.any_append, List.any_cons, List.any_nil, Bool.or_false, Bool.or_assoc]
  rw [show (d == b.toNat) = (b.toNat == d) from by rw [Bool.eq_iff_iff]; simp; exact eq_comm]
def hasS (f : Nat → Bool) (l : Str) : Bool := l.all fun b => f b.toNat
theorem hasS_snoc (f : Nat → Bool) (l : Str) (c : UInt8) : hasS f (l ++ [c]) = (hasS f l && f c.toNat) := by simp [hasS]
theorem hasS_no {f : Nat → Bool} {l : Str} {k : Nat} (s : ByteArray) (hk : k < s.size) (hl : L s = l) (h : f s[k].toNat = false) : hasS f l = false := by
  subst hl
  rw [hasS, List.all_eq_false]
  exact ⟨s[k], by rw [← L_get s k hk]; exact List.getElem_mem _, by simp [h]⟩
end Go.Proofs.Ytgdjknpdgajdgaa
namespace Go.Proofs.Ytgdjknpdgajdgaa
/-- An element of an alternative. -/
inductive El where
  | lit (c : UInt8)
  | star
  | any
  | set (no : Bool) (rs : List (UInt8 × UInt8))
/-- The end of a range that goes on behind its first byte. -/
def rngS (r : Str) : Option UInt8 := if r.head? = some 45 then (match r[1]? with | some b => if b = 93 then none else some b | none => none) else none
/-- The members of a set, behind its beginning, and what follows its "]". -/
def membersS : Nat → Str → Option (List (UInt8 × UInt8) × Str)
  | 0, _ => none
  | _ + 1, [] => none
  | n + 1, c :: r =>
    if c = 93 then some ([], r)
    else match rngS r with
      | some b => if c ≤ b then (membersS n (r.drop 2)).map fun x => ((c, b) :: x.1, x.2) else none
      | none => (membersS n r).map fun x => ((c, c) :: x.1, x.2)
theorem membersS_fuel : ∀ (n : Nat) (r : Str), r.length ≤ n → ∀ m, r.length ≤ m → membersS n r = membersS m r
  | 0, r, h, m, _ => by
    have : r = [] := List.eq_nil_of_length_eq_zero (by omega)
    subst this
    cases m <;> rfl
  | n + 1, [], _, m, _ => by cases m <;> rfl
  | n + 1, c :: r, h, 0, h2 => by simp at h2
  | n + 1, c :: r, h, m + 1, h2 => by
    simp only [List.length_cons, Nat.add_le_add_iff_right] at h h2
    rw [membersS, membersS, membersS_fuel n r h m h2, membersS_fuel n (r.drop 2) (by rw [List.length_drop]; omega) m (by rw [List.length_drop]; omega)]
theorem membersS_len : ∀ (n : Nat) (r : Str) (x), membersS n r = some x → x.2.length < r.length
  | 0, _, _, h => by cases h
  | n + 1, [], _, h => by cases h
  | n + 1, c :: r, x, h => by
    rw [membersS] at h
    by_cases hc : c = 93
    · rw [if_pos hc] at h
      obtain rfl := Option.some.inj h
      simp
    rw [if_neg hc] at h
    have one : ∀ (q : Str) (a : UInt8 × UInt8), q.length ≤ r.length → ((membersS n q).map fun x => (a :: x.1, x.2)) = some x → x.2.length < (c :: r).length := fun q a hq h => by
      cases hm : membersS n q with
      | none => rw [hm] at h; cases h
      | some y =>
        rw [hm] at h
        obtain rfl := Option.some.inj h
        have := membersS_len n q y hm
        simp only [List.length_cons]
        omega
    cases hr : rngS r with
    | none => rw [hr] at h; exact one _ _ (Nat.le_refl _) h
    | some b =>
      rw [hr] at h
      dsimp only at h
      split at h
      · exact one _ _ (by rw [List.length_drop]; omega) h
      · cases h
/-- A set, behind a "!" or none. -/
def setQ (no : Bool) (q : Str) : Option (El × Str) := if q.head? = some 93 then none else (membersS q.length q).map fun x => (.set no x.1, x.2)
theorem setQ_len (no : Bool) (q : Str) (x) (h : setQ no q = some x) : x.2.length < q.length + 1 := by
  unfold setQ at h
  split at h
  · cases h
  · cases hm : membersS q.length q with
    | none => rw [hm] at h; cases h
    | some y =>
      rw [hm] at h
      obtain rfl := Option.some.inj h
      have h1 := membersS_len _ _ _ hm
      dsimp only
      omega
def setS (r : Str) : Option (El × Str) := if r.head? = some 33 then setQ true (r.drop 1) else setQ false r
theorem setS_len (r : Str) (x) (h : setS r = some x) : x.2.length < r.length + 1 := by
  unfold setS at h
  split at h
  · have := setQ_len _ _ _ h
    rw [List.length_drop] at this
    omega
  · exact setQ_len _ _ _ h
def elS (c : UInt8) (r : Str) : Option (El × Str) :=
  if c = 42 then some (.star, r) else if c = 63 then some (.any, r) else if c = 91 then setS r else some (.lit c, r)
def globF : Nat → Str → List (List El) → List El → Option (List (List El))
  | 0, _, _, _ => none
  | _ + 1, [], acc, cur => some (acc ++ [cur])
  | n + 1, c :: r, acc, cur => if c = 124 then globF n r (acc ++ [cur]) [] else match elS c r with
    | none => none
    | some (e, r') => globF n r' acc (cur ++ [e])
def globP (p : Str) : Option (List (List El)) := globF (p.length + 1) p [] []
def globS (p : Str) : Option (List (List El)) := if p.length ≤ 256 ∧ printS p = true then globP p else none
theorem elS_len (c : UInt8) (r : Str) (x) (h : elS c r = some x) : x.2.length < r.length + 1 := by
  unfold elS at h
  split at h
  · obtain rfl := Option.some.inj h; dsimp only; omega
  split at h
  · obtain rfl := Option.some.inj h; dsimp only; omega
  split at h
  · exact setS_len r x h
  · obtain rfl := Option.some.inj h; dsimp only; omega
/-- What is left to be read decides, whatever the fuel. -/
theorem globF_fuel : ∀ (n : Nat) (r : Str) (acc : List (List El)) (cur : List El), r.length < n → ∀ m, r.length < m → globF n r acc cur = globF m r acc cur
  | 0, r, _, _, h, _, _ => by omega
  | n + 1, _, _, _, _, 0, h2 => by omega
  | n + 1, [], _, _, _, m + 1, _ => rfl
  | n + 1, c :: r, acc, cur, h, m + 1, h2 => by
    simp only [List.length_cons, Nat.add_lt_add_iff_right] at h h2
    rw [globF, globF]
    by_cases hc : c = 124
    · rw [if_pos hc, if_pos hc]; exact globF_fuel n r _ _ h m h2
    rw [if_neg hc, if_neg hc]
    cases he : elS c r with
    | none => rfl
    | some x =>
      have := elS_len c r x he
      obtain ⟨e, r'⟩ := x
      dsimp only at this ⊢
      exact globF_fuel n r' _ _ (by omega) m (by omega)
/-- One step. -/
def globK (r : Str) (acc : List (List El)) (cur : List El) : Option (List (List El)) := globF (r.length + 1) r acc cur
theorem globK_nil (acc : List (List El)) (cur : List El) : globK [] acc cur = some (acc ++ [cur]) := rfl
theorem globK_bar (r : Str) (acc : List (List El)) (cur : List El) : globK (124 :: r) acc cur = globK r (acc ++ [cur]) [] := by
  unfold globK; rw [List.length_cons, globF, if_pos rfl]
theorem globK_el (c : UInt8) (r : Str) (acc : List (List El)) (cur : List El) (hc : c ≠ 124) (e : El) (r' : Str) (he : elS c r = some (e, r')) : globK (c :: r) acc cur = globK r' acc (cur ++ [e]) := by
  unfold globK
  rw [List.length_cons, globF, if_neg hc, he]
  have := elS_len c r _ he
  dsimp only at this ⊢
  exact globF_fuel _ _ _ _ (by omega) _ (by omega)
theorem globK_no (c : UInt8) (r : Str) (acc : List (List El)) (cur : List El) (hc : c ≠ 124) (he : elS c r = none) : globK (c :: r) acc cur = none := by
  unfold globK; rw [List.length_cons, globF, if_neg hc, he]
/-- The bytes of an element: as the program has them, and as the reference has them. -/
def inRs (rs : List (UInt8 × UInt8)) (c : Nat) : Bool := rs.any fun x => decide (x.1.toNat ≤ c) && decide (c ≤ x.2.toNat)
def El.has : El → Nat → Bool
  | .lit b, c => b.toNat == c
  | .star, c => decide (32 ≤ c) && decide (c ≤ 126)
  | .any, c => decide (32 ≤ c) && decide (c ≤ 126)
  | .set no rs, c => if no then decide (32 ≤ c) && decide (c ≤ 126) && !inRs rs c else inRs rs c
def El.isStar : El → Bool
  | .star => true
  | _ => false
def El.litN : El → Nat
  | .lit b => b.toNat
  | _ => 0
/-- What is left is an end of what there was. -/
theorem membersS_suf : ∀ (n : Nat) (r : Str) (x), membersS n r = some x → ∃ m, 1 ≤ m ∧ m ≤ r.length ∧ x.2 = r.drop m
  | 0, _, _, h => by cases h
  | n + 1, [], _, h => by cases h
  | n + 1, c :: r, x, h => by
    rw [membersS] at h
    by_cases hc : c = 93
    · rw [if_pos hc] at h
      obtain rfl := Option.some.inj h
      exact ⟨1, Nat.le_refl _, by simp, rfl⟩
    rw [if_neg hc] at h
    have one : ∀ (k : Nat) (a : UInt8 × UInt8), ((membersS n (r.drop k)).map fun x => (a :: x.1, x.2)) = some x → ∃ m, 1 ≤ m ∧ m ≤ (c :: r).length ∧ x.2 = (c :: r).drop m := fun k a h => by
      cases hm : membersS n (r.drop k) with
      | none => rw [hm] at h; cases h
      | some y =>
        rw [hm] at h
        obtain rfl := Option.some.inj h
        obtain ⟨m, m1, m2, e⟩ := membersS_suf n _ y hm
        rw [List.length_drop] at m2
        refine ⟨k + m + 1, by omega, by simp only [List.length_cons]; omega, ?_⟩
        rw [List.drop_succ_cons, ← List.drop_drop]
        exact e
    cases hr : rngS r with
    | none => rw [hr] at h; exact one 0 _ h
    | some b =>
      rw [hr] at h
      dsimp only at h
      split at h
      · exact one 2 _ h
      · cases h
theorem setQ_suf (no : Bool) (q : Str) (x) (h : setQ no q = some x) : (∃ rs, x.1 = .set no rs) ∧ ∃ m, 1 ≤ m ∧ m ≤ q.length ∧ x.2 = q.drop m := by
  unfold setQ at h
  split at h
  · cases h
  · cases hm : membersS q.length q with
    | none => rw [hm] at h; cases h
    | some y =>
      rw [hm] at h
      obtain rfl := Option.some.inj h
      exact ⟨⟨_, rfl⟩, membersS_suf _ _ _ hm⟩
theorem setS_suf (r : Str) (x) (h : setS r = some x) : (∃ no rs, x.1 = .set no rs) ∧ ∃ m, 1 ≤ m ∧ m ≤ r.length ∧ x.2 = r.drop m := by
  unfold setS at h
  split at h
  · obtain ⟨⟨rs, e⟩, m, m1, m2, e2⟩ := setQ_suf _ _ _ h
    rw [List.length_drop] at m2
    refine ⟨⟨_, _, e⟩, 1 + m, by omega, ?_, ?_⟩
    · omega
    · rw [e2, List.drop_drop]
  · obtain ⟨⟨rs, e⟩, h2⟩ := setQ_suf _ _ _ h
    exact ⟨⟨_, _, e⟩, h2⟩
def globE (s : Str) : Int := if 256 < s.length then 21 else if (globS s).isSome then 0 else 20
end Go.Proofs.Ytgdjknpdgajdgaa
namespace Go.Proofs.Ytgdjknpdgajdgaa
section
variable {α : Type} (star : α → Bool) (has : α → UInt8 → Bool)
def matchS : List α → Str → Bool
  | [], s => s.isEmpty
  | e :: l, [] => star e && matchS l []
  | e :: l, c :: s => if star e then matchS l (c :: s) || matchS (e :: l) s else has e c && matchS l s
termination_by l s => (l.length, s.length)
theorem match_star {e : α} {l : List α} {s : Str} (h : star e = true) : matchS star has (e :: l) s = true ↔ ∃ j, j ≤ s.length ∧ matchS star has l (s.drop j) = true := by
  induction s with
  | nil =>
    rw [matchS, h, Bool.true_and]
    exact ⟨fun h => ⟨0, Nat.le_refl _, h⟩, fun ⟨j, hj, h⟩ => by obtain rfl : j = 0 := Nat.le_zero.1 hj; exact h⟩
  | cons c s ih =>
    rw [matchS, if_pos h, Bool.or_eq_true, ih]
    constructor
    · rintro (h | ⟨j, hj, h⟩)
      · exact ⟨0, Nat.zero_le _, h⟩
      · exact ⟨j + 1, by simpa using hj, h⟩
    · rintro ⟨j, hj, h⟩
      cases j with
      | zero => exact Or.inl h
      | succ j => exact Or.inr ⟨j, by simpa using hj, h⟩
theorem match_lit {e : α} {l : List α} {c : UInt8} {s : Str} (h : star e = false) : matchS star has (e :: l) (c :: s) = (has e c && matchS star has l s) := by
  rw [matchS, if_neg (by rw [h]; simp)]
theorem match_lit_nil {e : α} {l : List α} (h : star e = false) : matchS star has (e :: l) [] = false := by
  rw [matchS, h]; rfl
theorem match_skip {e : α} {l : List α} {s : Str} (h : star e = true) (hm : matchS star has l s = true) : matchS star has (e :: l) s = true :=
  (match_star star has h).2 ⟨0, Nat.zero_le _, hm⟩
theorem match_eat {e : α} {l : List α} {c : UInt8} {s : Str} (h : star e = true) (hm : matchS star has (e :: l) s = true) : matchS star has (e :: l) (c :: s) = true := by
  rw [matchS, if_pos h, hm, Bool.or_true]
/-- A star takes any head of the text. -/
theorem match_take {e : α} {l : List α} {s : Str} (h : star e = true) : ∀ j, j ≤ s.length → matchS star has (e :: l) (s.drop j) = true → matchS star has (e :: l) s = true := by
  intro j hj hm
  obtain ⟨k, hk, hm⟩ := (match_star star has h).1 hm
  rw [List.drop_drop] at hm
  rw [List.length_drop] at hk
  exact (match_star star has h).2 ⟨j + k, by omega, hm⟩
/-- Elements that are no stars take a byte each. -/
theorem match_run {l : List α} : ∀ (m : Nat) (s : Str), m ≤ l.length → (∀ x ∈ l.take m, star x = false) → matchS star has l s = true → m ≤ s.length ∧ matchS star has (l.drop m) (s.drop m) = true := by
  induction l with
  | nil => intro m s hm _ h; obtain rfl : m = 0 := Nat.le_zero.1 hm; exact ⟨Nat.zero_le _, h⟩
  | cons e l ih =>
    intro m s hm hno h
    cases m with
    | zero => exact ⟨Nat.zero_le _, h⟩
    | succ m =>
      have he := hno e (by simp)
      cases s with
      | nil => rw [match_lit_nil star has he] at h; cases h
      | cons c s =>
        rw [match_lit star has he, Bool.and_eq_true] at h
        obtain ⟨h1, h2⟩ := ih m s (by simpa using hm) (fun x hx => hno x (by simp [hx])) h.2
        exact ⟨by simpa using h1, h2⟩
/-- The greedy way under way: the elements from at on and the text from i on, or the last star, the text that goes on at f, taken anew. -/
structure Greedy (l : List α) (s : Str) (at_ i : Nat) (st : Option (Nat × Nat)) : Prop where
  le_at : at_ ≤ l.length
  le_i : i ≤ s.length
  eq : matchS star has l s = true ↔ matchS star has (l.drop at_) (s.drop i) = true ∨ ∃ k f, st = some (k, f) ∧ f < s.length ∧ matchS star has (l.drop k) (s.drop (f + 1)) = true
  last : ∀ k f, st = some (k, f) → k < at_ ∧ (∃ h : k < l.length, star l[k] = true) ∧ f ≤ i ∧ i = f + (at_ - (k + 1)) ∧ ∀ x ∈ (l.drop (k + 1)).take (at_ - (k + 1)), star x = false
theorem Greedy.start (l : List α) (s : Str) : Greedy star has l s 0 0 none :=
  ⟨Nat.zero_le _, Nat.zero_le _, ⟨fun h => Or.inl h, fun h => by rcases h with h | ⟨_, _, h, _⟩; exact h; cases h⟩, fun _ _ h => by cases h⟩
variable {star has}
theorem Greedy.atStar {l : List α} {s : Str} {at_ i : Nat} {st : Option (Nat × Nat)} (h : Greedy star has l s at_ i st) (ha : at_ < l.length) (hs : star l[at_] = true) : Greedy star has l s (at_ + 1) i (some (at_, i)) := by
  have hd : l.drop at_ = l[at_] :: l.drop (at_ + 1) := List.drop_eq_getElem_cons ha
  refine ⟨ha, h.le_i, h.eq.trans ?_, fun k f e => ?_⟩
  · constructor
    · intro h1
      have h2 : matchS star has (l.drop at_) (s.drop i) = true := by
        rcases h1 with h1 | ⟨k, f, e, hf, h1⟩
        · exact h1
        · obtain ⟨hk, ⟨hkl, hks⟩, hfi, hi, hno⟩ := h.last k f e
          rw [List.drop_eq_getElem_cons hkl] at h1
          obtain ⟨j, hj, h1⟩ := (match_star star has hks).1 h1
          rw [List.drop_drop] at h1
          rw [List.length_drop] at hj
          obtain ⟨h2, h3⟩ := match_run star has (at_ - (k + 1)) _ (by rw [List.length_drop]; omega) hno h1
          rw [List.drop_drop, List.drop_drop, show k + 1 + (at_ - (k + 1)) = at_ by omega, hd] at h3
          rw [List.length_drop] at h2
          rw [hd]
          refine match_take star has hs (j + 1) (by rw [List.length_drop]; omega) ?_
          rw [List.drop_drop, show i + (j + 1) = f + 1 + j + (at_ - (k + 1)) by omega]
          exact h3
      rw [hd] at h2
      obtain ⟨j, hj, h2⟩ := (match_star star has hs).1 h2
      cases j with
      | zero => exact Or.inl h2
      | succ j =>
        rw [List.length_drop] at hj
        refine Or.inr ⟨at_, i, rfl, by omega, ?_⟩
        rw [hd]
        refine (match_star star has hs).2 ⟨j, by rw [List.length_drop]; omega, ?_⟩
        rw [List.drop_drop] at h2 ⊢
        rw [show i + 1 + j = i + (j + 1) by omega]
        exact h2
    · rintro (h1 | ⟨k, f, e, hf, h1⟩)
      · left; rw [hd]; exact match_skip star has hs h1
      · obtain ⟨rfl, rfl⟩ : at_ = k ∧ i = f := by injection e with e; injection e with e1 e2; exact ⟨e1, e2⟩
        left
        rw [hd] at h1 ⊢
        refine match_take star has hs 1 (by rw [List.length_drop]; omega) ?_
        rw [List.drop_drop]; exact h1
  · obtain ⟨rfl, rfl⟩ : at_ = k ∧ i = f := by injection e with e; injection e with e1 e2; exact ⟨e1, e2⟩
    exact ⟨by omega, ⟨ha, hs⟩, Nat.le_refl _, by omega, fun x hx => by simp at hx⟩
theorem Greedy.atByte {l : List α} {s : Str} {at_ i : Nat} {st : Option (Nat × Nat)} (h : Greedy star has l s at_ i st) (ha : at_ < l.length) (hi : i < s.length) (hs : star l[at_] = false) (hb : has l[at_] s[i] = true) : Greedy star has l s (at_ + 1) (i + 1) st := by
  have hd : l.drop at_ = l[at_] :: l.drop (at_ + 1) := List.drop_eq_getElem_cons ha
  have hd2 : s.drop i = s[i] :: s.drop (i + 1) := List.drop_eq_getElem_cons hi
  refine ⟨ha, hi, h.eq.trans ?_, fun k f e => ?_⟩
  · rw [hd, hd2, match_lit star has hs, hb, Bool.true_and]
  · obtain ⟨hk, hks, hfi, hi2, hno⟩ := h.last k f e
    refine ⟨by omega, hks, by omega, by omega, fun x hx => ?_⟩
    rw [show at_ + 1 - (k + 1) = (at_ - (k + 1)) + 1 by omega, List.take_add_one] at hx
    rcases List.mem_append.1 hx with hx | hx
    · exact hno x hx
    · rw [List.getElem?_drop, show k + 1 + (at_ - (k + 1)) = at_ by omega, List.getElem?_eq_getElem ha] at hx
      obtain rfl := List.mem_singleton.1 hx
      exact hs
/-- Neither a star nor the byte. -/
theorem greedy_dead {l : List α} {s : Str} {at_ i : Nat} (hi : i < s.length) (hs : ∀ h : at_ < l.length, star l[at_] = false ∧ has l[at_] s[i] = false) : matchS star has (l.drop at_) (s.drop i) = false := by
  have hd2 : s.drop i = s[i] :: s.drop (i + 1) := List.drop_eq_getElem_cons hi
  rcases Nat.lt_or_ge at_ l.length with ha | ha
  · obtain ⟨h1, h2⟩ := hs ha
    rw [List.drop_eq_getElem_cons ha, hd2, match_lit star has h1, h2]; rfl
  · rw [List.drop_of_length_le ha, hd2, matchS]; rfl
theorem Greedy.goBack {l : List α} {s : Str} {at_ i k f : Nat} (h : Greedy star has l s at_ i (some (k, f))) (hi : i < s.length) (hs : ∀ h : at_ < l.length, star l[at_] = false ∧ has l[at_] s[i] = false) : Greedy star has l s (k + 1) (f + 1) (some (k, f + 1)) := by
  obtain ⟨hk, ⟨hkl, hks⟩, hfi, hi2, hno⟩ := h.last k f rfl
  have hd : l.drop k = l[k] :: l.drop (k + 1) := List.drop_eq_getElem_cons hkl
  refine ⟨hkl, by omega, h.eq.trans ?_, fun k2 f2 e => ?_⟩
  · rw [greedy_dead hi hs]
    constructor
    · rintro (h1 | ⟨k2, f2, e, hf, h1⟩)
      · cases h1
      · obtain ⟨rfl, rfl⟩ : k = k2 ∧ f = f2 := by injection e with e; injection e with e1 e2; exact ⟨e1, e2⟩
        rw [hd] at h1
        obtain ⟨j, hj, h1⟩ := (match_star star has hks).1 h1
        rw [List.drop_drop] at h1
        rw [List.length_drop] at hj
        cases j with
        | zero => exact Or.inl h1
        | succ j =>
          refine Or.inr ⟨k, f + 1, rfl, by omega, ?_⟩
          rw [hd]
          refine (match_star star has hks).2 ⟨j, by rw [List.length_drop]; omega, ?_⟩
          rw [List.drop_drop, show f + 1 + 1 + j = f + 1 + (j + 1) by omega]
          exact h1
    · rintro (h1 | ⟨k2, f2, e, hf, h1⟩)
      · refine Or.inr ⟨k, f, rfl, by omega, ?_⟩
        rw [hd]; exact match_skip star has hks h1
      · obtain ⟨rfl, rfl⟩ : k = k2 ∧ f + 1 = f2 := by injection e with e; injection e with e1 e2; exact ⟨e1, e2⟩
        refine Or.inr ⟨k, f, rfl, by omega, ?_⟩
        rw [hd] at h1 ⊢
        refine match_take star has hks 1 (by rw [List.length_drop]; omega) ?_
        rw [List.drop_drop]; exact h1
  · obtain ⟨rfl, rfl⟩ : k = k2 ∧ f + 1 = f2 := by injection e with e; injection e with e1 e2; exact ⟨e1, e2⟩
    exact ⟨by omega, ⟨hkl, hks⟩, Nat.le_refl _, by omega, fun x hx => by simp at hx⟩
theorem Greedy.fails {l : List α} {s : Str} {at_ i : Nat} (h : Greedy star has l s at_ i none) (hi : i < s.length) (hs : ∀ h : at_ < l.length, star l[at_] = false ∧ has l[at_] s[i] = false) : matchS star has l s = false := by
  rw [Bool.eq_false_iff]
  intro h1
  rcases h.eq.1 h1 with h2 | ⟨_, _, e, _⟩
  · rw [greedy_dead hi hs] at h2; cases h2
  · cases e
/-- At the end of the text. -/
theorem Greedy.done {l : List α} {s : Str} {at_ : Nat} {st : Option (Nat × Nat)} (h : Greedy star has l s at_ s.length st) : matchS star has l s = matchS star has (l.drop at_) [] := by
  rw [Bool.eq_iff_iff, h.eq, List.drop_length]
  constructor
  · rintro (h1 | ⟨k, f, e, hf, h1⟩)
    · exact h1
    · obtain ⟨hk, ⟨hkl, hks⟩, hfi, hi2, hno⟩ := h.last k f e
      rw [List.drop_eq_getElem_cons hkl] at h1
      obtain ⟨j, hj, h1⟩ := (match_star star has hks).1 h1
      rw [List.drop_drop] at h1
      rw [List.length_drop] at hj
      obtain ⟨h2, _⟩ := match_run star has (at_ - (k + 1)) _ (by rw [List.length_drop]; have := h.le_at; omega) hno h1
      rw [List.length_drop] at h2
      omega
  · exact Or.inl
theorem match_nil_star {l : List α} {k : Nat} (hk : k < l.length) (hs : star l[k] = true) : matchS star has (l.drop k) [] = matchS star has (l.drop (k + 1)) [] := by
  rw [List.drop_eq_getElem_cons hk, matchS, hs, Bool.true_and]
theorem match_nil_end {l : List α} {k : Nat} (hs : ∀ h : k < l.length, star l[k] = false) (hk : k ≤ l.length) : matchS star has (l.drop k) [] = decide (k = l.length) := by
  rcases Nat.lt_or_ge k l.length with h | h
  · rw [List.drop_eq_getElem_cons h, match_lit_nil star has (hs h)]
    simp; omega
  · rw [List.drop_of_length_le h, matchS]
    simp; omega
end
end Go.Proofs.Ytgdjknpdgajdgaa
namespace Go.Proofs.Ytgdjknpdgajdgaa
section
variable {α : Type} (star : α → Bool) (has : α → UInt8 → Bool)
/-- From one of the places the text is matched. -/
def FromP (l : List α) (a : List Bool) (t : Str) : Prop := ∃ i, a[i]? = some true ∧ matchS star has (l.drop i) t = true
/-- Places that go on without a byte as far as m. -/
structure ClosedP (l : List α) (m : Nat) (a : List Bool) : Prop where
  len : a.length = l.length + 1
  go : ∀ i (h : i < l.length), i < m → star l[i] = true → a[i]? = some true → a[i + 1]? = some true
theorem set_true {a : List Bool} {j i : Nat} (h : (a.set j true)[i]? = some true) : a[i]? = some true ∨ (i = j ∧ j < a.length) := by
  rw [List.getElem?_set] at h
  split at h
  · split at h
    · exact Or.inr ⟨by omega, by omega⟩
    · cases h
  · exact Or.inl h
theorem set_keeps {a : List Bool} {j i : Nat} (h : a[i]? = some true) : (a.set j true)[i]? = some true := by
  rw [List.getElem?_set]
  have := (List.getElem?_eq_some_iff.1 h).1
  split
  · rename_i e
    subst e
    rw [if_pos this]
  · exact h
theorem set_here {a : List Bool} {j : Nat} (h : j < a.length) : (a.set j true)[j]? = some true := by rw [List.getElem?_set, if_pos rfl, if_pos h]
variable {star has}
theorem ClosedP.zero {l : List α} {a : List Bool} (h : a.length = l.length + 1) : ClosedP star l 0 a := ⟨h, fun _i _ hi => absurd hi (Nat.not_lt_zero _)⟩
theorem ClosedP.skip {l : List α} {m : Nat} {a : List Bool} (h : ClosedP star l m a) (hm : m < l.length) (hs : star l[m] = true → a[m]? = some true → False) : ClosedP star l (m + 1) a :=
  ⟨h.len, fun i hi him h1 h2 => by
    rcases (by omega : i < m ∨ i = m) with hlt | rfl
    · exact h.go i hi hlt h1 h2
    · exact (hs h1 h2).elim⟩
theorem ClosedP.put {l : List α} {m : Nat} {a : List Bool} (h : ClosedP star l m a) (hm : m < l.length) : ClosedP star l (m + 1) (a.set (m + 1) true) :=
  ⟨by rw [List.length_set]; exact h.len, fun i hi him h1 h2 => by
    rcases set_true h2 with h2 | ⟨e, _⟩
    · rcases (by omega : i < m ∨ i = m) with hlt | rfl
      · exact set_keeps (h.go i hi hlt h1 h2)
      · exact set_here (by rw [h.len]; omega)
    · omega⟩
theorem FromP.mono {l : List α} {a b : List Bool} {t : Str} (h : FromP star has l a t) (hab : ∀ i : Nat, a[i]? = some true → b[i]? = some true) : FromP star has l b t := by
  obtain ⟨i, h1, h2⟩ := h
  exact ⟨i, hab i h1, h2⟩
theorem FromP.put {l : List α} {m : Nat} {a : List Bool} {t : Str} (hm : m < l.length) (hs : star l[m] = true) (ha : a[m]? = some true) : FromP star has l (a.set (m + 1) true) t ↔ FromP star has l a t := by
  constructor
  · rintro ⟨i, h1, h2⟩
    rcases set_true h1 with h1 | ⟨rfl, _⟩
    · exact ⟨i, h1, h2⟩
    · refine ⟨m, ha, ?_⟩
      rw [List.drop_eq_getElem_cons hm]
      exact match_skip star has hs h2
  · intro h
    exact FromP.mono h fun i => set_keeps
/-- The places behind a byte, as far as the places below m give them. -/
structure NextP (star : α → Bool) (has : α → UInt8 → Bool) (l : List α) (a : List Bool) (c : UInt8) (m : Nat) (nx : List Bool) : Prop where
  len : nx.length = l.length + 1
  sound : ∀ j, nx[j]? = some true → (∃ h : j < l.length, star l[j] = true ∧ a[j]? = some true) ∨ ∃ i, j = i + 1 ∧ ∃ h : i < l.length, star l[i] = false ∧ has l[i] c = true ∧ a[i]? = some true
  comp : ∀ i (h : i < l.length), i < m → a[i]? = some true → (star l[i] = true → nx[i]? = some true) ∧ (star l[i] = false → has l[i] c = true → nx[i + 1]? = some true)
theorem NextP.start (l : List α) (a : List Bool) (c : UInt8) : NextP star has l a c 0 (List.replicate (l.length + 1) false) :=
  ⟨by simp, fun j h => (by rw [List.getElem?_replicate] at h; split at h <;> cases h), fun i _ hi => absurd hi (Nat.not_lt_zero _)⟩
theorem NextP.skip {l : List α} {a nx : List Bool} {c : UInt8} {m : Nat} (h : NextP star has l a c m nx) (hm : m < l.length) (hs : a[m]? = some true → star l[m] = false ∧ has l[m] c = false) : NextP star has l a c (m + 1) nx :=
  ⟨h.len, h.sound, fun i hi him ha => by
    rcases (by omega : i < m ∨ i = m) with hlt | rfl
    · exact h.comp i hi hlt ha
    · obtain ⟨h1, h2⟩ := hs ha
      exact ⟨fun h => (Bool.false_ne_true (h1.symm.trans h)).elim, fun _ h => (Bool.false_ne_true (h2.symm.trans h)).elim⟩⟩
theorem NextP.atStar {l : List α} {a nx : List Bool} {c : UInt8} {m : Nat} (h : NextP star has l a c m nx) (hm : m < l.length) (ha : a[m]? = some true) (hs : star l[m] = true) : NextP star has l a c (m + 1) (nx.set m true) :=
  ⟨by rw [List.length_set]; exact h.len, fun j hj => by
    rcases set_true hj with hj | ⟨rfl, _⟩
    · exact h.sound j hj
    · exact Or.inl ⟨hm, hs, ha⟩, fun i hi him ha => by
    rcases (by omega : i < m ∨ i = m) with hlt | rfl
    · obtain ⟨h1, h2⟩ := h.comp i hi hlt ha
      exact ⟨fun h => set_keeps (h1 h), fun h h' => set_keeps (h2 h h')⟩
    · exact ⟨fun _ => set_here (by rw [h.len]; omega), fun h => (Bool.false_ne_true (h.symm.trans hs)).elim⟩⟩
theorem NextP.atByte {l : List α} {a nx : List Bool} {c : UInt8} {m : Nat} (h : NextP star has l a c m nx) (hm : m < l.length) (ha : a[m]? = some true) (hs : star l[m] = false) (hb : has l[m] c = true) : NextP star has l a c (m + 1) (nx.set (m + 1) true) :=
  ⟨by rw [List.length_set]; exact h.len, fun j hj => by
    rcases set_true hj with hj | ⟨rfl, _⟩
    · exact h.sound j hj
    · exact Or.inr ⟨m, rfl, hm, hs, hb, ha⟩, fun i hi him ha => by
    rcases (by omega : i < m ∨ i = m) with hlt | rfl
    · obtain ⟨h1, h2⟩ := h.comp i hi hlt ha
      exact ⟨fun h => set_keeps (h1 h), fun h h' => set_keeps (h2 h h')⟩
    · exact ⟨fun h => (Bool.false_ne_true (hs.symm.trans h)).elim, fun _ _ => set_here (by rw [h.len]; omega)⟩⟩
theorem next_same {l : List α} {a nx : List Bool} {c : UInt8} {m : Nat} {t : Str} (h : NextP star has l a c m nx) (hm : l.length ≤ m) (hc : ClosedP star l l.length a) : FromP star has l nx t ↔ FromP star has l a (c :: t) := by
  constructor
  · rintro ⟨j, h1, h2⟩
    rcases h.sound j h1 with ⟨hj, hs, ha⟩ | ⟨i, rfl, hi, hs, hb, ha⟩
    · refine ⟨j, ha, ?_⟩
      rw [List.drop_eq_getElem_cons hj] at h2 ⊢
      exact match_eat star has hs h2
    · refine ⟨i, ha, ?_⟩
      rw [List.drop_eq_getElem_cons hi, match_lit star has hs, hb, h2]; rfl
  · rintro ⟨i, h1, h2⟩
    suffices hh : ∀ n i, l.length - i = n → a[i]? = some true → matchS star has (l.drop i) (c :: t) = true → FromP star has l nx t from hh _ i rfl h1 h2
    intro n
    induction n with
    | zero =>
      intro i hi _ h2
      rw [List.drop_of_length_le (by omega), matchS] at h2
      cases h2
    | succ n ih =>
      intro i hi h1 h2
      have hl : i < l.length := by omega
      obtain ⟨k1, k2⟩ := h.comp i hl (by omega) h1
      rw [List.drop_eq_getElem_cons hl] at h2
      cases hs : star l[i] with
      | true =>
        rw [matchS, if_pos hs, Bool.or_eq_true] at h2
        rcases h2 with h2 | h2
        · exact ih (i + 1) (by omega) (hc.go i hl hl hs h1) h2
        · exact ⟨i, k1 hs, by rw [List.drop_eq_getElem_cons hl]; exact h2⟩
      | false =>
        rw [match_lit star has hs, Bool.and_eq_true] at h2
        exact ⟨i + 1, k2 hs h2.1, h2.2⟩
/-- At the end of the text. -/
theorem from_nil {l : List α} {a : List Bool} (hc : ClosedP star l l.length a) : FromP star has l a [] ↔ a[l.length]? = some true := by
  constructor
  · rintro ⟨i, h1, h2⟩
    suffices hh : ∀ n i, l.length - i = n → a[i]? = some true → matchS star has (l.drop i) [] = true → a[l.length]? = some true from hh _ i rfl h1 h2
    intro n
    induction n with
    | zero =>
      intro i hi h1 _
      have := (List.getElem?_eq_some_iff.1 h1).1
      rw [hc.len] at this
      rw [show l.length = i by omega]; exact h1
    | succ n ih =>
      intro i hi h1 h2
      have hl : i < l.length := by omega
      rw [List.drop_eq_getElem_cons hl, matchS, Bool.and_eq_true] at h2
      exact ih (i + 1) (by omega) (hc.go i hl hl h2.1 h1) h2.2
  · intro h
    exact ⟨l.length, h, by rw [List.drop_length, matchS]; rfl⟩
/-- At the beginning. -/
theorem from_start {l : List α} {a : List Bool} {s : Str} (h0 : a[0]? = some true) (h1 : ∀ i, a[i]? = some true → i = 0) : FromP star has l a s ↔ matchS star has l s = true := by
  constructor
  · rintro ⟨i, h2, h3⟩
    obtain rfl := h1 i h2
    exact h3
  · intro h
    exact ⟨0, h0, h⟩
end
end Go.Proofs.Ytgdjknpdgajdgaa
