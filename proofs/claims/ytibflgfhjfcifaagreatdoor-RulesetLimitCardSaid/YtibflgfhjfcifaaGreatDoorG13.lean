/-
  What is wrong with terms, in plain words; no program in sight.
  Tokens and lines, in plain words; no program in sight.
  Contracts of the reference's package for patterns: byteOK, Printable, set.
-/
import Derived.Test.YtibflgfhjfcifaaGreatDoorG07
import Derived.Test.YtibflgfhjfcifaaGreatDoorG08
import Derived.Test.YtibflgfhjfcifaaGreatDoorG12
import Derived.Test.YtibflgfhjfcifaaGreatDoorG00
import Derived.Lib.AppendIntMem
import Derived.Lib.Replace
import Derived.Lib.Bytes2
import Derived.Deep.Cut
import Derived.Deep.CutRange
import Derived.Deep.CutBlock
namespace Go.Proofs.YtibflgfhjfcifaaGreatDoor
def programL : Str := [112, 114, 111, 103, 114, 97, 109]
def parentL : Str := [112, 97, 114, 101, 110, 116]
def builtinL : Str := [98, 117, 105, 108, 116, 105, 110]
def pathL : Str := [112, 97, 116, 104]
def contentL : Str := [99, 111, 110, 116, 101, 110, 116]
def netL : Str := [110, 101, 116]
def matchB (op : Int) : Bool := op == 1 || op == 2
def namedB (k : Int) (nm : Str) : Bool :=
 if k = 5 ∨ k = 11 then validS nm else if k = 6 then keyS nm else if k = 14 then nm == programL || nm == parentL || nm == builtinL else nm.isEmpty
def opsK (k : Int) : List Int :=
 if k = 6 then [3, 4] else if k = 7 then [3, 4, 5] else if k = 15 ∨ k = 17 ∨ k = 18 ∨ k = 19 then [3, 6] else if k = 16 then [3, 4, 5, 6] else if k = 20 then [3, 4, 6] else if k = 21 then [4] else if k = 22 ∨ k = 23 ∨ k = 24 then [3] else []
def allowedB (k op : Int) : Bool := if matchB op then decide (k ≤ 14) else (opsK k).contains op
def priS (s : Str) : Bool := (List.range 2001).any fun n => Lib.itoa ((n : Int) - 1000) == s
def globE (s : Str) : Int := if 256 < s.length then 21 else if (globS s).isSome then 0 else 20
def patB (s : Str) : Bool := globE s == 0
def tmplB (s : Str) : Bool := (parseR s).2 == 0
def rightB (k op : Int) (nm v : Str) : Bool :=
 if k = 22 then priS v else if k = 23 ∨ k = 24 then validS v
 else if k = 14 then (if nm = builtinL then v == pathL || v == contentL || v == netL else if nm = programL then tmplB v else patB v)
 else if matchB op = true ∧ k ≠ 12 then patB v else tmplB v
def termE (t : Tm) : Int :=
 if t.key < 1 ∨ 24 < t.key then 100 else if namedB t.key (L t.name) = false then 101 else if allowedB t.key t.op = false then 102 else if rightB t.key t.op (L t.name) (L t.value) = false then 103 else 0
def firstE : List Tm → Int
 | [] => 0
 | t :: r => if termE t = 0 then firstE r else termE t
def countK (k : Int) (l : List Tm) : Nat := (l.filter fun t => t.key == k).length
def checkE (l : List Tm) : Int :=
 if l.length = 0 then 106 else if 16 < l.length then 104 else if firstE l ≠ 0 then firstE l else if 1 < countK 23 l ∨ 1 < countK 24 l then 105 else 0
theorem firstE_append (l : List Tm) (t : Tm) (h : firstE l = 0) : firstE (l ++ [t]) = termE t := by
 induction l with
 | nil => simp only [List.nil_append, firstE]; split <;> simp_all
 | cons x r ih =>
   rw [firstE] at h
   rw [List.cons_append, firstE]
   by_cases hx : termE x = 0
   · rw [if_pos hx] at h ⊢; exact ih h
   · rw [if_neg hx] at h; exact absurd h hx
theorem firstE_pre (l m : List Tm) (h : firstE l ≠ 0) : firstE (l ++ m) = firstE l := by
 induction l with
 | nil => exact absurd rfl h
 | cons x r ih =>
   rw [firstE] at h
   rw [List.cons_append, firstE, firstE]
   by_cases hx : termE x = 0
   · rw [if_pos hx] at h ⊢; rw [if_pos hx]; exact ih h
   · rw [if_neg hx, if_neg hx]
theorem countK_append (k : Int) (l : List Tm) (t : Tm) : countK k (l ++ [t]) = countK k l + if t.key = k then 1 else 0 := by
 unfold countK
 rw [List.filter_append, List.length_append]
 congr 1
 by_cases h : t.key = k <;> simp [h]
end Go.Proofs.YtibflgfhjfcifaaGreatDoor
namespace Go.Proofs.YtibflgfhjfcifaaGreatDoor
structure Tk where
 key : ByteArray
 name : ByteArray
 op : ByteArray
 value : ByteArray
def upC (c : UInt8) : Bool := decide (65 ≤ (c.toNat : Int)) && decide ((c.toNat : Int) ≤ 90)
def nmC (c : UInt8) : Bool := decide (33 ≤ (c.toNat : Int)) && decide ((c.toNat : Int) ≤ 126) && !(c == 123) && !(c == 125) && !(c == 34)
def plC (c : UInt8) : Bool := c == 9 || pr c
def opsL : List Str := [[61, 61], [33, 61], [43, 61], [45, 61], [58, 61], [61]]
def cnt (f : UInt8 → Bool) (s : Str) : Nat := (s.takeWhile f).length
theorem cnt_le (f : UInt8 → Bool) (s : Str) : cnt f s ≤ s.length := by unfold cnt; exact (List.takeWhile_sublist f).length_le
def nameS (s : Str) : Except Int (Str × Str) :=
 if Lib.hasPrefix s [123] then
  let r := s.drop 1
  let n := cnt nmC r
  if n = r.length then .error 83 else if n = 0 ∨ (r.drop n).head? ≠ some 125 then .error 82 else .ok (r.take n, r.drop (n + 1))
 else .ok ([], s)
def opS (s : Str) : Except Int (Str × Str) := match opsL.find? (fun x => Lib.hasPrefix s x) with
 | some x => .ok (x, s.drop x.length)
 | none => .error 82
def valF : Str → Str → Except Int (Str × Str)
 | [], _ => .error 83
 | c :: r, acc => if c = 34 then .ok (acc, r) else if c = 9 then .error 82 else match r with
   | d :: r2 => if c = 92 ∧ d = 34 then valF r2 (acc ++ [34]) else valF (d :: r2) (acc ++ [c])
   | [] => .error 83
def valS (s : Str) : Except Int (Str × Str) := if Lib.hasPrefix s [34] then valF (s.drop 1) [] else .error 82
def tokS (s : Str) : Except Int (Tk × Str) :=
 let n := cnt upC s
 if n = 0 then .error 82 else match nameS (s.drop n) with
 | .error e => .error e
 | .ok (nm, r1) => match opS r1 with
   | .error e => .error e
   | .ok (op, r2) => match valS r2 with
     | .error e => .error e
     | .ok (v, r3) => .ok (⟨bs (s.take n), bs nm, bs op, bs v⟩, r3)
def sepL : Str := [32, 9, 44]
def goodB (x : Tk) : Bool := (L x.key).all upC && (L x.name).all nmC && (L x.value).all pr && opsL.contains (L x.op) && !(L x.key).isEmpty && !Lib.hasSuffix (L x.value) [92]
def fmtT (x : Tk) : Str := L x.key ++ (if (L x.name).isEmpty then [] else [123] ++ L x.name ++ [125]) ++ (L x.op ++ [34] ++ Lib.replaceAll (L x.value) [34] [92, 34] ++ [34])
def fmtF : List Tk → Str
 | [] => []
 | [x] => fmtT x
 | x :: y :: r => fmtT x ++ [44, 32] ++ fmtF (y :: r)
def fmtS (l : List Tk) : Str × Int := if l.all goodB then (if 1024 < (fmtF l).length then ([], 81) else (fmtF l, 0)) else ([], 82)
theorem fmtF_snoc (l : List Tk) (x : Tk) : fmtF (l ++ [x]) = (if l.isEmpty then [] else fmtF l ++ [44, 32]) ++ fmtT x := by
 induction l with
 | nil => rfl
 | cons y r ih =>
   cases r with
   | nil => simp [fmtF]
   | cons z r =>
     rw [List.cons_append, List.cons_append, fmtF, ← List.cons_append, ih]
     simp [fmtF]
end Go.Proofs.YtibflgfhjfcifaaGreatDoor
namespace Go.Proofs.YtibflgfhjfcifaaGreatDoor
open Go.RowKit
def boolA (n : Nat) (f : Nat → Bool) : Array Value := Array.ofFn (n := n) fun i => .bool (f i)
theorem size_boolA (n : Nat) (f : Nat → Bool) : (boolA n f).size = n := by simp [boolA]
theorem boolA_get (n : Nat) (f : Nat → Bool) (c : Nat) (h : c < n) : (boolA n f)[c]? = some (.bool (f c)) := by simp [boolA, h]
theorem boolA_set (n : Nat) (f : Nat → Bool) (c : Nat) (b : Bool) : (boolA n f).setIfInBounds c (.bool b) = boolA n (fun d => if d = c then b else f d) := by
 apply Array.ext_getElem?
 intro i
 rw [Array.getElem?_setIfInBounds, size_boolA]
 by_cases hi : i < n
 · rw [boolA_get _ _ _ hi, boolA_get _ _ _ hi]
   by_cases e : c = i
   · subst e; rw [if_pos rfl, if_pos hi, if_pos rfl]
   · rw [if_neg e, if_neg (fun x => e x.symm)]
 · rw [Array.getElem?_eq_none (by rw [size_boolA]; omega), Array.getElem?_eq_none (by rw [size_boolA]; omega)]
   by_cases e : c = i
   · rw [if_pos e, if_neg (by omega)]
   · rw [if_neg e]
theorem boolA_one (n : Nat) (f : Nat → Bool) : (boolA n f).all (·.oneCell') = true := by
 rw [Array.all_eq_true]
 intro i hi
 have h := boolA_get n f i (by rw [size_boolA] at hi; exact hi)
 rw [Array.getElem?_eq_getElem hi] at h
 have h' := Option.some.inj h
 rw [h']
 simp [Value.oneCell']
theorem boolA_congr {n : Nat} {f g : Nat → Bool} (h : ∀ c, c < n → f c = g c) : boolA n f = boolA n g := by
 apply Array.ext_getElem?
 intro i
 by_cases hi : i < n
 · rw [boolA_get _ _ _ hi, boolA_get _ _ _ hi, h i hi]
 · rw [Array.getElem?_eq_none (by rw [size_boolA]; omega), Array.getElem?_eq_none (by rw [size_boolA]; omega)]
attribute [irreducible] boolA
def elR (st li : Bool) (f : Nat → Bool) : Array Value := #[.bool st, .bool li] ++ boolA 128 f
theorem size_elR (st li : Bool) (f : Nat → Bool) : (elR st li f).size = 130 := by rw [elR, Array.size_append, size_boolA]; rfl
theorem elR_get (st li : Bool) (f : Nat → Bool) (c : Nat) (h : c < 128) : (elR st li f)[2 + c]? = some (.bool (f c)) := by
 rw [elR, Array.getElem?_append_right (by simp), ← boolA_get 128 f c h]
 congr 1
 simp
theorem elR_at (st li : Bool) (f : Nat → Bool) (i : Nat) (h : 2 ≤ i) : (elR st li f)[i]? = (boolA 128 f)[i - 2]? := by
 rw [elR, Array.getElem?_append_right (by simpa using h)]
 rfl
theorem elR_lo (st li : Bool) (f g : Nat → Bool) (i : Nat) (h : i < 2) : (elR st li f)[i]? = (elR st li g)[i]? := by
 rw [elR, elR, Array.getElem?_append_left (by simpa using h), Array.getElem?_append_left (by simpa using h)]
theorem elR_set (st li : Bool) (f : Nat → Bool) (c : Nat) (b : Bool) : (elR st li f).setIfInBounds (2 + c) (.bool b) = elR st li (fun d => if d = c then b else f d) := by
 apply Array.ext_getElem?
 intro i
 rw [Array.getElem?_setIfInBounds, size_elR]
 by_cases h2 : i < 2
 · rw [if_neg (by omega)]
   exact elR_lo _ _ _ _ i h2
 · rw [elR_at _ _ _ i (by omega), elR_at _ _ _ i (by omega), ← boolA_set, Array.getElem?_setIfInBounds, size_boolA]
   by_cases e : 2 + c = i
   · rw [if_pos e, if_pos (show c = i - 2 by omega)]
     by_cases hc : c < 128
     · rw [if_pos (by omega), if_pos (by omega)]
     · rw [if_neg (by omega), if_neg (by omega)]
   · rw [if_neg e, if_neg (by omega)]
attribute [irreducible] elR
set_option maxRecDepth 100000 in
set_option maxHeartbeats 400000 in
theorem byteOK_any (c : UInt8) (w : World) :
 Calls Tryz.prog 269 #[.int .u8 c.toNat] w fun e w' => e = .returned (.bool (pr c)) ∧ w = w' := by
 have HP : Hid (pr c = (decide (32 ≤ (c.toNat : Int)) && decide ((c.toNat : Int) ≤ 126))) := Lib.hid rfl
 by_cases h1 : 32 ≤ (c.toNat : Int)
 · go_enter Tryz.func269, Tryz.ntmps269
   go_wp2
   go_ret
   exact ⟨ret_bool (by rw [HP.out]; simp [h1]), rfl⟩
 · go_enter Tryz.func269, Tryz.ntmps269
   go_wp2
   go_ret
   exact ⟨ret_bool (by rw [HP.out]; simp; omega), rfl⟩
set_option maxRecDepth 100000 in
set_option maxHeartbeats 400000 in
theorem R2Printable_any (s : ByteArray) (w : World) (hs : s.size ≤ 9223372036854775807) :
 Calls Tryz.prog 239 #[.string s] w fun e w' => e = .returned (.bool (printS (L s))) ∧ w = w' := by
 go_enter Tryz.func239, Tryz.ntmps239
 go_wp2
 go_loop [3] (fun i => ∃ k : Nat, k ≤ s.size ∧ i = .int .i64 k ∧ Hid (printS ((L s).take k) = true)) (fun i => s.size - (intOf i).toNat)
 case atStart => exact ⟨0, Nat.zero_le _, rfl, rfl⟩
 case round =>
  obtain ⟨k, hk, rfl, hp⟩ := hrel
  by_cases hlt : k < s.size
  · have HB := Lib.hid (fun W => byteOK_any s[k] W)
    cases hc : pr s[k]
    · rw [hc] at HB
      have HC := Lib.hid hc
      clear hc
      go_wp2_with (go_at_call 269; refine (HB.out _).mono ?_; rintro e w1 ⟨rfl, rfl⟩)
      go_ret
      exact ⟨ret_bool (by rw [printS_no s hlt rfl HC.out]), rfl⟩
    · rw [hc] at HB
      have HC := Lib.hid hc
      clear hc
      go_wp2_with (go_at_call 269; refine (HB.out _).mono ?_; rintro e w1 ⟨rfl, rfl⟩)
      go_round
      case rel => exact ⟨k + 1, by omega, by go_num, by
       show printS _ = true
       rw [take_snoc s k (by omega), printS_snoc, hp.out, HC.out]; rfl⟩
      case measure => simp [intOf]; omega
  · go_wp2
    go_ret
    refine ⟨ret_bool ?_, rfl⟩
    have h := hp.out
    rw [take_all s k hlt] at h
    rw [h]
end Go.Proofs.YtibflgfhjfcifaaGreatDoor
