/-
  The table of the forms of pieces.
  What templates are: pieces, how they are read. Plain functions; no program in sight but for the words of the kinds.
  Contracts of the reader of templates: kind, braces.
-/
import Derived.Test.YtibflgfhjfcifaaGreatDoorG08
namespace Go.Proofs.YtibflgfhjfcifaaGreatDoor
open Go.RowKit
def sv (l : Str) : Value := .string ⟨l.toArray⟩
def fv (n : Nat) : Value := .func (.func n) #[] #[]
def formsZero : Array Value := (List.replicate 12 [sv [], sv [], .nilFunc, .nilFunc]).flatten.toArray
def longN : Nat → Str
 | 2 => [107, 101, 114, 110, 101, 108]
 | 3 => [110, 117, 109, 98, 101, 114]
 | 4 => [100, 101, 118, 112, 97, 116, 104]
 | 5 => [105, 100]
 | 6 => [100, 114, 105, 118, 101, 114]
 | 7 => [97, 116, 116, 114]
 | 8 => [101, 110, 118]
 | 9 => [114, 101, 115, 117, 108, 116]
 | 10 => [112, 97, 114, 101, 110, 116]
 | 11 => [110, 97, 109, 101]
 | _ => []
def shortN : Nat → Str
 | 2 => [107]
 | 3 => [110]
 | 4 => [112]
 | 5 => [98]
 | 6 => [100]
 | 7 => [115]
 | 8 => [69]
 | 9 => [99]
 | 10 => [80]
 | _ => []
def braV : Nat → Value
 | 7 => fv 70
 | 8 => fv 94
 | _ => .nilFunc
def valV : Nat → Value
 | 1 => fv 245
 | 2 => fv 246
 | 3 => fv 247
 | 4 => fv 249
 | 5 => fv 250
 | 6 => fv 251
 | 7 => fv 252
 | 8 => fv 254
 | 9 => fv 255
 | 10 => fv 256
 | 11 => fv 257
 | _ => .nilFunc
def formRow (k : Nat) : List Value := [sv (longN k), sv (shortN k), braV k, valV k]
def formsA : Array Value := ((List.range 12).map formRow).flatten.toArray
theorem forms_info : (Tryz.prog.info? 268).map (fun i => (i.zero, i.size)) = some (some (.agg formsZero), 48) := by kernel_rfl
theorem form_size : (Tryz.prog.info? 267).map (·.size) = some 4 := by kernel_rfl
theorem formsA_size : formsA.size = 48 := by kernel_rfl
theorem formsA_one : formsA.all (·.oneCell') = true := by kernel_rfl
set_option maxRecDepth 100000 in
set_option maxHeartbeats 4000000 in
theorem forms_any (w : World) :
 Calls Tryz.prog 225 #[] w fun e w' => e = .returned (.agg formsA) ∧ Below w.heap.size w w' := by
 have hz := (zero_of_info forms_info).1
 have Hi := Lib.hid (zero_of_info forms_info).2
 have Hz := Lib.hid hz
 clear hz
 go_enter Tryz.func225, Tryz.ntmps225
 have Hs := Lib.hid formsA_size
 have Ho := Lib.hid formsA_one
 go_wp2_with (first | (refine wpList_alloc_known rfl 268 rfl (.agg formsZero) (Hz.out _) ?_) | (refine wpList_store_last rfl 267 _ _ rfl _ _ _ _ _ (World.size_alloc _ _) rfl rfl (by (try simp only [size_setAll]); decide) (by exact form_size) (by simp [Value.oneCell']) ?_) | (refine wpList_load_row rfl 268 _ rfl (w.heap.size + 1) rfl 268 formsA (0, 0) _ ((heap_alloc2_new w _ _).trans (congrArg (fun c => some (Obj.cells c 268 (0, 0))) (by kernel_rfl))) Tryz.underlying268 rfl (by rw [Hs.out]; exact Hi.out) ?_) | (refine wpList_store_row rfl 268 _ _ rfl w.heap.size formsA rfl rfl 268 formsZero (heap_alloc2_old w _ _) (by rw [Hs.out]; exact Hi.out) (by rw [Hs.out]; decide) Ho.out ?_))
 refine bodyPost_ret (v := .agg formsA) (results_cell_row rfl _ _ w.heap.size 268 formsA (0, 0) _ rfl (setRow_heap _ _ _ _ _ _ (heap_alloc2_old w _ _)) Tryz.underlying268 rfl (by rw [Hs.out]; exact Hi.out)) rfl ⟨rfl, ?_⟩
 exact below_setRow (((Below.refl _ _).alloc (Nat.le_refl _) _).alloc (by simp) _) (Nat.le_refl _) _
theorem forms_row (k : Nat) (hk : k < 12) (w : World) : (Instr.index 268 (.agg formsA) (.int .i64 k)).run Tryz.prog w = .ok (.agg #[.string ⟨(longN k).toArray⟩, .string ⟨(shortN k).toArray⟩, braV k, valV k]) w := by
 rcases (by omega : k = 0 ∨ k = 1 ∨ k = 2 ∨ k = 3 ∨ k = 4 ∨ k = 5 ∨ k = 6 ∨ k = 7 ∨ k = 8 ∨ k = 9 ∨ k = 10 ∨ k = 11) with h | h | h | h | h | h | h | h | h | h | h | h <;> subst h <;> kernel_rfl
attribute [irreducible] formsA
end Go.Proofs.YtibflgfhjfcifaaGreatDoor
namespace Go.Proofs.YtibflgfhjfcifaaGreatDoor
open Go.RowKit
structure Pc where
 kind : Int
 text : ByteArray
 word : Int
 more : Bool
def encPc (p : Pc) : List Value := [.int .i64 p.kind, .string p.text, .int .i64 p.word, .bool p.more]
theorem encPc_len (p : Pc) : (encPc p).length = 4 := rfl
def txt (t : ByteArray) : Pc := ⟨1, t, 0, false⟩
def setLast (l : List Pc) (f : Pc → Pc) : List Pc := l.modify (l.length - 1) f
def addP (l : List Pc) (p : Pc) : List Pc :=
 if p.kind = 1 ∧ (l.getLast?.map (·.kind)) = some 1 then setLast l fun q => { q with text := q.text ++ p.text } else l ++ [p]
def lowL : Str := [97, 98, 99, 100, 101, 102, 103, 104, 105, 106, 107, 108, 109, 110, 111, 112, 113, 114, 115, 116, 117, 118, 119, 120, 121, 122]
def wordLen (long : Bool) (r : Str) : Nat := if long then r.length - (Lib.trimLeftS r lowL).length else min 1 r.length
def isKind (long : Bool) (w : Str) (k : Nat) : Bool := !w.isEmpty && ((long && longN k == w) || (!long && shortN k == w))
def kindOf (long : Bool) (w : Str) : Nat := ((List.range 12).find? (isKind long w)).getD 0
theorem find_first (p : Nat → Bool) (n k : Nat) (hk : k < n) (h1 : p k = true) (h0 : ∀ j, j < k → p j = false) : (List.range n).find? p = some k := by
 rw [List.find?_eq_some_iff_append]
 refine ⟨h1, List.range k, (List.range n).drop (k + 1), ?_, fun a ha => by rw [h0 a (List.mem_range.1 ha)]; rfl⟩
 have e1 : List.range k = (List.range n).take k := by rw [List.take_range]; congr 1; omega
 have e2 : k :: (List.range n).drop (k + 1) = (List.range n).drop k := by
  rw [List.drop_eq_getElem_cons (i := k) (by simpa using hk)]; simp
 rw [e1, e2, List.take_append_drop]
theorem kindOf_hit (long : Bool) (w : Str) (k : Nat) (hk : k < 12) (h1 : isKind long w k = true) (h0 : ∀ j, j < k → isKind long w j = false) : kindOf long w = k := by
 rw [kindOf, find_first _ 12 k hk h1 h0]; rfl
theorem kindOf_miss (long : Bool) (w : Str) (h0 : ∀ j, j < 12 → isKind long w j = false) : kindOf long w = 0 := by
 rw [kindOf, List.find?_eq_none.2 (fun x hx => by rw [h0 x (List.mem_range.1 hx)]; simp)]; rfl
theorem kindOf_lt (long : Bool) (w : Str) : kindOf long w < 12 := by
 unfold kindOf
 cases h : (List.range 12).find? (isKind long w) with
 | none => simp
 | some k => exact List.mem_range.1 (List.mem_of_find?_eq_some h)
def bracesS (r : Str) : Option (Str × Str) :=
 match r with
 | [] => none
 | b :: t => if b = 123 then (if (Lib.cut t [125]).2.2 then some ((Lib.cut t [125]).1, (Lib.cut t [125]).2.1) else none) else none
def countS (t : Str) : Option (Int × Bool) :=
 match (List.range 100).find? (fun n => decide (1 ≤ n) && Lib.decDigits n == Lib.trimSuffix t [43]) with
 | some n => some (n, Lib.hasSuffix t [43])
 | none => none
def placeS (k : Nat) (r : Str) : Option (Pc × Str) :=
 if k = 0 then none
 else if k = 7 then (bracesS r).bind fun (t, r') => if validS t then some (⟨7, bs t, 0, false⟩, r') else none
 else if k = 8 then (bracesS r).bind fun (t, r') => if keyS t then some (⟨8, bs t, 0, false⟩, r') else none
 else if k = 9 ∧ r.head? = some 123 then (bracesS r).bind fun (t, r') => (countS t).map fun (n, m) => (⟨9, bs [], n, m⟩, r')
 else some (⟨k, bs [], 0, false⟩, r)
def pieceS (c : UInt8) (r : Str) : Option (Pc × Str) :=
 if r.head? = some c then some (txt (bs [c]), r.tail) else placeS (kindOf (c == 36) (r.take (wordLen (c == 36) r))) (r.drop (wordLen (c == 36) r))
def sign (c : UInt8) : Bool := c == 36 || c == 37
def parseF : Nat → Str → List Pc → Option (List Pc)
 | _, [], acc => some acc
 | 0, _ :: _, _ => none
 | n + 1, c :: r, acc => if sign c then match pieceS c r with
  | some (p, r') => parseF n r' (addP acc p)
  | none => none
  else parseF n r (addP acc (txt (bs [c])))
def parseS (s : Str) : Option (List Pc) := parseF s.length s []
theorem bs_append (a b : Str) : bs a ++ bs b = bs (a ++ b) := L_inj (by rw [L_append, L_bs, L_bs, L_bs])
theorem setLast_snoc (l : List Pc) (q : Pc) (f : Pc → Pc) : setLast (l ++ [q]) f = l ++ [f q] := by
 unfold setLast
 rw [List.length_append, List.length_singleton, Nat.add_sub_cancel, List.modify_eq_take_drop]
 simp []
theorem addP_txt (l : List Pc) (a b : Str) : addP (addP l (txt (bs a))) (txt (bs b)) = addP l (txt (bs (a ++ b))) := by
 rcases List.eq_nil_or_concat l with h | ⟨m, q, h⟩
 · subst h
   have e : addP [] (txt (bs a)) = [] ++ [txt (bs a)] := by simp [addP]
   rw [e]
   simp only [addP, List.getLast?_append, List.getLast?_singleton, Option.some_or, Option.map_some]
   simp [txt, bs_append, setLast]
 · rw [List.concat_eq_append] at h
   subst h
   by_cases hq : q.kind = 1
   · have e : ∀ t, addP (m ++ [q]) (txt t) = m ++ [{ q with text := q.text ++ t }] := fun t => by
      rw [addP, if_pos ⟨rfl, by simp [hq]⟩, setLast_snoc]; rfl
     rw [e, e, addP, if_pos ⟨rfl, by simp [hq]⟩, setLast_snoc]
     simp [txt, ByteArray.append_assoc, bs_append]
   · have e : ∀ t, addP (m ++ [q]) (txt t) = (m ++ [q]) ++ [txt t] := fun t => by
      rw [addP, if_neg (by simp [hq])]
     rw [e, e, addP, if_pos ⟨rfl, by simp [txt]⟩, setLast_snoc]
     simp [txt, bs_append]
theorem parseF_run (run rest : Str) (h : ∀ c ∈ run, sign c = false) (hr : run ≠ []) (n : Nat) (acc : List Pc) : parseF (n + run.length) (run ++ rest) acc = parseF n rest (addP acc (txt (bs run))) := by
 induction run generalizing acc with
 | nil => exact absurd rfl hr
 | cons c run ih =>
   have hc := h c (by simp)
   rw [List.length_cons, show n + (run.length + 1) = (n + run.length) + 1 from by omega, List.cons_append]
   rw [parseF, hc]
   simp only [Bool.false_eq_true, if_false]
   by_cases h0 : run = []
   · subst h0; rfl
   · rw [ih (fun d hd => h d (by simp [hd])) h0, addP_txt]; rfl
end Go.Proofs.YtibflgfhjfcifaaGreatDoor
namespace Go.Proofs.YtibflgfhjfcifaaGreatDoor
open Go.RowKit
structure Rd (w : World) (g : Nat) (rest : ByteArray) (ps : List Pc) : Prop where
 ex : ∃ v, w.heap[g]? = some (.cells #[.string rest, v] 233 (0, 0)) ∧ w.ownsRow (g + 1) 236 4 v ps.length (cellsOf encPc ps)
theorem blk_lt {w : World} {g : Nat} {o : Obj} (h : w.heap[g]? = some o) : g < w.heap.size := (Array.getElem?_eq_some_iff.1 h).1
theorem Rd.lt {w : World} {g : Nat} {r : ByteArray} {ps : List Pc} (h : Rd w g r ps) : g < w.heap.size := by
 obtain ⟨v, hb, _⟩ := h.ex
 exact blk_lt hb
theorem Rd.keep {w w' : World} {g : Nat} {r : ByteArray} {ps : List Pc} (h : Rd w g r ps) (hb : Below w.heap.size w w') : Rd w' g r ps := by
 obtain ⟨v, hh, ho⟩ := h.ex
 refine ⟨v, by rw [hb.block g (blk_lt hh)]; exact hh, ?_⟩
 exact ho.kept (row := none) ⟨hb.os, hb.tape, hb.output, hb.size, fun k hk _ => hb.block k hk⟩ (by
  rcases ho.2 with ⟨h1, _⟩ | ⟨g', cap, cur, h1, _⟩
  · left; rw [h1]; rfl
  · right; rw [h1]; simp [Value.ownBlock])
theorem Rd.cut {w : World} {g : Nat} {r : ByteArray} {ps : List Pc} (h : Rd w g r ps) (r' : ByteArray) : Rd (w.setCell ⟨g, 0, none⟩ (.string r')) g r' ps := by
 obtain ⟨v, hh, ho⟩ := h.ex
 exact ⟨v, by rw [heap_setCell_same _ _ _ _ _ _ hh]; rfl, ownsRow_setCell_below ho (by simp) _⟩
theorem low_ascii (j : Nat) (b : UInt8) (h : lowL[j]? = some b) : b.toNat < 128 := by
 have hm : b ∈ lowL := List.mem_of_getElem? h
 simp only [lowL, List.mem_cons, List.not_mem_nil, or_false] at hm
 rcases hm with h | h | h | h | h | h | h | h | h | h | h | h | h | h | h | h | h | h | h | h | h | h | h | h | h | h <;> subst h <;> decide
theorem rowsize : (Tryz.prog.info? 267).map (fun i => (i.zero, i.size)) = some (some (.agg #[sv [], sv [], .nilFunc, .nilFunc]), 4) := by kernel_rfl
theorem braV_one (k : Nat) : (braV k).oneCell' = true := by unfold braV; split <;> rfl
theorem valV_one (k : Nat) : (valV k).oneCell' = true := by unfold valV; split <;> rfl
theorem isKind_iff (long : Bool) (wd : ByteArray) (k : Nat) : isKind long (L wd) k = (!wd.toList.isEmpty && ((long && longN k == wd.toList) || (!long && shortN k == wd.toList))) := by
 rw [tl]; rfl
set_option maxRecDepth 100000 in
set_option maxHeartbeats 2000000 in
theorem kind_any (long : Bool) (g : Nat) (rest : ByteArray) (ps : List Pc) (w : World) (h : Rd w g rest ps) (hr : rest.size ≤ 1000) :
 Calls Tryz.prog 224 #[.pointer (some ⟨g, 0, none⟩), .bool long] w fun e w' =>
  e = .returned (.int .i64 (kindOf long ((L rest).take (wordLen long (L rest))))) ∧ Rd w' g (bs ((L rest).drop (wordLen long (L rest)))) ps ∧ Below g w w' := by
 obtain ⟨v, hh, ho⟩ := h.ex
 have c0 : w.cell? ⟨g, 0, none⟩ = some (.string rest) := by rw [cell_of_row _ _ 0 _ _ _ hh]; rfl
 have f0 : w.frozen? ⟨g, 0, none⟩ = false := frozen_of_row _ _ _ _ _ hh
 have HH := Lib.hid h
 clear hh ho h
 cases long
 · go_enter Tryz.func224, Tryz.ntmps224
   go_wp2_with (go_at_call 225; refine (forms_any _).mono ?_; rintro e w1 ⟨rfl, hb1⟩)
   have HW : Hid (L (rest.extract 0 (min 1 (rest.size : Int)).toNat) = (L rest).take (wordLen false (L rest))) := by
    show L _ = _
    rw [L_extract, List.drop_zero, wordLen]
    rw [if_neg (by simp), len_L]; congr 1; omega
   have HR : Hid (rest.extract (min 1 (rest.size : Int)).toNat rest.size = bs ((L rest).drop (wordLen false (L rest)))) := by
    show rest.extract (min 1 (rest.size : Int)).toNat rest.size = _
    refine eq_bs ?_
    rw [L_extract, List.take_of_length_le (by rw [len_L]; exact Nat.le_refl _), wordLen]
    rw [if_neg (by simp), len_L]; congr 1; omega
   generalize rest.extract (min 1 (rest.size : Int)).toNat rest.size = rr at *
   generalize rest.extract 0 (min 1 (rest.size : Int)).toNat = wd at *
   have HC : Hid (Rd w1 g rr ps ∧ Below g w w1) := ⟨(HH.out.cut rr).keep hb1, ((Below.refl g w).setCell (Nat.le_refl _) _).trans (hb1.mono (by simp; exact Nat.le_of_lt HH.out.lt))⟩
   clear hb1
   by_cases h0 : wd.toList = []
   · go_loopg [44] 12 (fun gk i wr => ∃ k : Nat, k + gk = 12 ∧ i = .int .i64 k ∧ Hid (∀ j, j < k → isKind false (L wd) j = false) ∧ Hid (Below w1.heap.size w1 wr))
     case atStart => exact ⟨0, by omega, rfl, fun j hj => absurd hj (by omega), Below.refl _ _⟩
     case round =>
      obtain ⟨k, hk, rfl, hp, hb⟩ := hrel
      have hk' : k ≤ 12 := by omega
      have HK := Lib.hid hk
      clear hk
      by_cases hlt : k < 12
      · have hrow := forms_row k hlt
        have HV : Hid (isKind false (L wd) k = false) := by
         show isKind false (L wd) k = false
         rw [isKind, ← tl, h0]; rfl
        go_wp2_with (first | (refine wpList_alloc_known rfl 267 rfl _ ((zero_of_info rowsize).1 _) ?_) | (refine wpList_store_new rfl 267 _ _ rfl _ _ _ _ rfl rfl rfl (by rfl) (by exact form_size) (by exact one4 rfl rfl (braV_one _) (valV_one _)) ?_))
        have hb2 : Below w1.heap.size w1 (wr.alloc (.cells #[.string ⟨(longN k).toArray⟩, .string ⟨(shortN k).toArray⟩, braV k, valV k] 267)) := hb.out.alloc hb.out.size _
        have hk := HK.out
        go_roundg (gk - 1)
        case measure => omega
        case rel =>
         refine ⟨k + 1, by omega, by go_num, fun j hj => ?_, hb2⟩
         rcases (by omega : j = k ∨ j < k) with e | e
         · subst e; exact HV.out
         · exact hp.out j e
      · go_wp2
        go_ret
        have hk12 : k = 12 := by omega
        subst hk12
        refine ⟨ret_int ?_, ?_, ?_⟩
        · rw [← HW.out, kindOf_miss _ _ hp.out]; rfl
        · rw [← HR.out]; exact HC.out.1.keep hb.out
        · exact HC.out.2.trans (hb.out.mono (Nat.le_of_lt HC.out.1.lt))
   · have he : wd.toList.isEmpty = false := by rw [tl]; exact L_ne h0
     go_loopg [44] 12 (fun gk i wr => ∃ k : Nat, k + gk = 12 ∧ i = .int .i64 k ∧ Hid (∀ j, j < k → isKind false (L wd) j = false) ∧ Hid (Below w1.heap.size w1 wr))
     case atStart => exact ⟨0, by omega, rfl, fun j hj => absurd hj (by omega), Below.refl _ _⟩
     case round =>
      obtain ⟨k, hk, rfl, hp, hb⟩ := hrel
      have hk' : k ≤ 12 := by omega
      have HK := Lib.hid hk
      clear hk
      by_cases hlt : k < 12
      · have hrow := forms_row k hlt
        cases hq : shortN k == wd.toList
        all_goals
         have hv := isKind_iff false wd k
         rw [he, hq] at hv
         simp only [Bool.not_false, Bool.false_and, Bool.and_true, Bool.and_false, Bool.or_false, Bool.false_or] at hv
         have HV := Lib.hid hv
         clear hv
         go_wp2_with (first | (refine wpList_alloc_known rfl 267 rfl _ ((zero_of_info rowsize).1 _) ?_) | (refine wpList_store_new rfl 267 _ _ rfl _ _ _ _ rfl rfl rfl (by rfl) (by exact form_size) (by exact one4 rfl rfl (braV_one _) (valV_one _)) ?_))
        · have hb2 : Below w1.heap.size w1 (wr.alloc (.cells #[.string ⟨(longN k).toArray⟩, .string ⟨(shortN k).toArray⟩, braV k, valV k] 267)) := hb.out.alloc hb.out.size _
          have hk := HK.out
          go_roundg (gk - 1)
          case measure => omega
          case rel =>
           refine ⟨k + 1, by omega, by go_num, fun j hj => ?_, hb2⟩
           rcases (by omega : j = k ∨ j < k) with e | e
           · subst e; exact HV.out
           · exact hp.out j e
        · have hb2 : Below w1.heap.size w1 (wr.alloc (.cells #[.string ⟨(longN k).toArray⟩, .string ⟨(shortN k).toArray⟩, braV k, valV k] 267)) := hb.out.alloc hb.out.size _
          go_ret
          refine ⟨ret_int ?_, ?_, ?_⟩
          · rw [← HW.out, kindOf_hit _ _ k hlt HV.out hp.out]
          · rw [← HR.out]; exact HC.out.1.keep hb2
          · exact HC.out.2.trans (hb2.mono (Nat.le_of_lt HC.out.1.lt))
      · go_wp2
        go_ret
        have hk12 : k = 12 := by omega
        subst hk12
        refine ⟨ret_int ?_, ?_, ?_⟩
        · rw [← HW.out, kindOf_miss _ _ hp.out]; rfl
        · rw [← HR.out]; exact HC.out.1.keep hb.out
        · exact HC.out.2.trans (hb.out.mono (Nat.le_of_lt HC.out.1.lt))
 · have hcs := low_ascii
   have HT : ∀ W, Calls Tryz.prog 88 #[.string rest, .string ⟨#[97, 98, 99, 100, 101, 102, 103, 104, 105, 106, 107, 108, 109, 110, 111, 112, 113, 114, 115, 116, 117, 118, 119, 120, 121, 122]⟩] W (fun e w' => e = .returned (.string (bs (Lib.trimLeftS (L rest) lowL))) ∧ Below W.heap.size W w') := fun W =>
    Any.strings_TrimLeft_laid Tryz.lays161 (by kernel_rfl) rest ⟨#[97, 98, 99, 100, 101, 102, 103, 104, 105, 106, 107, 108, 109, 110, 111, 112, 113, 114, 115, 116, 117, 118, 119, 120, 121, 122]⟩ W (by decide) low_ascii
   have hl : (Lib.trimLeftS (L rest) lowL).length ≤ rest.size := by
    rw [← len_L]; exact (List.dropWhile_sublist (lowL.contains ·)).length_le
   have HZ : Hid (rest.size - (bs (Lib.trimLeftS (L rest) lowL)).size = (L rest).length - (Lib.trimLeftS (L rest) lowL).length) := by
    show _ = _
    rw [size_bs, len_L]
   rw [← size_bs] at hl
   generalize bs (Lib.trimLeftS (L rest) lowL) = tr at *
   clear hcs
   go_enter Tryz.func224, Tryz.ntmps224
   go_wp2
   have hg : g < w.heap.size := HH.out.lt
   have HF := Lib.hid f0
   clear f0
   go_region_held3 (fun w' => w'.cell? ⟨g, 0, none⟩ = some (.string rest) ∧ Below w.heap.size w w') (first | exact ⟨c0, (Below.refl _ _).drew⟩ | exact ⟨(hb0.cell (p := ⟨g, 0, none⟩) (by simpa using hg)).trans c0, ((Below.refl _ _).drew).trans hb0⟩) (first | (go_at_call 88; refine (HT _).mono ?_; rintro e w0 ⟨rfl, hb0⟩))
   have hW : Below w.heap.size w w0 := ((Below.refl _ _).drew).trans hb0
   have c0' : w0.cell? ⟨g, 0, none⟩ = some (.string rest) := (hW.cell (p := ⟨g, 0, none⟩) hg).trans c0
   have f0' : w0.frozen? ⟨g, 0, none⟩ = false := (hW.frozen (p := ⟨g, 0, none⟩) hg).trans HF.out
   have e1 : IntKind.i64.wrap ((rest.size : Int) - (tr.size : Int)) = ((rest.size - tr.size : Nat) : Int) := by
    rw [IntWalk.i64_in _ (by omega)]; omega
   rw [e1]
   clear e1 hb0 c0
   have hle : rest.size - tr.size ≤ rest.size := by omega
   go_wp2_with (go_at_call 225; refine (forms_any _).mono ?_; rintro e w1 ⟨rfl, hb1⟩)
   have HW : Hid (L (rest.extract 0 (rest.size - tr.size)) = (L rest).take (wordLen true (L rest))) := by
    show L _ = _
    rw [L_extract, List.drop_zero, wordLen]
    rw [if_pos rfl, ← HZ.out]
   have HR : Hid (rest.extract (rest.size - tr.size) rest.size = bs ((L rest).drop (wordLen true (L rest)))) := by
    show rest.extract (rest.size - tr.size) rest.size = _
    refine eq_bs ?_
    rw [L_extract, List.take_of_length_le (by rw [len_L]; exact Nat.le_refl _), wordLen]
    rw [if_pos rfl, ← HZ.out]
   generalize rest.extract (rest.size - tr.size) rest.size = rr at *
   generalize rest.extract 0 (rest.size - tr.size) = wd at *
   have HC : Hid (Rd w1 g rr ps ∧ Below g w w1) := ⟨((HH.out.keep hW).cut rr).keep hb1, ((hW.mono (Nat.le_of_lt hg)).setCell (p := ⟨g, 0, none⟩) (Nat.le_refl _) _).trans (hb1.mono (by simp; exact Nat.le_of_lt (Nat.lt_of_lt_of_le hg hW.size)))⟩
   clear hb1 hW hg
   by_cases h0 : wd.toList = []
   · go_loopg [44] 12 (fun gk i wr => ∃ k : Nat, k + gk = 12 ∧ i = .int .i64 k ∧ Hid (∀ j, j < k → isKind true (L wd) j = false) ∧ Hid (Below w1.heap.size w1 wr))
     case atStart => exact ⟨0, by omega, rfl, fun j hj => absurd hj (by omega), Below.refl _ _⟩
     case round =>
      obtain ⟨k, hk, rfl, hp, hb⟩ := hrel
      have hk' : k ≤ 12 := by omega
      have HK := Lib.hid hk
      clear hk
      by_cases hlt : k < 12
      · have hrow := forms_row k hlt
        have HV : Hid (isKind true (L wd) k = false) := by
         show isKind true (L wd) k = false
         rw [isKind, ← tl, h0]; rfl
        go_wp2_with (first | (refine wpList_alloc_known rfl 267 rfl _ ((zero_of_info rowsize).1 _) ?_) | (refine wpList_store_new rfl 267 _ _ rfl _ _ _ _ rfl rfl rfl (by rfl) (by exact form_size) (by exact one4 rfl rfl (braV_one _) (valV_one _)) ?_))
        have hb2 : Below w1.heap.size w1 (wr.alloc (.cells #[.string ⟨(longN k).toArray⟩, .string ⟨(shortN k).toArray⟩, braV k, valV k] 267)) := hb.out.alloc hb.out.size _
        have hk := HK.out
        go_roundg (gk - 1)
        case measure => omega
        case rel =>
         refine ⟨k + 1, by omega, by go_num, fun j hj => ?_, hb2⟩
         rcases (by omega : j = k ∨ j < k) with e | e
         · subst e; exact HV.out
         · exact hp.out j e
      · go_wp2
        go_ret
        have hk12 : k = 12 := by omega
        subst hk12
        refine ⟨ret_int ?_, ?_, ?_⟩
        · rw [← HW.out, kindOf_miss _ _ hp.out]; rfl
        · rw [← HR.out]; exact HC.out.1.keep hb.out
        · exact HC.out.2.trans (hb.out.mono (Nat.le_of_lt HC.out.1.lt))
   · have he : wd.toList.isEmpty = false := by rw [tl]; exact L_ne h0
     go_loopg [44] 12 (fun gk i wr => ∃ k : Nat, k + gk = 12 ∧ i = .int .i64 k ∧ Hid (∀ j, j < k → isKind true (L wd) j = false) ∧ Hid (Below w1.heap.size w1 wr))
     case atStart => exact ⟨0, by omega, rfl, fun j hj => absurd hj (by omega), Below.refl _ _⟩
     case round =>
      obtain ⟨k, hk, rfl, hp, hb⟩ := hrel
      have hk' : k ≤ 12 := by omega
      have HK := Lib.hid hk
      clear hk
      by_cases hlt : k < 12
      · have hrow := forms_row k hlt
        cases hq : longN k == wd.toList
        all_goals
         have hv := isKind_iff true wd k
         rw [he, hq] at hv
         simp only [Bool.not_true, Bool.not_false, Bool.false_and, Bool.and_true, Bool.and_false, Bool.or_false] at hv
         have HV := Lib.hid hv
         clear hv
         go_wp2_with (first | (refine wpList_alloc_known rfl 267 rfl _ ((zero_of_info rowsize).1 _) ?_) | (refine wpList_store_new rfl 267 _ _ rfl _ _ _ _ rfl rfl rfl (by rfl) (by exact form_size) (by exact one4 rfl rfl (braV_one _) (valV_one _)) ?_))
        · have hb2 : Below w1.heap.size w1 (wr.alloc (.cells #[.string ⟨(longN k).toArray⟩, .string ⟨(shortN k).toArray⟩, braV k, valV k] 267)) := hb.out.alloc hb.out.size _
          have hk := HK.out
          go_roundg (gk - 1)
          case measure => omega
          case rel =>
           refine ⟨k + 1, by omega, by go_num, fun j hj => ?_, hb2⟩
           rcases (by omega : j = k ∨ j < k) with e | e
           · subst e; exact HV.out
           · exact hp.out j e
        · have hb2 : Below w1.heap.size w1 (wr.alloc (.cells #[.string ⟨(longN k).toArray⟩, .string ⟨(shortN k).toArray⟩, braV k, valV k] 267)) := hb.out.alloc hb.out.size _
          go_ret
          refine ⟨ret_int ?_, ?_, ?_⟩
          · rw [← HW.out, kindOf_hit _ _ k hlt HV.out hp.out]
          · rw [← HR.out]; exact HC.out.1.keep hb2
          · exact HC.out.2.trans (hb2.mono (Nat.le_of_lt HC.out.1.lt))
      · go_wp2
        go_ret
        have hk12 : k = 12 := by omega
        subst hk12
        refine ⟨ret_int ?_, ?_, ?_⟩
        · rw [← HW.out, kindOf_miss _ _ hp.out]; rfl
        · rw [← HR.out]; exact HC.out.1.keep hb.out
        · exact HC.out.2.trans (hb.out.mono (Nat.le_of_lt HC.out.1.lt))
end Go.Proofs.YtibflgfhjfcifaaGreatDoor
