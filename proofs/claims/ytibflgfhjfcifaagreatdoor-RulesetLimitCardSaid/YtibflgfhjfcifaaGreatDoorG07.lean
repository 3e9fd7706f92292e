/-
  Contracts of package name: Text; the sets of bytes.
  Patterns: what a pattern's alternatives are, in plain words; no program in sight.
-/
import Derived.Test.YtibflgfhjfcifaaGreatDoorProg
import Derived.Test.YtibflgfhjfcifaaGreatDoorG00
import Derived.Deep.WholeRow
namespace Go.Proofs.YtibflgfhjfcifaaGreatDoor
open Go.RowKit
def pr (c : UInt8) : Bool := decide (32 ≤ (c.toNat : Int)) && decide ((c.toNat : Int) ≤ 126)
def printS (l : Str) : Bool := l.all pr
def textS (l : Str) : Bool := printS l && decide (l.length ≤ 256)
theorem printS_snoc (l : Str) (c : UInt8) : printS (l ++ [c]) = (printS l && pr c) := by simp [printS]
theorem printS_no {l : Str} {k : Nat} (s : ByteArray) (hk : k < s.size) (hl : L s = l) (h : pr s[k] = false) : printS l = false := by
 subst hl
 rw [printS, List.all_eq_false]
 exact ⟨s[k], by rw [← L_get s k hk]; exact List.getElem_mem _, by simp [h]⟩
set_option maxHeartbeats 400000 in
theorem Text_any (s : ByteArray) (w : World) (hs : s.size ≤ 9223372036854775807) :
 Calls Tryz.prog 197 #[.string s] w fun e w' => e = .returned (.bool (textS (L s))) ∧ w = w' := by
 go_enter Tryz.func197, Tryz.ntmps197
 go_wp2
 go_loop [6] (fun i => ∃ k : Nat, k ≤ s.size ∧ i = .int .i64 k ∧ Hid (printS ((L s).take k) = true)) (fun i => s.size - (intOf i).toNat)
 case atStart => exact ⟨0, Nat.zero_le _, rfl, rfl⟩
 case round =>
  obtain ⟨k, hk, rfl, hp⟩ := hrel
  go_wp2
  case roundEnd =>
   go_round
   case rel => exact ⟨k + 1, by omega, by go_num, by
    show printS _ = true
    rw [take_snoc s k (by omega), printS_snoc, hp.out]
    simp [pr]; omega⟩
   case measure => simp [intOf]; omega
  · go_ret
    exact ⟨ret_bool (by rw [textS, printS_no s (by assumption) rfl (by simp [pr]; omega)]; rfl), rfl⟩
  · go_ret
    exact ⟨ret_bool (by rw [textS, printS_no s (by assumption) rfl (by simp [pr]; omega)]; rfl), rfl⟩
  · go_ret
    refine ⟨ret_bool ?_, rfl⟩
    have h := hp.out
    rw [take_all s k (by assumption)] at h
    rw [textS, h, len_L]
    simp
    omega
def setA (f : Nat → Bool) : Array Value := Array.ofFn (n := 256) fun i => .bool (f i)
def addS (f : Nat → Bool) (l : Str) : Nat → Bool := fun c => f c || l.any fun b => b.toNat == c
def noneS : Nat → Bool := fun _ => false
theorem set_info : (Tryz.prog.info? 161).map (fun i => (i.zero, i.size)) = some (some (.agg (setA noneS)), 256) := by kernel_rfl
theorem size_setA (f : Nat → Bool) : (setA f).size = 256 := by simp [setA]
theorem setA_get (f : Nat → Bool) (c : Nat) (h : c < 256) : (setA f)[c]? = some (.bool (f c)) := by
 simp [setA, h]
theorem below_setRow {B : Nat} {a w : World} (h : Below B a w) {g : Nat} (hg : B ≤ g) (cs : Array Value) : Below B a (w.setRow g cs) :=
 h.trans ⟨rfl, rfl, rfl, by simp, fun k hk => setRow_other w g k cs (by omega)⟩
theorem setA_set (f : Nat → Bool) (c : Nat) (h : c < 256) : (setA f).setIfInBounds c (.bool true) = setA (fun d => f d || d == c) := by
 apply Array.ext_getElem?
 intro i
 rw [Array.getElem?_setIfInBounds]
 by_cases e : c = i
 · subst e
   rw [if_pos rfl, if_pos (by rw [size_setA]; exact h), setA_get _ _ h]
   simp
 · have e' : (i == c) = false := by rw [beq_eq_false_iff_ne]; exact fun h => e h.symm
   rw [if_neg e]
   by_cases hi : i < 256
   · rw [setA_get _ _ hi, setA_get _ _ hi, e', Bool.or_false]
   · rw [Array.getElem?_eq_none (by rw [size_setA]; omega), Array.getElem?_eq_none (by rw [size_setA]; omega)]
theorem setA_one (f : Nat → Bool) : (setA f).all (·.oneCell') = true := by
 rw [Array.all_eq_true]
 intro i hi
 have h := setA_get f i (by rw [size_setA] at hi; exact hi)
 rw [Array.getElem?_eq_getElem hi] at h
 have h' := Option.some.inj h
 rw [h']
 simp [Value.oneCell']
theorem addS_nil (f : Nat → Bool) : addS f [] = f := by funext c; simp [addS]
attribute [irreducible] setA noneS
theorem addS_snoc (f : Nat → Bool) (l : Str) (b : UInt8) : (fun d => addS f l d || d == b.toNat) = addS f (l ++ [b]) := by
 funext d
 simp only [addS, List.any_append, List.any_cons, List.any_nil, Bool.or_false, Bool.or_assoc]
 rw [show (d == b.toNat) = (b.toNat == d) from by rw [Bool.eq_iff_iff]; simp; exact eq_comm]
set_option maxRecDepth 100000 in
set_option maxHeartbeats 400000 in
theorem plus_any (f : Nat → Bool) (s : ByteArray) (w : World) (hs : s.size ≤ 9223372036854775807) :
 Calls Tryz.prog 111 #[.agg (setA f), .string s] w fun e w' => e = .returned (.agg (setA (addS f (L s)))) ∧ Below w.heap.size w w' := by
 have hz := (zero_of_info set_info).1
 have hi := (zero_of_info set_info).2
 go_enter Tryz.func111, Tryz.ntmps111
 go_wp2
 clear hz
 have Hi := Lib.hid hi
 clear hi
 go_loopg [8] (s.size) (fun g i wr => ∃ k : Nat, k + g = s.size ∧ i = .int .i64 k ∧ wr = (w.alloc (.cells (setA (addS f ((L s).take k))) 161)).alloc (.cells (setA noneS) 161))
 case atStart => exact ⟨0, by omega, rfl, by simp [addS_nil]⟩
 case round =>
  obtain ⟨k, hk, rfl, rfl⟩ := hrel
  by_cases hlt : k < s.size
  · have hb : (s[k].toNat : Int) < 256 := by have := s[k].toNat_lt; omega
    have hg := setA_get (addS f ((L s).take k)) s[k].toNat (by omega)
    have HG := Lib.hid (setA_set (addS f ((L s).take k)) s[k].toNat (by omega))
    have Hk := Lib.hid hk
    clear hk
    go_wp2
    have hk := Hk.out
    go_roundg (gk - 1)
    case measure => omega
    case rel =>
     refine ⟨k + 1, by omega, by go_num, ?_⟩
     rw [HG.out, addS_snoc, take_snoc s k hlt]
  · have hall := take_all s k hlt
    rw [hall]
    clear hall
    have h1 := size_setA (addS f (L s))
    have h2 := setA_one (addS f (L s))
    have h0 := size_setA noneS
    have HS : Hid (∃ S, setA (addS f (L s)) = S) := ⟨_, rfl⟩
    obtain ⟨S, hS⟩ := HS.out
    rw [hS] at h1 h2 ⊢
    have HS := Lib.hid hS
    clear hS
    generalize setA noneS = S0 at *
    have hl1 := heap_alloc2_old w (.cells S 161) (.cells S0 161)
    have hl2 := heap_alloc2_new w (.cells S 161) (.cells S0 161)
    have H1 := Lib.hid hl1
    have H2 := Lib.hid hl2
    have H3 := Lib.hid h1
    have H4 := Lib.hid h2
    have H5 := Lib.hid h0
    clear hl1 hl2 h1 h2 h0
    go_wp2_with (first | (refine wpList_load_row rfl 161 _ rfl _ rfl _ _ _ _ H1.out Tryz.underlying161 rfl (by rw [H3.out]; exact Hi.out) ?_) | (refine wpList_store_row rfl 161 _ _ rfl _ _ rfl rfl _ _ H2.out (by rw [H3.out]; exact Hi.out) (by rw [H3.out, H5.out]) H4.out ?_))
    refine bodyPost_ret (v := .agg S) (results_cell_row rfl _ _ (w.heap.size + 1) 161 S (0, 0) _ rfl (setRow_heap _ _ _ _ _ _ H2.out) Tryz.underlying161 rfl (by rw [H3.out]; exact Hi.out)) rfl ⟨by rw [HS.out], ?_⟩
    exact below_setRow (((Below.refl _ _).alloc (Nat.le_refl _) _).alloc (by simp) _) (by omega) _
theorem has_cell (f : Nat → Bool) (w : World) (c : Nat) (h : c < 256) : (w.alloc (.cells (setA f) 161)).cell? ⟨w.heap.size, c, none⟩ = some (.bool (f c)) := by
 rw [cell_of_row _ _ c (setA f) _ (0, 0) (heap_alloc_new w _), setA_get f c h]
def hasS (f : Nat → Bool) (l : Str) : Bool := l.all fun b => f b.toNat
theorem hasS_snoc (f : Nat → Bool) (l : Str) (c : UInt8) : hasS f (l ++ [c]) = (hasS f l && f c.toNat) := by simp [hasS]
theorem hasS_no {f : Nat → Bool} {l : Str} {k : Nat} (s : ByteArray) (hk : k < s.size) (hl : L s = l) (h : f s[k].toNat = false) : hasS f l = false := by
 subst hl
 rw [hasS, List.all_eq_false]
 exact ⟨s[k], by rw [← L_get s k hk]; exact List.getElem_mem _, by simp [h]⟩
set_option maxRecDepth 100000 in
set_option maxHeartbeats 400000 in
theorem has_any (f : Nat → Bool) (s : ByteArray) (w : World) (hs : s.size ≤ 9223372036854775807) :
 Calls Tryz.prog 112 #[.agg (setA f), .string s] w fun e w' => e = .returned (.bool (hasS f (L s))) ∧ Below w.heap.size w w' := by
 go_enter Tryz.func112, Tryz.ntmps112
 go_wp2
 go_loopg [8] (s.size) (fun g i wr => ∃ k : Nat, k + g = s.size ∧ i = .int .i64 k ∧ w.alloc (.cells (setA f) 161) = wr ∧ Hid (hasS f ((L s).take k) = true))
 case atStart => exact ⟨0, by omega, rfl, rfl, rfl⟩
 case round =>
  obtain ⟨k, hk, rfl, rfl, hp⟩ := hrel
  have hkk : k ≤ s.size := by omega
  have Hk := Lib.hid hk
  clear hk
  by_cases hlt : k < s.size
  · have hb : (s[k].toNat : Int) < 256 := by have := s[k].toNat_lt; omega
    have hc := has_cell f w s[k].toNat (by omega)
    cases hf : f s[k].toNat
    · rw [hf] at hc
      have HF := Lib.hid hf
      clear hf
      go_wp2
      go_ret
      exact ⟨ret_bool (by rw [hasS_no s hlt rfl HF.out]), (Below.refl _ _).alloc (Nat.le_refl _) _⟩
    · rw [hf] at hc
      have HF := Lib.hid hf
      clear hf
      go_wp2
      have hk := Hk.out
      go_roundg (gk - 1)
      case measure => omega
      case rel => exact ⟨k + 1, by omega, by go_num, rfl, by show hasS _ _ = true; rw [take_snoc s k hlt, hasS_snoc, hp.out, HF.out]; rfl⟩
  · go_wp2
    go_ret
    have h := hp.out
    rw [take_all s k hlt] at h
    exact ⟨ret_bool (by rw [h]), (Below.refl _ _).alloc (Nat.le_refl _) _⟩
end Go.Proofs.YtibflgfhjfcifaaGreatDoor
namespace Go.Proofs.YtibflgfhjfcifaaGreatDoor
inductive El where
 | lit (c : UInt8)
 | star
 | any
 | set (no : Bool) (rs : List (UInt8 × UInt8))
def rngS (r : Str) : Option UInt8 := if r.head? = some 45 then (match r[1]? with | some b => if b = 93 then none else some b | none => none) else none
def membersS : Nat → Str → Option (List (UInt8 × UInt8) × Str)
 | 0, _ => none
 | _ + 1, [] => none
 | n + 1, c :: r =>
   if c = 93 then some ([], r)
   else match rngS r with
    | some b => if c ≤ b then (membersS n (r.drop 2)).map fun x => ((c, b) :: x.1, x.2) else none
    | none => (membersS n r).map fun x => ((c, c) :: x.1, x.2)
theorem membersS_fuel : ∀ (n : Nat) (r : Str), r.length ≤ n → ∀ m, r.length ≤ m → membersS n r = membersS m r
 | 0, r, h, m, _ => by
   have : r = [] := List.eq_nil_of_length_eq_zero (by omega)
   subst this
   cases m <;> rfl
 | n + 1, [], _, m, _ => by cases m <;> rfl
 | n + 1, c :: r, h, 0, h2 => by simp at h2
 | n + 1, c :: r, h, m + 1, h2 => by
   simp only [List.length_cons, Nat.add_le_add_iff_right] at h h2
   rw [membersS, membersS, membersS_fuel n r h m h2, membersS_fuel n (r.drop 2) (by rw [List.length_drop]; omega) m (by rw [List.length_drop]; omega)]
theorem membersS_len : ∀ (n : Nat) (r : Str) (x), membersS n r = some x → x.2.length < r.length
 | 0, _, _, h => by cases h
 | n + 1, [], _, h => by cases h
 | n + 1, c :: r, x, h => by
   rw [membersS] at h
   by_cases hc : c = 93
   · rw [if_pos hc] at h
     obtain rfl := Option.some.inj h
     simp
   rw [if_neg hc] at h
   have one : ∀ (q : Str) (a : UInt8 × UInt8), q.length ≤ r.length → ((membersS n q).map fun x => (a :: x.1, x.2)) = some x → x.2.length < (c :: r).length := fun q a hq h => by
    cases hm : membersS n q with
    | none => rw [hm] at h; cases h
    | some y =>
      rw [hm] at h
      obtain rfl := Option.some.inj h
      have := membersS_len n q y hm
      simp only [List.length_cons]
      omega
   cases hr : rngS r with
   | none => rw [hr] at h; exact one _ _ (Nat.le_refl _) h
   | some b =>
     rw [hr] at h
     dsimp only at h
     split at h
     · exact one _ _ (by rw [List.length_drop]; omega) h
     · cases h
def setQ (no : Bool) (q : Str) : Option (El × Str) := if q.head? = some 93 then none else (membersS q.length q).map fun x => (.set no x.1, x.2)
theorem setQ_len (no : Bool) (q : Str) (x) (h : setQ no q = some x) : x.2.length < q.length + 1 := by
 unfold setQ at h
 split at h
 · cases h
 · cases hm : membersS q.length q with
   | none => rw [hm] at h; cases h
   | some y =>
     rw [hm] at h
     obtain rfl := Option.some.inj h
     have h1 := membersS_len _ _ _ hm
     dsimp only
     omega
def setS (r : Str) : Option (El × Str) := if r.head? = some 33 then setQ true (r.drop 1) else setQ false r
theorem setS_len (r : Str) (x) (h : setS r = some x) : x.2.length < r.length + 1 := by
 unfold setS at h
 split at h
 · have := setQ_len _ _ _ h
   rw [List.length_drop] at this
   omega
 · exact setQ_len _ _ _ h
def elS (c : UInt8) (r : Str) : Option (El × Str) :=
 if c = 42 then some (.star, r) else if c = 63 then some (.any, r) else if c = 91 then setS r else some (.lit c, r)
def globF : Nat → Str → List (List El) → List El → Option (List (List El))
 | 0, _, _, _ => none
 | _ + 1, [], acc, cur => some (acc ++ [cur])
 | n + 1, c :: r, acc, cur => if c = 124 then globF n r (acc ++ [cur]) [] else match elS c r with
   | none => none
   | some (e, r') => globF n r' acc (cur ++ [e])
def globP (p : Str) : Option (List (List El)) := globF (p.length + 1) p [] []
def globS (p : Str) : Option (List (List El)) := if p.length ≤ 256 ∧ printS p = true then globP p else none
theorem elS_len (c : UInt8) (r : Str) (x) (h : elS c r = some x) : x.2.length < r.length + 1 := by
 unfold elS at h
 split at h
 · obtain rfl := Option.some.inj h; dsimp only; omega
 split at h
 · obtain rfl := Option.some.inj h; dsimp only; omega
 split at h
 · exact setS_len r x h
 · obtain rfl := Option.some.inj h; dsimp only; omega
theorem globF_fuel : ∀ (n : Nat) (r : Str) (acc : List (List El)) (cur : List El), r.length < n → ∀ m, r.length < m → globF n r acc cur = globF m r acc cur
 | 0, r, _, _, h, _, _ => by omega
 | n + 1, _, _, _, _, 0, h2 => by omega
 | n + 1, [], _, _, _, m + 1, _ => rfl
 | n + 1, c :: r, acc, cur, h, m + 1, h2 => by
   simp only [List.length_cons, Nat.add_lt_add_iff_right] at h h2
   rw [globF, globF]
   by_cases hc : c = 124
   · rw [if_pos hc, if_pos hc]; exact globF_fuel n r _ _ h m h2
   rw [if_neg hc, if_neg hc]
   cases he : elS c r with
   | none => rfl
   | some x =>
     have := elS_len c r x he
     obtain ⟨e, r'⟩ := x
     dsimp only at this ⊢
     exact globF_fuel n r' _ _ (by omega) m (by omega)
def globK (r : Str) (acc : List (List El)) (cur : List El) : Option (List (List El)) := globF (r.length + 1) r acc cur
theorem globK_nil (acc : List (List El)) (cur : List El) : globK [] acc cur = some (acc ++ [cur]) := rfl
theorem globK_bar (r : Str) (acc : List (List El)) (cur : List El) : globK (124 :: r) acc cur = globK r (acc ++ [cur]) [] := by
 unfold globK; rw [List.length_cons, globF, if_pos rfl]
theorem globK_el (c : UInt8) (r : Str) (acc : List (List El)) (cur : List El) (hc : c ≠ 124) (e : El) (r' : Str) (he : elS c r = some (e, r')) : globK (c :: r) acc cur = globK r' acc (cur ++ [e]) := by
 unfold globK
 rw [List.length_cons, globF, if_neg hc, he]
 have := elS_len c r _ he
 dsimp only at this ⊢
 exact globF_fuel _ _ _ _ (by omega) _ (by omega)
theorem globK_no (c : UInt8) (r : Str) (acc : List (List El)) (cur : List El) (hc : c ≠ 124) (he : elS c r = none) : globK (c :: r) acc cur = none := by
 unfold globK; rw [List.length_cons, globF, if_neg hc, he]
def inRs (rs : List (UInt8 × UInt8)) (c : Nat) : Bool := rs.any fun x => decide (x.1.toNat ≤ c) && decide (c ≤ x.2.toNat)
def El.has : El → Nat → Bool
 | .lit b, c => b.toNat == c
 | .star, c => decide (32 ≤ c) && decide (c ≤ 126)
 | .any, c => decide (32 ≤ c) && decide (c ≤ 126)
 | .set no rs, c => if no then decide (32 ≤ c) && decide (c ≤ 126) && !inRs rs c else inRs rs c
def El.isStar : El → Bool
 | .star => true
 | _ => false
def El.litN : El → Nat
 | .lit b => b.toNat
 | _ => 0
theorem membersS_suf : ∀ (n : Nat) (r : Str) (x), membersS n r = some x → ∃ m, 1 ≤ m ∧ m ≤ r.length ∧ x.2 = r.drop m
 | 0, _, _, h => by cases h
 | n + 1, [], _, h => by cases h
 | n + 1, c :: r, x, h => by
   rw [membersS] at h
   by_cases hc : c = 93
   · rw [if_pos hc] at h
     obtain rfl := Option.some.inj h
     exact ⟨1, Nat.le_refl _, by simp, rfl⟩
   rw [if_neg hc] at h
   have one : ∀ (k : Nat) (a : UInt8 × UInt8), ((membersS n (r.drop k)).map fun x => (a :: x.1, x.2)) = some x → ∃ m, 1 ≤ m ∧ m ≤ (c :: r).length ∧ x.2 = (c :: r).drop m := fun k a h => by
    cases hm : membersS n (r.drop k) with
    | none => rw [hm] at h; cases h
    | some y =>
      rw [hm] at h
      obtain rfl := Option.some.inj h
      obtain ⟨m, m1, m2, e⟩ := membersS_suf n _ y hm
      rw [List.length_drop] at m2
      refine ⟨k + m + 1, by omega, by simp only [List.length_cons]; omega, ?_⟩
      rw [List.drop_succ_cons, ← List.drop_drop]
      exact e
   cases hr : rngS r with
   | none => rw [hr] at h; exact one 0 _ h
   | some b =>
     rw [hr] at h
     dsimp only at h
     split at h
     · exact one 2 _ h
     · cases h
theorem setQ_suf (no : Bool) (q : Str) (x) (h : setQ no q = some x) : (∃ rs, x.1 = .set no rs) ∧ ∃ m, 1 ≤ m ∧ m ≤ q.length ∧ x.2 = q.drop m := by
 unfold setQ at h
 split at h
 · cases h
 · cases hm : membersS q.length q with
   | none => rw [hm] at h; cases h
   | some y =>
     rw [hm] at h
     obtain rfl := Option.some.inj h
     exact ⟨⟨_, rfl⟩, membersS_suf _ _ _ hm⟩
theorem setS_suf (r : Str) (x) (h : setS r = some x) : (∃ no rs, x.1 = .set no rs) ∧ ∃ m, 1 ≤ m ∧ m ≤ r.length ∧ x.2 = r.drop m := by
 unfold setS at h
 split at h
 · obtain ⟨⟨rs, e⟩, m, m1, m2, e2⟩ := setQ_suf _ _ _ h
   rw [List.length_drop] at m2
   refine ⟨⟨_, _, e⟩, 1 + m, by omega, ?_, ?_⟩
   · omega
   · rw [e2, List.drop_drop]
 · obtain ⟨⟨rs, e⟩, h2⟩ := setQ_suf _ _ _ h
   exact ⟨⟨_, _, e⟩, h2⟩
end Go.Proofs.YtibflgfhjfcifaaGreatDoor
