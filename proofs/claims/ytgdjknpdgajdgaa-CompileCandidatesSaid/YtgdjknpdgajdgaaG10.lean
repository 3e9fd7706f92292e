/-
  What compile's New gathers rule by rule, in plain words; a program that is made, as it lies in memory.
  The value of a term by its key: plain, and the contract of the reference's Value.
  Which rules stay, in plain words; no program in sight.
-/
import Derived.Test.YtgdjknpdgajdgaaNewS
import Derived.StringKeys
import Derived.Test.YtgdjknpdgajdgaaScrD
import Derived.Test.YtgdjknpdgajdgaaG04
import Derived.Test.YtgdjknpdgajdgaaG05
namespace Go.Proofs.Ytgdjknpdgajdgaa
open Go.RowKit Go.Maps
def rkF (l : List Tm) : Option Str := rkeyS (frontS l)
def ksS (ls : List (List Tm)) : List (Option Str) := ls.map rkF
def genS (ls : List (List Tm)) : List Int := idxS (fun l => rkF l == none) ls
def labB1 (l : List Tm) : Bool := l.any fun t => t.key == 23
def labS (ls : List (List Tm)) : List Int := idxS labB1 ls
theorem ksS_snoc (ls : List (List Tm)) (l : List Tm) : ksS (ls ++ [l]) = ksS ls ++ [rkF l] := by simp [ksS]
theorem genS_none {ls : List (List Tm)} {l : List Tm} (h : rkF l = none) : genS (ls ++ [l]) = genS ls ++ [Int.ofNat ls.length] := by unfold genS; rw [idxS_snoc, if_pos (by rw [h]; rfl)]
theorem genS_some {ls : List (List Tm)} {l : List Tm} {s : Str} (h : rkF l = some s) : genS (ls ++ [l]) = genS ls := by unfold genS; rw [idxS_snoc, if_neg (by rw [h]; simp)]
theorem labS_yes {ls : List (List Tm)} {l : List Tm} (h : labB1 l = true) : labS (ls ++ [l]) = labS ls ++ [Int.ofNat ls.length] := by unfold labS; rw [idxS_snoc, if_pos h]
theorem labS_no {ls : List (List Tm)} {l : List Tm} (h : labB1 l = false) : labS (ls ++ [l]) = labS ls := by unfold labS; rw [idxS_snoc, if_neg (by rw [h]; simp)]
theorem grp_none {ls : List (List Tm)} {l : List Tm} (h : rkF l = none) : grpD (ksS (ls ++ [l])) = grpD (ksS ls) := by rw [ksS_snoc, h, grpD_none]
theorem grp_some {ls : List (List Tm)} {l : List Tm} {s : Str} (h : rkF l = some s) : grpD (ksS (ls ++ [l])) = (grpD (ksS ls)).put (.string s) (.slice (ChangeShapes.lits .i64 (plcS (ksS ls) s ++ [Int.ofNat ls.length])) []) := by
  rw [ksS_snoc, h, grpD_some, plcS_same]
  unfold ksS
  rw [List.length_map]
theorem litS_len {p k : Str} (h : litS p = some k) : k.length ≤ 256 := by
  unfold litS at h
  split at h
  · rename_i l hg
    split at h
    · rename_i hb
      obtain rfl := Option.some.inj h
      have := (globS_sizes hg).1 l (List.mem_singleton.2 rfl)
      omega
    · cases h
  · cases h
theorem rkF_len {l : List Tm} {s : Str} (h : rkF l = some s) : s.length ≤ 256 := by
  obtain ⟨t, _, _, _, h3⟩ := rkeyS_some h
  exact litS_len h3
theorem fsS_snoc (ls : List (List Tm)) (l : List Tm) : (ls ++ [l]).map frontS = ls.map frontS ++ [frontS l] := by simp
abbrev keyedS : Keyed Try.prog 9 := string_keyed Try.underlying9
theorem key_of {s : Str} (h : s.length ≤ 256) : keyOf Try.prog 9 (.string (bs s)) = some (.string s) := by
  have h1 := WideMaps.keyOf_string_mk (P := Try.prog) Try.underlying9 (s := bs s) (by rw [size_bs]; unfold maxLen; omega)
  rw [h1]
  show some (Lit.string (L (bs s))) = _
  rw [L_bs]
theorem zeroInts (w : World) : (zeroValue 22).run Try.prog w = .ok (.slice none 0 0) w := by kernel_rfl
/-- A program of rules with these terms. -/
def Prg (W : World) (pb : Nat) (ls : List (List Tm)) : Prop := ∃ (wb : World) (RV : Value) (vs : List Value) (F G Lb : Value), pb = wb.heap.size + 1 ∧ NewSt wb RV (ls.map frontS) vs F ls.length (grpD (ksS ls)) G (genS ls) Lb (labS ls) W
theorem Prg.keep {W W1 : World} {pb : Nat} {ls : List (List Tm)} (h : Prg W pb ls) (hb : Below W.heap.size W W1) : Prg W1 pb ls := by
  obtain ⟨wb, RV, vs, F, G, Lb, e, h⟩ := h
  exact ⟨wb, RV, vs, F, G, Lb, e, h.go hb⟩
/-- What New leaves. -/
def NewPost (ls : List (List Tm)) (w : World) (e : Ending) (w' : World) : Prop := ∃ pb, e = .returned (.pointer (some ⟨pb, 0, none⟩)) ∧ Prg w' pb ls ∧ Below w.heap.size w w' ∧ w.heap.size < pb
theorem take_snocL {α : Type} {l : List α} {k : Nat} (h : k < l.length) : l.take (k + 1) = l.take k ++ [l[k]] := List.take_succ_eq_append_getElem h
/-- A block stays where a row that is not it has grown, and a field of another block is written. -/
theorem keep_box {W W1 W2 : World} {g pb : Nat} {o X : Obj} {row : Option Nat} (h : W.heap[g]? = some X) (hg : (W.alloc o).grownBy W1 row) (hr : ∀ r, row = some r → r ≠ g) (hg2 : W1.grownBy W2 (some pb)) (hp : g ≠ pb) : W2.heap[g]? = some X := by
  have hlt := blk_lt' h
  have h1 := hg.size
  have h2 : (W.alloc o).heap.size = W.heap.size + 1 := by simp
  rw [hg2.block g (by omega) (fun e => hp (Option.some.inj e)), hg.block g (by omega) (fun e => hr g e.symm rfl), heap_alloc_old _ _ hlt]
  exact h
theorem fr_last {W : World} {base : Nat} {v x : Value} {vs : List Value} {fs : List (List Tm)} {l : List Tm} (h : FrV W base v (vs ++ [x]) (fs ++ [l])) : W.ownsRow base 43 4 x l.length (cellsOf encTm l) := by
  have hl := h.len
  simp only [List.length_append, List.length_singleton] at hl
  exact h.inner vs.length x l (by simp) (by rw [show vs.length = fs.length by omega]; simp)
end Go.Proofs.Ytgdjknpdgajdgaa
namespace Go.Proofs.Ytgdjknpdgajdgaa
open Go.RowKit
/-- The value of the first term with a key. -/
def valT (l : List Tm) (key : Int) : Option ByteArray := (l.find? fun t => t.key == key).map Tm.value
def valOV (o : Option ByteArray) : Value := .tuple #[.string (o.getD ⟨#[]⟩), .bool o.isSome]
theorem find_hit {l : List Tm} {key : Int} {k : Nat} (hno : ∀ j (h : j < l.length), j < k → l[j].key ≠ key) (hk : k < l.length) (h : l[k].key = key) : valT l key = some l[k].value := by
  unfold valT
  have : l.find? (fun t => t.key == key) = some l[k] := by
    rw [List.find?_eq_some_iff_getElem]
    exact ⟨by simpa using h, k, hk, rfl, fun j hj => by simpa using hno j (by omega) hj⟩
  rw [this]; rfl
theorem find_miss {l : List Tm} {key : Int} (hno : ∀ j (h : j < l.length), l[j].key ≠ key) : valT l key = none := by
  unfold valT
  have : l.find? (fun t => t.key == key) = none := by
    rw [List.find?_eq_none]
    intro t ht
    obtain ⟨j, hj, rfl⟩ := List.getElem_of_mem ht
    simpa using hno j hj
  rw [this]; rfl
set_option maxRecDepth 100000 in
set_option maxHeartbeats 1000000 in
theorem RValue_any (A : Option Addr) (c : Nat) (l : List Tm) (key : Int) (w : World) (hn : l.length ≤ 1000000) (h : RowAt w w.heap.size A 4 l.length (cellsOf encTm l)) :
    Calls Try.prog 36 #[.slice A l.length c, .int .i64 key] w fun e w' => e = .returned (valOV (valT l key)) ∧ w = w' := by
  have H := Lib.hid h
  clear h
  generalize hN : l.length = N at *
  have HN := Lib.hid hN
  clear hN
  go_enter Try.func36, Try.ntmps36
  go_wp2
  go_loopg [6] (N + 1) (fun gk s6 wr => ∃ k : Nat, s6 = .int .i64 k ∧ k + gk = N + 1 ∧ k ≤ N ∧ w = wr ∧ Hid (∀ j (h : j < l.length), j < k → l[j].key ≠ key))
  case atStart => exact ⟨0, rfl, by omega, Nat.zero_le _, rfl, fun j _ h => absurd h (Nat.not_lt_zero _)⟩
  case round =>
    obtain ⟨k, rfl, hkg, hkN, rfl, hno⟩ := hrel
    by_cases hlt : k < N
    · have hk' : k < l.length := by rw [HN.out]; exact hlt
      have hr := H.out
      rw [← HN.out] at hr
      obtain ⟨ba, off, rfl, c0, c1, c2, c3⟩ := hr.tm (Below.refl _ _) hk'
      have hltI : (k : Int) < (N : Int) := by omega
      clear hr
      cases hq : (l[k].key == key)
      · have hne : l[k].key ≠ key := by simpa using hq
        have HA : Hid (∀ j (h : j < l.length), j < k + 1 → l[j].key ≠ key) := Lib.hid fun j h hj => by
          rcases Nat.lt_or_ge j k with h1 | h1
          · exact hno.out j h h1
          · obtain rfl : j = k := by omega
            exact hne
        generalize l[k].key = ky at *
        generalize l[k].value = vl at *
        clear hne
        go_wp2
        go_roundg (gk - 1)
        case measure => omega
        case rel => exact ⟨k + 1, by go_num, by omega, by omega, rfl, HA.out⟩
      · have hke : l[k].key = key := by simpa using hq
        have HV := Lib.hid (find_hit hno.out hk' hke)
        generalize l[k].key = ky at *
        generalize l[k].value = vl at *
        subst hke
        go_wp2
        go_ret2
        rw [HV.out]
        exact ⟨rfl, rfl⟩
    · obtain rfl : k = N := by omega
      have HV := Lib.hid (find_miss (l := l) (key := key) fun j h => hno.out j h (by rw [← HN.out]; exact h))
      go_wp2
      go_ret2
      rw [HV.out]
      exact ⟨rfl, rfl⟩
end Go.Proofs.Ytgdjknpdgajdgaa
namespace Go.Proofs.Ytgdjknpdgajdgaa
open Go.RowKit
def sameV (o : Option ByteArray) (tg : ByteArray) : Bool := match o with
  | some v => v.toList == tg.toList
  | none => false
/-- Is there a rule with the label. -/
def labB (rs : List Rp) (tg : ByteArray) : Bool := rs.any fun y => sameV (valT y.tms 23) tg
def keepB (rs : List Rp) (x : Rp) : Bool := match valT x.tms 24 with
  | some tg => labB rs tg
  | none => true
/-- The rules that stay, and the faults of the others. -/
def linkF : List Rp → List Rp × List Fl
  | [] => ([], [])
  | x :: r => if keepB (linkF r).1 x then (x :: (linkF r).1, (linkF r).2) else ((linkF r).1, ⟨x.file, x.line, 107⟩ :: (linkF r).2)
theorem linkF_drop {l : List Rp} {j : Nat} (h : j < l.length) : linkF (l.drop j) = if keepB (linkF (l.drop (j + 1))).1 l[j] then (l[j] :: (linkF (l.drop (j + 1))).1, (linkF (l.drop (j + 1))).2) else ((linkF (l.drop (j + 1))).1, ⟨l[j].file, l[j].line, 107⟩ :: (linkF (l.drop (j + 1))).2) := by
  rw [List.drop_eq_getElem_cons h, linkF]
theorem linkF_len (l : List Rp) : (linkF l).1.length + (linkF l).2.length = l.length := by
  induction l with
  | nil => rfl
  | cons x r ih =>
    rw [linkF]
    split <;> simp <;> omega
theorem linkF_sub (l : List Rp) : ∀ x ∈ (linkF l).1, x ∈ l := by
  induction l with
  | nil => intro x hx; cases hx
  | cons y r ih =>
    intro x hx
    rw [linkF] at hx
    split at hx
    · rcases List.mem_cons.1 hx with rfl | hx
      · simp
      · exact List.mem_cons_of_mem _ (ih x hx)
    · exact List.mem_cons_of_mem _ (ih x hx)
/-- What both Links leave; where the terms of the rules lie is told by T. -/
def LinkPost (T : Addr → Prop) (l : List Rp) (w : World) (e : Ending) (w' : World) : Prop := ∃ Ar cr Af cf rl fl, e = .returned (.tuple #[.slice Ar rl.length cr, .slice Af fl.length cf]) ∧ rl.map Rl.p = (linkF l).1 ∧ fl = (linkF l).2 ∧ RowAt w' w'.heap.size Ar 3 rl.length (cellsOf encRl rl) ∧ RowAt w' w'.heap.size Af 3 fl.length (cellsOf encFl fl) ∧ InAt 4 encTm Rl.tms w' w'.heap.size rl ∧ Below w.heap.size w w' ∧ rl.length ≤ cr ∧ (∀ a, Ar = some a → w.heap.size ≤ a.block) ∧ ∀ y ∈ rl, ∀ a, y.tms.A = some a → T a
theorem cap_of {w : World} {base k n : Nat} {e : TypeId} {A : Option Addr} {c : Nat} {xs : List Value} (h : w.ownsRow base e k (.slice A n c) n xs) : n ≤ c := by
  rcases h.2 with ⟨_, h2⟩ | ⟨g, cap, cur, e, _, _, hroom, _⟩
  · rw [h2]; exact Nat.zero_le _
  · injection e with _ _ e; rw [e]; exact hroom
end Go.Proofs.Ytgdjknpdgajdgaa
