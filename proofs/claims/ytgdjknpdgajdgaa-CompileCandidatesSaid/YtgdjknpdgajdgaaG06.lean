/-
  The program's package for patterns: elements and sets as they lie; every.
  Loads, stores and makings of sets and elements, behind names; contract of the program's every.
  Contract of the program's member: one member of a set of a pattern.
  strings.HasPrefix, by the shelf's contract.
-/
import Derived.Test.YtgdjknpdgajdgaaG03
import Derived.Deep.WholeRow
import Derived.BigQuiet
import Derived.Test.YtgdjknpdgajdgaaG00
import Derived.Test.YtgdjknpdgajdgaaShelf
namespace Go.Proofs.Ytgdjknpdgajdgaa
open Go.RowKit
/-- An element as the program has it. -/
def elP (n : Nat) (st : Bool) (f : Nat → Bool) : Array Value := #[.int .u8 n, .bool st] ++ boolA 127 f
theorem size_elP (n : Nat) (st : Bool) (f : Nat → Bool) : (elP n st f).size = 129 := by rw [elP, Array.size_append, size_boolA]; rfl
theorem elP_get (n : Nat) (st : Bool) (f : Nat → Bool) (c : Nat) (h : c < 127) : (elP n st f)[2 + c]? = some (.bool (f c)) := by
  rw [elP, Array.getElem?_append_right (by simp), ← boolA_get 127 f c h]
  congr 1
  simp
theorem elP_at (n : Nat) (st : Bool) (f : Nat → Bool) (i : Nat) (h : 2 ≤ i) : (elP n st f)[i]? = (boolA 127 f)[i - 2]? := by
  rw [elP, Array.getElem?_append_right (by simpa using h)]
  rfl
theorem elP_lo (n : Nat) (st : Bool) (f g : Nat → Bool) (i : Nat) (h : i < 2) : (elP n st f)[i]? = (elP n st g)[i]? := by
  rw [elP, elP, Array.getElem?_append_left (by simpa using h), Array.getElem?_append_left (by simpa using h)]
theorem elP_set (n : Nat) (st : Bool) (f : Nat → Bool) (c : Nat) (b : Bool) : (elP n st f).setIfInBounds (2 + c) (.bool b) = elP n st (fun d => if d = c then b else f d) := by
  apply Array.ext_getElem?
  intro i
  rw [Array.getElem?_setIfInBounds, size_elP]
  by_cases h2 : i < 2
  · rw [if_neg (by omega)]
    exact elP_lo _ _ _ _ i h2
  · rw [elP_at _ _ _ i (by omega), elP_at _ _ _ i (by omega), ← boolA_set, Array.getElem?_setIfInBounds, size_boolA]
    by_cases e : 2 + c = i
    · rw [if_pos e, if_pos (show c = i - 2 by omega)]
      by_cases hc : c < 127
      · rw [if_pos (by omega), if_pos (by omega)]
      · rw [if_neg (by omega), if_neg (by omega)]
    · rw [if_neg e, if_neg (by omega)]
theorem elP_one (n : Nat) (st : Bool) (f : Nat → Bool) : (elP n st f).all (·.oneCell') = true := by
  have h := boolA_one 127 f
  unfold elP
  rw [Array.all_append, h]
  simp [Value.oneCell']
theorem elP_congr {n : Nat} {st : Bool} {f g : Nat → Bool} (h : ∀ c, c < 127 → f c = g c) : elP n st f = elP n st g := by rw [elP, elP, boolA_congr h]
theorem zeroSet : Try.zeroCells116 = boolA 127 (fun _ => false) := by
  unfold boolA
  kernel_rfl
theorem zeroElP : Try.zeroCells118 = elP 0 false (fun _ => false) := by
  unfold elP boolA
  kernel_rfl
theorem bd_lit (n : Nat) : Try.prog.built 118 [(0, .int .u8 n)] = some (elP n false (fun _ => false)) := by
  unfold elP boolA
  kernel_rfl
theorem bd_set (f : Nat → Bool) : Try.prog.built 118 [(2, .agg (boolA 127 f))] = some (elP 0 false f) := by
  unfold elP boolA
  kernel_rfl
theorem bd_star (f : Nat → Bool) : Try.prog.built 118 [(1, .bool true), (2, .agg (boolA 127 f))] = some (elP 0 true f) := by
  unfold elP boolA
  kernel_rfl
theorem bd_none : Try.prog.built 116 [] = some (boolA 127 (fun _ => false)) := by
  unfold boolA
  kernel_rfl
attribute [irreducible] elP
end Go.Proofs.Ytgdjknpdgajdgaa
namespace Go.Proofs.Ytgdjknpdgajdgaa
open Go.RowKit
theorem setSize : (Try.prog.info? 116).map (·.size) = some 127 := by kernel_rfl
theorem elPSize : (Try.prog.info? 118).map (·.size) = some 129 := by kernel_rfl
noncomputable def ldSet (v : Value) : Sem Value := Instr.loadAt 116 v
theorem ld_set (v : Value) : Instr.loadAt 116 v = ldSet v := rfl
set_option maxRecDepth 100000 in
theorem ldSet_at {w : World} {g : Nat} {cs : Array Value} {t : TypeId} {fr : Nat × Nat} (h : w.heap[g]? = some (.cells cs t fr)) (hs : cs.size = 127) : (ldSet (.pointer (some ⟨g, 0, none⟩))).run Try.prog w = .ok (.agg cs) w := by
  unfold ldSet
  simp only [Instr.loadAt, Instr.sureAddr, Sem.run_bind, Sem.run_pure, Result.andThen_ok]
  exact run_loadVar_row w g t 116 cs fr _ h Try.underlying116 rfl (by rw [hs]; exact setSize)
attribute [irreducible] ldSet
noncomputable def stSet (v u : Value) : Sem Unit := Instr.storeAt 116 v u
theorem st_set (v u : Value) : Instr.storeAt 116 v u = stSet v u := rfl
set_option maxRecDepth 100000 in
theorem stSet_at {w : World} {g : Nat} {old cs : Array Value} {t : TypeId} (h : w.heap[g]? = some (.cells old t (0, 0))) (ho : old.size = 127) (hs : cs.size = 127) (h1 : cs.all (·.oneCell') = true) : (stSet (.pointer (some ⟨g, 0, none⟩)) (.agg cs)).run Try.prog w = .ok () (w.setRow g cs) := by
  unfold stSet
  simp only [Instr.storeAt, Instr.sureAddr, Sem.run_bind, Sem.run_pure, Result.andThen_ok]
  exact run_storeVar_row w g t 116 old cs h (by rw [hs]; exact setSize) (by rw [ho, hs]) h1
attribute [irreducible] stSet
noncomputable def bdSet (parts : Array (Nat × Value)) : Sem Value := Instr.build 116 parts
theorem bd_set' (parts : Array (Nat × Value)) : Instr.build 116 parts = bdSet parts := rfl
theorem bdSet_none (w : World) : (bdSet #[]).run Try.prog w = .ok (.agg (boolA 127 (fun _ => false))) w := by
  unfold bdSet
  exact run_build w _ _ _ bd_none
attribute [irreducible] bdSet
noncomputable def ldElP (v : Value) : Sem Value := Instr.loadAt 118 v
theorem ld_elP (v : Value) : Instr.loadAt 118 v = ldElP v := rfl
set_option maxRecDepth 100000 in
theorem ldElP_at {w : World} {g : Nat} {cs : Array Value} {t : TypeId} {fr : Nat × Nat} (h : w.heap[g]? = some (.cells cs t fr)) (hs : cs.size = 129) : (ldElP (.pointer (some ⟨g, 0, none⟩))).run Try.prog w = .ok (.agg cs) w := by
  unfold ldElP
  simp only [Instr.loadAt, Instr.sureAddr, Sem.run_bind, Sem.run_pure, Result.andThen_ok]
  exact run_loadVar_row w g t 118 cs fr _ h Try.underlying118 rfl (by rw [hs]; exact elPSize)
attribute [irreducible] ldElP
noncomputable def stElP (v u : Value) : Sem Unit := Instr.storeAt 118 v u
theorem st_elP (v u : Value) : Instr.storeAt 118 v u = stElP v u := rfl
set_option maxRecDepth 100000 in
theorem stElP_at {w : World} {g : Nat} {old cs : Array Value} {t : TypeId} (h : w.heap[g]? = some (.cells old t (0, 0))) (ho : old.size = 129) (hs : cs.size = 129) (h1 : cs.all (·.oneCell') = true) : (stElP (.pointer (some ⟨g, 0, none⟩)) (.agg cs)).run Try.prog w = .ok () (w.setRow g cs) := by
  unfold stElP
  simp only [Instr.storeAt, Instr.sureAddr, Sem.run_bind, Sem.run_pure, Result.andThen_ok]
  exact run_storeVar_row w g t 118 old cs h (by rw [hs]; exact elPSize) (by rw [ho, hs]) h1
attribute [irreducible] stElP
noncomputable def bdElP (parts : Array (Nat × Value)) : Sem Value := Instr.build 118 parts
theorem bd_elP (parts : Array (Nat × Value)) : Instr.build 118 parts = bdElP parts := rfl
theorem bdElP_lit (n : Nat) (w : World) : (bdElP #[(0, .int .u8 n)]).run Try.prog w = .ok (.agg (elP n false (fun _ => false))) w := by
  unfold bdElP
  exact run_build w _ _ _ (bd_lit n)
theorem bdElP_set (f : Nat → Bool) (w : World) : (bdElP #[(2, .agg (boolA 127 f))]).run Try.prog w = .ok (.agg (elP 0 false f)) w := by
  unfold bdElP
  exact run_build w _ _ _ (bd_set f)
theorem bdElP_star (f : Nat → Bool) (w : World) : (bdElP #[(1, .bool true), (2, .agg (boolA 127 f))]).run Try.prog w = .ok (.agg (elP 0 true f)) w := by
  unfold bdElP
  exact run_build w _ _ _ (bd_star f)
attribute [irreducible] bdElP
noncomputable def bsElP (n : Nat) (parts : Array (Nat × Value)) : Sem Value := Instr.buildSlice 100 n parts
theorem bs_elP (n : Nat) (parts : Array (Nat × Value)) : Instr.buildSlice 100 n parts = bsElP n parts := rfl
theorem elPInfo : (Try.prog.info? 118).map (fun i => (i.zero.map (·.cells.size), i.size, i.bytes)) = some (some 129, 129, 129) := by kernel_rfl
theorem elPParts : ∃ i z, Try.prog.info? 118 = some i ∧ i.zero = some z ∧ i.size = 129 ∧ i.bytes = 129 ∧ z.cells.size = 129 := by
  have h := elPInfo
  cases hq : Try.prog.info? 118 with
  | none => rw [hq] at h; simp at h
  | some i =>
    rw [hq] at h
    simp only [Option.map_some, Option.some.injEq, Prod.mk.injEq] at h
    obtain ⟨h1, h2, h3⟩ := h
    cases hz : i.zero with
    | none => rw [hz] at h1; simp at h1
    | some z => rw [hz] at h1; exact ⟨i, z, rfl, hz, h2, h3, by simpa using h1⟩
theorem slPInfo : (Try.prog.info? 100).map (fun i => (i.zero, i.size, i.bytes)) = some (some (.slice none 0 0), 1, 24) := by kernel_rfl
theorem bsElP_at (cs : Array Value) (hs : cs.size = 129) (w : World) : (bsElP 1 #[(0, .agg cs)]).run Try.prog w = .ok (.slice (some ⟨w.heap.size, 0, none⟩) 1 1) (w.alloc (.cells cs 118)) := by
  obtain ⟨i0, z, hi0, hz0, hz1, hz2, hz3⟩ := elPParts
  unfold bsElP
  refine run_buildSlice w _ _ 1 _ cs i0 z Try.underlying100 hi0 hz0 (by rw [hz1]; decide) (by rw [hz1]; decide) ?_
  rw [hz1]
  exact fill_one cs _ 129 hs (by simp)
attribute [irreducible] bsElP
def allB : Nat → Bool := fun c => decide (32 ≤ c) && decide (c ≤ 126)
attribute [local go_sem ↓] ld_set st_set
set_option maxRecDepth 100000 in
set_option maxHeartbeats 1000000 in
theorem every_any (w : World) : Calls Try.prog 82 #[] w fun e w' => e = .returned (.agg (boolA 127 allB)) ∧ Below w.heap.size w w' := by
  go_enter Try.func82, Try.ntmps82
  go_wp2
  rw [zeroSet]
  obtain ⟨W1, hW1⟩ : ∃ W1, (w.alloc (.cells (boolA 127 (fun _ => false)) 116)).alloc (.cells (boolA 127 (fun _ => false)) 116) = W1 := ⟨_, rfl⟩
  have h0 : W1.heap[w.heap.size]? = some (.cells (boolA 127 (fun _ => false)) 116 (0, 0)) := by rw [← hW1]; exact heap_alloc2_old w _ _
  have h1 : W1.heap[w.heap.size + 1]? = some (.cells (boolA 127 (fun _ => false)) 116 (0, 0)) := by rw [← hW1]; exact heap_alloc2_new w _ _
  have hb : Below w.heap.size w W1 := by rw [← hW1]; exact ((Below.refl _ _).alloc (Nat.le_refl _) _).alloc (by simp) _
  rw [hW1]
  have HB := Lib.hid hb
  have H0 := Lib.hid h0
  have H1 := Lib.hid h1
  clear hW1 hb h0 h1
  go_loopg [2] 97 (fun gk s2 wr => ∃ k : Nat, s2 = .int .i64 k ∧ 32 ≤ k ∧ k ≤ 127 ∧ k + gk = 129 ∧ Hid (wr.heap[w.heap.size]? = some (.cells (boolA 127 (fun _ => false)) 116 (0, 0))) ∧ Hid (wr.heap[w.heap.size + 1]? = some (.cells (boolA 127 (fun d => decide (32 ≤ d) && decide (d < k))) 116 (0, 0))) ∧ Hid (Below w.heap.size w wr))
  case atStart =>
    refine ⟨32, rfl, by omega, by omega, rfl, H0.out, ?_, HB.out⟩
    have e : (fun d => decide (32 ≤ d) && decide (d < 32)) = (fun _ => false) := by
      funext d
      simp only [Bool.and_eq_false_iff, decide_eq_false_iff_not]
      omega
    show _ = _
    rw [e]
    exact H1.out
  case round =>
    obtain ⟨k, rfl, hk1, hk2, hk3, h0, hE, hB⟩ := hrel
    by_cases hk : k ≤ 126
    · have hkI : (k : Int) ≤ 126 := by omega
      have cG := cellOf hE.out (boolA_get 127 _ k (by omega))
      have fG := frozen_of_row _ _ k _ _ hE.out
      have hset := boolA_set 127 (fun d => decide (32 ≤ d) && decide (d < k)) k true
      have ef : (fun d => if d = k then true else (decide (32 ≤ d) && decide (d < k))) = (fun d => decide (32 ≤ d) && decide (d < k + 1)) := by
        funext d
        by_cases hd : d = k
        · rw [if_pos hd, hd]; simp; omega
        · rw [if_neg hd]
          have : decide (d < k) = decide (d < k + 1) := by rw [decide_eq_decide]; omega
          rw [this]
      rw [ef] at hset
      have HS1 := Lib.hid (setCell_known hE.out hset)
      have HO := Lib.hid ((show (wr.setCell ⟨w.heap.size + 1, k, none⟩ (.bool true)).heap[w.heap.size]? = wr.heap[w.heap.size]? from heap_setCell_other _ _ _ _ (by dsimp only; omega)).trans h0.out)
      have HB2 := Lib.hid (hB.out.setCell (p := ⟨w.heap.size + 1, k, none⟩) (by dsimp only; omega) (.bool true))
      clear hset ef hE hB h0
      go_wp2
      go_roundg (gk - 1)
      case measure => omega
      case rel => exact ⟨k + 1, by go_num, by omega, by omega, by omega, HO.out, HS1.out, HB2.out⟩
    · obtain rfl : k = 127 := by omega
      have e : (fun d => decide (32 ≤ d) && decide (d < 127)) = allB := by
        funext d
        show _ = (decide (32 ≤ d) && decide (d ≤ 126))
        have : decide (d < 127) = decide (d ≤ 126) := by rw [decide_eq_decide]; omega
        rw [this]
      rw [e] at hE
      have hl := ldSet_at hE.out (size_boolA _ _)
      have hs := stSet_at h0.out (size_boolA _ _) (size_boolA 127 allB) (boolA_one 127 allB)
      have HB2 := Lib.hid (hB.out)
      have h0' := h0.out
      clear hE h0 hB e
      go_wp2
      refine post_cellrow rfl (by rfl) h0' Try.underlying116 rfl (by rw [size_boolA]; exact setSize) (by rfl) ?_
      exact ⟨rfl, HB2.out.grown (grown_setRow wr w.heap.size _) HB2.out.size (fun j e => by cases e; exact Nat.le_refl _)⟩
end Go.Proofs.Ytgdjknpdgajdgaa
namespace Go.Proofs.Ytgdjknpdgajdgaa
open Go.RowKit
/-- The first member of what is left, and how many bytes it takes. -/
def memS : Str → Option ((UInt8 × UInt8) × Nat)
  | [] => none
  | c :: r => match rngS r with
    | some b => if c ≤ b then some ((c, b), 3) else none
    | none => some ((c, c), 1)
/-- What stays while a reader in block g goes on. -/
def Keep1 (g b : Nat) (w w' : World) : Prop := ∀ w0 : World, w0.grownBy w (some g) → w0.heap.size ≤ b → w0.grownBy w' (some g)
def MemPost (p : ByteArray) (i g b : Nat) (rs : List (UInt8 × UInt8)) (w : World) (e : Ending) (w' : World) : Prop := Keep1 g b w w' ∧
  match memS ((L p).drop i) with
  | none => e = .returned (.bool false)
  | some (x, n) => e = .returned (.bool true) ∧ w'.heap[g]? = some (.cells #[.string p, .int .i64 ((i + n : Nat) : Int)] 111 (0, 0)) ∧ w'.heap[b]? = some (.cells (boolA 127 (inRs (rs ++ [x]))) 116 (0, 0))
abbrev rdr (p : ByteArray) (z : Int) : Obj := .cells #[.string p, .int .i64 z] 111 (0, 0)
theorem rd_set {w : World} {g : Nat} {p : ByteArray} {z y : Int} (h : w.heap[g]? = some (rdr p z)) : (w.setCell ⟨g, 1, none⟩ (.int .i64 y)).heap[g]? = some (rdr p y) := setCell_known h rfl
theorem rd_drew {w : World} {g : Nat} {o : Obj} (h : w.heap[g]? = some o) (k : Nat) : (w.drewN k).heap[g]? = some o := h
theorem rd_other {w : World} {g b : Nat} {o : Obj} {u : Value} {i : Nat} (h : w.heap[b]? = some o) (hne : g ≠ b) : (w.setCell ⟨g, i, none⟩ u).heap[b]? = some o := (heap_setCell_other _ _ _ _ (fun e => hne e.symm)).trans h
theorem Keep1.refl (g b : Nat) (w : World) : Keep1 g b w w := fun _ h _ => h
theorem Keep1.drewN {g b : Nat} {w W : World} (h : Keep1 g b w W) (k : Nat) : Keep1 g b w (W.drewN k) := fun w0 hg hb => grown_tr (h w0 hg hb) (grown_drewN _ _ _)
theorem Keep1.set {g b i : Nat} {u : Value} {w W : World} (h : Keep1 g b w W) : Keep1 g b w (W.setCell ⟨g, i, none⟩ u) := fun w0 hg hb => grown_tr (h w0 hg hb) (grown_set _ _ _ _)
theorem Keep1.setB {g b i : Nat} {u : Value} {w W : World} (h : Keep1 g b w W) : Keep1 g b w (W.setCell ⟨b, i, none⟩ u) := fun w0 hg hb => grown_far (h w0 hg hb) (grown_set _ _ _ _) (fun j e => by cases e; exact Or.inl hb)
set_option maxRecDepth 100000 in
set_option maxHeartbeats 2000000 in
theorem member_any (p : ByteArray) (i g b : Nat) (rs : List (UInt8 × UInt8)) (w : World) (hp : p.size ≤ 256) (hpr : printS (L p) = true) (hi : i ≤ p.size) (hne : g ≠ b) (hg : w.heap[g]? = some (.cells #[.string p, .int .i64 i] 111 (0, 0))) (hb : w.heap[b]? = some (.cells (boolA 127 (inRs rs)) 116 (0, 0))) :
    Calls Try.prog 95 #[.pointer (some ⟨g, 0, none⟩), .pointer (some ⟨b, 0, none⟩)] w (MemPost p i g b rs w) := by
  have HG := Lib.hid hg
  have HB := Lib.hid hb
  have HP := Lib.hid hpr
  have c0 := cellOf (j := 0) (u := .string p) hg rfl
  have c1 := cellOf (j := 1) (u := .int .i64 i) hg rfl
  have f1 := frozen_of_row _ _ 1 _ _ hg
  have hiI : (i : Int) ≤ (p.size : Int) := by omega
  clear hg hb hpr
  obtain ⟨q, hq⟩ : ∃ q, p.extract i p.size = q := ⟨_, rfl⟩
  have hL : L q = (L p).drop i := by rw [← hq, L_extract, List.take_of_length_le (by rw [len_L]; exact Nat.le_refl _)]
  have hqs : q.size = p.size - i := by rw [← hq, size_extract]; omega
  have hqg : ∀ (k : Nat) (h : k < q.size), q[k] = p[i + k]'(by omega) := fun k h => by
    have h1 : (L q)[k]? = some q[k] := by rw [List.getElem?_eq_getElem (by rw [len_L]; exact h)]; rfl
    rw [hL, List.getElem?_drop, List.getElem?_eq_getElem (by rw [len_L]; omega)] at h1
    exact (Option.some.inj h1).symm
  go_enter Try.func95, Try.ntmps95
  go_wp2
  go_quiet (fail)
  have HL := Lib.hid hL
  clear hL hq
  by_cases h0 : i < p.size
  · have hq0 : (0 : Int) < (q.size : Int) := by omega
    have t1 : q.toList.isEmpty = false := by rw [tl]; cases hh : L q with
      | nil => have := len_L q; rw [hh] at this; simp at this; omega
      | cons x y => rfl
    have t2 : ¬ q.toList = [] := fun e => by rw [e] at t1; cases t1
    have hpa := pr_of HP.out i h0
    have ha : q[0]'(by omega) = p[i] := by rw [hqg 0 (by omega)]; rfl
    have HR : Hid (memS ((L p).drop i) = match rngS ((L p).drop (i + 1)) with
        | some b => if p[i] ≤ b then some ((p[i], b), 3) else none
        | none => some ((p[i], p[i]), 1)) := Lib.hid (by rw [drop_cons p i h0, memS])
    have hcase : ∀ b2, rngS ((L p).drop (i + 1)) = some b2 → ∃ h : 2 < q.size, q[1] = 45 ∧ q[2] = b2 ∧ b2 ≠ 93 ∧ 32 ≤ b2.toNat ∧ b2.toNat ≤ 126 := fun b2 hr => by
      obtain ⟨h1, h2, h45, hb2, hne⟩ := rng_some hr
      have := pr_of HP.out (i + 2) h2
      rw [hb2] at this
      exact ⟨by omega, by rw [hqg 1 (by omega)]; exact h45, by rw [hqg 2 (by omega)]; exact hb2, hne, by omega, by omega⟩
    have hno : ∀ h : 2 < q.size, rngS ((L p).drop (i + 1)) = none → ¬ (q[1] = 45 ∧ q[2] ≠ 93) := fun h hr => by
      have := rng_none hr (by omega)
      rw [hqg 1 (by omega), hqg 2 (by omega)]
      exact this
    have HCase := Lib.hid hcase
    have HNo := Lib.hid hno
    obtain ⟨a, hpe⟩ : ∃ a, p[i] = a := ⟨_, rfl⟩
    rw [hpe] at hpa ha HR
    clear hcase hno hpe hqg
    go_upto_region 6 with (go_quiet (fail))
    go_cut [43] from 31 to 43 (fun s43 wx => s43 = .bool (rngS ((L p).drop (i + 1))).isSome ∧ Hid (wx.heap[g]? = some (rdr p ((i : Int) + 1))) ∧ Hid (wx.heap[b]? = some (.cells (boolA 127 (inRs rs)) 116 (0, 0))) ∧ Hid (Keep1 g b w wx))
    case first =>
      cases hr : rngS ((L p).drop (i + 1)) with
      | some b2 =>
        have HRr := Lib.hid hr
        obtain ⟨h2, e1, e2, hn93, hb32, hb126⟩ := HCase.out b2 hr
        have h2I : (2 : Int) < (q.size : Int) := by omega
        have h1I : (1 : Int) < (q.size : Int) := by omega
        have e45 : ((q[1].toNat : Int) == 45) = true := by rw [e1]; rfl
        have f93 : ((q[2].toNat : Int) != 93) = true := by rw [bne_iff_ne, e2]; intro e; exact hn93 (UInt8.toNat_inj.1 (Int.ofNat.inj e))
        clear hr HR HCase HNo e1 hn93
        go_wp2
        go_meet
        have f93b : ((b2.toNat : Int) != 93) = true := by rw [e2] at f93; exact f93
        exact ⟨by simp [f93b, HRr.out], rd_set (rd_drew HG.out _), rd_other (rd_drew HB.out _) hne, ((Keep1.refl g b w).drewN _).set⟩
      | none =>
        have HRr := Lib.hid hr
        by_cases h2 : 2 < q.size
        · have h2I : (2 : Int) < (q.size : Int) := by omega
          have h1I : (1 : Int) < (q.size : Int) := by omega
          have hnn := HNo.out h2 hr
          by_cases h45 : q[1] = 45
          · have e45 : ((q[1].toNat : Int) == 45) = true := by rw [h45]; rfl
            have h93 : q[2] = 93 := Decidable.not_not.1 (fun h => hnn ⟨h45, h⟩)
            have f93 : ((q[2].toNat : Int) != 93) = false := by rw [h93]; rfl
            clear hr HR HCase HNo h45 h93 hnn
            go_wp2
            go_meet
            exact ⟨by simp [HRr.out], rd_set (rd_drew HG.out _), rd_other (rd_drew HB.out _) hne, ((Keep1.refl g b w).drewN _).set⟩
          · have e45 : ((q[1].toNat : Int) == 45) = false := by
              rw [beq_eq_false_iff_ne]; intro e; exact h45 (UInt8.toNat_inj.1 (Int.ofNat.inj e))
            clear hr HR HCase HNo h45 hnn
            go_wp2
            go_meet
            exact ⟨by simp [HRr.out], rd_set (rd_drew HG.out _), rd_other (rd_drew HB.out _) hne, ((Keep1.refl g b w).drewN _).set⟩
        · have h2I : ¬ (2 : Int) < (q.size : Int) := by omega
          clear hr HR HCase HNo
          go_wp2
          go_meet
          exact ⟨by simp [HRr.out], rd_set (rd_drew HG.out _), rd_other (rd_drew HB.out _) hne, ((Keep1.refl g b w).drewN _).set⟩
    case rest =>
    obtain ⟨rfl, HG1, HB1, HK1⟩ := hcut
    go_upto_if 43 with fail
    go_cut [7] from 43 to 52 (fun s7 wx => ∃ (d : UInt8) (n : Nat), s7 = .int .u8 (d.toNat : Int) ∧ 32 ≤ d.toNat ∧ d.toNat ≤ 126 ∧ Hid (memS ((L p).drop i) = if a ≤ d then some ((a, d), n) else none) ∧ Hid (wx.heap[g]? = some (rdr p ((i + n : Nat) : Int))) ∧ Hid (wx.heap[b]? = some (.cells (boolA 127 (inRs rs)) 116 (0, 0))) ∧ Hid (Keep1 g b w wx))
    case first =>
      cases hr : rngS ((L p).drop (i + 1)) with
      | some b2 =>
        obtain ⟨h2, e1, e2, hn93, hb32, hb126⟩ := HCase.out b2 hr
        have HR2 : Hid (memS ((L p).drop i) = if a ≤ b2 then some ((a, b2), 3) else none) := Lib.hid (by rw [HR.out, hr])
        have h2I : (2 : Int) < (q.size : Int) := by omega
        have c1 := cellOf (j := 1) (u := .int .i64 ((i : Int) + 1)) HG1.out rfl
        have f1 := frozen_of_row _ _ 1 _ _ HG1.out
        clear hr HR HCase HNo e1 hn93 c0
        go_wp2
        go_meet
        refine ⟨b2, 3, by first | rfl | rw [e2], hb32, hb126, HR2.out, ?_, rd_other HB1.out hne, HK1.out.set⟩
        rw [show ((i + 3 : Nat) : Int) = (i : Int) + 1 + 2 from by omega]
        exact rd_set HG1.out
      | none =>
        have HR2 : Hid (memS ((L p).drop i) = if a ≤ a then some ((a, a), 1) else none) := Lib.hid (by rw [HR.out, hr, if_pos (UInt8.le_refl a)])
        clear hr HR HCase HNo
        go_wp2
        go_meet
        exact ⟨a, 1, rfl, by omega, by omega, HR2.out, HG1.out, HB1.out, HK1.out⟩
    case rest =>
    obtain ⟨d, n, rfl, hd32, hd126, hm, hg, hb, hk⟩ := hcut
    clear HR HCase HNo HG1 HB1 HK1 HG HB c0 c1 f1
    go_wp2
    go_loopg [8] (d.toNat + 2 - a.toNat + 1) (fun gk s8 wx => ∃ c : Nat, s8 = .int .u8 c ∧ a.toNat ≤ c ∧ (c ≤ d.toNat + 1 ∨ c = a.toNat) ∧ c + gk = a.toNat + (d.toNat + 2 - a.toNat + 1) ∧ Hid (wx.heap[g]? = some (rdr p ((i + n : Nat) : Int))) ∧ Hid (wx.heap[b]? = some (.cells (boolA 127 (fun x => inRs rs x || (decide (a.toNat ≤ x) && decide (x < c)))) 116 (0, 0))) ∧ Hid (Keep1 g b w wx))
    case atStart =>
      refine ⟨a.toNat, rfl, Nat.le_refl _, Or.inr rfl, rfl, hg.out, ?_, hk.out⟩
      have e : (fun x => inRs rs x || (decide (a.toNat ≤ x) && decide (x < a.toNat))) = inRs rs := by
        funext x
        have : (decide (a.toNat ≤ x) && decide (x < a.toNat)) = false := by
          simp only [Bool.and_eq_false_iff, decide_eq_false_iff_not]
          omega
        rw [this, Bool.or_false]
      show _ = _
      rw [e]
      exact hb.out
    case round =>
      obtain ⟨c, rfl, hc1, hc2, hcg, hg, hb, hk⟩ := hrel
      by_cases hcd : c ≤ d.toNat
      · have hcI : (c : Int) ≤ (d.toNat : Int) := by omega
        have hset : (boolA 127 (fun x => inRs rs x || (decide (a.toNat ≤ x) && decide (x < c)))).setIfInBounds c (.bool true) = boolA 127 (fun x => inRs rs x || (decide (a.toNat ≤ x) && decide (x < c + 1))) := by
          rw [boolA_set]
          congr 1
          funext x
          by_cases hx : x = c
          · rw [if_pos hx, hx]; simp; omega
          · rw [if_neg hx]
            have : decide (x < c) = decide (x < c + 1) := by rw [decide_eq_decide]; omega
            rw [this]
        have cb := cellOf hb.out (boolA_get 127 _ c (by omega))
        have fb := frozen_of_row _ _ c _ _ hb.out
        have HB2 := Lib.hid (setCell_known hb.out hset)
        have HG2 := Lib.hid (rd_other (g := b) (u := .bool true) (i := c) hg.out (fun e => hne e.symm))
        have HK2 := Lib.hid (hk.out.setB (i := c) (u := .bool true))
        clear hset hb hg hk
        go_wp2
        go_roundg (gk - 1)
        case measure => omega
        case rel => exact ⟨c + 1, by go_num, by omega, Or.inl (by omega), by omega, HG2.out, HB2.out, HK2.out⟩
      · have hcI : ¬ (c : Int) ≤ (d.toNat : Int) := by omega
        by_cases had : a ≤ d
        · have hadN : a.toNat ≤ d.toNat := UInt8.le_iff_toNat_le.1 had
          have hadI : (a.toNat : Int) ≤ (d.toNat : Int) := by omega
          obtain rfl : c = d.toNat + 1 := by omega
          have e : (fun x => inRs rs x || (decide (a.toNat ≤ x) && decide (x < d.toNat + 1))) = inRs (rs ++ [(a, d)]) := by
            funext x
            rw [inRs_snoc]
            have : decide (x < d.toNat + 1) = decide (x ≤ d.toNat) := by rw [decide_eq_decide]; omega
            rw [this]
          rw [e] at hb
          have HM : Hid (memS ((L p).drop i) = some ((a, d), n)) := Lib.hid (by rw [hm.out, if_pos had])
          clear e hm had
          go_wp2
          go_ret
          refine ⟨hk.out, ?_⟩
          rw [HM.out]
          exact ⟨ret_bool (by simp), hg.out, hb.out⟩
        · have hadN : ¬ a.toNat ≤ d.toNat := fun h => had (UInt8.le_iff_toNat_le.2 h)
          have hadI : ¬ (a.toNat : Int) ≤ (d.toNat : Int) := by omega
          have HM : Hid (memS ((L p).drop i) = none) := Lib.hid (by rw [hm.out, if_neg had])
          clear hm had
          go_wp2
          go_ret
          refine ⟨hk.out, ?_⟩
          rw [HM.out]
          exact ret_bool (by simp)
  · have hq0 : (q.size : Int) = 0 := by omega
    have t2 : q.toList = [] := by rw [tl]; exact List.length_eq_zero_iff.1 (by rw [len_L]; omega)
    have t1 : q.toList.isEmpty = true := by rw [t2]; rfl
    have HM : Hid (memS ((L p).drop i) = none) := Lib.hid (by rw [List.drop_eq_nil_of_le (by rw [len_L]; omega)]; rfl)
    go_wp2
    go_ret
    refine ⟨(Keep1.refl g b w).drewN _, ?_⟩
    rw [HM.out]
    rfl
end Go.Proofs.Ytgdjknpdgajdgaa
namespace Go.Proofs.Ytgdjknpdgajdgaa
open Go.RowKit
theorem HasPrefix_any (s p : ByteArray) (w : World) :
    Calls Try.prog 94 #[.string s, .string p] w fun e w' => e = .returned (.bool (Lib.hasPrefix (L s) (L p))) ∧ w = w' :=
  (Try.strings_HasPrefix s p w).mono fun _e _w' ⟨h1, h2⟩ => ⟨h1, h2.symm⟩
end Go.Proofs.Ytgdjknpdgajdgaa
