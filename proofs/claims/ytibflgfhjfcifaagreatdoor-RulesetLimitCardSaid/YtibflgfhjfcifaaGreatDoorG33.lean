/-
  A line of tokens reads back as these tokens, and the tokens of a line can be written, in plain words; no program in sight.
  The line of terms reads back as these terms, in plain words; no program in sight.
  SameTerms at two lists that are alike.
-/
import Derived.Test.YtibflgfhjfcifaaGreatDoorG31
import Derived.Test.YtibflgfhjfcifaaGreatDoorG19
namespace Go.Proofs.YtibflgfhjfcifaaGreatDoor
open Go.RowKit
theorem hp1 (c d : UInt8) (s : Str) : Lib.hasPrefix (d :: s) [c] = (c == d) := by simp [Lib.hasPrefix, List.isPrefixOf]
theorem hp2 (a b c d : UInt8) (s : Str) : Lib.hasPrefix (c :: d :: s) [a, b] = ((a == c) && (b == d)) := by simp [Lib.hasPrefix, List.isPrefixOf]
theorem suf_iff (s : Str) (c : UInt8) : Lib.hasSuffix s [c] = true ↔ ∃ t, s = t ++ [c] := by
 unfold Lib.hasSuffix
 rw [List.isSuffixOf_iff_suffix]
 constructor
 · rintro ⟨t, h⟩; exact ⟨t, h.symm⟩
 · rintro ⟨t, h⟩; exact ⟨t, h.symm⟩
theorem suf_snoc (s : Str) (b c : UInt8) : Lib.hasSuffix (s ++ [b]) [c] = true ↔ b = c := by
 rw [suf_iff]
 constructor
 · rintro ⟨t, h⟩
   have := congrArg List.getLast? h
   simpa using this
 · rintro rfl; exact ⟨s, rfl⟩
theorem goodB_parts {x : Tk} (h : goodB x = true) : (L x.key).all upC = true ∧ (L x.name).all nmC = true ∧ (L x.value).all pr = true ∧ L x.op ∈ opsL ∧ L x.key ≠ [] ∧ Lib.hasSuffix (L x.value) [92] = false := by
 unfold goodB at h
 simp only [Bool.and_eq_true, Bool.not_eq_true'] at h
 obtain ⟨⟨⟨⟨⟨h1, h2⟩, h3⟩, h4⟩, h5⟩, h6⟩ := h
 exact ⟨h1, h2, h3, by simpa using h4, by intro e; rw [e] at h5; simp at h5, h6⟩
theorem goodB_of {x : Tk} (h1 : (L x.key).all upC = true) (h2 : (L x.name).all nmC = true) (h3 : (L x.value).all pr = true) (h4 : L x.op ∈ opsL) (h5 : L x.key ≠ []) (h6 : Lib.hasSuffix (L x.value) [92] = false) : goodB x = true := by
 unfold goodB
 have h7 : (L x.key).isEmpty = false := by cases h : L x.key with
  | nil => exact absurd h h5
  | cons _ _ => rfl
 have h8 : opsL.contains (L x.op) = true := by simpa using h4
 rw [h1, h2, h3, h8, h6, h7]; rfl
theorem pl_pr' {c : UInt8} (h : plC c = true) (h9 : c ≠ 9) : pr c = true := by
 unfold plC at h
 rw [show (c == 9) = false from by simpa using h9, Bool.false_or] at h
 exact h
theorem valF_good (s : Str) : ∀ {acc a r : Str}, valF s acc = .ok (a, r) → s.all plC = true → acc.all pr = true → (Lib.hasSuffix acc [92] = true → s.head? ≠ some 34) → a.all pr = true ∧ Lib.hasSuffix a [92] = false ∧ r.all plC = true := by
 induction hn : s.length using Nat.strongRecOn generalizing s with
 | _ n ih =>
   intro acc a r' h hp ha hs
   cases s with
   | nil => rw [valF_end] at h; cases h
   | cons c r =>
     have hp0 := hp
     rw [List.all_cons, Bool.and_eq_true] at hp
     by_cases h1 : c = 34
     · subst h1
       rw [valF_quote] at h; injection h with h; injection h with h h'
       rw [← h, ← h']
       refine ⟨ha, ?_, hp.2⟩
       cases hq : Lib.hasSuffix acc [92] with
       | false => rfl
       | true => exact absurd rfl (hs hq)
     by_cases h2 : c = 9
     · rw [h2, valF_tab] at h; cases h
     cases hq : Lib.hasPrefix (c :: r) [92, 34]
     · rw [valF_more h1 h2 hq] at h
       refine ih r.length (by rw [← hn]; simp) r rfl h hp.2 (by rw [List.all_append, ha, List.all_cons, pl_pr' hp.1 h2]; rfl) (fun hsf => ?_)
       rw [suf_snoc] at hsf
       subst hsf
       cases r with
       | nil => simp
       | cons d r =>
         rw [hp2] at hq
         intro e
         have : d = 34 := by simpa using e
         subst this
         exact absurd hq (by decide)
     · obtain ⟨r2, hr⟩ := pre_esc hq
       rw [hr, valF_esc] at h
       rw [hr] at hp0
       simp only [List.all_cons, Bool.and_eq_true] at hp0
       refine ih r2.length (by rw [← hn, hr]; simp; omega) r2 rfl h hp0.2.2 (by rw [List.all_append, ha]; decide) (fun hsf => ?_)
       rw [suf_snoc] at hsf
       exact absurd hsf (by decide)
theorem all_drop {f : UInt8 → Bool} {s : Str} (h : s.all f = true) (n : Nat) : (s.drop n).all f = true := List.all_eq_true.2 fun c hc => List.all_eq_true.1 h c (List.mem_of_mem_drop hc)
theorem take_tw (f : UInt8 → Bool) : ∀ s : Str, s.take (s.takeWhile f).length = s.takeWhile f
 | [] => rfl
 | c :: r => by
   rw [List.takeWhile_cons]
   cases f c
   · simp
   · simp [take_tw f r]
theorem all_cnt (f : UInt8 → Bool) (s : Str) : (s.take (cnt f s)).all f = true := by
 unfold cnt
 rw [take_tw]
 exact List.all_takeWhile
theorem valS_good {s a r : Str} (h : valS s = .ok (a, r)) (hp : s.all plC = true) : a.all pr = true ∧ Lib.hasSuffix a [92] = false ∧ r.all plC = true := by
 unfold valS at h
 split at h
 · exact valF_good _ h (all_drop hp 1) rfl (fun hs => absurd hs (by decide))
 · cases h
theorem nameS_good {s a r : Str} (h : nameS s = .ok (a, r)) (hp : s.all plC = true) : a.all nmC = true ∧ r.all plC = true := by
 unfold nameS at h
 split at h
 · dsimp only at h
   split at h
   · cases h
   · split at h
     · cases h
     · injection h with h; injection h with h h'
       rw [← h, ← h']
       exact ⟨all_cnt _ _, all_drop (all_drop hp 1) _⟩
 · injection h with h; injection h with h h'
   rw [← h, ← h']
   exact ⟨rfl, hp⟩
theorem opS_good {s a r : Str} (h : opS s = .ok (a, r)) (hp : s.all plC = true) : a ∈ opsL ∧ r.all plC = true := by
 unfold opS at h
 split at h
 · rename_i x hx
   injection h with h; injection h with h h'
   rw [← h, ← h']
   exact ⟨List.mem_of_find?_eq_some hx, all_drop hp _⟩
 · cases h
theorem tokS_good {s r : Str} {x : Tk} (h : tokS s = .ok (x, r)) (hp : s.all plC = true) : goodB x = true ∧ r.all plC = true := by
 rw [tokS_eq] at h
 by_cases h0 : cnt upC s = 0
 · rw [if_pos h0] at h; cases h
 rw [if_neg h0] at h
 cases h1 : nameS (s.drop (cnt upC s)) with
 | error e => rw [h1] at h; cases h
 | ok p =>
   obtain ⟨nm, r1⟩ := p
   rw [h1] at h
   dsimp only at h
   cases h2 : opS r1 with
   | error e => rw [h2] at h; cases h
   | ok p =>
     obtain ⟨op, r2⟩ := p
     rw [h2] at h
     dsimp only at h
     cases h3 : valS r2 with
     | error e => rw [h3] at h; cases h
     | ok p =>
       obtain ⟨v, r3⟩ := p
       rw [h3] at h
       dsimp only at h
       injection h with h
       injection h with h h'
       obtain ⟨a1, a2⟩ := nameS_good h1 (all_drop hp _)
       obtain ⟨b1, b2⟩ := opS_good h2 a2
       obtain ⟨c1, c2, c3⟩ := valS_good h3 b2
       rw [← h, ← h']
       refine ⟨goodB_of ?_ ?_ ?_ ?_ ?_ ?_, c3⟩ <;> dsimp only <;> rw [L_bs]
       · exact all_cnt _ _
       · exact a1
       · exact c1
       · exact b1
       · intro e
         have := congrArg List.length e
         rw [List.length_take, List.length_nil] at this
         have h4 := cnt_le upC s
         omega
       · exact c2
theorem toksF_good (n : Nat) : ∀ {line : Str} {beh : Bool} {acc l : List Tk}, toksF n line beh acc = .ok l → line.all plC = true → acc.all goodB = true → l.all goodB = true := by
 induction n with
 | zero => intro line beh acc l h; rw [toksF] at h; cases h
 | succ n ih =>
   intro line beh acc l h hp ha
   rw [toksF] at h
   split at h
   · injection h with h; rw [← h]; exact ha
   · split at h
     · cases h
     · cases hk : tokS (restS line) with
       | error e => rw [hk] at h; cases h
       | ok p =>
         obtain ⟨x, r⟩ := p
         rw [hk] at h
         obtain ⟨g1, g2⟩ := tokS_good hk (by
          refine List.all_eq_true.2 fun c hc => List.all_eq_true.1 hp c ?_
          exact (List.dropWhile_sublist _).subset hc)
         exact ih h g2 (by rw [List.all_append, ha, List.all_cons, g1]; rfl)
theorem toksS_good {line : Str} {l : List Tk} (h : toksS line = .ok l) : l.all goodB = true := by
 unfold toksS at h
 split at h
 · cases h
 split at h
 · cases h
 rename_i _ hp
 exact toksF_good _ h (by simpa using hp) rfl
end Go.Proofs.YtibflgfhjfcifaaGreatDoor
namespace Go.Proofs.YtibflgfhjfcifaaGreatDoor
open Go.RowKit
theorem key_good : ∀ k ∈ List.range 25, k = 0 ∨ ((L (keyW (k : Int))).all upC = true ∧ L (keyW (k : Int)) ≠ []) := by decide +kernel
theorem op_good : ∀ k ∈ List.range 7, k = 0 ∨ L (opW (k : Int)) ∈ opsL := by decide +kernel
theorem tok_good {x : Tk} (h : goodB x = true) (hr : TmRight (tmOf x)) : goodB (tokOf (tmOf x)) = true := by
 obtain ⟨_, h2, h3, _, _, h6⟩ := goodB_parts h
 obtain ⟨k0, k1, o0, o1, _, _⟩ := hr
 have g1 := key_good (tmOf x).key.toNat (List.mem_range.2 (by omega))
 have g2 := op_good (tmOf x).op.toNat (List.mem_range.2 (by omega))
 rw [show (((tmOf x).key.toNat : Nat) : Int) = (tmOf x).key from by omega] at g1
 rw [show (((tmOf x).op.toNat : Nat) : Int) = (tmOf x).op from by omega] at g2
 obtain ⟨g1, g3⟩ := g1.resolve_left (by omega)
 exact goodB_of g1 h2 h3 (g2.resolve_left (by omega)) g3 h6
theorem right_of {l : List Tm} (h : checkE l = 0) : ∀ t ∈ l, TmRight t := fun t ht => termE_right ((checkE_ok h).2.2 t ht)
theorem fmtS_cases (l : List Tk) : (l.all goodB = true ∧ (fmtF l).length ≤ 1024 ∧ fmtS l = (fmtF l, 0)) ∨ (l.all goodB = true ∧ fmtS l = ([], 81)) ∨ (l.all goodB = false ∧ fmtS l = ([], 82)) := by
 unfold fmtS
 cases h : l.all goodB
 · exact Or.inr (Or.inr ⟨rfl, rfl⟩)
 · by_cases h2 : 1024 < (fmtF l).length
   · exact Or.inr (Or.inl ⟨rfl, by rw [if_pos rfl, if_pos h2]⟩)
   · exact Or.inl ⟨rfl, by omega, by rw [if_pos rfl, if_neg h2]⟩
theorem parse_good {s : Str} {x : List Tm} (h : parseL s = .ok x) : checkE x = 0 ∧ ((formatE x).2 = 0 ∨ (formatE x).2 = 81) := by
 unfold parseL at h
 cases ht : toksS s with
 | error e => rw [ht] at h; cases h
 | ok l =>
   rw [ht] at h
   dsimp only at h
   by_cases hc : checkE (l.map tmOf) = 0
   · rw [if_pos hc] at h
     injection h with h
     rw [h] at hc
     refine ⟨hc, ?_⟩
     have hg : (x.map tokOf).all goodB = true := by
      rw [← h, List.all_eq_true]
      intro t ht2
      obtain ⟨y, hy, rfl⟩ := List.mem_map.1 ht2
      obtain ⟨k, hk, rfl⟩ := List.mem_map.1 hy
      exact tok_good (List.all_eq_true.1 (toksS_good ht) k hk) (right_of hc _ (by rw [← h]; exact List.mem_map_of_mem hk))
     unfold formatE
     rw [if_pos hc]
     rcases fmtS_cases (x.map tokOf) with ⟨_, _, hf⟩ | ⟨_, hf⟩ | ⟨hg2, _⟩
     · rw [hf]; exact Or.inl rfl
     · rw [hf]; exact Or.inr rfl
     · rw [hg] at hg2; cases hg2
   · rw [if_neg hc] at h; cases h
theorem parse_err {s : Str} {e : Int} (h : parseL s = .error e) : e ≠ 0 := by
 unfold parseL at h
 cases ht : toksS s with
 | error n => rw [ht] at h; injection h with h; rw [← h]; exact toksS_err ht
 | ok l =>
   rw [ht] at h
   dsimp only at h
   by_cases hc : checkE (l.map tmOf) = 0
   · rw [if_pos hc] at h; cases h
   · rw [if_neg hc] at h; injection h with h; rw [← h]; exact hc
theorem formatE_len (l : List Tm) : (formatE l).1.length ≤ 1024 := by
 unfold formatE
 split
 · rcases fmtS_cases (l.map tokOf) with ⟨_, h, hf⟩ | ⟨_, hf⟩ | ⟨_, hf⟩ <;> rw [hf]
   · exact h
   · exact Nat.zero_le _
   · exact Nat.zero_le _
 · exact Nat.zero_le _
end Go.Proofs.YtibflgfhjfcifaaGreatDoor
namespace Go.Proofs.YtibflgfhjfcifaaGreatDoor
open Go.RowKit
end Go.Proofs.YtibflgfhjfcifaaGreatDoor
