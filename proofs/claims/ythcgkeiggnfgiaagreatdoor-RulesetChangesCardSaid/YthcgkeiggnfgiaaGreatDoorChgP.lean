/-
  What sorting and compacting the names that differ gives, in plain words; rows of texts sorted and compacted; look-ups in a map of texts.
-/
import Derived.Test.YthcgkeiggnfgiaaGreatDoorG17
import Derived.Test.YthcgkeiggnfgiaaGreatDoorRChg
import Derived.Test.YthcgkeiggnfgiaaGreatDoorConcat
import Derived.Sort.OwnSorted
import Derived.Lib.SlicesCompact
import Derived.Lib.RowBridge
import Derived.Shelf.Slices.In.SortNone2
namespace Go.Proofs.YthcgkeiggnfgiaaGreatDoor
open Go.RowKit Go.Maps Go.Lib Go.Sort Go.Shelf
theorem mem_compact {zs : List Str} {x : Str} : x ∈ Lib.compact zs ↔ x ∈ zs := by
  unfold Lib.compact Lib.compactUpTo
  rw [List.mem_map]
  constructor
  · rintro ⟨i, hi, rfl⟩
    have hi' : i < zs.length := List.mem_range.1 (List.mem_filter.1 hi).1
    rw [getElem!_pos _ _ (by simpa using hi')]
    simp
  · intro hx
    have hex : ∃ i, i < zs.length ∧ zs.toArray[i]! = x := by
      obtain ⟨i, hi, rfl⟩ := List.getElem_of_mem hx
      exact ⟨i, hi, by rw [getElem!_pos _ _ (by simpa using hi)]; simp⟩
    obtain ⟨i, ⟨hi, he⟩, hmin⟩ : ∃ i, (i < zs.length ∧ zs.toArray[i]! = x) ∧ ∀ j, j < i → ¬ (j < zs.length ∧ zs.toArray[j]! = x) := by
      obtain ⟨i, hi⟩ := hex
      induction i using Nat.strongRecOn with
      | _ i ih =>
        by_cases h : ∃ j, j < i ∧ (j < zs.length ∧ zs.toArray[j]! = x)
        · obtain ⟨j, hj, hj2⟩ := h
          exact ih j hj hj2
        · exact ⟨i, hi, fun j hj h2 => h ⟨j, hj, h2⟩⟩
    refine ⟨i, List.mem_filter.2 ⟨List.mem_range.2 hi, ?_⟩, he⟩
    unfold Lib.keeps
    rw [decide_eq_true_eq]
    rcases Nat.eq_zero_or_pos i with h0 | h0
    · exact Or.inl h0
    · refine Or.inr fun e => hmin (i - 1) (by omega) ⟨by omega, ?_⟩
      rw [← e, he]
theorem compact_asc {zs : List Str} (h : zs.Pairwise (fun x y => ¬ y < x)) : (Lib.compact zs).Pairwise (· < ·) := by
  unfold Lib.compact Lib.compactUpTo
  rw [List.pairwise_map]
  have h1 : ((List.range zs.length).filter (Lib.keeps zs.toArray)).Pairwise (· < ·) := List.pairwise_lt_range.sublist List.filter_sublist
  refine List.Pairwise.imp_of_mem ?_ h1
  intro i j hi hj hij
  obtain ⟨hj1, hj2⟩ := List.mem_filter.1 hj
  have hj1 := List.mem_range.1 hj1
  unfold Lib.keeps at hj2
  rw [decide_eq_true_eq] at hj2
  have hne : zs.toArray[j]! ≠ zs.toArray[j - 1]! := by
    rcases hj2 with h | h
    · omega
    · exact h
  rw [List.pairwise_iff_getElem] at h
  have g : ∀ k (hk : k < zs.length), zs.toArray[k]! = zs[k] := fun k hk => by rw [getElem!_pos _ _ (by simpa using hk)]; simp
  rw [g j hj1, g (j - 1) (by omega)] at hne
  rw [g i (by omega), g j hj1]
  have hlt : zs[j - 1] < zs[j] := slt_tri (h (j - 1) j (by omega) hj1 (by omega)) hne
  rcases (by omega : i = j - 1 ∨ i < j - 1) with e | hlt2
  · subst e; exact hlt
  · have h3 := h i (j - 1) (by omega) (by omega) hlt2
    by_cases e : zs[i] = zs[j - 1]
    · rw [e]; exact hlt
    · exact slt_tr (slt_tri h3 (fun e2 => e e2.symm)) hlt
theorem sort_asc (l : List Str) : (l.mergeSort fun x y => decide (x ≤ y)).Pairwise (fun x y => ¬ y < x) := by
  have h := List.pairwise_mergeSort (le := fun x y : Str => decide (x ≤ y)) (fun a b c h1 h2 => by simp only [decide_eq_true_eq] at *; exact List.le_trans h1 h2) (fun a b => by simp only [Bool.or_eq_true, decide_eq_true_eq]; exact List.le_total a b) l
  exact h.imp fun {x y} hxy => by simpa using hxy
theorem changed_is (a b : List At) : Lib.compact ((((a ++ b).map nm).filter (difF a b)).mergeSort fun x y => decide (x ≤ y)) = changedF a b := by
  refine strs_ext (compact_asc (sort_asc _)) (asc_changedF a b) fun n => ?_
  rw [mem_compact, List.mem_mergeSort, List.mem_filter, mem_changedF, List.map_append, difF, decide_eq_true_eq]
theorem own_head {w : World} {base g n m cap : Nat} {e : TypeId} {xs : List Value} (h : w.ownsRow base e 1 (.slice (some ⟨g, 0, none⟩) n cap) n xs) (hm : m ≤ n) : w.ownsRow base e 1 (.slice (some ⟨g, 0, none⟩) m cap) m (xs.take m) := by
  rcases h.2 with ⟨h1, _⟩ | ⟨g', cap', cur, hv, hb, hg, hn, hc, hs, ht⟩
  · cases h1
  · injection hv with e1 e2 e3
    injection e1 with e1
    injection e1 with e1
    subst e1 e3
    refine ⟨by have := h.1; rw [List.length_take]; omega, Or.inr ⟨g, cap, cur, rfl, hb, hg, by omega, hc, hs, ?_⟩⟩
    rw [← ht, List.take_take]
    congr 1
    omega
/-- sort.Strings at a row of the call's own. -/
theorem SortT_any {base c : Nat} {A : Option Addr} {l : List Str} {w : World} (hown : w.ownsRow base 9 1 (.slice A l.length c) l.length (l.map strV)) (hl : l.length ≤ 1000000) :
    Calls Tryz.prog 60 #[.slice A l.length c] w fun e w' => e = .returned (.tuple #[]) ∧ w'.ownsRow base 9 1 (.slice A l.length c) l.length ((l.mergeSort fun x y => decide (x ≤ y)).map strV) ∧ w.grownBy w' (Value.slice A l.length c).ownBlock := by
  rcases hown.2 with ⟨h1, h0⟩ | ⟨g, cap, cur, hv, hbg, hg, hn, hcap, hsz, ht⟩
  · obtain rfl : l = [] := List.length_eq_zero_iff.1 h0
    refine (Any.sort_Strings_none Tryz.lays192 A c w).mono ?_
    rintro e w' ⟨rfl, rfl⟩
    exact ⟨rfl, by simpa using hown, ⟨rfl, rfl, rfl, Nat.le_refl _, fun _ _ _ => rfl⟩⟩
  · injection hv with e1 e2 e3
    subst e1 e3
    refine (Tryz.sort_Strings g 0 c l w (holds_of_block hg (by rw [Nat.mul_one] at ht; exact ht)) (blk_lt' hg) (by omega)).mono ?_
    rintro e w' ⟨rfl, n, os, rfl⟩
    exact ⟨rfl, ownsRow_sorted (by simp) hbg hg hn hcap hsz, grownBy_sorted _⟩
/-- slices.Compact at a row of the call's own. -/
theorem CompactT_any {base c : Nat} {A : Option Addr} {l : List Str} {w : World} (hown : w.ownsRow base 9 1 (.slice A l.length c) l.length (l.map strV)) (hl : l.length ≤ 1000000) :
    Calls Tryz.prog 61 #[.slice A l.length c] w fun e w' => e = .returned (.slice A (Lib.compact l).length c) ∧ w'.ownsRow base 9 1 (.slice A (Lib.compact l).length c) (Lib.compact l).length ((Lib.compact l).map strV) ∧ w.grownBy w' (Value.slice A l.length c).ownBlock := by
  rcases hown.2 with ⟨h1, h0⟩ | ⟨g, cap, cur, hv, hbg, hg, hn, hcap, hsz, ht⟩
  · obtain rfl : l = [] := List.length_eq_zero_iff.1 h0
    refine (Tryz.slices_Compact_string_empty A c w).mono ?_
    rintro e w' ⟨rfl, rfl⟩
    exact ⟨rfl, hown, ⟨rfl, rfl, rfl, Nat.le_refl _, fun _ _ _ => rfl⟩⟩
  · injection hv with e1 e2 e3
    subst e1 e3
    have hcl := Lib.compact_length_le l
    refine (Tryz.slices_Compact_string g 0 c l w (holds_of_block hg (by rw [Nat.mul_one] at ht; exact ht)) (by omega) hn).mono ?_
    rintro e w' ⟨rfl, q, rfl⟩
    have hgw : ∀ W : World, grow W #[] = W := fun W => by unfold grow; simp
    have h1 := ownsRow_sorted (w := w) (n := q) (os := #[]) (ss := l) (ts := Lib.compact l ++ List.replicate (l.length - (Lib.compact l).length) []) (by simp; omega) hbg hg hn hcap hsz
    rw [hgw] at h1
    have h2 := own_head h1 hcl
    rw [List.map_append, List.take_left' (by simp)] at h2
    refine ⟨rfl, h2, ?_⟩
    have h3 := grownBy_sorted (w := w) (g := g) (n := q) (os := #[]) (Lib.compact l ++ List.replicate (l.length - (Lib.compact l).length) []).toArray
    rw [hgw] at h3
    exact h3
/-- A look-up, with 'ok', in a map of texts. -/
theorem look_text {W : World} {m n : Nat} {l : List At} (h : W.ownsMap Tryz.prog 9 (plainElem (H := Unit) Tryz.prog 9) m n (textD l.reverse)) (s : ByteArray) (hs : s.size ≤ maxLen) :
    (Instr.lookup 86 (.map (some m)) (.string s) true).run Tryz.prog W = .ok (.tuple #[.string ((lookF l (L s)).getD ⟨#[]⟩), .bool (lookF l (L s)).isSome]) W := by
  have hz : (zeroValue 9).run Tryz.prog W = .ok (.string ⟨#[]⟩) W := Tryz.zeroValue9 W
  have hzd : plainElem (H := Unit) Tryz.prog 9 (.string ⟨#[]⟩) = some (.lit (.string []), []) := plainElem_string Tryz.underlying9 (by decide)
  obtain ⟨v, ps, hrun, hv⟩ := h.look_ok lawS Tryz.underlying86 hz hzd (WideMaps.keyOf_string_mk (P := Tryz.prog) Tryz.underlying9 hs)
  have hat := textD_at l.reverse (L s) (.lit (.string []))
  have hhas := textD_has l.reverse (L s)
  rw [List.reverse_reverse] at hat hhas
  have hat2 : (textD l.reverse).atKey (Lit.string s.data.toList) (.lit (.string [])) = _ := hat
  have hhas2 : Maps.has (textD l.reverse) (Lit.string s.data.toList) = _ := hhas
  rw [hhas2] at hrun
  rw [hat2] at hv
  obtain ⟨t, rfl, ht, _⟩ := plainElem_string_inv Tryz.underlying9 hv
  rw [hrun]
  unfold lookF
  cases hf : findF l (L s) with
  | none =>
    rw [hf] at ht
    have e : L t = [] := by simpa [L] using (congrArg Prod.fst ht).symm
    have : t = ⟨#[]⟩ := by rw [← bs_L t, e]; rfl
    rw [this]; rfl
  | some x =>
    rw [hf] at ht
    have e : L x.val = L t := by simpa [L, vN] using (congrArg Prod.fst ht)
    have : x.val = t := by rw [← bs_L x.val, e, bs_L]
    rw [this.symm]; rfl
end Go.Proofs.YthcgkeiggnfgiaaGreatDoor
