/-
  A line of tokens reads back as these tokens, and the tokens of a line can be written, in plain words; no program in sight.
  The line of terms reads back as these terms, in plain words; no program in sight.
  SameTerms at two lists that are alike.
-/
import Derived.Test.YthcgkeiggnfgiaaGreatDoorG48
import Derived.Test.YthcgkeiggnfgiaaGreatDoorG30
import Derived.Test.YthcgkeiggnfgiaaGreatDoorRGH
namespace Go.Proofs.YthcgkeiggnfgiaaGreatDoor
open Go.RowKit
theorem hp1 (c d : UInt8) (s : Str) : Lib.hasPrefix (d :: s) [c] = (c == d) := by simp [Lib.hasPrefix, List.isPrefixOf]
theorem hp2 (a b c d : UInt8) (s : Str) : Lib.hasPrefix (c :: d :: s) [a, b] = ((a == c) && (b == d)) := by simp [Lib.hasPrefix, List.isPrefixOf]
theorem suf_iff (s : Str) (c : UInt8) : Lib.hasSuffix s [c] = true ↔ ∃ t, s = t ++ [c] := by
  unfold Lib.hasSuffix
  rw [List.isSuffixOf_iff_suffix]
  constructor
  · rintro ⟨t, h⟩; exact ⟨t, h.symm⟩
  · rintro ⟨t, h⟩; exact ⟨t, h.symm⟩
theorem suf_snoc (s : Str) (b c : UInt8) : Lib.hasSuffix (s ++ [b]) [c] = true ↔ b = c := by
  rw [suf_iff]
  constructor
  · rintro ⟨t, h⟩
    have := congrArg List.getLast? h
    simpa using this
  · rintro rfl; exact ⟨s, rfl⟩
theorem suf_cons (b c d : UInt8) (s : Str) : Lib.hasSuffix (b :: d :: s) [c] = Lib.hasSuffix (d :: s) [c] := by
  rw [Bool.eq_iff_iff, suf_iff, suf_iff]
  constructor
  · rintro ⟨t, h⟩
    cases t with
    | nil => simp at h
    | cons x t => exact ⟨t, by simpa using (List.cons.inj h).2⟩
  · rintro ⟨t, h⟩; exact ⟨b :: t, by rw [h]; rfl⟩
def esc (v : Str) : Str := v.flatMap fun b => if b = 34 then [92, 34] else [b]
theorem esc_cons (c : UInt8) (v : Str) : esc (c :: v) = (if c = 34 then [92, 34] else [c]) ++ esc v := by simp [esc]
theorem pr9 : pr 9 = false := by decide
theorem pr_ne9 {c : UInt8} (h : pr c = true) : c ≠ 9 := by rintro rfl; rw [pr9] at h; cases h
theorem valF_back : ∀ (v acc r : Str), v.all pr = true → Lib.hasSuffix v [92] = false → valF (esc v ++ 34 :: r) acc = .ok (acc ++ v, r)
  | [], acc, r, _, _ => by rw [List.append_nil]; exact valF_quote
  | c :: v, acc, r, hp, hs => by
    rw [List.all_cons, Bool.and_eq_true] at hp
    have ht : Lib.hasSuffix v [92] = false := by
      cases v with
      | nil => rfl
      | cons d v => rw [suf_cons] at hs; exact hs
    have hb := fun a => valF_back v a r hp.2 ht
    rw [esc_cons]
    by_cases h1 : c = 34
    · subst h1
      rw [if_pos rfl]
      show valF (92 :: 34 :: (esc v ++ 34 :: r)) acc = _
      rw [valF_esc, hb, List.append_assoc]; rfl
    · rw [if_neg h1]
      show valF (c :: (esc v ++ 34 :: r)) acc = _
      have hq : Lib.hasPrefix (c :: (esc v ++ 34 :: r)) [92, 34] = false := by
        cases v with
        | nil =>
          show Lib.hasPrefix (c :: 34 :: r) [92, 34] = false
          rw [hp2]
          have : c ≠ 92 := by
            rintro rfl
            have := (suf_snoc [] 92 92).2 rfl
            rw [show ([] ++ [92] : Str) = [92] from rfl] at this
            rw [this] at hs; cases hs
          have : ((92 : UInt8) == c) = false := by simp; exact fun e => this e.symm
          rw [this]; rfl
        | cons d v =>
          rw [esc_cons]
          by_cases hd : d = 34
          · rw [if_pos hd]
            show Lib.hasPrefix (c :: 92 :: _) [92, 34] = false
            rw [hp2, show ((34 : UInt8) == 92) = false from by decide, Bool.and_false]
          · rw [if_neg hd]
            show Lib.hasPrefix (c :: d :: _) [92, 34] = false
            have : ((34 : UInt8) == d) = false := by simp; exact fun e => hd e.symm
            rw [hp2, this, Bool.and_false]
      rw [valF_more h1 (pr_ne9 hp.1) hq, hb, List.append_assoc]; rfl
theorem valS_back {v : Str} (r : Str) (hp : v.all pr = true) (hs : Lib.hasSuffix v [92] = false) : valS (34 :: (esc v ++ 34 :: r)) = .ok (v, r) := by
  unfold valS
  rw [if_pos (by rw [hp1]; rfl)]
  show valF (esc v ++ 34 :: r) [] = _
  rw [valF_back v [] r hp hs]; rfl
theorem opS_back {op : Str} (r : Str) (h : op ∈ opsL) : opS (op ++ 34 :: r) = .ok (op, 34 :: r) := by
  simp only [opsL, List.mem_cons, List.not_mem_nil, or_false] at h
  rcases h with rfl | rfl | rfl | rfl | rfl | rfl <;> kernel_rfl
theorem op_head {op : Str} (h : op ∈ opsL) : ∃ y t, op = y :: t ∧ y ≠ 123 ∧ upC y = false := by
  simp only [opsL, List.mem_cons, List.not_mem_nil, or_false] at h
  rcases h with rfl | rfl | rfl | rfl | rfl | rfl <;> exact ⟨_, _, rfl, by decide, by decide⟩
theorem cnt_app {f : UInt8 → Bool} {a r : Str} {y : UInt8} (h : a.all f = true) (hy : f y = false) : cnt f (a ++ y :: r) = a.length := by
  unfold cnt
  rw [List.takeWhile_append_of_pos (fun x hx => List.all_eq_true.1 h x hx), List.takeWhile_cons, hy]
  simp
def brS (nm : Str) : Str := if nm.isEmpty then [] else [123] ++ nm ++ [125]
theorem nameS_back {nm r : Str} {y : UInt8} (h : nm.all nmC = true) (hy : y ≠ 123) : nameS (brS nm ++ y :: r) = .ok (nm, y :: r) := by
  cases nm with
  | nil =>
    show nameS (y :: r) = _
    unfold nameS
    rw [if_neg (by rw [hp1]; simp; exact fun e => hy e.symm)]
  | cons c t =>
    have e : brS (c :: t) ++ y :: r = 123 :: ((c :: t) ++ 125 :: y :: r) := by simp [brS]
    rw [e]
    unfold nameS
    rw [if_pos (by rw [hp1]; rfl)]
    show (if cnt nmC ((c :: t) ++ 125 :: y :: r) = ((c :: t) ++ 125 :: y :: r).length then Except.error 83 else if cnt nmC ((c :: t) ++ 125 :: y :: r) = 0 ∨ (((c :: t) ++ 125 :: y :: r).drop (cnt nmC ((c :: t) ++ 125 :: y :: r))).head? ≠ some 125 then .error 82 else .ok (((c :: t) ++ 125 :: y :: r).take (cnt nmC ((c :: t) ++ 125 :: y :: r)), ((c :: t) ++ 125 :: y :: r).drop (cnt nmC ((c :: t) ++ 125 :: y :: r) + 1))) = _
    rw [cnt_app h (by decide), if_neg (by simp), if_neg (by rw [List.drop_left]; simp), List.take_left, show (c :: t) ++ 125 :: y :: r = ((c :: t) ++ [125]) ++ y :: r from by simp, show (c :: t).length + 1 = ((c :: t) ++ [125]).length from by simp, List.drop_left]
theorem goodB_parts {x : Tk} (h : goodB x = true) : (L x.key).all upC = true ∧ (L x.name).all nmC = true ∧ (L x.value).all pr = true ∧ L x.op ∈ opsL ∧ L x.key ≠ [] ∧ Lib.hasSuffix (L x.value) [92] = false := by
  unfold goodB at h
  simp only [Bool.and_eq_true, Bool.not_eq_true'] at h
  obtain ⟨⟨⟨⟨⟨h1, h2⟩, h3⟩, h4⟩, h5⟩, h6⟩ := h
  exact ⟨h1, h2, h3, by simpa using h4, by intro e; rw [e] at h5; simp at h5, h6⟩
theorem goodB_of {x : Tk} (h1 : (L x.key).all upC = true) (h2 : (L x.name).all nmC = true) (h3 : (L x.value).all pr = true) (h4 : L x.op ∈ opsL) (h5 : L x.key ≠ []) (h6 : Lib.hasSuffix (L x.value) [92] = false) : goodB x = true := by
  unfold goodB
  have h7 : (L x.key).isEmpty = false := by cases h : L x.key with
    | nil => exact absurd h h5
    | cons _ _ => rfl
  have h8 : opsL.contains (L x.op) = true := by simpa using h4
  rw [h1, h2, h3, h8, h6, h7]; rfl
theorem fmtT_eq (x : Tk) : fmtT x = L x.key ++ (brS (L x.name) ++ (L x.op ++ (34 :: (esc (L x.value) ++ [34])))) := by
  unfold fmtT brS
  rw [replaceAll1 _ _ _ (by simp)]
  simp [esc]
theorem tokS_back {x : Tk} (r : Str) (h : goodB x = true) : tokS (fmtT x ++ r) = .ok (x, r) := by
  obtain ⟨h1, h2, h3, h4, h5, h6⟩ := goodB_parts h
  have e : fmtT x ++ r = L x.key ++ (brS (L x.name) ++ (L x.op ++ (34 :: (esc (L x.value) ++ 34 :: r)))) := by rw [fmtT_eq]; simp
  obtain ⟨o, t, ho, hy, hu⟩ := op_head h4
  have hB : ∃ y z, brS (L x.name) ++ (L x.op ++ (34 :: (esc (L x.value) ++ 34 :: r))) = y :: z ∧ upC y = false := by
    cases hn : L x.name with
    | nil => exact ⟨o, _, by rw [ho]; rfl, hu⟩
    | cons c s => exact ⟨123, _, rfl, by decide⟩
  obtain ⟨y, z, hyz, huy⟩ := hB
  have hcnt : cnt upC (fmtT x ++ r) = (L x.key).length := by rw [e, hyz]; exact cnt_app h1 huy
  rw [tokS_eq, hcnt, if_neg (by intro e; exact h5 (List.eq_nil_of_length_eq_zero e)), e, List.drop_left, List.take_left]
  have hN : nameS (brS (L x.name) ++ (L x.op ++ (34 :: (esc (L x.value) ++ 34 :: r)))) = .ok (L x.name, L x.op ++ (34 :: (esc (L x.value) ++ 34 :: r))) := by
    rw [ho]; exact nameS_back h2 hy
  rw [hN]
  dsimp only
  rw [opS_back _ h4]
  dsimp only
  rw [valS_back r h3 h6]
  dsimp only
  simp only [bs_L]
def tailS (l : List Tk) : Str := if l.isEmpty then [] else [44, 32] ++ fmtF l
theorem fmtF_tail (x : Tk) (l : List Tk) : fmtF (x :: l) = fmtT x ++ tailS l := by
  cases l with
  | nil => simp [fmtF, tailS]
  | cons y r => simp [fmtF, tailS]
theorem up_sep {c : UInt8} (h : upC c = true) : sepL.contains c = false := by
  unfold upC at h
  simp only [Bool.and_eq_true, decide_eq_true_eq] at h
  simp only [sepL, List.contains_cons, Bool.or_eq_false_iff]
  refine ⟨?_, ?_, ?_, rfl⟩ <;> (simp; rintro rfl; revert h; decide)
theorem fmtF_head {x : Tk} (l : List Tk) (h : goodB x = true) : ∃ c s, fmtF (x :: l) = c :: s ∧ upC c = true := by
  obtain ⟨h1, _, _, _, h5, _⟩ := goodB_parts h
  rw [fmtF_tail, fmtT_eq]
  cases hk : L x.key with
  | nil => exact absurd hk h5
  | cons c s => exact ⟨c, _, rfl, by rw [hk, List.all_cons, Bool.and_eq_true] at h1; exact h1.1⟩
theorem restS_up {c : UInt8} {s : Str} (h : upC c = true) : restS (c :: s) = c :: s := by
  unfold restS
  rw [List.dropWhile_cons, up_sep h]; rfl
theorem restS_sep {c : UInt8} {s : Str} (h : upC c = true) : restS (44 :: 32 :: c :: s) = c :: s := by
  have : restS (44 :: 32 :: c :: s) = restS (c :: s) := by
    unfold restS
    rw [List.dropWhile_cons, show sepL.contains 44 = true from by decide, if_pos rfl, List.dropWhile_cons, show sepL.contains 32 = true from by decide, if_pos rfl]
  rw [this, restS_up h]
theorem toksF_back : ∀ (l : List Tk) (n : Nat) (beh : Bool) (line : Str) (acc : List Tk), l.all goodB = true → l.length < n → (beh = false ∧ line = fmtF l ∨ beh = true ∧ line = tailS l) → toksF n line beh acc = .ok (acc ++ l)
  | [], n, beh, line, acc, _, hn, hl => by
    obtain ⟨m, rfl⟩ : ∃ m, n = m + 1 := ⟨n - 1, by simp at hn; omega⟩
    have : line = [] := by rcases hl with ⟨_, rfl⟩ | ⟨_, rfl⟩ <;> rfl
    rw [this, toksF, if_pos (show (restS []).length = 0 from rfl), List.append_nil]
  | x :: l, n, beh, line, acc, hg, hn, hl => by
    obtain ⟨m, rfl⟩ : ∃ m, n = m + 1 := ⟨n - 1, by simp at hn; omega⟩
    rw [List.all_cons, Bool.and_eq_true] at hg
    obtain ⟨c, s, hc, hu⟩ := fmtF_head l hg.1
    have hr : restS line = fmtF (x :: l) ∧ ¬ (beh = true ∧ (restS line).length = line.length) := by
      rcases hl with ⟨rfl, rfl⟩ | ⟨rfl, rfl⟩
      · exact ⟨by rw [hc, restS_up hu], fun h => by cases h.1⟩
      · have e : tailS (x :: l) = 44 :: 32 :: c :: s := by simp [tailS, hc]
        rw [e, restS_sep hu, hc]
        exact ⟨rfl, fun h => by simp at h⟩
    rw [toksF, if_neg (by rw [hr.1, hc]; simp), if_neg hr.2, hr.1, fmtF_tail, tokS_back _ hg.1]
    dsimp only
    rw [toksF_back l m true (tailS l) _ hg.2 (by simp at hn; omega) (Or.inr ⟨rfl, rfl⟩), List.append_assoc]; rfl
theorem pl_pr {c : UInt8} (h : pr c = true) : plC c = true := by unfold plC; rw [h, Bool.or_true]
theorem pr_up {c : UInt8} (h : upC c = true) : pr c = true := by
  unfold upC at h
  unfold pr
  simp only [Bool.and_eq_true, decide_eq_true_eq] at h ⊢
  omega
theorem pr_nm {c : UInt8} (h : nmC c = true) : pr c = true := by
  unfold nmC at h
  unfold pr
  simp only [Bool.and_eq_true, decide_eq_true_eq] at h ⊢
  obtain ⟨⟨⟨⟨h1, h2⟩, _⟩, _⟩, _⟩ := h
  omega
theorem all_up {f g : UInt8 → Bool} {s : Str} (h : s.all f = true) (hfg : ∀ c, f c = true → g c = true) : s.all g = true := List.all_eq_true.2 fun c hc => hfg c (List.all_eq_true.1 h c hc)
theorem op_pl {op : Str} (h : op ∈ opsL) : op.all plC = true := by
  simp only [opsL, List.mem_cons, List.not_mem_nil, or_false] at h
  rcases h with rfl | rfl | rfl | rfl | rfl | rfl <;> decide
theorem esc_pl {v : Str} (h : v.all pr = true) : (esc v).all plC = true := by
  refine List.all_eq_true.2 fun c hc => ?_
  unfold esc at hc
  obtain ⟨b, hb, hc⟩ := List.mem_flatMap.1 hc
  split at hc
  · simp only [List.mem_cons, List.not_mem_nil, or_false] at hc
    rcases hc with rfl | rfl <;> decide
  · obtain rfl := List.mem_singleton.1 hc
    exact pl_pr (List.all_eq_true.1 h _ hb)
theorem fmtT_pl {x : Tk} (h : goodB x = true) : (fmtT x).all plC = true := by
  obtain ⟨h1, h2, h3, h4, h5, h6⟩ := goodB_parts h
  rw [fmtT_eq, List.all_append, List.all_append, List.all_append, List.all_cons, List.all_append, all_up h1 (fun c hc => pl_pr (pr_up hc)), op_pl h4, esc_pl h3]
  have : (brS (L x.name)).all plC = true := by
    unfold brS
    split
    · rfl
    · rw [List.all_append, List.all_append, all_up h2 (fun c hc => pl_pr (pr_nm hc))]; decide
  rw [this]; decide
theorem fmtF_pl : ∀ {l : List Tk}, l.all goodB = true → (fmtF l).all plC = true ∧ l.length ≤ (fmtF l).length
  | [], _ => ⟨rfl, Nat.le_refl _⟩
  | x :: l, h => by
    rw [List.all_cons, Bool.and_eq_true] at h
    obtain ⟨i1, i2⟩ := fmtF_pl h.2
    have hx : 1 ≤ (fmtT x).length := by
      obtain ⟨_, _, _, _, h5, _⟩ := goodB_parts h.1
      rw [fmtT_eq, List.length_append]
      have := List.length_pos_iff.2 h5
      omega
    rw [fmtF_tail, List.all_append, fmtT_pl h.1, List.length_append, List.length_cons]
    cases l with
    | nil => exact ⟨rfl, by simp; omega⟩
    | cons y r =>
      have e : tailS (y :: r) = [44, 32] ++ fmtF (y :: r) := by simp [tailS]
      rw [e, List.all_append, i1, List.length_append]
      exact ⟨by decide, by simp at i2 ⊢; omega⟩
/-- The line of tokens reads back as these. -/
theorem toksS_back {l : List Tk} (h : l.all goodB = true) (hl : (fmtF l).length ≤ 1024) : toksS (fmtF l) = .ok l := by
  obtain ⟨h1, h2⟩ := fmtF_pl h
  rw [toksS, if_neg (by omega), if_neg (by rw [h1]; simp), toksF_back l _ false _ [] h (by omega) (Or.inl ⟨rfl, rfl⟩)]; rfl
theorem pl_pr' {c : UInt8} (h : plC c = true) (h9 : c ≠ 9) : pr c = true := by
  unfold plC at h
  rw [show (c == 9) = false from by simpa using h9, Bool.false_or] at h
  exact h
theorem valF_good (s : Str) : ∀ {acc a r : Str}, valF s acc = .ok (a, r) → s.all plC = true → acc.all pr = true → (Lib.hasSuffix acc [92] = true → s.head? ≠ some 34) → a.all pr = true ∧ Lib.hasSuffix a [92] = false ∧ r.all plC = true := by
  induction hn : s.length using Nat.strongRecOn generalizing s with
  | _ n ih =>
    intro acc a r' h hp ha hs
    cases s with
    | nil => rw [valF_end] at h; cases h
    | cons c r =>
      have hp0 := hp
      rw [List.all_cons, Bool.and_eq_true] at hp
      by_cases h1 : c = 34
      · subst h1
        rw [valF_quote] at h; injection h with h; injection h with h h'
        rw [← h, ← h']
        refine ⟨ha, ?_, hp.2⟩
        cases hq : Lib.hasSuffix acc [92] with
        | false => rfl
        | true => exact absurd rfl (hs hq)
      by_cases h2 : c = 9
      · rw [h2, valF_tab] at h; cases h
      cases hq : Lib.hasPrefix (c :: r) [92, 34]
      · rw [valF_more h1 h2 hq] at h
        refine ih r.length (by rw [← hn]; simp) r rfl h hp.2 (by rw [List.all_append, ha, List.all_cons, pl_pr' hp.1 h2]; rfl) (fun hsf => ?_)
        rw [suf_snoc] at hsf
        subst hsf
        cases r with
        | nil => simp
        | cons d r =>
          rw [hp2] at hq
          intro e
          have : d = 34 := by simpa using e
          subst this
          exact absurd hq (by decide)
      · obtain ⟨r2, hr⟩ := pre_esc hq
        rw [hr, valF_esc] at h
        rw [hr] at hp0
        simp only [List.all_cons, Bool.and_eq_true] at hp0
        refine ih r2.length (by rw [← hn, hr]; simp; omega) r2 rfl h hp0.2.2 (by rw [List.all_append, ha]; decide) (fun hsf => ?_)
        rw [suf_snoc] at hsf
        exact absurd hsf (by decide)
theorem all_drop {f : UInt8 → Bool} {s : Str} (h : s.all f = true) (n : Nat) : (s.drop n).all f = true := List.all_eq_true.2 fun c hc => List.all_eq_true.1 h c (List.mem_of_mem_drop hc)
theorem take_tw (f : UInt8 → Bool) : ∀ s : Str, s.take (s.takeWhile f).length = s.takeWhile f
  | [] => rfl
  | c :: r => by
    rw [List.takeWhile_cons]
    cases f c
    · simp
    · simp [take_tw f r]
theorem all_cnt (f : UInt8 → Bool) (s : Str) : (s.take (cnt f s)).all f = true := by
  unfold cnt
  rw [take_tw]
  exact List.all_takeWhile
theorem valS_good {s a r : Str} (h : valS s = .ok (a, r)) (hp : s.all plC = true) : a.all pr = true ∧ Lib.hasSuffix a [92] = false ∧ r.all plC = true := by
  unfold valS at h
  split at h
  · exact valF_good _ h (all_drop hp 1) rfl (fun hs => absurd hs (by decide))
  · cases h
theorem nameS_good {s a r : Str} (h : nameS s = .ok (a, r)) (hp : s.all plC = true) : a.all nmC = true ∧ r.all plC = true := by
  unfold nameS at h
  split at h
  · dsimp only at h
    split at h
    · cases h
    · split at h
      · cases h
      · injection h with h; injection h with h h'
        rw [← h, ← h']
        exact ⟨all_cnt _ _, all_drop (all_drop hp 1) _⟩
  · injection h with h; injection h with h h'
    rw [← h, ← h']
    exact ⟨rfl, hp⟩
theorem opS_good {s a r : Str} (h : opS s = .ok (a, r)) (hp : s.all plC = true) : a ∈ opsL ∧ r.all plC = true := by
  unfold opS at h
  split at h
  · rename_i x hx
    injection h with h; injection h with h h'
    rw [← h, ← h']
    exact ⟨List.mem_of_find?_eq_some hx, all_drop hp _⟩
  · cases h
theorem tokS_good {s r : Str} {x : Tk} (h : tokS s = .ok (x, r)) (hp : s.all plC = true) : goodB x = true ∧ r.all plC = true := by
  rw [tokS_eq] at h
  by_cases h0 : cnt upC s = 0
  · rw [if_pos h0] at h; cases h
  rw [if_neg h0] at h
  cases h1 : nameS (s.drop (cnt upC s)) with
  | error e => rw [h1] at h; cases h
  | ok p =>
    obtain ⟨nm, r1⟩ := p
    rw [h1] at h
    dsimp only at h
    cases h2 : opS r1 with
    | error e => rw [h2] at h; cases h
    | ok p =>
      obtain ⟨op, r2⟩ := p
      rw [h2] at h
      dsimp only at h
      cases h3 : valS r2 with
      | error e => rw [h3] at h; cases h
      | ok p =>
        obtain ⟨v, r3⟩ := p
        rw [h3] at h
        dsimp only at h
        injection h with h
        injection h with h h'
        obtain ⟨a1, a2⟩ := nameS_good h1 (all_drop hp _)
        obtain ⟨b1, b2⟩ := opS_good h2 a2
        obtain ⟨c1, c2, c3⟩ := valS_good h3 b2
        rw [← h, ← h']
        refine ⟨goodB_of ?_ ?_ ?_ ?_ ?_ ?_, c3⟩ <;> dsimp only <;> rw [L_bs]
        · exact all_cnt _ _
        · exact a1
        · exact c1
        · exact b1
        · intro e
          have := congrArg List.length e
          rw [List.length_take, List.length_nil] at this
          have h4 := cnt_le upC s
          omega
        · exact c2
theorem toksF_good (n : Nat) : ∀ {line : Str} {beh : Bool} {acc l : List Tk}, toksF n line beh acc = .ok l → line.all plC = true → acc.all goodB = true → l.all goodB = true := by
  induction n with
  | zero => intro line beh acc l h; rw [toksF] at h; cases h
  | succ n ih =>
    intro line beh acc l h hp ha
    rw [toksF] at h
    split at h
    · injection h with h; rw [← h]; exact ha
    · split at h
      · cases h
      · cases hk : tokS (restS line) with
        | error e => rw [hk] at h; cases h
        | ok p =>
          obtain ⟨x, r⟩ := p
          rw [hk] at h
          obtain ⟨g1, g2⟩ := tokS_good hk (by
            refine List.all_eq_true.2 fun c hc => List.all_eq_true.1 hp c ?_
            exact (List.dropWhile_sublist _).subset hc)
          exact ih h g2 (by rw [List.all_append, ha, List.all_cons, g1]; rfl)
/-- The tokens of a line can be written. -/
theorem toksS_good {line : Str} {l : List Tk} (h : toksS line = .ok l) : l.all goodB = true := by
  unfold toksS at h
  split at h
  · cases h
  split at h
  · cases h
  rename_i _ hp
  exact toksF_good _ h (by simpa using hp) rfl
end Go.Proofs.YthcgkeiggnfgiaaGreatDoor
namespace Go.Proofs.YthcgkeiggnfgiaaGreatDoor
open Go.RowKit
theorem key_idx : ∀ k ∈ List.range 25, Lib.idxOfS keysB (keyW (k : Int)) = (k : Int) := by decide +kernel
theorem op_idx : ∀ k ∈ List.range 7, Lib.idxOfS opsW (opW (k : Int)) = (k : Int) := by decide +kernel
theorem key_good : ∀ k ∈ List.range 25, k = 0 ∨ ((L (keyW (k : Int))).all upC = true ∧ L (keyW (k : Int)) ≠ []) := by decide +kernel
theorem op_good : ∀ k ∈ List.range 7, k = 0 ∨ L (opW (k : Int)) ∈ opsL := by decide +kernel
theorem tm_back {t : Tm} (h : TmRight t) : tmOf (tokOf t) = t := by
  obtain ⟨ky, nm, op, vl⟩ := t
  obtain ⟨k0, k1, o0, o1, _, _⟩ := h
  dsimp only at k0 k1 o0 o1
  have h1 := key_idx ky.toNat (List.mem_range.2 (by omega))
  have h2 := op_idx op.toNat (List.mem_range.2 (by omega))
  rw [show ((ky.toNat : Nat) : Int) = ky from by omega] at h1
  rw [show ((op.toNat : Nat) : Int) = op from by omega] at h2
  show (⟨Lib.idxOfS keysB (keyW ky), nm, Lib.idxOfS opsW (opW op), vl⟩ : Tm) = _
  rw [h1, h2]
theorem tok_good {x : Tk} (h : goodB x = true) (hr : TmRight (tmOf x)) : goodB (tokOf (tmOf x)) = true := by
  obtain ⟨_, h2, h3, _, _, h6⟩ := goodB_parts h
  obtain ⟨k0, k1, o0, o1, _, _⟩ := hr
  have g1 := key_good (tmOf x).key.toNat (List.mem_range.2 (by omega))
  have g2 := op_good (tmOf x).op.toNat (List.mem_range.2 (by omega))
  rw [show (((tmOf x).key.toNat : Nat) : Int) = (tmOf x).key from by omega] at g1
  rw [show (((tmOf x).op.toNat : Nat) : Int) = (tmOf x).op from by omega] at g2
  obtain ⟨g1, g3⟩ := g1.resolve_left (by omega)
  exact goodB_of g1 h2 h3 (g2.resolve_left (by omega)) g3 h6
theorem right_of {l : List Tm} (h : checkE l = 0) : ∀ t ∈ l, TmRight t := fun t ht => termE_right ((checkE_ok h).2.2 t ht)
theorem fmtS_cases (l : List Tk) : (l.all goodB = true ∧ (fmtF l).length ≤ 1024 ∧ fmtS l = (fmtF l, 0)) ∨ (l.all goodB = true ∧ fmtS l = ([], 81)) ∨ (l.all goodB = false ∧ fmtS l = ([], 82)) := by
  unfold fmtS
  cases h : l.all goodB
  · exact Or.inr (Or.inr ⟨rfl, rfl⟩)
  · by_cases h2 : 1024 < (fmtF l).length
    · exact Or.inr (Or.inl ⟨rfl, by rw [if_pos rfl, if_pos h2]⟩)
    · exact Or.inl ⟨rfl, by omega, by rw [if_pos rfl, if_neg h2]⟩
/-- What a line of terms reads as. -/
theorem format_back {x : List Tm} {s : Str} (h : formatE x = (s, 0)) : parseL s = .ok x ∧ checkE x = 0 := by
  unfold formatE at h
  by_cases hc : checkE x = 0
  · rw [if_pos hc] at h
    rcases fmtS_cases (x.map tokOf) with ⟨hg, hl, hf⟩ | ⟨_, hf⟩ | ⟨_, hf⟩
    · rw [hf] at h
      injection h with h _
      have hm : (x.map tokOf).map tmOf = x := by
        rw [List.map_map]
        exact (List.map_congr_left (fun t ht => tm_back (right_of hc t ht))).trans (List.map_id x)
      refine ⟨?_, hc⟩
      rw [parseL, ← h, toksS_back hg hl]
      dsimp only
      rw [hm, if_pos hc]
    · rw [hf] at h; injection h with _ h; exact absurd h (by decide)
    · rw [hf] at h; injection h with _ h; exact absurd h (by decide)
  · rw [if_neg hc] at h; injection h with _ h; exact absurd h hc
/-- The terms of a line are right, and can be written unless their line is too long. -/
theorem parse_good {s : Str} {x : List Tm} (h : parseL s = .ok x) : checkE x = 0 ∧ ((formatE x).2 = 0 ∨ (formatE x).2 = 81) := by
  unfold parseL at h
  cases ht : toksS s with
  | error e => rw [ht] at h; cases h
  | ok l =>
    rw [ht] at h
    dsimp only at h
    by_cases hc : checkE (l.map tmOf) = 0
    · rw [if_pos hc] at h
      injection h with h
      rw [h] at hc
      refine ⟨hc, ?_⟩
      have hg : (x.map tokOf).all goodB = true := by
        rw [← h, List.all_eq_true]
        intro t ht2
        obtain ⟨y, hy, rfl⟩ := List.mem_map.1 ht2
        obtain ⟨k, hk, rfl⟩ := List.mem_map.1 hy
        exact tok_good (List.all_eq_true.1 (toksS_good ht) k hk) (right_of hc _ (by rw [← h]; exact List.mem_map_of_mem hk))
      unfold formatE
      rw [if_pos hc]
      rcases fmtS_cases (x.map tokOf) with ⟨_, _, hf⟩ | ⟨_, hf⟩ | ⟨hg2, _⟩
      · rw [hf]; exact Or.inl rfl
      · rw [hf]; exact Or.inr rfl
      · rw [hg] at hg2; cases hg2
    · rw [if_neg hc] at h; cases h
theorem parse_err {s : Str} {e : Int} (h : parseL s = .error e) : e ≠ 0 := by
  unfold parseL at h
  cases ht : toksS s with
  | error n => rw [ht] at h; injection h with h; rw [← h]; exact toksS_err ht
  | ok l =>
    rw [ht] at h
    dsimp only at h
    by_cases hc : checkE (l.map tmOf) = 0
    · rw [if_pos hc] at h; cases h
    · rw [if_neg hc] at h; injection h with h; rw [← h]; exact hc
theorem formatE_len (l : List Tm) : (formatE l).1.length ≤ 1024 := by
  unfold formatE
  split
  · rcases fmtS_cases (l.map tokOf) with ⟨_, h, hf⟩ | ⟨_, hf⟩ | ⟨_, hf⟩ <;> rw [hf]
    · exact h
    · exact Nat.zero_le _
    · exact Nat.zero_le _
  · exact Nat.zero_le _
theorem right_pre {t : Tm} (h : TmRight t) : TmPre t := ⟨by have := h.name; omega, by have := h.value; omega⟩
end Go.Proofs.YthcgkeiggnfgiaaGreatDoor
namespace Go.Proofs.YthcgkeiggnfgiaaGreatDoor
open Go.RowKit
set_option maxRecDepth 100000 in
set_option maxHeartbeats 1000000 in
theorem SameTerms_yes (A A' : Option Addr) (c c' : Nat) (l : List Tm) (w : World) (hn : l.length ≤ 1000000) (h : RowAt w w.heap.size A 4 l.length (cellsOf encTm l)) (h' : RowAt w w.heap.size A' 4 l.length (cellsOf encTm l)) :
    Calls Tryz.prog 43 #[.slice A l.length c, .slice A' l.length c'] w fun e w' => e = .returned (.bool true) ∧ Below w.heap.size w w' := by
  have H := Lib.hid h
  have H' := Lib.hid h'
  clear h h'
  generalize hN : l.length = N at *
  have HN := Lib.hid hN
  clear hN
  go_enter Tryz.func43, Tryz.ntmps43
  go_wp2
  go_loopw [5] (fun i wr => ∃ k : Nat, k ≤ N ∧ i = .int .i64 k ∧ Hid (Below w.heap.size w wr)) (fun i _ => N - (intOf i).toNat)
  case atStart => exact ⟨0, Nat.zero_le _, rfl, Below.refl _ _⟩
  case round =>
    obtain ⟨k, hk, rfl, hdr⟩ := hrel
    by_cases hlt : k < N
    · have hk' : k < l.length := by rw [HN.out]; exact hlt
      have hr := H.out
      have hr' := H'.out
      rw [← HN.out] at hr hr'
      obtain ⟨ba, off, rfl, c0, c1, c2, c3⟩ := hr.tm hdr.out hk'
      obtain ⟨ba', off', rfl, d0, d1, d2, d3⟩ := hr'.tm hdr.out hk'
      have hltI : (k : Int) < (N : Int) := by omega
      have hNI : (N : Int) ≤ 1000000 := by omega
      clear hr hr'
      generalize l[k] = t at *
      obtain ⟨ky, nm, op, vl⟩ := t
      dsimp only at c0 c1 c2 c3 d0 d1 d2 d3
      clear hk'
      go_wp2
      go_quiet (fail)
      go_wp2
      exact ⟨⟨k + 1, by omega, by go_num, below_drewN hdr.out _⟩, by simp [intOf]; omega⟩
    · obtain rfl : k = N := by omega
      go_wp2
      go_ret
      exact ⟨rfl, hdr.out⟩
end Go.Proofs.YthcgkeiggnfgiaaGreatDoor
