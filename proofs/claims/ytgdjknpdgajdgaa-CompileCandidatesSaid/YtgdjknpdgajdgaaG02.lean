/-
  Contracts of the reference's package for patterns: byteOK, Printable, set.
  Contract of the reference's set: the members of a set of a pattern.
-/
import Derived.Test.YtgdjknpdgajdgaaG00
import Derived.Test.YtgdjknpdgajdgaaG01
import Derived.Deep.Cut
import Derived.Deep.CutRange
import Derived.Deep.CutBlock
namespace Go.Proofs.Ytgdjknpdgajdgaa
open Go.RowKit
/-- A row of Booleans. -/
def boolA (n : Nat) (f : Nat → Bool) : Array Value := Array.ofFn (n := n) fun i => .bool (f i)
theorem size_boolA (n : Nat) (f : Nat → Bool) : (boolA n f).size = n := by simp [boolA]
theorem boolA_get (n : Nat) (f : Nat → Bool) (c : Nat) (h : c < n) : (boolA n f)[c]? = some (.bool (f c)) := by simp [boolA, h]
theorem boolA_set (n : Nat) (f : Nat → Bool) (c : Nat) (b : Bool) : (boolA n f).setIfInBounds c (.bool b) = boolA n (fun d => if d = c then b else f d) := by
  apply Array.ext_getElem?
  intro i
  rw [Array.getElem?_setIfInBounds, size_boolA]
  by_cases hi : i < n
  · rw [boolA_get _ _ _ hi, boolA_get _ _ _ hi]
    by_cases e : c = i
    · subst e; rw [if_pos rfl, if_pos hi, if_pos rfl]
    · rw [if_neg e, if_neg (fun x => e x.symm)]
  · rw [Array.getElem?_eq_none (by rw [size_boolA]; omega), Array.getElem?_eq_none (by rw [size_boolA]; omega)]
    by_cases e : c = i
    · rw [if_pos e, if_neg (by omega)]
    · rw [if_neg e]
theorem boolA_one (n : Nat) (f : Nat → Bool) : (boolA n f).all (·.oneCell') = true := by
  rw [Array.all_eq_true]
  intro i hi
  have h := boolA_get n f i (by rw [size_boolA] at hi; exact hi)
  rw [Array.getElem?_eq_getElem hi] at h
  have h' := Option.some.inj h
  rw [h']
  simp [Value.oneCell']
theorem boolA_congr {n : Nat} {f g : Nat → Bool} (h : ∀ c, c < n → f c = g c) : boolA n f = boolA n g := by
  apply Array.ext_getElem?
  intro i
  by_cases hi : i < n
  · rw [boolA_get _ _ _ hi, boolA_get _ _ _ hi, h i hi]
  · rw [Array.getElem?_eq_none (by rw [size_boolA]; omega), Array.getElem?_eq_none (by rw [size_boolA]; omega)]
attribute [irreducible] boolA
/-- An element as the reference has it. -/
def elR (st li : Bool) (f : Nat → Bool) : Array Value := #[.bool st, .bool li] ++ boolA 128 f
theorem size_elR (st li : Bool) (f : Nat → Bool) : (elR st li f).size = 130 := by rw [elR, Array.size_append, size_boolA]; rfl
theorem elR_get (st li : Bool) (f : Nat → Bool) (c : Nat) (h : c < 128) : (elR st li f)[2 + c]? = some (.bool (f c)) := by
  rw [elR, Array.getElem?_append_right (by simp), ← boolA_get 128 f c h]
  congr 1
  simp
theorem elR_at (st li : Bool) (f : Nat → Bool) (i : Nat) (h : 2 ≤ i) : (elR st li f)[i]? = (boolA 128 f)[i - 2]? := by
  rw [elR, Array.getElem?_append_right (by simpa using h)]
  rfl
theorem elR_lo (st li : Bool) (f g : Nat → Bool) (i : Nat) (h : i < 2) : (elR st li f)[i]? = (elR st li g)[i]? := by
  rw [elR, elR, Array.getElem?_append_left (by simpa using h), Array.getElem?_append_left (by simpa using h)]
theorem elR_set (st li : Bool) (f : Nat → Bool) (c : Nat) (b : Bool) : (elR st li f).setIfInBounds (2 + c) (.bool b) = elR st li (fun d => if d = c then b else f d) := by
  apply Array.ext_getElem?
  intro i
  rw [Array.getElem?_setIfInBounds, size_elR]
  by_cases h2 : i < 2
  · rw [if_neg (by omega)]
    exact elR_lo _ _ _ _ i h2
  · rw [elR_at _ _ _ i (by omega), elR_at _ _ _ i (by omega), ← boolA_set, Array.getElem?_setIfInBounds, size_boolA]
    by_cases e : 2 + c = i
    · rw [if_pos e, if_pos (show c = i - 2 by omega)]
      by_cases hc : c < 128
      · rw [if_pos (by omega), if_pos (by omega)]
      · rw [if_neg (by omega), if_neg (by omega)]
    · rw [if_neg e, if_neg (by omega)]
attribute [irreducible] elR
set_option maxRecDepth 100000 in
set_option maxHeartbeats 400000 in
theorem byteOK_any (c : UInt8) (w : World) :
    Calls Try.prog 96 #[.int .u8 c.toNat] w fun e w' => e = .returned (.bool (pr c)) ∧ w = w' := by
  have HP : Hid (pr c = (decide (32 ≤ (c.toNat : Int)) && decide ((c.toNat : Int) ≤ 126))) := Lib.hid rfl
  by_cases h1 : 32 ≤ (c.toNat : Int)
  · go_enter Try.func96, Try.ntmps96
    go_wp2
    go_ret
    exact ⟨ret_bool (by rw [HP.out]; simp [h1]), rfl⟩
  · go_enter Try.func96, Try.ntmps96
    go_wp2
    go_ret
    exact ⟨ret_bool (by rw [HP.out]; simp; omega), rfl⟩
set_option maxRecDepth 100000 in
set_option maxHeartbeats 400000 in
theorem R2Printable_any (s : ByteArray) (w : World) (hs : s.size ≤ 9223372036854775807) :
    Calls Try.prog 85 #[.string s] w fun e w' => e = .returned (.bool (printS (L s))) ∧ w = w' := by
  go_enter Try.func85, Try.ntmps85
  go_wp2
  go_loop [3] (fun i => ∃ k : Nat, k ≤ s.size ∧ i = .int .i64 k ∧ Hid (printS ((L s).take k) = true)) (fun i => s.size - (intOf i).toNat)
  case atStart => exact ⟨0, Nat.zero_le _, rfl, rfl⟩
  case round =>
    obtain ⟨k, hk, rfl, hp⟩ := hrel
    by_cases hlt : k < s.size
    · have HB := Lib.hid (fun W => byteOK_any s[k] W)
      cases hc : pr s[k]
      · rw [hc] at HB
        have HC := Lib.hid hc
        clear hc
        go_wp2_with (go_at_call 96; refine (HB.out _).mono ?_; rintro e w1 ⟨rfl, rfl⟩)
        go_ret
        exact ⟨ret_bool (by rw [printS_no s hlt rfl HC.out]), rfl⟩
      · rw [hc] at HB
        have HC := Lib.hid hc
        clear hc
        go_wp2_with (go_at_call 96; refine (HB.out _).mono ?_; rintro e w1 ⟨rfl, rfl⟩)
        go_round
        case rel => exact ⟨k + 1, by omega, by go_num, by
          show printS _ = true
          rw [take_snoc s k (by omega), printS_snoc, hp.out, HC.out]; rfl⟩
        case measure => simp [intOf]; omega
    · go_wp2
      go_ret
      refine ⟨ret_bool ?_, rfl⟩
      have h := hp.out
      rw [take_all s k hlt] at h
      rw [h]
end Go.Proofs.Ytgdjknpdgajdgaa
namespace Go.Proofs.Ytgdjknpdgajdgaa
open Go.RowKit
def membersK (r : Str) : Option (List (UInt8 × UInt8) × Str) := membersS r.length r
theorem membersK_nil : membersK [] = none := rfl
theorem membersK_end (r : Str) : membersK (93 :: r) = some ([], r) := rfl
theorem membersK_rng (c b : UInt8) (r : Str) (hc : c ≠ 93) (hr : rngS r = some b) : membersK (c :: r) = if c ≤ b then (membersK (r.drop 2)).map fun x => ((c, b) :: x.1, x.2) else none := by
  unfold membersK
  rw [List.length_cons, membersS, if_neg hc, hr]
  dsimp only
  rw [membersS_fuel r.length (r.drop 2) (by rw [List.length_drop]; omega) (r.drop 2).length (Nat.le_refl _)]
theorem membersK_one (c : UInt8) (r : Str) (hc : c ≠ 93) (hr : rngS r = none) : membersK (c :: r) = (membersK r).map fun x => ((c, c) :: x.1, x.2) := by
  unfold membersK
  rw [List.length_cons, membersS, if_neg hc, hr]
theorem inRs_snoc (rs : List (UInt8 × UInt8)) (a b : UInt8) (c : Nat) : inRs (rs ++ [(a, b)]) c = (inRs rs c || (decide (a.toNat ≤ c) && decide (c ≤ b.toNat))) := by simp [inRs]
theorem zero128 : Try.zeroCells150 = boolA 128 (inRs []) := by
  unfold boolA
  kernel_rfl
theorem setCell_known {W : World} {g i : Nat} {A B : Array Value} {T : TypeId} {u : Value} (h : W.heap[g]? = some (.cells A T (0, 0))) (hs : A.setIfInBounds i u = B) : (W.setCell ⟨g, i, none⟩ u).heap[g]? = some (.cells B T (0, 0)) := by
  rw [heap_setCell_same _ _ _ _ _ _ h, hs]
theorem pr_of {p : ByteArray} (h : printS (L p) = true) (j : Nat) (hj : j < p.size) : 32 ≤ (p[j].toNat : Int) ∧ (p[j].toNat : Int) ≤ 126 := by
  have := List.all_eq_true.1 h p[j] (by rw [← L_get p j hj]; exact List.getElem_mem _)
  simpa [pr] using this
/-- What set leaves. -/
def SetPost (p : ByteArray) (g : Nat) (st li : Bool) (f0 : Nat → Bool) (r : Str) (w : World) (e : Ending) (w' : World) : Prop :=
  match setS r with
  | some (.set no rs, r') => e = .returned (.tuple #[.int .i64 ((p.size : Int) - r'.length - 1), .bool true]) ∧ w.grownBy w' (some g) ∧ w'.heap[g]? = some (.cells (elR st li (fun c => if 32 ≤ c ∧ c ≤ 126 then (inRs rs c != no) else f0 c)) 152 (0, 0))
  | _ => e = .returned (.tuple #[.int .i64 0, .bool false]) ∧ w.grownBy w' none
theorem rng_some {p : ByteArray} {j : Nat} {b : UInt8} (h : rngS ((L p).drop (j + 1)) = some b) : ∃ h1 : j + 1 < p.size, ∃ h2 : j + 2 < p.size, p[j + 1] = 45 ∧ p[j + 2] = b ∧ b ≠ 93 := by
  unfold rngS at h
  split at h
  · rename_i h45
    have h1 : j + 1 < p.size := by
      rcases Nat.lt_or_ge (j + 1) p.size with h1 | h1
      · exact h1
      · rw [List.drop_eq_nil_of_le (by rw [len_L]; exact h1)] at h45; simp at h45
    rw [drop_cons p (j + 1) h1] at h45 h
    have e45 : p[j + 1] = 45 := by simpa using h45
    split at h
    · rename_i b' hb'
      have h2 : j + 2 < p.size := by
        rcases Nat.lt_or_ge (j + 2) p.size with h2 | h2
        · exact h2
        · rw [List.drop_eq_nil_of_le (by rw [len_L]; exact h2)] at hb'; simp at hb'
      rw [drop_cons p (j + 1 + 1) h2] at hb'
      have eb : p[j + 2] = b' := by simpa using hb'
      split at h
      · cases h
      · rename_i hne
        obtain rfl := Option.some.inj h
        exact ⟨h1, h2, e45, eb, hne⟩
    · cases h
  · cases h
theorem rng_none {p : ByteArray} {j : Nat} (h : rngS ((L p).drop (j + 1)) = none) (h2 : j + 2 < p.size) : ¬ (p[j + 1]'(by omega) = 45 ∧ p[j + 2] ≠ 93) := by
  rintro ⟨a, b⟩
  unfold rngS at h
  rw [drop_cons p (j + 1) (by omega), drop_cons p (j + 1 + 1) h2] at h
  simp only [List.head?_cons, List.getElem?_cons_succ, List.getElem?_cons_zero, a, if_true] at h
  rw [if_neg b] at h
  cases h
set_option maxRecDepth 100000 in
set_option maxHeartbeats 8000000 in
theorem Rset_any (p : ByteArray) (i g : Nat) (st li : Bool) (f0 : Nat → Bool) (w : World) (hp : p.size ≤ 256) (hpr : printS (L p) = true) (hi : i ≤ p.size) (hg : w.heap[g]? = some (.cells (elR st li f0) 152 (0, 0))) :
    Calls Try.prog 97 #[.string p, .int .i64 i, .pointer (some ⟨g, 0, none⟩)] w (SetPost p g st li f0 ((L p).drop i) w) := by
  have hglt := blk_lt' hg
  have HG := Lib.hid hg
  have HP := Lib.hid hpr
  clear hg hpr
  obtain ⟨no, ft, hft, hcase, hset⟩ : ∃ no ft, (ft ≤ p.size) ∧ (no = true ∧ ft = i + 1 ∧ (∃ h : i < p.size, p[i] = 33) ∨ no = false ∧ ft = i ∧ (∀ h : i < p.size, p[i] ≠ 33)) ∧ setS ((L p).drop i) = setQ no ((L p).drop ft) := by
    by_cases h : i < p.size
    · by_cases h33 : p[i] = 33
      · refine ⟨true, i + 1, h, Or.inl ⟨rfl, rfl, h, h33⟩, ?_⟩
        rw [drop_cons p i h, setS, h33]; rfl
      · refine ⟨false, i, hi, Or.inr ⟨rfl, rfl, fun _ => h33⟩, ?_⟩
        rw [setS, drop_cons p i h, if_neg (by simpa using h33)]
    · refine ⟨false, i, hi, Or.inr ⟨rfl, rfl, fun h' => absurd h' h⟩, ?_⟩
      rw [setS, List.drop_eq_nil_of_le (by rw [len_L]; omega), if_neg (by simp)]
  have HS := Lib.hid hset
  have HC := Lib.hid hcase
  clear hset hcase
  go_enter Try.func97, Try.ntmps97
  go_upto_region 1 with fail
  go_cut [8] from 13 to 23 (fun s8 wx => s8 = .bool no ∧ w = wx)
  case first =>
    rcases HC.out with ⟨h1, _, h2, h3⟩ | ⟨h1, _, h2⟩
    · have hlt : (i : Int) < (p.size : Int) := by omega
      have e33 : ((p[i].toNat : Int) == 33) = true := by rw [h3]; rfl
      subst h1
      clear h3
      go_wp2
      go_meet
      exact ⟨rfl, rfl⟩
    · subst h1
      by_cases hlt0 : i < p.size
      · have hlt : (i : Int) < (p.size : Int) := by omega
        have e33 : ((p[i].toNat : Int) == 33) = false := by
          rw [beq_eq_false_iff_ne]
          intro e
          exact h2 hlt0 (UInt8.toNat_inj.1 (Int.ofNat.inj e))
        clear h2
        go_wp2
        go_meet
        exact ⟨rfl, rfl⟩
      · have hlt : ¬ (i : Int) < (p.size : Int) := by omega
        clear h2
        go_wp2
        go_meet
        exact ⟨rfl, rfl⟩
  case rest =>
  obtain ⟨rfl, rfl⟩ := hcut
  go_upto_if 23 with fail
  go_cut [1] from 13 to 23 (fun s1 wx => s1 = .int .i64 (ft : Nat) ∧ w = wx)
  case first =>
    rcases HC.out with ⟨rfl, rfl, _, _⟩ | ⟨rfl, rfl, _⟩
    · go_wp2
      go_meet
      exact ⟨by go_num, rfl⟩
    · go_wp2
      go_meet
      exact ⟨rfl, rfl⟩
  case rest =>
  obtain ⟨rfl, rfl⟩ := hcut
  clear HC
  go_wp2
  rw [zero128]
  go_loopg [1] (p.size + 1) (fun gk s1 wr => ∃ (j : Nat) (rs : List (UInt8 × UInt8)), s1 = .int .i64 j ∧ ft ≤ j ∧ j ≤ p.size ∧ j + gk = ft + (p.size + 1) ∧ Hid (Below w.heap.size w wr) ∧ Hid (wr.heap[w.heap.size]? = some (.cells (boolA 128 (inRs rs)) 150 (0, 0))) ∧ Hid (membersK ((L p).drop ft) = (membersK ((L p).drop j)).map (fun x => (rs ++ x.1, x.2))))
  case atStart => exact ⟨ft, [], rfl, Nat.le_refl _, hft, by omega, (Below.refl _ _).alloc (Nat.le_refl _) _, heap_alloc_new _ _, (by show _ = _; cases membersK ((L p).drop ft) <;> rfl)⟩
  case round =>
    obtain ⟨j, rs, rfl, hj1, hj2, hjg, hbw, hbk, hm⟩ := hrel
    by_cases hlt0 : j < p.size
    · have hlt : (j : Int) < (p.size : Int) := by omega
      by_cases h93 : p[j] = 93
      · have e93 : ((p[j].toNat : Int) == 93) = true := by rw [h93]; rfl
        have n93 : ((p[j].toNat : Int) != 93) = false := by rw [h93]; rfl
        have hend : membersK ((L p).drop ft) = some (rs, (L p).drop (j + 1)) := by
          rw [hm.out, drop_cons p j hlt0, h93, membersK_end]
          simp
        have HE := Lib.hid hend
        clear hend hm
        by_cases hjf : j = ft
        · subst hjf
          have HN : Hid (setQ no ((L p).drop j) = none) := Lib.hid (by rw [setQ, drop_cons p j hlt0, h93]; simp)
          clear h93 hj1
          go_wp2
          go_ret2
          unfold SetPost
          rw [HS.out, HN.out]
          exact ⟨rfl, grown_below hbw.out none⟩
        · have ejf : ((j : Int) == (ft : Int)) = false := by rw [beq_eq_false_iff_ne]; omega
          have hq : setQ no ((L p).drop ft) = some (.set no rs, (L p).drop (j + 1)) := by
            have hh : ((L p).drop ft).head? ≠ some 93 := by
              intro hx
              have h1 := HE.out
              have hfl : ft < p.size := by omega
              rw [drop_cons p ft hfl] at h1 hx
              have e1 : p[ft] = 93 := by simpa using hx
              rw [e1, membersK_end] at h1
              have h2 := congrArg List.length (Prod.mk.inj (Option.some.inj h1)).2
              simp only [List.length_drop, len_L] at h2
              omega
            rw [setQ, if_neg hh]
            have := HE.out
            unfold membersK at this
            rw [this]; rfl
          have HQ := Lib.hid hq
          clear hq h93 hjf
          have HG1 := Lib.hid ((hbw.out.block g hglt).trans HG.out)
          have Hw1 := Lib.hid (grown_below hbw.out (some g))
          have HB1 := hbk
          clear hbw hbk
          go_wp2
          go_loopg [12] 96 (fun gk s12 wr => ∃ k : Nat, s12 = .int .i64 k ∧ 32 ≤ k ∧ k + gk = 128 ∧ k ≤ 127 ∧ Hid (w.grownBy wr (some g)) ∧ Hid (wr.heap[w.heap.size]? = some (.cells (boolA 128 (inRs rs)) 150 (0, 0))) ∧ Hid (wr.heap[g]? = some (.cells (elR st li (fun c => if 32 ≤ c ∧ c < k then (inRs rs c != no) else f0 c)) 152 (0, 0))))
          case atStart =>
            refine ⟨32, rfl, Nat.le_refl _, rfl, by omega, Hw1.out, HB1.out, ?_⟩
            have e : (fun c => if 32 ≤ c ∧ c < 32 then (inRs rs c != no) else f0 c) = f0 := by funext c; rw [if_neg (by omega)]
            show wr.heap[g]? = _
            rw [e]
            exact HG1.out
          case round =>
            obtain ⟨k, rfl, hk1, hk2, hk3, hgw, hb, hgc⟩ := hrel
            by_cases hk : k ≤ 126
            · have cB := cellOf hb.out (boolA_get 128 _ k (by omega))
              have cG := cellOf hgc.out (elR_get st li _ k (by omega))
              have fG := frozen_of_row _ _ (2 + k) _ _ hgc.out
              go_wp2
              go_region
              have hset := setCell_known hgc.out (elR_set st li (fun c => if 32 ≤ c ∧ c < k then (inRs rs c != no) else f0 c) k (!inRs rs k == no))
              have hg2 := grown_set wr g (2 + k) (.bool (!inRs rs k == no))
              have ho : (wr.setCell ⟨g, 2 + k, none⟩ (.bool (!inRs rs k == no))).heap[w.heap.size]? = some (.cells (boolA 128 (inRs rs)) 150 (0, 0)) := (heap_setCell_other _ _ _ _ (by dsimp only; omega)).trans hb.out
              have ef : (fun d => if d = k then (!inRs rs k == no) else if 32 ≤ d ∧ d < k then (inRs rs d != no) else f0 d) = (fun c => if 32 ≤ c ∧ c < k + 1 then (inRs rs c != no) else f0 c) := by
                funext d
                by_cases hd : d = k
                · subst hd
                  rw [if_pos rfl, if_pos (by omega)]
                  cases inRs rs d <;> cases no <;> rfl
                · rw [if_neg hd]
                  by_cases h : 32 ≤ d ∧ d < k
                  · rw [if_pos h, if_pos (by omega)]
                  · rw [if_neg h, if_neg (by omega)]
              rw [ef] at hset
              have HS2 := Lib.hid hset
              have HG2 := Lib.hid (grown_tr hgw.out hg2)
              have HO := Lib.hid ho
              clear hset hg2 ho ef cB cG fG
              go_wp2
              go_roundg (gk - 1)
              case measure => omega
              case rel => exact ⟨k + 1, by go_num, by omega, by omega, by omega, grown_tr HG2.out ⟨rfl, rfl, rfl, Nat.le_refl _, fun _ _ _ => rfl⟩, HO.out, HS2.out⟩
            · obtain rfl : k = 127 := by omega
              go_wp2
              go_ret2
              unfold SetPost
              rw [HS.out, HQ.out]
              refine ⟨?_, hgw.out, ?_⟩
              · rw [List.length_drop, len_L]
                have e : ((p.size : Int) - ((p.size - (j + 1) : Nat) : Int) - 1) = (j : Int) := by omega
                rw [e]
                rfl
              · have e : (fun c => if 32 ≤ c ∧ c < 127 then (inRs rs c != no) else f0 c) = (fun c => if 32 ≤ c ∧ c ≤ 126 then (inRs rs c != no) else f0 c) := by
                  funext c
                  by_cases h : 32 ≤ c ∧ c ≤ 126
                  · rw [if_pos h, if_pos (by omega)]
                  · rw [if_neg h, if_neg (by omega)]
                rw [← e]
                exact hgc.out
      · have e93 : ((p[j].toNat : Int) == 93) = false := by
          rw [beq_eq_false_iff_ne]; intro e; exact h93 (UInt8.toNat_inj.1 (Int.ofNat.inj e))
        have n93 : ((p[j].toNat : Int) != 93) = true := by rw [bne, e93]; rfl
        have hb1 : (p[j].toNat : Int) < 128 := by have := pr_of HP.out j hlt0; omega
        cases hr : rngS ((L p).drop (j + 1)) with
        | none =>
          have hm2 : membersK ((L p).drop ft) = (membersK ((L p).drop (j + 1))).map (fun x => ((rs ++ [(p[j], p[j])]) ++ x.1, x.2)) := by
            rw [hm.out, drop_cons p j hlt0, membersK_one _ _ h93 hr, Option.map_map]
            congr 1
            funext x
            simp
          have HM := Lib.hid hm2
          have hno := fun h2 => rng_none (p := p) (j := j) hr h2
          clear hm hm2 hr h93
          have hset : (boolA 128 (inRs rs)).setIfInBounds p[j].toNat (.bool true) = boolA 128 (inRs (rs ++ [(p[j], p[j])])) := by
            rw [boolA_set]
            congr 1
            funext d
            rw [inRs_snoc]
            by_cases hd : d = p[j].toNat
            · rw [if_pos hd, hd]; simp
            · rw [if_neg hd]
              have : (decide (p[j].toNat ≤ d) && decide (d ≤ p[j].toNat)) = false := by simp; omega
              rw [this, Bool.or_false]
          have HSet := Lib.hid hset
          have hg := cellOf hbk.out (boolA_get 128 (inRs rs) p[j].toNat (by omega))
          have hf := frozen_of_row _ _ p[j].toNat _ _ hbk.out
          have HB2 := Lib.hid (setCell_known hbk.out hset)
          have HW2 := Lib.hid (hbw.out.setCell (p := ⟨w.heap.size, p[j].toNat, none⟩) (Nat.le_refl _) (.bool true))
          clear hset hbw hbk
          by_cases h2 : j + 2 < p.size
          · have h2i : (j : Int) + 2 < (p.size : Int) := by omega
            have h1i : (j : Int) + 1 < (p.size : Int) := by omega
            have hno2 := hno h2
            by_cases h45 : p[j + 1] = 45
            · have e45 : ((p[j + 1].toNat : Int) == 45) = true := by rw [h45]; rfl
              have h93' : p[j + 2] = 93 := by
                by_cases h : p[j + 2] = 93
                · exact h
                · exact absurd ⟨h45, h⟩ hno2
              have f93 : ((p[j + 2].toNat : Int) != 93) = false := by rw [h93']; rfl
              clear h45 h93' hno hno2
              go_wp2
              go_roundg (gk - 1)
              case measure => omega
              case rel => exact ⟨j + 1, _, by go_num, by omega, by omega, by omega, HW2.out, HB2.out, HM.out⟩
            · have e45 : ((p[j + 1].toNat : Int) == 45) = false := by
                rw [beq_eq_false_iff_ne]; intro e; exact h45 (UInt8.toNat_inj.1 (Int.ofNat.inj e))
              clear h45 hno hno2
              go_wp2
              go_roundg (gk - 1)
              case measure => omega
              case rel => exact ⟨j + 1, _, by go_num, by omega, by omega, by omega, HW2.out, HB2.out, HM.out⟩
          · have h2i : ¬ (j : Int) + 2 < (p.size : Int) := by omega
            clear hno
            go_wp2
            go_roundg (gk - 1)
            case measure => omega
            case rel => exact ⟨j + 1, _, by go_num, by omega, by omega, by omega, HW2.out, HB2.out, HM.out⟩
        | some b =>
          obtain ⟨h1, h2, h45, hb, hb93⟩ := rng_some hr
          subst hb
          have hm2 := membersK_rng p[j] p[j + 2] _ h93 hr
          have h2i : (j : Int) + 2 < (p.size : Int) := by omega
          have h1i : (j : Int) + 1 < (p.size : Int) := by omega
          have e45 : ((p[j + 1].toNat : Int) == 45) = true := by rw [h45]; rfl
          have f93 : ((p[j + 2].toNat : Int) != 93) = true := by
            rw [bne_iff_ne]; intro e; exact hb93 (UInt8.toNat_inj.1 (Int.ofNat.inj e))
          have hb2 : (p[j + 2].toNat : Int) < 128 := by have := pr_of HP.out (j + 2) h2; omega
          have hdr : ((L p).drop (j + 1)).drop 2 = (L p).drop (j + 3) := by rw [List.drop_drop]
          rw [hdr] at hm2
          by_cases hle : p[j] ≤ p[j + 2]
          · rw [if_pos hle] at hm2
            have hm3 : membersK ((L p).drop ft) = (membersK ((L p).drop (j + 3))).map (fun x => ((rs ++ [(p[j], p[j + 2])]) ++ x.1, x.2)) := by
              rw [hm.out, drop_cons p j hlt0, hm2, Option.map_map]
              congr 1
              funext x
              simp
            have HM := Lib.hid hm3
            have hleI : (p[j].toNat : Int) ≤ (p[j + 2].toNat : Int) := by have := UInt8.le_iff_toNat_le.1 hle; omega
            clear hm hm2 hm3 hr h93 h45 hb93 hle hdr
            go_wp2
            go_quiet (fail)
            go_wp2
            have hle : p[j].toNat ≤ p[j + 2].toNat := by omega
            have hb3 : p[j + 2].toNat < 128 := by omega
            obtain ⟨gko, rfl⟩ : ∃ gko : Nat, gko = gk := ⟨_, rfl⟩
            obtain ⟨wo, rfl⟩ : ∃ wo : World, wo = wr := ⟨_, rfl⟩
            go_loopg [11] (p[j + 2].toNat + 2 - p[j].toNat) (fun gk s11 wx => ∃ c : Nat, s11 = .int .i64 c ∧ p[j].toNat ≤ c ∧ c ≤ p[j + 2].toNat + 1 ∧ c + gk = p[j + 2].toNat + 2 ∧ Hid (Below w.heap.size w wx) ∧ Hid (wx.heap[w.heap.size]? = some (.cells (boolA 128 (fun d => inRs rs d || (decide (p[j].toNat ≤ d) && decide (d < c)))) 150 (0, 0))))
            case atStart =>
              refine ⟨p[j].toNat, rfl, Nat.le_refl _, by omega, by omega, below_drewN hbw.out _, ?_⟩
              have e : (fun d => inRs rs d || (decide (p[j].toNat ≤ d) && decide (d < p[j].toNat))) = inRs rs := by
                funext d
                have : (decide (p[j].toNat ≤ d) && decide (d < p[j].toNat)) = false := by
                  simp only [Bool.and_eq_false_iff, decide_eq_false_iff_not]
                  omega
                rw [this, Bool.or_false]
              show _ = _
              rw [e]
              exact hbk.out
            case round =>
              obtain ⟨c, rfl, hc1, hc2, hc3, hbw2, hbk2⟩ := hrel
              by_cases hc : c ≤ p[j + 2].toNat
              · have hcI : (c : Int) ≤ (p[j + 2].toNat : Int) := by omega
                have hset : (boolA 128 (fun d => inRs rs d || (decide (p[j].toNat ≤ d) && decide (d < c)))).setIfInBounds c (.bool true) = boolA 128 (fun d => inRs rs d || (decide (p[j].toNat ≤ d) && decide (d < c + 1))) := by
                  rw [boolA_set]
                  congr 1
                  funext d
                  by_cases hd : d = c
                  · rw [if_pos hd, hd]; simp; omega
                  · rw [if_neg hd]
                    have : decide (d < c) = decide (d < c + 1) := by rw [decide_eq_decide]; omega
                    rw [this]
                have hg := cellOf hbk2.out (boolA_get 128 _ c (by omega))
                have hf := frozen_of_row _ _ c _ _ hbk2.out
                have HB2 := Lib.hid (setCell_known hbk2.out hset)
                have HW2 := Lib.hid (hbw2.out.setCell (p := ⟨w.heap.size, c, none⟩) (Nat.le_refl _) (.bool true))
                clear hset hbw2 hbk2
                go_wp2
                go_roundg (gk - 1)
                case measure => omega
                case rel => exact ⟨c + 1, by go_num, by omega, by omega, by omega, HW2.out, HB2.out⟩
              · obtain rfl : c = p[j + 2].toNat + 1 := by omega
                have hcI : (p[j + 2].toNat : Int) < ((p[j + 2].toNat + 1 : Nat) : Int) := by omega
                have e : (fun d => inRs rs d || (decide (p[j].toNat ≤ d) && decide (d < p[j + 2].toNat + 1))) = inRs (rs ++ [(p[j], p[j + 2])]) := by
                  funext d
                  rw [inRs_snoc]
                  have : decide (d < p[j + 2].toNat + 1) = decide (d ≤ p[j + 2].toNat) := by rw [decide_eq_decide]; omega
                  rw [this]
                rw [e] at hbk2
                clear e hc hc1 hc2 hc3
                go_wp2
                go_roundg (gko - 3)
                case measure => omega
                case rel => exact ⟨j + 3, _, by go_num, by omega, by omega, by omega, hbw2.out, hbk2.out, HM.out⟩
          · rw [if_neg hle] at hm2
            have hm3 : membersK ((L p).drop ft) = none := by rw [hm.out, drop_cons p j hlt0, hm2]; rfl
            have HN : Hid (setQ no ((L p).drop ft) = none) := Lib.hid (by
              unfold membersK at hm3
              unfold setQ
              rw [hm3]
              split <;> rfl)
            have hleI : (p[j + 2].toNat : Int) < (p[j].toNat : Int) := by
              have h' : ¬ p[j].toNat ≤ p[j + 2].toNat := fun h => hle (UInt8.le_iff_toNat_le.2 h)
              omega
            clear hm hm2 hm3 hr h93 h45 hb93 hle hdr
            go_wp2
            go_quiet (fail)
            go_wp2
            go_ret2
            unfold SetPost
            rw [HS.out, HN.out]
            exact ⟨rfl, grown_below (below_drewN hbw.out _) none⟩
    · have hlt : ¬ (j : Int) < (p.size : Int) := by omega
      have HN : Hid (setQ no ((L p).drop ft) = none) := Lib.hid (by
        have h1 := hm.out
        rw [List.drop_eq_nil_of_le (by rw [len_L]; omega : (L p).length ≤ j), membersK_nil] at h1
        unfold membersK at h1
        unfold setQ
        rw [h1]
        split <;> rfl)
      go_wp2
      go_ret2
      unfold SetPost
      rw [HS.out, HN.out]
      exact ⟨rfl, grown_below hbw.out none⟩
end Go.Proofs.Ytgdjknpdgajdgaa
