/-
  What the library's variables hold, as far as it is read: they lie below block nG, and nothing there is turned.
  Contracts: strconv.Atoi and strconv.Itoa as they are used here; the reader's word.
  Contract of the reader's add.
  Contract of the reader's piece.
-/
import Derived.Test.YtibflgfhjfcifaaGreatDoorG09
import Derived.WalkSmall
import Derived.Lib.SmallJoins
import Derived.Lib.Bytes2
import Derived.RangeFuncBox
import Derived.Maps.AppendAt
import Derived.Lib.AppendIntMem
namespace Go.Proofs.YtibflgfhjfcifaaGreatDoor
open Go.RowKit
def nG : Nat := max 0 (max 3 (max 4 6)) + 1
theorem g_syn : Tryz.prog.globalNamed "strconv.ErrSyntax" = some 3 := by kernel_rfl
theorem g_rng : Tryz.prog.globalNamed "strconv.ErrRange" = some 4 := by kernel_rfl
theorem g_pow : Tryz.prog.globalNamed "internal/strconv.uint64pow10" = some 6 := by kernel_rfl
structure Env0 (w : World) : Prop where
 size : nG ≤ w.heap.size
 maxLen : ∃ m, w.cell? ⟨0, 0, none⟩ = some (.int .i64 m)
 pow : Lib.TabIs Tryz.prog w "internal/strconv.uint64pow10" .u64 Lib.pow10Tab
structure Env (w : World) : Prop extends Env0 w where
 syn : ∃ tp p, w.var? Tryz.prog "strconv.ErrSyntax" = some #[.iface tp p]
 rng : ∃ tp p, w.var? Tryz.prog "strconv.ErrRange" = some #[.iface tp p]
instance {w : World} : Coe (Env w) (Env0 w) := ⟨Env.toEnv0⟩
theorem Env0.keep {w w' : World} {B : Nat} (h : Env0 w) (hb : Below B w w') (hB : nG ≤ B) : Env0 w' := by
 refine ⟨Nat.le_trans h.size hb.size, ?_, ?_⟩
 · obtain ⟨m, hm⟩ := h.maxLen
   exact ⟨m, (hb.cell (p := ⟨0, 0, none⟩) (Nat.lt_of_lt_of_le (by decide) hB)).trans hm⟩
 · exact var?_below hb g_pow (Nat.lt_of_lt_of_le (by decide) hB) h.pow
theorem Env0.go {w w' : World} (h : Env0 w) (hb : Below w.heap.size w w') : Env0 w' := h.keep hb h.size
theorem Env0.drewN {w : World} (h : Env0 w) (n : Nat) : Env0 (w.drewN n) := h.go (below_drewN (Below.refl _ _) n)
theorem Env.keep {w w' : World} {B : Nat} (h : Env w) (hb : Below B w w') (hB : nG ≤ B) : Env w' := by
 refine ⟨h.toEnv0.keep hb hB, ?_, ?_⟩
 · obtain ⟨tp, p, hv⟩ := h.syn
   exact ⟨tp, p, var?_below hb g_syn (Nat.lt_of_lt_of_le (by decide) hB) hv⟩
 · obtain ⟨tp, p, hv⟩ := h.rng
   exact ⟨tp, p, var?_below hb g_rng (Nat.lt_of_lt_of_le (by decide) hB) hv⟩
theorem Env.go {w w' : World} (h : Env w) (hb : Below w.heap.size w w') : Env w' := h.keep hb h.size
theorem Env.drewN {w : World} (h : Env w) (n : Nat) : Env (w.drewN n) := h.go (below_drewN (Below.refl _ _) n)
theorem Cut_any (s sep : ByteArray) (w : World) (h : Env0 w) (hs : s.size < 4294967281) :
 Calls Tryz.prog 258 #[.string s, .string sep] w fun e w' => e = .returned (.tuple #[.string (bs (Lib.cut (L s) (L sep)).1), .string (bs (Lib.cut (L s) (L sep)).2.1), .bool (Lib.cut (L s) (L sep)).2.2]) ∧ ∃ n, w.drewN n = w' := by
 obtain ⟨m, hm⟩ := h.maxLen
 exact (Tryz.strings_Cut s sep m w hs hm).mono fun e w' ⟨h1, n, h2⟩ => ⟨h1, n, h2.symm⟩
theorem HasPrefix_any (s p : ByteArray) (w : World) :
 Calls Tryz.prog 48 #[.string s, .string p] w fun e w' => e = .returned (.bool (Lib.hasPrefix (L s) (L p))) ∧ w = w' :=
 (Tryz.strings_HasPrefix s p w).mono fun _e _w' ⟨h1, h2⟩ => ⟨h1, h2.symm⟩
theorem prefix_one (r : Str) (c : UInt8) : Lib.hasPrefix r [c] = (r.head? == some c) := by
 cases r with
 | nil => rfl
 | cons b t => 
   show ([c].isPrefixOf (b :: t)) = _
   simp only [List.isPrefixOf, Bool.and_true, List.head?_cons]
   rw [Bool.eq_iff_iff]
   simp
   exact eq_comm
theorem bracesS_no {r : Str} (h : Lib.hasPrefix r [123] = false) : bracesS r = none := by
 rw [prefix_one] at h
 cases r with
 | nil => rfl
 | cons b t =>
   have hb : b ≠ 123 := by simpa using h
   rw [bracesS]
   simp only [hb, if_false]
theorem bracesS_yes {r : Str} (h : Lib.hasPrefix r [123] = true) : bracesS r = if (Lib.cut (r.drop 1) [125]).2.2 then some ((Lib.cut (r.drop 1) [125]).1, (Lib.cut (r.drop 1) [125]).2.1) else none := by
 rw [prefix_one] at h
 cases r with
 | nil => simp at h
 | cons b t =>
   have hb : b = 123 := by simpa using h
   rw [bracesS]
   simp only [hb, if_true, List.drop_succ_cons, List.drop_zero]
theorem cut_len (s sep : Str) : (Lib.cut s sep).1.length ≤ s.length ∧ (Lib.cut s sep).2.1.length ≤ s.length := by
 unfold Lib.cut
 split
 · exact ⟨by rw [List.length_take]; omega, by rw [List.length_drop]; omega⟩
 · exact ⟨Nat.le_refl _, Nat.zero_le _⟩
theorem Rd.c1 {w : World} {g : Nat} {r : ByteArray} {ps : List Pc} (h : Rd w g r ps) : ∃ v, w.cell? ⟨g, 1, none⟩ = some v ∧ ∀ k, v.ownBlock = some k → k < w.heap.size := by
 obtain ⟨v, hh, ho⟩ := h.ex
 exact ⟨v, by rw [cell_of_row _ _ 1 _ _ _ hh]; rfl, fun k hk => (ho.lt k hk).2⟩
theorem Rd.other {w : World} {g : Nat} {r : ByteArray} {ps : List Pc} (h : Rd w g r ps) {v : Value} (hv : w.cell? ⟨g, 1, none⟩ = some v) {B : Nat} (hne : v.ownBlock ≠ some B) (hB : g ≠ B) (i : Nat) (x : Value) : Rd (w.setCell ⟨B, i, none⟩ x) g r ps := by
 obtain ⟨v', hh, ho⟩ := h.ex
 have : v' = v := by
  have := (cell_of_row w g 1 _ _ _ hh).symm.trans hv
  exact Option.some.inj this
 subst this
 have hk : ∀ k, some k ≠ some B → (w.setCell ⟨B, i, none⟩ x).heap[k]? = w.heap[k]? := fun k hk => Below.heap_setCell w ⟨B, i, none⟩ x k (fun e => hk (by rw [e]))
 refine ⟨v', by rw [hk g (by simpa using hB)]; exact hh, ?_⟩
 exact ho.kept (row := some B) ⟨rfl, rfl, rfl, (KeepsWalks.setCell w _ x).size, fun k _ h2 => hk k h2⟩ (.inr hne)
def BrPost (g : Nat) (rest : ByteArray) (ps : List Pc) (w : World) (e : Ending) (w' : World) : Prop :=
 ∃ t rest', e = .returned (.tuple #[.string t, .bool (bracesS (L rest)).isSome]) ∧ (∀ a b, bracesS (L rest) = some (a, b) → t = bs a ∧ rest' = bs b) ∧ t.size ≤ rest.size ∧ rest'.size ≤ rest.size ∧ Rd w' g rest' ps ∧ Below g w w' ∧ w.grownBy w' (some g) ∧ w'.cell? ⟨g, 1, none⟩ = w.cell? ⟨g, 1, none⟩
set_option maxRecDepth 100000 in
set_option maxHeartbeats 1000000 in
theorem braces_any (g : Nat) (rest : ByteArray) (ps : List Pc) (w : World) (h : Rd w g rest ps) (hE : Env w) (hr : rest.size ≤ 1000) :
 Calls Tryz.prog 226 #[.pointer (some ⟨g, 0, none⟩)] w (BrPost g rest ps w) := by
 have HP := HasPrefix_any rest ⟨#[123]⟩ w
 obtain ⟨v, hh, ho⟩ := h.ex
 have c0 : w.cell? ⟨g, 0, none⟩ = some (.string rest) := by rw [cell_of_row _ _ 0 _ _ _ hh]; rfl
 have f0 : w.frozen? ⟨g, 0, none⟩ = false := frozen_of_row _ _ _ _ _ hh
 have HH := Lib.hid h
 have hlt := h.lt
 clear hh ho h
 change Calls _ _ _ _ (fun e w' => e = .returned (.bool (Lib.hasPrefix (L rest) [123])) ∧ w = w') at HP
 cases hp : Lib.hasPrefix (L rest) [123]
 · rw [hp] at HP
   have Hp := Lib.hid (bracesS_no hp)
   clear hp
   go_enter Tryz.func226, Tryz.ntmps226
   go_wp2_with (go_at_call 48; refine HP.mono ?_; rintro e w' ⟨rfl, rfl⟩)
   go_ret2
   exact ⟨⟨#[]⟩, rest, by rw [Hp.out]; rfl, (fun a b e => by rw [Hp.out] at e; cases e), Nat.zero_le _, Nat.le_refl _, HH.out, Below.refl _ _, grown_refl _ _, rfl⟩
 · rw [hp] at HP
   have Hp := Lib.hid (bracesS_yes hp)
   have h1 : (1 : Int) ≤ (rest.size : Int) := by
    have := Lib.hasPrefix_le hp
    rw [len_L] at this
    simp at this
    omega
   have hd : L (rest.extract 1 rest.size) = (L rest).drop 1 := by rw [L_extract, List.take_of_length_le (by rw [len_L]; exact Nat.le_refl _)]
   have HC := Cut_any (rest.extract 1 rest.size) ⟨#[125]⟩ w hE (by rw [size_extract]; omega)
   change Calls _ _ _ _ (fun e w' => e = .returned (.tuple #[.string (bs (Lib.cut (L (rest.extract 1 rest.size)) [125]).1), .string (bs (Lib.cut (L (rest.extract 1 rest.size)) [125]).2.1), .bool (Lib.cut (L (rest.extract 1 rest.size)) [125]).2.2]) ∧ ∃ n, w.drewN n = w') at HC
   rw [hd] at HC
   have hz := cut_len ((L rest).drop 1) [125]
   rw [List.length_drop, len_L] at hz
   obtain ⟨z1, z2⟩ := hz
   generalize Lib.cut ((L rest).drop 1) [125] = cc at *
   obtain ⟨c1, c2, c3⟩ := cc
   have Hz := Lib.hid z1
   have Hz2 := Lib.hid z2
   clear hp hd z1 z2
   go_enter Tryz.func226, Tryz.ntmps226
   go_wp2_with (first | (go_at_call 48; refine HP.mono ?_; rintro e w' ⟨rfl, rfl⟩) | (go_at_call 258; refine HC.mono ?_; rintro e w' ⟨rfl, n, rfl⟩))
   go_ret2
   have e1 : (bs c1).size ≤ rest.size := by rw [size_bs]; have := Hz.out; omega
   have e2 : (bs c2).size ≤ rest.size := by rw [size_bs]; have := Hz2.out; omega
   refine ⟨bs c1, bs c2, ?_, fun a b e => ?_, e1, e2, ?_, ?_, ?_, ?_⟩
   · rw [Hp.out]; cases c3 <;> rfl
   · rw [Hp.out] at e
     cases c3
     · cases e
     · simp at e
       exact ⟨by rw [e.1], by rw [e.2]⟩
   · exact (HH.out.keep (below_drewN (Below.refl _ _) n)).cut _
   · exact (below_drewN (Below.refl _ _) n).setCell (p := ⟨g, 0, none⟩) (Nat.le_refl _) _
   · exact (grown_drewN w n (some g)).trans (grownBy_setCell' _ g _)
   · exact (World.cell?_setCell_other _ _ _ _ (by simp)).trans rfl
end Go.Proofs.YtibflgfhjfcifaaGreatDoor
namespace Go.Proofs.YtibflgfhjfcifaaGreatDoor
open Go.RowKit
theorem dec_lt10 (n : Nat) (h : n < 10) : Lib.decDigits n = [UInt8.ofNat (48 + n)] := by rw [Lib.decDigits, dif_pos h]
theorem dec_lt100 (n : Nat) (h1 : 10 ≤ n) (h : n < 100) : Lib.decDigits n = [UInt8.ofNat (48 + n / 10), UInt8.ofNat (48 + n % 10)] := by
 rw [Lib.decDigits, dif_neg (by omega), dec_lt10 _ (by omega)]; rfl
theorem atoi1 : ∀ n : Fin 10, Lib.atoiAll [UInt8.ofNat (48 + n.val)] = .ok (n.val : Int) := by decide
set_option maxRecDepth 100000 in
theorem atoi2 : ∀ n : Fin 100, Lib.atoiAll [UInt8.ofNat (48 + n.val / 10), UInt8.ofNat (48 + n.val % 10)] = .ok (n.val : Int) := by decide
theorem atoi_dec (n : Nat) (h : n < 100) : Lib.atoiAll (Lib.decDigits n) = .ok (n : Int) := by
 rcases Nat.lt_or_ge n 10 with h1 | h1
 · rw [dec_lt10 n h1]; exact atoi1 ⟨n, h1⟩
 · rw [dec_lt100 n h1 h]; exact atoi2 ⟨n, h⟩
theorem itoa_dec (n : Nat) : Lib.itoa (n : Int) = Lib.decDigits n := by rw [Lib.itoa, if_neg (by omega)]; rfl
theorem dec_inj {m n : Nat} (hm : m < 100) (hn : n < 100) (h : Lib.decDigits m = Lib.decDigits n) : m = n := by
 have h1 := atoi_dec m hm
 rw [h, atoi_dec n hn] at h1
 injection h1 with h1
 omega
theorem countS_ok (t : Str) (v : Int) (h : Lib.atoiAll (Lib.trimSuffix t [43]) = .ok v) :
 countS t = if (Lib.itoa v == Lib.trimSuffix t [43]) && decide (1 ≤ v) && decide (v ≤ 99) then some (v, Lib.hasSuffix t [43]) else none := by
 by_cases hc : (Lib.itoa v == Lib.trimSuffix t [43]) = true ∧ 1 ≤ v ∧ v ≤ 99
 · obtain ⟨h1, h2, h3⟩ := hc
   obtain ⟨n, rfl⟩ := Int.eq_ofNat_of_zero_le (show 0 ≤ v by omega)
   rw [itoa_dec] at h1
   have e := find_first (fun n => decide (1 ≤ n) && Lib.decDigits n == Lib.trimSuffix t [43]) 100 n (by omega) (by simp only [h1]; simp; omega) (fun j hj => by
    by_cases hj1 : Lib.decDigits j == Lib.trimSuffix t [43]
    · have := dec_inj (m := j) (n := n) (by omega) (by omega) (by rw [beq_iff_eq.1 hj1, beq_iff_eq.1 h1])
      omega
    · simp [hj1])
   rw [countS, e]
   rw [itoa_dec, h1]
   simp
   omega
 · have e : (List.range 100).find? (fun n => decide (1 ≤ n) && Lib.decDigits n == Lib.trimSuffix t [43]) = none := by
    rw [List.find?_eq_none]
    intro n hn hp
    have hn' := List.mem_range.1 hn
    simp only [Bool.and_eq_true, decide_eq_true_eq, beq_iff_eq] at hp
    have h1 := atoi_dec n hn'
    rw [hp.2, h] at h1
    injection h1 with h1
    exact hc ⟨by rw [h1, itoa_dec, hp.2]; simp, by omega, by omega⟩
   rw [countS, e]
   rw [if_neg (fun h => hc (by simp only [Bool.and_eq_true, decide_eq_true_eq] at h; exact ⟨h.1.1, h.1.2, h.2⟩))]
theorem countS_bad (t : Str) (h : ∀ v, Lib.atoiAll (Lib.trimSuffix t [43]) ≠ .ok v) : countS t = none := by
 have e : (List.range 100).find? (fun n => decide (1 ≤ n) && Lib.decDigits n == Lib.trimSuffix t [43]) = none := by
  rw [List.find?_eq_none]
  intro n hn hp
  have hn' := List.mem_range.1 hn
  simp only [Bool.and_eq_true, decide_eq_true_eq, beq_iff_eq] at hp
  have h1 := atoi_dec n hn'
  rw [hp.2] at h1
  exact h _ h1
 rw [countS, e]
theorem Itoa_any (n : Int) (h0 : -9223372036854775808 ≤ n) (h1 : n ≤ 9223372036854775807) (w : World) (hE : Env0 w) :
 Calls Tryz.prog 149 #[.int .i64 n] w fun e w' => e = .returned (.string (bs (Lib.itoa n))) ∧ Below w.heap.size w w' :=
 (Tryz.strconv_Itoa n h0 h1 w hE.pow).mono fun e w' ⟨he, k, os, hw⟩ => ⟨he, by rw [hw]; exact Lib.below_grow _ _ (Nat.le_refl _) _ _⟩
theorem Atoi_ok (s : ByteArray) (v : Int) (h : Lib.atoiAll (L s) = .ok v) (hs : s.size ≤ 1000000) (w : World) :
 Calls Tryz.prog 148 #[.string s] w fun e w' => e = .returned (.tuple #[.int .i64 v, .nilIface]) ∧ Below w.heap.size w w' :=
 (Tryz.strconv_Atoi_ok s (by omega) v h w).mono fun e w' ⟨he, hw⟩ => ⟨he, by
  rcases hw with hw | ⟨t, hw⟩
  · rw [hw]; exact Below.refl _ _
  · rw [hw]; exact Joins.below_bytesWorld _ _ _ _ (Nat.le_refl _)⟩
theorem Atoi_bad (s : ByteArray) (h : ∀ v, Lib.atoiAll (L s) ≠ .ok v) (hs : s.size ≤ 1000000) (w : World) (hE : Env w) :
 Calls Tryz.prog 148 #[.string s] w fun e w' => ∃ v T x, e = .returned (.tuple #[.int .i64 v, .iface T x]) ∧ Below w.heap.size w w' := by
 rcases hA : Lib.atoiAll (L s) with v | _ | _
 · exact absurd hA (h v)
 · obtain ⟨tp, p, hv⟩ := hE.syn
   exact (Any.strconv_Atoi_syntax_var Tryz.laysC172 s (by omega) hA tp p w hv).mono fun e w' ⟨N, he, _, _, hb⟩ => ⟨_, _, _, he, hb⟩
 · obtain ⟨tp, p, hv⟩ := hE.rng
   exact (Tryz.strconv_Atoi_range_var s (by omega) hA tp p w hv).mono fun e w' ⟨N, he, _, _, hb⟩ => ⟨_, _, _, he, hb⟩
theorem atoi_rng (l : Str) (v : Int) (h : Lib.atoiAll l = .ok v) : -9223372036854775808 ≤ v ∧ v ≤ 9223372036854775807 := by
 unfold Lib.atoiAll at h
 split at h
 · cases h
 · dsimp only at h
   split at h
   · cases h
   · cases h
   · split at h
     · cases h
     · split at h
       · cases h
       · injection h with h
         subst h
         split <;> omega
def WordPost (t : ByteArray) (w : World) (e : Ending) (w' : World) : Prop :=
 ∃ n m, e = .returned (.tuple #[.int .i64 n, .bool m, .bool (countS (L t)).isSome]) ∧ (∀ a b, countS (L t) = some (a, b) → n = a ∧ m = b) ∧ Below w.heap.size w w'
set_option maxRecDepth 100000 in
set_option maxHeartbeats 1000000 in
theorem word_any (t : ByteArray) (w : World) (hE : Env w) (hr : t.size ≤ 1000) :
 Calls Tryz.prog 227 #[.string t] w (WordPost t w) := by
 have HS : Calls Tryz.prog 80 #[.string t, .string ⟨#[43]⟩] w (fun e w' => e = .returned (.tuple #[.string (bs (Lib.trimSuffix (L t) [43])), .bool (Lib.hasSuffix (L t) [43])]) ∧ w = w') :=
  (Tryz.strings_CutSuffix t ⟨#[43]⟩ w (by omega)).mono fun e w' ⟨h1, h2⟩ => ⟨h1, h2.symm⟩
 have hz : (Lib.trimSuffix (L t) [43]).length ≤ (L t).length := by
  unfold Lib.trimSuffix
  split
  · rw [List.length_take]; omega
  · exact Nat.le_refl _
 rw [len_L] at hz
 have hbad := countS_bad (L t)
 have hok := countS_ok (L t)
 generalize Lib.trimSuffix (L t) [43] = tr at *
 generalize Lib.hasSuffix (L t) [43] = more at *
 have hzz : (bs tr).size ≤ 1000000 := by rw [size_bs]; omega
 have hLt := L_bs tr
 by_cases hA : ∃ v, Lib.atoiAll tr = .ok v
 · obtain ⟨v, hv⟩ := hA
   have hc := hok v hv
   obtain ⟨r1, r2⟩ := atoi_rng tr v hv
   have HA := fun W => Atoi_ok (bs tr) v (by rw [hLt]; exact hv) hzz W
   have HI := fun W (hW : Env W) => Itoa_any v r1 r2 W hW
   have eq : ((bs (Lib.itoa v)).toList == (bs tr).toList) = (Lib.itoa v == tr) := by rw [tl, tl, L_bs, L_bs]
   cases hq : (Lib.itoa v == tr)
   all_goals
    rw [hq] at eq hc
    generalize bs (Lib.itoa v) = it at *
    generalize bs tr = s at *
    have HE := Lib.hid hE
    clear hbad hok hE hv hLt hzz hz hq
    by_cases h1 : 1 ≤ v
    all_goals
     by_cases h99 : v ≤ 99
     all_goals
      first
       | (exfalso; omega)
       | (have hc2 := hc
          simp [h1, h99] at hc2
          have Hc := Lib.hid hc2
          clear hc2 hc
          go_enter Tryz.func227, Tryz.ntmps227
          go_wp2_with (first | (go_at_call 80; refine HS.mono ?_; rintro e w' ⟨rfl, rfl⟩) | (go_at_call 148; refine (HA _).mono ?_; rintro e w1 ⟨rfl, hb1⟩) | (go_at_call 149; refine (HI _ (HE.out.go hb1)).mono ?_; rintro e w2 ⟨rfl, hb2⟩))
          refine bodyPost_ret (by simp [results, Tryz.results227, go_sem]; try rfl) rfl ?_
          refine ⟨v, more, ?_, ?_, ?_⟩
          · rw [Hc.out]; first | rfl | (simp; omega)
          · intro a b e; rw [Hc.out] at e; first | (cases e; done) | (simp at e; exact e)
          · first | exact hb1 | exact bt hb1 hb2)
 · have HA := fun W (hW : Env W) => Atoi_bad (bs tr) (by rw [hLt]; exact fun v hv => hA ⟨v, hv⟩) hzz W hW
   have Hc := Lib.hid (hbad fun v hv => hA ⟨v, hv⟩)
   generalize bs tr = s at *
   have HE := Lib.hid hE
   clear hbad hok hE hLt hzz hz hA
   go_enter Tryz.func227, Tryz.ntmps227
   go_wp2_with (first | (go_at_call 80; refine HS.mono ?_; rintro e w' ⟨rfl, rfl⟩) | (go_at_call 148; refine (HA _ HE.out).mono ?_; rintro e w1 ⟨v, T, x, rfl, hb1⟩))
   refine bodyPost_ret (by simp [results, Tryz.results227, go_sem]; try rfl) rfl ?_
   exact ⟨v, more, by rw [Hc.out]; rfl, (fun a b e => by rw [Hc.out] at e; cases e), hb1⟩
end Go.Proofs.YtibflgfhjfcifaaGreatDoor
namespace Go.Proofs.YtibflgfhjfcifaaGreatDoor
open Go.RowKit
theorem pieceInfo : (Tryz.prog.info? 236).map (fun i => (i.zero, i.size, i.bytes)) = some (some (.agg #[.int .i64 0, .string ⟨#[]⟩, .int .i64 0, .bool false]), 4, 40) := by kernel_rfl
theorem addP_app {l : List Pc} {p : Pc} (h : ¬(p.kind = 1 ∧ (l.getLast?.map (·.kind)) = some 1)) : addP l p = l ++ [p] := by rw [addP, if_neg h]
theorem own_keep {w w' : World} {base k n : Nat} {e : TypeId} {v : Value} {xs : List Value} (h : w.ownsRow base e k v n xs) (hb : Below w.heap.size w w') : w'.ownsRow base e k v n xs :=
 h.kept (row := none) ⟨hb.os, hb.tape, hb.output, hb.size, fun k hk _ => hb.block k hk⟩ (by
  rcases h.2 with ⟨h1, _⟩ | ⟨g', cap, cur, h1, _⟩
  · left; rw [h1]; rfl
  · right; rw [h1]; simp [Value.ownBlock])
theorem encPc_one (p : Pc) : ∀ u ∈ encPc p, u.oneCell' = true := by
 intro u hu
 simp only [encPc, List.mem_cons, List.not_mem_nil, or_false] at hu
 rcases hu with h | h | h | h <;> subst h <;> rfl
theorem own_ne {w : World} {g k n : Nat} {e : TypeId} {v : Value} {xs : List Value} (h : w.ownsRow (g + 1) e k v n xs) : v.ownBlock ≠ some g := fun he => by
 have := (h.lt g he).1
 omega
theorem cell_grown1 {w W w2 : World} {g i : Nat} {u : Value} {row : Option Nat} (c1 : w.cell? ⟨g, i, none⟩ = some u) (f1 : w.frozen? ⟨g, i, none⟩ = false) (hne : row ≠ some g) (hb : Below w.heap.size w W) (hg : W.grownBy w2 row) :
 w2.cell? ⟨g, i, none⟩ = some u ∧ w2.frozen? ⟨g, i, none⟩ = false := by
 have hlt := block_lt_of_cell c1
 have hlt2 : (⟨g, i, none⟩ : Addr).block < W.heap.size := Nat.lt_of_lt_of_le hlt hb.size
 exact ⟨(hg.cell_far _ hlt2 (Ne.symm hne)).trans ((hb.cell (p := ⟨g, i, none⟩) hlt).trans c1), (hg.frozen_far _ hlt2 (Ne.symm hne)).trans ((hb.frozen (p := ⟨g, i, none⟩) hlt).trans f1)⟩
theorem Rd.appended {w W w2 : World} {g g2 cap : Nat} {rest : ByteArray} {ps : List Pc} {p : Pc} {A : Option Addr} {c : Nat} (hh : w.heap[g]? = some (.cells #[.string rest, .slice A ps.length c] 233 (0, 0)))
 (ho : w.ownsRow (g + 1) 236 4 (.slice A ps.length c) ps.length (cellsOf encPc ps)) (hb : Below w.heap.size w W) (hg : W.grownBy w2 (Value.slice A ps.length c).ownBlock)
 (h2 : w2.ownsRow (g + 1) 236 4 (.slice (some ⟨g2, 0, none⟩) (ps.length + 1) cap) (ps.length + 1) (cellsOf encPc ps ++ encPc p)) :
 Rd (w2.setCell ⟨g, 1, none⟩ (.slice (some ⟨g2, 0, none⟩) (ps.length + 1) cap)) g rest (ps ++ [p]) ∧ Below g w (w2.setCell ⟨g, 1, none⟩ (.slice (some ⟨g2, 0, none⟩) (ps.length + 1) cap)) := by
 have hlt := blk_lt hh
 have hh2 : w2.heap[g]? = some (.cells #[.string rest, .slice A ps.length c] 233 (0, 0)) := by
  rw [hg.block g (Nat.lt_of_lt_of_le hlt hb.size) (Ne.symm (own_ne ho)), hb.block g hlt]; exact hh
 refine ⟨⟨.slice (some ⟨g2, 0, none⟩) (ps.length + 1) cap, by rw [heap_setCell_same _ _ _ _ _ _ hh2]; rfl, ?_⟩, ?_⟩
 · have e : cellsOf encPc (ps ++ [p]) = cellsOf encPc ps ++ encPc p := by simp [cellsOf]
   rw [List.length_append, List.length_singleton, e]
   exact ownsRow_setCell_below h2 (by simp) _
 · have h3 : Below g w w2 := (hb.mono (Nat.le_of_lt hlt)).grown hg (Nat.le_trans (Nat.le_of_lt hlt) hb.size) (fun k hk => by have := (ho.lt k hk).1; omega)
   exact h3.setCell (p := ⟨g, 1, none⟩) (Nat.le_refl _) _
def AddPost (g : Nat) (rest : ByteArray) (ps : List Pc) (p : Pc) (w : World) (e : Ending) (w' : World) : Prop :=
 e = .returned (.tuple #[]) ∧ Rd w' g rest (addP ps p) ∧ Below g w w'
set_option maxRecDepth 100000 in
set_option maxHeartbeats 2000000 in
theorem add_app (g : Nat) (rest : ByteArray) (ps : List Pc) (p : Pc) (w : World) (h : Rd w g rest ps) (hn : ps.length ≤ 10000) (hk : p.kind ≠ 1) :
 Calls Tryz.prog 200 #[.pointer (some ⟨g, 0, none⟩), .agg #[.int .i64 p.kind, .string p.text, .int .i64 p.word, .bool p.more]] w (AddPost g rest ps p w) := by
 obtain ⟨v, hh, hown⟩ := h.ex
 have c1 : w.cell? ⟨g, 1, none⟩ = some v := by rw [cell_of_row _ _ 1 _ _ _ hh]; rfl
 have f1 : w.frozen? ⟨g, 1, none⟩ = false := frozen_of_row _ _ _ _ _ hh
 have hk1 : (p.kind == 1) = false := by simpa using hk
 obtain ⟨i0, hi0, hz0, hz1, hz2⟩ := info_parts pieceInfo
 obtain ⟨A, c, rfl⟩ : ∃ A c, v = .slice A ps.length c := by
  rcases hown.2 with ⟨h1, h2⟩ | ⟨g', cap, cur, h1, _⟩
  · exact ⟨_, _, by rw [h2]; exact h1⟩
  · exact ⟨_, _, h1⟩
 have HH := Lib.hid h
 have hlt := h.lt
 have Hh := Lib.hid hh
 have Ho := Lib.hid hown
 clear h hh hown
 have Hk := Lib.hid hk
 clear hk
 go_enter Tryz.func200, Tryz.ntmps200
 go_wp2
 go_region_law (first | (refine step_append_lies _ (by rfl) _ _ _ (by rfl) (g + 1) 236 i0 _ 4 40 Tryz.underlying211 hi0 hz0 hz1 hz2 rfl (by omega) (.slice A ps.length c) ps.length (cellsOf encPc ps) (by rfl) (own_keep Ho.out (by go_grown)) _ 1 1 (encPc p) (by rfl) (by rfl) (by exact World.news_of_block (B := w.heap.size + 1) (heap_alloc2_new w _ _)) (encPc_one p) (by omega) (by unfold maxLen; omega) (by omega) (by simp; omega) _ rfl ?_; intro g2 cap w2 hown2 hgrow2 hat2 hlt2; have c2 := cell_grown1 c1 f1 (own_ne Ho.out) (by go_grown) hgrow2; obtain ⟨c2a, c2b⟩ := c2))
 all_goals
  go_end0
  have hR := Rd.appended (p := p) Hh.out Ho.out (by go_grown) hgrow2 hown2
  exact ⟨rfl, by rw [addP_app (fun h => Hk.out h.1)]; exact hR.1, hR.2⟩
set_option maxRecDepth 100000 in
set_option maxHeartbeats 2000000 in
theorem add_new (g : Nat) (rest : ByteArray) (ps : List Pc) (t : ByteArray) (w : World) (h : Rd w g rest ps) (hn : ps.length ≤ 10000) (hk : (ps.getLast?.map (·.kind)) ≠ some 1) :
 Calls Tryz.prog 200 #[.pointer (some ⟨g, 0, none⟩), .agg #[.int .i64 1, .string t, .int .i64 0, .bool false]] w (AddPost g rest ps (txt t) w) := by
 obtain ⟨v, hh, hown⟩ := h.ex
 have c1 : w.cell? ⟨g, 1, none⟩ = some v := by rw [cell_of_row _ _ 1 _ _ _ hh]; rfl
 have f1 : w.frozen? ⟨g, 1, none⟩ = false := frozen_of_row _ _ _ _ _ hh
 obtain ⟨i0, hi0, hz0, hz1, hz2⟩ := info_parts pieceInfo
 have HH := Lib.hid h
 have hlt := h.lt
 have Hh := Lib.hid hh
 have Ho := Lib.hid hown
 have Hk := Lib.hid hk
 clear h hh hown hk
 obtain ⟨A, c, rfl⟩ : ∃ A c, v = .slice A ps.length c := by
  rcases Ho.out.2 with ⟨h1, h2⟩ | ⟨g', cap, cur, h1, _⟩
  · exact ⟨_, _, by rw [h2]; exact h1⟩
  · exact ⟨_, _, h1⟩
 rcases List.eq_nil_or_concat ps with h0 | ⟨m, q, h0⟩
 · subst h0
   simp only [List.length_nil] at c1 hn
   go_enter Tryz.func200, Tryz.ntmps200
   go_wp2
   go_region_law (first | (refine step_append_lies _ (by rfl) _ _ _ (by rfl) (g + 1) 236 i0 _ 4 40 Tryz.underlying211 hi0 hz0 hz1 hz2 rfl (by omega) (.slice A 0 c) 0 (cellsOf encPc []) (by rfl) (own_keep Ho.out (by go_grown)) _ 1 1 (encPc (txt t)) (by rfl) (by rfl) (by exact World.news_of_block (B := w.heap.size + 1) (heap_alloc2_new w _ _)) (encPc_one _) (by omega) (by unfold maxLen; omega) (by omega) (by simp; omega) _ rfl ?_; intro g2 cap w2 hown2 hgrow2 hat2 hlt2; have c2 := cell_grown1 c1 f1 (own_ne Ho.out) (by go_grown) hgrow2; obtain ⟨c2a, c2b⟩ := c2))
   all_goals
    go_end0
    have hR := Rd.appended (p := txt t) Hh.out Ho.out (by go_grown) hgrow2 hown2
    exact ⟨rfl, by rw [addP_app (fun h => Hk.out h.2)]; exact hR.1, hR.2⟩
 · rw [List.concat_eq_append] at h0
   subst h0
   have hq : q.kind ≠ 1 := fun e => Hk.out (by simp [e])
   have hq1 : (q.kind == 1) = false := by simpa using hq
   obtain ⟨b, cap, hA, hbg, hb⟩ := Ho.out.form (by simp)
   obtain ⟨rfl, rfl⟩ : A = some ⟨b, 0, none⟩ ∧ c = cap := by injection hA with h1 h2 h3; exact ⟨h1, h3⟩
   have cq : w.cell? ⟨b, m.length * 4, none⟩ = some (.int .i64 q.kind) := by
    rw [Ho.out.cellAt (m.length * 4) (by simp), cellsOf_append, List.getElem?_append_right (by rw [cellsOf_len encPc 4 encPc_len]; omega), cellsOf_len encPc 4 encPc_len, Nat.sub_self]
    rfl
   simp only [List.length_append, List.length_singleton] at c1 hn
   have Hoo : Hid (w.ownsRow (g + 1) 236 4 (.slice (some ⟨b, 0, none⟩) (m.length + 1) c) (m.length + 1) (cellsOf encPc (m ++ [q]))) := by
    have := Ho.out
    simp only [List.length_append, List.length_singleton] at this
    exact this
   clear hq hA hbg
   go_enter Tryz.func200, Tryz.ntmps200
   go_wp2
   go_region_law (first | (refine step_append_lies _ (by rfl) _ _ _ (by rfl) (g + 1) 236 i0 _ 4 40 Tryz.underlying211 hi0 hz0 hz1 hz2 rfl (by omega) (.slice (some ⟨b, 0, none⟩) (m.length + 1) c) (m.length + 1) (cellsOf encPc (m ++ [q])) (by rfl) (own_keep Hoo.out (by go_grown)) _ 1 1 (encPc (txt t)) (by rfl) (by rfl) (by exact World.news_of_block (B := w.heap.size + 1) (heap_alloc2_new w _ _)) (encPc_one _) (by omega) (by unfold maxLen; omega) (by omega) (by simp; omega) _ rfl ?_; intro g2 cap w2 hown2 hgrow2 hat2 hlt2; have c2 := cell_grown1 c1 f1 (own_ne Hoo.out) (by go_grown) hgrow2; obtain ⟨c2a, c2b⟩ := c2))
   all_goals
    go_end0
    have hh1 := Hh.out
    have ho1 := Hoo.out
    have e1 : m.length + 1 = (m ++ [q]).length := by simp
    rw [e1] at ho1 hown2
    have hR := Rd.appended (p := txt t) hh1 ho1 (by go_grown) hgrow2 hown2
    rw [← e1] at hR
    exact ⟨rfl, by rw [addP_app (fun h => Hk.out h.2)]; exact hR.1, hR.2⟩
theorem Rd.drew {w : World} {g : Nat} {r : ByteArray} {ps : List Pc} (h : Rd w g r ps) : Rd w.drew g r ps := ⟨h.ex⟩
theorem cells_setLast (m : List Pc) (q : Pc) (u : ByteArray) : (cellsOf encPc (m ++ [q])).set (m.length * 4 + 1) (.string u) = cellsOf encPc (m ++ [{ q with text := u }]) := by
 have hl := cellsOf_len encPc 4 encPc_len m
 rw [cellsOf_append, cellsOf_append, List.set_append_right _ _ (by rw [hl]; omega), hl, Nat.add_sub_cancel_left]
 rfl
theorem Rd.joined {w W : World} {g b c : Nat} {rest t : ByteArray} {m : List Pc} {q : Pc} (hh : w.heap[g]? = some (.cells #[.string rest, .slice (some ⟨b, 0, none⟩) (m ++ [q]).length c] 233 (0, 0)))
 (ho : w.ownsRow (g + 1) 236 4 (.slice (some ⟨b, 0, none⟩) (m ++ [q]).length c) (m ++ [q]).length (cellsOf encPc (m ++ [q]))) (hbg : g + 1 ≤ b) (hb : Below w.heap.size w W) :
 Rd (W.setCell ⟨b, m.length * 4 + 1, none⟩ (.string (q.text ++ t))) g rest (m ++ [{ q with text := q.text ++ t }]) ∧ Below g w (W.setCell ⟨b, m.length * 4 + 1, none⟩ (.string (q.text ++ t))) := by
 have hlt := blk_lt hh
 refine ⟨⟨.slice (some ⟨b, 0, none⟩) (m ++ [q]).length c, ?_, ?_⟩, ?_⟩
 · rw [heap_setCell_other _ _ _ _ (by simp; omega), hb.block g hlt]; exact hh
 · have h1 := ((own_keep ho hb).stored (m.length * 4 + 1) (.string (q.text ++ t))).1
   rw [cells_setLast] at h1
   have e : (m ++ [{ q with text := q.text ++ t }]).length = (m ++ [q]).length := by simp
   rw [e]
   exact h1
 · exact (hb.mono (Nat.le_of_lt hlt)).setCell (p := ⟨b, m.length * 4 + 1, none⟩) (by simp; omega) _
set_option maxRecDepth 100000 in
set_option maxHeartbeats 2000000 in
theorem add_join (g : Nat) (rest : ByteArray) (m : List Pc) (q : Pc) (t : ByteArray) (w : World) (h : Rd w g rest (m ++ [q])) (hn : m.length ≤ 10000) (hk : q.kind = 1) (hq : q.text.size ≤ 1000000) (ht : t.size ≤ 1000000) :
 Calls Tryz.prog 200 #[.pointer (some ⟨g, 0, none⟩), .agg #[.int .i64 1, .string t, .int .i64 0, .bool false]] w (AddPost g rest (m ++ [q]) (txt t) w) := by
 obtain ⟨v, hh, hown⟩ := h.ex
 have hlt := h.lt
 obtain ⟨b, c, hA, hbg, hb⟩ := hown.form (by simp)
 subst hA
 have c1 : w.cell? ⟨g, 1, none⟩ = some (.slice (some ⟨b, 0, none⟩) (m.length + 1) c) := by rw [cell_of_row _ _ 1 _ _ _ hh]; simp
 have cq : w.cell? ⟨b, m.length * 4, none⟩ = some (.int .i64 1) := by
  rw [hown.cellAt (m.length * 4) (by simp), cellsOf_append, List.getElem?_append_right (by rw [cellsOf_len encPc 4 encPc_len]; omega), cellsOf_len encPc 4 encPc_len, Nat.sub_self, ← hk]
  rfl
 have ct : w.cell? ⟨b, m.length * 4 + 1, none⟩ = some (.string q.text) := by
  rw [hown.cellAt (m.length * 4 + 1) (by simp; omega), cellsOf_append, List.getElem?_append_right (by rw [cellsOf_len encPc 4 encPc_len]; omega), cellsOf_len encPc 4 encPc_len, Nat.add_sub_cancel_left]
  rfl
 have ft : w.frozen? ⟨b, m.length * 4 + 1, none⟩ = false := hown.frozenAt _
 have Hh := Lib.hid hh
 have Ho := Lib.hid hown
 have Hk := Lib.hid hk
 have Hbg := Lib.hid hbg
 clear hh hown hk h hbg
 go_enter Tryz.func200, Tryz.ntmps200
 go_wp2
 go_region
 all_goals go_wp2
 all_goals
  refine bodyPost_ret (results_none rfl _ _ _) rfl ?_
  have hR := Rd.joined (t := t) Hh.out Ho.out Hbg.out (W := w) (Below.refl _ _)
  have hB := hR.1.lt
  refine ⟨rfl, ?_, (hR.2.alloc (Nat.le_of_lt hB) _).drew⟩
  rw [addP, if_pos ⟨rfl, by simp [Hk.out]⟩, setLast_snoc]
  exact hR.1.keep (((Below.refl _ _).alloc (Nat.le_refl _) _).drew)
theorem add_any (g : Nat) (rest : ByteArray) (ps : List Pc) (p : Pc) (w : World) (h : Rd w g rest ps) (hn : ps.length ≤ 10000) (hq : ∀ q ∈ ps, q.text.size ≤ 1000000) (ht : p.text.size ≤ 1000000) (hp : p.kind = 1 → p = txt p.text) :
 Calls Tryz.prog 200 #[.pointer (some ⟨g, 0, none⟩), .agg #[.int .i64 p.kind, .string p.text, .int .i64 p.word, .bool p.more]] w (AddPost g rest ps p w) := by
 by_cases hk : p.kind = 1
 · rw [hp hk] at ht ⊢
   by_cases hl : (ps.getLast?.map (·.kind)) = some 1
   · rcases List.eq_nil_or_concat ps with h0 | ⟨m, q, h0⟩
     · subst h0; simp at hl
     · rw [List.concat_eq_append] at h0
       subst h0
       have hqk : q.kind = 1 := by simpa using hl
       exact add_join g rest m q p.text w h (by simp at hn; omega) hqk (hq q (by simp)) ht
   · exact add_new g rest ps p.text w h hn hl
 · exact add_app g rest ps p w h hn hk
end Go.Proofs.YtibflgfhjfcifaaGreatDoor
namespace Go.Proofs.YtibflgfhjfcifaaGreatDoor
open Go.RowKit
def PiecePost (g : Nat) (ps : List Pc) (c : UInt8) (r : Str) (w : World) (e : Ending) (w' : World) : Prop :=
 e = .returned (.bool (pieceS c r).isSome) ∧ (∀ p r', pieceS c r = some (p, r') → ∃ rest', L rest' = r' ∧ Rd w' g rest' (addP ps p)) ∧ Below g w w'
theorem Rd.c0 {w : World} {g : Nat} {r : ByteArray} {ps : List Pc} (h : Rd w g r ps) : w.cell? ⟨g, 0, none⟩ = some (.string r) ∧ w.frozen? ⟨g, 0, none⟩ = false := by
 obtain ⟨v, hh, _⟩ := h.ex
 exact ⟨by rw [cell_of_row _ _ 0 _ _ _ hh]; rfl, frozen_of_row _ _ _ _ _ hh⟩
theorem L_cons {s : ByteArray} {c : UInt8} {r : Str} (h : L s = c :: r) : s.extract 0 1 = bs [c] ∧ s.extract 1 s.size = bs r ∧ 1 ≤ s.size := by
 have hz : s.size = r.length + 1 := by rw [← len_L, h]; rfl
 refine ⟨eq_bs ?_, eq_bs ?_, by omega⟩
 · rw [L_extract, h]; rfl
 · rw [L_extract, h, hz]; simp
theorem bs_ne {c : UInt8} : (bs [c]).toList = [c] := by rw [tl, L_bs]
set_option maxRecDepth 100000 in
set_option maxHeartbeats 2000000 in
theorem piece_twice (g : Nat) (rest : ByteArray) (ps : List Pc) (c : UInt8) (r : Str) (w : World) (h : Rd w g rest ps) (hL : L rest = c :: r) (hc : r.head? = some c) (hr : rest.size ≤ 1000) (hn : ps.length ≤ 10000) (hq : ∀ q ∈ ps, q.text.size ≤ 1000000) :
 Calls Tryz.prog 201 #[.pointer (some ⟨g, 0, none⟩)] w (PiecePost g ps c r w) := by
 obtain ⟨c0, f0⟩ := h.c0
 obtain ⟨e1, e2, h1⟩ := L_cons hL
 obtain ⟨r2, rfl⟩ : ∃ r2, r = c :: r2 := by
  cases r with
  | nil => simp at hc
  | cons a b => exact ⟨b, by simp at hc; rw [hc]⟩
 have HP : ∀ W, Calls Tryz.prog 48 #[.string (bs (c :: r2)), .string (bs [c])] W fun e w' => e = .returned (.bool true) ∧ W = w' := fun W => (HasPrefix_any (bs (c :: r2)) (bs [c]) W).mono fun e w' h => ⟨by rw [h.1, L_bs, L_bs, prefix_one]; simp, h.2⟩
 have e3 : (bs (c :: r2)).extract 1 (bs (c :: r2)).size = bs r2 := (L_cons (L_bs (c :: r2))).2.1
 have h3 : 1 ≤ (bs (c :: r2)).size := (L_cons (L_bs (c :: r2))).2.2
 have hp : pieceS c (c :: r2) = some (txt (bs [c]), r2) := by rw [pieceS, if_pos (by simp)]; rfl
 have Hp := Lib.hid hp
 have HH := Lib.hid h
 have hlt := h.lt
 have Hq := Lib.hid hq
 have ht : (bs [c]).size ≤ 1000000 := by rw [size_bs]; simp
 generalize bs (c :: r2) = s1 at *
 generalize bs [c] = sg at *
 have HL := Lib.hid hL
 clear hL hp hq h
 go_enter Tryz.func201, Tryz.ntmps201
 go_wp2_with (first | (go_at_call 48; refine (HP _).mono ?_; rintro e w' ⟨rfl, rfl⟩))
 refine (add_any g (bs r2) ps (txt sg) _ ((HH.out.cut s1).cut (bs r2)) hn Hq.out ht (fun _ => rfl)).mono ?_
 rintro e w' ⟨rfl, hR, hB⟩
 go_wp2
 go_ret
 refine ⟨by rw [Hp.out]; rfl, fun p r' e => ?_, ?_⟩
 · rw [Hp.out] at e
   injection e with e
   injection e with e4 e5
   subst e4 e5
   exact ⟨bs r2, L_bs r2, hR⟩
 · exact ((((Below.refl g w).setCell (p := ⟨g, 0, none⟩) (Nat.le_refl _) _).setCell (p := ⟨g, 0, none⟩) (Nat.le_refl _) _)).trans hB
def kOf (c : UInt8) (r : Str) : Nat := kindOf (c == 36) (r.take (wordLen (c == 36) r))
def rOf (c : UInt8) (r : Str) : Str := r.drop (wordLen (c == 36) r)
theorem pieceS_kind {c : UInt8} {r : Str} (hc : r.head? ≠ some c) : pieceS c r = placeS (kOf c r) (rOf c r) := by rw [pieceS, if_neg hc]; rfl
set_option maxRecDepth 100000 in
set_option maxHeartbeats 2000000 in
theorem piece_none (g : Nat) (rest : ByteArray) (ps : List Pc) (c : UInt8) (r : Str) (w : World) (h : Rd w g rest ps) (hL : L rest = c :: r) (hc : r.head? ≠ some c) (hr : rest.size ≤ 1000) (hk : kOf c r = 0) :
 Calls Tryz.prog 201 #[.pointer (some ⟨g, 0, none⟩)] w (PiecePost g ps c r w) := by
 obtain ⟨c0, f0⟩ := h.c0
 obtain ⟨e1, e2, h1⟩ := L_cons hL
 have HP : ∀ W, Calls Tryz.prog 48 #[.string (bs r), .string (bs [c])] W fun e w' => e = .returned (.bool false) ∧ W = w' := fun W => (HasPrefix_any (bs r) (bs [c]) W).mono fun e w' h => ⟨by rw [h.1, L_bs, L_bs, prefix_one]; simp [hc], h.2⟩
 have hs : (bs r).size ≤ 1000 := by rw [size_bs]; have := len_L rest; rw [hL] at this; simp at this; omega
 have HK : Calls Tryz.prog 224 #[.pointer (some ⟨g, 0, none⟩), .bool (c == 36)] (w.setCell ⟨g, 0, none⟩ (.string (bs r))) fun e w' => e = .returned (.int .i64 0) ∧ Rd w' g (bs (rOf c r)) ps ∧ Below g (w.setCell ⟨g, 0, none⟩ (.string (bs r))) w' := by
  have := kind_any (c == 36) g (bs r) ps _ (h.cut (bs r)) hs
  rw [L_bs] at this
  change Calls _ _ _ _ (fun e w' => e = .returned (.int .i64 (kOf c r)) ∧ Rd w' g (bs (rOf c r)) ps ∧ Below g _ w') at this
  rw [hk] at this
  exact this
 have hp : pieceS c r = none := by rw [pieceS_kind hc, hk]; rfl
 have Hp := Lib.hid hp
 have hsg : ((bs [c]).toList == [36]) = (c == 36) := by rw [bs_ne]; simp
 generalize (c == 36) = lg at *
 generalize bs [c] = sg at *
 generalize bs r = s1 at *
 have HL := Lib.hid hL
 clear hL hp h hc hk
 go_enter Tryz.func201, Tryz.ntmps201
 go_wp2_with (first | (go_at_call 48; refine (HP _).mono ?_; rintro e w' ⟨rfl, rfl⟩) | (go_at_call 224; refine HK.mono ?_; rintro e w2 ⟨rfl, hR2, hB2⟩))
 go_ret
 exact ⟨by rw [Hp.out]; rfl, (fun p r' e => by rw [Hp.out] at e; cases e), (((Below.refl g w).setCell (p := ⟨g, 0, none⟩) (Nat.le_refl _) _).trans hB2).alloc (Nat.le_of_lt hR2.lt) _⟩
theorem field_bra (a b x y : Value) (w : World) : (Instr.field 267 (.agg #[a, b, x, y]) 2).run Tryz.prog w = .ok x w := by kernel_rfl
theorem neq_nil (w : World) : (binOp .neq 112 .nilFunc .nilFunc).run Tryz.prog w = .ok (.bool false) w := by kernel_rfl
theorem neq_func (n : Nat) (w : World) : (binOp .neq 112 (.func (.func n) #[] #[]) .nilFunc).run Tryz.prog w = .ok (.bool true) w := by kernel_rfl
theorem braV_nil {k : Nat} (h7 : k ≠ 7) (h8 : k ≠ 8) : braV k = .nilFunc := by
 unfold braV
 split
 · exact absurd rfl h7
 · exact absurd rfl h8
 · rfl
set_option maxRecDepth 100000 in
set_option maxHeartbeats 4000000 in
theorem piece_plain (g : Nat) (rest : ByteArray) (ps : List Pc) (c : UInt8) (r : Str) (w : World) (h : Rd w g rest ps) (hE : Env w) (hg : nG ≤ g) (hL : L rest = c :: r) (hc : r.head? ≠ some c) (hr : rest.size ≤ 1000) (hn : ps.length ≤ 10000) (hq : ∀ q ∈ ps, q.text.size ≤ 1000000)
 (h0 : kOf c r ≠ 0) (h7 : kOf c r ≠ 7) (h8 : kOf c r ≠ 8) (h9 : ¬(kOf c r = 9 ∧ (rOf c r).head? = some 123)) (h1k : kOf c r ≠ 1) :
 Calls Tryz.prog 201 #[.pointer (some ⟨g, 0, none⟩)] w (PiecePost g ps c r w) := by
 obtain ⟨c0, f0⟩ := h.c0
 obtain ⟨e1, e2, h1⟩ := L_cons hL
 have HP : ∀ W, Calls Tryz.prog 48 #[.string (bs r), .string (bs [c])] W fun e w' => e = .returned (.bool false) ∧ W = w' := fun W => (HasPrefix_any (bs r) (bs [c]) W).mono fun e w' h => ⟨by rw [h.1, L_bs, L_bs, prefix_one]; simp [hc], h.2⟩
 have hs : (bs r).size ≤ 1000 := by rw [size_bs]; have := len_L rest; rw [hL] at this; simp at this; omega
 have HK : Calls Tryz.prog 224 #[.pointer (some ⟨g, 0, none⟩), .bool (c == 36)] (w.setCell ⟨g, 0, none⟩ (.string (bs r))) fun e w' => e = .returned (.int .i64 (kOf c r)) ∧ Rd w' g (bs (rOf c r)) ps ∧ Below g (w.setCell ⟨g, 0, none⟩ (.string (bs r))) w' := by
  have := kind_any (c == 36) g (bs r) ps _ (h.cut (bs r)) hs
  rw [L_bs] at this
  exact this
 have hp := pieceS_kind hc
 have hk12 : kOf c r < 12 := kindOf_lt _ _
 have hrl : (bs (rOf c r)).size ≤ 1000 := by rw [size_bs, rOf, List.length_drop]; rw [size_bs] at hs; omega
 have hsg : ((bs [c]).toList == [36]) = (c == 36) := by rw [bs_ne]; simp
 generalize (c == 36) = lg at *
 generalize bs [c] = sg at *
 generalize bs r = s1 at *
 generalize kOf c r = k at *
 generalize rOf c r = rr at *
 have Hp := Lib.hid hp
 have HL := Lib.hid hL
 have hE2 : ∀ w2, Below g (w.setCell ⟨g, 0, none⟩ (.string s1)) w2 → Env w2 := fun w2 hb => (hE.keep ((Below.refl g w).setCell (p := ⟨g, 0, none⟩) (Nat.le_refl _) _) hg).keep hb hg
 have HE := Lib.hid hE2
 clear hL hp h hc hE hE2
 have hv := braV_nil h7 h8
 have hrow := forms_row k hk12
 rw [hv] at hrow
 have hfield := field_bra
 have hneq := neq_nil
 have hps : pieceS c r = some (⟨k, bs [], 0, false⟩, rr) := by
  rw [Hp.out, placeS, if_neg h0, if_neg h7, if_neg h8, if_neg h9]
 have HPS := Lib.hid hps
 have k0 : ((k : Int) == 0) = false := by simp; omega
 have HQ := Lib.hid hq
 have H9 := Lib.hid h9
 have HP9 : ∀ W, Calls Tryz.prog 48 #[.string (bs rr), .string ⟨#[123]⟩] W fun e w' => e = .returned (.bool (rr.head? == some 123)) ∧ W = w' := fun W => (HasPrefix_any (bs rr) ⟨#[123]⟩ W).mono fun e w' h => ⟨by rw [h.1, L_bs]; exact congrArg (fun b => Ending.returned (.bool b)) (prefix_one rr 123), h.2⟩
 have HA := fun (k : Int) (hk1 : k ≠ 1) W (hR : Rd W g (bs rr) ps) => add_any g (bs rr) ps ⟨k, ⟨#[]⟩, 0, false⟩ W hR hn HQ.out (Nat.zero_le _) (fun e => absurd e hk1)
 clear hps hq h7 h8 h0 hv hr hs
 by_cases hk9 : k = 9
 · subst hk9
   have HA := HA 9 (by decide)
   dsimp only at HA
   rw [beq_eq_false_iff_ne.2 (show rr.head? ≠ some 123 from fun h => H9.out ⟨rfl, h⟩)] at HP9
   simp only [Int.cast_ofNat_Int] at HK hrow
   clear h9 h1k hk12 k0
   go_enter Tryz.func201, Tryz.ntmps201
   go_wp2_with (first | (go_at_call 48; refine (HP _).mono ?_; rintro e w' ⟨rfl, rfl⟩) | (go_at_call 224; refine HK.mono ?_; rintro e w2 ⟨rfl, hR2, hB2⟩))
   obtain ⟨W3, hW3⟩ : ∃ W3, w2.alloc (.cells #[.int .i64 9, .string ⟨#[]⟩, .int .i64 0, .bool false] 236) = W3 := ⟨_, rfl⟩
   rw [hW3]
   have hblk : W3.heap[w2.heap.size]? = some (.cells #[.int .i64 9, .string ⟨#[]⟩, .int .i64 0, .bool false] 236 (0, 0)) := by rw [← hW3]; exact heap_alloc_new _ _
   have hR3 : Rd W3 g (bs rr) ps := hR2.keep (by rw [← hW3]; exact (Below.refl _ _).alloc (Nat.le_refl _) _)
   have hB3 : Below g w W3 := (((Below.refl g w).setCell (p := ⟨g, 0, none⟩) (Nat.le_refl _) _).trans hB2).trans (by rw [← hW3]; exact (Below.refl _ _).alloc (Nat.le_of_lt hR2.lt) _)
   have hE3 : Env W3 := (HE.out w2 hB2).go (by rw [← hW3]; exact (Below.refl _ _).alloc (Nat.le_refl _) _)
   generalize w2.heap.size = PB at *
   have hPB : PB < W3.heap.size := blk_lt hblk
   have HBlk := Lib.hid hblk
   have HR3 := Lib.hid hR3
   have HB3 := Lib.hid hB3
   have HE3 := Lib.hid hE3
   have q0 : W3.cell? ⟨PB, 0, none⟩ = some (.int .i64 9) := by rw [cell_of_row _ _ 0 _ _ _ hblk]; rfl
   clear hblk hR3 hB3 hE3 hR2 hB2 hW3 HK
   go_region_held3 (fun w' => w'.cell? ⟨PB, 0, none⟩ = some (.int .i64 9) ∧ Below W3.heap.size W3 w') (first | exact ⟨q0, (Below.refl _ _).drew⟩ | exact ⟨(hb0.cell (p := ⟨PB, 0, none⟩) (by simpa using hPB)).trans q0, ((Below.refl _ _).drew).trans hb0⟩) (first | (go_at_call 225; refine (forms_any _).mono ?_; rintro e w0 ⟨rfl, hb0⟩))
   have hW : Below W3.heap.size W3 w0 := ((Below.refl _ _).drew).trans hb0
   have hblk : w0.heap[PB]? = some (.cells #[.int .i64 9, .string ⟨#[]⟩, .int .i64 0, .bool false] 236 (0, 0)) := by rw [hW.block PB hPB]; exact HBlk.out
   have hR0 := HR3.out.keep hW
   have hlt0 := hR0.lt
   have HB0 := Lib.hid (HB3.out.trans (hW.mono (Nat.le_of_lt HR3.out.lt)))
   have HE0 := Lib.hid (HE3.out.go hW)
   have HR0 := Lib.hid hR0
   have q0' : w0.cell? ⟨PB, 0, none⟩ = some (.int .i64 9) := by rw [cell_of_row _ _ 0 _ _ _ hblk]; rfl
   have q1 : w0.cell? ⟨PB, 1, none⟩ = some (.string ⟨#[]⟩) := by rw [cell_of_row _ _ 1 _ _ _ hblk]; rfl
   have q2 : w0.cell? ⟨PB, 2, none⟩ = some (.int .i64 0) := by rw [cell_of_row _ _ 2 _ _ _ hblk]; rfl
   have q3 : w0.cell? ⟨PB, 3, none⟩ = some (.bool false) := by rw [cell_of_row _ _ 3 _ _ _ hblk]; rfl
   obtain ⟨c0', f0'⟩ := hR0.c0
   have hPB0 : PB < w0.heap.size := blk_lt hblk
   have HBlk0 := Lib.hid hblk
   clear hb0 hW q0 HBlk HR3 HB3 HE3 hR0 hPB hblk
   go_wp2_with (first | (go_at_call 48; refine (HP9 _).mono ?_; rintro e w' ⟨rfl, rfl⟩))
   with_reducible refine (HA _ HR0.out).mono ?_
   rintro e w5 ⟨rfl, hR5, hB5⟩
   go_wp2
   go_ret
   refine ⟨by rw [HPS.out]; rfl, fun p r' e => ?_, HB0.out.trans hB5⟩
   rw [HPS.out] at e
   injection e with e
   injection e with e4 e5
   subst e4 e5
   exact ⟨bs rr, L_bs rr, hR5⟩
 · have k9 : ((k : Int) == 9) = false := by simp; omega
   have HA := HA k (by omega)
   dsimp only at HA
   clear h9
   go_enter Tryz.func201, Tryz.ntmps201
   go_wp2_with (first | (go_at_call 48; refine (HP _).mono ?_; rintro e w' ⟨rfl, rfl⟩) | (go_at_call 224; refine HK.mono ?_; rintro e w2 ⟨rfl, hR2, hB2⟩))
   obtain ⟨W3, hW3⟩ : ∃ W3, w2.alloc (.cells #[.int .i64 k, .string ⟨#[]⟩, .int .i64 0, .bool false] 236) = W3 := ⟨_, rfl⟩
   rw [hW3]
   have hblk : W3.heap[w2.heap.size]? = some (.cells #[.int .i64 k, .string ⟨#[]⟩, .int .i64 0, .bool false] 236 (0, 0)) := by rw [← hW3]; exact heap_alloc_new _ _
   have hR3 : Rd W3 g (bs rr) ps := hR2.keep (by rw [← hW3]; exact (Below.refl _ _).alloc (Nat.le_refl _) _)
   have hB3 : Below g w W3 := (((Below.refl g w).setCell (p := ⟨g, 0, none⟩) (Nat.le_refl _) _).trans hB2).trans (by rw [← hW3]; exact (Below.refl _ _).alloc (Nat.le_of_lt hR2.lt) _)
   have hE3 : Env W3 := (HE.out w2 hB2).go (by rw [← hW3]; exact (Below.refl _ _).alloc (Nat.le_refl _) _)
   generalize w2.heap.size = PB at *
   have hPB : PB < W3.heap.size := blk_lt hblk
   have HBlk := Lib.hid hblk
   have HR3 := Lib.hid hR3
   have HB3 := Lib.hid hB3
   have HE3 := Lib.hid hE3
   have q0 : W3.cell? ⟨PB, 0, none⟩ = some (.int .i64 k) := by rw [cell_of_row _ _ 0 _ _ _ hblk]; rfl
   clear hblk hR3 hB3 hE3 hR2 hB2 hW3 HK
   go_region_held3 (fun w' => w'.cell? ⟨PB, 0, none⟩ = some (.int .i64 k) ∧ Below W3.heap.size W3 w') (first | exact ⟨q0, (Below.refl _ _).drew⟩ | exact ⟨(hb0.cell (p := ⟨PB, 0, none⟩) (by simpa using hPB)).trans q0, ((Below.refl _ _).drew).trans hb0⟩) (first | (go_at_call 225; refine (forms_any _).mono ?_; rintro e w0 ⟨rfl, hb0⟩))
   have hW : Below W3.heap.size W3 w0 := ((Below.refl _ _).drew).trans hb0
   have hblk : w0.heap[PB]? = some (.cells #[.int .i64 k, .string ⟨#[]⟩, .int .i64 0, .bool false] 236 (0, 0)) := by rw [hW.block PB hPB]; exact HBlk.out
   have hR0 := HR3.out.keep hW
   have hlt0 := hR0.lt
   have HB0 := Lib.hid (HB3.out.trans (hW.mono (Nat.le_of_lt HR3.out.lt)))
   have HE0 := Lib.hid (HE3.out.go hW)
   have HR0 := Lib.hid hR0
   have q0' : w0.cell? ⟨PB, 0, none⟩ = some (.int .i64 k) := by rw [cell_of_row _ _ 0 _ _ _ hblk]; rfl
   have q1 : w0.cell? ⟨PB, 1, none⟩ = some (.string ⟨#[]⟩) := by rw [cell_of_row _ _ 1 _ _ _ hblk]; rfl
   have q2 : w0.cell? ⟨PB, 2, none⟩ = some (.int .i64 0) := by rw [cell_of_row _ _ 2 _ _ _ hblk]; rfl
   have q3 : w0.cell? ⟨PB, 3, none⟩ = some (.bool false) := by rw [cell_of_row _ _ 3 _ _ _ hblk]; rfl
   obtain ⟨c0', f0'⟩ := hR0.c0
   have hPB0 : PB < w0.heap.size := blk_lt hblk
   have HBlk0 := Lib.hid hblk
   clear hb0 hW q0 HBlk HR3 HB3 HE3 hR0 hPB hblk
   go_wp2_with (first | (go_at_call 48; refine (HP9 _).mono ?_; rintro e w' ⟨rfl, rfl⟩))
   with_reducible refine (HA _ HR0.out).mono ?_
   rintro e w5 ⟨rfl, hR5, hB5⟩
   go_wp2
   go_ret
   refine ⟨by rw [HPS.out]; rfl, fun p r' e => ?_, HB0.out.trans hB5⟩
   rw [HPS.out] at e
   injection e with e
   injection e with e4 e5
   subst e4 e5
   exact ⟨bs rr, L_bs rr, hR5⟩
end Go.Proofs.YtibflgfhjfcifaaGreatDoor
