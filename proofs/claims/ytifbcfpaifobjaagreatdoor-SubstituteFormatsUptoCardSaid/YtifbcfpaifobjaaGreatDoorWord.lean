/-
  Contracts: strconv.Atoi and strconv.Itoa as they are used here; the reader's word.
-/
import Derived.Test.YtifbcfpaifobjaaGreatDoorEnv
import Derived.Lib.AppendIntMem
namespace Go.Proofs.YtifbcfpaifobjaaGreatDoor
open Go.RowKit
theorem dec_lt10 (n : Nat) (h : n < 10) : Lib.decDigits n = [UInt8.ofNat (48 + n)] := by rw [Lib.decDigits, dif_pos h]
theorem dec_lt100 (n : Nat) (h1 : 10 ≤ n) (h : n < 100) : Lib.decDigits n = [UInt8.ofNat (48 + n / 10), UInt8.ofNat (48 + n % 10)] := by
  rw [Lib.decDigits, dif_neg (by omega), dec_lt10 _ (by omega)]; rfl
theorem atoi1 : ∀ n : Fin 10, Lib.atoiAll [UInt8.ofNat (48 + n.val)] = .ok (n.val : Int) := by decide
set_option maxRecDepth 100000 in
theorem atoi2 : ∀ n : Fin 100, Lib.atoiAll [UInt8.ofNat (48 + n.val / 10), UInt8.ofNat (48 + n.val % 10)] = .ok (n.val : Int) := by decide
theorem atoi_dec (n : Nat) (h : n < 100) : Lib.atoiAll (Lib.decDigits n) = .ok (n : Int) := by
  rcases Nat.lt_or_ge n 10 with h1 | h1
  · rw [dec_lt10 n h1]; exact atoi1 ⟨n, h1⟩
  · rw [dec_lt100 n h1 h]; exact atoi2 ⟨n, h⟩
theorem itoa_dec (n : Nat) : Lib.itoa (n : Int) = Lib.decDigits n := by rw [Lib.itoa, if_neg (by omega)]; rfl
theorem dec_inj {m n : Nat} (hm : m < 100) (hn : n < 100) (h : Lib.decDigits m = Lib.decDigits n) : m = n := by
  have h1 := atoi_dec m hm
  rw [h, atoi_dec n hn] at h1
  injection h1 with h1
  omega
/-- countS through the numeral's own value. -/
theorem countS_ok (t : Str) (v : Int) (h : Lib.atoiAll (Lib.trimSuffix t [43]) = .ok v) :
    countS t = if (Lib.itoa v == Lib.trimSuffix t [43]) && decide (1 ≤ v) && decide (v ≤ 99) then some (v, Lib.hasSuffix t [43]) else none := by
  by_cases hc : (Lib.itoa v == Lib.trimSuffix t [43]) = true ∧ 1 ≤ v ∧ v ≤ 99
  · obtain ⟨h1, h2, h3⟩ := hc
    obtain ⟨n, rfl⟩ := Int.eq_ofNat_of_zero_le (show 0 ≤ v by omega)
    rw [itoa_dec] at h1
    have e := find_first (fun n => decide (1 ≤ n) && Lib.decDigits n == Lib.trimSuffix t [43]) 100 n (by omega) (by simp only [h1]; simp; omega) (fun j hj => by
      by_cases hj1 : Lib.decDigits j == Lib.trimSuffix t [43]
      · have := dec_inj (m := j) (n := n) (by omega) (by omega) (by rw [beq_iff_eq.1 hj1, beq_iff_eq.1 h1])
        omega
      · simp [hj1])
    rw [countS, e]
    rw [itoa_dec, h1]
    simp
    omega
  · have e : (List.range 100).find? (fun n => decide (1 ≤ n) && Lib.decDigits n == Lib.trimSuffix t [43]) = none := by
      rw [List.find?_eq_none]
      intro n hn hp
      have hn' := List.mem_range.1 hn
      simp only [Bool.and_eq_true, decide_eq_true_eq, beq_iff_eq] at hp
      have h1 := atoi_dec n hn'
      rw [hp.2, h] at h1
      injection h1 with h1
      exact hc ⟨by rw [h1, itoa_dec, hp.2]; simp, by omega, by omega⟩
    rw [countS, e]
    rw [if_neg (fun h => hc (by simp only [Bool.and_eq_true, decide_eq_true_eq] at h; exact ⟨h.1.1, h.1.2, h.2⟩))]
theorem countS_bad (t : Str) (h : ∀ v, Lib.atoiAll (Lib.trimSuffix t [43]) ≠ .ok v) : countS t = none := by
  have e : (List.range 100).find? (fun n => decide (1 ≤ n) && Lib.decDigits n == Lib.trimSuffix t [43]) = none := by
    rw [List.find?_eq_none]
    intro n hn hp
    have hn' := List.mem_range.1 hn
    simp only [Bool.and_eq_true, decide_eq_true_eq, beq_iff_eq] at hp
    have h1 := atoi_dec n hn'
    rw [hp.2] at h1
    exact h _ h1
  rw [countS, e]
theorem Itoa_any (n : Int) (h0 : -9223372036854775808 ≤ n) (h1 : n ≤ 9223372036854775807) (w : World) (hE : Env w) :
    Calls Tryz.prog 94 #[.int .i64 n] w fun e w' => e = .returned (.string (bs (Lib.itoa n))) ∧ Below w.heap.size w w' :=
  (Tryz.strconv_Itoa n h0 h1 w hE.pow).mono fun e w' ⟨he, k, os, hw⟩ => ⟨he, by rw [hw]; exact Lib.below_grow _ _ (Nat.le_refl _) _ _⟩
theorem Atoi_ok (s : ByteArray) (v : Int) (h : Lib.atoiAll (L s) = .ok v) (hs : s.size ≤ 1000000) (w : World) :
    Calls Tryz.prog 112 #[.string s] w fun e w' => e = .returned (.tuple #[.int .i64 v, .nilIface]) ∧ Below w.heap.size w w' :=
  (Tryz.strconv_Atoi_ok s (by omega) v h w).mono fun e w' ⟨he, hw⟩ => ⟨he, by
    rcases hw with hw | ⟨t, hw⟩
    · rw [hw]; exact Below.refl _ _
    · rw [hw]; exact Joins.below_bytesWorld _ _ _ _ (Nat.le_refl _)⟩
theorem Atoi_bad (s : ByteArray) (h : ∀ v, Lib.atoiAll (L s) ≠ .ok v) (hs : s.size ≤ 1000000) (w : World) (hE : Env w) :
    Calls Tryz.prog 112 #[.string s] w fun e w' => ∃ v T x, e = .returned (.tuple #[.int .i64 v, .iface T x]) ∧ Below w.heap.size w w' := by
  rcases hA : Lib.atoiAll (L s) with v | _ | _
  · exact absurd hA (h v)
  · obtain ⟨tp, p, hv⟩ := hE.syn
    exact (Any.strconv_Atoi_syntax_var Tryz.laysC172 s (by omega) hA tp p w hv).mono fun e w' ⟨N, he, _, _, hb⟩ => ⟨_, _, _, he, hb⟩
  · obtain ⟨tp, p, hv⟩ := hE.rng
    exact (Tryz.strconv_Atoi_range_var s (by omega) hA tp p w hv).mono fun e w' ⟨N, he, _, _, hb⟩ => ⟨_, _, _, he, hb⟩
theorem atoi_rng (l : Str) (v : Int) (h : Lib.atoiAll l = .ok v) : -9223372036854775808 ≤ v ∧ v ≤ 9223372036854775807 := by
  unfold Lib.atoiAll at h
  split at h
  · cases h
  · dsimp only at h
    split at h
    · cases h
    · cases h
    · split at h
      · cases h
      · split at h
        · cases h
        · injection h with h
          subst h
          split <;> omega
/-- What word gives. -/
def WordPost (t : ByteArray) (w : World) (e : Ending) (w' : World) : Prop :=
  ∃ n m, e = .returned (.tuple #[.int .i64 n, .bool m, .bool (countS (L t)).isSome]) ∧ (∀ a b, countS (L t) = some (a, b) → n = a ∧ m = b) ∧ Below w.heap.size w w'
set_option maxRecDepth 100000 in
set_option maxHeartbeats 1000000 in
theorem word_any (t : ByteArray) (w : World) (hE : Env w) (hr : t.size ≤ 1000) :
    Calls Tryz.prog 78 #[.string t] w (WordPost t w) := by
  have HS : Calls Tryz.prog 111 #[.string t, .string ⟨#[43]⟩] w (fun e w' => e = .returned (.tuple #[.string (bs (Lib.trimSuffix (L t) [43])), .bool (Lib.hasSuffix (L t) [43])]) ∧ w = w') :=
    (Tryz.strings_CutSuffix t ⟨#[43]⟩ w (by omega)).mono fun e w' ⟨h1, h2⟩ => ⟨h1, h2.symm⟩
  have hz : (Lib.trimSuffix (L t) [43]).length ≤ (L t).length := by
    unfold Lib.trimSuffix
    split
    · rw [List.length_take]; omega
    · exact Nat.le_refl _
  rw [len_L] at hz
  have hbad := countS_bad (L t)
  have hok := countS_ok (L t)
  generalize Lib.trimSuffix (L t) [43] = tr at *
  generalize Lib.hasSuffix (L t) [43] = more at *
  have hzz : (bs tr).size ≤ 1000000 := by rw [size_bs]; omega
  have hLt := L_bs tr
  by_cases hA : ∃ v, Lib.atoiAll tr = .ok v
  · obtain ⟨v, hv⟩ := hA
    have hc := hok v hv
    obtain ⟨r1, r2⟩ := atoi_rng tr v hv
    have HA := fun W => Atoi_ok (bs tr) v (by rw [hLt]; exact hv) hzz W
    have HI := fun W (hW : Env W) => Itoa_any v r1 r2 W hW
    have eq : ((bs (Lib.itoa v)).toList == (bs tr).toList) = (Lib.itoa v == tr) := by rw [tl, tl, L_bs, L_bs]
    cases hq : (Lib.itoa v == tr)
    all_goals
      rw [hq] at eq hc
      generalize bs (Lib.itoa v) = it at *
      generalize bs tr = s at *
      have HE := Lib.hid hE
      clear hbad hok hE hv hLt hzz hz hq
      by_cases h1 : 1 ≤ v
      all_goals
        by_cases h99 : v ≤ 99
        all_goals
          first
            | (exfalso; omega)
            | (have hc2 := hc
               simp [h1, h99] at hc2
               have Hc := Lib.hid hc2
               clear hc2 hc
               go_enter Tryz.func78, Tryz.ntmps78
               go_wp2_with (first | (go_at_call 111; refine HS.mono ?_; rintro e w' ⟨rfl, rfl⟩) | (go_at_call 112; refine (HA _).mono ?_; rintro e w1 ⟨rfl, hb1⟩) | (go_at_call 94; refine (HI _ (HE.out.go hb1)).mono ?_; rintro e w2 ⟨rfl, hb2⟩))
               refine bodyPost_ret (by simp [results, Tryz.results78, go_sem]; try rfl) rfl ?_
               refine ⟨v, more, ?_, ?_, ?_⟩
               · rw [Hc.out]; first | rfl | (simp; omega)
               · intro a b e; rw [Hc.out] at e; first | (cases e; done) | (simp at e; exact e)
               · first | exact hb1 | exact bt hb1 hb2)
  · have HA := fun W (hW : Env W) => Atoi_bad (bs tr) (by rw [hLt]; exact fun v hv => hA ⟨v, hv⟩) hzz W hW
    have Hc := Lib.hid (hbad fun v hv => hA ⟨v, hv⟩)
    generalize bs tr = s at *
    have HE := Lib.hid hE
    clear hbad hok hE hLt hzz hz hA
    go_enter Tryz.func78, Tryz.ntmps78
    go_wp2_with (first | (go_at_call 111; refine HS.mono ?_; rintro e w' ⟨rfl, rfl⟩) | (go_at_call 112; refine (HA _ HE.out).mono ?_; rintro e w1 ⟨v, T, x, rfl, hb1⟩))
    refine bodyPost_ret (by simp [results, Tryz.results78, go_sem]; try rfl) rfl ?_
    exact ⟨v, more, by rw [Hc.out]; rfl, (fun a b e => by rw [Hc.out] at e; cases e), hb1⟩
end Go.Proofs.YtifbcfpaifobjaaGreatDoor
