/-
  Contracts of the program's small functions on terms: Match, empty, pattern, template, command, kind, imported, priority.
-/
import Derived.Test.YthcgkeiggnfgiaaGreatDoorG41
import Derived.Test.YthcgkeiggnfgiaaGreatDoorRGH
namespace Go.Proofs.YthcgkeiggnfgiaaGreatDoor
open Go.RowKit
theorem PMatch_any (t : Tm) (w : World) : Calls Tryz.prog 32 #[tmV t] w fun e w' => e = .returned (.bool (matchB t.op)) ∧ Below w.heap.size w w' := by
  unfold tmV
  by_cases h1 : t.op = 1
  · have e1 : (t.op == 1) = true := by simpa using h1
    have HM : Hid (matchB t.op = true) := Lib.hid (by simp [matchB, h1])
    clear h1
    go_enter Tryz.func32, Tryz.ntmps32
    go_wp2
    go_ret
    exact ⟨ret_bool (by rw [HM.out]), by go_grown⟩
  · have e1 : (t.op == 1) = false := by simpa using h1
    have HM : Hid (matchB t.op = (t.op == 2)) := Lib.hid (by simp [matchB, e1])
    clear h1
    go_enter Tryz.func32, Tryz.ntmps32
    go_wp2
    go_ret
    exact ⟨ret_bool (by rw [HM.out]), by go_grown⟩
theorem PEmpty_any (s : ByteArray) (w : World) : Calls Tryz.prog 114 #[.string s] w fun e w' => e = .returned (.bool (L s).isEmpty) ∧ Below w.heap.size w w' := by
  cases h : (L s).isEmpty
  · have t1 : s.toList.isEmpty = false := by rw [tl]; exact h
    have t2 : ¬ s.toList = [] := by rw [tl]; simpa using h
    clear h
    go_enter Tryz.func114, Tryz.ntmps114
    go_wp2
    go_ret
    exact ⟨ret_bool (by simp_all), Below.refl _ _⟩
  · have t1 : s.toList.isEmpty = true := by rw [tl]; exact h
    have t2 : s.toList = [] := by rw [tl]; simpa using h
    clear h
    go_enter Tryz.func114, Tryz.ntmps114
    go_wp2
    go_ret
    exact ⟨ret_bool (by simp_all), Below.refl _ _⟩
theorem PPattern_any (t : Tm) (w : World) (hv : t.value.size ≤ 9223372036854775807) : Calls Tryz.prog 115 #[tmV t] w fun e w' => e = .returned (.bool (patB (L t.value))) ∧ Below w.heap.size w w' := by
  have HC := Lib.hid (fun W => PGCheck_any t.value W hv)
  have HB : Hid (patB (L t.value) = (globE (L t.value) == 0)) := Lib.hid rfl
  unfold tmV
  generalize globE (L t.value) = n at *
  cases hn : (n == 0)
  all_goals
    rw [hn] at HB
    go_enter Tryz.func115, Tryz.ntmps115
    go_wp2_with (go_at_call 166; refine (HC.out _).mono ?_; rintro e w1 ⟨rfl, hb1⟩)
    go_ret
    exact ⟨ret_bool (by rw [HB.out]), bt (below_alloc _ _) hb1⟩
theorem PTemplate_any (s : ByteArray) (w : World) (hE : Env w) (hv : s.size ≤ 9223372036854775807) : Calls Tryz.prog 118 #[.string s] w fun e w' => e = .returned (.bool (tmplB (L s))) ∧ Below w.heap.size w w' := by
  have HC := Lib.hid (Check_any s w hE hv)
  have HB : Hid (tmplB (L s) = ((parseR (L s)).2 == 0)) := Lib.hid rfl
  generalize (parseR (L s)).2 = n at *
  cases hn : (n == 0)
  all_goals
    rw [hn] at HB
    go_enter Tryz.func118, Tryz.ntmps118
    go_wp2_with (go_at_call 167; refine HC.out.mono ?_; rintro e w1 ⟨rfl, hb1⟩)
    go_ret
    exact ⟨ret_bool (by rw [HB.out]), hb1⟩
theorem PCommand_any (t : Tm) (w : World) (hE : Env w) (hv : t.value.size ≤ 9223372036854775807) : Calls Tryz.prog 119 #[tmV t] w fun e w' => e = .returned (.bool (tmplB (L t.value))) ∧ Below w.heap.size w w' := by
  have HC := Lib.hid (fun (W : World) (hW : Below w.heap.size w W) => PTemplate_any t.value W (hE.go hW) hv)
  unfold tmV
  go_enter Tryz.func119, Tryz.ntmps119
  go_wp2_with (go_at_call 118; refine (HC.out _ (by go_grown)).mono ?_; rintro e w1 ⟨rfl, hb1⟩)
  go_ret
  exact ⟨rfl, bt (below_alloc _ _) hb1⟩
theorem Leq_iff {x y : ByteArray} : (L x == L y) = true ↔ x = y := by
  rw [beq_iff_eq]
  exact ⟨fun e => by rw [← bs_L x, ← bs_L y, e], fun e => by rw [e]⟩
theorem cont3 (a b c x : ByteArray) : Lib.containsS ([a, b, c].take 3) x = (L x == L a || L x == L b || L x == L c) := by
  rw [Bool.eq_iff_iff, Lib.containsS_iff, Bool.or_eq_true, Bool.or_eq_true, Leq_iff, Leq_iff, Leq_iff]
  simp [or_assoc]
theorem Cont3_any (a b c x : ByteArray) (T : TypeId) (w : World) : Calls Tryz.prog 168 #[.slice (some ⟨w.heap.size, 0, none⟩) 3 3, .string x] (w.alloc (.cells #[.string a, .string b, .string c] T)) fun e w' => e = .returned (.bool (L x == L a || L x == L b || L x == L c)) ∧ w.alloc (.cells #[.string a, .string b, .string c] T) = w' := by
  have h := Tryz.slices_Contains_string w.heap.size 0 3 3 [a, b, c] x (w.alloc (.cells #[.string a, .string b, .string c] T)) (by simp) (by omega) (fun j hj => by
    rw [Nat.zero_add, cell_of_row _ _ j _ _ _ (heap_alloc_new w _)]
    rcases (by simp at hj; omega : j = 0 ∨ j = 1 ∨ j = 2) with rfl | rfl | rfl <;> rfl)
  rw [cont3] at h
  exact h.mono fun _ _ ⟨h1, h2⟩ => ⟨h1, h2.symm⟩
set_option maxRecDepth 100000 in
theorem PKind_any (s : ByteArray) (w : World) : Calls Tryz.prog 120 #[.string s] w fun e w' => e = .returned (.bool (L s == programL || L s == parentL || L s == builtinL)) ∧ Below w.heap.size w w' := by
  have HC : Hid (Calls Tryz.prog 168 #[.slice (some ⟨w.heap.size, 0, none⟩) 3 3, .string s] (w.alloc (.cells #[.string ⟨#[112, 114, 111, 103, 114, 97, 109]⟩, .string ⟨#[112, 97, 114, 101, 110, 116]⟩, .string ⟨#[98, 117, 105, 108, 116, 105, 110]⟩] 9)) fun e w' => e = .returned (.bool (L s == programL || L s == parentL || L s == builtinL)) ∧ w.alloc (.cells #[.string ⟨#[112, 114, 111, 103, 114, 97, 109]⟩, .string ⟨#[112, 97, 114, 101, 110, 116]⟩, .string ⟨#[98, 117, 105, 108, 116, 105, 110]⟩] 9) = w') := Lib.hid (Cont3_any _ _ _ s _ w)
  generalize (L s == programL || L s == parentL || L s == builtinL) = b at *
  go_enter Tryz.func120, Tryz.ntmps120
  go_wp2_with (go_at_call 168; refine HC.out.mono ?_; rintro e w1 ⟨rfl, rfl⟩)
  go_ret
  exact ⟨rfl, below_alloc _ _⟩
set_option maxRecDepth 100000 in
theorem PImported_any (t : Tm) (w : World) (hE : Env w) (hv : t.value.size ≤ 9223372036854775807) : Calls Tryz.prog 121 #[tmV t] w fun e w' => e = .returned (.bool (if L t.name = programL then tmplB (L t.value) else if L t.name = parentL then patB (L t.value) else L t.value == pathL || L t.value == contentL || L t.value == netL)) ∧ Below w.heap.size w w' := by
  have HT := Lib.hid (fun (W : World) (hW : Below w.heap.size w W) => PTemplate_any t.value W (hE.go hW) hv)
  have HP := Lib.hid (fun W => PPattern_any t W hv)
  unfold tmV at HP ⊢
  cases h1 : (t.name.toList == programL)
  · have hp : ¬ L t.name = programL := fun e => by rw [tl, e] at h1; simp at h1
    simp only [if_neg hp]
    cases h2 : (t.name.toList == parentL)
    · have hq : ¬ L t.name = parentL := fun e => by rw [tl, e] at h2; simp at h2
      simp only [if_neg hq]
      unfold programL at h1
      unfold parentL at h2
      have HC : Hid (∀ W : World, Calls Tryz.prog 168 #[.slice (some ⟨W.heap.size, 0, none⟩) 3 3, .string t.value] (W.alloc (.cells #[.string ⟨#[112, 97, 116, 104]⟩, .string ⟨#[99, 111, 110, 116, 101, 110, 116]⟩, .string ⟨#[110, 101, 116]⟩] 9)) fun e w' => e = .returned (.bool (L t.value == pathL || L t.value == contentL || L t.value == netL)) ∧ W.alloc (.cells #[.string ⟨#[112, 97, 116, 104]⟩, .string ⟨#[99, 111, 110, 116, 101, 110, 116]⟩, .string ⟨#[110, 101, 116]⟩] 9) = w') := Lib.hid (fun W => Cont3_any _ _ _ t.value _ W)
      generalize (L t.value == pathL || L t.value == contentL || L t.value == netL) = b at *
      have hC := HC.out (w.alloc (.cells #[.int .i64 t.key, .string t.name, .int .i64 t.op, .string t.value] 49))
      rw [World.size_alloc] at hC
      have HC2 := Lib.hid hC
      clear hp hq hC HC
      go_enter Tryz.func121, Tryz.ntmps121
      go_wp2_with (go_at_call 168; refine HC2.out.mono ?_; rintro e w1 ⟨rfl, rfl⟩)
      go_ret
      exact ⟨rfl, bt (below_alloc _ _) (below_alloc _ _)⟩
    · have hq : L t.name = parentL := by rw [tl] at h2; simpa using h2
      simp only [if_pos hq]
      unfold programL at h1
      unfold parentL at h2
      clear hp hq
      go_enter Tryz.func121, Tryz.ntmps121
      go_wp2_with (go_at_call 115; refine (HP.out _).mono ?_; rintro e w1 ⟨rfl, hb1⟩)
      go_ret
      exact ⟨rfl, bt (below_alloc _ _) hb1⟩
  · have hp : L t.name = programL := by rw [tl] at h1; simpa using h1
    simp only [if_pos hp]
    unfold programL at h1
    clear hp
    go_enter Tryz.func121, Tryz.ntmps121
    go_wp2_with (go_at_call 118; refine (HT.out _ (by go_grown)).mono ?_; rintro e w1 ⟨rfl, hb1⟩)
    go_ret
    exact ⟨rfl, bt (below_alloc _ _) hb1⟩
set_option maxRecDepth 100000 in
theorem atoi_pri : ∀ n ∈ List.range 2001, Lib.atoiAll (Lib.itoa ((n : Int) - 1000)) = .ok ((n : Int) - 1000) := by decide +kernel
theorem priS_ok {l : Str} {v : Int} (h : Lib.atoiAll l = .ok v) : priS l = (Lib.itoa v == l && decide (-1000 ≤ v) && decide (v ≤ 1000)) := by
  rw [Bool.eq_iff_iff]
  unfold priS
  simp only [List.any_eq_true, Bool.and_eq_true, decide_eq_true_eq, beq_iff_eq]
  constructor
  · rintro ⟨n, hn, e⟩
    have h1 := atoi_pri n hn
    rw [e, h] at h1
    injection h1 with h1
    have := List.mem_range.1 hn
    subst h1
    exact ⟨⟨e, by omega⟩, by omega⟩
  · rintro ⟨⟨e, h1⟩, h2⟩
    refine ⟨(v + 1000).toNat, List.mem_range.2 (by omega), ?_⟩
    rw [show ((v + 1000).toNat : Int) - 1000 = v from by omega]
    exact e
theorem priS_bad {l : Str} (h : ∀ v, Lib.atoiAll l ≠ .ok v) : priS l = false := by
  unfold priS
  rw [List.any_eq_false]
  intro n hn e
  have h1 := atoi_pri n hn
  rw [beq_iff_eq.1 e] at h1
  exact h _ h1
theorem AtoiL_ok (s : ByteArray) (v : Int) (h : Lib.atoiAll (L s) = .ok v) (hs : s.size ≤ 281474976710656) (w : World) :
    Calls Tryz.prog 169 #[.string s] w fun e w' => e = .returned (.tuple #[.int .i64 v, .nilIface]) ∧ Below w.heap.size w w' :=
  (Tryz.strconv_Atoi_ok s (by omega) v h w).mono fun e w' ⟨he, hw⟩ => ⟨he, by
    rcases hw with hw | ⟨t, hw⟩
    · rw [hw]; exact Below.refl _ _
    · rw [hw]; exact Joins.below_bytesWorld _ _ _ _ (Nat.le_refl _)⟩
theorem AtoiL_bad (s : ByteArray) (h : ∀ v, Lib.atoiAll (L s) ≠ .ok v) (hs : s.size ≤ 281474976710656) (w : World) (hE : Env w) :
    Calls Tryz.prog 169 #[.string s] w fun e w' => ∃ v T x, e = .returned (.tuple #[.int .i64 v, .iface T x]) ∧ Below w.heap.size w w' := by
  rcases hA : Lib.atoiAll (L s) with v | _ | _
  · exact absurd hA (h v)
  · obtain ⟨tp, p, hv⟩ := hE.syn
    exact (Any.strconv_Atoi_syntax_var Tryz.laysC172 s hs hA tp p w hv).mono fun e w' ⟨N, he, _, _, hb⟩ => ⟨_, _, _, he, hb⟩
  · obtain ⟨tp, p, hv⟩ := hE.rng
    exact (Tryz.strconv_Atoi_range_var s hs hA tp p w hv).mono fun e w' ⟨N, he, _, _, hb⟩ => ⟨_, _, _, he, hb⟩
set_option maxRecDepth 100000 in
theorem PPriority_any (s : ByteArray) (w : World) (hE : Env w) (hs : s.size ≤ 281474976710656) : Calls Tryz.prog 122 #[.string s] w fun e w' => e = .returned (.bool (priS (L s))) ∧ Below w.heap.size w w' := by
  by_cases hok : ∃ v, Lib.atoiAll (L s) = .ok v
  · obtain ⟨v, hv⟩ := hok
    have hr := atoi_rng _ v hv
    have HA := Lib.hid (AtoiL_ok s v hv hs w)
    have HI := Lib.hid (fun (W : World) (hW : Below w.heap.size w W) => Itoa_any v hr.1 hr.2 W (hE.go hW).toEnv0)
    have HP := Lib.hid (priS_ok hv)
    clear hv
    cases he : ((bs (Lib.itoa v)).toList == s.toList)
    · have e1 : (Lib.itoa v == L s) = false := by rw [tl, tl, L_bs] at he; exact he
      rw [e1] at HP
      go_enter Tryz.func122, Tryz.ntmps122
      go_wp2_with (first | (go_at_call 169; refine HA.out.mono ?_; rintro e w1 ⟨rfl, hb1⟩) | (go_at_call 62; refine (HI.out _ hb1).mono ?_; rintro e w2 ⟨rfl, hb2⟩))
      go_ret
      exact ⟨ret_bool (by rw [HP.out]; rfl), bt hb1 hb2⟩
    · have e1 : (Lib.itoa v == L s) = true := by rw [tl, tl, L_bs] at he; exact he
      rw [e1, Bool.true_and] at HP
      by_cases h1 : -1000 ≤ v
      · by_cases h2 : v ≤ 1000
        all_goals
          go_enter Tryz.func122, Tryz.ntmps122
          go_wp2_with (first | (go_at_call 169; refine HA.out.mono ?_; rintro e w1 ⟨rfl, hb1⟩) | (go_at_call 62; refine (HI.out _ hb1).mono ?_; rintro e w2 ⟨rfl, hb2⟩))
          go_ret
          exact ⟨ret_bool (by rw [HP.out]; first | (simp [h1, h2]; done) | (simp [h1, h2]; intros; omega)), bt hb1 hb2⟩
      · go_enter Tryz.func122, Tryz.ntmps122
        go_wp2_with (first | (go_at_call 169; refine HA.out.mono ?_; rintro e w1 ⟨rfl, hb1⟩) | (go_at_call 62; refine (HI.out _ hb1).mono ?_; rintro e w2 ⟨rfl, hb2⟩))
        go_ret
        exact ⟨ret_bool (by rw [HP.out]; simp; omega), bt hb1 hb2⟩
  · have hno : ∀ v, Lib.atoiAll (L s) ≠ .ok v := fun v h => hok ⟨v, h⟩
    have HA := Lib.hid (AtoiL_bad s hno hs w hE)
    have HP := Lib.hid (priS_bad hno)
    clear hno hok
    go_enter Tryz.func122, Tryz.ntmps122
    go_wp2_with (go_at_call 169; refine HA.out.mono ?_; rintro e w1 ⟨v, T, x, rfl, hb1⟩)
    go_ret
    exact ⟨ret_bool (by rw [HP.out]), hb1⟩
end Go.Proofs.YthcgkeiggnfgiaaGreatDoor
