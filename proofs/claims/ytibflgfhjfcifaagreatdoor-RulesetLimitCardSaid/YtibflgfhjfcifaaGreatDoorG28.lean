/-
  Contracts of the program's small functions on terms: Match, empty, pattern, template, command, kind, imported, priority.
  The program's table of forms: a row for each key.
-/
import Derived.Test.YtibflgfhjfcifaaGreatDoorG27
import Derived.Test.YtibflgfhjfcifaaGreatDoorG19
import Derived.Laws.EntriesVeiled
namespace Go.Proofs.YtibflgfhjfcifaaGreatDoor
open Go.RowKit
theorem PMatch_any (t : Tm) (w : World) : Calls Tryz.prog 77 #[tmV t] w fun e w' => e = .returned (.bool (matchB t.op)) ∧ Below w.heap.size w w' := by
 unfold tmV
 by_cases h1 : t.op = 1
 · have e1 : (t.op == 1) = true := by simpa using h1
   have HM : Hid (matchB t.op = true) := Lib.hid (by simp [matchB, h1])
   clear h1
   go_enter Tryz.func77, Tryz.ntmps77
   go_wp2
   go_ret
   exact ⟨ret_bool (by rw [HM.out]), by go_grown⟩
 · have e1 : (t.op == 1) = false := by simpa using h1
   have HM : Hid (matchB t.op = (t.op == 2)) := Lib.hid (by simp [matchB, e1])
   clear h1
   go_enter Tryz.func77, Tryz.ntmps77
   go_wp2
   go_ret
   exact ⟨ret_bool (by rw [HM.out]), by go_grown⟩
theorem PEmpty_any (s : ByteArray) (w : World) : Calls Tryz.prog 91 #[.string s] w fun e w' => e = .returned (.bool (L s).isEmpty) ∧ Below w.heap.size w w' := by
 cases h : (L s).isEmpty
 · have t1 : s.toList.isEmpty = false := by rw [tl]; exact h
   have t2 : ¬ s.toList = [] := by rw [tl]; simpa using h
   clear h
   go_enter Tryz.func91, Tryz.ntmps91
   go_wp2
   go_ret
   exact ⟨ret_bool (by simp_all), Below.refl _ _⟩
 · have t1 : s.toList.isEmpty = true := by rw [tl]; exact h
   have t2 : s.toList = [] := by rw [tl]; simpa using h
   clear h
   go_enter Tryz.func91, Tryz.ntmps91
   go_wp2
   go_ret
   exact ⟨ret_bool (by simp_all), Below.refl _ _⟩
theorem PPattern_any (t : Tm) (w : World) (hv : t.value.size ≤ 9223372036854775807) : Calls Tryz.prog 92 #[tmV t] w fun e w' => e = .returned (.bool (patB (L t.value))) ∧ Below w.heap.size w w' := by
 have HC := Lib.hid (fun W => PGCheck_any t.value W hv)
 have HB : Hid (patB (L t.value) = (globE (L t.value) == 0)) := Lib.hid rfl
 unfold tmV
 generalize globE (L t.value) = n at *
 cases hn : (n == 0)
 all_goals
  rw [hn] at HB
  go_enter Tryz.func92, Tryz.ntmps92
  go_wp2_with (go_at_call 145; refine (HC.out _).mono ?_; rintro e w1 ⟨rfl, hb1⟩)
  go_ret
  exact ⟨ret_bool (by rw [HB.out]), bt (below_alloc _ _) hb1⟩
theorem PTemplate_any (s : ByteArray) (w : World) (hE : Env w) (hv : s.size ≤ 9223372036854775807) : Calls Tryz.prog 95 #[.string s] w fun e w' => e = .returned (.bool (tmplB (L s))) ∧ Below w.heap.size w w' := by
 have HC := Lib.hid (Check_any s w hE hv)
 have HB : Hid (tmplB (L s) = ((parseR (L s)).2 == 0)) := Lib.hid rfl
 generalize (parseR (L s)).2 = n at *
 cases hn : (n == 0)
 all_goals
  rw [hn] at HB
  go_enter Tryz.func95, Tryz.ntmps95
  go_wp2_with (go_at_call 146; refine HC.out.mono ?_; rintro e w1 ⟨rfl, hb1⟩)
  go_ret
  exact ⟨ret_bool (by rw [HB.out]), hb1⟩
theorem PCommand_any (t : Tm) (w : World) (hE : Env w) (hv : t.value.size ≤ 9223372036854775807) : Calls Tryz.prog 96 #[tmV t] w fun e w' => e = .returned (.bool (tmplB (L t.value))) ∧ Below w.heap.size w w' := by
 have HC := Lib.hid (fun (W : World) (hW : Below w.heap.size w W) => PTemplate_any t.value W (hE.go hW) hv)
 unfold tmV
 go_enter Tryz.func96, Tryz.ntmps96
 go_wp2_with (go_at_call 95; refine (HC.out _ (by go_grown)).mono ?_; rintro e w1 ⟨rfl, hb1⟩)
 go_ret
 exact ⟨rfl, bt (below_alloc _ _) hb1⟩
theorem Leq_iff {x y : ByteArray} : (L x == L y) = true ↔ x = y := by
 rw [beq_iff_eq]
 exact ⟨fun e => by rw [← bs_L x, ← bs_L y, e], fun e => by rw [e]⟩
theorem cont3 (a b c x : ByteArray) : Lib.containsS ([a, b, c].take 3) x = (L x == L a || L x == L b || L x == L c) := by
 rw [Bool.eq_iff_iff, Lib.containsS_iff, Bool.or_eq_true, Bool.or_eq_true, Leq_iff, Leq_iff, Leq_iff]
 simp [or_assoc]
theorem Cont3_any (a b c x : ByteArray) (T : TypeId) (w : World) : Calls Tryz.prog 147 #[.slice (some ⟨w.heap.size, 0, none⟩) 3 3, .string x] (w.alloc (.cells #[.string a, .string b, .string c] T)) fun e w' => e = .returned (.bool (L x == L a || L x == L b || L x == L c)) ∧ w.alloc (.cells #[.string a, .string b, .string c] T) = w' := by
 have h := Tryz.slices_Contains_string w.heap.size 0 3 3 [a, b, c] x (w.alloc (.cells #[.string a, .string b, .string c] T)) (by simp) (by omega) (fun j hj => by
  rw [Nat.zero_add, cell_of_row _ _ j _ _ _ (heap_alloc_new w _)]
  rcases (by simp at hj; omega : j = 0 ∨ j = 1 ∨ j = 2) with rfl | rfl | rfl <;> rfl)
 rw [cont3] at h
 exact h.mono fun _ _ ⟨h1, h2⟩ => ⟨h1, h2.symm⟩
set_option maxRecDepth 100000 in
theorem PKind_any (s : ByteArray) (w : World) : Calls Tryz.prog 97 #[.string s] w fun e w' => e = .returned (.bool (L s == programL || L s == parentL || L s == builtinL)) ∧ Below w.heap.size w w' := by
 have HC : Hid (Calls Tryz.prog 147 #[.slice (some ⟨w.heap.size, 0, none⟩) 3 3, .string s] (w.alloc (.cells #[.string ⟨#[112, 114, 111, 103, 114, 97, 109]⟩, .string ⟨#[112, 97, 114, 101, 110, 116]⟩, .string ⟨#[98, 117, 105, 108, 116, 105, 110]⟩] 9)) fun e w' => e = .returned (.bool (L s == programL || L s == parentL || L s == builtinL)) ∧ w.alloc (.cells #[.string ⟨#[112, 114, 111, 103, 114, 97, 109]⟩, .string ⟨#[112, 97, 114, 101, 110, 116]⟩, .string ⟨#[98, 117, 105, 108, 116, 105, 110]⟩] 9) = w') := Lib.hid (Cont3_any _ _ _ s _ w)
 generalize (L s == programL || L s == parentL || L s == builtinL) = b at *
 go_enter Tryz.func97, Tryz.ntmps97
 go_wp2_with (go_at_call 147; refine HC.out.mono ?_; rintro e w1 ⟨rfl, rfl⟩)
 go_ret
 exact ⟨rfl, below_alloc _ _⟩
set_option maxRecDepth 100000 in
theorem PImported_any (t : Tm) (w : World) (hE : Env w) (hv : t.value.size ≤ 9223372036854775807) : Calls Tryz.prog 98 #[tmV t] w fun e w' => e = .returned (.bool (if L t.name = programL then tmplB (L t.value) else if L t.name = parentL then patB (L t.value) else L t.value == pathL || L t.value == contentL || L t.value == netL)) ∧ Below w.heap.size w w' := by
 have HT := Lib.hid (fun (W : World) (hW : Below w.heap.size w W) => PTemplate_any t.value W (hE.go hW) hv)
 have HP := Lib.hid (fun W => PPattern_any t W hv)
 unfold tmV at HP ⊢
 cases h1 : (t.name.toList == programL)
 · have hp : ¬ L t.name = programL := fun e => by rw [tl, e] at h1; simp at h1
   simp only [if_neg hp]
   cases h2 : (t.name.toList == parentL)
   · have hq : ¬ L t.name = parentL := fun e => by rw [tl, e] at h2; simp at h2
     simp only [if_neg hq]
     unfold programL at h1
     unfold parentL at h2
     have HC : Hid (∀ W : World, Calls Tryz.prog 147 #[.slice (some ⟨W.heap.size, 0, none⟩) 3 3, .string t.value] (W.alloc (.cells #[.string ⟨#[112, 97, 116, 104]⟩, .string ⟨#[99, 111, 110, 116, 101, 110, 116]⟩, .string ⟨#[110, 101, 116]⟩] 9)) fun e w' => e = .returned (.bool (L t.value == pathL || L t.value == contentL || L t.value == netL)) ∧ W.alloc (.cells #[.string ⟨#[112, 97, 116, 104]⟩, .string ⟨#[99, 111, 110, 116, 101, 110, 116]⟩, .string ⟨#[110, 101, 116]⟩] 9) = w') := Lib.hid (fun W => Cont3_any _ _ _ t.value _ W)
     generalize (L t.value == pathL || L t.value == contentL || L t.value == netL) = b at *
     have hC := HC.out (w.alloc (.cells #[.int .i64 t.key, .string t.name, .int .i64 t.op, .string t.value] 66))
     rw [World.size_alloc] at hC
     have HC2 := Lib.hid hC
     clear hp hq hC HC
     go_enter Tryz.func98, Tryz.ntmps98
     go_wp2_with (go_at_call 147; refine HC2.out.mono ?_; rintro e w1 ⟨rfl, rfl⟩)
     go_ret
     exact ⟨rfl, bt (below_alloc _ _) (below_alloc _ _)⟩
   · have hq : L t.name = parentL := by rw [tl] at h2; simpa using h2
     simp only [if_pos hq]
     unfold programL at h1
     unfold parentL at h2
     clear hp hq
     go_enter Tryz.func98, Tryz.ntmps98
     go_wp2_with (go_at_call 92; refine (HP.out _).mono ?_; rintro e w1 ⟨rfl, hb1⟩)
     go_ret
     exact ⟨rfl, bt (below_alloc _ _) hb1⟩
 · have hp : L t.name = programL := by rw [tl] at h1; simpa using h1
   simp only [if_pos hp]
   unfold programL at h1
   clear hp
   go_enter Tryz.func98, Tryz.ntmps98
   go_wp2_with (go_at_call 95; refine (HT.out _ (by go_grown)).mono ?_; rintro e w1 ⟨rfl, hb1⟩)
   go_ret
   exact ⟨rfl, bt (below_alloc _ _) hb1⟩
set_option maxRecDepth 100000 in
theorem atoi_pri : ∀ n ∈ List.range 2001, Lib.atoiAll (Lib.itoa ((n : Int) - 1000)) = .ok ((n : Int) - 1000) := by decide +kernel
theorem priS_ok {l : Str} {v : Int} (h : Lib.atoiAll l = .ok v) : priS l = (Lib.itoa v == l && decide (-1000 ≤ v) && decide (v ≤ 1000)) := by
 rw [Bool.eq_iff_iff]
 unfold priS
 simp only [List.any_eq_true, Bool.and_eq_true, decide_eq_true_eq, beq_iff_eq]
 constructor
 · rintro ⟨n, hn, e⟩
   have h1 := atoi_pri n hn
   rw [e, h] at h1
   injection h1 with h1
   have := List.mem_range.1 hn
   subst h1
   exact ⟨⟨e, by omega⟩, by omega⟩
 · rintro ⟨⟨e, h1⟩, h2⟩
   refine ⟨(v + 1000).toNat, List.mem_range.2 (by omega), ?_⟩
   rw [show ((v + 1000).toNat : Int) - 1000 = v from by omega]
   exact e
theorem priS_bad {l : Str} (h : ∀ v, Lib.atoiAll l ≠ .ok v) : priS l = false := by
 unfold priS
 rw [List.any_eq_false]
 intro n hn e
 have h1 := atoi_pri n hn
 rw [beq_iff_eq.1 e] at h1
 exact h _ h1
theorem AtoiL_ok (s : ByteArray) (v : Int) (h : Lib.atoiAll (L s) = .ok v) (hs : s.size ≤ 281474976710656) (w : World) :
 Calls Tryz.prog 148 #[.string s] w fun e w' => e = .returned (.tuple #[.int .i64 v, .nilIface]) ∧ Below w.heap.size w w' :=
 (Tryz.strconv_Atoi_ok s (by omega) v h w).mono fun e w' ⟨he, hw⟩ => ⟨he, by
  rcases hw with hw | ⟨t, hw⟩
  · rw [hw]; exact Below.refl _ _
  · rw [hw]; exact Joins.below_bytesWorld _ _ _ _ (Nat.le_refl _)⟩
theorem AtoiL_bad (s : ByteArray) (h : ∀ v, Lib.atoiAll (L s) ≠ .ok v) (hs : s.size ≤ 281474976710656) (w : World) (hE : Env w) :
 Calls Tryz.prog 148 #[.string s] w fun e w' => ∃ v T x, e = .returned (.tuple #[.int .i64 v, .iface T x]) ∧ Below w.heap.size w w' := by
 rcases hA : Lib.atoiAll (L s) with v | _ | _
 · exact absurd hA (h v)
 · obtain ⟨tp, p, hv⟩ := hE.syn
   exact (Any.strconv_Atoi_syntax_var Tryz.laysC172 s hs hA tp p w hv).mono fun e w' ⟨N, he, _, _, hb⟩ => ⟨_, _, _, he, hb⟩
 · obtain ⟨tp, p, hv⟩ := hE.rng
   exact (Tryz.strconv_Atoi_range_var s hs hA tp p w hv).mono fun e w' ⟨N, he, _, _, hb⟩ => ⟨_, _, _, he, hb⟩
set_option maxRecDepth 100000 in
theorem PPriority_any (s : ByteArray) (w : World) (hE : Env w) (hs : s.size ≤ 281474976710656) : Calls Tryz.prog 99 #[.string s] w fun e w' => e = .returned (.bool (priS (L s))) ∧ Below w.heap.size w w' := by
 by_cases hok : ∃ v, Lib.atoiAll (L s) = .ok v
 · obtain ⟨v, hv⟩ := hok
   have hr := atoi_rng _ v hv
   have HA := Lib.hid (AtoiL_ok s v hv hs w)
   have HI := Lib.hid (fun (W : World) (hW : Below w.heap.size w W) => Itoa_any v hr.1 hr.2 W (hE.go hW).toEnv0)
   have HP := Lib.hid (priS_ok hv)
   clear hv
   cases he : ((bs (Lib.itoa v)).toList == s.toList)
   · have e1 : (Lib.itoa v == L s) = false := by rw [tl, tl, L_bs] at he; exact he
     rw [e1] at HP
     go_enter Tryz.func99, Tryz.ntmps99
     go_wp2_with (first | (go_at_call 148; refine HA.out.mono ?_; rintro e w1 ⟨rfl, hb1⟩) | (go_at_call 149; refine (HI.out _ hb1).mono ?_; rintro e w2 ⟨rfl, hb2⟩))
     go_ret
     exact ⟨ret_bool (by rw [HP.out]; rfl), bt hb1 hb2⟩
   · have e1 : (Lib.itoa v == L s) = true := by rw [tl, tl, L_bs] at he; exact he
     rw [e1, Bool.true_and] at HP
     by_cases h1 : -1000 ≤ v
     · by_cases h2 : v ≤ 1000
       all_goals
        go_enter Tryz.func99, Tryz.ntmps99
        go_wp2_with (first | (go_at_call 148; refine HA.out.mono ?_; rintro e w1 ⟨rfl, hb1⟩) | (go_at_call 149; refine (HI.out _ hb1).mono ?_; rintro e w2 ⟨rfl, hb2⟩))
        go_ret
        exact ⟨ret_bool (by rw [HP.out]; first | (simp [h1, h2]; done) | (simp [h1, h2]; intros; omega)), bt hb1 hb2⟩
     · go_enter Tryz.func99, Tryz.ntmps99
       go_wp2_with (first | (go_at_call 148; refine HA.out.mono ?_; rintro e w1 ⟨rfl, hb1⟩) | (go_at_call 149; refine (HI.out _ hb1).mono ?_; rintro e w2 ⟨rfl, hb2⟩))
       go_ret
       exact ⟨ret_bool (by rw [HP.out]; simp; omega), bt hb1 hb2⟩
 · have hno : ∀ v, Lib.atoiAll (L s) ≠ .ok v := fun v h => hok ⟨v, h⟩
   have HA := Lib.hid (AtoiL_bad s hno hs w hE)
   have HP := Lib.hid (priS_bad hno)
   clear hno hok
   go_enter Tryz.func99, Tryz.ntmps99
   go_wp2_with (go_at_call 148; refine HA.out.mono ?_; rintro e w1 ⟨v, T, x, rfl, hb1⟩)
   go_ret
   exact ⟨ret_bool (by rw [HP.out]), hb1⟩
end Go.Proofs.YtibflgfhjfcifaaGreatDoor
namespace Go.Proofs.YtibflgfhjfcifaaGreatDoor
open Go.RowKit
abbrev fnV (n : Nat) : Value := .func (.func n) #[] #[]
def intsV (l : List Int) : List Value := l.map (Value.int .i64)
def SlcOk (w : World) (v : Value) (l : List Int) : Prop := (v = .slice none 0 0 ∧ l = []) ∨ ∃ g T, v = .slice (some ⟨g, 0, none⟩) l.length l.length ∧ w.heap[g]? = some (.cells (intsV l).toArray T (0, 0))
theorem SlcOk.keep {w w' : World} {v : Value} {l : List Int} (h : SlcOk w v l) (hb : Below w.heap.size w w') : SlcOk w' v l := by
 rcases h with h | ⟨g, T, h1, h2⟩
 · exact Or.inl h
 · exact Or.inr ⟨g, T, h1, (hb.block g (blk_lt' h2)).trans h2⟩
theorem SlcOk.new (w : World) (l : List Int) (T : TypeId) : SlcOk (w.alloc (.cells (intsV l).toArray T)) (.slice (some ⟨w.heap.size, 0, none⟩) l.length l.length) l := Or.inr ⟨w.heap.size, T, rfl, heap_alloc_new w _⟩
def gformsA (s6 s7 s15 s16 s17 s18 s19 s20 s21 s22 s23 s24 : Value) : Array Value := #[.string ⟨#[]⟩, .nilFunc, .slice none 0 0, .nilFunc, .nilFunc, .string ⟨#[65, 67, 84, 73, 79, 78]⟩, .func (.func 91) #[] #[], .slice none 0 0, .func (.func 92) #[] #[], .nilFunc, .string ⟨#[75, 69, 82, 78, 69, 76]⟩, .func (.func 91) #[] #[], .slice none 0 0, .func (.func 92) #[] #[], .nilFunc, .string ⟨#[83, 85, 66, 83, 89, 83, 84, 69, 77]⟩, .func (.func 91) #[] #[], .slice none 0 0, .func (.func 92) #[] #[], .nilFunc, .string ⟨#[68, 82, 73, 86, 69, 82]⟩, .func (.func 91) #[] #[], .slice none 0 0, .func (.func 92) #[] #[], .nilFunc, .string ⟨#[65, 84, 84, 82]⟩, .func (.func 70) #[] #[], .slice none 0 0, .func (.func 92) #[] #[], .nilFunc, .string ⟨#[69, 78, 86]⟩, .func (.func 94) #[] #[], s6, .func (.func 92) #[] #[], .func (.func 95) #[] #[], .string ⟨#[84, 65, 71]⟩, .func (.func 91) #[] #[], s7, .func (.func 92) #[] #[], .func (.func 95) #[] #[], .string ⟨#[75, 69, 82, 78, 69, 76, 83]⟩, .func (.func 91) #[] #[], .slice none 0 0, .func (.func 92) #[] #[], .nilFunc, .string ⟨#[83, 85, 66, 83, 89, 83, 84, 69, 77, 83]⟩, .func (.func 91) #[] #[], .slice none 0 0, .func (.func 92) #[] #[], .nilFunc, .string ⟨#[68, 82, 73, 86, 69, 82, 83]⟩, .func (.func 91) #[] #[], .slice none 0 0, .func (.func 92) #[] #[], .nilFunc, .string ⟨#[65, 84, 84, 82, 83]⟩, .func (.func 70) #[] #[], .slice none 0 0, .func (.func 92) #[] #[], .nilFunc, .string ⟨#[80, 82, 79, 71, 82, 65, 77]⟩, .func (.func 91) #[] #[], .slice none 0 0, .func (.func 96) #[] #[], .nilFunc, .string ⟨#[82, 69, 83, 85, 76, 84]⟩, .func (.func 91) #[] #[], .slice none 0 0, .func (.func 92) #[] #[], .nilFunc, .string ⟨#[73, 77, 80, 79, 82, 84]⟩, .func (.func 97) #[] #[], .slice none 0 0, .func (.func 98) #[] #[], .nilFunc, .string ⟨#[78, 65, 77, 69]⟩, .func (.func 91) #[] #[], s15, .nilFunc, .func (.func 95) #[] #[], .string ⟨#[83, 89, 77, 76, 73, 78, 75]⟩, .func (.func 91) #[] #[], s16, .nilFunc, .func (.func 95) #[] #[], .string ⟨#[79, 87, 78, 69, 82]⟩, .func (.func 91) #[] #[], s17, .nilFunc, .func (.func 95) #[] #[], .string ⟨#[71, 82, 79, 85, 80]⟩, .func (.func 91) #[] #[], s18, .nilFunc, .func (.func 95) #[] #[], .string ⟨#[77, 79, 68, 69]⟩, .func (.func 91) #[] #[], s19, .nilFunc, .func (.func 95) #[] #[], .string ⟨#[82, 85, 78]⟩, .func (.func 91) #[] #[], s20, .nilFunc, .func (.func 95) #[] #[], .string ⟨#[76, 79, 65, 68]⟩, .func (.func 91) #[] #[], s21, .nilFunc, .func (.func 95) #[] #[], .string ⟨#[80, 82, 73, 79, 82, 73, 84, 89]⟩, .func (.func 91) #[] #[], s22, .nilFunc, .func (.func 99) #[] #[], .string ⟨#[76, 65, 66, 69, 76]⟩, .func (.func 91) #[] #[], s23, .nilFunc, .func (.func 70) #[] #[], .string ⟨#[71, 79, 84, 79]⟩, .func (.func 91) #[] #[], s24, .nilFunc, .func (.func 70) #[] #[]]
theorem size_gformsA (s6 s7 s15 s16 s17 s18 s19 s20 s21 s22 s23 s24 : Value) : (gformsA s6 s7 s15 s16 s17 s18 s19 s20 s21 s22 s23 s24).size = 125 := rfl
theorem gforms_one (g6 g7 g15 g16 g17 g18 g19 g20 g21 g22 g23 g24 : Nat) : (gformsA (.slice (some ⟨g6, 0, none⟩) 2 2) (.slice (some ⟨g7, 0, none⟩) 3 3) (.slice (some ⟨g15, 0, none⟩) 2 2) (.slice (some ⟨g16, 0, none⟩) 4 4) (.slice (some ⟨g17, 0, none⟩) 2 2) (.slice (some ⟨g18, 0, none⟩) 2 2) (.slice (some ⟨g19, 0, none⟩) 2 2) (.slice (some ⟨g20, 0, none⟩) 3 3) (.slice (some ⟨g21, 0, none⟩) 1 1) (.slice (some ⟨g22, 0, none⟩) 1 1) (.slice (some ⟨g23, 0, none⟩) 1 1) (.slice (some ⟨g24, 0, none⟩) 1 1)).all (·.oneCell') = true := by kernel_rfl
theorem formSize : (Tryz.prog.info? 114).map (·.size) = some 5 := by kernel_rfl
theorem gformsSize : (Tryz.prog.info? 115).map (·.size) = some 125 := by kernel_rfl
theorem built_forms (g6 g7 g15 g16 g17 g18 g19 g20 g21 g22 g23 g24 : Nat) (_u : Nat) : Tryz.prog.built 115 [(1, .agg #[.string ⟨#[65, 67, 84, 73, 79, 78]⟩, .func (.func 91) #[] #[], .slice none 0 0, .func (.func 92) #[] #[], .nilFunc]), (2, .agg #[.string ⟨#[75, 69, 82, 78, 69, 76]⟩, .func (.func 91) #[] #[], .slice none 0 0, .func (.func 92) #[] #[], .nilFunc]), (3, .agg #[.string ⟨#[83, 85, 66, 83, 89, 83, 84, 69, 77]⟩, .func (.func 91) #[] #[], .slice none 0 0, .func (.func 92) #[] #[], .nilFunc]), (4, .agg #[.string ⟨#[68, 82, 73, 86, 69, 82]⟩, .func (.func 91) #[] #[], .slice none 0 0, .func (.func 92) #[] #[], .nilFunc]), (5, .agg #[.string ⟨#[65, 84, 84, 82]⟩, .func (.func 70) #[] #[], .slice none 0 0, .func (.func 92) #[] #[], .nilFunc]), (6, .agg #[.string ⟨#[69, 78, 86]⟩, .func (.func 94) #[] #[], .slice (some ⟨g6, 0, none⟩) 2 2, .func (.func 92) #[] #[], .func (.func 95) #[] #[]]), (7, .agg #[.string ⟨#[84, 65, 71]⟩, .func (.func 91) #[] #[], .slice (some ⟨g7, 0, none⟩) 3 3, .func (.func 92) #[] #[], .func (.func 95) #[] #[]]), (8, .agg #[.string ⟨#[75, 69, 82, 78, 69, 76, 83]⟩, .func (.func 91) #[] #[], .slice none 0 0, .func (.func 92) #[] #[], .nilFunc]), (9, .agg #[.string ⟨#[83, 85, 66, 83, 89, 83, 84, 69, 77, 83]⟩, .func (.func 91) #[] #[], .slice none 0 0, .func (.func 92) #[] #[], .nilFunc]), (10, .agg #[.string ⟨#[68, 82, 73, 86, 69, 82, 83]⟩, .func (.func 91) #[] #[], .slice none 0 0, .func (.func 92) #[] #[], .nilFunc]), (11, .agg #[.string ⟨#[65, 84, 84, 82, 83]⟩, .func (.func 70) #[] #[], .slice none 0 0, .func (.func 92) #[] #[], .nilFunc]), (12, .agg #[.string ⟨#[80, 82, 79, 71, 82, 65, 77]⟩, .func (.func 91) #[] #[], .slice none 0 0, .func (.func 96) #[] #[], .nilFunc]), (13, .agg #[.string ⟨#[82, 69, 83, 85, 76, 84]⟩, .func (.func 91) #[] #[], .slice none 0 0, .func (.func 92) #[] #[], .nilFunc]), (14, .agg #[.string ⟨#[73, 77, 80, 79, 82, 84]⟩, .func (.func 97) #[] #[], .slice none 0 0, .func (.func 98) #[] #[], .nilFunc]), (15, .agg #[.string ⟨#[78, 65, 77, 69]⟩, .func (.func 91) #[] #[], .slice (some ⟨g15, 0, none⟩) 2 2, .nilFunc, .func (.func 95) #[] #[]]), (16, .agg #[.string ⟨#[83, 89, 77, 76, 73, 78, 75]⟩, .func (.func 91) #[] #[], .slice (some ⟨g16, 0, none⟩) 4 4, .nilFunc, .func (.func 95) #[] #[]]), (17, .agg #[.string ⟨#[79, 87, 78, 69, 82]⟩, .func (.func 91) #[] #[], .slice (some ⟨g17, 0, none⟩) 2 2, .nilFunc, .func (.func 95) #[] #[]]), (18, .agg #[.string ⟨#[71, 82, 79, 85, 80]⟩, .func (.func 91) #[] #[], .slice (some ⟨g18, 0, none⟩) 2 2, .nilFunc, .func (.func 95) #[] #[]]), (19, .agg #[.string ⟨#[77, 79, 68, 69]⟩, .func (.func 91) #[] #[], .slice (some ⟨g19, 0, none⟩) 2 2, .nilFunc, .func (.func 95) #[] #[]]), (20, .agg #[.string ⟨#[82, 85, 78]⟩, .func (.func 91) #[] #[], .slice (some ⟨g20, 0, none⟩) 3 3, .nilFunc, .func (.func 95) #[] #[]]), (21, .agg #[.string ⟨#[76, 79, 65, 68]⟩, .func (.func 91) #[] #[], .slice (some ⟨g21, 0, none⟩) 1 1, .nilFunc, .func (.func 95) #[] #[]]), (22, .agg #[.string ⟨#[80, 82, 73, 79, 82, 73, 84, 89]⟩, .func (.func 91) #[] #[], .slice (some ⟨g22, 0, none⟩) 1 1, .nilFunc, .func (.func 99) #[] #[]]), (23, .agg #[.string ⟨#[76, 65, 66, 69, 76]⟩, .func (.func 91) #[] #[], .slice (some ⟨g23, 0, none⟩) 1 1, .nilFunc, .func (.func 70) #[] #[]]), (24, .agg #[.string ⟨#[71, 79, 84, 79]⟩, .func (.func 91) #[] #[], .slice (some ⟨g24, 0, none⟩) 1 1, .nilFunc, .func (.func 70) #[] #[]])] = some (gformsA (.slice (some ⟨g6, 0, none⟩) 2 2) (.slice (some ⟨g7, 0, none⟩) 3 3) (.slice (some ⟨g15, 0, none⟩) 2 2) (.slice (some ⟨g16, 0, none⟩) 4 4) (.slice (some ⟨g17, 0, none⟩) 2 2) (.slice (some ⟨g18, 0, none⟩) 2 2) (.slice (some ⟨g19, 0, none⟩) 2 2) (.slice (some ⟨g20, 0, none⟩) 3 3) (.slice (some ⟨g21, 0, none⟩) 1 1) (.slice (some ⟨g22, 0, none⟩) 1 1) (.slice (some ⟨g23, 0, none⟩) 1 1) (.slice (some ⟨g24, 0, none⟩) 1 1)) := by
 kernel_rfl
noncomputable def bdForms (parts : Array (Nat × Value)) : Sem Value := Instr.build 115 parts
theorem bd_forms (parts : Array (Nat × Value)) : Instr.build 115 parts = bdForms parts := rfl
theorem bdForms_at (g6 g7 g15 g16 g17 g18 g19 g20 g21 g22 g23 g24 : Nat) (w : World) : (bdForms #[(1, .agg #[.string ⟨#[65, 67, 84, 73, 79, 78]⟩, .func (.func 91) #[] #[], .slice none 0 0, .func (.func 92) #[] #[], .nilFunc]), (2, .agg #[.string ⟨#[75, 69, 82, 78, 69, 76]⟩, .func (.func 91) #[] #[], .slice none 0 0, .func (.func 92) #[] #[], .nilFunc]), (3, .agg #[.string ⟨#[83, 85, 66, 83, 89, 83, 84, 69, 77]⟩, .func (.func 91) #[] #[], .slice none 0 0, .func (.func 92) #[] #[], .nilFunc]), (4, .agg #[.string ⟨#[68, 82, 73, 86, 69, 82]⟩, .func (.func 91) #[] #[], .slice none 0 0, .func (.func 92) #[] #[], .nilFunc]), (5, .agg #[.string ⟨#[65, 84, 84, 82]⟩, .func (.func 70) #[] #[], .slice none 0 0, .func (.func 92) #[] #[], .nilFunc]), (6, .agg #[.string ⟨#[69, 78, 86]⟩, .func (.func 94) #[] #[], .slice (some ⟨g6, 0, none⟩) 2 2, .func (.func 92) #[] #[], .func (.func 95) #[] #[]]), (7, .agg #[.string ⟨#[84, 65, 71]⟩, .func (.func 91) #[] #[], .slice (some ⟨g7, 0, none⟩) 3 3, .func (.func 92) #[] #[], .func (.func 95) #[] #[]]), (8, .agg #[.string ⟨#[75, 69, 82, 78, 69, 76, 83]⟩, .func (.func 91) #[] #[], .slice none 0 0, .func (.func 92) #[] #[], .nilFunc]), (9, .agg #[.string ⟨#[83, 85, 66, 83, 89, 83, 84, 69, 77, 83]⟩, .func (.func 91) #[] #[], .slice none 0 0, .func (.func 92) #[] #[], .nilFunc]), (10, .agg #[.string ⟨#[68, 82, 73, 86, 69, 82, 83]⟩, .func (.func 91) #[] #[], .slice none 0 0, .func (.func 92) #[] #[], .nilFunc]), (11, .agg #[.string ⟨#[65, 84, 84, 82, 83]⟩, .func (.func 70) #[] #[], .slice none 0 0, .func (.func 92) #[] #[], .nilFunc]), (12, .agg #[.string ⟨#[80, 82, 79, 71, 82, 65, 77]⟩, .func (.func 91) #[] #[], .slice none 0 0, .func (.func 96) #[] #[], .nilFunc]), (13, .agg #[.string ⟨#[82, 69, 83, 85, 76, 84]⟩, .func (.func 91) #[] #[], .slice none 0 0, .func (.func 92) #[] #[], .nilFunc]), (14, .agg #[.string ⟨#[73, 77, 80, 79, 82, 84]⟩, .func (.func 97) #[] #[], .slice none 0 0, .func (.func 98) #[] #[], .nilFunc]), (15, .agg #[.string ⟨#[78, 65, 77, 69]⟩, .func (.func 91) #[] #[], .slice (some ⟨g15, 0, none⟩) 2 2, .nilFunc, .func (.func 95) #[] #[]]), (16, .agg #[.string ⟨#[83, 89, 77, 76, 73, 78, 75]⟩, .func (.func 91) #[] #[], .slice (some ⟨g16, 0, none⟩) 4 4, .nilFunc, .func (.func 95) #[] #[]]), (17, .agg #[.string ⟨#[79, 87, 78, 69, 82]⟩, .func (.func 91) #[] #[], .slice (some ⟨g17, 0, none⟩) 2 2, .nilFunc, .func (.func 95) #[] #[]]), (18, .agg #[.string ⟨#[71, 82, 79, 85, 80]⟩, .func (.func 91) #[] #[], .slice (some ⟨g18, 0, none⟩) 2 2, .nilFunc, .func (.func 95) #[] #[]]), (19, .agg #[.string ⟨#[77, 79, 68, 69]⟩, .func (.func 91) #[] #[], .slice (some ⟨g19, 0, none⟩) 2 2, .nilFunc, .func (.func 95) #[] #[]]), (20, .agg #[.string ⟨#[82, 85, 78]⟩, .func (.func 91) #[] #[], .slice (some ⟨g20, 0, none⟩) 3 3, .nilFunc, .func (.func 95) #[] #[]]), (21, .agg #[.string ⟨#[76, 79, 65, 68]⟩, .func (.func 91) #[] #[], .slice (some ⟨g21, 0, none⟩) 1 1, .nilFunc, .func (.func 95) #[] #[]]), (22, .agg #[.string ⟨#[80, 82, 73, 79, 82, 73, 84, 89]⟩, .func (.func 91) #[] #[], .slice (some ⟨g22, 0, none⟩) 1 1, .nilFunc, .func (.func 99) #[] #[]]), (23, .agg #[.string ⟨#[76, 65, 66, 69, 76]⟩, .func (.func 91) #[] #[], .slice (some ⟨g23, 0, none⟩) 1 1, .nilFunc, .func (.func 70) #[] #[]]), (24, .agg #[.string ⟨#[71, 79, 84, 79]⟩, .func (.func 91) #[] #[], .slice (some ⟨g24, 0, none⟩) 1 1, .nilFunc, .func (.func 70) #[] #[]])]).run Tryz.prog w = .ok (.agg (gformsA (.slice (some ⟨g6, 0, none⟩) 2 2) (.slice (some ⟨g7, 0, none⟩) 3 3) (.slice (some ⟨g15, 0, none⟩) 2 2) (.slice (some ⟨g16, 0, none⟩) 4 4) (.slice (some ⟨g17, 0, none⟩) 2 2) (.slice (some ⟨g18, 0, none⟩) 2 2) (.slice (some ⟨g19, 0, none⟩) 2 2) (.slice (some ⟨g20, 0, none⟩) 3 3) (.slice (some ⟨g21, 0, none⟩) 1 1) (.slice (some ⟨g22, 0, none⟩) 1 1) (.slice (some ⟨g23, 0, none⟩) 1 1) (.slice (some ⟨g24, 0, none⟩) 1 1))) w := by
 unfold bdForms
 exact run_build w _ _ _ (built_forms g6 g7 g15 g16 g17 g18 g19 g20 g21 g22 g23 g24 0)
attribute [irreducible] bdForms
noncomputable def stForms (v u : Value) : Sem Unit := Instr.storeAt 115 v u
theorem st_forms (v u : Value) : Instr.storeAt 115 v u = stForms v u := rfl
set_option maxRecDepth 100000 in
theorem stForms_at {w : World} {g : Nat} {old cs : Array Value} {t : TypeId} (h : w.heap[g]? = some (.cells old t (0, 0))) (ho : old.size = 125) (hs : cs.size = 125) (h1 : cs.all (·.oneCell') = true) : (stForms (.pointer (some ⟨g, 0, none⟩)) (.agg cs)).run Tryz.prog w = .ok () (w.setRow g cs) := by
 unfold stForms
 simp only [Instr.storeAt, Instr.sureAddr, Sem.run_bind, Sem.run_pure, Result.andThen_ok]
 exact run_storeVar_row w g t 115 old cs h (by rw [hs]; exact gformsSize) (by rw [ho, hs]) h1
attribute [irreducible] stForms
theorem zeroForms : Tryz.zeroCells115.size = 125 := by kernel_rfl

set_option maxRecDepth 100000 in
theorem FormM_any (wd : ByteArray) (w : World) : Calls Tryz.prog 90 #[.string wd] w fun e w' => e = .returned (.agg #[.string wd, .func (.func 91) #[] #[], .slice none 0 0, .func (.func 92) #[] #[], .nilFunc]) ∧ Below w.heap.size w w' := by
 go_enter Tryz.func90, Tryz.ntmps90
 go_wp2
 refine bodyPost_ret (v := .agg #[.string wd, .func (.func 91) #[] #[], .slice none 0 0, .func (.func 92) #[] #[], .nilFunc]) (by simp [results, Tryz.results90, go_sem, *]) rfl ?_
 exact ⟨rfl, by go_grown⟩
set_option maxRecDepth 100000 in
theorem FormA_any (wd : ByteArray) (n g m : Nat) (w : World) : Calls Tryz.prog 93 #[.string wd, .func (.func n) #[] #[], .slice (some ⟨g, 0, none⟩) m m] w fun e w' => e = .returned (.agg #[.string wd, .func (.func 91) #[] #[], .slice (some ⟨g, 0, none⟩) m m, .nilFunc, .func (.func n) #[] #[]]) ∧ Below w.heap.size w w' := by
 go_enter Tryz.func93, Tryz.ntmps93
 go_wp2
 refine bodyPost_ret (v := .agg #[.string wd, .func (.func 91) #[] #[], .slice (some ⟨g, 0, none⟩) m m, .nilFunc, .func (.func n) #[] #[]]) (by simp [results, Tryz.results93, go_sem, *]) rfl ?_
 exact ⟨rfl, by go_grown⟩
theorem lift0 {w w' : World} {g : Nat} {o : Obj} (h : w.heap[g]? = some o) (hb : Below w.heap.size w w') : w'.heap[g]? = some o := (hb.block g (blk_lt' h)).trans h
theorem lift1 {w w' : World} {g : Nat} {o p : Obj} (h : w.heap[g]? = some o) (hb : Below (w.alloc p).heap.size (w.alloc p) w') : w'.heap[g]? = some o := lift0 ((heap_alloc_old _ _ (blk_lt' h)).trans h) hb
theorem lift2 {w w' : World} {g : Nat} {o p q : Obj} (h : w.heap[g]? = some o) (hb : Below ((w.alloc p).alloc q).heap.size ((w.alloc p).alloc q) w') : w'.heap[g]? = some o := lift1 ((heap_alloc_old _ _ (blk_lt' h)).trans h) hb
theorem liftB0 {w0 w w' : World} (h : Below w0.heap.size w0 w) (hb : Below w.heap.size w w') : Below w0.heap.size w0 w' := bt h hb
theorem liftB1 {w0 w w' : World} {p : Obj} (h : Below w0.heap.size w0 w) (hb : Below (w.alloc p).heap.size (w.alloc p) w') : Below w0.heap.size w0 w' := bt (bt h (below_alloc _ _)) hb
theorem liftB2 {w0 w w' : World} {p q : Obj} (h : Below w0.heap.size w0 w) (hb : Below ((w.alloc p).alloc q).heap.size ((w.alloc p).alloc q) w') : Below w0.heap.size w0 w' := liftB1 (bt h (below_alloc _ _)) hb
theorem new1_0 {w w' : World} {p : Obj} (hb : Below (w.alloc p).heap.size (w.alloc p) w') : w'.heap[w.heap.size]? = some p := lift0 (heap_alloc_new w p) hb
theorem new2_0 {w w' : World} {p q : Obj} (hb : Below ((w.alloc p).alloc q).heap.size ((w.alloc p).alloc q) w') : w'.heap[w.heap.size]? = some p := lift1 (heap_alloc_new w p) hb
theorem new2_1 {w w' : World} {p q : Obj} (hb : Below ((w.alloc p).alloc q).heap.size ((w.alloc p).alloc q) w') : w'.heap[w.heap.size + 1]? = some q := by
 have := lift0 (heap_alloc_new (w.alloc p) q) hb
 simpa using this
attribute [irreducible] gformsA
attribute [local go_sem ↓] bd_forms st_forms
set_option maxRecDepth 100000 in
set_option maxHeartbeats 4000000 in
theorem PForms_walk (w : World) : Calls Tryz.prog 59 #[] w fun e w' => ∃ g6 g7 g15 g16 g17 g18 g19 g20 g21 g22 g23 g24 : Nat, e = .returned (.agg (gformsA (.slice (some ⟨g6, 0, none⟩) 2 2) (.slice (some ⟨g7, 0, none⟩) 3 3) (.slice (some ⟨g15, 0, none⟩) 2 2) (.slice (some ⟨g16, 0, none⟩) 4 4) (.slice (some ⟨g17, 0, none⟩) 2 2) (.slice (some ⟨g18, 0, none⟩) 2 2) (.slice (some ⟨g19, 0, none⟩) 2 2) (.slice (some ⟨g20, 0, none⟩) 3 3) (.slice (some ⟨g21, 0, none⟩) 1 1) (.slice (some ⟨g22, 0, none⟩) 1 1) (.slice (some ⟨g23, 0, none⟩) 1 1) (.slice (some ⟨g24, 0, none⟩) 1 1))) ∧ w'.heap[g6]? = some (.cells #[.int .i64 3, .int .i64 4] 3 (0, 0)) ∧ w'.heap[g7]? = some (.cells #[.int .i64 3, .int .i64 4, .int .i64 5] 3 (0, 0)) ∧ w'.heap[g15]? = some (.cells #[.int .i64 3, .int .i64 6] 3 (0, 0)) ∧ w'.heap[g16]? = some (.cells #[.int .i64 3, .int .i64 4, .int .i64 5, .int .i64 6] 3 (0, 0)) ∧ w'.heap[g17]? = some (.cells #[.int .i64 3, .int .i64 6] 3 (0, 0)) ∧ w'.heap[g18]? = some (.cells #[.int .i64 3, .int .i64 6] 3 (0, 0)) ∧ w'.heap[g19]? = some (.cells #[.int .i64 3, .int .i64 6] 3 (0, 0)) ∧ w'.heap[g20]? = some (.cells #[.int .i64 3, .int .i64 4, .int .i64 6] 3 (0, 0)) ∧ w'.heap[g21]? = some (.cells #[.int .i64 4] 3 (0, 0)) ∧ w'.heap[g22]? = some (.cells #[.int .i64 3] 3 (0, 0)) ∧ w'.heap[g23]? = some (.cells #[.int .i64 3] 3 (0, 0)) ∧ w'.heap[g24]? = some (.cells #[.int .i64 3] 3 (0, 0)) ∧ Below w.heap.size w w' := by
 have hbd := fun (g6 : Nat) (g7 : Nat) (g15 : Nat) (g16 : Nat) (g17 : Nat) (g18 : Nat) (g19 : Nat) (g20 : Nat) (g21 : Nat) (g22 : Nat) (g23 : Nat) (g24 : Nat) W => bdForms_at g6 g7 g15 g16 g17 g18 g19 g20 g21 g22 g23 g24 W
 go_enter Tryz.func59, Tryz.ntmps59
 have h0 := heap_alloc_new w (.cells Tryz.zeroCells115 115)
 have hB := below_alloc w (.cells Tryz.zeroCells115 115)
 go_wp2_with fail
 refine (FormM_any _ _).mono ?_
 rintro e w1 ⟨rfl, hb⟩
 have h0 := (hb.block _ (blk_lt' h0)).trans h0
 have hB := bt hB hb
 clear hb
 go_wp2_with fail
 refine (FormM_any _ _).mono ?_
 rintro e w2 ⟨rfl, hb⟩
 have h0 := (lift0 (hb := hb) h0)
 have hB := (liftB0 hB hb)
 clear hb
 go_wp2_with fail
 refine (FormM_any _ _).mono ?_
 rintro e w3 ⟨rfl, hb⟩
 have h0 := (lift0 (hb := hb) h0)
 have hB := (liftB0 hB hb)
 clear hb
 go_wp2_with fail
 refine (FormM_any _ _).mono ?_
 rintro e w4 ⟨rfl, hb⟩
 have h0 := (lift0 (hb := hb) h0)
 have hB := (liftB0 hB hb)
 clear hb
 go_wp2_with fail
 refine (FormM_any _ _).mono ?_
 rintro e w5 ⟨rfl, hb⟩
 have n6 : w.heap.size ≠ w4.heap.size := by have := blk_lt' h0; omega
 have n7 : w.heap.size ≠ w4.heap.size + 1 := by have := blk_lt' h0; omega
 have h0 := (lift2 (hb := hb) h0)
 have hB := (liftB2 hB hb)
 have s6 := (new2_0 hb)
 have s7 := (new2_1 hb)
 clear hb
 go_wp2_with fail
 refine (FormM_any _ _).mono ?_
 rintro e w6 ⟨rfl, hb⟩
 have h0 := (lift0 (hb := hb) h0)
 have s6 := (lift0 (hb := hb) s6)
 have s7 := (lift0 (hb := hb) s7)
 have hB := (liftB0 hB hb)
 clear hb
 go_wp2_with fail
 refine (FormM_any _ _).mono ?_
 rintro e w7 ⟨rfl, hb⟩
 have h0 := (lift0 (hb := hb) h0)
 have s6 := (lift0 (hb := hb) s6)
 have s7 := (lift0 (hb := hb) s7)
 have hB := (liftB0 hB hb)
 clear hb
 go_wp2_with fail
 refine (FormM_any _ _).mono ?_
 rintro e w8 ⟨rfl, hb⟩
 have h0 := (lift0 (hb := hb) h0)
 have s6 := (lift0 (hb := hb) s6)
 have s7 := (lift0 (hb := hb) s7)
 have hB := (liftB0 hB hb)
 clear hb
 go_wp2_with fail
 refine (FormA_any _ _ _ _ _).mono ?_
 rintro e w9 ⟨rfl, hb⟩
 have n15 : w.heap.size ≠ w8.heap.size := by have := blk_lt' h0; omega
 have h0 := (lift1 (hb := hb) h0)
 have s6 := (lift1 (hb := hb) s6)
 have s7 := (lift1 (hb := hb) s7)
 have hB := (liftB1 hB hb)
 have s15 := (new1_0 hb)
 clear hb
 go_wp2_with fail
 refine (FormA_any _ _ _ _ _).mono ?_
 rintro e w10 ⟨rfl, hb⟩
 have n16 : w.heap.size ≠ w9.heap.size := by have := blk_lt' h0; omega
 have h0 := (lift1 (hb := hb) h0)
 have s6 := (lift1 (hb := hb) s6)
 have s7 := (lift1 (hb := hb) s7)
 have s15 := (lift1 (hb := hb) s15)
 have hB := (liftB1 hB hb)
 have s16 := (new1_0 hb)
 clear hb
 go_wp2_with fail
 refine (FormA_any _ _ _ _ _).mono ?_
 rintro e w11 ⟨rfl, hb⟩
 have n17 : w.heap.size ≠ w10.heap.size := by have := blk_lt' h0; omega
 have h0 := (lift1 (hb := hb) h0)
 have s6 := (lift1 (hb := hb) s6)
 have s7 := (lift1 (hb := hb) s7)
 have s15 := (lift1 (hb := hb) s15)
 have s16 := (lift1 (hb := hb) s16)
 have hB := (liftB1 hB hb)
 have s17 := (new1_0 hb)
 clear hb
 go_wp2_with fail
 refine (FormA_any _ _ _ _ _).mono ?_
 rintro e w12 ⟨rfl, hb⟩
 have n18 : w.heap.size ≠ w11.heap.size := by have := blk_lt' h0; omega
 have h0 := (lift1 (hb := hb) h0)
 have s6 := (lift1 (hb := hb) s6)
 have s7 := (lift1 (hb := hb) s7)
 have s15 := (lift1 (hb := hb) s15)
 have s16 := (lift1 (hb := hb) s16)
 have s17 := (lift1 (hb := hb) s17)
 have hB := (liftB1 hB hb)
 have s18 := (new1_0 hb)
 clear hb
 go_wp2_with fail
 refine (FormA_any _ _ _ _ _).mono ?_
 rintro e w13 ⟨rfl, hb⟩
 have n19 : w.heap.size ≠ w12.heap.size := by have := blk_lt' h0; omega
 have h0 := (lift1 (hb := hb) h0)
 have s6 := (lift1 (hb := hb) s6)
 have s7 := (lift1 (hb := hb) s7)
 have s15 := (lift1 (hb := hb) s15)
 have s16 := (lift1 (hb := hb) s16)
 have s17 := (lift1 (hb := hb) s17)
 have s18 := (lift1 (hb := hb) s18)
 have hB := (liftB1 hB hb)
 have s19 := (new1_0 hb)
 clear hb
 go_wp2_with fail
 refine (FormA_any _ _ _ _ _).mono ?_
 rintro e w14 ⟨rfl, hb⟩
 have n20 : w.heap.size ≠ w13.heap.size := by have := blk_lt' h0; omega
 have h0 := (lift1 (hb := hb) h0)
 have s6 := (lift1 (hb := hb) s6)
 have s7 := (lift1 (hb := hb) s7)
 have s15 := (lift1 (hb := hb) s15)
 have s16 := (lift1 (hb := hb) s16)
 have s17 := (lift1 (hb := hb) s17)
 have s18 := (lift1 (hb := hb) s18)
 have s19 := (lift1 (hb := hb) s19)
 have hB := (liftB1 hB hb)
 have s20 := (new1_0 hb)
 clear hb
 go_wp2_with fail
 refine (FormA_any _ _ _ _ _).mono ?_
 rintro e w15 ⟨rfl, hb⟩
 have n21 : w.heap.size ≠ w14.heap.size := by have := blk_lt' h0; omega
 have h0 := (lift1 (hb := hb) h0)
 have s6 := (lift1 (hb := hb) s6)
 have s7 := (lift1 (hb := hb) s7)
 have s15 := (lift1 (hb := hb) s15)
 have s16 := (lift1 (hb := hb) s16)
 have s17 := (lift1 (hb := hb) s17)
 have s18 := (lift1 (hb := hb) s18)
 have s19 := (lift1 (hb := hb) s19)
 have s20 := (lift1 (hb := hb) s20)
 have hB := (liftB1 hB hb)
 have s21 := (new1_0 hb)
 clear hb
 go_wp2_with fail
 refine (FormA_any _ _ _ _ _).mono ?_
 rintro e w16 ⟨rfl, hb⟩
 have n22 : w.heap.size ≠ w15.heap.size := by have := blk_lt' h0; omega
 have h0 := (lift1 (hb := hb) h0)
 have s6 := (lift1 (hb := hb) s6)
 have s7 := (lift1 (hb := hb) s7)
 have s15 := (lift1 (hb := hb) s15)
 have s16 := (lift1 (hb := hb) s16)
 have s17 := (lift1 (hb := hb) s17)
 have s18 := (lift1 (hb := hb) s18)
 have s19 := (lift1 (hb := hb) s19)
 have s20 := (lift1 (hb := hb) s20)
 have s21 := (lift1 (hb := hb) s21)
 have hB := (liftB1 hB hb)
 have s22 := (new1_0 hb)
 clear hb
 go_wp2_with fail
 refine (FormA_any _ _ _ _ _).mono ?_
 rintro e w17 ⟨rfl, hb⟩
 have n23 : w.heap.size ≠ w16.heap.size := by have := blk_lt' h0; omega
 have h0 := (lift1 (hb := hb) h0)
 have s6 := (lift1 (hb := hb) s6)
 have s7 := (lift1 (hb := hb) s7)
 have s15 := (lift1 (hb := hb) s15)
 have s16 := (lift1 (hb := hb) s16)
 have s17 := (lift1 (hb := hb) s17)
 have s18 := (lift1 (hb := hb) s18)
 have s19 := (lift1 (hb := hb) s19)
 have s20 := (lift1 (hb := hb) s20)
 have s21 := (lift1 (hb := hb) s21)
 have s22 := (lift1 (hb := hb) s22)
 have hB := (liftB1 hB hb)
 have s23 := (new1_0 hb)
 clear hb
 go_wp2_with fail
 refine (FormA_any _ _ _ _ _).mono ?_
 rintro e w18 ⟨rfl, hb⟩
 have n24 : w.heap.size ≠ w17.heap.size := by have := blk_lt' h0; omega
 have h0 := (lift1 (hb := hb) h0)
 have s6 := (lift1 (hb := hb) s6)
 have s7 := (lift1 (hb := hb) s7)
 have s15 := (lift1 (hb := hb) s15)
 have s16 := (lift1 (hb := hb) s16)
 have s17 := (lift1 (hb := hb) s17)
 have s18 := (lift1 (hb := hb) s18)
 have s19 := (lift1 (hb := hb) s19)
 have s20 := (lift1 (hb := hb) s20)
 have s21 := (lift1 (hb := hb) s21)
 have s22 := (lift1 (hb := hb) s22)
 have s23 := (lift1 (hb := hb) s23)
 have hB := (liftB1 hB hb)
 have s24 := (new1_0 hb)
 clear hb
 have hsz : (gformsA (.slice (some ⟨w4.heap.size, 0, none⟩) 2 2) (.slice (some ⟨w4.heap.size + 1, 0, none⟩) 3 3) (.slice (some ⟨w8.heap.size, 0, none⟩) 2 2) (.slice (some ⟨w9.heap.size, 0, none⟩) 4 4) (.slice (some ⟨w10.heap.size, 0, none⟩) 2 2) (.slice (some ⟨w11.heap.size, 0, none⟩) 2 2) (.slice (some ⟨w12.heap.size, 0, none⟩) 2 2) (.slice (some ⟨w13.heap.size, 0, none⟩) 3 3) (.slice (some ⟨w14.heap.size, 0, none⟩) 1 1) (.slice (some ⟨w15.heap.size, 0, none⟩) 1 1) (.slice (some ⟨w16.heap.size, 0, none⟩) 1 1) (.slice (some ⟨w17.heap.size, 0, none⟩) 1 1)).size = 125 := size_gformsA _ _ _ _ _ _ _ _ _ _ _ _
 have hst := stForms_at h0 zeroForms hsz (gforms_one _ _ _ _ _ _ _ _ _ _ _ _)
 go_wp2
 refine post_cellrow rfl (by rfl) h0 Tryz.underlying115 rfl (by rw [hsz]; exact gformsSize) (by rfl) ?_
 exact ⟨_, _, _, _, _, _, _, _, _, _, _, _, rfl, (setRow_other _ _ _ _ n6.symm).trans s6, (setRow_other _ _ _ _ n7.symm).trans s7, (setRow_other _ _ _ _ n15.symm).trans s15, (setRow_other _ _ _ _ n16.symm).trans s16, (setRow_other _ _ _ _ n17.symm).trans s17, (setRow_other _ _ _ _ n18.symm).trans s18, (setRow_other _ _ _ _ n19.symm).trans s19, (setRow_other _ _ _ _ n20.symm).trans s20, (setRow_other _ _ _ _ n21.symm).trans s21, (setRow_other _ _ _ _ n22.symm).trans s22, (setRow_other _ _ _ _ n23.symm).trans s23, (setRow_other _ _ _ _ n24.symm).trans s24, hB.grown (grown_setRow _ _ _) hB.size (fun j e => by cases e; exact Nat.le_refl _)⟩
end Go.Proofs.YtibflgfhjfcifaaGreatDoor
