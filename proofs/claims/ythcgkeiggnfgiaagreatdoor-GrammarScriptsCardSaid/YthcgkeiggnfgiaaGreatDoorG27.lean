/-
  What holds of terms that are right, in plain words.
  Contracts of the reference's Check of a template, and of its Priority.
  Contracts of the reference's Match, allowed and named.
-/
import Derived.Test.YthcgkeiggnfgiaaGreatDoorG18
import Derived.Test.YthcgkeiggnfgiaaGreatDoorRLC
import Derived.Test.YthcgkeiggnfgiaaGreatDoorG21
import Derived.Test.YthcgkeiggnfgiaaGreatDoorRefR
namespace Go.Proofs.YthcgkeiggnfgiaaGreatDoor
open Go.RowKit
theorem firstE_mem {l : List Tm} (h : firstE l = 0) : ∀ t ∈ l, termE t = 0 := by
  induction l with
  | nil => intro t ht; cases ht
  | cons x r ih =>
    rw [firstE] at h
    by_cases hx : termE x = 0
    · rw [if_pos hx] at h
      intro t ht
      rcases List.mem_cons.1 ht with rfl | ht
      · exact hx
      · exact ih h t ht
    · rw [if_neg hx] at h; exact absurd h hx
theorem checkE_ok {l : List Tm} (h : checkE l = 0) : 1 ≤ l.length ∧ l.length ≤ 16 ∧ ∀ t ∈ l, termE t = 0 := by
  unfold checkE at h
  split at h
  · cases h
  split at h
  · cases h
  split at h
  · rename_i h1 h2 h3; exact absurd h h3
  · rename_i h1 h2 h3
    exact ⟨by omega, by omega, firstE_mem (by
      by_cases h0 : firstE l = 0
      · exact h0
      · exact absurd h0 h3)⟩
/-- What a term that is right looks like. -/
structure TmRight (t : Tm) : Prop where
  k0 : 1 ≤ t.key
  k1 : t.key ≤ 24
  o0 : 1 ≤ t.op
  o1 : t.op ≤ 6
  name : t.name.size ≤ 32
  value : t.value.size ≤ 256
theorem validS_len {l : Str} (h : validS l = true) : l.length ≤ 32 := by
  unfold validS at h
  simp only [Bool.and_eq_true, decide_eq_true_eq] at h
  exact h.1.1.2
theorem keyS_len {l : Str} (h : keyS l = true) : l.length ≤ 32 := by
  unfold keyS at h
  simp only [Bool.and_eq_true, decide_eq_true_eq] at h
  exact h.1.1.2
theorem tmplB_len {l : Str} (h : tmplB l = true) : l.length ≤ 256 := by
  by_cases hl : 256 < l.length
  · unfold tmplB parseR at h
    rw [if_pos hl] at h
    cases h
  · omega
theorem patB_len {l : Str} (h : patB l = true) : l.length ≤ 256 := by
  by_cases hl : 256 < l.length
  · unfold patB globE at h
    rw [if_pos hl] at h
    cases h
  · omega
theorem dec_len : ∀ (n m : Nat), n < 10 ^ m → 1 ≤ m → (Lib.decDigits n).length ≤ m
  | n, 0, _, h => by omega
  | n, m + 1, h, _ => by
    rw [Lib.decDigits]
    split
    · simp
    · rename_i hn
      rw [List.length_append, List.length_singleton]
      have : n / 10 < 10 ^ m := by
        rw [Nat.div_lt_iff_lt_mul (by omega)]
        rw [Nat.pow_succ] at h
        exact h
      have hm : 1 ≤ m := by
        rcases Nat.eq_zero_or_pos m with rfl | hm
        · simp at this; omega
        · exact hm
      have := dec_len (n / 10) m this hm
      omega
theorem itoa_len (n : Int) (h1 : -1000 ≤ n) (h2 : n ≤ 1000) : (Lib.itoa n).length ≤ 5 := by
  unfold Lib.itoa
  split
  · have := dec_len n.natAbs 4 (by omega) (by omega)
    simp only [List.length_cons] at *
    first | omega | (simp; omega)
  · have := dec_len n.toNat 4 (by omega) (by omega)
    omega
theorem priS_len {l : Str} (h : priS l = true) : l.length ≤ 256 := by
  unfold priS at h
  rw [List.any_eq_true] at h
  obtain ⟨k, hk, e⟩ := h
  have hk := List.mem_range.1 hk
  have e : Lib.itoa ((k : Int) - 1000) = l := by simpa using e
  rw [← e]
  have := itoa_len ((k : Int) - 1000) (by omega) (by omega)
  omega
theorem opsK_mem {k op : Int} (h : (opsK k).contains op = true) : 3 ≤ op ∧ op ≤ 6 := by
  have h := List.contains_iff_mem.1 h
  unfold opsK at h
  repeat' split at h
  all_goals
    simp only [List.mem_cons, List.not_mem_nil, or_false] at h
  all_goals omega
theorem termE_right {t : Tm} (h : termE t = 0) : TmRight t := by
  unfold termE at h
  split at h
  · cases h
  rename_i hk
  split at h
  · cases h
  rename_i hn
  split at h
  · cases h
  rename_i ha
  split at h
  · cases h
  rename_i hr
  have hn : namedB t.key (L t.name) = true := by simpa using hn
  have ha : allowedB t.key t.op = true := by simpa using ha
  have hr : rightB t.key t.op (L t.name) (L t.value) = true := by simpa using hr
  have hop : 1 ≤ t.op ∧ t.op ≤ 6 := by
    unfold allowedB at ha
    split at ha
    · rename_i hm
      unfold matchB at hm
      simp only [Bool.or_eq_true, beq_iff_eq] at hm
      omega
    · have := opsK_mem ha; omega
  have hname : (L t.name).length ≤ 32 := by
    unfold namedB at hn
    repeat' split at hn
    · exact validS_len hn
    · exact keyS_len hn
    · simp only [Bool.or_eq_true, beq_iff_eq] at hn
      rcases hn with (h | h) | h <;> rw [h] <;> decide
    · rw [List.isEmpty_iff] at hn
      rw [hn]; decide
  have hval : (L t.value).length ≤ 256 := by
    unfold rightB at hr
    repeat' split at hr
    · exact priS_len hr
    · have := validS_len hr; omega
    · simp only [Bool.or_eq_true, beq_iff_eq] at hr
      rcases hr with (h | h) | h <;> rw [h] <;> decide
    · exact tmplB_len hr
    · exact patB_len hr
    · exact patB_len hr
    · exact tmplB_len hr
  rw [len_L] at hname hval
  exact ⟨by omega, by omega, hop.1, hop.2, hname, hval⟩
end Go.Proofs.YthcgkeiggnfgiaaGreatDoor
namespace Go.Proofs.YthcgkeiggnfgiaaGreatDoor
open Go.RowKit
set_option maxRecDepth 100000 in
set_option maxHeartbeats 1000000 in
theorem RTCheck_any (s : ByteArray) (w : World) (hE : Env0 w) (hs : s.size ≤ 9223372036854775807) :
    Calls Tryz.prog 108 #[.string s] w fun e w' => e = .returned (.int .i64 (parseR (L s)).2) ∧ Below w.heap.size w w' := by
  have HP := Lib.hid (RParse_any s w hE hs)
  unfold ParsePost at HP
  clear hE
  go_enter Tryz.func108, Tryz.ntmps108
  go_wp2_with (go_at_call 164; refine HP.out.mono ?_; rintro e w1 ⟨v, rfl, ho, hb⟩)
  go_ret
  exact ⟨rfl, hb⟩
/-- What Priority gives. -/
def PriPost (s : Str) (w : World) (e : Ending) (w' : World) : Prop := ∃ n : Int, e = .returned (.tuple #[.int .i64 n, .bool (priS s)]) ∧ Below w.heap.size w w'
theorem priS_no (s : Str) (h : ∀ k : Nat, k < 2001 → Lib.itoa ((k : Int) - 1000) ≠ s) : priS s = false := by
  unfold priS
  rw [List.any_eq_false]
  intro k hk
  simpa using h k (List.mem_range.1 hk)
theorem priS_yes (s : Str) (k : Nat) (hk : k < 2001) (h : Lib.itoa ((k : Int) - 1000) = s) : priS s = true := by
  unfold priS
  rw [List.any_eq_true]
  exact ⟨k, List.mem_range.2 hk, by simpa using h⟩
set_option maxRecDepth 100000 in
set_option maxHeartbeats 1000000 in
theorem RPriority_any (s : ByteArray) (w : World) (hE : Env0 w) (_hs : s.size ≤ 9223372036854775807) :
    Calls Tryz.prog 27 #[.string s] w (PriPost (L s) w) := by
  have HE := Lib.hid hE
  clear hE
  go_enter Tryz.func27, Tryz.ntmps27
  go_wp2
  go_loopg [4] 2002 (fun gk s4 wr => ∃ m : Int, s4 = .int .i64 m ∧ -1000 ≤ m ∧ m ≤ 1001 ∧ m + gk = 1002 ∧ Hid (Below w.heap.size w wr) ∧ Hid (∀ k : Nat, (k : Int) - 1000 < m → Lib.itoa ((k : Int) - 1000) ≠ L s))
  case atStart => exact ⟨-1000, rfl, by omega, by omega, by omega, Below.refl _ _, fun k hk => by omega⟩
  case round =>
    obtain ⟨m, rfl, hm1, hm2, hmg, hB, hno⟩ := hrel
    by_cases hm : m ≤ 1000
    · have HI := Lib.hid (fun W (hW : Env0 W) => Itoa_any m (by omega) (by omega) W hW)
      have heq : ((bs (Lib.itoa m)).toList == s.toList) = (Lib.itoa m == L s) := by rw [tl, tl, L_bs]
      cases hq : (Lib.itoa m == L s)
      · rw [hq] at heq
        have hne : Lib.itoa m ≠ L s := by simpa using hq
        have HNE := Lib.hid hne
        generalize bs (Lib.itoa m) = it at *
        clear hq hne
        go_wp2_with (go_at_call 62; refine (HI.out _ (HE.out.go hB.out)).mono ?_; rintro e w1 ⟨rfl, hb1⟩)
        go_roundg (gk - 1)
        case measure => omega
        case rel =>
          refine ⟨m + 1, rfl, by omega, by omega, by omega, bt hB.out hb1, fun k hk => ?_⟩
          by_cases hk2 : (k : Int) - 1000 = m
          · rw [hk2]; exact HNE.out
          · exact hno.out k (by omega)
      · rw [hq] at heq
        have hyes : Lib.itoa m = L s := by simpa using hq
        have HY : Hid (priS (L s) = true) := Lib.hid (priS_yes (L s) (m + 1000).toNat (by omega) (by rw [← hyes]; congr 1; omega))
        generalize bs (Lib.itoa m) = it at *
        clear hq hyes
        go_wp2_with (go_at_call 62; refine (HI.out _ (HE.out.go hB.out)).mono ?_; rintro e w1 ⟨rfl, hb1⟩)
        go_ret2
        exact ⟨m, by rw [HY.out]; rfl, bt hB.out hb1⟩
    · have hm : 1000 < m := by omega
      have HN : Hid (priS (L s) = false) := Lib.hid (priS_no _ (fun k hk => hno.out k (by omega)))
      go_wp2
      go_ret2
      exact ⟨0, by rw [HN.out]; rfl, hB.out⟩
end Go.Proofs.YthcgkeiggnfgiaaGreatDoor
namespace Go.Proofs.YthcgkeiggnfgiaaGreatDoor
open Go.RowKit
set_option maxRecDepth 100000 in
set_option maxHeartbeats 1000000 in
theorem RMatch_any (t : Tm) (w : World) : Calls Tryz.prog 33 #[tmV t] w fun e w' => e = .returned (.bool (matchB t.op)) ∧ Below w.heap.size w w' := by
  unfold tmV
  by_cases h1 : t.op = 1
  · have e1 : (t.op == 1) = true := by simpa using h1
    have HM : Hid (matchB t.op = true) := Lib.hid (by simp [matchB, h1])
    clear h1
    go_enter Tryz.func33, Tryz.ntmps33
    go_wp2
    go_ret
    exact ⟨ret_bool (by rw [HM.out]), by go_grown⟩
  · have e1 : (t.op == 1) = false := by simpa using h1
    have HM : Hid (matchB t.op = (t.op == 2)) := Lib.hid (by simp [matchB, e1])
    clear h1
    go_enter Tryz.func33, Tryz.ntmps33
    go_wp2
    go_ret
    exact ⟨ret_bool (by rw [HM.out]), by go_grown⟩
theorem box4 {W w1 : World} {x0 x1 x2 x3 : Value} {T : TypeId} (hb : Below (W.alloc (.cells #[x0, x1, x2, x3] T)).heap.size (W.alloc (.cells #[x0, x1, x2, x3] T)) w1) :
    w1.cell? ⟨W.heap.size, 0, none⟩ = some x0 ∧ w1.cell? ⟨W.heap.size, 1, none⟩ = some x1 ∧ w1.cell? ⟨W.heap.size, 2, none⟩ = some x2 ∧ w1.cell? ⟨W.heap.size, 3, none⟩ = some x3 :=
  (res4 ((hb.block _ (by simp)).trans (heap_alloc_new W _))).1
theorem opsK_no {k op : Int} (h : ¬(op = 3 ∨ op = 4 ∨ op = 5 ∨ op = 6)) : (opsK k).contains op = false := by
  have h3 : op ≠ 3 := fun e => h (by simp [e])
  have h4 : op ≠ 4 := fun e => h (by simp [e])
  have h5 : op ≠ 5 := fun e => h (by simp [e])
  have h6 : op ≠ 6 := fun e => h (by simp [e])
  unfold opsK
  repeat (split; · simp [h3, h4, h5, h6])
  simp
theorem opsK_nil {k : Int} (h : ¬(k = 6 ∨ k = 7 ∨ k = 15 ∨ k = 17 ∨ k = 18 ∨ k = 19 ∨ k = 16 ∨ k = 20 ∨ k = 21 ∨ k = 22 ∨ k = 23 ∨ k = 24)) : opsK k = [] := by
  simp only [not_or] at h
  simp [opsK, h]
set_option maxRecDepth 100000 in
set_option maxHeartbeats 8000000 in
theorem RAllowed_any (t : Tm) (w : World) : Calls Tryz.prog 67 #[tmV t] w fun e w' => e = .returned (.bool (allowedB t.key t.op)) ∧ Below w.heap.size w w' := by
  obtain ⟨k, nm, op, v⟩ := t
  have HM := fun W => RMatch_any ⟨k, nm, op, v⟩ W
  unfold tmV at HM ⊢
  dsimp only at HM ⊢
  by_cases hm : matchB op = true
  · rw [hm] at HM
    have HR : Hid (allowedB k op = decide (k ≤ 14)) := Lib.hid (by rw [allowedB, if_pos hm])
    have HM := Lib.hid HM
    clear hm
    go_enter Tryz.func67, Tryz.ntmps67
    go_wp2_with (go_at_call 33; refine (HM.out _).mono ?_; rintro e w1 ⟨rfl, hb⟩; obtain ⟨c0, c1, c2, c3⟩ := box4 hb)
    go_ret
    exact ⟨ret_bool (by rw [HR.out]), by first | exact ((Below.refl _ _).alloc (Nat.le_refl _) _).trans (hb.mono (by simp)) | go_grown⟩
  · have hm : matchB op = false := by simpa using hm
    rw [hm] at HM
    have HR : Hid (allowedB k op = (opsK k).contains op) := Lib.hid (by rw [allowedB, hm]; rfl)
    have HM := Lib.hid HM
    clear hm
    by_cases ho : op = 3 ∨ op = 4 ∨ op = 5 ∨ op = 6
    · by_cases hk : k = 6 ∨ k = 7 ∨ k = 15 ∨ k = 17 ∨ k = 18 ∨ k = 19 ∨ k = 16 ∨ k = 20 ∨ k = 21 ∨ k = 22 ∨ k = 23 ∨ k = 24
      · rcases hk with rfl | rfl | rfl | rfl | rfl | rfl | rfl | rfl | rfl | rfl | rfl | rfl
        all_goals
          rcases ho with rfl | rfl | rfl | rfl
        all_goals
          go_enter Tryz.func67, Tryz.ntmps67
          go_wp2_with (go_at_call 33; refine (HM.out _).mono ?_; rintro e w1 ⟨rfl, hb⟩; obtain ⟨c0, c1, c2, c3⟩ := box4 hb)
          go_ret
          exact ⟨ret_bool (by rw [HR.out]; decide), ((Below.refl _ _).alloc (Nat.le_refl _) _).trans (hb.mono (by simp))⟩
      · have HN := Lib.hid (opsK_nil hk)
        obtain ⟨n6, n7, n15, n17, n18, n19, n16, n20, n21, n22, n23, n24⟩ : (k == 6) = false ∧ (k == 7) = false ∧ (k == 15) = false ∧ (k == 17) = false ∧ (k == 18) = false ∧ (k == 19) = false ∧ (k == 16) = false ∧ (k == 20) = false ∧ (k == 21) = false ∧ (k == 22) = false ∧ (k == 23) = false ∧ (k == 24) = false := by simp only [not_or] at hk; simp [hk]
        clear hk ho
        go_enter Tryz.func67, Tryz.ntmps67
        go_wp2_with (go_at_call 33; refine (HM.out _).mono ?_; rintro e w1 ⟨rfl, hb⟩; obtain ⟨c0, c1, c2, c3⟩ := box4 hb)
        go_ret
        exact ⟨ret_bool (by rw [HR.out, HN.out]; rfl), ((Below.refl _ _).alloc (Nat.le_refl _) _).trans (hb.mono (by simp))⟩
    · have HN := Lib.hid (opsK_no (k := k) ho)
      have e3 : (op == 3) = false := by simp only [not_or] at ho; simp [ho]
      have e4 : (op == 4) = false := by simp only [not_or] at ho; simp [ho]
      have e5 : (op == 5) = false := by simp only [not_or] at ho; simp [ho]
      have e6 : (op == 6) = false := by simp only [not_or] at ho; simp [ho]
      have l3 : op < 3 ∨ 6 < op := by omega
      clear ho
      by_cases hk : k = 6 ∨ k = 7 ∨ k = 15 ∨ k = 17 ∨ k = 18 ∨ k = 19 ∨ k = 16 ∨ k = 20 ∨ k = 21 ∨ k = 22 ∨ k = 23 ∨ k = 24
      · rcases hk with rfl | rfl | rfl | rfl | rfl | rfl | rfl | rfl | rfl | rfl | rfl | rfl
        all_goals
          rcases l3 with l3 | l3
        all_goals
          go_enter Tryz.func67, Tryz.ntmps67
          go_wp2_with (go_at_call 33; refine (HM.out _).mono ?_; rintro e w1 ⟨rfl, hb⟩; obtain ⟨c0, c1, c2, c3⟩ := box4 hb)
          go_ret
          exact ⟨ret_bool (by rw [HR.out, HN.out]; try (simp; omega)), ((Below.refl _ _).alloc (Nat.le_refl _) _).trans (hb.mono (by simp))⟩
      · obtain ⟨n6, n7, n15, n17, n18, n19, n16, n20, n21, n22, n23, n24⟩ : (k == 6) = false ∧ (k == 7) = false ∧ (k == 15) = false ∧ (k == 17) = false ∧ (k == 18) = false ∧ (k == 19) = false ∧ (k == 16) = false ∧ (k == 20) = false ∧ (k == 21) = false ∧ (k == 22) = false ∧ (k == 23) = false ∧ (k == 24) = false := by simp only [not_or] at hk; simp [hk]
        clear hk l3
        go_enter Tryz.func67, Tryz.ntmps67
        go_wp2_with (go_at_call 33; refine (HM.out _).mono ?_; rintro e w1 ⟨rfl, hb⟩; obtain ⟨c0, c1, c2, c3⟩ := box4 hb)
        go_ret
        exact ⟨ret_bool (by rw [HR.out, HN.out]; try (simp; omega)), ((Below.refl _ _).alloc (Nat.le_refl _) _).trans (hb.mono (by simp))⟩
theorem named_14 (nm : ByteArray) (p : Bool) (h : (L nm == programL || L nm == parentL || L nm == builtinL) = p) : namedB 14 (L nm) = p := by
  rw [← h]; rfl
set_option maxRecDepth 100000 in
set_option maxHeartbeats 4000000 in
theorem RNamed_any (t : Tm) (w : World) (hs : t.name.size ≤ 9223372036854775807) : Calls Tryz.prog 66 #[tmV t] w fun e w' => e = .returned (.bool (namedB t.key (L t.name))) ∧ Below w.heap.size w w' := by
  obtain ⟨k, nm, op, v⟩ := t
  unfold tmV
  dsimp only at hs ⊢
  have HV := fun W => RValid_any nm W hs
  have HK := fun W => RKey_any nm W hs
  by_cases h5 : k = 5 ∨ k = 11
  · have HR : Hid (namedB k (L nm) = validS (L nm)) := Lib.hid (by rw [namedB, if_pos h5])
    have HV := Lib.hid HV
    clear HK
    rcases h5 with rfl | rfl
    all_goals
      go_enter Tryz.func66, Tryz.ntmps66
      go_wp2_with (go_at_call 58; refine (HV.out _).mono ?_; rintro e w1 ⟨rfl, rfl⟩)
      go_ret
      exact ⟨ret_bool (by rw [HR.out]), by first | exact ((Below.refl _ _).alloc (Nat.le_refl _) _).trans (hb.mono (by simp)) | go_grown⟩
  have n5 : (k == 5) = false := by simp only [not_or] at h5; simp [h5]
  have n11 : (k == 11) = false := by simp only [not_or] at h5; simp [h5]
  by_cases h6 : k = 6
  · subst h6
    have HR : Hid (namedB 6 (L nm) = keyS (L nm)) := Lib.hid rfl
    have HK := Lib.hid HK
    clear HV h5
    go_enter Tryz.func66, Tryz.ntmps66
    go_wp2_with (go_at_call 107; refine (HK.out _).mono ?_; rintro e w1 ⟨rfl, rfl⟩)
    go_ret
    exact ⟨ret_bool (by rw [HR.out]), by first | exact ((Below.refl _ _).alloc (Nat.le_refl _) _).trans (hb.mono (by simp)) | go_grown⟩
  clear HV HK
  by_cases h14 : k = 14
  · subst h14
    clear h5 h6 n5 n11
    by_cases e1 : nm.toList = programL
    · have HR : Hid (namedB 14 (L nm) = true) := Lib.hid (named_14 _ _ (by rw [← tl, e1]; rfl))
      unfold programL at e1
      go_enter Tryz.func66, Tryz.ntmps66
      go_wp2
      go_ret
      exact ⟨ret_bool (by rw [HR.out]), by go_grown⟩
    · by_cases e2 : nm.toList = parentL
      · have HR : Hid (namedB 14 (L nm) = true) := Lib.hid (named_14 _ _ (by rw [← tl, e2]; rfl))
        unfold parentL at e2
        unfold programL at e1
        go_enter Tryz.func66, Tryz.ntmps66
        go_wp2
        go_ret
        exact ⟨ret_bool (by rw [HR.out]), by go_grown⟩
      · have HR : Hid (namedB 14 (L nm) = (nm.toList == builtinL)) := Lib.hid (named_14 _ _ (by rw [← tl]; simp [e1, e2]))
        unfold programL at e1
        unfold parentL at e2
        go_enter Tryz.func66, Tryz.ntmps66
        go_wp2
        go_ret
        exact ⟨ret_bool (by rw [HR.out]; simp [builtinL, e1, e2]), by go_grown⟩
  have n6 : (k == 6) = false := by simp [h6]
  have n14 : (k == 14) = false := by simp [h14]
  have HR : Hid (namedB k (L nm) = (L nm).isEmpty) := Lib.hid (by simp only [namedB, h5, h6, h14, if_false])
  clear h5 h6 h14
  go_enter Tryz.func66, Tryz.ntmps66
  go_wp2
  go_ret
  exact ⟨ret_bool (by rw [HR.out, ← tl] <;> simp), by go_grown⟩
end Go.Proofs.YthcgkeiggnfgiaaGreatDoor
