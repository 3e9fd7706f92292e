/-
  The law GrammarBack, walked. (Printed by gen_lback.py.)
-/
import Derived.Test.YthcgkeiggnfgiaaGreatDoorG49
import Derived.Test.YthcgkeiggnfgiaaGreatDoorG52
import Derived.Test.YthcgkeiggnfgiaaGreatDoorG53
import Derived.Test.YthcgkeiggnfgiaaGreatDoorG50
namespace Go.Proofs.YthcgkeiggnfgiaaGreatDoor
open Go.RowKit
/-- Terms that Parse hands back: what the laws ask of them. -/
structure ParsedX (w w' : World) (A : Option Addr) (x : List Tm) : Prop where
  row : RowAt w' w'.heap.size A 4 x.length (cellsOf encTm x)
  low : Below w.heap.size w w'
theorem ParsedX.of {w w' : World} {A : Option Addr} {c : Nat} {x : List Tm} (h : OutM w x (.slice A x.length c) w') : ParsedX w w' A x := ⟨RowAt.of_own h.1, h.2⟩
def BackPost (w : World) (e : Ending) (w' : World) : Prop := e = .returned (.bool true) ∧ Below w.heap.size w w'
theorem ret_bool_b {b : Bool} (h : b = true) : Ending.returned (.bool b) = .returned (.bool true) := by rw [h]
/-- Parse, for a line whose terms are known. -/
theorem PParse_ok {s : ByteArray} {x : List Tm} (h : parseL (L s) = .ok x) (w : World) (hE : Env w) (hs : s.size ≤ 9223372036854775807) :
    Calls Tryz.prog 42 #[.string s] w fun e w' => ∃ A c, e = .returned (.tuple #[.slice A x.length c, .int .i64 0]) ∧ ParsedX w w' A x := by
  have := PParse_any s w hE hs
  rw [h] at this
  refine this.mono ?_
  rintro e w' ⟨v, rfl, hO⟩
  obtain ⟨A, c, rfl⟩ := own_slice hO.1
  exact ⟨A, c, rfl, ParsedX.of hO⟩
theorem PParse_bad {s : ByteArray} {n : Int} (h : parseL (L s) = .error n) (w : World) (hE : Env w) (hs : s.size ≤ 9223372036854775807) :
    Calls Tryz.prog 42 #[.string s] w fun e w' => e = .returned (.tuple #[.slice none 0 0, .int .i64 n]) ∧ Below w.heap.size w w' := by
  have := PParse_any s w hE hs
  rw [h] at this
  exact this
set_option maxRecDepth 100000 in
set_option maxHeartbeats 4000000 in
theorem lawBack (raw : ByteArray) (A : Option Addr) (n c : Nat) (w : World) (hE : Env w) (hs : raw.size ≤ 9223372036854775807) (hI : IntsIn w A n) :
    Calls Tryz.prog 10 #[.string raw, .slice A n c] w fun e w' => e = .returned (.bool true) ∧ Below w.heap.size w w' := by
  have HS := Lib.hid (Spoilt_new c hI)
  have HE := Lib.hid (fun (W : World) (hW : Below w.heap.size w W) => hE.go hW)
  have HKn := Lib.hid (fun (W : World) (hW : Below w.heap.size w W) => known10_any W (hE.go hW))
  have HPB : Hid (∀ e, parseL (L raw) = .error e → ∀ W, Below w.heap.size w W → Calls Tryz.prog 42 #[.string raw] W fun e' w' => e' = .returned (.tuple #[.slice none 0 0, .int .i64 e]) ∧ Below W.heap.size W w') := Lib.hid fun e h W hW => PParse_bad h W (hE.go hW) hs
  have HPO : Hid (∀ x, parseL (L raw) = .ok x → ∀ W, Below w.heap.size w W → Calls Tryz.prog 42 #[.string raw] W fun e w' => ∃ A c, e = .returned (.tuple #[.slice A x.length c, .int .i64 0]) ∧ ParsedX W w' A x) := Lib.hid fun x h W hW => PParse_ok h W (hE.go hW) hs
  clear hE hI
  go_enter Tryz.func10, Tryz.ntmps10
  go_wp2_with fail
  refine HS.out.mono ?_
  rintro e w1 ⟨XA, xc, x, rfl, hx40, hX, hsm, hb1⟩
  have HB1 := Lib.hid hb1
  have HX := Lib.hid hX
  have HF : Hid (Calls Tryz.prog 41 #[.slice XA x.length xc] w1 (FormatPost x w1)) := Lib.hid (PFormat_any XA xc x w1 (HE.out _ hb1) hX (by omega) (fun t ht => (hsm t ht).pre (by omega)))
  have HC : Hid (∀ W, Below w1.heap.size w1 W → Calls Tryz.prog 28 #[.slice XA x.length xc] W fun e w' => e = .returned (.int .i64 (checkE x)) ∧ Below W.heap.size W w') := Lib.hid fun W hW => PTCheck_any XA xc x W (HE.out _ (bt hb1 hW)) ((hX.keep hW).up hW.size) (by omega) (fun t ht => (hsm t ht).pre (by omega))
  unfold FormatPost at HF
  have HBk := Lib.hid (fun (h : (formatE x).2 = 0) => format_back (x := x) (s := (formatE x).1) (by rw [← h]))
  have HLe := Lib.hid (formatE_len x)
  clear hb1 hX hsm HS
  generalize (formatE x).1 = u at *
  generalize (formatE x).2 = r at *
  by_cases hr : r = 0
  · subst hr
    obtain ⟨hpx, hcx⟩ := HBk.out rfl
    rw [hcx] at HC
    have HP : Hid (∀ W, Below w1.heap.size w1 W → Calls Tryz.prog 42 #[.string (bs u)] W fun e w' => ∃ A c, e = .returned (.tuple #[.slice A x.length c, .int .i64 0]) ∧ ParsedX W w' A x) := Lib.hid fun W hW => PParse_ok (by rw [L_bs]; exact hpx) W (HE.out _ (bt HB1.out hW)) (by rw [size_bs]; have := HLe.out; omega)
    have HSm : Hid (∀ W YA yc, Below w1.heap.size w1 W → RowAt W W.heap.size YA 4 x.length (cellsOf encTm x) → Calls Tryz.prog 43 #[.slice XA x.length xc, .slice YA x.length yc] W fun e w' => e = .returned (.bool true) ∧ Below W.heap.size W w') := Lib.hid fun W YA yc hW hY => SameTerms_yes XA YA xc yc x W (by omega) ((HX.out.keep hW).up hW.size) hY
    clear hpx hcx HBk HLe
    generalize bs u = us at *
    obtain ⟨N, hN⟩ : ∃ N, x.length = N := ⟨_, rfl⟩
    have HN := Lib.hid hN
    rw [hN] at HF HC HP HSm ⊢
    clear hN
    go_upto_if 48 with (first
      | (go_at_call 41; refine HF.out.mono ?_; rintro e w2 ⟨rfl, hb2⟩; have HB2 := Lib.hid hb2; clear hb2)
      | (go_at_call 42; refine (HP.out _ HB2.out).mono ?_; rintro e w3 ⟨YA, yc, rfl, hY⟩; have HB3 := Lib.hid (bt HB2.out hY.low); have HY := Lib.hid hY.row; clear hY)
      | (go_at_call 43; refine (HSm.out _ YA yc HB3.out (by have h := HY.out; rw [HN.out] at h; exact h)).mono ?_; rintro e w4 ⟨rfl, hb4⟩; have HB4 := Lib.hid (bt HB3.out hb4); clear hb4)
      | (go_at_call 28; refine (HC.out _ HB4.out).mono ?_; rintro e w5 ⟨rfl, hb5⟩; have HB5 := Lib.hid (bt HB1.out (bt HB4.out hb5)); clear hb5))
    clear HF HC HP HSm HB2 HB3 HY HB4 HX
    by_cases h900 : 900 < raw.size
    · have h9 : (900 : Int) < (raw.size : Int) := by omega
      clear h900
      go_wp2_with (go_at_call 30; refine (HKn.out _ HB5.out).mono ?_; rintro e w9 ⟨rfl, hb9⟩)
      go_ret
      exact ⟨rfl, bt HB5.out hb9⟩
    have h9 : ¬ (900 : Int) < (raw.size : Int) := by omega
    clear h900
    cases hp : parseL (L raw) with
    | error e =>
      have hne : (e == 0) = false := by simp [parse_err hp]
      have hne2 : (e != 0) = true := by rw [bne, hne]; rfl
      have HPr := Lib.hid (HPB.out e hp)
      clear hp HPB HPO
      go_wp2_with (first
        | (go_at_call 42; refine (HPr.out _ HB5.out).mono ?_; rintro e w6 ⟨rfl, hb6⟩)
        | (go_at_call 30; refine (HKn.out _ (bt HB5.out hb6)).mono ?_; rintro e w9 ⟨rfl, hb9⟩))
      go_ret
      exact ⟨rfl, bt HB5.out (bt hb6 hb9)⟩
    | ok y =>
      have HPr := Lib.hid (HPO.out y hp)
      obtain ⟨hc, hf⟩ := parse_good hp
      have hl16 := (checkE_ok hc).2.1
      have hri := right_of hc
      have HFy : Hid (∀ W A c, Below w.heap.size w W → RowAt W W.heap.size A 4 y.length (cellsOf encTm y) → Calls Tryz.prog 41 #[.slice A y.length c] W (FormatPost y W)) := Lib.hid fun W A c hW hR => PFormat_any A c y W (HE.out W hW) hR (by omega) (fun t ht => right_pre (hri t ht))
      have HSy : Hid (∀ W A c A' c', RowAt W W.heap.size A 4 y.length (cellsOf encTm y) → RowAt W W.heap.size A' 4 y.length (cellsOf encTm y) → Calls Tryz.prog 43 #[.slice A y.length c, .slice A' y.length c'] W fun e w' => e = .returned (.bool true) ∧ Below W.heap.size W w') := Lib.hid fun W A c A' c' h h' => SameTerms_yes A A' c c' y W (by omega) h h'
      have HBy := Lib.hid (fun (h : (formatE y).2 = 0) => format_back (x := y) (s := (formatE y).1) (by rw [← h]))
      have HLy := Lib.hid (formatE_len y)
      unfold FormatPost at HFy
      clear hp HPB HPO hc hri
      generalize (formatE y).1 = v at *
      generalize (formatE y).2 = q at *
      obtain ⟨M, hM⟩ : ∃ M, y.length = M := ⟨_, rfl⟩
      rw [hM] at hl16 HPr HFy HSy
      have HM := Lib.hid hM
      clear hM
      rcases hf with rfl | rfl
      · obtain ⟨hpy, _⟩ := HBy.out rfl
        have HPy : Hid (∀ W, Below w.heap.size w W → Calls Tryz.prog 42 #[.string (bs v)] W fun e w' => ∃ A c, e = .returned (.tuple #[.slice A M c, .int .i64 0]) ∧ ParsedX W w' A y) := Lib.hid fun W hW => by
          have h := PParse_ok (s := bs v) (x := y) (by rw [L_bs]; exact hpy) W (HE.out _ hW) (by rw [size_bs]; have := HLy.out; omega)
          rw [HM.out] at h
          exact h
        clear hpy HBy HLy
        generalize bs v = vs at *
        go_wp2_with (first
          | (go_at_call_of 42 (Value.string raw); refine (HPr.out _ HB5.out).mono ?_; rintro e w6 ⟨YA6, yc6, rfl, hY6⟩; have HB6 := Lib.hid (bt HB5.out hY6.low); have HY6 := Lib.hid hY6.row; clear hY6)
          | (go_at_call 41; refine (HFy.out _ YA6 yc6 HB6.out (by have h := HY6.out; rw [HM.out] at h; exact h)).mono ?_; rintro e w7 ⟨rfl, hb7⟩; have HB7 := Lib.hid (bt HB6.out hb7); have HY7 := Lib.hid ((HY6.out.keep hb7).up hb7.size); clear hb7)
          | (go_at_call_of 42 (Value.string vs); refine (HPy.out _ HB7.out).mono ?_; rintro e w8 ⟨YA8, yc8, rfl, hY8⟩; have HB8 := Lib.hid (bt HB7.out hY8.low); have HY8 := Lib.hid hY8.row; have HY78 := Lib.hid ((HY7.out.keep hY8.low).up hY8.low.size); clear hY8)
          | (go_at_call 43; refine (HSy.out _ YA6 yc6 YA8 yc8 (by have h := HY78.out; rw [HM.out] at h; exact h) (by have h := HY8.out; rw [HM.out] at h; exact h)).mono ?_; rintro e w9 ⟨rfl, hb9⟩; have HB9 := Lib.hid (bt HB8.out hb9); clear hb9)
          | (go_at_call 30; refine (HKn.out _ HB9.out).mono ?_; rintro e wa ⟨rfl, hba⟩; have HBa := Lib.hid (bt HB9.out hba); clear hba))
        go_ret
        exact ⟨rfl, HBa.out⟩
      · clear HBy HLy
        generalize bs v = vs at *
        go_wp2_with (first
          | (go_at_call_of 42 (Value.string raw); refine (HPr.out _ HB5.out).mono ?_; rintro e w6 ⟨YA6, yc6, rfl, hY6⟩; have HB6 := Lib.hid (bt HB5.out hY6.low); have HY6 := Lib.hid hY6.row; clear hY6)
          | (go_at_call 41; refine (HFy.out _ YA6 yc6 HB6.out (by have h := HY6.out; rw [HM.out] at h; exact h)).mono ?_; rintro e w7 ⟨rfl, hb7⟩; have HB7 := Lib.hid (bt HB6.out hb7); clear hb7)
          | (go_at_call 30; refine (HKn.out _ HB7.out).mono ?_; rintro e wa ⟨rfl, hba⟩; have HBa := Lib.hid (bt HB7.out hba); clear hba))
        go_ret
        exact ⟨rfl, HBa.out⟩
  · have hr0 : (r == 0) = false := by simp [hr]
    clear hr HBk HLe HC HX
    generalize bs u = us at *
    generalize x.length = N at *
    go_upto_if 48 with (first
      | (go_at_call 41; refine HF.out.mono ?_; rintro e w5 ⟨rfl, hb5⟩; have HB5 := Lib.hid (bt HB1.out hb5); clear hb5))
    clear HF
    by_cases h900 : 900 < raw.size
    · have h9 : (900 : Int) < (raw.size : Int) := by omega
      clear h900
      go_wp2_with (go_at_call 30; refine (HKn.out _ HB5.out).mono ?_; rintro e w9 ⟨rfl, hb9⟩)
      go_ret
      exact ⟨rfl, bt HB5.out hb9⟩
    have h9 : ¬ (900 : Int) < (raw.size : Int) := by omega
    clear h900
    cases hp : parseL (L raw) with
    | error e =>
      have hne : (e == 0) = false := by simp [parse_err hp]
      have hne2 : (e != 0) = true := by rw [bne, hne]; rfl
      have HPr := Lib.hid (HPB.out e hp)
      clear hp HPB HPO
      go_wp2_with (first
        | (go_at_call 42; refine (HPr.out _ HB5.out).mono ?_; rintro e w6 ⟨rfl, hb6⟩)
        | (go_at_call 30; refine (HKn.out _ (bt HB5.out hb6)).mono ?_; rintro e w9 ⟨rfl, hb9⟩))
      go_ret
      exact ⟨rfl, bt HB5.out (bt hb6 hb9)⟩
    | ok y =>
      have HPr := Lib.hid (HPO.out y hp)
      obtain ⟨hc, hf⟩ := parse_good hp
      have hl16 := (checkE_ok hc).2.1
      have hri := right_of hc
      have HFy : Hid (∀ W A c, Below w.heap.size w W → RowAt W W.heap.size A 4 y.length (cellsOf encTm y) → Calls Tryz.prog 41 #[.slice A y.length c] W (FormatPost y W)) := Lib.hid fun W A c hW hR => PFormat_any A c y W (HE.out W hW) hR (by omega) (fun t ht => right_pre (hri t ht))
      have HSy : Hid (∀ W A c A' c', RowAt W W.heap.size A 4 y.length (cellsOf encTm y) → RowAt W W.heap.size A' 4 y.length (cellsOf encTm y) → Calls Tryz.prog 43 #[.slice A y.length c, .slice A' y.length c'] W fun e w' => e = .returned (.bool true) ∧ Below W.heap.size W w') := Lib.hid fun W A c A' c' h h' => SameTerms_yes A A' c c' y W (by omega) h h'
      have HBy := Lib.hid (fun (h : (formatE y).2 = 0) => format_back (x := y) (s := (formatE y).1) (by rw [← h]))
      have HLy := Lib.hid (formatE_len y)
      unfold FormatPost at HFy
      clear hp HPB HPO hc hri
      generalize (formatE y).1 = v at *
      generalize (formatE y).2 = q at *
      obtain ⟨M, hM⟩ : ∃ M, y.length = M := ⟨_, rfl⟩
      rw [hM] at hl16 HPr HFy HSy
      have HM := Lib.hid hM
      clear hM
      rcases hf with rfl | rfl
      · obtain ⟨hpy, _⟩ := HBy.out rfl
        have HPy : Hid (∀ W, Below w.heap.size w W → Calls Tryz.prog 42 #[.string (bs v)] W fun e w' => ∃ A c, e = .returned (.tuple #[.slice A M c, .int .i64 0]) ∧ ParsedX W w' A y) := Lib.hid fun W hW => by
          have h := PParse_ok (s := bs v) (x := y) (by rw [L_bs]; exact hpy) W (HE.out _ hW) (by rw [size_bs]; have := HLy.out; omega)
          rw [HM.out] at h
          exact h
        clear hpy HBy HLy
        generalize bs v = vs at *
        go_wp2_with (first
          | (go_at_call_of 42 (Value.string raw); refine (HPr.out _ HB5.out).mono ?_; rintro e w6 ⟨YA6, yc6, rfl, hY6⟩; have HB6 := Lib.hid (bt HB5.out hY6.low); have HY6 := Lib.hid hY6.row; clear hY6)
          | (go_at_call 41; refine (HFy.out _ YA6 yc6 HB6.out (by have h := HY6.out; rw [HM.out] at h; exact h)).mono ?_; rintro e w7 ⟨rfl, hb7⟩; have HB7 := Lib.hid (bt HB6.out hb7); have HY7 := Lib.hid ((HY6.out.keep hb7).up hb7.size); clear hb7)
          | (go_at_call_of 42 (Value.string vs); refine (HPy.out _ HB7.out).mono ?_; rintro e w8 ⟨YA8, yc8, rfl, hY8⟩; have HB8 := Lib.hid (bt HB7.out hY8.low); have HY8 := Lib.hid hY8.row; have HY78 := Lib.hid ((HY7.out.keep hY8.low).up hY8.low.size); clear hY8)
          | (go_at_call 43; refine (HSy.out _ YA6 yc6 YA8 yc8 (by have h := HY78.out; rw [HM.out] at h; exact h) (by have h := HY8.out; rw [HM.out] at h; exact h)).mono ?_; rintro e w9 ⟨rfl, hb9⟩; have HB9 := Lib.hid (bt HB8.out hb9); clear hb9)
          | (go_at_call 30; refine (HKn.out _ HB9.out).mono ?_; rintro e wa ⟨rfl, hba⟩; have HBa := Lib.hid (bt HB9.out hba); clear hba))
        go_ret
        exact ⟨rfl, HBa.out⟩
      · clear HBy HLy
        generalize bs v = vs at *
        go_wp2_with (first
          | (go_at_call_of 42 (Value.string raw); refine (HPr.out _ HB5.out).mono ?_; rintro e w6 ⟨YA6, yc6, rfl, hY6⟩; have HB6 := Lib.hid (bt HB5.out hY6.low); have HY6 := Lib.hid hY6.row; clear hY6)
          | (go_at_call 41; refine (HFy.out _ YA6 yc6 HB6.out (by have h := HY6.out; rw [HM.out] at h; exact h)).mono ?_; rintro e w7 ⟨rfl, hb7⟩; have HB7 := Lib.hid (bt HB6.out hb7); clear hb7)
          | (go_at_call 30; refine (HKn.out _ HB7.out).mono ?_; rintro e wa ⟨rfl, hba⟩; have HBa := Lib.hid (bt HB7.out hba); clear hba))
        go_ret
        exact ⟨rfl, HBa.out⟩
end Go.Proofs.YthcgkeiggnfgiaaGreatDoor
