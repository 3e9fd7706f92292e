/-
  Contracts: the digits at the end of a text (both texts of it); the value of a name in a list (both texts of it).
-/
import Derived.Test.YtifbcfpaifobjaaGreatDoorRef1
import Derived.Shelf.Strings.SlTrimAscii
namespace Go.Proofs.YtifbcfpaifobjaaGreatDoor
open Go.RowKit
theorem digit_ascii (j : Nat) (b : UInt8) (h : digitL[j]? = some b) : b.toNat < 128 := by
  have hm : b ∈ digitL := List.mem_of_getElem? h
  simp only [digitL, List.mem_cons, List.not_mem_nil, or_false] at hm
  rcases hm with h | h | h | h | h | h | h | h | h | h <;> subst h <;> decide
/-- The digits at the end. -/
def numS (l : Str) : Str := l.drop (Lib.trimRightS l digitL).length
theorem numS_at (l : Str) (k : Nat) (hk : k ≤ l.length) (h1 : ∀ (j : Nat) b, k ≤ j → l[j]? = some b → digitL.contains b = true) (h2 : ∀ b, 0 < k → l[k - 1]? = some b → digitL.contains b = false) : numS l = l.drop k := by
  rw [numS, Lib.trimRightS_take l digitL k hk h1 h2, List.length_take, Nat.min_eq_left hk]
set_option maxRecDepth 100000 in
theorem digit_iff (b : UInt8) : digitL.contains b = (decide (48 ≤ (b.toNat : Int)) && decide ((b.toNat : Int) ≤ 57)) := by
  revert b
  have h : ∀ n : Fin 256, digitL.contains (UInt8.ofNat n.val) = (decide (48 ≤ ((UInt8.ofNat n.val).toNat : Int)) && decide (((UInt8.ofNat n.val).toNat : Int) ≤ 57)) := by decide
  intro b
  have := h ⟨b.toNat, b.toNat_lt⟩
  simpa using this
set_option maxRecDepth 100000 in
set_option maxHeartbeats 400000 in
theorem Number_any (s : ByteArray) (w : World) (hs : s.size ≤ 9223372036854775807) :
    Calls Tryz.prog 59 #[.string s] w fun e w' => e = .returned (.string (bs (numS (L s)))) ∧ Below w.heap.size w w' := by
  have HT := Any.strings_TrimRight_laid Tryz.lays162 (by kernel_rfl) s ⟨#[48, 49, 50, 51, 52, 53, 54, 55, 56, 57]⟩ w hs (by decide) digit_ascii
  have hl : (Lib.trimRightS s.data.toList digitL).length ≤ s.size := by
    rw [Lib.trimRightS, List.length_reverse]
    have := (List.dropWhile_sublist (digitL.contains ·) (l := s.data.toList.reverse)).length_le
    rw [List.length_reverse] at this
    rw [← len_L]; exact this
  have HN : Hid (∀ q, q = (Lib.trimRightS s.data.toList digitL).length → L (s.extract q s.size) = numS (L s)) := fun q hq => by
    rw [hq, L_extract, numS, List.take_of_length_le (by rw [len_L]; exact Nat.le_refl _)]
  have HZ := Lib.hid (size_bs (Lib.trimRightS s.data.toList digitL))
  change Calls Tryz.prog 99 #[.string s, .string ⟨#[48, 49, 50, 51, 52, 53, 54, 55, 56, 57]⟩] w (fun e w' => e = .returned (.string (bs (Lib.trimRightS s.data.toList digitL))) ∧ Below w.heap.size w w') at HT
  generalize bs (Lib.trimRightS s.data.toList digitL) = r at *
  generalize (Lib.trimRightS s.data.toList digitL).length = q at *
  have hr : r.size ≤ s.size := by rw [HZ.out]; exact hl
  clear hl
  go_enter Tryz.func59, Tryz.ntmps59
  go_wp2_with (go_at_call 99; refine HT.mono ?_; rintro e w' ⟨rfl, hb⟩)
  go_ret
  exact ⟨ret_str (eq_bs (HN.out _ HZ.out)), hb⟩
set_option maxRecDepth 100000 in
set_option maxHeartbeats 400000 in
theorem RNumber_any (s : ByteArray) (w : World) (hs : s.size ≤ 9223372036854775807) :
    Calls Tryz.prog 95 #[.string s] w fun e w' => e = .returned (.string (bs (numS (L s)))) ∧ w = w' := by
  go_enter Tryz.func95, Tryz.ntmps95
  go_wp2
  go_loop [3] (fun i => ∃ k : Nat, k ≤ s.size ∧ i = .int .i64 k ∧ Hid (∀ (j : Nat) b, k ≤ j → (L s)[j]? = some b → digitL.contains b = true)) (fun i => (intOf i).toNat)
  case atStart => exact ⟨s.size, Nat.le_refl _, rfl, fun j b hj hb => by rw [List.getElem?_eq_none (by rw [len_L]; exact hj)] at hb; cases hb⟩
  case round =>
    obtain ⟨k, hk, rfl, hp⟩ := hrel
    by_cases h0 : k = 0
    · subst h0
      go_wp2
      go_ret
      refine ⟨ret_str (eq_bs ?_), rfl⟩
      rw [numS_at (L s) 0 (Nat.zero_le _) hp.out (fun b h => absurd h (by omega))]; rfl
    · have hk1 : k - 1 < s.size := by omega
      have hpos : (0 : Int) < (k : Int) := by omega
      have hg : ∀ b, (L s)[k - 1]? = some b → b = s[k - 1] := fun b hb => by
        rw [List.getElem?_eq_getElem (by rw [len_L]; exact hk1)] at hb
        injection hb with hb
        rw [← hb]; rfl
      have Hg := Lib.hid hg
      clear hg
      have hi : ((k : Int) - 1).toNat = k - 1 := by omega
      have hD := digit_iff s[k - 1]
      have HD := Lib.hid hD
      clear hD h0
      go_wp2
      case roundEnd =>
        go_round
        case rel =>
          refine ⟨k - 1, by omega, by simp; omega, fun j b hj hb => ?_⟩
          rcases (by omega : j = k - 1 ∨ k ≤ j) with e | e
          · subst e
            rw [Hg.out b hb, HD.out]
            simp; omega
          · exact hp.out j b e hb
        case measure => simp [intOf]; omega
      all_goals
        go_ret
        refine ⟨ret_str (eq_bs ?_), rfl⟩
        rw [numS_at (L s) k (by rw [len_L]; exact hk) hp.out (fun b _ hb => by rw [Hg.out b hb, HD.out]; simp; omega), L_extract, List.take_of_length_le (by rw [len_L]; exact Nat.le_refl _)]
/-- The value of a name: nothing where there is none. -/
def getV (l : List At) (nm : Str) : ByteArray := (getA l nm).getD ⟨#[]⟩
theorem getA_hit (l : List At) (nm : Str) (k : Nat) (x : At) (hx : l[k]? = some x) (hno : ∀ j y, j < k → l[j]? = some y → (L y.name == nm) = false) (hyes : (L x.name == nm) = true) : getA l nm = some x.val := by
  induction l generalizing k with
  | nil => simp at hx
  | cons y l ih =>
    cases k with
    | zero =>
      simp at hx
      subst hx
      simp [getA, hyes]
    | succ k =>
      have h0 := hno 0 y (by omega) (by simp)
      have := ih k (by simpa using hx) (fun j z hj hz => hno (j + 1) z (by omega) (by simpa using hz))
      simp only [getA, List.find?_cons, h0] at this ⊢
      exact this
theorem getA_miss (l : List At) (nm : Str) (hno : ∀ (j : Nat) (y : At), l[j]? = some y → (L y.name == nm) = false) : getA l nm = none := by
  unfold getA
  rw [List.find?_eq_none.2 (fun x hx => by
    obtain ⟨j, hj⟩ := List.getElem?_of_mem hx
    rw [hno j x hj]; simp)]
  rfl
set_option maxRecDepth 100000 in
set_option maxHeartbeats 400000 in
theorem RGet_any (A : Option Addr) (c : Nat) (l : List At) (nm : ByteArray) (w : World) (h : RowAt w w.heap.size A 2 l.length (cellsOf encAt l)) (hl : l.length ≤ 4611686018427387904) :
    Calls Tryz.prog 96 #[.slice A l.length c, .string nm] w fun e w' => e = .returned (.tuple #[.string (getV l (L nm)), .bool (getA l (L nm)).isSome]) ∧ w = w' := by
  have H := Lib.hid h
  clear h
  generalize hN : l.length = N at hl ⊢
  have HN := Lib.hid hN
  clear hN
  go_enter Tryz.func96, Tryz.ntmps96
  go_wp2
  go_loop [6] (fun i => ∃ k : Nat, k ≤ N ∧ i = .int .i64 k ∧ Hid (∀ j y, j < k → l[j]? = some y → (L y.name == L nm) = false)) (fun i => N - (intOf i).toNat)
  case atStart => exact ⟨0, Nat.zero_le _, rfl, fun j y hj => absurd hj (by omega)⟩
  case round =>
    obtain ⟨k, hk, rfl, hp⟩ := hrel
    by_cases hlt : k < N
    · have hlt' : k < l.length := by rw [HN.out]; exact hlt
      obtain ⟨ba, off, rfl, hB, hc⟩ := H.out.cell encAt_len hlt'
      obtain ⟨x, hx⟩ : ∃ x, l[k]? = some x := ⟨_, List.getElem?_eq_getElem hlt'⟩
      have c0 : w.cell? ⟨ba, off + k * 2, none⟩ = some (.string x.name) := hc k x hx 0 _ rfl
      have c1 : w.cell? ⟨ba, off + k * 2 + 1, none⟩ = some (.string x.val) := hc k x hx 1 _ rfl
      have HX := Lib.hid hx
      clear hx hc hB hlt'
      cases hq : (x.name.toList == nm.toList)
      · go_wp2
        go_round
        case rel =>
          refine ⟨k + 1, by omega, by go_num, fun j y hj hy => ?_⟩
          rcases (by omega : j = k ∨ j < k) with e | e
          · subst e
            rw [HX.out] at hy
            injection hy with hy
            rw [← hy, ← tl, ← tl]
            exact hq
          · exact hp.out j y e hy
        case measure => simp [intOf]; omega
      · have e1 := getA_hit l (L nm) k x HX.out hp.out (by rw [← tl, ← tl]; exact hq)
        have E1 := Lib.hid e1
        clear e1
        go_wp2
        go_ret2
        exact ⟨by rw [getV, E1.out]; rfl, rfl⟩
    · go_wp2
      go_ret2
      have e1 := getA_miss l (L nm) (fun j y hy => hp.out j y (by have := (List.getElem?_eq_some_iff.1 hy).1; rw [HN.out] at this; omega) hy)
      exact ⟨by rw [getV, e1]; rfl, rfl⟩
/-- A list of named values as it lies in memory. -/
structure Lst where
  A : Option Addr
  c : Nat
  l : List At
/-- The value of a name in the first list that has it. -/
def firstV : List Lst → Str → ByteArray
  | [], _ => ⟨#[]⟩
  | x :: ls, nm => match getA x.l nm with
    | some v => v
    | none => firstV ls nm
theorem firstV_hit (ls : List Lst) (nm : Str) (k : Nat) (x : Lst) (v : ByteArray) (hx : ls[k]? = some x) (hno : ∀ (j : Nat) (y : Lst), j < k → ls[j]? = some y → getA y.l nm = none) (hv : getA x.l nm = some v) : firstV ls nm = v := by
  induction ls generalizing k with
  | nil => simp at hx
  | cons y ls ih =>
    cases k with
    | zero =>
      simp at hx
      subst hx
      simp [firstV, hv]
    | succ k =>
      have h0 := hno 0 y (by omega) (by simp)
      simp only [firstV, h0]
      exact ih k (by simpa using hx) (fun j z hj hz => hno (j + 1) z (by omega) (by simpa using hz))
theorem firstV_miss (ls : List Lst) (nm : Str) (hno : ∀ (j : Nat) (y : Lst), ls[j]? = some y → getA y.l nm = none) : firstV ls nm = ⟨#[]⟩ := by
  induction ls with
  | nil => rfl
  | cons y ls ih =>
    simp only [firstV, hno 0 y (by simp)]
    exact ih (fun j z hz => hno (j + 1) z (by simpa using hz))
set_option maxRecDepth 100000 in
set_option maxHeartbeats 1000000 in
theorem first_any (g off c : Nat) (ls : List Lst) (nm : ByteArray) (w : World) (hg : g < w.heap.size) (ho : ∀ (i : Nat) (x : Lst), ls[i]? = some x → w.cell? ⟨g, off + i, none⟩ = some (.slice x.A x.l.length x.c))
    (hi : ∀ x ∈ ls, RowAt w w.heap.size x.A 2 x.l.length (cellsOf encAt x.l) ∧ x.l.length ≤ 4611686018427387904) (h0 : ls.length ≤ 1000) :
    Calls Tryz.prog 65 #[.string nm, .slice (some ⟨g, off, none⟩) ls.length c] w fun e w' => e = .returned (.string (firstV ls (L nm))) ∧ Below w.heap.size w w' := by
  have HO := Lib.hid ho
  have HI := Lib.hid hi
  clear ho hi
  generalize hM : ls.length = M at h0 ⊢
  have HM := Lib.hid hM
  clear hM
  go_enter Tryz.func65, Tryz.ntmps65
  go_wp2
  go_loopg [11] M (fun gk i wr => ∃ k : Nat, k + gk = M ∧ i = .int .i64 k ∧ Hid (∀ (j : Nat) (y : Lst), j < k → ls[j]? = some y → getA y.l (L nm) = none) ∧ Hid (Below w.heap.size w wr))
  case atStart => exact ⟨0, by omega, rfl, fun j y hj => absurd hj (by omega), Below.refl _ _⟩
  case round =>
    obtain ⟨k, hk, rfl, hp, hb⟩ := hrel
    have hk' : k ≤ M := by omega
    have HK := Lib.hid hk
    clear hk
    by_cases hlt : k < M
    · have hlt' : k < ls.length := by rw [HM.out]; exact hlt
      obtain ⟨x, hx⟩ : ∃ x, ls[k]? = some x := ⟨_, List.getElem?_eq_getElem hlt'⟩
      have hc : wr.cell? ⟨g, off + k, none⟩ = some (.slice x.A x.l.length x.c) := by
        rw [hb.out.cell (p := ⟨g, off + k, none⟩) hg]
        exact HO.out k x hx
      have hx2 := HI.out x (List.mem_of_getElem? hx)
      have HX := Lib.hid hx
      have HR := Lib.hid hx2.1
      have hN := hx2.2
      clear hx hx2 hlt'
      generalize hNN : x.l.length = N at *
      have HN := Lib.hid hNN
      clear hNN
      go_wp2
      obtain ⟨wo, rfl⟩ : ∃ wo : World, wo = wr := ⟨_, rfl⟩
      go_loopg [17] N (fun gi i wi => ∃ m : Nat, m + gi = N ∧ i = .int .i64 m ∧ Hid (∀ (j : Nat) (y : At), j < m → x.l[j]? = some y → (L y.name == L nm) = false) ∧ Hid (Below w.heap.size w wi))
      case atStart => exact ⟨0, by omega, rfl, fun j y hj => absurd hj (by omega), hb⟩
      case round =>
        obtain ⟨m, hm, rfl, hq, hbi⟩ := hrel
        have hm' : m ≤ N := by omega
        have HMm := Lib.hid hm
        clear hm
        by_cases hlm : m < N
        · have hlm' : m < x.l.length := by rw [HN.out]; exact hlm
          have hrow := HR.out
          rw [← HN.out] at hrow
          obtain ⟨ba, off', hA, hB, hcc⟩ := hrow.cell encAt_len hlm'
          obtain ⟨y, hy⟩ : ∃ y, x.l[m]? = some y := ⟨_, List.getElem?_eq_getElem hlm'⟩
          have c0 : wr.cell? ⟨ba, off' + m * 2, none⟩ = some (.string y.name) := by
            rw [hbi.out.cell (p := ⟨ba, off' + m * 2, none⟩) hB]; exact hcc m y hy 0 _ rfl
          have c1 : wr.cell? ⟨ba, off' + m * 2 + 1, none⟩ = some (.string y.val) := by
            rw [hbi.out.cell (p := ⟨ba, off' + m * 2 + 1, none⟩) hB]; exact hcc m y hy 1 _ rfl
          have HY := Lib.hid hy
          clear hy hcc hB hlm' hrow
          rw [hA]
          have HA := Lib.hid hA
          clear hA
          cases hq2 : (y.name.toList == nm.toList)
          · go_wp2
            have hm := HMm.out
            rw [← HA.out]
            go_roundg (gk - 1)
            case measure => omega
            case rel =>
              refine ⟨m + 1, by omega, by go_num, fun j z hj hz => ?_, ?_⟩
              · rcases (by omega : j = m ∨ j < m) with e | e
                · subst e
                  rw [HY.out] at hz
                  injection hz with hz
                  rw [← hz, ← tl, ← tl]
                  exact hq2
                · exact hq.out j z e hz
              · exact hbi.out.alloc hbi.out.size _
          · go_wp2
            go_ret
            refine ⟨?_, hbi.out.alloc hbi.out.size _⟩
            rw [firstV_hit ls (L nm) k x y.val HX.out hp.out (getA_hit x.l (L nm) m y HY.out hq.out (by rw [← tl, ← tl]; exact hq2))]
            rfl
        · go_wp2
          have hk := HK.out
          go_roundg (M - (k + 1))
          case measure => omega
          case rel =>
            refine ⟨k + 1, by omega, by go_num, fun j z hj hz => ?_, hbi⟩
            rcases (by omega : j = k ∨ j < k) with e | e
            · subst e
              rw [HX.out] at hz
              injection hz with hz
              rw [← hz]
              exact getA_miss x.l (L nm) fun j' y' hy' => hq.out j' y' (by have := (List.getElem?_eq_some_iff.1 hy').1; rw [HN.out] at this; omega) hy'
            · exact hp.out j z e hz
    · go_wp2
      go_ret
      refine ⟨?_, hb.out⟩
      rw [firstV_miss ls (L nm) (fun j y hy => hp.out j y (by have := (List.getElem?_eq_some_iff.1 hy).1; rw [HM.out] at this; omega) hy)]
      rfl
end Go.Proofs.YtifbcfpaifobjaaGreatDoor
