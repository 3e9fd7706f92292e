/-
  Contract of the reference's Check of a pattern.
  Contracts of the program's parse and Check of a pattern.
  Contract of the program's matches: one alternative of a pattern at a text, the greedy way.
-/
import Derived.Test.YtgdjknpdgajdgaaG03
import Derived.Test.YtgdjknpdgajdgaaPGlobE
import Derived.Test.YtgdjknpdgajdgaaG04
import Derived.BigQuiet
namespace Go.Proofs.Ytgdjknpdgajdgaa
open Go.RowKit
theorem globS_le {s : Str} (h : ¬ 256 < s.length) : globS s = if printS s then globP s else none := by
  unfold globS
  by_cases hp : printS s = true
  · rw [if_pos ⟨by omega, hp⟩, if_pos hp]
  · rw [if_neg (fun x => hp x.2), if_neg hp]
theorem globE_le {s : Str} (h : ¬ 256 < s.length) : globE s = if (if printS s then globP s else none).isSome then 0 else 20 := by
  unfold globE
  rw [if_neg h, globS_le h]
theorem ret_i {a b : Int} (h : a = b) : Ending.returned (.int .i64 a) = .returned (.int .i64 b) := by rw [h]
set_option maxRecDepth 100000 in
set_option maxHeartbeats 1000000 in
theorem RGCheck_any (s : ByteArray) (w : World) (hs : s.size ≤ 9223372036854775807) :
    Calls Try.prog 84 #[.string s] w fun e w' => e = .returned (.int .i64 (globE (L s))) ∧ Below w.heap.size w w' := by
  by_cases h : 256 < s.size
  · have HE : Hid (globE (L s) = 21) := Lib.hid (by rw [globE, len_L, if_pos h])
    have hI : (256 : Int) < (s.size : Int) := by omega
    clear h
    go_enter Try.func84, Try.ntmps84
    go_wp2
    go_ret
    exact ⟨ret_i (by rw [HE.out]), Below.refl _ _⟩
  · have HE := Lib.hid (globE_le (s := L s) (by rw [len_L]; exact h))
    have hI : (s.size : Int) ≤ 256 := by omega
    have hP := GParse_any s w (by omega)
    unfold GParsePost at hP
    clear h
    cases hg : (if printS (L s) then globP (L s) else none) with
    | none =>
      rw [hg] at HE hP
      have HP := Lib.hid hP
      clear hg hP
      go_enter Try.func84, Try.ntmps84
      go_wp2_with (go_at_call 86; refine HP.out.mono ?_; rintro e w1 ⟨rfl, hb⟩)
      go_ret
      exact ⟨ret_i (by rw [HE.out]; rfl), hb⟩
    | some alts =>
      rw [hg] at HE hP
      have HP := Lib.hid hP
      clear hg hP
      go_enter Try.func84, Try.ntmps84
      go_wp2_with (go_at_call 86; refine HP.out.mono ?_; rintro e w1 ⟨v, rfl, hN, hb⟩)
      go_ret
      exact ⟨ret_i (by rw [HE.out]; rfl), hb⟩
end Go.Proofs.Ytgdjknpdgajdgaa
namespace Go.Proofs.Ytgdjknpdgajdgaa
open Go.RowKit
/-- What parse leaves. -/
def PGParsePost (s : Str) (w : World) (e : Ending) (w' : World) : Prop := Below w.heap.size w w' ∧
  match globS s with
  | none => ∃ n : Int, e = .returned (.tuple #[.slice none 0 0, .int .i64 n]) ∧ n = globE s
  | some alts => ∃ v, e = .returned (.tuple #[v, .int .i64 0]) ∧ Nst 100 118 129 encEP w' w.heap.size v alts
theorem own_lower {w : World} {base base' kk n : Nat} {e : TypeId} {v : Value} {xs : List Value} (h : w.ownsRow base' e kk v n xs) (hb : base ≤ base') : w.ownsRow base e kk v n xs := by
  refine ⟨h.1, ?_⟩
  rcases h.2 with h1 | ⟨g, cap, cur, h1, h2, h3⟩
  · exact Or.inl h1
  · exact Or.inr ⟨g, cap, cur, h1, Nat.le_trans hb h2, h3⟩
theorem Nst_down {w : World} {a b : Nat} {v : Value} {l : List (List El)} (h : Nst 100 118 129 encEP w a v l) (hb : b ≤ a) : Nst 100 118 129 encEP w b v l := by
  obtain ⟨vs, hN⟩ := h
  exact ⟨vs, hN.len, own_lower hN.outer hb, fun i x l hx hl => own_lower (hN.inner i x l hx hl) hb, hN.off, hN.apart⟩
set_option maxRecDepth 100000 in
set_option maxHeartbeats 1000000 in
theorem PGParse_any (p : ByteArray) (w : World) (hsz : p.size ≤ 9223372036854775807) : Calls Try.prog 49 #[.string p] w (PGParsePost (L p) w) := by
  by_cases h256 : 256 < p.size
  · have hI : (256 : Int) < (p.size : Int) := by omega
    have hE : globE (L p) = 21 := by rw [globE, len_L, if_pos h256]
    have hS : globS (L p) = none := by rw [globS, if_neg (fun h => by have := h.1; rw [len_L] at this; omega)]
    have HE := Lib.hid hE
    have HS := Lib.hid hS
    clear hE hS
    go_enter Try.func49, Try.ntmps49
    go_wp2
    go_ret2
    refine ⟨Below.refl _ _, ?_⟩
    rw [HS.out]
    exact ⟨21, rfl, HE.out.symm⟩
  · have hI : ¬ (256 : Int) < (p.size : Int) := by omega
    have hT := Text_any p w hsz
    have htx : textS (L p) = printS (L p) := by rw [textS, len_L, decide_eq_true (by omega), Bool.and_true]
    rw [htx] at hT
    have hge := globE_le (s := L p) (by rw [len_L]; omega)
    cases hpr : printS (L p) with
    | false =>
      rw [hpr] at hT hge
      have HT := Lib.hid hT
      have HE : Hid (globE (L p) = 20) := Lib.hid (by rw [hge]; rfl)
      have HS : Hid (globS (L p) = none) := Lib.hid (by rw [globS, if_neg (fun h => by rw [hpr] at h; cases h.2)])
      clear hT hge hpr htx
      go_enter Try.func49, Try.ntmps49
      go_wp2_with (go_at_call 61; refine HT.out.mono ?_; rintro e w' ⟨rfl, rfl⟩)
      go_ret2
      refine ⟨Below.refl _ _, ?_⟩
      rw [HS.out]
      exact ⟨20, rfl, HE.out.symm⟩
    | true =>
      rw [hpr] at hT hge
      simp only [if_true] at hge
      have HT := Lib.hid hT
      have HGs : Hid (globS (L p) = globP (L p)) := Lib.hid (by rw [globS, if_pos ⟨by rw [len_L]; omega, hpr⟩])
      have hA := PAlts_any p w.heap.size (w.alloc (rdr p 0)) (by omega) hpr (heap_alloc_new w _)
      unfold PAltPost at hA
      cases hg : globP (L p) with
      | none =>
        rw [hg] at hA hge HGs
        have HA := Lib.hid hA
        have HE : Hid (globE (L p) = 20) := Lib.hid (by rw [hge]; rfl)
        clear hT hge hpr htx hA hg
        go_enter Try.func49, Try.ntmps49
        go_wp2_with (first | (go_at_call 61; refine HT.out.mono ?_; rintro e w' ⟨rfl, rfl⟩) | (go_at_call 62; refine HA.out.mono ?_; rintro e w2 ⟨hg2, rfl⟩))
        go_ret2
        refine ⟨(below_alloc w _).grown hg2 (by simp) (fun j e => by cases e; exact Nat.le_refl _), ?_⟩
        rw [HGs.out]
        exact ⟨20, rfl, HE.out.symm⟩
      | some alts =>
        rw [hg] at hA HGs
        have HA := Lib.hid hA
        clear hT hge hpr htx hA hg
        go_enter Try.func49, Try.ntmps49
        go_wp2_with (first | (go_at_call 61; refine HT.out.mono ?_; rintro e w' ⟨rfl, rfl⟩) | (go_at_call 62; refine HA.out.mono ?_; rintro e w2 ⟨hg2, v, rfl, hN⟩))
        go_ret2
        refine ⟨(below_alloc w _).grown hg2 (by simp) (fun j e => by cases e; exact Nat.le_refl _), ?_⟩
        rw [HGs.out]
        exact ⟨v, rfl, Nst_down hN (by simp)⟩
end Go.Proofs.Ytgdjknpdgajdgaa
namespace Go.Proofs.Ytgdjknpdgajdgaa
open Go.RowKit
theorem elP_1 (n : Nat) (st : Bool) (f : Nat → Bool) : (elP n st f)[1]? = some (.bool st) := by
  rw [elP, Array.getElem?_append_left (by simp)]
  rfl
theorem encEP_star (x : El) : (encEP x)[1]? = some (.bool x.isStar) := by
  rw [encEP, Array.getElem?_toList, elP_1]
theorem encEP_has (x : El) {c : Nat} (h : c < 127) : (encEP x)[2 + c]? = some (.bool (x.has c)) := by
  rw [encEP, Array.getElem?_toList, elP_get _ _ _ c h]
theorem el_cells {w wr : World} {B : Nat} {A : Option Addr} {l : List El} (h : RowAt w B A 129 l.length (cellsOf encEP l)) (hb : Below B w wr) {k : Nat} (hlt : k < l.length) :
    ∃ ba off, A = some ⟨ba, off, none⟩ ∧ wr.cell? ⟨ba, off + k * 129 + 1, none⟩ = some (.bool l[k].isStar) ∧ ∀ c, c < 127 → wr.cell? ⟨ba, off + k * 129 + 2 + c, none⟩ = some (.bool (l[k].has c)) := by
  obtain ⟨ba, off, hA, hba, hc⟩ := h.cell encEP_len hlt
  have hx : l[k]? = some l[k] := List.getElem?_eq_getElem hlt
  refine ⟨ba, off, hA, ?_, fun c hc' => ?_⟩
  · rw [hb.cell (p := ⟨ba, off + k * 129 + 1, none⟩) hba]
    exact hc k _ hx 1 _ (encEP_star _)
  · rw [hb.cell (p := ⟨ba, off + k * 129 + 2 + c, none⟩) hba, show off + k * 129 + 2 + c = off + (k * 129 + (2 + c)) from by omega]
    exact hc k _ hx (2 + c) _ (encEP_has _ hc')
/-- What is left to do, as a number. -/
def gMu (L n : Nat) (st : Option (Nat × Nat)) (i : Nat) : Nat := match st with
  | none => (L + 1) * ((n + 2) * (n + 2)) + (n - i)
  | some (k, f) => (L - k) * ((n + 2) * (n + 2)) + (n - f) * (n + 2) + (n - i)
theorem gMu_low {n i : Nat} : (n - i) * (n + 2) + (n - i) < (n + 2) * (n + 2) := by
  have h1 : (n - i) * (n + 2) ≤ n * (n + 2) := Nat.mul_le_mul_right _ (Nat.sub_le _ _)
  have h2 : (n + 2) * (n + 2) = n * (n + 2) + 2 * (n + 2) := Nat.add_mul _ _ _
  omega
theorem gMu_star {L n a i : Nat} {st : Option (Nat × Nat)} (ha : a < L) (hst : ∀ k f, st = some (k, f) → k < a) : gMu L n (some (a, i)) i < gMu L n st i := by
  have h0 := gMu_low (n := n) (i := i)
  generalize hQ : (n + 2) * (n + 2) = Q at *
  cases st with
  | none =>
    unfold gMu
    rw [hQ]
    have : (L - a) * Q + Q ≤ (L + 1) * Q := by
      have := Nat.mul_le_mul_right Q (show L - a + 1 ≤ L + 1 by omega)
      rw [Nat.add_mul, Nat.one_mul] at this
      exact this
    dsimp only
    omega
  | some x =>
    obtain ⟨k, f⟩ := x
    have hk := hst k f rfl
    unfold gMu
    rw [hQ]
    have : (L - a) * Q + Q ≤ (L - k) * Q := by
      have := Nat.mul_le_mul_right Q (show L - a + 1 ≤ L - k by omega)
      rw [Nat.add_mul, Nat.one_mul] at this
      exact this
    dsimp only
    omega
theorem gMu_byte {L n i : Nat} {st : Option (Nat × Nat)} (hi : i < n) : gMu L n st (i + 1) < gMu L n st i := by
  unfold gMu
  cases st <;> (dsimp only; omega)
theorem gMu_back {L n k f i : Nat} (hf : f ≤ i) (hi : i < n) : gMu L n (some (k, f + 1)) (f + 1) < gMu L n (some (k, f)) i := by
  unfold gMu
  dsimp only
  have h1 : (n - f) * (n + 2) = (n - (f + 1)) * (n + 2) + (n + 2) := by
    rw [show n - f = (n - (f + 1)) + 1 by omega, Nat.add_mul, Nat.one_mul]
  omega
def stI (st : Option (Nat × Nat)) : Int := match st with
  | none => -1
  | some (k, _) => k
def frI (st : Option (Nat × Nat)) : Int := match st with
  | none => 0
  | some (_, f) => f
set_option maxRecDepth 100000 in
set_option maxHeartbeats 4000000 in
theorem Gmatches_any (A : Option Addr) (c : Nat) (l : List El) (s : ByteArray) (w : World) (hl : l.length ≤ 1000000) (hsz : s.size ≤ 9223372036854775806) (h : RowAt w w.heap.size A 129 l.length (cellsOf encEP l)) (hb : ∀ i, (hi : i < s.size) → s[i].toNat < 127) :
    Calls Try.prog 68 #[.slice A l.length c, .string s] w fun e w' => e = .returned (.bool (altB l (L s))) ∧ Below w.heap.size w w' := by
  have H := Lib.hid h
  have HBy := Lib.hid hb
  have HSt := Lib.hid (Greedy.start El.isStar hasB l (L s))
  have HLs := Lib.hid (len_L s)
  have HGt : Hid (∀ i, (h : i < s.size) → ∃ h2 : i < (L s).length, (L s)[i] = s[i]) := Lib.hid fun i h => ⟨by rw [len_L]; exact h, rfl⟩
  clear h hb
  obtain ⟨N, hN⟩ : ∃ N, l.length = N := ⟨_, rfl⟩
  have HN := Lib.hid hN
  rw [hN] at hl ⊢
  clear hN
  go_enter Try.func68, Try.ntmps68
  go_wp2_with fail
  go_loopg [5, 6, 7, 8] (gMu N s.size none 0 + 1) (fun gk s5 s6 s7 s8 wr => ∃ (a i : Nat) (st : Option (Nat × Nat)), s5 = .int .i64 a ∧ s6 = .int .i64 (stI st) ∧ s7 = .int .i64 (frI st) ∧ s8 = .int .i64 i ∧ gk = gMu N s.size st i + 1 ∧ a ≤ N ∧ i ≤ s.size ∧ Hid (Greedy El.isStar hasB l (L s) a i st) ∧ Hid (Below w.heap.size w wr))
  case atStart => exact ⟨0, 0, none, rfl, rfl, rfl, rfl, rfl, Nat.zero_le _, Nat.zero_le _, HSt.out, Below.refl _ _⟩
  case round =>
    obtain ⟨a, i, st, rfl, rfl, rfl, rfl, rfl, haN, hiN, hG, hB⟩ := hrel
    have hstk : ∀ k f, st = some (k, f) → k < a ∧ f ≤ i := fun k f e => ⟨(hG.out.last k f e).1, (hG.out.last k f e).2.2.1⟩
    by_cases hi : i < s.size
    · have hiI : (i : Int) < (s.size : Int) := by omega
      obtain ⟨hi2, hie⟩ := HGt.out i hi
      have hby := HBy.out i hi
      by_cases ha : a < N
      · have haI : (a : Int) < (N : Int) := by omega
        have ha2 : a < l.length := by rw [HN.out]; exact ha
        obtain ⟨ba, off, rfl, c1, ch⟩ := el_cells H.out hB.out ha2
        have c2 := ch (s[i]'hi).toNat hby
        cases hs : l[a].isStar with
        | true =>
          rw [hs] at c1
          have HG2 := Lib.hid (hG.out.atStar ha2 hs)
          have hmu := gMu_star (L := N) (n := s.size) (i := i) (a := a) ha (fun k f e => (hstk k f e).1)
          clear c2 ch hs ha2 hi2 hie hby
          go_wp2
          go_roundg (gMu N s.size (some (a, i)) i + 1)
          case measure => omega
          case rel => exact ⟨a + 1, i, some (a, i), by go_num, rfl, rfl, rfl, rfl, by omega, hiN, HG2.out, hB.out⟩
        | false =>
          rw [hs] at c1
          cases hh : l[a].has (s[i]'hi).toNat with
          | true =>
            rw [hh] at c2
            have HG2 := Lib.hid (hG.out.atByte ha2 hi2 hs (by unfold hasB; rw [hie]; exact hh))
            have hmu := gMu_byte (L := N) (st := st) hi
            clear ch hs hh ha2 hi2 hie
            go_wp2
            go_quiet (fail)
            go_wp2
            go_roundg (gMu N s.size st (i + 1) + 1)
            case measure => omega
            case rel => exact ⟨a + 1, i + 1, st, by go_num, rfl, rfl, by go_num, rfl, by omega, by omega, HG2.out, below_drewN hB.out _⟩
          | false =>
            rw [hh] at c2
            have hdead : ∀ h : a < l.length, l[a].isStar = false ∧ hasB l[a] (L s)[i] = false := fun _ => ⟨hs, by unfold hasB; rw [hie]; exact hh⟩
            cases st with
            | none =>
              have HF := Lib.hid (hG.out.fails hi2 hdead)
              clear ch hs hh ha2 hi2 hie hdead
              unfold stI frI
              go_wp2
              go_quiet (fail)
              go_wp2
              go_ret
              exact ⟨by unfold altB; rw [HF.out]; rfl, below_drewN hB.out _⟩
            | some x =>
              obtain ⟨k, f⟩ := x
              have HG2 := Lib.hid (hG.out.goBack hi2 hdead)
              have hkf := hstk k f rfl
              have hmu := gMu_back (L := N) (k := k) hkf.2 hi
              clear ch hs hh ha2 hi2 hie hdead hstk
              unfold stI frI
              go_wp2
              go_quiet (fail)
              go_wp2
              go_roundg (gMu N s.size (some (k, f + 1)) (f + 1) + 1)
              case measure => omega
              case rel => exact ⟨k + 1, f + 1, some (k, f + 1), by go_num, rfl, by unfold frI; go_num, by go_num, rfl, by omega, by omega, HG2.out, below_drewN hB.out _⟩
      · obtain rfl : a = N := by omega
        have hdead : ∀ h : a < l.length, l[a].isStar = false ∧ hasB l[a] (L s)[i] = false := fun h => absurd h (by rw [HN.out]; exact Nat.lt_irrefl _)
        cases st with
        | none =>
          have HF := Lib.hid (hG.out.fails hi2 hdead)
          clear hi2 hie hdead
          unfold stI frI
          go_wp2
          go_quiet (fail)
          go_wp2
          go_ret
          exact ⟨by unfold altB; rw [HF.out]; rfl, below_drewN hB.out _⟩
        | some x =>
          obtain ⟨k, f⟩ := x
          have HG2 := Lib.hid (hG.out.goBack hi2 hdead)
          have hkf := hstk k f rfl
          have hmu := gMu_back (L := a) (k := k) hkf.2 hi
          clear hi2 hie hdead hstk
          unfold stI frI
          go_wp2
          go_quiet (fail)
          go_wp2
          go_roundg (gMu a s.size (some (k, f + 1)) (f + 1) + 1)
          case measure => omega
          case rel => exact ⟨k + 1, f + 1, some (k, f + 1), by go_num, rfl, by unfold frI; go_num, by go_num, rfl, by omega, by omega, HG2.out, below_drewN hB.out _⟩
    · obtain rfl : i = s.size := by omega
      have HD : Hid (altB l (L s) = matchS El.isStar hasB (l.drop a) []) := Lib.hid (by
        have := hG.out
        rw [← HLs.out] at this
        exact this.done)
      clear hstk hi hG
      go_wp2
      go_loopg [5] (N + 1 - a) (fun gk s5 wr => ∃ b : Nat, s5 = .int .i64 b ∧ b + gk = N + 1 ∧ b ≤ N ∧ Hid (altB l (L s) = matchS El.isStar hasB (l.drop b) []) ∧ Hid (Below w.heap.size w wr))
      case atStart => exact ⟨a, rfl, by omega, haN, HD.out, hB.out⟩
      case round =>
        obtain ⟨b, rfl, hbg, hbN, hM, hB⟩ := hrel
        by_cases hb : b < N
        · have hbI : (b : Int) < (N : Int) := by omega
          have hb2 : b < l.length := by rw [HN.out]; exact hb
          obtain ⟨ba, off, rfl, c1, ce⟩ := el_cells H.out hB.out hb2
          clear ce
          cases hs : l[b].isStar with
          | true =>
            rw [hs] at c1
            have HM2 : Hid (altB l (L s) = matchS El.isStar hasB (l.drop (b + 1)) []) := Lib.hid (by rw [hM.out, match_nil_star hb2 hs])
            clear hs hb2
            go_wp2
            go_roundg (gk - 1)
            case measure => omega
            case rel => exact ⟨b + 1, by go_num, by omega, by omega, HM2.out, hB.out⟩
          | false =>
            rw [hs] at c1
            have HM2 : Hid (altB l (L s) = false) := Lib.hid (by rw [hM.out, match_nil_end (fun _ => hs) (Nat.le_of_lt hb2)]; simp; omega)
            have hbne : ¬ (b : Int) = (N : Int) := by omega
            clear hs hb2
            go_wp2
            go_ret
            exact ⟨by rw [HM2.out]; simp [hbne], hB.out⟩
        · obtain rfl : b = N := by omega
          have HM2 : Hid (altB l (L s) = true) := Lib.hid (by rw [hM.out, match_nil_end (fun h => absurd h (by rw [HN.out]; exact Nat.lt_irrefl _)) (by rw [HN.out]; exact Nat.le_refl _), HN.out]; simp)
          go_wp2
          go_ret
          exact ⟨by rw [HM2.out]; simp, hB.out⟩
end Go.Proofs.Ytgdjknpdgajdgaa
