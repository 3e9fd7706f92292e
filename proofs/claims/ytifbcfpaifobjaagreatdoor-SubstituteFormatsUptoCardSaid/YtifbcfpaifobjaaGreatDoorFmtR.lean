/-
  The reference's Format, walked.
-/
import Derived.Test.YtifbcfpaifobjaaGreatDoorFmtF
import Derived.Test.YtifbcfpaifobjaaGreatDoorFmtE
import Derived.Test.YtifbcfpaifobjaaGreatDoorRefP
import Derived.Deep.CutBlock
namespace Go.Proofs.YtifbcfpaifobjaaGreatDoor
open Go.RowKit Go.Lib
/-- Whether a text is ahead. -/
def prevB (ps : List Pc) : Nat → Bool
  | 0 => false
  | k + 1 => match ps[k]? with
    | some q => q.kind == 1
    | none => false
def FmtAtR (ps : List Pc) (k : Nat) (ot : ByteArray) : Prop := fmtF ps = (fmtR (prevB ps k) (ps.drop k)).map (L ot ++ ·) ∧ ot.size ≤ k * 200000100
theorem fmtAtR_start (ps : List Pc) : FmtAtR ps 0 ⟨#[]⟩ := ⟨by rw [List.drop_zero, prevB, fmt_one]; cases fmtF ps <;> simp, Nat.zero_le _⟩
theorem fmtAtR_none {ps : List Pc} {k : Nat} {x : Pc} {ot : ByteArray} (h : FmtAtR ps k ot) (hx : ps[k]? = some x) (hs : rstepS (prevB ps k) x (behindS (ps.drop (k + 1))) = none) : formatR ps = (⟨#[]⟩, 90) := by
  obtain ⟨hk, rfl⟩ := List.getElem?_eq_some_iff.1 hx
  have e : fmtF ps = none := by rw [h.1, List.drop_eq_getElem_cons hk, fmtR, hs]; rfl
  rw [formatR, e]
theorem fmtAtR_next {ps : List Pc} {k : Nat} {x : Pc} {ot : ByteArray} {t : Str} (h : FmtAtR ps k ot) (hx : ps[k]? = some x) (hs : rstepS (prevB ps k) x (behindS (ps.drop (k + 1))) = some t) (hl : t.length ≤ 200000100) : FmtAtR ps (k + 1) (ot ++ bs t) := by
  have hp : prevB ps (k + 1) = (x.kind == 1) := by rw [prevB, hx]
  obtain ⟨hk, rfl⟩ := List.getElem?_eq_some_iff.1 hx
  refine ⟨?_, ?_⟩
  · rw [h.1, List.drop_eq_getElem_cons hk, fmtR, hs, L_append, L_bs, hp]
    simp only [Option.bind_some]
    cases fmtR (ps[k].kind == 1) (ps.drop (k + 1)) with
    | none => rfl
    | some s => simp
  · have := h.2
    rw [ByteArray.size_append, size_bs, Nat.add_mul]; omega
theorem fmtAtR_end {ps : List Pc} {ot : ByteArray} (h : FmtAtR ps ps.length ot) : formatR ps = if 256 < ot.size then (⟨#[]⟩, 91) else (ot, 0) := by
  have e : fmtF ps = some (L ot) := by rw [h.1, List.drop_length, fmtR]; simp
  rw [formatR, e]
  dsimp only
  rw [len_L, bs_L]
theorem proper_at1 {p : Pc} (h : p.kind = 1) : properS p = (!(L p.text).isEmpty && printS (L p.text) && p.word == 0 && !p.more) := by
  unfold properS; rw [if_neg (by omega), if_pos h]
theorem proper_at7 {p : Pc} (h : p.kind = 7) : properS p = (validS (L p.text) && (p.word == 0 && !p.more)) := by
  unfold properS
  rw [if_neg (by omega), if_neg (by omega), if_pos h, if_pos (show p.kind ≠ 9 ∨ p.word = 0 from .inl (by omega))]
  cases validS (L p.text) <;> simp
theorem proper_at8 {p : Pc} (h : p.kind = 8) : properS p = (keyS (L p.text) && (p.word == 0 && !p.more)) := by
  unfold properS
  rw [if_neg (by omega), if_neg (by omega), if_neg (show ¬ p.kind = 7 by omega), if_pos h, if_pos (show p.kind ≠ 9 ∨ p.word = 0 from .inl (by omega))]
  cases keyS (L p.text) <;> simp
theorem proper_at9 {p : Pc} (h : p.kind = 9) : properS p = ((L p.text).isEmpty && if p.word = 0 then !p.more else decide (1 ≤ p.word ∧ p.word ≤ 99)) := by
  unfold properS
  rw [if_neg (by omega), if_neg (by omega), if_neg (show ¬ p.kind = 7 by omega), if_neg (show ¬ p.kind = 8 by omega)]
  cases (L p.text).isEmpty
  · rfl
  · simp only [Bool.not_true, Bool.false_eq_true, if_false, Bool.true_and]
    by_cases hw : p.word = 0
    · rw [if_pos (.inr hw), if_pos hw, hw]; rfl
    · rw [if_neg (fun h2 => h2.elim (fun h3 => h3 h) hw), if_neg hw]
theorem proper_ato {p : Pc} {k : Nat} (h : p.kind = k) (h2 : 2 ≤ k) (h12 : k < 12) (h7 : k ≠ 7) (h8 : k ≠ 8) (h9 : k ≠ 9) : properS p = ((L p.text).isEmpty && (p.word == 0 && !p.more)) := by
  unfold properS
  rw [if_neg (by omega), if_neg (by omega), if_neg (show ¬ p.kind = 7 by omega), if_neg (show ¬ p.kind = 8 by omega), if_pos (show p.kind ≠ 9 ∨ p.word = 0 from .inl (by omega))]
  cases (L p.text).isEmpty <;> simp
theorem proper_out_no {p : Pc} (h : p.kind < 1 ∨ 11 < p.kind) : properS p = false := by unfold properS; rw [if_pos h]
theorem rstep_bad {b : Bool} {p : Pc} {s : Str} (h : properS p = false) : rstepS b p s = none := by
  unfold rstepS; rw [h]; split <;> simp
theorem rstep_prev {p : Pc} {s : Str} (h : p.kind = 1) : rstepS true p s = none := by
  unfold rstepS; rw [if_pos ⟨h, rfl⟩]
theorem rstep_good {b : Bool} {p : Pc} {s : Str} (hp : properS p = true) (h : ¬ (p.kind = 1 ∧ b = true)) : rstepS b p s = writeS p s := by
  unfold rstepS; rw [if_neg h, if_pos hp]
theorem index_head (s : ByteArray) (h : 0 < s.size) : ∀ w, (Instr.index 9 (.string s) (.int .i64 0)).run Tryz.prog w = .ok (.int .u8 (s[0].toNat : Int)) w := fun w => by
  have hI : (0 : Int) < (s.size : Int) := by omega
  go_simp
theorem short_ne (k : Nat) (h2 : 2 ≤ k) (h : k < 11) : ¬ shortN k = [] := by
  rcases (by omega : k = 2 ∨ k = 3 ∨ k = 4 ∨ k = 5 ∨ k = 6 ∨ k = 7 ∨ k = 8 ∨ k = 9 ∨ k = 10) with h | h | h | h | h | h | h | h | h <;> subst h <;> decide
theorem letter_at (k : Nat) (h2 : 2 ≤ k) (h : k < 11) : (⟨#[37]⟩ : ByteArray) ++ ByteArray.extract ⟨#[32, 32, 107, 110, 112, 98, 100, 115, 69, 99, 80, 32]⟩ k (k + 1) = bs (37 :: shortN k) := by
  rcases (by omega : k = 2 ∨ k = 3 ∨ k = 4 ∨ k = 5 ∨ k = 6 ∨ k = 7 ∨ k = 8 ∨ k = 9 ∨ k = 10) with h | h | h | h | h | h | h | h | h <;> subst h <;> kernel_rfl
theorem letter_size (k : Nat) : (ByteArray.extract ⟨#[32, 32, 107, 110, 112, 98, 100, 115, 69, 99, 80, 32]⟩ k (k + 1)).size ≤ 12 := by
  rw [size_extract]
  have : (⟨#[32, 32, 107, 110, 112, 98, 100, 115, 69, 99, 80, 32]⟩ : ByteArray).size = 12 := rfl
  omega
theorem long_size (k : Nat) : (⟨(longN k).toArray⟩ : ByteArray).size ≤ 10 := by
  rcases (by omega : k = 2 ∨ k = 3 ∨ k = 4 ∨ k = 5 ∨ k = 6 ∨ k = 7 ∨ k = 8 ∨ k = 9 ∨ k = 10 ∨ k = 11 ∨ k < 2 ∨ 11 < k) with h | h | h | h | h | h | h | h | h | h | h | h
  all_goals first | (subst h; decide) | skip
  · rcases (by omega : k = 0 ∨ k = 1) with h | h <;> subst h <;> decide
  · have : longN k = [] := by unfold longN; split <;> first | omega | rfl
    rw [this]; decide
theorem rwords_cell (k : Nat) (h : k < 12) : (rwords.map Value.string).toArray[k]? = some (.string ⟨(longN k).toArray⟩) := by
  rcases (by omega : k = 0 ∨ k = 1 ∨ k = 2 ∨ k = 3 ∨ k = 4 ∨ k = 5 ∨ k = 6 ∨ k = 7 ∨ k = 8 ∨ k = 9 ∨ k = 10 ∨ k = 11) with h | h | h | h | h | h | h | h | h | h | h | h <;> subst h <;> rfl
def GoodP (kd : Int) (tx : ByteArray) (wd : Int) (mo : Bool) (bv : ByteArray) : Prop :=
  (∃ m : Nat, kd = m ∧ 2 ≤ m ∧ m < 12) ∧ properS ⟨kd, tx, wd, mo⟩ = true ∧ ¬ (kd = 9 ∧ inBracesS ⟨kd, tx, wd, mo⟩ = [] ∧ (L bv).head? = some 123)
theorem write_rule {m : Nat} {tx : ByteArray} {wd : Int} {mo : Bool} {b : Str} (h2 : 2 ≤ m) (h9 : ¬ ((m : Int) = 9 ∧ inBracesS ⟨m, tx, wd, mo⟩ = [] ∧ b.head? = some 123)) :
    writeS ⟨m, tx, wd, mo⟩ b = if inBracesS ⟨m, tx, wd, mo⟩ ≠ [] ∨ lowAt b = false then some (36 :: (longN m ++ inBracesS ⟨m, tx, wd, mo⟩)) else if shortN m = [] then none else some (37 :: shortN m) := by
  rw [writeS, if_neg (show ¬ (m : Int) = 1 by omega), if_neg h9]; rfl
theorem proper_word {p : Pc} {k : Nat} (hk : p.kind = k) (h2 : 2 ≤ k) (h : properS p = true) : p.word ≤ 99 := by
  obtain ⟨_, hf⟩ := proper_form hk h2 h
  rcases hf with ⟨_, _, h, _⟩ | ⟨_, _, h, _⟩ | ⟨_, _, m, h, _, _⟩ | ⟨_, _, _, h, _⟩ <;> omega
theorem Rtail_any (p : Pc) (k : Nat) (W : World) (hk : p.kind = k) (h2 : 2 ≤ k) (h : properS p = true) (ht : p.text.size ≤ 100000000) :
    Calls Tryz.prog 52 #[encP p] W (ValPost (bs (inBracesS p)) W) := by
  obtain ⟨h12, hf⟩ := proper_form hk h2 h
  obtain ⟨kd, tx, wd, mo⟩ := p
  dsimp only at hk hf ht
  subst hk
  rcases hf with ⟨rfl, hv, rfl, rfl⟩ | ⟨rfl, hv, rfl, rfl⟩ | ⟨rfl, h0, m, rfl, m0, m1⟩ | ⟨h7, h8, h0, rfl, rfl⟩
  · exact Rtail_bra tx 7 W (.inl rfl) ht (valid_no hv).2
  · exact Rtail_bra tx 8 W (.inr rfl) ht (key_no hv).2
  · exact Rtail_word tx m mo W m0 m1
  · exact Rtail_none tx k W (by omega) (by omega) h0
set_option maxRecDepth 100000 in
set_option maxHeartbeats 40000000 in
theorem RFormat_any (ps : List Pc) (A : Option Addr) (N c : Nat) (w : World) (hE : Env w) (hN : ps.length = N) (hr : RowAt w w.heap.size A 4 N (cellsOf encPc ps)) (hn : N ≤ 1000) (hm : ∀ q ∈ ps, q.text.size ≤ 100000000) :
    Calls Tryz.prog 25 #[.slice A N c] w (ExpPost (formatR ps) w) := by
  have HE := Lib.hid hE
  have HN := Lib.hid hN
  have HRow := Lib.hid hr
  have HM := Lib.hid hm
  clear hE hN hr hm
  go_enter Tryz.func25, Tryz.ntmps25
  go_wp2
  go_loopg [4, 5] N (fun gk s i wr => ∃ k : Nat, k + gk = N ∧ i = .int .i64 k ∧ ∃ ot : ByteArray, s = .string ot ∧ Hid (FmtAtR ps k ot) ∧ Hid (Below w.heap.size w wr))
  case atStart => exact ⟨0, by omega, rfl, ⟨#[]⟩, rfl, fmtAtR_start ps, Below.refl _ _⟩
  case round =>
    obtain ⟨k, hk, rfl, ot, rfl, hF, hbr⟩ := hrel
    by_cases hlt : k < N
    · have hlt' : k < ps.length := by rw [HN.out]; exact hlt
      have hrow := HRow.out
      rw [← HN.out] at hrow
      obtain ⟨ba, off, hA, hba, hcc⟩ := hrow.cell encPc_len hlt'
      obtain ⟨x, hx⟩ : ∃ x, ps[k]? = some x := ⟨_, List.getElem?_eq_getElem hlt'⟩
      have hmem : x ∈ ps := List.mem_of_getElem? hx
      have hxm := HM.out x hmem
      have c0 : wr.cell? ⟨ba, off + k * 4, none⟩ = some (.int .i64 x.kind) := by
        rw [hbr.out.cell (p := ⟨ba, off + k * 4, none⟩) hba]; exact hcc k x hx 0 _ rfl
      have c1 : wr.cell? ⟨ba, off + k * 4 + 1, none⟩ = some (.string x.text) := by
        rw [hbr.out.cell (p := ⟨ba, off + k * 4 + 1, none⟩) hba]; exact hcc k x hx 1 _ rfl
      have c2 : wr.cell? ⟨ba, off + k * 4 + 2, none⟩ = some (.int .i64 x.word) := by
        rw [hbr.out.cell (p := ⟨ba, off + k * 4 + 2, none⟩) hba]; exact hcc k x hx 2 _ rfl
      have c3 : wr.cell? ⟨ba, off + k * 4 + 3, none⟩ = some (.bool x.more) := by
        rw [hbr.out.cell (p := ⟨ba, off + k * 4 + 3, none⟩) hba]; exact hcc k x hx 3 _ rfl
      subst hA
      have HX := Lib.hid hx
      have Hcc := Lib.hid hcc
      have Hba := Lib.hid hba
      have hk' : k ≤ 1000 := by omega
      clear hrow hcc hx hmem hlt' hba
      go_upto_region 7 with fail
      obtain ⟨W2, hW2⟩ : ∃ W2, wr.alloc (.cells #[.int .i64 x.kind, .string x.text, .int .i64 x.word, .bool x.more] 64) = W2 := ⟨_, rfl⟩
      have hblk : W2.heap[wr.heap.size]? = some (.cells #[.int .i64 x.kind, .string x.text, .int .i64 x.word, .bool x.more] 64 (0, 0)) := by rw [← hW2]; exact heap_alloc_last _ _
      have hb2 : Below w.heap.size w W2 := by rw [← hW2]; exact bt hbr.out (below_alloc _ _)
      rw [hW2]
      have HB2 := Lib.hid hb2
      have Hblk := Lib.hid hblk
      have hPB := blk_lt hblk
      generalize wr.heap.size = B at *
      clear hW2 hbr hb2 hblk c0 c1 c2 c3
      go_cut [32, 5] from 9 to 38 (fun s30 s12 wx => s30 = .bool (isTextB (ps.drop (k + 1))) ∧ s12 = .int .i64 k ∧ W2 = wx)
      case first =>
        by_cases hlt2 : k + 1 < N
        · have hI2 : (k : Int) + 1 < (N : Int) := by omega
          obtain ⟨y, hy⟩ : ∃ y, ps[k + 1]? = some y := ⟨_, List.getElem?_eq_getElem (by rw [HN.out]; exact hlt2)⟩
          have d0 : W2.cell? ⟨ba, off + (k + 1) * 4, none⟩ = some (.int .i64 y.kind) := by
            rw [HB2.out.cell (p := ⟨ba, off + (k + 1) * 4, none⟩) Hba.out]; exact Hcc.out (k + 1) y hy 0 _ rfl
          have hd : isTextB (ps.drop (k + 1)) = (y.kind == 1) := by
            have := List.getElem?_eq_some_iff.1 hy
            obtain ⟨h1, h2⟩ := this
            rw [List.drop_eq_getElem_cons h1, h2]; rfl
          have HD := Lib.hid hd
          clear hd hy
          go_wp2
          all_goals
            go_meet
            rw [HD.out]
            exact ⟨rfl, rfl, rfl⟩
        · have hI2 : (N : Int) ≤ (k : Int) + 1 := by omega
          have hd : isTextB (ps.drop (k + 1)) = false := by rw [List.drop_eq_nil_of_le (by rw [HN.out]; omega)]; rfl
          have HD := Lib.hid hd
          clear hd
          go_wp2
          go_meet
          rw [HD.out]
          exact ⟨rfl, rfl, rfl⟩
      case rest =>
      obtain ⟨rfl, rfl, rfl⟩ := hcut
      go_upto_if 32 with fail
      go_cut [7, 5] from 9 to 38 (fun s7 s12 wx => s7 = .string (behB (ps.drop (k + 1))) ∧ s12 = .int .i64 k ∧ W2 = wx)
      case first =>
        cases hi : isTextB (ps.drop (k + 1)) with
        | true =>
          obtain ⟨y, hy, hy1, hby⟩ := isText_at hi
          have hlt2 : k + 1 < N := by have := (List.getElem?_eq_some_iff.1 hy).1; rw [HN.out] at this; exact this
          have hI2 : (k : Int) + 1 < (N : Int) := by omega
          have d1 : W2.cell? ⟨ba, off + (k + 1) * 4 + 1, none⟩ = some (.string y.text) := by
            rw [HB2.out.cell (p := ⟨ba, off + (k + 1) * 4 + 1, none⟩) Hba.out]; exact Hcc.out (k + 1) y hy 1 _ rfl
          have HBy := Lib.hid hby
          have HY := Lib.hid hy
          clear hy hby hi hy1
          go_wp2
          go_meet
          rw [HBy.out]
          exact ⟨rfl, rfl, rfl⟩
        | false =>
          have HBy := Lib.hid (notText_at hi)
          clear hi
          go_wp2
          go_meet
          rw [HBy.out]
          exact ⟨rfl, rfl, rfl⟩
      case rest =>
      obtain ⟨rfl, rfl, rfl⟩ := hcut
      have hQ : ∀ W', Below W2.heap.size W2 W' → W'.cell? ⟨B, 0, none⟩ = some (.int .i64 x.kind) ∧ W'.cell? ⟨B, 1, none⟩ = some (.string x.text) ∧ W'.cell? ⟨B, 2, none⟩ = some (.int .i64 x.word) ∧ W'.cell? ⟨B, 3, none⟩ = some (.bool x.more) := fun W' hb => by
        have hbk := (hb.block _ hPB).trans Hblk.out
        exact ⟨by rw [cell_of_row _ _ 0 _ _ _ hbk]; rfl, by rw [cell_of_row _ _ 1 _ _ _ hbk]; rfl, by rw [cell_of_row _ _ 2 _ _ _ hbk]; rfl, by rw [cell_of_row _ _ 3 _ _ _ hbk]; rfl⟩
      have hbt := behB_L (ps.drop (k + 1))
      have hnone : ∀ (h : rstepS (prevB ps k) x (behindS (ps.drop (k + 1))) = none), formatR ps = (⟨#[]⟩, 90) := fun h => fmtAtR_none hF.out HX.out h
      have hnext : ∀ t, rstepS (prevB ps k) x (behindS (ps.drop (k + 1))) = some t → t.length ≤ 200000100 → FmtAtR ps (k + 1) (ot ++ bs t) := fun t h hl => fmtAtR_next hF.out HX.out h hl
      rw [← hbt] at hnone hnext
      have hbvm : (behB (ps.drop (k + 1))).size ≤ 100000000 := by
        cases hi : isTextB (ps.drop (k + 1)) with
        | true => obtain ⟨y, hy, _, hby⟩ := isText_at hi; rw [hby]; exact HM.out y (List.mem_of_getElem? hy)
        | false => rw [notText_at hi]; exact Nat.zero_le _
      have hlen : ∀ t, properS x = true → writeS x (L (behB (ps.drop (k + 1)))) = some t → t.length ≤ 200000100 := fun t h1 h2 => write_len h1 hxm h2
      generalize behB (ps.drop (k + 1)) = bv at *
      have hprev : prevB ps k = true ∨ prevB ps k = false := by cases prevB ps k <;> simp
      have hpc : 0 < k → ∃ q : Int, W2.cell? ⟨ba, off + ((k : Int) - 1).toNat * 4, none⟩ = some (.int .i64 q) ∧ prevB ps k = (q == 1) := fun h0 => by
        obtain ⟨j, rfl⟩ : ∃ j, k = j + 1 := ⟨k - 1, by omega⟩
        obtain ⟨q, hq⟩ : ∃ q, ps[j]? = some q := ⟨_, List.getElem?_eq_getElem (by rw [HN.out]; omega)⟩
        refine ⟨q.kind, ?_, by rw [prevB, hq]⟩
        rw [show (((j + 1 : Nat) : Int) - 1).toNat = j from by omega]
        rw [HB2.out.cell (p := ⟨ba, off + j * 4, none⟩) Hba.out]; exact Hcc.out j q hq 0 _ rfl
      have hos := hF.out.2
      have hos2 := Nat.mul_le_mul_right 200000100 hk'
      obtain ⟨q0, q1, q2, q3⟩ := hQ W2 (Below.refl _ _)
      obtain ⟨kd, tx, wd, mo⟩ := x
      dsimp only at hQ hxm q0 q1 q2 q3 hlen hnone hnext
      have HQ := Lib.hid hQ
      have HNone := Lib.hid hnone
      have HNext := Lib.hid hnext
      have HLen := Lib.hid hlen
      have HPc := Lib.hid hpc
      clear hQ Hcc Hba hF HX Hblk hbt HRow hnone hnext hlen hpc
      have hPr := fun W => RPrintable_any tx W (by omega)
      have hVa := fun W => RValid_any tx W (by omega)
      have hKe := fun W => RKey_any tx W (by omega)
      go_upto_block 2 with fail
      go_cut [4, 5, 6, 7] from 39 to 168 (fun s4 s5 s6 s7 wx => s4 = .string ot ∧ s5 = .int .i64 k ∧ s6 = .pointer (some ⟨B, 0, none⟩) ∧ s7 = .string bv ∧ W2 = wx ∧ Hid (GoodP kd tx wd mo bv))
      case first =>
        by_cases hk1 : kd = 1
        · as_aux_lemma =>
            subst hk1
            have hp1 := proper_at1 (p := ⟨1, tx, wd, mo⟩) rfl
            dsimp only at hp1
            by_cases he : L tx = []
            · have ht2 : tx.toList = [] := by rw [tl]; exact he
              have ht3 : tx.toList.isEmpty = true := by rw [ht2]; rfl
              have HR := Lib.hid (HNone.out (rstep_bad (by rw [hp1, he]; rfl)))
              clear he hp1 hPr hVa hKe
              go_wp2
              go_ret2
              exact ⟨by rw [HR.out]; rfl, HB2.out⟩
            obtain ⟨n1, n2⟩ := not_empty he
            have hee : (L tx).isEmpty = false := by rw [← tl]; exact n1
            rw [hee] at hp1
            cases hpp : printS (L tx) with
            | false =>
              rw [hpp] at hPr hp1
              have HR := Lib.hid (HNone.out (rstep_bad (by rw [hp1]; rfl)))
              have HPr := Lib.hid hPr
              clear he hp1 hPr hVa hKe hpp hee
              go_wp2_with (go_at_call 49; refine (HPr.out _).mono ?_; rintro e w3 ⟨rfl, rfl⟩)
              go_ret2
              exact ⟨by rw [HR.out]; rfl, HB2.out⟩
            | true =>
              rw [hpp] at hPr hp1
              simp only [Bool.not_false, Bool.true_and] at hp1
              have HPr := Lib.hid hPr
              clear he hPr hVa hKe hpp hee
              rcases hprev with hpv | hpv
              · have hk0 : 0 < k := by
                  rcases Nat.eq_zero_or_pos k with h | h
                  · rw [h] at hpv; cases hpv
                  · exact h
                have HR := Lib.hid (HNone.out (by rw [hpv]; exact rstep_prev rfl))
                have hpc := HPc.out hk0
                rw [hpv] at hpc
                obtain ⟨j, rfl⟩ : ∃ j, k = j + 1 := ⟨k - 1, by omega⟩
                rw [show (((j + 1 : Nat) : Int) - 1).toNat = j from by omega] at hpc
                obtain ⟨q, hqc, hq⟩ := hpc
                have hq1 : (q == 1) = true := hq.symm
                have hkI : (0 : Int) < (j : Int) + 1 := by omega
                have hkI1 : (j : Int) < (N : Int) := by omega
                have hj : j ≤ 1000 := by omega
                clear hpv hq hp1 hk hos hos2 hk0 hk' HPc HLen HNext HNone
                go_wp2_with (go_at_call 49; refine (HPr.out _).mono ?_; rintro e w3 ⟨rfl, rfl⟩)
                go_ret2
                exact ⟨by rw [HR.out]; rfl, HB2.out⟩
              · by_cases hk0 : 0 < k
                · have hpc := HPc.out hk0
                  rw [hpv] at hpc
                  obtain ⟨j, rfl⟩ : ∃ j, k = j + 1 := ⟨k - 1, by omega⟩
                  rw [show (((j + 1 : Nat) : Int) - 1).toNat = j from by omega] at hpc
                  obtain ⟨q, hqc, hq⟩ := hpc
                  have hq1 : (q == 1) = false := hq.symm
                  have hkI : (0 : Int) < (j : Int) + 1 := by omega
                  have hkI1 : (j : Int) < (N : Int) := by omega
                  have hj : j ≤ 1000 := by omega
                  clear hq hk0 hk'
                  by_cases hw0 : wd = 0
                  · have hww : (wd == 0) = true := by simpa using hw0
                    rw [hww] at hp1
                    subst hw0
                    cases mo with
                    | true =>
                      have HR := Lib.hid (HNone.out (rstep_bad (by rw [hp1]; rfl)))
                      clear hp1 hww hos hos2 HPc HLen HNext HNone hk
                      go_wp2_with (go_at_call 49; refine (HPr.out _).mono ?_; rintro e w3 ⟨rfl, rfl⟩)
                      go_ret2
                      exact ⟨by rw [HR.out]; rfl, HB2.out⟩
                    | false =>
                      have hpr : properS ⟨1, tx, 0, false⟩ = true := by rw [hp1]; rfl
                      have hws : writeS ⟨1, tx, 0, false⟩ (L bv) = some (dbl (L tx)) := by rw [writeS, if_pos rfl]
                      have hl := HLen.out _ hpr hws
                      have HF := Lib.hid (HNext.out _ (by rw [hpv, rstep_good hpr (fun h => by cases h.2)]; exact hws) hl)
                      have hq5 : (9223372036854775807 < ot.size + (bs (dbl (L tx))).size) = False := by rw [size_bs]; simp; omega
                      have H1 := Lib.hid (Replace1 tx 36 W2 (HE.out.go HB2.out) (by omega))
                      have HK := Lib.hid hk
                      clear hp1 hpr hws hl hww hos hos2 HPc HLen HNext HNone hk hpv
                      go_wp2_with (go_at_call 49; refine (HPr.out _).mono ?_; rintro e w3 ⟨rfl, rfl⟩)
                      with_reducible refine H1.out.mono ?_
                      rintro e w4 ⟨rfl, hz4, hb4⟩
                      have HB4 := Lib.hid (bt HB2.out hb4)
                      clear hb4
                      go_wp2_with fail
                      with_reducible refine (Replace1 _ 37 _ (HE.out.go HB4.out) (by omega)).mono ?_
                      rintro e w5 ⟨rfl, hz5, hb5⟩
                      rw [L_bs, dbl_eq]
                      have HB5 := Lib.hid (bt HB4.out hb5)
                      clear hb5 hz4 hz5
                      go_wp2
                      have hk := HK.out
                      go_roundg (gk - 1)
                      case measure => omega
                      case rel => exact ⟨j + 1 + 1, by omega, by go_num, _, rfl, HF.out, HB5.out⟩
                  · have hww : (wd == 0) = false := by simpa using hw0
                    have hwn : (wd != 0) = true := by simpa using hw0
                    have HR := Lib.hid (HNone.out (rstep_bad (by rw [hp1, hww]; rfl)))
                    clear hp1 hw0 hos hos2 HPc HLen HNext HNone hk
                    go_wp2_with (go_at_call 49; refine (HPr.out _).mono ?_; rintro e w3 ⟨rfl, rfl⟩)
                    go_ret2
                    exact ⟨by rw [HR.out]; rfl, HB2.out⟩
                · have hkI : (k : Int) ≤ 0 := by omega
                  by_cases hw0 : wd = 0
                  · have hww : (wd == 0) = true := by simpa using hw0
                    rw [hww] at hp1
                    subst hw0
                    cases mo with
                    | true =>
                      have HR := Lib.hid (HNone.out (rstep_bad (by rw [hp1]; rfl)))
                      clear hp1 hww hos hos2 HPc HLen HNext HNone hk
                      go_wp2_with (go_at_call 49; refine (HPr.out _).mono ?_; rintro e w3 ⟨rfl, rfl⟩)
                      go_ret2
                      exact ⟨by rw [HR.out]; rfl, HB2.out⟩
                    | false =>
                      have hpr : properS ⟨1, tx, 0, false⟩ = true := by rw [hp1]; rfl
                      have hws : writeS ⟨1, tx, 0, false⟩ (L bv) = some (dbl (L tx)) := by rw [writeS, if_pos rfl]
                      have hl := HLen.out _ hpr hws
                      have HF := Lib.hid (HNext.out _ (by rw [hpv, rstep_good hpr (fun h => by cases h.2)]; exact hws) hl)
                      have hq5 : (9223372036854775807 < ot.size + (bs (dbl (L tx))).size) = False := by rw [size_bs]; simp; omega
                      have H1 := Lib.hid (Replace1 tx 36 W2 (HE.out.go HB2.out) (by omega))
                      have HK := Lib.hid hk
                      clear hp1 hpr hws hl hww hos hos2 HPc HLen HNext HNone hk hpv
                      go_wp2_with (go_at_call 49; refine (HPr.out _).mono ?_; rintro e w3 ⟨rfl, rfl⟩)
                      with_reducible refine H1.out.mono ?_
                      rintro e w4 ⟨rfl, hz4, hb4⟩
                      have HB4 := Lib.hid (bt HB2.out hb4)
                      clear hb4
                      go_wp2_with fail
                      with_reducible refine (Replace1 _ 37 _ (HE.out.go HB4.out) (by omega)).mono ?_
                      rintro e w5 ⟨rfl, hz5, hb5⟩
                      rw [L_bs, dbl_eq]
                      have HB5 := Lib.hid (bt HB4.out hb5)
                      clear hb5 hz4 hz5
                      go_wp2
                      have hk := HK.out
                      go_roundg (gk - 1)
                      case measure => omega
                      case rel => exact ⟨k + 1, by omega, by go_num, _, rfl, HF.out, HB5.out⟩
                  · have hww : (wd == 0) = false := by simpa using hw0
                    have hwn : (wd != 0) = true := by simpa using hw0
                    have HR := Lib.hid (HNone.out (rstep_bad (by rw [hp1, hww]; rfl)))
                    clear hp1 hw0 hos hos2 HPc HLen HNext HNone hk
                    go_wp2_with (go_at_call 49; refine (HPr.out _).mono ?_; rintro e w3 ⟨rfl, rfl⟩)
                    go_ret2
                    exact ⟨by rw [HR.out]; rfl, HB2.out⟩
        have kb1 : (kd == 1) = false := by simpa using hk1
        by_cases hout : kd < 1 ∨ 11 < kd
        · have HR := Lib.hid (HNone.out (rstep_bad (proper_out_no hout)))
          clear hPr hVa hKe HPc HLen HNext HNone
          by_cases h2 : kd < 2
          · clear hout hk1
            go_wp2
            go_ret2
            exact ⟨by rw [HR.out]; rfl, HB2.out⟩
          · have h11 : 11 < kd := by omega
            clear hout hk1
            go_wp2
            go_ret2
            exact ⟨by rw [HR.out]; rfl, HB2.out⟩
        obtain ⟨m, rfl⟩ : ∃ m : Nat, kd = m := ⟨kd.toNat, by omega⟩
        have hm2 : 2 ≤ m := by omega
        have hm12 : m < 12 := by omega
        have hmI : (2 : Int) ≤ (m : Int) := by omega
        have hmI2 : (m : Int) ≤ 11 := by omega
        clear hk1 hout hPr
        have hHP := fun W => HasPrefix_any bv ⟨#[123]⟩ W
        change ∀ W, Calls _ _ _ _ (fun e w' => e = .returned (.bool (Lib.hasPrefix (L bv) [123])) ∧ W = w') at hHP
        rw [prefix_one] at hHP
        have HHP := Lib.hid hHP
        clear hHP
        by_cases h7 : m = 7
        · as_aux_lemma =>
            subst h7
            clear kb1 hKe
            have hp1 := proper_at7 (p := ⟨((7 : Nat) : Int), tx, wd, mo⟩) rfl
            dsimp only at hp1
            simp only [Int.cast_ofNat_Int] at *
            cases hv : validS (L tx) with
            | false =>
              rw [hv] at hVa hp1
              have HVa := Lib.hid hVa
              clear hVa hv
              have HR := Lib.hid (HNone.out (rstep_bad (by rw [hp1]; rfl)))
              clear hos hos2 HPc HLen HNext HNone hp1
              go_wp2_with (first | (go_at_call 50; refine (HVa.out _).mono ?_; rintro e w3 ⟨rfl, rfl⟩))
              go_ret2
              exact ⟨by rw [HR.out]; rfl, HB2.out⟩
            | true =>
              have hve := (valid_no hv).2
              rw [hv] at hVa hp1
              simp only [Bool.true_and] at hp1
              have HVa := Lib.hid hVa
              clear hVa hv
              by_cases hw0 : wd = 0
              · subst hw0
                cases mo with
                | true =>
                  have HR := Lib.hid (HNone.out (rstep_bad (by rw [hp1]; rfl)))
                  clear hos hos2 HPc HLen HNext HNone hp1 hve
                  go_wp2_with (first | (go_at_call 50; refine (HVa.out _).mono ?_; rintro e w3 ⟨rfl, rfl⟩))
                  go_ret2
                  exact ⟨by rw [HR.out]; rfl, HB2.out⟩
                | false =>
                  have hpr : properS ⟨7, tx, 0, false⟩ = true := by rw [hp1]; rfl
                  have HG : Hid (GoodP (7) tx (0) false bv) := Lib.hid ⟨⟨7, rfl, by omega, by omega⟩, hpr, (fun h => absurd h.1 (by decide))⟩
                  clear hos hos2 HPc HLen HNext HNone hp1 hpr hve
                  go_wp2_with (first | (go_at_call 50; refine (HVa.out _).mono ?_; rintro e w3 ⟨rfl, rfl⟩))
                  go_meet
                  exact ⟨rfl, rfl, rfl, rfl, rfl, HG⟩
              · have hww : (wd == 0) = false := by simpa using hw0
                have hwn : (wd != 0) = true := by simpa using hw0
                have HR := Lib.hid (HNone.out (rstep_bad (by rw [hp1, hww]; rfl)))
                clear hos hos2 HPc HLen HNext HNone hp1 hw0 hve
                go_wp2_with (first | (go_at_call 50; refine (HVa.out _).mono ?_; rintro e w3 ⟨rfl, rfl⟩))
                go_ret2
                exact ⟨by rw [HR.out]; rfl, HB2.out⟩
        by_cases h8 : m = 8
        · as_aux_lemma =>
            subst h8
            clear kb1 hVa
            have hp1 := proper_at8 (p := ⟨((8 : Nat) : Int), tx, wd, mo⟩) rfl
            dsimp only at hp1
            simp only [Int.cast_ofNat_Int] at *
            cases hv : keyS (L tx) with
            | false =>
              rw [hv] at hKe hp1
              have HKe := Lib.hid hKe
              clear hKe hv
              have HR := Lib.hid (HNone.out (rstep_bad (by rw [hp1]; rfl)))
              clear hos hos2 HPc HLen HNext HNone hp1
              go_wp2_with (first | (go_at_call 51; refine (HKe.out _).mono ?_; rintro e w3 ⟨rfl, rfl⟩))
              go_ret2
              exact ⟨by rw [HR.out]; rfl, HB2.out⟩
            | true =>
              have hve := (key_no hv).2
              rw [hv] at hKe hp1
              simp only [Bool.true_and] at hp1
              have HKe := Lib.hid hKe
              clear hKe hv
              by_cases hw0 : wd = 0
              · subst hw0
                cases mo with
                | true =>
                  have HR := Lib.hid (HNone.out (rstep_bad (by rw [hp1]; rfl)))
                  clear hos hos2 HPc HLen HNext HNone hp1 hve
                  go_wp2_with (first | (go_at_call 51; refine (HKe.out _).mono ?_; rintro e w3 ⟨rfl, rfl⟩))
                  go_ret2
                  exact ⟨by rw [HR.out]; rfl, HB2.out⟩
                | false =>
                  have hpr : properS ⟨8, tx, 0, false⟩ = true := by rw [hp1]; rfl
                  have HG : Hid (GoodP (8) tx (0) false bv) := Lib.hid ⟨⟨8, rfl, by omega, by omega⟩, hpr, (fun h => absurd h.1 (by decide))⟩
                  clear hos hos2 HPc HLen HNext HNone hp1 hpr hve
                  go_wp2_with (first | (go_at_call 51; refine (HKe.out _).mono ?_; rintro e w3 ⟨rfl, rfl⟩))
                  go_meet
                  exact ⟨rfl, rfl, rfl, rfl, rfl, HG⟩
              · have hww : (wd == 0) = false := by simpa using hw0
                have hwn : (wd != 0) = true := by simpa using hw0
                have HR := Lib.hid (HNone.out (rstep_bad (by rw [hp1, hww]; rfl)))
                clear hos hos2 HPc HLen HNext HNone hp1 hw0 hve
                go_wp2_with (first | (go_at_call 51; refine (HKe.out _).mono ?_; rintro e w3 ⟨rfl, rfl⟩))
                go_ret2
                exact ⟨by rw [HR.out]; rfl, HB2.out⟩
        clear hVa hKe
        by_cases h9 : m = 9
        · as_aux_lemma =>
            subst h9
            clear kb1 h7 h8
            have hp1 := proper_at9 (p := ⟨((9 : Nat) : Int), tx, wd, mo⟩) rfl
            dsimp only at hp1
            simp only [Int.cast_ofNat_Int] at *
            by_cases ht0 : L tx = []
            · have ht2 : tx.toList = [] := by rw [tl]; exact ht0
              have ht3 : tx.toList.isEmpty = true := by rw [ht2]; rfl
              rw [ht0] at hp1
              simp only [List.isEmpty_nil, Bool.true_and] at hp1
              by_cases hw0 : wd = 0
              · subst hw0
                simp only [if_true] at hp1
                cases mo with
                | true =>
                  have HR := Lib.hid (HNone.out (rstep_bad (by rw [hp1]; rfl)))
                  clear hos hos2 HPc HLen HNext HNone hp1 ht0
                  go_wp2_with (first | (go_at_call 42; refine (HHP.out _).mono ?_; rintro e w3 ⟨rfl, rfl⟩))
                  go_ret2
                  exact ⟨by rw [HR.out]; rfl, HB2.out⟩
                | false =>
                  have hpr : properS ⟨9, tx, 0, false⟩ = true := by rw [hp1]; rfl
                  by_cases hh : (L bv).head? = some 123
                  · have hHP := HHP.out
                    rw [show ((L bv).head? == some 123) = true by rw [hh]; rfl] at hHP
                    have hi : inBracesS ⟨9, tx, 0, false⟩ = [] := by
                      unfold inBracesS insideS
                      rw [ht0]
                      rfl
                    clear HHP
                    have HHP := Lib.hid hHP
                    clear hHP
                    have HR := Lib.hid (HNone.out (by rw [rstep_good hpr (fun h => absurd (show (9 : Int) = 1 from h.1) (by omega)), writeS, if_neg (show ¬ (9 : Int) = 1 by omega), if_pos ⟨rfl, hi, hh⟩]))
                    clear hos hos2 HPc HLen HNext HNone hp1 hpr hi hh ht0
                    go_wp2_with (first | (go_at_call 42; refine (HHP.out _).mono ?_; rintro e w3 ⟨rfl, rfl⟩))
                    go_ret2
                    exact ⟨by rw [HR.out]; rfl, HB2.out⟩
                  · have hHP := HHP.out
                    rw [show ((L bv).head? == some 123) = false by cases hc : ((L bv).head? == some 123) with | false => rfl | true => exact absurd (by simpa using hc) hh] at hHP
                    have h9h : ¬ ((9 : Int) = 9 ∧ (L bv).head? = some 123) := fun h => hh h.2
                    clear HHP
                    have HHP := Lib.hid hHP
                    clear hHP hh
                    have HG : Hid (GoodP (9) tx (0) false bv) := Lib.hid ⟨⟨9, rfl, by omega, by omega⟩, hpr, (fun h => h9h ⟨rfl, h.2.2⟩)⟩
                    clear hos hos2 HPc HLen HNext HNone hp1 hpr ht0 h9h
                    go_wp2_with (first | (go_at_call 42; refine (HHP.out _).mono ?_; rintro e w3 ⟨rfl, rfl⟩))
                    go_meet
                    exact ⟨rfl, rfl, rfl, rfl, rfl, HG⟩
              · have hww : (wd == 0) = false := by simpa using hw0
                rw [if_neg hw0] at hp1
                by_cases hlo0 : wd < 0
                · have HR := Lib.hid (HNone.out (rstep_bad (by rw [hp1]; simp; omega)))
                  clear hos hos2 HPc HLen HNext HNone hp1 ht0 hw0
                  go_wp2_with (first | (go_at_call 42; refine (HHP.out _).mono ?_; rintro e w3 ⟨rfl, rfl⟩))
                  go_ret2
                  exact ⟨by rw [HR.out]; rfl, HB2.out⟩
                by_cases hhi : 99 < wd
                · have HR := Lib.hid (HNone.out (rstep_bad (by rw [hp1]; simp; omega)))
                  clear hos hos2 HPc HLen HNext HNone hp1 ht0 hw0
                  go_wp2_with (first | (go_at_call 42; refine (HHP.out _).mono ?_; rintro e w3 ⟨rfl, rfl⟩))
                  go_ret2
                  exact ⟨by rw [HR.out]; rfl, HB2.out⟩
                obtain ⟨z, rfl⟩ : ∃ z : Nat, wd = z := ⟨wd.toNat, by omega⟩
                have hz0 : 0 < z := by omega
                have hz1 : z < 100 := by omega
                have hpr : properS ⟨9, tx, z, mo⟩ = true := by rw [hp1]; simp; omega
                clear hw0
                have hzne : inBracesS ⟨9, tx, z, mo⟩ ≠ [] := by
                  unfold inBracesS
                  rw [if_neg]
                  · simp
                  · unfold insideS
                    dsimp only
                    rw [if_pos (show (0 : Int) < (z : Int) by omega), Int.toNat_natCast]
                    have := (digits_at hz1).1
                    intro h
                    exact this (List.append_eq_nil_iff.1 h).1
                have HG : Hid (GoodP (9) tx ((z : Int)) mo bv) := Lib.hid ⟨⟨9, rfl, by omega, by omega⟩, hpr, (fun h => hzne h.2.1)⟩
                clear hos hos2 HPc HLen HNext HNone hp1 hpr ht0 hzne
                go_wp2_with (first | (go_at_call 42; refine (HHP.out _).mono ?_; rintro e w3 ⟨rfl, rfl⟩))
                go_meet
                exact ⟨rfl, rfl, rfl, rfl, rfl, HG⟩
            · obtain ⟨n1, n2⟩ := not_empty ht0
              have hee : (L tx).isEmpty = false := by rw [← tl]; exact n1
              have HR := Lib.hid (HNone.out (rstep_bad (by rw [hp1, hee]; rfl)))
              clear hos hos2 HPc HLen HNext HNone hp1 ht0 hee 
              go_wp2_with (first | (go_at_call 42; refine (HHP.out _).mono ?_; rintro e w3 ⟨rfl, rfl⟩))
              go_ret2
              exact ⟨by rw [HR.out]; rfl, HB2.out⟩
        as_aux_lemma =>
          have hp1 := proper_ato (p := ⟨(m : Int), tx, wd, mo⟩) rfl hm2 hm12 h7 h8 h9
          dsimp only at hp1
          have hmA : ¬ (m : Int) < 2 := by omega
          have hmB : ¬ 11 < (m : Int) := by omega
          have kb7 : ((m : Int) == 7) = false := by simp; omega
          have kb8 : ((m : Int) == 8) = false := by simp; omega
          have kb9 : ((m : Int) == 9) = false := by simp; omega
          have kn7 : ((m : Int) != 7) = true := by simp; omega
          have kn8 : ((m : Int) != 8) = true := by simp; omega
          have kn9 : ((m : Int) != 9) = true := by simp; omega
          clear HHP
          by_cases ht0 : L tx = []
          · have ht2 : tx.toList = [] := by rw [tl]; exact ht0
            have ht3 : tx.toList.isEmpty = true := by rw [ht2]; rfl
            rw [ht0] at hp1
            simp only [List.isEmpty_nil, Bool.true_and] at hp1
            by_cases hw0 : wd = 0
            · subst hw0
              cases mo with
              | true =>
                have HR := Lib.hid (HNone.out (rstep_bad (by rw [hp1]; rfl)))
                clear hos hos2 HPc HLen HNext HNone hp1 ht0
                go_wp2_with fail
                go_ret2
                exact ⟨by rw [HR.out]; rfl, HB2.out⟩
              | false =>
                have hpr : properS ⟨(m : Int), tx, 0, false⟩ = true := by rw [hp1]; rfl
                have HG : Hid (GoodP ((m : Int)) tx (0) false bv) := Lib.hid ⟨⟨m, rfl, by omega, by omega⟩, hpr, (fun h => h9 (by have := h.1; omega))⟩
                clear hos hos2 HPc HLen HNext HNone hp1 hpr ht0
                go_wp2_with fail
                go_meet
                exact ⟨rfl, rfl, rfl, rfl, rfl, HG⟩
            · have hww : (wd == 0) = false := by simpa using hw0
              have hwn : (wd != 0) = true := by simpa using hw0
              have HR := Lib.hid (HNone.out (rstep_bad (by rw [hp1, hww]; rfl)))
              clear hos hos2 HPc HLen HNext HNone hp1 hw0 ht0
              go_wp2_with fail
              go_ret2
              exact ⟨by rw [HR.out]; rfl, HB2.out⟩
          · obtain ⟨n1, n2⟩ := not_empty ht0
            have hee : (L tx).isEmpty = false := by rw [← tl]; exact n1
            have HR := Lib.hid (HNone.out (rstep_bad (by rw [hp1, hee]; rfl)))
            clear hos hos2 HPc HLen HNext HNone hp1 ht0 hee 
            go_wp2_with fail
            go_ret2
            exact ⟨by rw [HR.out]; rfl, HB2.out⟩
      case rest =>
      as_aux_lemma =>
        obtain ⟨rfl, rfl, rfl, rfl, rfl, hg⟩ := hcut
        obtain ⟨⟨m, rfl, hm2, hm12⟩, hpr, h9⟩ := hg.out
        have hmI : (0 : Int) ≤ (m : Int) := by omega
        have hmI2 : (m : Int) < 12 := by omega
        clear hg hPr hVa hKe hprev HPc
        have HWs := Lib.hid (write_rule (tx := tx) (wd := wd) (mo := mo) (b := L bv) hm2 h9)
        have HRs : Hid (rstepS (prevB ps k) ⟨(m : Int), tx, wd, mo⟩ (L bv) = writeS ⟨(m : Int), tx, wd, mo⟩ (L bv)) := Lib.hid (rstep_good hpr (fun h => absurd (show (m : Int) = 1 from h.1) (by omega)))
        have hil := inside_len ⟨(m : Int), tx, wd, mo⟩ (proper_word (k := m) rfl hm2 hpr) hxm
        have hTl := fun W => Rtail_any ⟨(m : Int), tx, wd, mo⟩ m W rfl hm2 hpr hxm
        unfold encP at hTl
        generalize inBracesS ⟨(m : Int), tx, wd, mo⟩ = ib at *
        have HTl := Lib.hid hTl
        have HK := Lib.hid hk
        have hibs : (bs ib).size ≤ 100000012 := by rw [size_bs]; exact hil
        clear hTl hil hk h9
        by_cases hib : ib = []
        · subst hib
          have i1 : (bs []).toList = [] := by rw [tl, L_bs]
          have i2 : (bs []).toList.isEmpty = true := by rw [i1]; rfl
          by_cases hb0 : L bv = []
          · have j1 : bv.toList = [] := by rw [tl]; exact hb0
            have j2 : bv.toList.isEmpty = true := by rw [j1]; rfl
            have hws := HWs.out
            rw [if_pos (by rw [hb0]; exact .inr rfl)] at hws
            have hl := HLen.out _ hpr hws
            have HF := Lib.hid (HNext.out _ (by rw [HRs.out]; exact hws) hl)
            clear hws hl hpr HLen HNext HNone HWs HRs hb0 hm2
            go_upto_region 28 with (first | (go_at_call 52; refine (HTl.out _).mono ?_; rintro e w4 ⟨rfl, hb4⟩; obtain ⟨z0, z1, z2, z3⟩ := HQ.out _ hb4; have HB4 := Lib.hid (bt HB2.out hb4); have Hb4 := Lib.hid hb4; clear hb4))
            have hSx : ∀ W', Below w4.heap.size w4 W' → W'.cell? ⟨B, 0, none⟩ = some (.int .i64 (m : Int)) ∧ Below w4.heap.size w4 W' := fun W' hb => ⟨(HQ.out _ (bt Hb4.out hb)).1, hb⟩
            have hlo : (⟨(longN m).toArray⟩ : ByteArray).size ≤ 10 := long_size m
            have hlong : (⟨#[36]⟩ : ByteArray) ++ ⟨(longN m).toArray⟩ ++ bs [] = bs (36 :: (longN m ++ L (bs []))) := L_inj (by simp [L_bs])
            have hcw : ∀ W : World, (W.alloc (.cells (rwords.map Value.string).toArray 9)).cell? ⟨W.heap.size, m, none⟩ = some (.string ⟨(longN m).toArray⟩) := fun W => by
              rw [cell_of_row _ _ m _ _ _ (heap_alloc_last W _)]
              exact rwords_cell m (by omega)
            have Hlong := Lib.hid hlong
            clear hlong
            generalize (⟨(longN m).toArray⟩ : ByteArray) = lo at *
            have hq1 : (9223372036854775807 < 1 + lo.size) = False := by simp; omega
            have hq2 : (9223372036854775807 < 1 + lo.size + (bs []).size) = False := by simp; omega
            have hq3 : (9223372036854775807 < ot.size + (1 + lo.size + (bs []).size)) = False := by simp; omega
            have HSx := Lib.hid hSx
            have hsx := hSx w4 (Below.refl _ _)
            clear hSx hlo hos hos2
            refine wp_region_held_drew (S := fun W' => W'.cell? ⟨B, 0, none⟩ = some (.int .i64 (m : Int)) ∧ Below w4.heap.size w4 W') (by kernel_rfl) ?_ (fun hHeld => ?_)
            · exact HSx.out _ (Below.drew (Below.refl _ _))
            refine wpAnyH_take (i := 0) (v := ?_) (by simp only [List.getElem?_toArray, List.getElem?_cons_zero]; rfl) (by kernel_rfl) (by kernel_rfl) (by kernel_rfl) (by exact fun _ _ _ h => h) (Or.inl ⟨by rfl, ?_⟩) (by assumption) ?_
            rotate_left
            · intro w hSw
              go_simp
              try with_reducible rfl
            try simp only [Act.put, List.setIfInBounds_toArray, List.set_cons_zero, List.set_cons_succ]
            refine wpAnyH_take (i := 2) (v := ?_) (by simp only [List.getElem?_toArray, List.getElem?_cons_succ, List.getElem?_cons_zero]; rfl) (by kernel_rfl) (by kernel_rfl) (by kernel_rfl) (by exact fun _ _ _ h => h) (Or.inl ⟨by rfl, ?_⟩) (by assumption) ?_
            rotate_left
            · intro w hSw
              go_simp
              try with_reducible rfl
            try simp only [Act.put, List.setIfInBounds_toArray, List.set_cons_zero, List.set_cons_succ]
            refine wpAnyH_take (i := 3) (v := ?_) (by simp only [List.getElem?_toArray, List.getElem?_cons_succ, List.getElem?_cons_zero]; rfl) (by kernel_rfl) (by kernel_rfl) (by kernel_rfl) (by exact fun _ _ _ h => h) (Or.inl ⟨by rfl, ?_⟩) (by assumption) ?_
            rotate_left
            · intro w hSw
              go_simp
              try with_reducible rfl
            try simp only [Act.put, List.setIfInBounds_toArray, List.set_cons_zero, List.set_cons_succ]
            refine wpAnyH_take (i := 7) (v := ?_) (by simp only [List.getElem?_toArray, List.getElem?_cons_succ, List.getElem?_cons_zero]; rfl) (by kernel_rfl) (by kernel_rfl) (by kernel_rfl) (by exact fun _ _ _ h => h) (Or.inl ⟨by rfl, ?_⟩) (by assumption) ?_
            rotate_left
            · intro w hSw
              go_simp
              try with_reducible rfl
            try simp only [Act.put, List.setIfInBounds_toArray, List.set_cons_zero, List.set_cons_succ]
            refine wpAnyH_ready (rs := [1]) (by kernel_rfl) (by simp) ?_
            refine AllReadyH.cons (by simp only [List.getElem?_toArray, List.getElem?_cons_succ, List.getElem?_cons_zero]; rfl) (fun K hK => ?_) AllReadyH.nil
            go_simp
            go_at_call 53
            refine (Rwords_any _).mono ?_
            rintro e w5 ⟨rfl, rfl⟩
            refine hK.out _ _ (by refine HSx.out _ ?_; repeat (first | exact Below.refl _ _ | with_reducible refine Below.drew ?_ | refine bt ?_ (below_alloc _ _))) (fun hHeld => ?_)
            clear hK K
            try simp only [Act.put, List.setIfInBounds_toArray, List.set_cons_zero, List.set_cons_succ]
            refine wpAnyH_take (i := 4) (v := ?_) (by simp only [List.getElem?_toArray, List.getElem?_cons_succ, List.getElem?_cons_zero]; rfl) (by kernel_rfl) (by kernel_rfl) (by kernel_rfl) (by exact fun _ _ _ h => h) (Or.inl ⟨by rfl, ?_⟩) (by assumption) ?_
            rotate_left
            · intro w hSw
              go_simp
              try with_reducible rfl
            try simp only [Act.put, List.setIfInBounds_toArray, List.set_cons_zero, List.set_cons_succ]
            refine wpAnyH_ready (rs := [5]) (by kernel_rfl) (by simp) ?_
            refine AllReadyH.cons (by simp only [List.getElem?_toArray, List.getElem?_cons_succ, List.getElem?_cons_zero]; rfl) (fun K hK => ?_) AllReadyH.nil
            go_simp
            refine hK.out _ _ (by refine HSx.out _ ?_; repeat (first | exact Below.refl _ _ | with_reducible refine Below.drew ?_ | refine bt ?_ (below_alloc _ _))) (fun hHeld => ?_)
            clear hK K
            try simp only [Act.put, List.setIfInBounds_toArray, List.set_cons_zero, List.set_cons_succ]
            refine wpAnyH_take (i := 6) (v := ?_) (by simp only [List.getElem?_toArray, List.getElem?_cons_succ, List.getElem?_cons_zero]; rfl) (by kernel_rfl) (by kernel_rfl) (by kernel_rfl) (by exact fun _ _ _ h => h) (Or.inl ⟨by rfl, ?_⟩) (by assumption) ?_
            rotate_left
            · intro w hSw
              go_simp
              try with_reducible rfl
            try simp only [Act.put, List.setIfInBounds_toArray, List.set_cons_zero, List.set_cons_succ]
            refine wpAnyH_take (i := 8) (v := ?_) (by simp only [List.getElem?_toArray, List.getElem?_cons_succ, List.getElem?_cons_zero]; rfl) (by kernel_rfl) (by kernel_rfl) (by kernel_rfl) (by exact fun _ _ _ h => h) (Or.inl ⟨by rfl, ?_⟩) (by assumption) ?_
            rotate_left
            · intro w hSw
              go_simp
              try with_reducible rfl
            try simp only [Act.put, List.setIfInBounds_toArray, List.set_cons_zero, List.set_cons_succ]
            refine wpAnyH_take (i := 9) (v := ?_) (by simp only [List.getElem?_toArray, List.getElem?_cons_succ, List.getElem?_cons_zero]; rfl) (by kernel_rfl) (by kernel_rfl) (by kernel_rfl) (by exact fun _ _ _ h => h) (Or.inl ⟨by rfl, ?_⟩) (by assumption) ?_
            rotate_left
            · intro w hSw
              go_simp
              try with_reducible rfl
            try simp only [Act.put, List.setIfInBounds_toArray, List.set_cons_zero, List.set_cons_succ]
            refine wpAnyH_take (i := 10) (v := ?_) (by simp only [List.getElem?_toArray, List.getElem?_cons_succ, List.getElem?_cons_zero]; rfl) (by kernel_rfl) (by kernel_rfl) (by kernel_rfl) (by exact fun _ _ _ h => h) (Or.inl ⟨by rfl, ?_⟩) (by assumption) ?_
            rotate_left
            · intro w hSw
              go_simp
              try with_reducible rfl
            try simp only [Act.put, List.setIfInBounds_toArray, List.set_cons_zero, List.set_cons_succ]
            refine wpAnyH_done (by kernel_rfl) ?_ _
            have HBy := Lib.hid (bt HB4.out hHeld.2)
            clear hHeld hsx hcw hq1 hq2 hq3
            have hk := HK.out
            go_wp2_with fail
            go_roundg (gk - 1)
            case measure => omega
            case rel => exact ⟨k + 1, by omega, by go_num, _, rfl, (by rw [Hlong.out, L_bs]; exact HF.out), HBy.out⟩
          · obtain ⟨n1, n2⟩ := not_empty hb0
            have hbz : 0 < bv.size := by
              have := List.length_pos_iff.2 hb0
              rw [len_L] at this; exact this
            have hlow : lowAt (L bv) = decide (97 ≤ bv[0].toNat ∧ bv[0].toNat ≤ 122) := by
              have := drop_cons bv 0 hbz
              rw [List.drop_zero] at this
              rw [this]; rfl
            have hix := index_head bv hbz
            rw [show (bv[0].toNat : Int) = ((bv[0].toNat : Nat) : Int) from rfl] at hix
            obtain ⟨cb, hcb⟩ : ∃ cb : Nat, bv[0].toNat = cb := ⟨_, rfl⟩
            rw [hcb] at hix hlow
            clear hb0 hcb
            by_cases h97 : (cb : Int) < 97
            · have hcb2 : decide ((97 : Int) ≤ (cb : Int)) = false := by simp; omega
              have hws := HWs.out
              rw [if_pos (by rw [hlow]; right; simp; omega)] at hws
              have hl := HLen.out _ hpr hws
              have HF := Lib.hid (HNext.out _ (by rw [HRs.out]; exact hws) hl)
              clear hws hl hpr HLen HNext HNone HWs HRs hlow h97 hPB hm2
              go_upto_region 28 with (first | (go_at_call 52; refine (HTl.out _).mono ?_; rintro e w4 ⟨rfl, hb4⟩; obtain ⟨z0, z1, z2, z3⟩ := HQ.out _ hb4; have HB4 := Lib.hid (bt HB2.out hb4); have Hb4 := Lib.hid hb4; clear hb4))
              have hSx : ∀ W', Below w4.heap.size w4 W' → W'.cell? ⟨B, 0, none⟩ = some (.int .i64 (m : Int)) ∧ Below w4.heap.size w4 W' := fun W' hb => ⟨(HQ.out _ (bt Hb4.out hb)).1, hb⟩
              have hlo : (⟨(longN m).toArray⟩ : ByteArray).size ≤ 10 := long_size m
              have hlong : (⟨#[36]⟩ : ByteArray) ++ ⟨(longN m).toArray⟩ ++ bs [] = bs (36 :: (longN m ++ L (bs []))) := L_inj (by simp [L_bs])
              have hcw : ∀ W : World, (W.alloc (.cells (rwords.map Value.string).toArray 9)).cell? ⟨W.heap.size, m, none⟩ = some (.string ⟨(longN m).toArray⟩) := fun W => by
                rw [cell_of_row _ _ m _ _ _ (heap_alloc_last W _)]
                exact rwords_cell m (by omega)
              have Hlong := Lib.hid hlong
              clear hlong
              generalize (⟨(longN m).toArray⟩ : ByteArray) = lo at *
              have hq1 : (9223372036854775807 < 1 + lo.size) = False := by simp; omega
              have hq2 : (9223372036854775807 < 1 + lo.size + (bs []).size) = False := by simp; omega
              have hq3 : (9223372036854775807 < ot.size + (1 + lo.size + (bs []).size)) = False := by simp; omega
              have HSx := Lib.hid hSx
              have hsx := hSx w4 (Below.refl _ _)
              clear hSx hlo hos hos2
              refine wp_region_held_drew (S := fun W' => W'.cell? ⟨B, 0, none⟩ = some (.int .i64 (m : Int)) ∧ Below w4.heap.size w4 W') (by kernel_rfl) ?_ (fun hHeld => ?_)
              · exact HSx.out _ (Below.drew (Below.refl _ _))
              refine wpAnyH_take (i := 0) (v := ?_) (by simp only [List.getElem?_toArray, List.getElem?_cons_zero]; rfl) (by kernel_rfl) (by kernel_rfl) (by kernel_rfl) (by exact fun _ _ _ h => h) (Or.inl ⟨by rfl, ?_⟩) (by assumption) ?_
              rotate_left
              · intro w hSw
                go_simp
                try with_reducible rfl
              try simp only [Act.put, List.setIfInBounds_toArray, List.set_cons_zero, List.set_cons_succ]
              refine wpAnyH_take (i := 2) (v := ?_) (by simp only [List.getElem?_toArray, List.getElem?_cons_succ, List.getElem?_cons_zero]; rfl) (by kernel_rfl) (by kernel_rfl) (by kernel_rfl) (by exact fun _ _ _ h => h) (Or.inl ⟨by rfl, ?_⟩) (by assumption) ?_
              rotate_left
              · intro w hSw
                go_simp
                try with_reducible rfl
              try simp only [Act.put, List.setIfInBounds_toArray, List.set_cons_zero, List.set_cons_succ]
              refine wpAnyH_take (i := 3) (v := ?_) (by simp only [List.getElem?_toArray, List.getElem?_cons_succ, List.getElem?_cons_zero]; rfl) (by kernel_rfl) (by kernel_rfl) (by kernel_rfl) (by exact fun _ _ _ h => h) (Or.inl ⟨by rfl, ?_⟩) (by assumption) ?_
              rotate_left
              · intro w hSw
                go_simp
                try with_reducible rfl
              try simp only [Act.put, List.setIfInBounds_toArray, List.set_cons_zero, List.set_cons_succ]
              refine wpAnyH_take (i := 7) (v := ?_) (by simp only [List.getElem?_toArray, List.getElem?_cons_succ, List.getElem?_cons_zero]; rfl) (by kernel_rfl) (by kernel_rfl) (by kernel_rfl) (by exact fun _ _ _ h => h) (Or.inl ⟨by rfl, ?_⟩) (by assumption) ?_
              rotate_left
              · intro w hSw
                go_simp
                try with_reducible rfl
              try simp only [Act.put, List.setIfInBounds_toArray, List.set_cons_zero, List.set_cons_succ]
              refine wpAnyH_ready (rs := [1]) (by kernel_rfl) (by simp) ?_
              refine AllReadyH.cons (by simp only [List.getElem?_toArray, List.getElem?_cons_succ, List.getElem?_cons_zero]; rfl) (fun K hK => ?_) AllReadyH.nil
              go_simp
              go_at_call 53
              refine (Rwords_any _).mono ?_
              rintro e w5 ⟨rfl, rfl⟩
              refine hK.out _ _ (by refine HSx.out _ ?_; repeat (first | exact Below.refl _ _ | with_reducible refine Below.drew ?_ | refine bt ?_ (below_alloc _ _))) (fun hHeld => ?_)
              clear hK K
              try simp only [Act.put, List.setIfInBounds_toArray, List.set_cons_zero, List.set_cons_succ]
              refine wpAnyH_take (i := 4) (v := ?_) (by simp only [List.getElem?_toArray, List.getElem?_cons_succ, List.getElem?_cons_zero]; rfl) (by kernel_rfl) (by kernel_rfl) (by kernel_rfl) (by exact fun _ _ _ h => h) (Or.inl ⟨by rfl, ?_⟩) (by assumption) ?_
              rotate_left
              · intro w hSw
                go_simp
                try with_reducible rfl
              try simp only [Act.put, List.setIfInBounds_toArray, List.set_cons_zero, List.set_cons_succ]
              refine wpAnyH_ready (rs := [5]) (by kernel_rfl) (by simp) ?_
              refine AllReadyH.cons (by simp only [List.getElem?_toArray, List.getElem?_cons_succ, List.getElem?_cons_zero]; rfl) (fun K hK => ?_) AllReadyH.nil
              go_simp
              refine hK.out _ _ (by refine HSx.out _ ?_; repeat (first | exact Below.refl _ _ | with_reducible refine Below.drew ?_ | refine bt ?_ (below_alloc _ _))) (fun hHeld => ?_)
              clear hK K
              try simp only [Act.put, List.setIfInBounds_toArray, List.set_cons_zero, List.set_cons_succ]
              refine wpAnyH_take (i := 6) (v := ?_) (by simp only [List.getElem?_toArray, List.getElem?_cons_succ, List.getElem?_cons_zero]; rfl) (by kernel_rfl) (by kernel_rfl) (by kernel_rfl) (by exact fun _ _ _ h => h) (Or.inl ⟨by rfl, ?_⟩) (by assumption) ?_
              rotate_left
              · intro w hSw
                go_simp
                try with_reducible rfl
              try simp only [Act.put, List.setIfInBounds_toArray, List.set_cons_zero, List.set_cons_succ]
              refine wpAnyH_take (i := 8) (v := ?_) (by simp only [List.getElem?_toArray, List.getElem?_cons_succ, List.getElem?_cons_zero]; rfl) (by kernel_rfl) (by kernel_rfl) (by kernel_rfl) (by exact fun _ _ _ h => h) (Or.inl ⟨by rfl, ?_⟩) (by assumption) ?_
              rotate_left
              · intro w hSw
                go_simp
                try with_reducible rfl
              try simp only [Act.put, List.setIfInBounds_toArray, List.set_cons_zero, List.set_cons_succ]
              refine wpAnyH_take (i := 9) (v := ?_) (by simp only [List.getElem?_toArray, List.getElem?_cons_succ, List.getElem?_cons_zero]; rfl) (by kernel_rfl) (by kernel_rfl) (by kernel_rfl) (by exact fun _ _ _ h => h) (Or.inl ⟨by rfl, ?_⟩) (by assumption) ?_
              rotate_left
              · intro w hSw
                go_simp
                try with_reducible rfl
              try simp only [Act.put, List.setIfInBounds_toArray, List.set_cons_zero, List.set_cons_succ]
              refine wpAnyH_take (i := 10) (v := ?_) (by simp only [List.getElem?_toArray, List.getElem?_cons_succ, List.getElem?_cons_zero]; rfl) (by kernel_rfl) (by kernel_rfl) (by kernel_rfl) (by exact fun _ _ _ h => h) (Or.inl ⟨by rfl, ?_⟩) (by assumption) ?_
              rotate_left
              · intro w hSw
                go_simp
                try with_reducible rfl
              try simp only [Act.put, List.setIfInBounds_toArray, List.set_cons_zero, List.set_cons_succ]
              refine wpAnyH_done (by kernel_rfl) ?_ _
              have HBy := Lib.hid (bt HB4.out hHeld.2)
              clear hHeld hsx hcw hq1 hq2 hq3
              have hk := HK.out
              go_wp2_with fail
              go_roundg (gk - 1)
              case measure => omega
              case rel => exact ⟨k + 1, by omega, by go_num, _, rfl, (by rw [Hlong.out, L_bs]; exact HF.out), HBy.out⟩
            · have h97' : (97 : Int) ≤ (cb : Int) := by omega
              clear h97
              by_cases h122 : 122 < (cb : Int)
              · have hcb2 : decide ((cb : Int) ≤ 122) = false := by simp; omega
                have hws := HWs.out
                rw [if_pos (by rw [hlow]; right; simp; omega)] at hws
                have hl := HLen.out _ hpr hws
                have HF := Lib.hid (HNext.out _ (by rw [HRs.out]; exact hws) hl)
                clear hws hl hpr HLen HNext HNone HWs HRs hlow h122 hPB hm2
                go_upto_region 28 with (first | (go_at_call 52; refine (HTl.out _).mono ?_; rintro e w4 ⟨rfl, hb4⟩; obtain ⟨z0, z1, z2, z3⟩ := HQ.out _ hb4; have HB4 := Lib.hid (bt HB2.out hb4); have Hb4 := Lib.hid hb4; clear hb4))
                have hSx : ∀ W', Below w4.heap.size w4 W' → W'.cell? ⟨B, 0, none⟩ = some (.int .i64 (m : Int)) ∧ Below w4.heap.size w4 W' := fun W' hb => ⟨(HQ.out _ (bt Hb4.out hb)).1, hb⟩
                have hlo : (⟨(longN m).toArray⟩ : ByteArray).size ≤ 10 := long_size m
                have hlong : (⟨#[36]⟩ : ByteArray) ++ ⟨(longN m).toArray⟩ ++ bs [] = bs (36 :: (longN m ++ L (bs []))) := L_inj (by simp [L_bs])
                have hcw : ∀ W : World, (W.alloc (.cells (rwords.map Value.string).toArray 9)).cell? ⟨W.heap.size, m, none⟩ = some (.string ⟨(longN m).toArray⟩) := fun W => by
                  rw [cell_of_row _ _ m _ _ _ (heap_alloc_last W _)]
                  exact rwords_cell m (by omega)
                have Hlong := Lib.hid hlong
                clear hlong
                generalize (⟨(longN m).toArray⟩ : ByteArray) = lo at *
                have hq1 : (9223372036854775807 < 1 + lo.size) = False := by simp; omega
                have hq2 : (9223372036854775807 < 1 + lo.size + (bs []).size) = False := by simp; omega
                have hq3 : (9223372036854775807 < ot.size + (1 + lo.size + (bs []).size)) = False := by simp; omega
                have HSx := Lib.hid hSx
                have hsx := hSx w4 (Below.refl _ _)
                clear hSx hlo hos hos2
                refine wp_region_held_drew (S := fun W' => W'.cell? ⟨B, 0, none⟩ = some (.int .i64 (m : Int)) ∧ Below w4.heap.size w4 W') (by kernel_rfl) ?_ (fun hHeld => ?_)
                · exact HSx.out _ (Below.drew (Below.refl _ _))
                refine wpAnyH_take (i := 0) (v := ?_) (by simp only [List.getElem?_toArray, List.getElem?_cons_zero]; rfl) (by kernel_rfl) (by kernel_rfl) (by kernel_rfl) (by exact fun _ _ _ h => h) (Or.inl ⟨by rfl, ?_⟩) (by assumption) ?_
                rotate_left
                · intro w hSw
                  go_simp
                  try with_reducible rfl
                try simp only [Act.put, List.setIfInBounds_toArray, List.set_cons_zero, List.set_cons_succ]
                refine wpAnyH_take (i := 2) (v := ?_) (by simp only [List.getElem?_toArray, List.getElem?_cons_succ, List.getElem?_cons_zero]; rfl) (by kernel_rfl) (by kernel_rfl) (by kernel_rfl) (by exact fun _ _ _ h => h) (Or.inl ⟨by rfl, ?_⟩) (by assumption) ?_
                rotate_left
                · intro w hSw
                  go_simp
                  try with_reducible rfl
                try simp only [Act.put, List.setIfInBounds_toArray, List.set_cons_zero, List.set_cons_succ]
                refine wpAnyH_take (i := 3) (v := ?_) (by simp only [List.getElem?_toArray, List.getElem?_cons_succ, List.getElem?_cons_zero]; rfl) (by kernel_rfl) (by kernel_rfl) (by kernel_rfl) (by exact fun _ _ _ h => h) (Or.inl ⟨by rfl, ?_⟩) (by assumption) ?_
                rotate_left
                · intro w hSw
                  go_simp
                  try with_reducible rfl
                try simp only [Act.put, List.setIfInBounds_toArray, List.set_cons_zero, List.set_cons_succ]
                refine wpAnyH_take (i := 7) (v := ?_) (by simp only [List.getElem?_toArray, List.getElem?_cons_succ, List.getElem?_cons_zero]; rfl) (by kernel_rfl) (by kernel_rfl) (by kernel_rfl) (by exact fun _ _ _ h => h) (Or.inl ⟨by rfl, ?_⟩) (by assumption) ?_
                rotate_left
                · intro w hSw
                  go_simp
                  try with_reducible rfl
                try simp only [Act.put, List.setIfInBounds_toArray, List.set_cons_zero, List.set_cons_succ]
                refine wpAnyH_ready (rs := [1]) (by kernel_rfl) (by simp) ?_
                refine AllReadyH.cons (by simp only [List.getElem?_toArray, List.getElem?_cons_succ, List.getElem?_cons_zero]; rfl) (fun K hK => ?_) AllReadyH.nil
                go_simp
                go_at_call 53
                refine (Rwords_any _).mono ?_
                rintro e w5 ⟨rfl, rfl⟩
                refine hK.out _ _ (by refine HSx.out _ ?_; repeat (first | exact Below.refl _ _ | with_reducible refine Below.drew ?_ | refine bt ?_ (below_alloc _ _))) (fun hHeld => ?_)
                clear hK K
                try simp only [Act.put, List.setIfInBounds_toArray, List.set_cons_zero, List.set_cons_succ]
                refine wpAnyH_take (i := 4) (v := ?_) (by simp only [List.getElem?_toArray, List.getElem?_cons_succ, List.getElem?_cons_zero]; rfl) (by kernel_rfl) (by kernel_rfl) (by kernel_rfl) (by exact fun _ _ _ h => h) (Or.inl ⟨by rfl, ?_⟩) (by assumption) ?_
                rotate_left
                · intro w hSw
                  go_simp
                  try with_reducible rfl
                try simp only [Act.put, List.setIfInBounds_toArray, List.set_cons_zero, List.set_cons_succ]
                refine wpAnyH_ready (rs := [5]) (by kernel_rfl) (by simp) ?_
                refine AllReadyH.cons (by simp only [List.getElem?_toArray, List.getElem?_cons_succ, List.getElem?_cons_zero]; rfl) (fun K hK => ?_) AllReadyH.nil
                go_simp
                refine hK.out _ _ (by refine HSx.out _ ?_; repeat (first | exact Below.refl _ _ | with_reducible refine Below.drew ?_ | refine bt ?_ (below_alloc _ _))) (fun hHeld => ?_)
                clear hK K
                try simp only [Act.put, List.setIfInBounds_toArray, List.set_cons_zero, List.set_cons_succ]
                refine wpAnyH_take (i := 6) (v := ?_) (by simp only [List.getElem?_toArray, List.getElem?_cons_succ, List.getElem?_cons_zero]; rfl) (by kernel_rfl) (by kernel_rfl) (by kernel_rfl) (by exact fun _ _ _ h => h) (Or.inl ⟨by rfl, ?_⟩) (by assumption) ?_
                rotate_left
                · intro w hSw
                  go_simp
                  try with_reducible rfl
                try simp only [Act.put, List.setIfInBounds_toArray, List.set_cons_zero, List.set_cons_succ]
                refine wpAnyH_take (i := 8) (v := ?_) (by simp only [List.getElem?_toArray, List.getElem?_cons_succ, List.getElem?_cons_zero]; rfl) (by kernel_rfl) (by kernel_rfl) (by kernel_rfl) (by exact fun _ _ _ h => h) (Or.inl ⟨by rfl, ?_⟩) (by assumption) ?_
                rotate_left
                · intro w hSw
                  go_simp
                  try with_reducible rfl
                try simp only [Act.put, List.setIfInBounds_toArray, List.set_cons_zero, List.set_cons_succ]
                refine wpAnyH_take (i := 9) (v := ?_) (by simp only [List.getElem?_toArray, List.getElem?_cons_succ, List.getElem?_cons_zero]; rfl) (by kernel_rfl) (by kernel_rfl) (by kernel_rfl) (by exact fun _ _ _ h => h) (Or.inl ⟨by rfl, ?_⟩) (by assumption) ?_
                rotate_left
                · intro w hSw
                  go_simp
                  try with_reducible rfl
                try simp only [Act.put, List.setIfInBounds_toArray, List.set_cons_zero, List.set_cons_succ]
                refine wpAnyH_take (i := 10) (v := ?_) (by simp only [List.getElem?_toArray, List.getElem?_cons_succ, List.getElem?_cons_zero]; rfl) (by kernel_rfl) (by kernel_rfl) (by kernel_rfl) (by exact fun _ _ _ h => h) (Or.inl ⟨by rfl, ?_⟩) (by assumption) ?_
                rotate_left
                · intro w hSw
                  go_simp
                  try with_reducible rfl
                try simp only [Act.put, List.setIfInBounds_toArray, List.set_cons_zero, List.set_cons_succ]
                refine wpAnyH_done (by kernel_rfl) ?_ _
                have HBy := Lib.hid (bt HB4.out hHeld.2)
                clear hHeld hsx hcw hq1 hq2 hq3
                have hk := HK.out
                go_wp2_with fail
                go_roundg (gk - 1)
                case measure => omega
                case rel => exact ⟨k + 1, by omega, by go_num, _, rfl, (by rw [Hlong.out, L_bs]; exact HF.out), HBy.out⟩
              · have h122' : (cb : Int) ≤ 122 := by omega
                clear h122
                have hws := HWs.out
                rw [if_neg (by rw [hlow]; simp; omega)] at hws
                clear hlow HWs
                by_cases h11 : m = 11
                · subst h11
                  rw [if_pos (show shortN 11 = [] from rfl)] at hws
                  have HR := Lib.hid (HNone.out (by rw [HRs.out]; exact hws))
                  clear hws hpr HLen HNext HNone HRs hos hos2
                  go_wp2_with (first | (go_at_call 52; refine (HTl.out _).mono ?_; rintro e w4 ⟨rfl, hb4⟩; obtain ⟨z0, z1, z2, z3⟩ := HQ.out _ hb4; have HB4 := Lib.hid (bt HB2.out hb4); have Hb4 := Lib.hid hb4; clear hb4))
                  go_ret2
                  exact ⟨by rw [HR.out]; rfl, HB4.out⟩
                · have kb11 : ((m : Int) == 11) = false := by simp; omega
                  rw [if_neg (short_ne m (by omega) (by omega))] at hws
                  have hl := HLen.out _ hpr hws
                  have HF := Lib.hid (HNext.out _ (by rw [HRs.out]; exact hws) hl)
                  have hlet := letter_at m (by omega) (by omega)
                  have hlz := letter_size m
                  have HLet := Lib.hid hlet
                  clear hws hl hpr HLen HNext HNone HRs hlet h11
                  go_wp2_with (first | (go_at_call 52; refine (HTl.out _).mono ?_; rintro e w4 ⟨rfl, hb4⟩; obtain ⟨z0, z1, z2, z3⟩ := HQ.out _ hb4; have HB4 := Lib.hid (bt HB2.out hb4); have Hb4 := Lib.hid hb4; clear hb4))
                  have hk := HK.out
                  go_roundg (gk - 1)
                  case measure => omega
                  case rel => exact ⟨k + 1, by omega, by go_num, _, rfl, (by first | (rw [← HLet.out] at HF; exact HF.out) | (have hf := HF.out; rw [← HLet.out] at hf; exact hf)), HB4.out⟩
        · obtain ⟨n1, n2⟩ := not_empty (s := bs ib) (by rw [L_bs]; exact hib)
          have hws := HWs.out
          rw [if_pos (.inl hib)] at hws
          have hl := HLen.out _ hpr hws
          have HF := Lib.hid (HNext.out _ (by rw [HRs.out]; exact hws) hl)
          clear hws hl hpr HLen HNext HNone HWs HRs hib hm2
          go_upto_region 28 with (first | (go_at_call 52; refine (HTl.out _).mono ?_; rintro e w4 ⟨rfl, hb4⟩; obtain ⟨z0, z1, z2, z3⟩ := HQ.out _ hb4; have HB4 := Lib.hid (bt HB2.out hb4); have Hb4 := Lib.hid hb4; clear hb4))
          have hSx : ∀ W', Below w4.heap.size w4 W' → W'.cell? ⟨B, 0, none⟩ = some (.int .i64 (m : Int)) ∧ Below w4.heap.size w4 W' := fun W' hb => ⟨(HQ.out _ (bt Hb4.out hb)).1, hb⟩
          have hlo : (⟨(longN m).toArray⟩ : ByteArray).size ≤ 10 := long_size m
          have hlong : (⟨#[36]⟩ : ByteArray) ++ ⟨(longN m).toArray⟩ ++ bs ib = bs (36 :: (longN m ++ L (bs ib))) := L_inj (by simp [L_bs])
          have hcw : ∀ W : World, (W.alloc (.cells (rwords.map Value.string).toArray 9)).cell? ⟨W.heap.size, m, none⟩ = some (.string ⟨(longN m).toArray⟩) := fun W => by
            rw [cell_of_row _ _ m _ _ _ (heap_alloc_last W _)]
            exact rwords_cell m (by omega)
          have Hlong := Lib.hid hlong
          clear hlong
          generalize (⟨(longN m).toArray⟩ : ByteArray) = lo at *
          have hq1 : (9223372036854775807 < 1 + lo.size) = False := by simp; omega
          have hq2 : (9223372036854775807 < 1 + lo.size + (bs ib).size) = False := by simp; omega
          have hq3 : (9223372036854775807 < ot.size + (1 + lo.size + (bs ib).size)) = False := by simp; omega
          have HSx := Lib.hid hSx
          have hsx := hSx w4 (Below.refl _ _)
          clear hSx hlo hos hos2
          refine wp_region_held_drew (S := fun W' => W'.cell? ⟨B, 0, none⟩ = some (.int .i64 (m : Int)) ∧ Below w4.heap.size w4 W') (by kernel_rfl) ?_ (fun hHeld => ?_)
          · exact HSx.out _ (Below.drew (Below.refl _ _))
          refine wpAnyH_take (i := 0) (v := ?_) (by simp only [List.getElem?_toArray, List.getElem?_cons_zero]; rfl) (by kernel_rfl) (by kernel_rfl) (by kernel_rfl) (by exact fun _ _ _ h => h) (Or.inl ⟨by rfl, ?_⟩) (by assumption) ?_
          rotate_left
          · intro w hSw
            go_simp
            try with_reducible rfl
          try simp only [Act.put, List.setIfInBounds_toArray, List.set_cons_zero, List.set_cons_succ]
          refine wpAnyH_take (i := 2) (v := ?_) (by simp only [List.getElem?_toArray, List.getElem?_cons_succ, List.getElem?_cons_zero]; rfl) (by kernel_rfl) (by kernel_rfl) (by kernel_rfl) (by exact fun _ _ _ h => h) (Or.inl ⟨by rfl, ?_⟩) (by assumption) ?_
          rotate_left
          · intro w hSw
            go_simp
            try with_reducible rfl
          try simp only [Act.put, List.setIfInBounds_toArray, List.set_cons_zero, List.set_cons_succ]
          refine wpAnyH_take (i := 3) (v := ?_) (by simp only [List.getElem?_toArray, List.getElem?_cons_succ, List.getElem?_cons_zero]; rfl) (by kernel_rfl) (by kernel_rfl) (by kernel_rfl) (by exact fun _ _ _ h => h) (Or.inl ⟨by rfl, ?_⟩) (by assumption) ?_
          rotate_left
          · intro w hSw
            go_simp
            try with_reducible rfl
          try simp only [Act.put, List.setIfInBounds_toArray, List.set_cons_zero, List.set_cons_succ]
          refine wpAnyH_take (i := 7) (v := ?_) (by simp only [List.getElem?_toArray, List.getElem?_cons_succ, List.getElem?_cons_zero]; rfl) (by kernel_rfl) (by kernel_rfl) (by kernel_rfl) (by exact fun _ _ _ h => h) (Or.inl ⟨by rfl, ?_⟩) (by assumption) ?_
          rotate_left
          · intro w hSw
            go_simp
            try with_reducible rfl
          try simp only [Act.put, List.setIfInBounds_toArray, List.set_cons_zero, List.set_cons_succ]
          refine wpAnyH_ready (rs := [1]) (by kernel_rfl) (by simp) ?_
          refine AllReadyH.cons (by simp only [List.getElem?_toArray, List.getElem?_cons_succ, List.getElem?_cons_zero]; rfl) (fun K hK => ?_) AllReadyH.nil
          go_simp
          go_at_call 53
          refine (Rwords_any _).mono ?_
          rintro e w5 ⟨rfl, rfl⟩
          refine hK.out _ _ (by refine HSx.out _ ?_; repeat (first | exact Below.refl _ _ | with_reducible refine Below.drew ?_ | refine bt ?_ (below_alloc _ _))) (fun hHeld => ?_)
          clear hK K
          try simp only [Act.put, List.setIfInBounds_toArray, List.set_cons_zero, List.set_cons_succ]
          refine wpAnyH_take (i := 4) (v := ?_) (by simp only [List.getElem?_toArray, List.getElem?_cons_succ, List.getElem?_cons_zero]; rfl) (by kernel_rfl) (by kernel_rfl) (by kernel_rfl) (by exact fun _ _ _ h => h) (Or.inl ⟨by rfl, ?_⟩) (by assumption) ?_
          rotate_left
          · intro w hSw
            go_simp
            try with_reducible rfl
          try simp only [Act.put, List.setIfInBounds_toArray, List.set_cons_zero, List.set_cons_succ]
          refine wpAnyH_ready (rs := [5]) (by kernel_rfl) (by simp) ?_
          refine AllReadyH.cons (by simp only [List.getElem?_toArray, List.getElem?_cons_succ, List.getElem?_cons_zero]; rfl) (fun K hK => ?_) AllReadyH.nil
          go_simp
          refine hK.out _ _ (by refine HSx.out _ ?_; repeat (first | exact Below.refl _ _ | with_reducible refine Below.drew ?_ | refine bt ?_ (below_alloc _ _))) (fun hHeld => ?_)
          clear hK K
          try simp only [Act.put, List.setIfInBounds_toArray, List.set_cons_zero, List.set_cons_succ]
          refine wpAnyH_take (i := 6) (v := ?_) (by simp only [List.getElem?_toArray, List.getElem?_cons_succ, List.getElem?_cons_zero]; rfl) (by kernel_rfl) (by kernel_rfl) (by kernel_rfl) (by exact fun _ _ _ h => h) (Or.inl ⟨by rfl, ?_⟩) (by assumption) ?_
          rotate_left
          · intro w hSw
            go_simp
            try with_reducible rfl
          try simp only [Act.put, List.setIfInBounds_toArray, List.set_cons_zero, List.set_cons_succ]
          refine wpAnyH_take (i := 8) (v := ?_) (by simp only [List.getElem?_toArray, List.getElem?_cons_succ, List.getElem?_cons_zero]; rfl) (by kernel_rfl) (by kernel_rfl) (by kernel_rfl) (by exact fun _ _ _ h => h) (Or.inl ⟨by rfl, ?_⟩) (by assumption) ?_
          rotate_left
          · intro w hSw
            go_simp
            try with_reducible rfl
          try simp only [Act.put, List.setIfInBounds_toArray, List.set_cons_zero, List.set_cons_succ]
          refine wpAnyH_take (i := 9) (v := ?_) (by simp only [List.getElem?_toArray, List.getElem?_cons_succ, List.getElem?_cons_zero]; rfl) (by kernel_rfl) (by kernel_rfl) (by kernel_rfl) (by exact fun _ _ _ h => h) (Or.inl ⟨by rfl, ?_⟩) (by assumption) ?_
          rotate_left
          · intro w hSw
            go_simp
            try with_reducible rfl
          try simp only [Act.put, List.setIfInBounds_toArray, List.set_cons_zero, List.set_cons_succ]
          refine wpAnyH_take (i := 10) (v := ?_) (by simp only [List.getElem?_toArray, List.getElem?_cons_succ, List.getElem?_cons_zero]; rfl) (by kernel_rfl) (by kernel_rfl) (by kernel_rfl) (by exact fun _ _ _ h => h) (Or.inl ⟨by rfl, ?_⟩) (by assumption) ?_
          rotate_left
          · intro w hSw
            go_simp
            try with_reducible rfl
          try simp only [Act.put, List.setIfInBounds_toArray, List.set_cons_zero, List.set_cons_succ]
          refine wpAnyH_done (by kernel_rfl) ?_ _
          have HBy := Lib.hid (bt HB4.out hHeld.2)
          clear hHeld hsx hcw hq1 hq2 hq3
          have hk := HK.out
          go_wp2_with fail
          go_roundg (gk - 1)
          case measure => omega
          case rel => exact ⟨k + 1, by omega, by go_num, _, rfl, (by rw [Hlong.out, L_bs]; exact HF.out), HBy.out⟩
    · obtain rfl : k = N := by omega
      have hR := fmtAtR_end (ps := ps) (ot := ot) (by rw [HN.out]; exact hF.out)
      by_cases h256 : 256 < ot.size
      · rw [if_pos h256] at hR
        have hI : (256 : Int) < (ot.size : Int) := by omega
        have HR := Lib.hid hR
        clear hR
        go_wp2
        go_ret2
        exact ⟨by rw [HR.out]; rfl, hbr.out⟩
      · rw [if_neg h256] at hR
        have hI : (ot.size : Int) ≤ 256 := by omega
        have HR := Lib.hid hR
        clear hR
        go_wp2
        go_ret2
        exact ⟨by rw [HR.out]; rfl, hbr.out⟩
end Go.Proofs.YtifbcfpaifobjaaGreatDoor
