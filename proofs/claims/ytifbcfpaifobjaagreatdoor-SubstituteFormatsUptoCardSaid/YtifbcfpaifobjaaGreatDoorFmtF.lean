/-
  The program's Format, walked.
-/
import Derived.Test.YtifbcfpaifobjaaGreatDoorFmtX
import Derived.Test.YtifbcfpaifobjaaGreatDoorExpand
import Derived.Deep.Cut
import Derived.Deep.CutRange
namespace Go.Proofs.YtifbcfpaifobjaaGreatDoor
open Go.RowKit Go.Lib
def behB : List Pc → ByteArray
  | [] => ⟨#[]⟩
  | q :: _ => if q.kind = 1 then q.text else ⟨#[]⟩
def isTextB : List Pc → Bool
  | [] => false
  | q :: _ => q.kind == 1
theorem behB_L : ∀ l : List Pc, L (behB l) = behindS l
  | [] => rfl
  | q :: l => by rw [behB, behindS]; split <;> rfl
theorem dbl_len2 (s : Str) : (dbl s).length ≤ 2 * s.length := by
  induction s with
  | nil => exact Nat.le_refl _
  | cons b s ih =>
    have e : dbl (b :: s) = (if b = 36 ∨ b = 37 then [b, b] else [b]) ++ dbl s := by unfold dbl; rw [List.flatMap_cons]
    rw [e, List.length_append, List.length_cons]
    split <;> simp only [List.length_cons, List.length_nil] <;> omega
theorem write_len {p : Pc} {b t : Str} (hp : properS p = true) (ht : p.text.size ≤ 100000000) (h : writeS p b = some t) : t.length ≤ 200000100 := by
  by_cases h1 : p.kind = 1
  · rw [writeS, if_pos h1] at h
    injection h with h
    have := dbl_len2 (L p.text)
    rw [len_L] at this
    rw [← h]; omega
  · obtain ⟨k, hk, h2⟩ := kind_nat hp h1
    obtain ⟨h12, hf⟩ := proper_form hk h2 hp
    have hi := inside_len p (by rcases hf with ⟨_, _, h, _⟩ | ⟨_, _, h, _⟩ | ⟨_, _, m, h, _, _⟩ | ⟨_, _, _, h, _⟩ <;> omega) ht
    have hlo : (longN k).length ≤ 10 := by
      rcases (by omega : k = 2 ∨ k = 3 ∨ k = 4 ∨ k = 5 ∨ k = 6 ∨ k = 7 ∨ k = 8 ∨ k = 9 ∨ k = 10 ∨ k = 11) with h | h | h | h | h | h | h | h | h | h <;> subst h <;> decide
    have hsh : (shortN k).length ≤ 10 := by
      rcases (by omega : k = 2 ∨ k = 3 ∨ k = 4 ∨ k = 5 ∨ k = 6 ∨ k = 7 ∨ k = 8 ∨ k = 9 ∨ k = 10 ∨ k = 11) with h | h | h | h | h | h | h | h | h | h <;> subst h <;> decide
    obtain ⟨_, ⟨rfl, _⟩ | ⟨rfl, _⟩⟩ := write_form_cases hk h2 h
    · rw [List.length_cons, List.length_append]; omega
    · rw [List.length_cons]; omega
/-- How far the template has been written. -/
def FmtAt (ps : List Pc) (k : Nat) (ot : ByteArray) : Prop := fmtF ps = (fmtF (ps.drop k)).map (L ot ++ ·) ∧ ot.size ≤ k * 200000100
theorem fmtAt_none {ps : List Pc} {k : Nat} {x : Pc} {ot : ByteArray} (h : FmtAt ps k ot) (hx : ps[k]? = some x) (hs : stepS x (behindS (ps.drop (k + 1))) = none) : formatR ps = (⟨#[]⟩, 90) := by
  obtain ⟨hk, rfl⟩ := List.getElem?_eq_some_iff.1 hx
  have e : fmtF ps = none := by rw [h.1, List.drop_eq_getElem_cons hk, fmtF, hs]; rfl
  rw [formatR, e]
theorem fmtAt_next {ps : List Pc} {k : Nat} {x : Pc} {ot : ByteArray} {t : Str} (h : FmtAt ps k ot) (hx : ps[k]? = some x) (hs : stepS x (behindS (ps.drop (k + 1))) = some t) (hl : t.length ≤ 200000100) : FmtAt ps (k + 1) (ot ++ bs t) := by
  obtain ⟨hk, rfl⟩ := List.getElem?_eq_some_iff.1 hx
  refine ⟨?_, ?_⟩
  · rw [h.1, List.drop_eq_getElem_cons hk, fmtF, hs, L_append, L_bs]
    simp only [Option.bind_some]
    cases fmtF (ps.drop (k + 1)) with
    | none => rfl
    | some s => simp
  · have := h.2
    rw [ByteArray.size_append, size_bs, Nat.add_mul]; omega
theorem fmtAt_end {ps : List Pc} {ot : ByteArray} (h : FmtAt ps ps.length ot) : formatR ps = if 256 < ot.size then (⟨#[]⟩, 91) else (ot, 0) := by
  have e : fmtF ps = some (L ot) := by rw [h.1, List.drop_length, fmtF]; simp
  rw [formatR, e]
  dsimp only
  rw [len_L, bs_L]
theorem isText_at {ps : List Pc} {k : Nat} (h : isTextB (ps.drop k) = true) : ∃ y, ps[k]? = some y ∧ y.kind = 1 ∧ behB (ps.drop k) = y.text := by
  cases hd : ps.drop k with
  | nil => rw [hd] at h; cases h
  | cons y l =>
    rw [hd] at h
    have hy : y.kind = 1 := by simpa [isTextB] using h
    refine ⟨y, ?_, hy, by rw [behB, if_pos hy]⟩
    have := congrArg List.head? hd
    rw [List.head?_drop] at this
    exact this
theorem notText_at {ps : List Pc} {k : Nat} (h : isTextB (ps.drop k) = false) : behB (ps.drop k) = ⟨#[]⟩ := by
  cases hd : ps.drop k with
  | nil => rfl
  | cons y l =>
    rw [hd] at h
    have hy : ¬ y.kind = 1 := by simpa [isTextB] using h
    rw [behB, if_neg hy]
set_option maxRecDepth 100000 in
set_option maxHeartbeats 4000000 in
theorem Format_any (ps : List Pc) (A : Option Addr) (N c : Nat) (w : World) (hE : Env w) (hN : ps.length = N) (hr : RowAt w w.heap.size A 4 N (cellsOf encPc ps)) (hn : N ≤ 1000) (hm : ∀ q ∈ ps, q.text.size ≤ 100000000) :
    Calls Tryz.prog 24 #[.slice A N c] w (ExpPost (formatR ps) w) := by
  have HE := Lib.hid hE
  have HN := Lib.hid hN
  have HRow := Lib.hid hr
  have HM := Lib.hid hm
  clear hE hN hr hm
  go_enter Tryz.func24, Tryz.ntmps24
  go_wp2
  go_loopg [4, 12] N (fun gk s i wr => ∃ k : Nat, k + gk = N ∧ i = .int .i64 k ∧ ∃ ot : ByteArray, s = .string ot ∧ Hid (FmtAt ps k ot) ∧ Hid (Below w.heap.size w wr))
  case atStart => exact ⟨0, by omega, rfl, ⟨#[]⟩, rfl, ⟨by rw [List.drop_zero]; cases fmtF ps <;> simp, Nat.zero_le _⟩, Below.refl _ _⟩
  case round =>
    obtain ⟨k, hk, rfl, ot, rfl, hF, hbr⟩ := hrel
    by_cases hlt : k < N
    · have hlt' : k < ps.length := by rw [HN.out]; exact hlt
      have hrow := HRow.out
      rw [← HN.out] at hrow
      obtain ⟨ba, off, hA, hba, hcc⟩ := hrow.cell encPc_len hlt'
      obtain ⟨x, hx⟩ : ∃ x, ps[k]? = some x := ⟨_, List.getElem?_eq_getElem hlt'⟩
      have hmem : x ∈ ps := List.mem_of_getElem? hx
      have hxm := HM.out x hmem
      have c0 : wr.cell? ⟨ba, off + k * 4, none⟩ = some (.int .i64 x.kind) := by
        rw [hbr.out.cell (p := ⟨ba, off + k * 4, none⟩) hba]; exact hcc k x hx 0 _ rfl
      have c1 : wr.cell? ⟨ba, off + k * 4 + 1, none⟩ = some (.string x.text) := by
        rw [hbr.out.cell (p := ⟨ba, off + k * 4 + 1, none⟩) hba]; exact hcc k x hx 1 _ rfl
      have c2 : wr.cell? ⟨ba, off + k * 4 + 2, none⟩ = some (.int .i64 x.word) := by
        rw [hbr.out.cell (p := ⟨ba, off + k * 4 + 2, none⟩) hba]; exact hcc k x hx 2 _ rfl
      have c3 : wr.cell? ⟨ba, off + k * 4 + 3, none⟩ = some (.bool x.more) := by
        rw [hbr.out.cell (p := ⟨ba, off + k * 4 + 3, none⟩) hba]; exact hcc k x hx 3 _ rfl
      subst hA
      have HX := Lib.hid hx
      have Hcc := Lib.hid hcc
      have Hba := Lib.hid hba
      have hk' : k ≤ 1000 := by omega
      clear hrow hcc hx hmem hlt' hba
      go_upto_region 6 with fail
      obtain ⟨W2, hW2⟩ : ∃ W2, wr.alloc (.cells #[.int .i64 x.kind, .string x.text, .int .i64 x.word, .bool x.more] 64) = W2 := ⟨_, rfl⟩
      have hblk : W2.heap[wr.heap.size]? = some (.cells #[.int .i64 x.kind, .string x.text, .int .i64 x.word, .bool x.more] 64 (0, 0)) := by rw [← hW2]; exact heap_alloc_last _ _
      have hb2 : Below w.heap.size w W2 := by rw [← hW2]; exact bt hbr.out (below_alloc _ _)
      rw [hW2]
      have HB2 := Lib.hid hb2
      have Hblk := Lib.hid hblk
      have hPB := blk_lt hblk
      generalize wr.heap.size = B at *
      clear hW2 hbr hb2 hblk c0 c1 c2 c3
      go_cut [30, 12] from 13 to 60 (fun s30 s12 wx => s30 = .bool (isTextB (ps.drop (k + 1))) ∧ s12 = .int .i64 k ∧ W2 = wx)
      case first =>
        by_cases hlt2 : k + 1 < N
        · have hI2 : (k : Int) + 1 < (N : Int) := by omega
          obtain ⟨y, hy⟩ : ∃ y, ps[k + 1]? = some y := ⟨_, List.getElem?_eq_getElem (by rw [HN.out]; exact hlt2)⟩
          have d0 : W2.cell? ⟨ba, off + (k + 1) * 4, none⟩ = some (.int .i64 y.kind) := by
            rw [HB2.out.cell (p := ⟨ba, off + (k + 1) * 4, none⟩) Hba.out]; exact Hcc.out (k + 1) y hy 0 _ rfl
          have hd : isTextB (ps.drop (k + 1)) = (y.kind == 1) := by
            have := List.getElem?_eq_some_iff.1 hy
            obtain ⟨h1, h2⟩ := this
            rw [List.drop_eq_getElem_cons h1, h2]; rfl
          have HD := Lib.hid hd
          clear hd hy
          go_wp2
          all_goals
            go_meet
            rw [HD.out]
            exact ⟨rfl, rfl, rfl⟩
        · have hI2 : (N : Int) ≤ (k : Int) + 1 := by omega
          have hd : isTextB (ps.drop (k + 1)) = false := by rw [List.drop_eq_nil_of_le (by rw [HN.out]; omega)]; rfl
          have HD := Lib.hid hd
          clear hd
          go_wp2
          go_meet
          rw [HD.out]
          exact ⟨rfl, rfl, rfl⟩
      case rest =>
      obtain ⟨rfl, rfl, rfl⟩ := hcut
      go_upto_if 30 with fail
      go_cut [7, 12] from 13 to 60 (fun s7 s12 wx => s7 = .string (behB (ps.drop (k + 1))) ∧ s12 = .int .i64 k ∧ W2 = wx)
      case first =>
        cases hi : isTextB (ps.drop (k + 1)) with
        | true =>
          obtain ⟨y, hy, hy1, hby⟩ := isText_at hi
          have hlt2 : k + 1 < N := by have := (List.getElem?_eq_some_iff.1 hy).1; rw [HN.out] at this; exact this
          have hI2 : (k : Int) + 1 < (N : Int) := by omega
          have d1 : W2.cell? ⟨ba, off + (k + 1) * 4 + 1, none⟩ = some (.string y.text) := by
            rw [HB2.out.cell (p := ⟨ba, off + (k + 1) * 4 + 1, none⟩) Hba.out]; exact Hcc.out (k + 1) y hy 1 _ rfl
          have HBy := Lib.hid hby
          have HY := Lib.hid hy
          clear hy hby hi hy1
          go_wp2
          go_meet
          rw [HBy.out]
          exact ⟨rfl, rfl, rfl⟩
        | false =>
          have HBy := Lib.hid (notText_at hi)
          clear hi
          go_wp2
          go_meet
          rw [HBy.out]
          exact ⟨rfl, rfl, rfl⟩
      case rest =>
      obtain ⟨rfl, rfl, rfl⟩ := hcut
      have hQ : ∀ W', Below W2.heap.size W2 W' → W'.cell? ⟨B, 0, none⟩ = some (.int .i64 x.kind) ∧ W'.cell? ⟨B, 1, none⟩ = some (.string x.text) ∧ W'.cell? ⟨B, 2, none⟩ = some (.int .i64 x.word) ∧ W'.cell? ⟨B, 3, none⟩ = some (.bool x.more) := fun W' hb => by
        have hbk := (hb.block _ hPB).trans Hblk.out
        exact ⟨by rw [cell_of_row _ _ 0 _ _ _ hbk]; rfl, by rw [cell_of_row _ _ 1 _ _ _ hbk]; rfl, by rw [cell_of_row _ _ 2 _ _ _ hbk]; rfl, by rw [cell_of_row _ _ 3 _ _ _ hbk]; rfl⟩
      have hPr := fun W => proper_any x W hxm
      have hWr := fun W (hE : Env W) (hp : properS x = true) => write_any x (behB (ps.drop (k + 1))) W hE hp hxm
      unfold encP at hPr hWr
      have hbt := behB_L (ps.drop (k + 1))
      have hnone : ∀ (h : stepS x (behindS (ps.drop (k + 1))) = none), formatR ps = (⟨#[]⟩, 90) := fun h => fmtAt_none hF.out HX.out h
      have hnext : ∀ t, stepS x (behindS (ps.drop (k + 1))) = some t → t.length ≤ 200000100 → FmtAt ps (k + 1) (ot ++ bs t) := fun t h hl => fmtAt_next hF.out HX.out h hl
      rw [← hbt] at hnone hnext
      generalize behB (ps.drop (k + 1)) = bv at *
      have hos := hF.out.2
      have hos2 := Nat.mul_le_mul_right 200000100 hk'
      have hstep : ∀ b, stepS x b = if properS x then (writeS x b).bind fun s => if x.kind = 1 ∧ b ≠ [] then none else some s else none := fun b => rfl
      have hlen : ∀ t, properS x = true → writeS x (L bv) = some t → t.length ≤ 200000100 := fun t h1 h2 => write_len h1 hxm h2
      rw [hstep] at hnone hnext
      obtain ⟨q0, q1, q2, q3⟩ := hQ W2 (Below.refl _ _)
      have HQ := Lib.hid hQ
      clear hstep hQ Hcc Hba hF HX Hblk hbt HRow
      cases hpb : properS x with
      | false =>
        rw [hpb] at hPr hnone
        have hR := hnone rfl
        have HR := Lib.hid hR
        have HPr := Lib.hid hPr
        clear hR hnone hnext hlen hWr hPr hpb
        go_wp2_with (go_at_call 47; refine (HPr.out _).mono ?_; rintro e w3 ⟨rfl, hb3⟩; have HB3 := Lib.hid (bt HB2.out hb3); clear hb3)
        go_ret2
        exact ⟨by rw [HR.out]; rfl, HB3.out⟩
      | true =>
        have hWr2 := fun W hE => hWr W hE hpb
        rw [hpb] at hPr hnone hnext
        simp only [if_true] at hnone hnext
        have hlen2 := fun t h => hlen t hpb h
        have HPr := Lib.hid hPr
        clear hWr hPr hpb hlen
        generalize writeS x (L bv) = r at *
        cases r with
        | none =>
          have hR := hnone rfl
          have HR := Lib.hid hR
          have HWr := Lib.hid hWr2
          clear hR hnone hnext hlen2 hWr2
          go_wp2_with (first | (go_at_call 47; refine (HPr.out _).mono ?_; rintro e w3 ⟨rfl, hb3⟩; obtain ⟨q0', q1', q2', q3'⟩ := HQ.out _ hb3; have HB3 := Lib.hid (bt HB2.out hb3); clear hb3) | (go_at_call 48; refine (HWr.out _ (HE.out.go HB3.out)).mono ?_; rintro e w4 ⟨⟨s, rfl, hs⟩, hb4⟩; have HB4 := Lib.hid (bt HB3.out hb4); clear hb4 hs))
          go_ret2
          exact ⟨by rw [HR.out]; rfl, HB4.out⟩
        | some t =>
          have hl := hlen2 t rfl
          have HWr := Lib.hid hWr2
          simp only [Option.bind_some] at hnone hnext
          clear hWr2 hlen2
          have hts : (bs t).size = t.length := size_bs t
          have hq5 : (9223372036854775807 < ot.size + (bs t).size) = False := by simp; omega
          have hk1 := hk
          by_cases h1 : x.kind = 1
          · have k1 : (x.kind == 1) = true := by simpa using h1
            by_cases hb0 : L bv = []
            · have hF := hnext t (by rw [if_neg (fun h => h.2 hb0)]) hl
              have HF := Lib.hid hF
              have HK := Lib.hid hk
              have j1 : bv.toList = [] := by rw [tl]; exact hb0
              have j2 : bv.toList.isEmpty = true := by rw [j1]; rfl
              clear hF hnext hnone hts hb0 hk hk1 hos hos2 hl h1
              go_wp2_with (first | (go_at_call 47; refine (HPr.out _).mono ?_; rintro e w3 ⟨rfl, hb3⟩; obtain ⟨q0', q1', q2', q3'⟩ := HQ.out _ hb3; have HB3 := Lib.hid (bt HB2.out hb3); have Hb3 := Lib.hid hb3; clear hb3) | (go_at_call 48; refine (HWr.out _ (HE.out.go HB3.out)).mono ?_; rintro e w4 ⟨⟨s, rfl, hs⟩, hb4⟩; obtain rfl := hs t rfl; obtain ⟨q0a, q1a, q2a, q3a⟩ := HQ.out _ (bt Hb3.out hb4); have HB4 := Lib.hid (bt HB3.out hb4); clear hb4 hs))
              have hk := HK.out
              go_roundg (gk - 1)
              case measure => omega
              case rel => exact ⟨k + 1, by omega, by go_num, _, rfl, HF.out, HB4.out⟩
            · have hR := hnone (by rw [if_pos ⟨h1, hb0⟩])
              have HR := Lib.hid hR
              obtain ⟨n1, n2⟩ := not_empty hb0
              clear hR hnext hnone hts hb0 hk hk1 hos hos2 hl h1
              go_wp2_with (first | (go_at_call 47; refine (HPr.out _).mono ?_; rintro e w3 ⟨rfl, hb3⟩; obtain ⟨q0', q1', q2', q3'⟩ := HQ.out _ hb3; have HB3 := Lib.hid (bt HB2.out hb3); have Hb3 := Lib.hid hb3; clear hb3) | (go_at_call 48; refine (HWr.out _ (HE.out.go HB3.out)).mono ?_; rintro e w4 ⟨⟨s, rfl, hs⟩, hb4⟩; obtain rfl := hs t rfl; obtain ⟨q0a, q1a, q2a, q3a⟩ := HQ.out _ (bt Hb3.out hb4); have HB4 := Lib.hid (bt HB3.out hb4); clear hb4 hs))
              go_ret2
              exact ⟨by rw [HR.out]; rfl, HB4.out⟩
          · have k1 : (x.kind == 1) = false := by simpa using h1
            have hF := hnext t (by rw [if_neg (fun h => h1 h.1)]) hl
            have HF := Lib.hid hF
            have HK := Lib.hid hk
            clear hF hnext hnone hts hk hk1 hos hos2 hl h1
            go_wp2_with (first | (go_at_call 47; refine (HPr.out _).mono ?_; rintro e w3 ⟨rfl, hb3⟩; obtain ⟨q0', q1', q2', q3'⟩ := HQ.out _ hb3; have HB3 := Lib.hid (bt HB2.out hb3); have Hb3 := Lib.hid hb3; clear hb3) | (go_at_call 48; refine (HWr.out _ (HE.out.go HB3.out)).mono ?_; rintro e w4 ⟨⟨s, rfl, hs⟩, hb4⟩; obtain rfl := hs t rfl; obtain ⟨q0a, q1a, q2a, q3a⟩ := HQ.out _ (bt Hb3.out hb4); have HB4 := Lib.hid (bt HB3.out hb4); clear hb4 hs))
            have hk := HK.out
            go_roundg (gk - 1)
            case measure => omega
            case rel => exact ⟨k + 1, by omega, by go_num, _, rfl, HF.out, HB4.out⟩
    · obtain rfl : k = N := by omega
      have hR := fmtAt_end (ps := ps) (ot := ot) (by rw [HN.out]; exact hF.out)
      by_cases h256 : 256 < ot.size
      · rw [if_pos h256] at hR
        have hI : (256 : Int) < (ot.size : Int) := by omega
        have HR := Lib.hid hR
        clear hR
        go_wp2
        go_ret2
        exact ⟨by rw [HR.out]; rfl, hbr.out⟩
      · rw [if_neg h256] at hR
        have hI : (ot.size : Int) ≤ 256 := by omega
        have HR := Lib.hid hR
        clear hR
        go_wp2
        go_ret2
        exact ⟨by rw [HR.out]; rfl, hbr.out⟩
end Go.Proofs.YtifbcfpaifobjaaGreatDoor
