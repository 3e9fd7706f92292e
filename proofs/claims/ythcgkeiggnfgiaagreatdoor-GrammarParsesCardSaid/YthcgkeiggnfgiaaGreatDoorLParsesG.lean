/-
  The law GrammarParses, walked.
-/
import Derived.Test.YthcgkeiggnfgiaaGreatDoorG49
import Derived.Test.YthcgkeiggnfgiaaGreatDoorG52
import Derived.Test.YthcgkeiggnfgiaaGreatDoorG55
import Derived.Test.YthcgkeiggnfgiaaGreatDoorG54
import Derived.Test.YthcgkeiggnfgiaaGreatDoorG50
namespace Go.Proofs.YthcgkeiggnfgiaaGreatDoor
open Go.RowKit
theorem logF_len {p : List ByteArray} (hp : ∀ i, (p.getD i ⟨#[]⟩).size ≤ 1000000) : ∀ (f i : Nat) (t : Str), (logF p f i t).1.length ≤ t.length + f * 1000000
  | 0, i, t => by rw [logF]; show t.length ≤ _; omega
  | f + 1, i, t => by
    have h1 := hp (i + 1)
    rw [← len_L] at h1
    rw [logF]
    split
    · split
      · simp only [List.length_dropLast]; omega
      · have := logF_len hp f (i + 1) (t.dropLast ++ L (p.getD (i + 1) ⟨#[]⟩))
        rw [List.length_append, List.length_dropLast] at this
        omega
    · dsimp only; omega
theorem linesF_len {p : List ByteArray} (hp : ∀ i, (p.getD i ⟨#[]⟩).size ≤ 1000000) : ∀ (f i : Nat) (acc : List Ln), (∀ x ∈ acc, x.text.size ≤ 1000000 + p.length * 1000000) → (∀ x ∈ linesF p f i acc, x.text.size ≤ 1000000 + p.length * 1000000) ∧ (linesF p f i acc).length ≤ acc.length + f
  | 0, i, acc, h => ⟨h, by rw [linesF]; omega⟩
  | f + 1, i, acc, h => by
    rw [linesF]
    split
    · have hl := logF_len hp p.length i (L (p.getD i ⟨#[]⟩))
      have hi := hp i
      rw [len_L] at hl
      have hacc : ∀ x ∈ (if blankB (logF p p.length i (L (p.getD i ⟨#[]⟩))).1 then acc else acc ++ [⟨(i : Int) + 1, bs (logF p p.length i (L (p.getD i ⟨#[]⟩))).1⟩]), x.text.size ≤ 1000000 + p.length * 1000000 := fun x hx => by
        split at hx
        · exact h x hx
        · rcases List.mem_append.1 hx with hx | hx
          · exact h x hx
          · obtain rfl := List.mem_singleton.1 hx
            show (bs _).size ≤ _
            rw [size_bs]; omega
      obtain ⟨i1, i2⟩ := linesF_len hp f ((logF p p.length i (L (p.getD i ⟨#[]⟩))).2 + 1) _ hacc
      refine ⟨i1, Nat.le_trans i2 ?_⟩
      split
      · omega
      · rw [List.length_append, List.length_singleton]; omega
    · exact ⟨h, by omega⟩
theorem physL_len (s : ByteArray) : (physL s).length ≤ s.size + 1 := by
  have h1 := splitL_len s
  have h2 := Lib.countB_le ⟨#[10]⟩ (by show 1 ≤ 1; omega) s.size s (Nat.le_refl _)
  unfold physL
  split
  · rw [List.length_take]; omega
  · omega
theorem linesS_len {s : ByteArray} (hs : s.size ≤ 1000000) : (∀ x ∈ linesS s, x.text.size ≤ 2000000000000) ∧ (linesS s).length ≤ 2000000 := by
  have hp : ∀ i, ((physL s).getD i ⟨#[]⟩).size ≤ 1000000 := fun i => by
    rcases Nat.lt_or_ge i (physL s).length with h | h
    · rw [getD_at h]; exact Nat.le_trans (physL_sizes s _ (List.getElem_mem _)) hs
    · rw [List.getD, List.getElem?_eq_none h]; exact Nat.zero_le _
  have hl := physL_len s
  obtain ⟨h1, h2⟩ := linesF_len hp ((physL s).length + 1) 0 [] (fun x hx => by cases hx)
  exact ⟨fun x hx => by have := h1 x hx; omega, by unfold linesS; simp at h2; omega⟩
def plOf (r : Except Int (List Tm)) : List Tm := match r with
  | .error _ => []
  | .ok l => l
def pnOf (r : Except Int (List Tm)) : Int := match r with
  | .error n => n
  | .ok _ => 0
/-- What both Parses leave, in one form. -/
theorem ParseG.row {r : Except Int (List Tm)} {w w' : World} {e : Ending} (h : ParseG r w e w') : ∃ A c, e = .returned (.tuple #[.slice A (plOf r).length c, .int .i64 (pnOf r)]) ∧ RowAt w' w'.heap.size A 4 (plOf r).length (cellsOf encTm (plOf r)) ∧ Below w.heap.size w w' := by
  cases r with
  | error n => exact ⟨none, 0, h.1, ⟨rfl, fun h0 => absurd h0 (Nat.lt_irrefl 0)⟩, h.2⟩
  | ok l =>
    obtain ⟨v, rfl, hO⟩ := h
    obtain ⟨A, c, rfl⟩ := own_slice hO.1
    exact ⟨A, c, rfl, RowAt.of_own hO.1, hO.2⟩
theorem plOf_len (s : Str) : (plOf (parseL s)).length ≤ 16 := by
  cases h : parseL s with
  | error n => exact Nat.zero_le _
  | ok l => exact (checkE_ok (parse_good h).1).2.1
/-- text, from a new tape. -/
def NewStr (w : World) (e : Ending) (w' : World) : Prop := ∃ s : ByteArray, s.size ≤ 6000 ∧ e = .returned (.string s) ∧ Below w.heap.size w w'
theorem Text_new {w : World} {A : Option Addr} {n : Nat} (c : Nat) (hE : Env0 w) (hI : IntsIn w A n) :
    Calls Tryz.prog 46 #[.pointer (some ⟨w.heap.size, 0, none⟩)] (w.alloc (.cells #[.slice A n c, .int .i64 0] 28)) (NewStr w) := by
  refine (Text10_any (n := n) (p := 0) (d := 0) (TSt.start (hI.tape c 28)) (hE.go (below_alloc w _)) hE.size (by omega)).mono ?_
  rintro e w2 ⟨s, hs, rfl, hT⟩
  exact ⟨s, hs, rfl, grown_back (below_alloc w _) hT.gr (Nat.le_refl _)⟩
theorem RowAt.ln {w wr : World} {B : Nat} {A : Option Addr} {l : List Ln} (h : RowAt w B A 2 l.length (cellsOf encLn l)) (hb : Below B w wr) {k : Nat} (hk : k < l.length) : ∃ ba off, A = some ⟨ba, off, none⟩ ∧ ba < B ∧
    wr.cell? ⟨ba, off + k * 2, none⟩ = some (.int .i64 l[k].num) ∧ wr.cell? ⟨ba, off + k * 2 + 1, none⟩ = some (.string l[k].text) := by
  obtain ⟨ba, off, hA, hba, hc⟩ := h.cell encLn_len hk
  have hx : l[k]? = some l[k] := List.getElem?_eq_getElem hk
  refine ⟨ba, off, hA, hba, ?_, ?_⟩
  · rw [hb.cell (p := ⟨ba, off + k * 2, none⟩) hba]; exact hc k _ hx 0 _ rfl
  · rw [hb.cell (p := ⟨ba, off + k * 2 + 1, none⟩) hba]; exact hc k _ hx 1 _ rfl
set_option maxRecDepth 100000 in
set_option maxHeartbeats 4000000 in
theorem lawParsesG (raw : ByteArray) (TA : Option Addr) (n tc : Nat) (w : World) (hE : Env w) (hs : raw.size ≤ 9223372036854775807) (hI : IntsIn w TA n) :
    Calls Tryz.prog 12 #[.string raw, .slice TA n tc] w fun e w' => e = .returned (.bool true) ∧ Below w.heap.size w w' := by
  by_cases h2000 : 2000 < raw.size
  · have h2I : (2000 : Int) < (raw.size : Int) := by omega
    have HK := Lib.hid (known10_any w hE)
    clear hE hI h2000
    go_enter Tryz.func12, Tryz.ntmps12
    go_wp2_with (go_at_call 30; refine HK.out.mono ?_; rintro e w5 ⟨rfl, hb5⟩)
    go_ret
    exact ⟨rfl, hb5⟩
  have h2I : ¬ (2000 : Int) < (raw.size : Int) := by omega
  have HT := Lib.hid (Text_new tc hE.toEnv0 hI)
  have HE := Lib.hid (fun (W : World) (hW : Below w.heap.size w W) => hE.go hW)
  have HKn := Lib.hid (fun (W : World) (hW : Below w.heap.size w W) => known10_any W (hE.go hW))
  obtain ⟨i0, hi0, hz0, hz1, hz2⟩ := info_parts lnInfo
  have Hi0 := Lib.hid hi0
  have Hz0 := Lib.hid hz0
  have Hz1 := Lib.hid hz1
  have Hz2 := Lib.hid hz2
  clear hE hI hi0 hz0 hz1 hz2
  go_enter Tryz.func12, Tryz.ntmps12
  go_wp2_with fail
  refine HT.out.mono ?_
  rintro e w1 ⟨s1, hs1, rfl, hb1⟩
  have HB1 := Lib.hid hb1
  have HLn := Lib.hid (RLines_any s1 w1 (HE.out w1 hb1).toEnv0 (by omega))
  obtain ⟨hz, hll⟩ := linesS_len (s := s1) (by omega)
  have HZ := Lib.hid hz
  clear hb1 hz HT
  go_wp2_with fail
  refine HLn.out.mono ?_
  rintro e w2 ⟨v, rfl, hO⟩
  obtain ⟨LA, lc, rfl⟩ := own_slice hO.1
  have HO := Lib.hid hO
  have hw2 := hO.2.size
  clear hO HLn
  generalize linesS s1 = ls at *
  go_wp2_with (at_builtin; go_loud (refine wpList_append_lies _ rfl _ _ _ (by rfl) w1.heap.size 82 i0 _ 2 24 Tryz.underlying78 Hi0.out Hz0.out Hz1.out Hz2.out rfl (by omega) (.slice LA ls.length lc) ls.length (cellsOf encLn ls) (by rfl) (HO.out.1.alloc _) _ 1 1 (encLn ⟨0, raw⟩) (by rfl) (by rfl) (by exact World.news_of_block (heap_alloc_new _ _)) (encLn_one _) (by omega) (by unfold maxLen; omega) (by omega) (by simp; omega) _ rfl ?_; intro g2 cap w3 hown2 hgrow2 hat2 hlt2; have HO3 := Lib.hid (HO.out.snoc hown2 hgrow2); clear hown2 hgrow2 hat2 hlt2))
  have HZ2 : Hid (∀ x ∈ ls ++ [(⟨0, raw⟩ : Ln)], x.text.size ≤ 9223372036854775807) := Lib.hid fun x hx => by
    rcases List.mem_append.1 hx with hx | hx
    · have := HZ.out x hx; omega
    · obtain rfl := List.mem_singleton.1 hx; exact hs
  have hl2 : (ls ++ [(⟨0, raw⟩ : Ln)]).length = ls.length + 1 := by rw [List.length_append]; rfl
  have HRow : Hid (RowAt w3 w3.heap.size (some ⟨g2, 0, none⟩) 2 (ls ++ [(⟨0, raw⟩ : Ln)]).length (cellsOf encLn (ls ++ [(⟨0, raw⟩ : Ln)]))) := Lib.hid (RowAt.of_own (c := cap) (by rw [hl2]; have h := HO3.out.1; rw [hl2] at h; exact h))
  have HB3 := Lib.hid (bt HB1.out HO3.out.2)
  obtain ⟨M, hM⟩ : ∃ M, ls.length + 1 = M := ⟨_, rfl⟩
  rw [hM] at hl2
  try rw [hM]
  obtain ⟨l2, hl⟩ : ∃ l2, ls ++ [(⟨0, raw⟩ : Ln)] = l2 := ⟨_, rfl⟩
  rw [hl] at HZ2 hl2 HRow
  have HL2 := Lib.hid hl2
  have hM2 : M ≤ 2000001 := by omega
  clear hl hl2 hM HO HO3 HZ hll hw2 HB1
  go_loopg [6] (M + 1) (fun gk s6 wr => ∃ k : Nat, s6 = .int .i64 k ∧ k + gk = M + 1 ∧ k ≤ M ∧ Hid (Below w3.heap.size w3 wr))
  case atStart => exact ⟨0, rfl, by omega, Nat.zero_le _, Below.refl _ _⟩
  case round =>
    obtain ⟨k, rfl, hkg, hkM, hB⟩ := hrel
    by_cases hlt : k < M
    · have hltI : (k : Int) < (M : Int) := by omega
      have hk : k < l2.length := by rw [HL2.out]; exact hlt
      obtain ⟨ba, off, hA, hba, c0, c1⟩ := HRow.out.ln hB.out hk
      obtain ⟨rfl, rfl⟩ : g2 = ba ∧ 0 = off := by injection hA with e; injection e with e1 e2; exact ⟨e1, e2⟩
      have hzx := HZ2.out l2[k] (List.getElem_mem _)
      generalize l2[k] = x at *
      obtain ⟨xn, xt⟩ := x
      dsimp only at c0 c1 hzx
      rw [Nat.zero_add] at c0 c1
      have HP : Hid (∀ W, Below w.heap.size w W → Calls Tryz.prog 42 #[.string xt] W (ParseG (parseL (L xt)) W)) := Lib.hid fun W hW => PParse_any xt W (HE.out W hW) hzx
      have HR : Hid (∀ W, Below w.heap.size w W → Calls Tryz.prog 47 #[.string xt] W (ParseG (parseL (L xt)) W)) := Lib.hid fun W hW => RParseT_any xt W (HE.out W hW).toEnv0 hzx
      have hpl := plOf_len (L xt)
      generalize parseL (L xt) = r at *
      obtain ⟨q, hq⟩ : ∃ q, (plOf r).length = q := ⟨_, rfl⟩
      have HQ := Lib.hid hq
      rw [hq] at hpl
      have HSm : Hid (∀ W A A' c c', RowAt W W.heap.size A 4 (plOf r).length (cellsOf encTm (plOf r)) → RowAt W W.heap.size A' 4 (plOf r).length (cellsOf encTm (plOf r)) → Calls Tryz.prog 43 #[.slice A q c, .slice A' q c'] W fun e w' => e = .returned (.bool true) ∧ Below W.heap.size W w') := Lib.hid fun W A A' c c' h h' => by
        have := SameTerms_yes A A' c c' (plOf r) W (by omega) h h'
        rwa [hq] at this
      clear hq hk hA
      go_wp2_with (first
        | (go_at_call 42; refine (HP.out _ (bt HB3.out hB.out)).mono ?_; rintro e w4 hG; obtain ⟨A4, c4, rfl, hR4, hb4⟩ := hG.row; rw [HQ.out]; have HB4 := Lib.hid (bt hB.out hb4); have HR4 := Lib.hid hR4; have d1 := (hb4.cell (p := ⟨g2, k * 2 + 1, none⟩) (Nat.lt_of_lt_of_le hba hB.out.size)).trans c1; clear hG hb4 hR4)
        | (go_at_call 47; refine (HR.out _ (bt HB3.out HB4.out)).mono ?_; rintro e w5 hG; obtain ⟨A5, c5, rfl, hR5, hb5⟩ := hG.row; rw [HQ.out]; have HB5 := Lib.hid (bt HB4.out hb5); have HR5 := Lib.hid hR5; have HR45 := Lib.hid ((HR4.out.keep hb5).up hb5.size); clear hG hb5 hR5)
        | (go_at_call 43; refine (HSm.out _ _ _ _ _ HR45.out HR5.out).mono ?_; rintro e w6 ⟨rfl, hb6⟩; have HB6 := Lib.hid (bt HB5.out hb6); clear hb6))
      go_roundg (gk - 1)
      case measure => omega
      case rel => exact ⟨k + 1, by go_num, by omega, by omega, HB6.out⟩
    · obtain rfl : k = M := by omega
      go_wp2_with (go_at_call 30; refine (HKn.out _ (bt HB3.out hB.out)).mono ?_; rintro e w9 ⟨rfl, hb9⟩)
      go_ret
      exact ⟨rfl, bt HB3.out (bt hB.out hb9)⟩
end Go.Proofs.YthcgkeiggnfgiaaGreatDoor
