/-
  The law GrammarParses, walked.
  Contracts of the program's lexer: physical, blank, Lines.
  Contract of the program's Lines.
  The rules and the faults of a file, in plain words; lists of rules in memory.
  Contract of the reference's Script. (Printed by gen_script.py.)
  Contract of the program's Script. (Printed by gen_pscript.py.)
  SameRules and SameFaults at two lists that are alike.
-/
import Derived.Test.YtibflgfhjfcifaaGreatDoorG32
import Derived.Test.YtibflgfhjfcifaaGreatDoorG35
import Derived.Test.YtibflgfhjfcifaaGreatDoorG38
import Derived.Test.YtibflgfhjfcifaaGreatDoorG37
import Derived.Test.YtibflgfhjfcifaaGreatDoorG33
import Derived.Test.YtibflgfhjfcifaaGreatDoorG06
import Derived.Deep.Onto
import Derived.Deep.RegionHeld3
namespace Go.Proofs.YtibflgfhjfcifaaGreatDoor
open Go.RowKit
theorem logF_len {p : List ByteArray} (hp : ∀ i, (p.getD i ⟨#[]⟩).size ≤ 1000000) : ∀ (f i : Nat) (t : Str), (logF p f i t).1.length ≤ t.length + f * 1000000
 | 0, i, t => by rw [logF]; show t.length ≤ _; omega
 | f + 1, i, t => by
   have h1 := hp (i + 1)
   rw [← len_L] at h1
   rw [logF]
   split
   · split
     · simp only [List.length_dropLast]; omega
     · have := logF_len hp f (i + 1) (t.dropLast ++ L (p.getD (i + 1) ⟨#[]⟩))
       rw [List.length_append, List.length_dropLast] at this
       omega
   · dsimp only; omega
theorem linesF_len {p : List ByteArray} (hp : ∀ i, (p.getD i ⟨#[]⟩).size ≤ 1000000) : ∀ (f i : Nat) (acc : List Ln), (∀ x ∈ acc, x.text.size ≤ 1000000 + p.length * 1000000) → (∀ x ∈ linesF p f i acc, x.text.size ≤ 1000000 + p.length * 1000000) ∧ (linesF p f i acc).length ≤ acc.length + f
 | 0, i, acc, h => ⟨h, by rw [linesF]; omega⟩
 | f + 1, i, acc, h => by
   rw [linesF]
   split
   · have hl := logF_len hp p.length i (L (p.getD i ⟨#[]⟩))
     have hi := hp i
     rw [len_L] at hl
     have hacc : ∀ x ∈ (if blankB (logF p p.length i (L (p.getD i ⟨#[]⟩))).1 then acc else acc ++ [⟨(i : Int) + 1, bs (logF p p.length i (L (p.getD i ⟨#[]⟩))).1⟩]), x.text.size ≤ 1000000 + p.length * 1000000 := fun x hx => by
      split at hx
      · exact h x hx
      · rcases List.mem_append.1 hx with hx | hx
        · exact h x hx
        · obtain rfl := List.mem_singleton.1 hx
          show (bs _).size ≤ _
          rw [size_bs]; omega
     obtain ⟨i1, i2⟩ := linesF_len hp f ((logF p p.length i (L (p.getD i ⟨#[]⟩))).2 + 1) _ hacc
     refine ⟨i1, Nat.le_trans i2 ?_⟩
     split
     · omega
     · rw [List.length_append, List.length_singleton]; omega
   · exact ⟨h, by omega⟩
theorem physL_len (s : ByteArray) : (physL s).length ≤ s.size + 1 := by
 have h1 := splitL_len s
 have h2 := Lib.countB_le ⟨#[10]⟩ (by show 1 ≤ 1; omega) s.size s (Nat.le_refl _)
 unfold physL
 split
 · rw [List.length_take]; omega
 · omega
theorem linesS_len {s : ByteArray} (hs : s.size ≤ 1000000) : (∀ x ∈ linesS s, x.text.size ≤ 2000000000000) ∧ (linesS s).length ≤ 2000000 := by
 have hp : ∀ i, ((physL s).getD i ⟨#[]⟩).size ≤ 1000000 := fun i => by
  rcases Nat.lt_or_ge i (physL s).length with h | h
  · rw [getD_at h]; exact Nat.le_trans (physL_sizes s _ (List.getElem_mem _)) hs
  · rw [List.getD, List.getElem?_eq_none h]; exact Nat.zero_le _
 have hl := physL_len s
 obtain ⟨h1, h2⟩ := linesF_len hp ((physL s).length + 1) 0 [] (fun x hx => by cases hx)
 exact ⟨fun x hx => by have := h1 x hx; omega, by unfold linesS; simp at h2; omega⟩
def plOf (r : Except Int (List Tm)) : List Tm := match r with
 | .error _ => []
 | .ok l => l
def pnOf (r : Except Int (List Tm)) : Int := match r with
 | .error n => n
 | .ok _ => 0
theorem ParseG.row {r : Except Int (List Tm)} {w w' : World} {e : Ending} (h : ParseG r w e w') : ∃ A c, e = .returned (.tuple #[.slice A (plOf r).length c, .int .i64 (pnOf r)]) ∧ RowAt w' w'.heap.size A 4 (plOf r).length (cellsOf encTm (plOf r)) ∧ Below w.heap.size w w' := by
 cases r with
 | error n => exact ⟨none, 0, h.1, ⟨rfl, fun h0 => absurd h0 (Nat.lt_irrefl 0)⟩, h.2⟩
 | ok l =>
   obtain ⟨v, rfl, hO⟩ := h
   obtain ⟨A, c, rfl⟩ := own_slice hO.1
   exact ⟨A, c, rfl, RowAt.of_own hO.1, hO.2⟩
theorem RowAt.ln {w wr : World} {B : Nat} {A : Option Addr} {l : List Ln} (h : RowAt w B A 2 l.length (cellsOf encLn l)) (hb : Below B w wr) {k : Nat} (hk : k < l.length) : ∃ ba off, A = some ⟨ba, off, none⟩ ∧ ba < B ∧
 wr.cell? ⟨ba, off + k * 2, none⟩ = some (.int .i64 l[k].num) ∧ wr.cell? ⟨ba, off + k * 2 + 1, none⟩ = some (.string l[k].text) := by
 obtain ⟨ba, off, hA, hba, hc⟩ := h.cell encLn_len hk
 have hx : l[k]? = some l[k] := List.getElem?_eq_getElem hk
 refine ⟨ba, off, hA, hba, ?_, ?_⟩
 · rw [hb.cell (p := ⟨ba, off + k * 2, none⟩) hba]; exact hc k _ hx 0 _ rfl
 · rw [hb.cell (p := ⟨ba, off + k * 2 + 1, none⟩) hba]; exact hc k _ hx 1 _ rfl
end Go.Proofs.YtibflgfhjfcifaaGreatDoor
namespace Go.Proofs.YtibflgfhjfcifaaGreatDoor
open Go.RowKit
def PhysPost (s : ByteArray) (w : World) (e : Ending) (w' : World) : Prop := ∃ c, e = .returned (.slice (some ⟨w.heap.size, 0, none⟩) (physL s).length c) ∧ Below w.heap.size w w' ∧ w.heap.size < w'.heap.size ∧ ∀ W, Below w'.heap.size w' W → ∀ i, i < (physL s).length → W.cell? ⟨w.heap.size, i, none⟩ = some (.string ((physL s).getD i ⟨#[]⟩))
set_option maxRecDepth 100000 in
set_option maxHeartbeats 8000000 in
theorem physical_any (s : ByteArray) (w : World) (hE : Env0 w) (hs : s.size ≤ 1000000) :
 Calls Tryz.prog 79 #[.string s] w (PhysPost s w) := by
 have hSp := SplitL_any s w hE (by omega)
 clear hE
 have hP1 := splitL_len s
 have hn2 := Nat.le_trans (Lib.countB_le ⟨#[10]⟩ (by show 1 ≤ 1; omega) 1000000 s hs) hs
 obtain ⟨Q, hQ⟩ : ∃ Q, physL s = Q := ⟨_, rfl⟩
 unfold PhysPost
 rw [hQ]
 unfold physL at hQ
 obtain ⟨P, hP⟩ : ∃ P, splitL s = P := ⟨_, rfl⟩
 rw [hP] at hP1 hQ hSp
 generalize Lib.countB s ⟨#[10]⟩ = n at *
 rw [hP1, Nat.add_sub_cancel] at hQ
 rw [hP1] at hSp
 have HSp := Lib.hid hSp
 have hnP : n < P.length := by omega
 have hlast : P.getD n ⟨#[]⟩ = P[n] := getD_at hnP
 have HArr : Hid (∀ W : World, W.heap[w.heap.size]? = some (.cells (P.map Value.string).toArray 9 (0, 0)) → ∀ i (h : i < P.length), W.cell? ⟨w.heap.size, i, none⟩ = some (.string P[i])) := Lib.hid fun W h i hi => cellOf h (by rw [List.getElem?_toArray, List.getElem?_map, List.getElem?_eq_getElem hi]; rfl)
 clear hSp hP
 go_enter Tryz.func79, Tryz.ntmps79
 have hlc := HArr.out _ (heap_alloc_new w (.cells (P.map Value.string).toArray 9)) n hnP
 have hrow := heap_alloc_new w (.cells (P.map Value.string).toArray 9)
 have hb1 := below_alloc w (.cells (P.map Value.string).toArray 9)
 obtain ⟨W1, hW1⟩ : ∃ W1, w.alloc (.cells (P.map Value.string).toArray 9) = W1 := ⟨_, rfl⟩
 rw [hW1] at HSp hlc hrow hb1
 have HRow := Lib.hid hrow
 have HB1 := Lib.hid hb1
 have hg1 := blk_lt' hrow
 obtain ⟨g, hg⟩ : ∃ g, w.heap.size = g := ⟨_, rfl⟩
 rw [hg] at HArr HSp hlc HRow hg1
 clear hrow hb1 hW1
 obtain ⟨pl, hpl⟩ : ∃ pl, P[n] = pl := ⟨_, rfl⟩
 rw [hpl] at hlc hlast
 clear hpl
 go_upto_if 12 with (go_at_call 105; refine HSp.out.mono ?_; rintro e wq ⟨rfl, hq⟩; obtain rfl : W1 = wq := hq)
 obtain ⟨b, hbb⟩ : ∃ b, pl.toList.isEmpty = b := ⟨_, rfl⟩
 rw [hbb]
 have HBb := Lib.hid hbb
 clear hbb
 go_cut [3] from 13 to 17 (fun s3 wx => s3 = .slice (some ⟨g, 0, none⟩) Q.length (n + 1) ∧ W1 = wx)
 case first =>
  have he := HBb.out
  rw [tl] at he
  cases b
  · rw [hlast, if_neg (by rw [he]; simp)] at hQ
    have hl : Q.length = n + 1 := by rw [← hQ, hP1]
    clear hQ he
    go_wp2
    go_meet
    exact ⟨by rw [hl], rfl⟩
  · rw [hlast, if_pos he] at hQ
    have hl : Q.length = n := by rw [← hQ, List.length_take]; omega
    clear hQ he
    go_wp2
    go_meet
    exact ⟨by rw [hl], rfl⟩
 case rest =>
 obtain ⟨rfl, rfl⟩ := hcut
 have hQ' : ∀ i (h : i < Q.length), ∃ h' : i < P.length, P[i] = Q[i] := fun i h => by
  split at hQ
  · subst hQ
    rw [List.length_take] at h
    exact ⟨by omega, by simp⟩
  · subst hQ; exact ⟨h, rfl⟩
 have HC : Hid (∀ W, Below W1.heap.size W1 W → ∀ i, i < Q.length → W.cell? ⟨g, i, none⟩ = some (.string (Q.getD i ⟨#[]⟩))) := Lib.hid fun W hW i h => by
  obtain ⟨h', e⟩ := hQ' i h
  rw [getD_at h, ← e]
  exact HArr.out W ((hW.block g hg1).trans HRow.out) i h'
 have HG := Lib.hid hg1
 have HGe := Lib.hid hg
 clear hQ hQ' hlast hnP hlc HArr HRow HSp hg1 hP1 hg
 go_wp2
 go_ret
 exact ⟨n + 1, by rw [HGe.out]; rfl, HB1.out, by rw [HGe.out]; exact HG.out, by rw [HGe.out]; exact HC.out⟩
theorem blank_any (s : ByteArray) (w : World) : Calls Tryz.prog 81 #[.string s] w fun e w' => e = .returned (.bool (blankB (L s))) ∧ Below w.heap.size w w' := by
 have HTr := Lib.hid (fun W => TrimBl s W)
 obtain ⟨cb, hcb⟩ : ∃ cb, bs (cutB (L s)) = cb := ⟨_, rfl⟩
 have hcl : L cb = cutB (L s) := by rw [← hcb, L_bs]
 rw [hcb] at HTr
 clear hcb
 by_cases h0 : cb.size = 0
 · have t2 : cb.toList = [] := by rw [tl]; exact List.eq_nil_of_length_eq_zero (by rw [len_L]; exact h0)
   have t1 : cb.toList.isEmpty = true := by rw [t2]; rfl
   have HB := Lib.hid (blank_yes hcl h0)
   clear hcl h0
   go_enter Tryz.func81, Tryz.ntmps81
   go_wp2_with (go_at_call 88; refine (HTr.out _).mono ?_; rintro e w2 ⟨rfl, hb2⟩)
   go_ret
   exact ⟨ret_bool (by rw [HB.out]), hb2⟩
 · have h0p : 0 < cb.size := by omega
   have h0I : (0 : Int) < (cb.size : Int) := by omega
   have t2 : ¬ cb.toList = [] := by rw [tl]; intro e; apply h0; rw [← len_L, e]; rfl
   have t1 : cb.toList.isEmpty = false := by
    cases hq : cb.toList.isEmpty with
    | false => rfl
    | true => exact absurd (List.isEmpty_iff.1 hq) t2
   have hbl := blank_cons hcl h0p
   rw [show (35 : UInt8) = UInt8.ofNat 35 from rfl, u8_eq cb[0] 35 (by omega)] at hbl
   have HB := Lib.hid hbl
   clear hcl h0 hbl
   go_enter Tryz.func81, Tryz.ntmps81
   go_wp2_with (go_at_call 88; refine (HTr.out _).mono ?_; rintro e w2 ⟨rfl, hb2⟩)
   go_ret
   exact ⟨ret_bool (by rw [HB.out]; rfl), hb2⟩
end Go.Proofs.YtibflgfhjfcifaaGreatDoor
namespace Go.Proofs.YtibflgfhjfcifaaGreatDoor
open Go.RowKit
set_option maxRecDepth 100000 in
set_option maxHeartbeats 8000000 in
theorem PLines_any (s : ByteArray) (w : World) (hE : Env0 w) (hs : s.size ≤ 1000000) :
 Calls Tryz.prog 46 #[.string s] w fun e w' => ∃ v, e = .returned v ∧ OutL w (linesS s) v w' := by
 have HPh := Lib.hid (physical_any s w hE hs)
 clear hE
 have hPl := physL_len s
 obtain ⟨Q, hQ⟩ : ∃ Q, physL s = Q := ⟨_, rfl⟩
 have hQz : ∀ x ∈ Q, x.size ≤ 1000000 := fun x hx => Nat.le_trans (physL_sizes s x (by rw [hQ]; exact hx)) hs
 have HLs : Hid (linesS s = linesF Q (Q.length + 1) 0 []) := Lib.hid (by rw [linesS, hQ])
 unfold PhysPost at HPh
 rw [hQ] at HPh hPl
 have HZ : Hid (∀ i, (Q.getD i ⟨#[]⟩).size ≤ 1000000) := Lib.hid fun i => by
  rcases Nat.lt_or_ge i Q.length with h | h
  · rw [getD_at h]; exact hQz _ (List.getElem_mem _)
  · rw [List.getD, List.getElem?_eq_none h]; exact Nat.zero_le _
 obtain ⟨M, hM⟩ : ∃ M, Q.length = M := ⟨_, rfl⟩
 have HM := Lib.hid hM
 rw [hM] at HPh HLs hPl
 clear hM hQ hQz
 obtain ⟨i0, hi0, hz0, hz1, hz2⟩ := info_parts lnInfo
 have Hi0 := Lib.hid hi0
 have Hz0 := Lib.hid hz0
 have Hz1 := Lib.hid hz1
 have Hz2 := Lib.hid hz2
 clear hi0 hz0 hz1 hz2
 go_enter Tryz.func46, Tryz.ntmps46
 go_wp2_with fail
 refine HPh.out.mono ?_
 rintro e W1 ⟨pc, rfl, hb1, hg1, hC⟩
 have HB1 := Lib.hid hb1
 have HC := Lib.hid hC
 obtain ⟨g, hg⟩ : ∃ g, w.heap.size = g := ⟨_, rfl⟩
 rw [hg] at HC ⊢
 clear hb1 hC hg1 hg HPh
 go_wp2
 go_loopg [3, 5] (M + 1) (fun gk s3 s5 wr => ∃ (i : Nat) (out : List Ln) (A : Option Addr) (c : Nat), s3 = .slice A out.length c ∧ s5 = .int .i64 i ∧ M < i + gk ∧ i ≤ M ∧ out.length ≤ i ∧ Hid (OutL W1 out (.slice A out.length c) wr) ∧ Hid (linesS s = linesF Q gk i out))
 case atStart => exact ⟨0, [], none, 0, rfl, rfl, by omega, Nat.zero_le _, Nat.le_refl _, OutL.start _, HLs.out⟩
 case round =>
  obtain ⟨i, out, A, c, rfl, rfl, hgk, hiM, hol, hO, hF⟩ := hrel
  obtain ⟨wo, rfl⟩ : ∃ wo : World, wo = wr := ⟨_, rfl⟩
  obtain ⟨gko, rfl⟩ : ∃ gko : Nat, gko = gk := ⟨_, rfl⟩
  by_cases hlt : i < M
  · have hltI : (i : Int) < (M : Int) := by omega
    obtain ⟨m, rfl⟩ : ∃ m, gko = m + 1 := ⟨gko - 1, by omega⟩
    have HF2 : Hid (linesS s = linesF Q m ((logF Q M i (L (Q.getD i ⟨#[]⟩))).2 + 1) (if blankB (logF Q M i (L (Q.getD i ⟨#[]⟩))).1 then out else out ++ [⟨(i : Int) + 1, bs (logF Q M i (L (Q.getD i ⟨#[]⟩))).1⟩])) := Lib.hid (by rw [hF.out, linesF, HM.out, if_pos hlt])
    have hwz := hO.out.2.size
    clear hF
    go_upto_block 2 with fail
    have HS0 : Hid (LnSt wo (wo.alloc (.cells #[.int .i64 ((i : Int) + 1), .string ⟨#[]⟩] 89)) wo.heap.size ((i : Int) + 1) ⟨#[]⟩) := Lib.hid ⟨heap_alloc_new wo _, below_alloc wo _⟩
    obtain ⟨h, hh⟩ : ∃ h, wo.heap.size = h := ⟨_, rfl⟩
    have hhw : wo.heap.size ≤ h := by omega
    obtain ⟨W2, hW2⟩ : ∃ W2, wo.alloc (.cells #[.int .i64 ((i : Int) + 1), .string ⟨#[]⟩] 89) = W2 := ⟨_, rfl⟩
    rw [hW2, hh] at HS0
    rw [hW2, hh]
    clear hW2
    go_cut [5, 7, 8] from 18 to 39 (fun s5 _ _ wx => ∃ (j : Nat) (tb : ByteArray), s5 = .int .i64 ((j : Int) + 1) ∧ i ≤ j ∧ j < M ∧ Hid (LnSt wo wx h ((i : Int) + 1) tb) ∧ Hid (logF Q M i (L (Q.getD i ⟨#[]⟩)) = (L tb, j)))
    case first =>
     go_wp2_with fail
     go_loopg [5, 7, 8] (M - i + 1) (fun gk s5 s7 s8 wx => ∃ (j : Nat) (tb : ByteArray) (more : Bool), s5 = .int .i64 j ∧ s7 = .bool more ∧ i ≤ j ∧ j + gk = M + 1 ∧ j ≤ M ∧ tb.size ≤ j * 1000000 ∧ Hid (LnSt wo wx h ((i : Int) + 1) tb) ∧ (more = true ∧ j < M ∧ (∃ f, M ≤ j + f ∧ Hid (logF Q M i (L (Q.getD i ⟨#[]⟩)) = logF Q f j (L tb ++ L (Q.getD j ⟨#[]⟩)))) ∨ (more = false ∨ j = M) ∧ 1 ≤ j ∧ i < j ∧ Hid (logF Q M i (L (Q.getD i ⟨#[]⟩)) = (L tb, j - 1))))
     case atStart => exact ⟨i, ⟨#[]⟩, true, rfl, rfl, Nat.le_refl _, by omega, hiM, Nat.zero_le _, HS0.out, Or.inl ⟨rfl, hlt, M, by omega, (by show _ = _; rfl)⟩⟩
     case round =>
      obtain ⟨j, tb, more, rfl, rfl, hij, hjg, hjM, htb, hS, hcase⟩ := hrel
      rcases hcase with ⟨rfl, hjlt, f, hf, hlog⟩ | ⟨hend, hj1, hij2, hlog⟩
      · obtain ⟨f, rfl⟩ : ∃ f', f = f' + 1 := ⟨f - 1, by omega⟩
        have hjI : (j : Int) < (M : Int) := by omega
        have hcj := HC.out wr (bt hO.out.2 hS.out.2) j hjlt
        have hzj := HZ.out j
        obtain ⟨⟨b0, b1⟩, p0, p1⟩ := hS.out.cells
        have HL1 : Hid (logF Q M i (L (Q.getD i ⟨#[]⟩)) = if Lib.hasSuffix (L (Q.getD j ⟨#[]⟩)) [92] then (if j + 1 = M then ((L tb ++ L (Q.getD j ⟨#[]⟩)).dropLast, j) else logF Q f (j + 1) ((L tb ++ L (Q.getD j ⟨#[]⟩)).dropLast ++ L (Q.getD (j + 1) ⟨#[]⟩))) else (L tb ++ L (Q.getD j ⟨#[]⟩), j)) := Lib.hid (by rw [hlog.out, logF, HM.out])
        clear hlog
        obtain ⟨qj, hqj⟩ : ∃ qj, Q.getD j ⟨#[]⟩ = qj := ⟨_, rfl⟩
        rw [hqj] at hcj HL1 hzj
        have HCs := Lib.hid (fun W => Tryz.strings_CutSuffix qj ⟨#[92]⟩ W (by omega))
        rw [show (qj.data.toList : Str) = L qj from rfl, show ((⟨#[92]⟩ : ByteArray).data.toList : Str) = [92] from rfl] at HCs
        clear hqj
        obtain ⟨pt, hpt⟩ : ∃ pt : ByteArray, (⟨(Lib.trimSuffix (L qj) [92]).toArray⟩ : ByteArray) = pt := ⟨_, rfl⟩
        have hLp : L pt = Lib.trimSuffix (L qj) [92] := by rw [← hpt]; try rfl
        rw [hpt] at HCs
        clear hpt
        have hps : pt.size ≤ qj.size := by
         have := congrArg List.length hLp
         rw [len_L] at this
         rw [this, ← len_L qj]
         unfold Lib.trimSuffix
         split
         · rw [List.length_take]; omega
         · exact Nat.le_refl _
        have hcat : (9223372036854775807 < tb.size + pt.size) = False := by simp; omega
        obtain ⟨tc, htc⟩ : ∃ tc : ByteArray, tb ++ pt = tc := ⟨_, rfl⟩
        have htcs : tc.size = tb.size + pt.size := by rw [← htc, ByteArray.size_append]
        have hLtc : L tc = L tb ++ L pt := by rw [← htc, L_append]
        cases hsf : Lib.hasSuffix (L qj) [92]
        · rw [hsf] at HCs
          have hpe : L pt = L qj := by rw [hLp, Lib.trimSuffix, hsf]; rfl
          have HR : Hid (logF Q M i (L (Q.getD i ⟨#[]⟩)) = (L tc, j + 1 - 1)) := Lib.hid (by rw [HL1.out, if_neg (by rw [hsf]; simp), hLtc, hpe]; rfl)
          clear hsf HL1 hpe hLtc hLp
          go_wp2_with (go_at_call 80; refine (HCs.out _).mono ?_; rintro e wq ⟨rfl, hq⟩; obtain rfl : wr = wq := hq.symm)
          try rw [htc]
          go_roundg (gk - 1)
          case measure => omega
          case rel => exact ⟨j + 1, tc, false, by go_num, rfl, by omega, by omega, by omega, by omega, hS.out.text hhw tc, Or.inr ⟨Or.inl rfl, by omega, by omega, HR.out⟩⟩
        · rw [hsf] at HCs
          have h1q : 1 ≤ qj.size := by
           have := Lib.hasSuffix_le hsf
           rw [len_L] at this
           exact this
          have hdr : (L tb ++ L qj).dropLast = L tc := by
           have hne : L qj ≠ [] := by intro e; have := len_L qj; rw [e] at this; simp at this; omega
           rw [List.dropLast_append_of_ne_nil hne, hLtc, hLp, Lib.trimSuffix, hsf, List.dropLast_eq_take]; rfl
          have HL2 : Hid (logF Q M i (L (Q.getD i ⟨#[]⟩)) = if j + 1 = M then (L tc, j) else logF Q f (j + 1) (L tc ++ L (Q.getD (j + 1) ⟨#[]⟩))) := Lib.hid (by rw [HL1.out, if_pos hsf, hdr])
          clear hsf HL1 hLtc hLp hdr
          go_wp2_with (go_at_call 80; refine (HCs.out _).mono ?_; rintro e wq ⟨rfl, hq⟩; obtain rfl : wr = wq := hq.symm)
          try rw [htc]
          go_roundg (gk - 1)
          case measure => omega
          case rel =>
           refine ⟨j + 1, tc, true, by go_num, rfl, by omega, by omega, by omega, by omega, hS.out.text hhw tc, ?_⟩
           by_cases hend : j + 1 = M
           · exact Or.inr ⟨Or.inr hend, by omega, by omega, by show _ = _; rw [HL2.out, if_pos hend]; rfl⟩
           · exact Or.inl ⟨rfl, by omega, f, by omega, by show _ = _; rw [HL2.out, if_neg hend]⟩
      · obtain ⟨j, rfl⟩ : ∃ j', j = j' + 1 := ⟨j - 1, by omega⟩
        have HR : Hid (logF Q M i (L (Q.getD i ⟨#[]⟩)) = (L tb, j)) := Lib.hid hlog.out
        have hjj : ((j + 1 : Nat) : Int) = (j : Int) + 1 := by omega
        cases more
        · rw [hjj]
          go_wp2
          go_meet
          exact ⟨j, tb, rfl, by omega, by omega, hS.out, HR.out⟩
        · have hM2 : j + 1 = M := by rcases hend with h | h; cases h; exact h
          have hjI : ¬ (j : Int) + 1 < (M : Int) := by omega
          rw [hjj]
          clear hend
          go_wp2
          go_meet
          exact ⟨j, tb, rfl, by omega, by omega, hS.out, HR.out⟩
    case rest =>
    obtain ⟨j, tb, rfl, hij, hjM, HS, HLog⟩ := hcut
    have HF3 : Hid (linesS s = linesF Q m (j + 1) (if blankB (L tb) then out else out ++ [⟨(i : Int) + 1, tb⟩])) := Lib.hid (by rw [HF2.out, HLog.out]; dsimp only; rw [bs_L])
    have HBl := Lib.hid (fun W => blank_any tb W)
    obtain ⟨⟨b0, b1⟩, p0, p1⟩ := HS.out.cells
    clear HF2 HLog HS0
    cases hbl : blankB (L tb)
    · rw [hbl] at HBl
      have HF4 : Hid (linesS s = linesF Q m (j + 1) (out ++ [⟨(i : Int) + 1, tb⟩])) := Lib.hid (by rw [HF3.out, hbl]; rfl)
      clear HF3 hbl
      go_wp2_with (first
       | (go_at_call 81; refine (HBl.out _).mono ?_; rintro e w2 ⟨rfl, hb2⟩; have HS2 : Hid (LnSt wo w2 h ((i : Int) + 1) tb) := Lib.hid ⟨(hb2.block h (blk_lt' HS.out.1)).trans HS.out.1, bt HS.out.2 hb2⟩; obtain ⟨⟨d0, d1⟩, _⟩ := HS2.out.cells; have HO2 := Lib.hid (hO.out.go HS2.out.2); have hw2 := HO2.out.2.size)
       | (at_builtin; go_loud (refine wpList_append_lies _ rfl _ _ _ (by rfl) W1.heap.size 89 i0 _ 2 24 Tryz.underlying86 Hi0.out Hz0.out Hz1.out Hz2.out rfl (by omega) (.slice A out.length c) out.length (cellsOf encLn out) (by rfl) (HO2.out.1.alloc _) _ 1 1 (encLn ⟨(i : Int) + 1, tb⟩) (by rfl) (by rfl) (by exact World.news_of_block (heap_alloc_new _ _)) (encLn_one _) (by omega) (by unfold maxLen; omega) (by omega) (by simp; omega) _ rfl ?_; intro g2 cap w9 hown2 hgrow2 hat2 hlt2; have HO9 := Lib.hid (HO2.out.snoc hown2 hgrow2); clear hown2 hgrow2 hat2 hlt2)))
      go_roundg m
      case measure => omega
      case rel => exact ⟨j + 1, out ++ [(⟨(i : Int) + 1, tb⟩ : Ln)], _, _, by rw [List.length_append]; rfl, by go_num, by omega, by omega, by rw [List.length_append]; simp; omega, by rw [List.length_append]; exact HO9.out, HF4.out⟩
    · rw [hbl] at HBl
      have HF4 : Hid (linesS s = linesF Q m (j + 1) out) := Lib.hid (by rw [HF3.out, hbl]; rfl)
      clear HF3 hbl
      go_wp2_with (go_at_call 81; refine (HBl.out _).mono ?_; rintro e w2 ⟨rfl, hb2⟩)
      go_roundg m
      case measure => omega
      case rel => exact ⟨j + 1, out, A, c, rfl, by go_num, by omega, by omega, by omega, hO.out.go (bt HS.out.2 hb2), HF4.out⟩
  · obtain rfl : i = M := by omega
    obtain ⟨m, rfl⟩ : ∃ m, gko = m + 1 := ⟨gko - 1, by omega⟩
    have HR : Hid (linesS s = out) := Lib.hid (by rw [hF.out, linesF, HM.out, if_neg hlt])
    clear hF
    go_wp2
    go_ret
    rw [HR.out]
    exact ⟨_, rfl, World.ownsRow.mono hO.out.1 (by have := HB1.out.size; omega), bt HB1.out hO.out.2⟩
end Go.Proofs.YtibflgfhjfcifaaGreatDoor
namespace Go.Proofs.YtibflgfhjfcifaaGreatDoor
open Go.RowKit
def oneR (f : ByteArray) (x : Ln) : List Rp := match parseL (L x.text) with
 | .ok l => [⟨f, x.num, l⟩]
 | .error _ => []
def oneF (f : ByteArray) (x : Ln) : List Fl := match parseL (L x.text) with
 | .ok _ => []
 | .error n => [⟨f, x.num, n⟩]
def scrR (f : ByteArray) (ls : List Ln) : List Rp := ls.flatMap (oneR f)
def scrF (f : ByteArray) (ls : List Ln) : List Fl := ls.flatMap (oneF f)
theorem scrR_snoc (f : ByteArray) (ls : List Ln) (x : Ln) : scrR f (ls ++ [x]) = scrR f ls ++ oneR f x := by simp [scrR]
theorem scrF_snoc (f : ByteArray) (ls : List Ln) (x : Ln) : scrF f (ls ++ [x]) = scrF f ls ++ oneF f x := by simp [scrF]
theorem scrR_len (f : ByteArray) (ls : List Ln) : (scrR f ls).length ≤ ls.length := by
 induction ls with
 | nil => exact Nat.le_refl _
 | cons x r ih =>
   unfold scrR at ih ⊢
   rw [List.flatMap_cons, List.length_append, List.length_cons]
   have : (oneR f x).length ≤ 1 := by unfold oneR; split <;> simp
   omega
theorem scrF_len (f : ByteArray) (ls : List Ln) : (scrF f ls).length ≤ ls.length := by
 induction ls with
 | nil => exact Nat.le_refl _
 | cons x r ih =>
   unfold scrF at ih ⊢
   rw [List.flatMap_cons, List.length_append, List.length_cons]
   have : (oneF f x).length ≤ 1 := by unfold oneF; split <;> simp
   omega
theorem ParseG.row2 {r : Except Int (List Tm)} {w w' : World} {e : Ending} (h : ParseG r w e w') : ∃ A c, e = .returned (.tuple #[.slice A (plOf r).length c, .int .i64 (pnOf r)]) ∧ RowAt w' w'.heap.size A 4 (plOf r).length (cellsOf encTm (plOf r)) ∧ Below w.heap.size w w' ∧ ∀ a, A = some a → w.heap.size ≤ a.block := by
 cases r with
 | error n => exact ⟨none, 0, h.1, ⟨rfl, fun h0 => absurd h0 (Nat.lt_irrefl 0)⟩, h.2, fun a e => by cases e⟩
 | ok l =>
   obtain ⟨v, rfl, hO⟩ := h
   obtain ⟨A, c, rfl⟩ := own_slice hO.1
   exact ⟨A, c, rfl, RowAt.of_own hO.1, hO.2, fun a e => (hO.1.lt a.block (by rw [e]; rfl)).1⟩
def ScrPost (nm tx : ByteArray) (w : World) (e : Ending) (w' : World) : Prop := ∃ vr vf rl fl, e = .returned (.tuple #[vr, vf]) ∧ rl.map Rl.p = scrR nm (linesS tx) ∧ fl = scrF nm (linesS tx) ∧ ScrSt w rl vr fl vf w'
end Go.Proofs.YtibflgfhjfcifaaGreatDoor
namespace Go.Proofs.YtibflgfhjfcifaaGreatDoor
open Go.RowKit
set_option maxRecDepth 100000 in
set_option maxHeartbeats 8000000 in
theorem RScript_any (nm tx : ByteArray) (w : World) (hE : Env0 w) (htx : tx.size ≤ 1000000) :
 Calls Tryz.prog 40 #[.agg #[.string nm, .string tx]] w (ScrPost nm tx w) := by
 have HE := Lib.hid (fun (W : World) (hW : Below w.heap.size w W) => hE.go hW)
 have HLn := Lib.hid (fun (W : World) (hW : Below w.heap.size w W) => RLines_any tx W (hE.go hW) htx)
 obtain ⟨hz, hll⟩ := linesS_len htx
 have HZ := Lib.hid hz
 clear hE hz
 unfold ScrPost
 generalize linesS tx = ls at *
 obtain ⟨N, hN⟩ : ∃ N, ls.length = N := ⟨_, rfl⟩
 have HN := Lib.hid hN
 rw [hN] at hll
 clear hN
 obtain ⟨i0, hi0, hz0, hz1, hz2⟩ := info_parts rlInfo
 have Hi0 := Lib.hid hi0
 have Hz0 := Lib.hid hz0
 have Hz1 := Lib.hid hz1
 have Hz2 := Lib.hid hz2
 obtain ⟨j0, hj0, hy0, hy1, hy2⟩ := info_parts flInfo
 have Hj0 := Lib.hid hj0
 have Hy0 := Lib.hid hy0
 have Hy1 := Lib.hid hy1
 have Hy2 := Lib.hid hy2
 clear hi0 hz0 hz1 hz2 hj0 hy0 hy1 hy2
 go_enter Tryz.func40, Tryz.ntmps40
 have hbx := heap_alloc_new w (.cells #[.string nm, .string tx] 42)
 have hba0 := below_alloc w (.cells #[.string nm, .string tx] 42)
 go_wp2_with fail
 obtain ⟨W0, hW0⟩ : ∃ W0, w.alloc (.cells #[.string nm, .string tx] 42) = W0 := ⟨_, rfl⟩
 obtain ⟨fb, hfb⟩ : ∃ fb, w.heap.size = fb := ⟨_, rfl⟩
 rw [hW0] at hbx hba0 ⊢
 rw [hfb] at hbx
 have HB0 := Lib.hid hba0
 have HBx := Lib.hid hbx
 clear hW0 hba0
 refine (HLn.out W0 HB0.out).mono ?_
 rintro e Wb ⟨v, rfl, hO⟩
 obtain ⟨LA, lc, rfl⟩ := own_slice hO.1
 have HBb := Lib.hid (bt HB0.out hO.2)
 have HBB : Hid (Wb.heap[fb]? = some (.cells #[.string nm, .string tx] 42 (0, 0))) := Lib.hid ((hO.2.block fb (blk_lt' hbx)).trans hbx)
 have HRt : Hid (RowAt Wb Wb.heap.size LA 2 ls.length (cellsOf encLn ls)) := Lib.hid (RowAt.of_own hO.1)
 have hfbw := blk_lt' HBB.out
 clear hO hbx
 try rw [hfb]
 rw [HN.out]
 go_wp2
 go_loopg [4, 5, 7] (N + 1) (fun gk s4 s5 s7 wr => ∃ (k : Nat) (rl : List Rl) (fl : List Fl) (Ar : Option Addr) (cr : Nat) (Af : Option Addr) (cf : Nat), s4 = .slice Ar rl.length cr ∧ s5 = .slice Af fl.length cf ∧ s7 = .int .i64 k ∧ k + gk = N + 1 ∧ k ≤ N ∧ rl.length ≤ k ∧ fl.length ≤ k ∧ Hid (ScrSt Wb rl (.slice Ar rl.length cr) fl (.slice Af fl.length cf) wr) ∧ Hid (rl.map Rl.p = scrR nm (ls.take k)) ∧ Hid (fl = scrF nm (ls.take k)))
 case atStart => exact ⟨0, [], [], none, 0, none, 0, rfl, rfl, rfl, by omega, Nat.zero_le _, Nat.le_refl _, Nat.le_refl _, ScrSt.start _, rfl, rfl⟩
 case round =>
  obtain ⟨k, rl, fl, Ar, cr, Af, cf, rfl, rfl, rfl, hkg, hkN, hrl, hfl, hSc, hRe, hFe⟩ := hrel
  by_cases hlt : k < N
  · have hltI : (k : Int) < (N : Int) := by omega
    have hk : k < ls.length := by rw [HN.out]; exact hlt
    have hts : ls.take (k + 1) = ls.take k ++ [ls[k]] := List.take_succ_eq_append_getElem hk
    have hQ0 := fun W' (hb : Below Wb.heap.size Wb W') => HRt.out.ln hb hk
    have hzx := HZ.out ls[k] (List.getElem_mem _)
    have HR2 : Hid (scrR nm (ls.take (k + 1)) = rl.map Rl.p ++ oneR nm ls[k]) := Lib.hid (by rw [hts, scrR_snoc, hRe.out])
    have HF2 : Hid (scrF nm (ls.take (k + 1)) = fl ++ oneF nm ls[k]) := Lib.hid (by rw [hts, scrF_snoc, ← hFe.out])
    generalize ls[k] = x at *
    obtain ⟨xn, xt⟩ := x
    dsimp only at hQ0 hzx
    obtain ⟨la, lo, rfl, hla, _⟩ := hQ0 Wb (Below.refl _ _)
    have HQr : Hid (∀ W', Below Wb.heap.size Wb W' → W'.cell? ⟨fb, 0, none⟩ = some (.string nm) ∧ W'.cell? ⟨la, lo + k * 2, none⟩ = some (.int .i64 xn)) := Lib.hid fun W' hb => by
     obtain ⟨ba', off', e, _, h, _⟩ := hQ0 W' hb
     obtain ⟨rfl, rfl⟩ : la = ba' ∧ lo = off' := by injection e with e; injection e with e1 e2; exact ⟨e1, e2⟩
     exact ⟨cellOf ((hb.block fb hfbw).trans HBB.out) rfl, h⟩
    have hct : wr.cell? ⟨la, lo + k * 2 + 1, none⟩ = some (.string xt) := by
     obtain ⟨ba', off', e, _, _, h⟩ := hQ0 wr hSc.out.low
     obtain ⟨rfl, rfl⟩ : la = ba' ∧ lo = off' := by injection e with e; injection e with e1 e2; exact ⟨e1, e2⟩
     exact h
    have HPr := Lib.hid (RParseT_any xt wr (HE.out wr (bt HBb.out hSc.out.low)) (by omega))
    have HOne : Hid (oneR nm ⟨xn, xt⟩ = (match parseL (L xt) with | .ok l => [⟨nm, xn, l⟩] | .error _ => []) ∧ oneF nm ⟨xn, xt⟩ = (match parseL (L xt) with | .ok _ => [] | .error n => [⟨nm, xn, n⟩])) := Lib.hid ⟨rfl, rfl⟩
    have hpe : ∀ n, parseL (L xt) = .error n → n ≠ 0 := fun n h => parse_err h
    generalize parseL (L xt) = r at *
    clear hQ0 hk hts hRe hFe hzx
    go_wp2_with fail
    refine HPr.out.mono ?_
    rintro e wq hG
    obtain ⟨A4, c4, rfl, hR4, hb4, hfr⟩ := hG.row2
    obtain ⟨pn, hpn⟩ : ∃ pn, pnOf r = pn := ⟨_, rfl⟩
    obtain ⟨pl, hpl⟩ : ∃ pl, plOf r = pl := ⟨_, rfl⟩
    rw [hpl] at hR4
    rw [hpn, hpl]
    have HSc := Lib.hid (hSc.out.go hb4)
    have HR4 := Lib.hid hR4
    have HOf : Hid (∀ a, A4 = some a → Wb.heap.size ≤ a.block ∧ (Value.slice Ar rl.length cr).ownBlock ≠ some a.block ∧ (Value.slice Af fl.length cf).ownBlock ≠ some a.block) := Lib.hid fun a ha => by
     have h1 := hfr a ha
     exact ⟨by have := hSc.out.low.size; omega, fun e => by have := (hSc.out.r.lt _ e).2; omega, fun e => by have := (hSc.out.f.lt _ e).2; omega⟩
    have HQ : Hid (∀ W', Below wq.heap.size wq W' → W'.cell? ⟨fb, 0, none⟩ = some (.string nm) ∧ W'.cell? ⟨la, lo + k * 2, none⟩ = some (.int .i64 xn)) := Lib.hid fun W' hb => HQr.out W' (bt HSc.out.low hb)
    have hwz := HSc.out.low.size
    clear hR4 hb4 hfr hG hSc hct HPr
    cases r with
    | error n =>
      obtain rfl : n = pn := hpn
      obtain rfl : [] = pl := hpl
      have hne : (n == 0) = false := by simp [hpe n rfl]
      have hne2 : (n != 0) = true := by rw [bne, hne]; rfl
      have HRe : Hid (rl.map Rl.p = scrR nm (ls.take (k + 1))) := Lib.hid (by rw [HR2.out, HOne.out.1, List.append_nil])
      have HFe : Hid (fl ++ [(⟨nm, xn, n⟩ : Fl)] = scrF nm (ls.take (k + 1))) := Lib.hid (by rw [HF2.out, HOne.out.2])
      go_upto_region 9 with fail
      refine wp_region_held_drew (S := fun W' => W'.cell? ⟨fb, 0, none⟩ = some (.string nm) ∧ W'.cell? ⟨la, lo + k * 2, none⟩ = some (.int .i64 xn)) (by kernel_rfl) ?_ (fun hHeld => ?_)
      · exact HQ.out _ (by go_grown)
      refine wpAnyH_take (i := 0) (v := ?_) (by simp only [List.getElem?_toArray, List.getElem?_cons_zero]; rfl) (by kernel_rfl) (by kernel_rfl) (by kernel_rfl) (by exact fun _ _ _ h => h) (Or.inl ⟨by rfl, ?_⟩) (by assumption) ?_
      rotate_left
      · intro w hSw
        go_simp
        try with_reducible rfl
      try simp only [Act.put, List.setIfInBounds_toArray, List.set_cons_zero, List.set_cons_succ]
      refine wpAnyH_take (i := 1) (v := ?_) (by simp only [List.getElem?_toArray, List.getElem?_cons_succ, List.getElem?_cons_zero]; rfl) (by kernel_rfl) (by kernel_rfl) (by kernel_rfl) (by exact fun _ _ _ h => h) (Or.inl ⟨by rfl, ?_⟩) (by assumption) ?_
      rotate_left
      · intro w hSw
        go_simp
        try with_reducible rfl
      try simp only [Act.put, List.setIfInBounds_toArray, List.set_cons_zero, List.set_cons_succ]
      refine wpAnyH_take (i := 2) (v := ?_) (by simp only [List.getElem?_toArray, List.getElem?_cons_succ, List.getElem?_cons_zero]; rfl) (by kernel_rfl) (by kernel_rfl) (by kernel_rfl) (by exact fun _ _ _ h => h) (Or.inl ⟨by rfl, ?_⟩) (by assumption) ?_
      rotate_left
      · intro w hSw
        go_simp
        try with_reducible rfl
      try simp only [Act.put, List.setIfInBounds_toArray, List.set_cons_zero, List.set_cons_succ]
      refine wpAnyH_take (i := 3) (v := ?_) (by simp only [List.getElem?_toArray, List.getElem?_cons_succ, List.getElem?_cons_zero]; rfl) (by kernel_rfl) (by kernel_rfl) (by kernel_rfl) (by exact fun _ _ _ h => h) (Or.inl ⟨by rfl, ?_⟩) (by assumption) ?_
      rotate_left
      · intro w hSw
        go_simp
        try with_reducible rfl
      try simp only [Act.put, List.setIfInBounds_toArray, List.set_cons_zero, List.set_cons_succ]
      refine wpAnyH_take (i := 4) (v := ?_) (by simp only [List.getElem?_toArray, List.getElem?_cons_succ, List.getElem?_cons_zero]; rfl) (by kernel_rfl) (by kernel_rfl) (by kernel_rfl) (by exact fun _ _ _ h => h) (Or.inl ⟨by rfl, ?_⟩) (by assumption) ?_
      rotate_left
      · intro w hSw
        go_simp
        try with_reducible rfl
      try simp only [Act.put, List.setIfInBounds_toArray, List.set_cons_zero, List.set_cons_succ]
      refine wpAnyH_take (i := 5) (v := ?_) (by simp only [List.getElem?_toArray, List.getElem?_cons_succ, List.getElem?_cons_zero]; rfl) (by kernel_rfl) (by kernel_rfl) (by kernel_rfl) (by exact fun _ _ _ h => h) (Or.inl ⟨by rfl, ?_⟩) (by assumption) ?_
      rotate_left
      · intro w hSw
        go_simp
        try with_reducible rfl
      try simp only [Act.put, List.setIfInBounds_toArray, List.set_cons_zero, List.set_cons_succ]
      refine wpAnyH_take (i := 6) (v := ?_) (by simp only [List.getElem?_toArray, List.getElem?_cons_succ, List.getElem?_cons_zero]; rfl) (by kernel_rfl) (by kernel_rfl) (by kernel_rfl) (by exact fun _ _ _ h => h) (Or.inl ⟨by rfl, ?_⟩) (by assumption) ?_
      rotate_left
      · intro w hSw
        go_simp
        try with_reducible rfl
      try simp only [Act.put, List.setIfInBounds_toArray, List.set_cons_zero, List.set_cons_succ]
      refine wpAnyH_take (i := 7) (v := ?_) (by simp only [List.getElem?_toArray, List.getElem?_cons_succ, List.getElem?_cons_zero]; rfl) (by kernel_rfl) (by kernel_rfl) (by kernel_rfl) (by exact fun _ _ _ h => h) (Or.inl ⟨by rfl, ?_⟩) (by assumption) ?_
      rotate_left
      · intro w hSw
        go_simp
        try with_reducible rfl
      try simp only [Act.put, List.setIfInBounds_toArray, List.set_cons_zero, List.set_cons_succ]
      refine wpAnyH_take (i := 8) (v := ?_) (by simp only [List.getElem?_toArray, List.getElem?_cons_succ, List.getElem?_cons_zero]; rfl) (by kernel_rfl) (by kernel_rfl) (by kernel_rfl) (by exact fun _ _ _ h => h) (Or.inl ⟨by rfl, ?_⟩) (by assumption) ?_
      rotate_left
      · intro w hSw
        go_simp
        try with_reducible rfl
      try simp only [Act.put, List.setIfInBounds_toArray, List.set_cons_zero, List.set_cons_succ]
      refine wpAnyH_take (i := 9) (v := ?_) (by simp only [List.getElem?_toArray, List.getElem?_cons_succ, List.getElem?_cons_zero]; rfl) (by kernel_rfl) (by kernel_rfl) (by kernel_rfl) (by exact fun _ _ _ h => h) (Or.inl ⟨by rfl, ?_⟩) (by assumption) ?_
      rotate_left
      · intro w hSw
        go_simp
        try with_reducible rfl
      try simp only [Act.put, List.setIfInBounds_toArray, List.set_cons_zero, List.set_cons_succ]
      refine wpAnyH_ready (rs := [10]) (by kernel_rfl) (by simp) ?_
      refine AllReadyH.cons (by simp only [List.getElem?_toArray, List.getElem?_cons_succ, List.getElem?_cons_zero]; rfl) (fun K hK => ?_) AllReadyH.nil
      go_simp
      refine hK.out _ _ (by first | exact HQ9.out | exact HQ.out _ (by go_grown)) (fun hHeld => ?_)
      clear hK K
      try simp only [Act.put, List.setIfInBounds_toArray, List.set_cons_zero, List.set_cons_succ]
      refine wpAnyH_ready (rs := [11]) (by kernel_rfl) (by simp) ?_
      refine AllReadyH.cons (by simp only [List.getElem?_toArray, List.getElem?_cons_succ, List.getElem?_cons_zero]; rfl) (fun K hK => ?_) AllReadyH.nil
      refine step_append_lies _ (by rfl) _ _ _ (by rfl) Wb.heap.size 55 j0 _ 3 32 Tryz.underlying28 Hj0.out Hy0.out Hy1.out Hy2.out rfl (by omega) (.slice Af fl.length cf) fl.length (cellsOf encFl fl) (by rfl) (own_below2 HSc.out.f (by go_grown)) _ 1 1 (encFl (⟨nm, xn, n⟩ : Fl)) (by rfl) (by rfl) (by first | exact World.news_of_block (heap_alloc_new _ _) | exact World.news_of_block (B := wq.heap.size) (heap_alloc_new wq _)) (encFl_one _) (by omega) (by unfold maxLen; omega) (by omega) (by simp; omega) _ rfl ?_
      intro g2 cap w9 hown2 hgrow2 hat2 hlt2
      have HS9 := Lib.hid (HSc.out.pushF (y := (⟨nm, xn, n⟩ : Fl)) (by go_grown) hown2 hgrow2 hat2)
      have HQ9 : Hid (w9.cell? ⟨fb, 0, none⟩ = some (.string nm) ∧ w9.cell? ⟨la, lo + k * 2, none⟩ = some (.int .i64 xn)) := Lib.hid (HQr.out w9  HS9.out.low)
      clear hown2 hgrow2 hat2 hlt2
      refine hK.out _ _ (by first | exact HQ9.out | exact HQ.out _ (by go_grown)) (fun hHeld => ?_)
      clear hK K
      try simp only [Act.put, List.setIfInBounds_toArray, List.set_cons_zero, List.set_cons_succ]
      refine wpAnyH_take (i := 12) (v := ?_) (by simp only [List.getElem?_toArray, List.getElem?_cons_succ, List.getElem?_cons_zero]; rfl) (by kernel_rfl) (by kernel_rfl) (by kernel_rfl) (by exact fun _ _ _ h => h) (Or.inl ⟨by rfl, ?_⟩) (by assumption) ?_
      rotate_left
      · intro w hSw
        go_simp
        try with_reducible rfl
      try simp only [Act.put, List.setIfInBounds_toArray, List.set_cons_zero, List.set_cons_succ]
      refine wpAnyH_done (by kernel_rfl) ?_ _
      go_wp2
      go_roundg (gk - 1)
      case measure => omega
      case rel => exact ⟨k + 1, rl, fl ++ [(⟨nm, xn, n⟩ : Fl)], _, _, _, _, rfl, by rw [List.length_append]; rfl, by go_num, by omega, by omega, by omega, by rw [List.length_append]; simp; omega, by rw [List.length_append]; exact HS9.out, HRe.out, HFe.out⟩
    | ok l =>
      obtain rfl : l = pl := hpl
      obtain rfl : 0 = pn := hpn
      have HRe : Hid ((rl ++ [(⟨nm, xn, ⟨A4, c4, l⟩⟩ : Rl)]).map Rl.p = scrR nm (ls.take (k + 1))) := Lib.hid (by rw [HR2.out, HOne.out.1, List.map_append]; rfl)
      have HFe : Hid (fl = scrF nm (ls.take (k + 1))) := Lib.hid (by rw [HF2.out, HOne.out.2, List.append_nil])
      go_upto_region 10 with fail
      refine wp_region_held_drew (S := fun W' => W'.cell? ⟨fb, 0, none⟩ = some (.string nm) ∧ W'.cell? ⟨la, lo + k * 2, none⟩ = some (.int .i64 xn)) (by kernel_rfl) ?_ (fun hHeld => ?_)
      · exact HQ.out _ (by go_grown)
      refine wpAnyH_take (i := 0) (v := ?_) (by simp only [List.getElem?_toArray, List.getElem?_cons_zero]; rfl) (by kernel_rfl) (by kernel_rfl) (by kernel_rfl) (by exact fun _ _ _ h => h) (Or.inl ⟨by rfl, ?_⟩) (by assumption) ?_
      rotate_left
      · intro w hSw
        go_simp
        try with_reducible rfl
      try simp only [Act.put, List.setIfInBounds_toArray, List.set_cons_zero, List.set_cons_succ]
      refine wpAnyH_take (i := 1) (v := ?_) (by simp only [List.getElem?_toArray, List.getElem?_cons_succ, List.getElem?_cons_zero]; rfl) (by kernel_rfl) (by kernel_rfl) (by kernel_rfl) (by exact fun _ _ _ h => h) (Or.inl ⟨by rfl, ?_⟩) (by assumption) ?_
      rotate_left
      · intro w hSw
        go_simp
        try with_reducible rfl
      try simp only [Act.put, List.setIfInBounds_toArray, List.set_cons_zero, List.set_cons_succ]
      refine wpAnyH_take (i := 2) (v := ?_) (by simp only [List.getElem?_toArray, List.getElem?_cons_succ, List.getElem?_cons_zero]; rfl) (by kernel_rfl) (by kernel_rfl) (by kernel_rfl) (by exact fun _ _ _ h => h) (Or.inl ⟨by rfl, ?_⟩) (by assumption) ?_
      rotate_left
      · intro w hSw
        go_simp
        try with_reducible rfl
      try simp only [Act.put, List.setIfInBounds_toArray, List.set_cons_zero, List.set_cons_succ]
      refine wpAnyH_take (i := 3) (v := ?_) (by simp only [List.getElem?_toArray, List.getElem?_cons_succ, List.getElem?_cons_zero]; rfl) (by kernel_rfl) (by kernel_rfl) (by kernel_rfl) (by exact fun _ _ _ h => h) (Or.inl ⟨by rfl, ?_⟩) (by assumption) ?_
      rotate_left
      · intro w hSw
        go_simp
        try with_reducible rfl
      try simp only [Act.put, List.setIfInBounds_toArray, List.set_cons_zero, List.set_cons_succ]
      refine wpAnyH_take (i := 4) (v := ?_) (by simp only [List.getElem?_toArray, List.getElem?_cons_succ, List.getElem?_cons_zero]; rfl) (by kernel_rfl) (by kernel_rfl) (by kernel_rfl) (by exact fun _ _ _ h => h) (Or.inl ⟨by rfl, ?_⟩) (by assumption) ?_
      rotate_left
      · intro w hSw
        go_simp
        try with_reducible rfl
      try simp only [Act.put, List.setIfInBounds_toArray, List.set_cons_zero, List.set_cons_succ]
      refine wpAnyH_take (i := 5) (v := ?_) (by simp only [List.getElem?_toArray, List.getElem?_cons_succ, List.getElem?_cons_zero]; rfl) (by kernel_rfl) (by kernel_rfl) (by kernel_rfl) (by exact fun _ _ _ h => h) (Or.inl ⟨by rfl, ?_⟩) (by assumption) ?_
      rotate_left
      · intro w hSw
        go_simp
        try with_reducible rfl
      try simp only [Act.put, List.setIfInBounds_toArray, List.set_cons_zero, List.set_cons_succ]
      refine wpAnyH_take (i := 6) (v := ?_) (by simp only [List.getElem?_toArray, List.getElem?_cons_succ, List.getElem?_cons_zero]; rfl) (by kernel_rfl) (by kernel_rfl) (by kernel_rfl) (by exact fun _ _ _ h => h) (Or.inl ⟨by rfl, ?_⟩) (by assumption) ?_
      rotate_left
      · intro w hSw
        go_simp
        try with_reducible rfl
      try simp only [Act.put, List.setIfInBounds_toArray, List.set_cons_zero, List.set_cons_succ]
      refine wpAnyH_take (i := 7) (v := ?_) (by simp only [List.getElem?_toArray, List.getElem?_cons_succ, List.getElem?_cons_zero]; rfl) (by kernel_rfl) (by kernel_rfl) (by kernel_rfl) (by exact fun _ _ _ h => h) (Or.inl ⟨by rfl, ?_⟩) (by assumption) ?_
      rotate_left
      · intro w hSw
        go_simp
        try with_reducible rfl
      try simp only [Act.put, List.setIfInBounds_toArray, List.set_cons_zero, List.set_cons_succ]
      refine wpAnyH_take (i := 8) (v := ?_) (by simp only [List.getElem?_toArray, List.getElem?_cons_succ, List.getElem?_cons_zero]; rfl) (by kernel_rfl) (by kernel_rfl) (by kernel_rfl) (by exact fun _ _ _ h => h) (Or.inl ⟨by rfl, ?_⟩) (by assumption) ?_
      rotate_left
      · intro w hSw
        go_simp
        try with_reducible rfl
      try simp only [Act.put, List.setIfInBounds_toArray, List.set_cons_zero, List.set_cons_succ]
      refine wpAnyH_take (i := 9) (v := ?_) (by simp only [List.getElem?_toArray, List.getElem?_cons_succ, List.getElem?_cons_zero]; rfl) (by kernel_rfl) (by kernel_rfl) (by kernel_rfl) (by exact fun _ _ _ h => h) (Or.inl ⟨by rfl, ?_⟩) (by assumption) ?_
      rotate_left
      · intro w hSw
        go_simp
        try with_reducible rfl
      try simp only [Act.put, List.setIfInBounds_toArray, List.set_cons_zero, List.set_cons_succ]
      refine wpAnyH_ready (rs := [10]) (by kernel_rfl) (by simp) ?_
      refine AllReadyH.cons (by simp only [List.getElem?_toArray, List.getElem?_cons_succ, List.getElem?_cons_zero]; rfl) (fun K hK => ?_) AllReadyH.nil
      go_simp
      refine hK.out _ _ (by first | exact HQ9.out | exact HQ.out _ (by go_grown)) (fun hHeld => ?_)
      clear hK K
      try simp only [Act.put, List.setIfInBounds_toArray, List.set_cons_zero, List.set_cons_succ]
      refine wpAnyH_ready (rs := [11]) (by kernel_rfl) (by simp) ?_
      refine AllReadyH.cons (by simp only [List.getElem?_toArray, List.getElem?_cons_succ, List.getElem?_cons_zero]; rfl) (fun K hK => ?_) AllReadyH.nil
      refine step_append_lies _ (by rfl) _ _ _ (by rfl) Wb.heap.size 39 i0 _ 3 48 Tryz.underlying23 Hi0.out Hz0.out Hz1.out Hz2.out rfl (by omega) (.slice Ar rl.length cr) rl.length (cellsOf encRl rl) (by rfl) (own_below2 HSc.out.r (by go_grown)) _ 1 1 (encRl (⟨nm, xn, ⟨A4, c4, l⟩⟩ : Rl)) (by rfl) (by rfl) (by first | exact World.news_of_block (heap_alloc_new _ _) | exact World.news_of_block (B := wq.heap.size) (heap_alloc_new wq _)) (encRl_one _) (by omega) (by unfold maxLen; omega) (by omega) (by simp; omega) _ rfl ?_
      intro g2 cap w9 hown2 hgrow2 hat2 hlt2
      have HS9 := Lib.hid (HSc.out.pushR (y := (⟨nm, xn, ⟨A4, c4, l⟩⟩ : Rl)) (by go_grown) HR4.out HOf.out hown2 hgrow2 hat2)
      have HQ9 : Hid (w9.cell? ⟨fb, 0, none⟩ = some (.string nm) ∧ w9.cell? ⟨la, lo + k * 2, none⟩ = some (.int .i64 xn)) := Lib.hid (HQr.out w9  HS9.out.low)
      clear hown2 hgrow2 hat2 hlt2
      refine hK.out _ _ (by first | exact HQ9.out | exact HQ.out _ (by go_grown)) (fun hHeld => ?_)
      clear hK K
      try simp only [Act.put, List.setIfInBounds_toArray, List.set_cons_zero, List.set_cons_succ]
      refine wpAnyH_take (i := 12) (v := ?_) (by simp only [List.getElem?_toArray, List.getElem?_cons_succ, List.getElem?_cons_zero]; rfl) (by kernel_rfl) (by kernel_rfl) (by kernel_rfl) (by exact fun _ _ _ h => h) (Or.inl ⟨by rfl, ?_⟩) (by assumption) ?_
      rotate_left
      · intro w hSw
        go_simp
        try with_reducible rfl
      try simp only [Act.put, List.setIfInBounds_toArray, List.set_cons_zero, List.set_cons_succ]
      refine wpAnyH_done (by kernel_rfl) ?_ _
      go_wp2
      go_roundg (gk - 1)
      case measure => omega
      case rel => exact ⟨k + 1, rl ++ [(⟨nm, xn, ⟨A4, c4, l⟩⟩ : Rl)], fl, _, _, _, _, by rw [List.length_append]; rfl, rfl, by go_num, by omega, by omega, by rw [List.length_append]; simp; omega, by omega, by rw [List.length_append]; exact HS9.out, HRe.out, HFe.out⟩
  · obtain rfl : k = N := by omega
    have hkl : ls.take k = ls := List.take_of_length_le (by rw [HN.out]; exact Nat.le_refl _)
    have HRe : Hid (rl.map Rl.p = scrR nm ls) := Lib.hid (by rw [hRe.out, hkl])
    have HFe : Hid (fl = scrF nm ls) := Lib.hid (by rw [hFe.out, hkl])
    clear hRe hFe hkl
    go_wp2
    go_ret2
    exact ⟨_, _, rl, fl, rfl, HRe.out, HFe.out, ScrSt.base hSc.out HBb.out⟩
end Go.Proofs.YtibflgfhjfcifaaGreatDoor
namespace Go.Proofs.YtibflgfhjfcifaaGreatDoor
open Go.RowKit
set_option maxRecDepth 100000 in
set_option maxHeartbeats 8000000 in
theorem PScript_any (nm tx : ByteArray) (w : World) (hE : Env w) (htx : tx.size ≤ 1000000) :
 Calls Tryz.prog 22 #[.agg #[.string nm, .string tx]] w (ScrPost nm tx w) := by
 have HE := Lib.hid (fun (W : World) (hW : Below w.heap.size w W) => hE.go hW)
 have HLn := Lib.hid (fun (W : World) (hW : Below w.heap.size w W) => PLines_any tx W (hE.go hW).toEnv0 htx)
 obtain ⟨hz, hll⟩ := linesS_len htx
 have HZ := Lib.hid hz
 clear hE hz
 unfold ScrPost
 generalize linesS tx = ls at *
 obtain ⟨N, hN⟩ : ∃ N, ls.length = N := ⟨_, rfl⟩
 have HN := Lib.hid hN
 rw [hN] at hll
 clear hN
 obtain ⟨i0, hi0, hz0, hz1, hz2⟩ := info_parts rlInfo
 have Hi0 := Lib.hid hi0
 have Hz0 := Lib.hid hz0
 have Hz1 := Lib.hid hz1
 have Hz2 := Lib.hid hz2
 obtain ⟨j0, hj0, hy0, hy1, hy2⟩ := info_parts flInfo
 have Hj0 := Lib.hid hj0
 have Hy0 := Lib.hid hy0
 have Hy1 := Lib.hid hy1
 have Hy2 := Lib.hid hy2
 clear hi0 hz0 hz1 hz2 hj0 hy0 hy1 hy2
 go_enter Tryz.func22, Tryz.ntmps22
 have hbx := heap_alloc_new w (.cells #[.string nm, .string tx] 42)
 have hba0 := below_alloc w (.cells #[.string nm, .string tx] 42)
 go_wp2_with fail
 obtain ⟨W0, hW0⟩ : ∃ W0, w.alloc (.cells #[.string nm, .string tx] 42) = W0 := ⟨_, rfl⟩
 obtain ⟨fb, hfb⟩ : ∃ fb, w.heap.size = fb := ⟨_, rfl⟩
 rw [hW0] at hbx hba0 ⊢
 rw [hfb] at hbx
 have HB0 := Lib.hid hba0
 have HBx := Lib.hid hbx
 clear hW0 hba0
 refine (HLn.out W0 HB0.out).mono ?_
 rintro e Wb ⟨v, rfl, hO⟩
 obtain ⟨LA, lc, rfl⟩ := own_slice hO.1
 have HBb := Lib.hid (bt HB0.out hO.2)
 have HBB : Hid (Wb.heap[fb]? = some (.cells #[.string nm, .string tx] 42 (0, 0))) := Lib.hid ((hO.2.block fb (blk_lt' hbx)).trans hbx)
 have HRt : Hid (RowAt Wb Wb.heap.size LA 2 ls.length (cellsOf encLn ls)) := Lib.hid (RowAt.of_own hO.1)
 have hfbw := blk_lt' HBB.out
 clear hO hbx
 try rw [hfb]
 rw [HN.out]
 go_wp2
 go_loopg [4, 5, 14] (N + 1) (fun gk s4 s5 s14 wr => ∃ (k : Nat) (rl : List Rl) (fl : List Fl) (Ar : Option Addr) (cr : Nat) (Af : Option Addr) (cf : Nat), s4 = .slice Ar rl.length cr ∧ s5 = .slice Af fl.length cf ∧ s14 = .int .i64 k ∧ k + gk = N + 1 ∧ k ≤ N ∧ rl.length ≤ k ∧ fl.length ≤ k ∧ Hid (ScrSt Wb rl (.slice Ar rl.length cr) fl (.slice Af fl.length cf) wr) ∧ Hid (rl.map Rl.p = scrR nm (ls.take k)) ∧ Hid (fl = scrF nm (ls.take k)))
 case atStart => exact ⟨0, [], [], none, 0, none, 0, rfl, rfl, rfl, by omega, Nat.zero_le _, Nat.le_refl _, Nat.le_refl _, ScrSt.start _, rfl, rfl⟩
 case round =>
  obtain ⟨k, rl, fl, Ar, cr, Af, cf, rfl, rfl, rfl, hkg, hkN, hrl, hfl, hSc, hRe, hFe⟩ := hrel
  by_cases hlt : k < N
  · have hltI : (k : Int) < (N : Int) := by omega
    have hk : k < ls.length := by rw [HN.out]; exact hlt
    have hts : ls.take (k + 1) = ls.take k ++ [ls[k]] := List.take_succ_eq_append_getElem hk
    have hQ0 := fun W' (hb : Below Wb.heap.size Wb W') => HRt.out.ln hb hk
    have hzx := HZ.out ls[k] (List.getElem_mem _)
    have HR2 : Hid (scrR nm (ls.take (k + 1)) = rl.map Rl.p ++ oneR nm ls[k]) := Lib.hid (by rw [hts, scrR_snoc, hRe.out])
    have HF2 : Hid (scrF nm (ls.take (k + 1)) = fl ++ oneF nm ls[k]) := Lib.hid (by rw [hts, scrF_snoc, ← hFe.out])
    generalize ls[k] = x at *
    obtain ⟨xn, xt⟩ := x
    dsimp only at hQ0 hzx
    obtain ⟨la, lo, rfl, hla, _⟩ := hQ0 Wb (Below.refl _ _)
    have HQr : Hid (∀ W', Below Wb.heap.size Wb W' → W'.cell? ⟨fb, 0, none⟩ = some (.string nm) ∧ W'.cell? ⟨la, lo + k * 2, none⟩ = some (.int .i64 xn)) := Lib.hid fun W' hb => by
     obtain ⟨ba', off', e, _, h, _⟩ := hQ0 W' hb
     obtain ⟨rfl, rfl⟩ : la = ba' ∧ lo = off' := by injection e with e; injection e with e1 e2; exact ⟨e1, e2⟩
     exact ⟨cellOf ((hb.block fb hfbw).trans HBB.out) rfl, h⟩
    obtain ⟨hc0, hct⟩ : wr.cell? ⟨la, lo + k * 2, none⟩ = some (.int .i64 xn) ∧ wr.cell? ⟨la, lo + k * 2 + 1, none⟩ = some (.string xt) := by
     obtain ⟨ba', off', e, _, h⟩ := hQ0 wr hSc.out.low
     obtain ⟨rfl, rfl⟩ : la = ba' ∧ lo = off' := by injection e with e; injection e with e1 e2; exact ⟨e1, e2⟩
     exact h
    have HPr := Lib.hid (PParse_any xt (wr.alloc (.cells #[.int .i64 xn, .string xt] 89)) (HE.out _ (bt HBb.out (bt hSc.out.low (below_alloc wr _)))) (by omega))
    have HOne : Hid (oneR nm ⟨xn, xt⟩ = (match parseL (L xt) with | .ok l => [⟨nm, xn, l⟩] | .error _ => []) ∧ oneF nm ⟨xn, xt⟩ = (match parseL (L xt) with | .ok _ => [] | .error n => [⟨nm, xn, n⟩])) := Lib.hid ⟨rfl, rfl⟩
    have hpe : ∀ n, parseL (L xt) = .error n → n ≠ 0 := fun n h => parse_err h
    generalize parseL (L xt) = r at *
    clear hQ0 hk hts hRe hFe hzx
    go_wp2_with fail
    refine HPr.out.mono ?_
    rintro e wq hG
    obtain ⟨A4, c4, rfl, hR4, hb4, hfr⟩ := hG.row2
    obtain ⟨pn, hpn⟩ : ∃ pn, pnOf r = pn := ⟨_, rfl⟩
    obtain ⟨pl, hpl⟩ : ∃ pl, plOf r = pl := ⟨_, rfl⟩
    rw [hpl] at hR4
    rw [hpn, hpl]
    have HX : Hid (wq.heap[wr.heap.size]? = some (.cells #[.int .i64 xn, .string xt] 89 (0, 0))) := Lib.hid ((hb4.block wr.heap.size (by simp)).trans (heap_alloc_new wr _))
    have HSc := Lib.hid (hSc.out.go (bt (below_alloc wr _) hb4))
    have HR4 := Lib.hid hR4
    have HOf : Hid (∀ a, A4 = some a → Wb.heap.size ≤ a.block ∧ (Value.slice Ar rl.length cr).ownBlock ≠ some a.block ∧ (Value.slice Af fl.length cf).ownBlock ≠ some a.block) := Lib.hid fun a ha => by
     have h1 := hfr a ha
     exact ⟨by have := hSc.out.low.size; simp at h1; omega, fun e => by have := (hSc.out.r.lt _ e).2; simp at h1; omega, fun e => by have := (hSc.out.f.lt _ e).2; simp at h1; omega⟩
    have e0 := (HQr.out wq HSc.out.low).1
    have e1 : wq.cell? ⟨wr.heap.size, 0, none⟩ = some (.int .i64 xn) := cellOf HX.out rfl
    have hwz := HSc.out.low.size
    clear hR4 hb4 hfr hG hSc hct hc0 HPr HX
    cases r with
    | error n =>
      obtain rfl : n = pn := hpn
      obtain rfl : [] = pl := hpl
      have hne : (n == 0) = false := by simp [hpe n rfl]
      have hne2 : (n != 0) = true := by rw [bne, hne]; rfl
      have HRe : Hid (rl.map Rl.p = scrR nm (ls.take (k + 1))) := Lib.hid (by rw [HR2.out, HOne.out.1, List.append_nil])
      have HFe : Hid (fl ++ [(⟨nm, xn, n⟩ : Fl)] = scrF nm (ls.take (k + 1))) := Lib.hid (by rw [HF2.out, HOne.out.2])
      go_wp2_with (at_builtin; go_loud (refine wpList_append_lies _ rfl _ _ _ (by rfl) Wb.heap.size 55 j0 _ 3 32 Tryz.underlying28 Hj0.out Hy0.out Hy1.out Hy2.out rfl (by omega) (.slice Af fl.length cf) fl.length (cellsOf encFl fl) (by rfl) (HSc.out.f.alloc _) _ 1 1 (encFl (⟨nm, xn, n⟩ : Fl)) (by rfl) (by rfl) (by exact World.news_of_block (heap_alloc_new _ _)) (encFl_one _) (by omega) (by unfold maxLen; omega) (by omega) (by simp; omega) _ rfl ?_; intro g2 cap w9 hown2 hgrow2 hat2 hlt2; have HS9 := Lib.hid (HSc.out.pushF (y := (⟨nm, xn, n⟩ : Fl)) (below_alloc _ _) hown2 hgrow2 hat2); clear hown2 hgrow2 hat2 hlt2))
      go_roundg (gk - 1)
      case measure => omega
      case rel => exact ⟨k + 1, rl, fl ++ [(⟨nm, xn, n⟩ : Fl)], _, _, _, _, rfl, by rw [List.length_append]; rfl, by go_num, by omega, by omega, by omega, by rw [List.length_append]; simp; omega, by rw [List.length_append]; exact HS9.out, HRe.out, HFe.out⟩
    | ok l =>
      obtain rfl : l = pl := hpl
      obtain rfl : 0 = pn := hpn
      have HRe : Hid ((rl ++ [(⟨nm, xn, ⟨A4, c4, l⟩⟩ : Rl)]).map Rl.p = scrR nm (ls.take (k + 1))) := Lib.hid (by rw [HR2.out, HOne.out.1, List.map_append]; rfl)
      have HFe : Hid (fl = scrF nm (ls.take (k + 1))) := Lib.hid (by rw [HF2.out, HOne.out.2, List.append_nil])
      go_wp2_with (at_builtin; go_loud (refine wpList_append_lies _ rfl _ _ _ (by rfl) Wb.heap.size 39 i0 _ 3 48 Tryz.underlying23 Hi0.out Hz0.out Hz1.out Hz2.out rfl (by omega) (.slice Ar rl.length cr) rl.length (cellsOf encRl rl) (by rfl) (HSc.out.r.alloc _) _ 1 1 (encRl (⟨nm, xn, ⟨A4, c4, l⟩⟩ : Rl)) (by rfl) (by rfl) (by exact World.news_of_block (heap_alloc_new _ _)) (encRl_one _) (by omega) (by unfold maxLen; omega) (by omega) (by simp; omega) _ rfl ?_; intro g2 cap w9 hown2 hgrow2 hat2 hlt2; have HS9 := Lib.hid (HSc.out.pushR (y := (⟨nm, xn, ⟨A4, c4, l⟩⟩ : Rl)) (below_alloc _ _) HR4.out HOf.out hown2 hgrow2 hat2); clear hown2 hgrow2 hat2 hlt2))
      go_roundg (gk - 1)
      case measure => omega
      case rel => exact ⟨k + 1, rl ++ [(⟨nm, xn, ⟨A4, c4, l⟩⟩ : Rl)], fl, _, _, _, _, by rw [List.length_append]; rfl, rfl, by go_num, by omega, by omega, by rw [List.length_append]; simp; omega, by omega, by rw [List.length_append]; exact HS9.out, HRe.out, HFe.out⟩
  · obtain rfl : k = N := by omega
    have hkl : ls.take k = ls := List.take_of_length_le (by rw [HN.out]; exact Nat.le_refl _)
    have HRe : Hid (rl.map Rl.p = scrR nm ls) := Lib.hid (by rw [hRe.out, hkl])
    have HFe : Hid (fl = scrF nm ls) := Lib.hid (by rw [hFe.out, hkl])
    clear hRe hFe hkl
    go_wp2
    go_ret2
    exact ⟨_, _, rl, fl, rfl, HRe.out, HFe.out, ScrSt.base hSc.out HBb.out⟩
end Go.Proofs.YtibflgfhjfcifaaGreatDoor
namespace Go.Proofs.YtibflgfhjfcifaaGreatDoor
open Go.RowKit
set_option maxRecDepth 100000 in
set_option maxHeartbeats 1000000 in
theorem SameTerms_quiet (A A' : Option Addr) (c c' : Nat) (l : List Tm) (w : World) (hn : l.length ≤ 1000000) (h : RowAt w w.heap.size A 4 l.length (cellsOf encTm l)) (h' : RowAt w w.heap.size A' 4 l.length (cellsOf encTm l)) :
 Calls Tryz.prog 33 #[.slice A l.length c, .slice A' l.length c'] w fun e w' => e = .returned (.bool true) ∧ ∃ m, w' = w.drewN m := by
 have H := Lib.hid h
 have H' := Lib.hid h'
 clear h h'
 generalize hN : l.length = N at *
 have HN := Lib.hid hN
 clear hN
 go_enter Tryz.func33, Tryz.ntmps33
 go_wp2
 go_loopw [5] (fun i wr => ∃ k : Nat, k ≤ N ∧ i = .int .i64 k ∧ Hid (∃ m, wr = w.drewN m)) (fun i _ => N - (intOf i).toNat)
 case atStart => exact ⟨0, Nat.zero_le _, rfl, 0, rfl⟩
 case round =>
  obtain ⟨k, hk, rfl, hdr⟩ := hrel
  have hdb : Below w.heap.size w wr := by obtain ⟨m, e⟩ := hdr.out; rw [e]; exact below_drewN (Below.refl _ _) m
  by_cases hlt : k < N
  · have hk' : k < l.length := by rw [HN.out]; exact hlt
    have hr := H.out
    have hr' := H'.out
    rw [← HN.out] at hr hr'
    obtain ⟨ba, off, rfl, c0, c1, c2, c3⟩ := hr.tm hdb hk'
    obtain ⟨ba', off', rfl, d0, d1, d2, d3⟩ := hr'.tm hdb hk'
    have hltI : (k : Int) < (N : Int) := by omega
    have hNI : (N : Int) ≤ 1000000 := by omega
    clear hr hr' hdb
    generalize l[k] = t at *
    obtain ⟨ky, nm, op, vl⟩ := t
    dsimp only at c0 c1 c2 c3 d0 d1 d2 d3
    clear hk'
    go_wp2
    go_quiet (fail)
    go_wp2
    exact ⟨⟨k + 1, by omega, by go_num, by obtain ⟨m, e⟩ := hdr.out; exact ⟨m + nq, by rw [e, World.drewN_drewN]⟩⟩, by simp [intOf]; omega⟩
  · obtain rfl : k = N := by omega
    clear hdb
    go_wp2
    go_ret
    exact ⟨rfl, hdr.out⟩
theorem RowAt.three {α : Type} {enc : α → List Value} (hk : ∀ x, (enc x).length = 3) {w wr : World} {B : Nat} {A : Option Addr} {l : List α} (h : RowAt w B A 3 l.length (cellsOf enc l)) (hb : Below B w wr) {k : Nat} (hlt : k < l.length) (x0 x1 x2 : Value) (he : enc l[k] = [x0, x1, x2]) : ∃ ba off, A = some ⟨ba, off, none⟩ ∧
 wr.cell? ⟨ba, off + k * 3, none⟩ = some x0 ∧ wr.cell? ⟨ba, off + k * 3 + 1, none⟩ = some x1 ∧ wr.cell? ⟨ba, off + k * 3 + 2, none⟩ = some x2 := by
 obtain ⟨ba, off, hA, hba, hc⟩ := h.cell hk hlt
 have hx : l[k]? = some l[k] := List.getElem?_eq_getElem hlt
 refine ⟨ba, off, hA, ?_, ?_, ?_⟩
 · rw [hb.cell (p := ⟨ba, off + k * 3, none⟩) hba]; exact hc k _ hx 0 _ (by rw [he]; rfl)
 · rw [hb.cell (p := ⟨ba, off + k * 3 + 1, none⟩) hba]; exact hc k _ hx 1 _ (by rw [he]; rfl)
 · rw [hb.cell (p := ⟨ba, off + k * 3 + 2, none⟩) hba]; exact hc k _ hx 2 _ (by rw [he]; rfl)
set_option maxRecDepth 100000 in
set_option maxHeartbeats 1000000 in
theorem SameFaults_yes (A A' : Option Addr) (c c' : Nat) (l : List Fl) (w : World) (hn : l.length ≤ 4000000) (h : RowAt w w.heap.size A 3 l.length (cellsOf encFl l)) (h' : RowAt w w.heap.size A' 3 l.length (cellsOf encFl l)) :
 Calls Tryz.prog 12 #[.slice A l.length c, .slice A' l.length c'] w fun e w' => e = .returned (.bool true) ∧ Below w.heap.size w w' := by
 have H := Lib.hid h
 have H' := Lib.hid h'
 clear h h'
 generalize hN : l.length = N at *
 have HN := Lib.hid hN
 clear hN
 go_enter Tryz.func12, Tryz.ntmps12
 go_wp2
 go_loopw [5] (fun i wr => ∃ k : Nat, k ≤ N ∧ i = .int .i64 k ∧ Hid (Below w.heap.size w wr)) (fun i _ => N - (intOf i).toNat)
 case atStart => exact ⟨0, Nat.zero_le _, rfl, Below.refl _ _⟩
 case round =>
  obtain ⟨k, hk, rfl, hdr⟩ := hrel
  by_cases hlt : k < N
  · have hk' : k < l.length := by rw [HN.out]; exact hlt
    have hr := H.out
    have hr' := H'.out
    rw [← HN.out] at hr hr'
    obtain ⟨ba, off, rfl, c0, c1, c2⟩ := hr.three encFl_len hdr.out hk' _ _ _ rfl
    obtain ⟨ba', off', rfl, d0, d1, d2⟩ := hr'.three encFl_len hdr.out hk' _ _ _ rfl
    have hltI : (k : Int) < (N : Int) := by omega
    have hNI : (N : Int) ≤ 4000000 := by omega
    clear hr hr'
    generalize l[k] = t at *
    obtain ⟨fn, ln, er⟩ := t
    dsimp only at c0 c1 c2 d0 d1 d2
    clear hk'
    go_wp2
    go_quiet (fail)
    go_wp2
    exact ⟨⟨k + 1, by omega, by go_num, below_drewN hdr.out _⟩, by simp [intOf]; omega⟩
  · obtain rfl : k = N := by omega
    go_wp2
    go_ret
    exact ⟨rfl, hdr.out⟩
set_option maxRecDepth 100000 in
set_option maxHeartbeats 2000000 in
theorem SameRules_yes (A A' : Option Addr) (c c' : Nat) (l l' : List Rl) (w : World) (he : l.map Rl.p = l'.map Rl.p) (hn : l.length ≤ 4000000) (hsz : ∀ x ∈ l, x.tms.l.length ≤ 1000000) (h : RowAt w w.heap.size A 3 l.length (cellsOf encRl l)) (h' : RowAt w w.heap.size A' 3 l'.length (cellsOf encRl l')) (hi : InAt 4 encTm Rl.tms w w.heap.size l) (hi' : InAt 4 encTm Rl.tms w w.heap.size l') :
 Calls Tryz.prog 11 #[.slice A l.length c, .slice A' l'.length c'] w fun e w' => e = .returned (.bool true) ∧ Below w.heap.size w w' := by
 have H := Lib.hid h
 have H' := Lib.hid h'
 have HI := Lib.hid hi
 have HI' := Lib.hid hi'
 have HE := Lib.hid he
 have HSz := Lib.hid hsz
 have hll : l'.length = l.length := by have := congrArg List.length he; simpa using this.symm
 clear h h' hi hi' he hsz
 obtain ⟨N, hN⟩ : ∃ N, l.length = N := ⟨_, rfl⟩
 rw [hll, hN]
 rw [hN] at hn hll
 have HN := Lib.hid hN
 have HN' := Lib.hid hll
 clear hN hll
 go_enter Tryz.func11, Tryz.ntmps11
 go_wp2
 go_loopw [5] (fun i wr => ∃ k : Nat, k ≤ N ∧ i = .int .i64 k ∧ Hid (Below w.heap.size w wr)) (fun i _ => N - (intOf i).toNat)
 case atStart => exact ⟨0, Nat.zero_le _, rfl, Below.refl _ _⟩
 case round =>
  obtain ⟨k, hk, rfl, hdr⟩ := hrel
  by_cases hlt : k < N
  · have hk1 : k < l.length := by rw [HN.out]; exact hlt
    have hk2 : k < l'.length := by rw [HN'.out]; exact hlt
    obtain ⟨ba, off, rfl, c0, c1, c2⟩ := H.out.three encRl_len hdr.out hk1 _ _ _ rfl
    obtain ⟨ba', off', rfl, d0, d1, d2⟩ := H'.out.three encRl_len hdr.out hk2 _ _ _ rfl
    have hr1 := HI.out l[k] (List.getElem_mem _)
    have hr2 := HI'.out l'[k] (List.getElem_mem _)
    have hz := HSz.out l[k] (List.getElem_mem _)
    have hp : Rl.p l[k] = Rl.p l'[k] := by
     have := congrArg (fun q : List Rp => q[k]?) HE.out
     simp only [List.getElem?_map, List.getElem?_eq_getElem hk1, List.getElem?_eq_getElem hk2, Option.map_some] at this
     exact Option.some.inj this
    have hltI : (k : Int) < (N : Int) := by omega
    have hNI : (N : Int) ≤ 4000000 := by omega
    generalize l[k] = x at *
    generalize l'[k] = y at *
    obtain ⟨xf, xl, xA, xc, xt⟩ := x
    obtain ⟨yf, yl, yA, yc, yt⟩ := y
    unfold Rl.p at hp
    dsimp only at hp c0 c1 c2 d0 d1 d2 hr1 hr2 hz
    injection hp with e1 e2 e3
    subst e1 e2 e3
    have HSm : Hid (∀ W, Below wr.heap.size wr W → Calls Tryz.prog 33 #[.slice xA xt.length xc, .slice yA xt.length yc] W fun e w' => e = .returned (.bool true) ∧ ∃ m, w' = W.drewN m) := Lib.hid fun W hW => SameTerms_quiet xA yA xc yc xt W hz ((hr1.keep (hdr.out.trans (hW.mono hdr.out.size))).up (by have := hdr.out.size; have := hW.size; omega)) ((hr2.keep (hdr.out.trans (hW.mono hdr.out.size))).up (by have := hdr.out.size; have := hW.size; omega))
    generalize xt.length = q at *
    clear hr1 hr2 hk1 hk2 hz
    go_wp2
    go_quiet ((go_at_call 33; exact Calls.quiet_of (HSm.out _ (below_drewN (Below.refl _ _) _))))
    go_wp2
    exact ⟨⟨k + 1, by omega, by go_num, below_drewN hdr.out _⟩, by simp [intOf]; omega⟩
  · obtain rfl : k = N := by omega
    go_wp2
    go_ret
    exact ⟨rfl, hdr.out⟩
end Go.Proofs.YtibflgfhjfcifaaGreatDoor
