/-
  The logical lines of a text, in plain words; no program in sight.
  Contract of the reference's Lines.
  Contract of the law file's text: some rule file.
-/
import Derived.Test.YtibflgfhjfcifaaGreatDoorG30
import Derived.Lib.SplitLaws
import Derived.Deep.CutBlock
import Derived.Deep.Onto
import Derived.Test.YtibflgfhjfcifaaGreatDoorG35
import Derived.Test.YtibflgfhjfcifaaGreatDoorG33
import Derived.Test.YtibflgfhjfcifaaGreatDoorG19
namespace Go.Proofs.YtibflgfhjfcifaaGreatDoor
open Go.RowKit
structure Ln where
 num : Int
 text : ByteArray
def encLn (x : Ln) : List Value := [.int .i64 x.num, .string x.text]
theorem encLn_len (x : Ln) : (encLn x).length = 2 := rfl
theorem encLn_one (x : Ln) : ∀ u ∈ encLn x, u.oneCell' = true := by simp [encLn, Value.oneCell']
def splitL (s : ByteArray) : List ByteArray := Lib.splitB ⟨#[10]⟩ 0 (Lib.countB s ⟨#[10]⟩) s
theorem splitL_len (s : ByteArray) : (splitL s).length = Lib.countB s ⟨#[10]⟩ + 1 := Lib.splitB_all ⟨#[10]⟩ (by show 1 ≤ 1; omega) 0 _ s rfl
theorem splitB_sizes (sep : ByteArray) : ∀ (k : Nat) (s : ByteArray), ∀ x ∈ Lib.splitB sep 0 k s, x.size ≤ s.size
 | 0, s, x, h => by rw [Lib.splitB_zero, List.mem_singleton] at h; rw [h]; exact Nat.le_refl _
 | k + 1, s, x, h => by
   unfold Lib.splitB at h
   split at h
   · rw [List.mem_singleton] at h; rw [h]; exact Nat.le_refl _
   · rcases List.mem_cons.1 h with rfl | h
     · rw [size_extract]; omega
     · have := splitB_sizes sep k _ x h
       rw [size_extract] at this
       omega
def physL (s : ByteArray) : List ByteArray := if (L ((splitL s).getD ((splitL s).length - 1) ⟨#[]⟩)).isEmpty then (splitL s).take ((splitL s).length - 1) else splitL s
theorem physL_sizes (s : ByteArray) : ∀ x ∈ physL s, x.size ≤ s.size := fun x hx => by
 unfold physL at hx
 split at hx
 · exact splitB_sizes _ _ _ _ (List.mem_of_mem_take hx)
 · exact splitB_sizes _ _ _ _ hx
def logF (p : List ByteArray) : Nat → Nat → Str → Str × Nat
 | 0, i, t => (t, i)
 | f + 1, i, t => if Lib.hasSuffix (L (p.getD i ⟨#[]⟩)) [92] then (if i + 1 = p.length then (t.dropLast, i) else logF p f (i + 1) (t.dropLast ++ L (p.getD (i + 1) ⟨#[]⟩))) else (t, i)
def cutB (t : Str) : Str := t.dropWhile (([32, 9] : Str).contains ·)
def blankB (t : Str) : Bool := (cutB t).isEmpty || (cutB t).head? == some 35
def linesF (p : List ByteArray) : Nat → Nat → List Ln → List Ln
 | 0, _, acc => acc
 | f + 1, i, acc => if i < p.length then linesF p f ((logF p p.length i (L (p.getD i ⟨#[]⟩))).2 + 1) (if blankB (logF p p.length i (L (p.getD i ⟨#[]⟩))).1 then acc else acc ++ [⟨(i : Int) + 1, bs (logF p p.length i (L (p.getD i ⟨#[]⟩))).1⟩]) else acc
def linesS (s : ByteArray) : List Ln := linesF (physL s) ((physL s).length + 1) 0 []
theorem getD_at {p : List ByteArray} {i : Nat} (h : i < p.length) : p.getD i ⟨#[]⟩ = p[i] := by rw [List.getD, List.getElem?_eq_getElem h]; rfl
theorem dropLast_L (t : ByteArray) (_h : 1 ≤ t.size) : L (t.extract 0 (t.size - 1)) = (L t).dropLast := by
 rw [L_extract, List.drop_zero, List.dropLast_eq_take, len_L]
def OutL (w : World) (l : List Ln) (v : Value) (wr : World) : Prop := wr.ownsRow w.heap.size 89 2 v l.length (cellsOf encLn l) ∧ Below w.heap.size w wr
theorem OutL.go {w wr w' : World} {l : List Ln} {v : Value} (h : OutL w l v wr) (hb : Below wr.heap.size wr w') : OutL w l v w' := ⟨own_below2 h.1 hb, bt h.2 hb⟩
theorem OutL.start (w : World) : OutL w [] (.slice none 0 0) w := ⟨World.ownsRow_nil _ _ _ _, Below.refl _ _⟩
theorem OutL.snoc {w wr w9 : World} {l : List Ln} {v : Value} {y : Ln} {o : Obj} {A : Option Addr} {c : Nat} (h : OutL w l v wr) (hown : w9.ownsRow w.heap.size 89 2 (.slice A (l.length + 1) c) (l.length + 1) (cellsOf encLn l ++ encLn y)) (hg : (wr.alloc o).grownBy w9 v.ownBlock) : OutL w (l ++ [y]) (.slice A (l.length + 1) c) w9 :=
 ⟨own_snoc hown, (bt h.2 (below_alloc _ _)).grown hg (by have := h.2.size; simp; omega) (fun j e => (h.1.lt j e).1)⟩
theorem lnInfo : (Tryz.prog.info? 89).map (fun i => (i.zero, i.size, i.bytes)) = some (some (.agg #[.int .i64 0, .string ⟨#[]⟩]), 2, 24) := by kernel_rfl
theorem TrimBl (s : ByteArray) (w : World) : Calls Tryz.prog 88 #[.string s, .string ⟨#[32, 9]⟩] w fun e w' => e = .returned (.string (bs (cutB (L s)))) ∧ Below w.heap.size w w' :=
 Any.strings_TrimLeft_laid Tryz.lays161 (by kernel_rfl) s ⟨#[32, 9]⟩ w (by decide) (ascii_of_all (by decide))
theorem SplitL_any (s : ByteArray) (w : World) (hE : Env0 w) (hs : s.size ≤ 4000000) :
 Calls Tryz.prog 105 #[.string s, .string ⟨#[10]⟩] w fun e w' => e = .returned (.slice (some ⟨w.heap.size, 0, none⟩) (splitL s).length (splitL s).length) ∧ w.alloc (.cells ((splitL s).map Value.string).toArray 9) = w' := by
 obtain ⟨m, hm⟩ := hE.maxLen
 have h := Tryz.strings_Split s ⟨#[10]⟩ m w (by omega) hm (by show 1 ≤ 1; omega)
 rw [splitL_len]
 exact h.mono fun e w' h => ⟨h.1, h.2.symm⟩
end Go.Proofs.YtibflgfhjfcifaaGreatDoor
namespace Go.Proofs.YtibflgfhjfcifaaGreatDoor
open Go.RowKit
def LnSt (w W : World) (g : Nat) (a : Int) (t : ByteArray) : Prop := W.heap[g]? = some (.cells #[.int .i64 a, .string t] 89 (0, 0)) ∧ Below w.heap.size w W
theorem LnSt.text {w W : World} {g : Nat} {a : Int} {t : ByteArray} (h : LnSt w W g a t) (hg : w.heap.size ≤ g) (u : ByteArray) : LnSt w (W.setCell ⟨g, 1, none⟩ (.string u)) g a u :=
 ⟨Go.Joins.block_setCell h.1 _, bC h.2 hg⟩
theorem LnSt.cells {w W : World} {g : Nat} {a : Int} {t : ByteArray} (h : LnSt w W g a t) : (W.cell? ⟨g, 0, none⟩ = some (.int .i64 a) ∧ W.cell? ⟨g, 1, none⟩ = some (.string t)) ∧ W.frozen? ⟨g, 0, none⟩ = false ∧ W.frozen? ⟨g, 1, none⟩ = false :=
 ⟨⟨cellOf h.1 rfl, cellOf h.1 rfl⟩, frozen_of_row _ _ _ _ _ h.1, frozen_of_row _ _ _ _ _ h.1⟩
theorem blank_yes {t : Str} {c : ByteArray} (hc : L c = cutB t) (h : c.size = 0) : blankB t = true := by
 have : cutB t = [] := by rw [← hc]; exact List.eq_nil_of_length_eq_zero (by rw [len_L]; exact h)
 unfold blankB
 rw [this]; rfl
theorem blank_cons {t : Str} {c : ByteArray} (hc : L c = cutB t) (h : 0 < c.size) : blankB t = (c[0] == 35) := by
 have e : cutB t = c[0] :: (L c).drop 1 := by rw [← hc]; have := drop_at c h; rwa [List.drop_zero] at this
 unfold blankB
 rw [e]
 simp
set_option maxRecDepth 100000 in
set_option maxHeartbeats 8000000 in
theorem RLines_any (s : ByteArray) (w : World) (hE : Env0 w) (hs : s.size ≤ 1000000) :
 Calls Tryz.prog 67 #[.string s] w fun e w' => ∃ v, e = .returned v ∧ OutL w (linesS s) v w' := by
 have hSp := SplitL_any s w hE (by omega)
 clear hE
 have hP1 := splitL_len s
 have hn2 := Nat.le_trans (Lib.countB_le ⟨#[10]⟩ (by show 1 ≤ 1; omega) 1000000 s hs) hs
 obtain ⟨Q, hQ⟩ : ∃ Q, physL s = Q := ⟨_, rfl⟩
 have hQz : ∀ x ∈ Q, x.size ≤ 1000000 := fun x hx => Nat.le_trans (physL_sizes s x (by rw [hQ]; exact hx)) hs
 have HLs : Hid (linesS s = linesF Q (Q.length + 1) 0 []) := Lib.hid (by rw [linesS, hQ])
 unfold physL at hQ
 obtain ⟨P, hP⟩ : ∃ P, splitL s = P := ⟨_, rfl⟩
 rw [hP] at hP1 hQ hSp
 generalize Lib.countB s ⟨#[10]⟩ = n at *
 rw [hP1, Nat.add_sub_cancel] at hQ
 rw [hP1] at hSp
 have HSp := Lib.hid hSp
 have hnP : n < P.length := by omega
 have hlast : P.getD n ⟨#[]⟩ = P[n] := getD_at hnP
 have HArr : Hid (∀ W : World, W.heap[w.heap.size]? = some (.cells (P.map Value.string).toArray 9 (0, 0)) → ∀ i (h : i < P.length), W.cell? ⟨w.heap.size, i, none⟩ = some (.string P[i])) := Lib.hid fun W h i hi => cellOf h (by rw [List.getElem?_toArray, List.getElem?_map, List.getElem?_eq_getElem hi]; rfl)
 clear hSp hP
 go_enter Tryz.func67, Tryz.ntmps67
 have hlc := HArr.out _ (heap_alloc_new w (.cells (P.map Value.string).toArray 9)) n hnP
 have hrow := heap_alloc_new w (.cells (P.map Value.string).toArray 9)
 have hb1 := below_alloc w (.cells (P.map Value.string).toArray 9)
 obtain ⟨W1, hW1⟩ : ∃ W1, w.alloc (.cells (P.map Value.string).toArray 9) = W1 := ⟨_, rfl⟩
 rw [hW1] at HSp hlc hrow hb1
 have HRow := Lib.hid hrow
 have HB1 := Lib.hid hb1
 have hg1 := blk_lt' hrow
 obtain ⟨g, hg⟩ : ∃ g, w.heap.size = g := ⟨_, rfl⟩
 rw [hg] at HArr HSp hlc HRow hg1
 clear hrow hb1 hW1
 obtain ⟨pl, hpl⟩ : ∃ pl, P[n] = pl := ⟨_, rfl⟩
 rw [hpl] at hlc hlast
 clear hpl
 go_upto_if 16 with (go_at_call 105; refine HSp.out.mono ?_; rintro e wq ⟨rfl, hq⟩; obtain rfl : W1 = wq := hq)
 obtain ⟨b, hbb⟩ : ∃ b, pl.toList.isEmpty = b := ⟨_, rfl⟩
 rw [hbb]
 have HBb := Lib.hid hbb
 clear hbb
 go_cut [3] from 17 to 21 (fun s3 wx => s3 = .slice (some ⟨g, 0, none⟩) Q.length (n + 1) ∧ W1 = wx)
 case first =>
  have he := HBb.out
  rw [tl] at he
  cases b
  · rw [hlast, if_neg (by rw [he]; simp)] at hQ
    have hl : Q.length = n + 1 := by rw [← hQ, hP1]
    clear hQ he
    go_wp2
    go_meet
    exact ⟨by rw [hl], rfl⟩
  · rw [hlast, if_pos he] at hQ
    have hl : Q.length = n := by rw [← hQ, List.length_take]; omega
    clear hQ he
    go_wp2
    go_meet
    exact ⟨by rw [hl], rfl⟩
 case rest =>
 obtain ⟨rfl, rfl⟩ := hcut
 have hQ' : ∀ i (h : i < Q.length), ∃ h' : i < P.length, P[i] = Q[i] := fun i h => by
  split at hQ
  · subst hQ
    rw [List.length_take] at h
    exact ⟨by omega, by simp⟩
  · subst hQ; exact ⟨h, rfl⟩
 have HC : Hid (∀ W, Below W1.heap.size W1 W → ∀ i (h : i < Q.length), W.cell? ⟨g, i, none⟩ = some (.string (Q.getD i ⟨#[]⟩))) := Lib.hid fun W hW i h => by
  obtain ⟨h', e⟩ := hQ' i h
  rw [getD_at h, ← e]
  exact HArr.out W ((hW.block g hg1).trans HRow.out) i h'
 have HZ : Hid (∀ i, (Q.getD i ⟨#[]⟩).size ≤ 1000000) := Lib.hid fun i => by
  rcases Nat.lt_or_ge i Q.length with h | h
  · rw [getD_at h]; exact hQz _ (List.getElem_mem _)
  · rw [List.getD, List.getElem?_eq_none h]; exact Nat.zero_le _
 have hQl : Q.length ≤ n + 1 := by
  split at hQ
  · rw [← hQ, List.length_take]; omega
  · rw [← hQ, hP1]
    exact Nat.le_refl _
 obtain ⟨M, hM⟩ : ∃ M, Q.length = M := ⟨_, rfl⟩
 have HM := Lib.hid hM
 rw [hM] at HC HLs hQl ⊢
 clear hM hQ hQ' hQz hlast hnP hlc HArr HRow HSp hg1 hP1
 obtain ⟨i0, hi0, hz0, hz1, hz2⟩ := info_parts lnInfo
 have Hi0 := Lib.hid hi0
 have Hz0 := Lib.hid hz0
 have Hz1 := Lib.hid hz1
 have Hz2 := Lib.hid hz2
 clear hi0 hz0 hz1 hz2
 go_wp2
 go_loopg [4, 5] (M + 1) (fun gk s4 s5 wr => ∃ (i : Nat) (out : List Ln) (A : Option Addr) (c : Nat), s4 = .slice A out.length c ∧ s5 = .int .i64 i ∧ M < i + gk ∧ i ≤ M ∧ out.length ≤ i ∧ Hid (OutL W1 out (.slice A out.length c) wr) ∧ Hid (linesS s = linesF Q gk i out))
 case atStart => exact ⟨0, [], none, 0, rfl, rfl, by omega, Nat.zero_le _, Nat.le_refl _, OutL.start _, HLs.out⟩
 case round =>
  obtain ⟨i, out, A, c, rfl, rfl, hgk, hiM, hol, hO, hF⟩ := hrel
  obtain ⟨wo, rfl⟩ : ∃ wo : World, wo = wr := ⟨_, rfl⟩
  obtain ⟨gko, rfl⟩ : ∃ gko : Nat, gko = gk := ⟨_, rfl⟩
  by_cases hlt : i < M
  · have hltI : (i : Int) < (M : Int) := by omega
    obtain ⟨m, rfl⟩ : ∃ m, gko = m + 1 := ⟨gko - 1, by omega⟩
    have hc0 := HC.out wo hO.out.2 i hlt
    have HF2 : Hid (linesS s = linesF Q m ((logF Q M i (L (Q.getD i ⟨#[]⟩))).2 + 1) (if blankB (logF Q M i (L (Q.getD i ⟨#[]⟩))).1 then out else out ++ [⟨(i : Int) + 1, bs (logF Q M i (L (Q.getD i ⟨#[]⟩))).1⟩])) := Lib.hid (by rw [hF.out, linesF, HM.out, if_pos hlt])
    have hzi := HZ.out i
    obtain ⟨qi, hqi⟩ : ∃ qi, Q.getD i ⟨#[]⟩ = qi := ⟨_, rfl⟩
    rw [hqi] at hc0 HF2 hzi
    have HQi := Lib.hid hqi
    have hwz := hO.out.2.size
    clear hqi hF
    go_upto_block 2 with fail
    have HS0 : Hid (LnSt wo (wo.alloc (.cells #[.int .i64 ((i : Int) + 1), .string qi] 89)) wo.heap.size ((i : Int) + 1) qi) := Lib.hid ⟨heap_alloc_new wo _, below_alloc wo _⟩
    obtain ⟨h, hh⟩ : ∃ h, wo.heap.size = h := ⟨_, rfl⟩
    have hhw : wo.heap.size ≤ h := by omega
    obtain ⟨W2, hW2⟩ : ∃ W2, wo.alloc (.cells #[.int .i64 ((i : Int) + 1), .string qi] 89) = W2 := ⟨_, rfl⟩
    rw [hW2, hh] at HS0
    rw [hW2, hh]
    clear hW2 hc0
    go_cut [5] from 35 to 62 (fun s5 wx => ∃ (j : Nat) (tb : ByteArray), s5 = .int .i64 j ∧ i ≤ j ∧ j < M ∧ tb.size ≤ (j + 1) * 1000000 ∧ Hid (LnSt wo wx h ((i : Int) + 1) tb) ∧ Hid (logF Q M i (L qi) = (L tb, j)))
    case first =>
     go_wp2_with fail
     go_loopg [5] (M - i) (fun gk s5 wx => ∃ (j f : Nat) (tb : ByteArray), s5 = .int .i64 j ∧ i ≤ j ∧ j + gk = M ∧ j < M ∧ M ≤ j + f ∧ (Q.getD j ⟨#[]⟩).size ≤ tb.size ∧ tb.size ≤ (j + 1) * 1000000 ∧ Hid (LnSt wo wx h ((i : Int) + 1) tb) ∧ Hid (logF Q M i (L qi) = logF Q f j (L tb)))
     case atStart => exact ⟨i, M, qi, rfl, Nat.le_refl _, by omega, hlt, by omega, by rw [HQi.out]; exact Nat.le_refl _, by omega, HS0.out, rfl⟩
     case round =>
      obtain ⟨j, f, tb, rfl, hij, hjg, hjM, hf, hqt, htb, hS, hlog⟩ := hrel
      obtain ⟨f, rfl⟩ : ∃ f', f = f' + 1 := ⟨f - 1, by omega⟩
      have hjI : (j : Int) < (M : Int) := by omega
      have hcj := HC.out wr (bt hO.out.2 hS.out.2) j hjM
      have hzj := HZ.out j
      obtain ⟨⟨b0, b1⟩, p0, p1⟩ := hS.out.cells
      have HL1 : Hid (logF Q M i (L qi) = if Lib.hasSuffix (L (Q.getD j ⟨#[]⟩)) [92] then (if j + 1 = M then ((L tb).dropLast, j) else logF Q f (j + 1) ((L tb).dropLast ++ L (Q.getD (j + 1) ⟨#[]⟩))) else (L tb, j)) := Lib.hid (by rw [hlog.out, logF, HM.out])
      clear hlog
      obtain ⟨qj, hqj⟩ : ∃ qj, Q.getD j ⟨#[]⟩ = qj := ⟨_, rfl⟩
      rw [hqj] at hcj HL1 hqt hzj
      have HSf := Lib.hid (fun W => Tryz.strings_HasSuffix qj ⟨#[92]⟩ W (by omega))
      rw [show (qj.data.toList : Str) = L qj from rfl, show ((⟨#[92]⟩ : ByteArray).data.toList : Str) = [92] from rfl] at HSf
      clear hqj
      cases hsf : Lib.hasSuffix (L qj) [92]
      · rw [hsf] at HSf
        have HR : Hid (logF Q M i (L qi) = (L tb, j)) := Lib.hid (by rw [HL1.out, if_neg (by rw [hsf]; simp)])
        clear hsf HL1
        go_wp2_with (go_at_call 106; refine (HSf.out _).mono ?_; rintro e wq ⟨rfl, hq⟩; obtain rfl : wr = wq := hq.symm)
        go_meet
        exact ⟨j, tb, rfl, hij, hjM, htb, hS.out, HR.out⟩
      · rw [hsf] at HSf
        have h1q : 1 ≤ tb.size := by
         have := Lib.hasSuffix_le hsf
         rw [len_L] at this
         exact Nat.le_trans this hqt
        have h1I : (1 : Int) ≤ (tb.size : Int) := by omega
        have HL2 : Hid (logF Q M i (L qi) = if j + 1 = M then ((L tb).dropLast, j) else logF Q f (j + 1) ((L tb).dropLast ++ L (Q.getD (j + 1) ⟨#[]⟩))) := Lib.hid (by rw [HL1.out, if_pos hsf])
        have hdl := dropLast_L tb h1q
        obtain ⟨tc, htc⟩ : ∃ tc : ByteArray, tb.extract 0 (tb.size - 1) = tc := ⟨_, rfl⟩
        have htcs : tc.size ≤ tb.size := by rw [← htc, size_extract]; omega
        rw [htc] at hdl
        have hsub : ((tb.size : Int) - 1).toNat = tb.size - 1 := by omega
        clear hsf HL1 hqt
        rw [← hdl] at HL2
        clear hdl
        by_cases hend : j + 1 = M
        · have HR : Hid (logF Q M i (L qi) = (L tc, j)) := Lib.hid (by rw [HL2.out, if_pos hend])
          have e1 : ((j : Int) + 1 == (M : Int)) = true := by simp; omega
          clear HL2 hend
          go_wp2_with (go_at_call 106; refine (HSf.out _).mono ?_; rintro e wq ⟨rfl, hq⟩; obtain rfl : wr = wq := hq.symm)
          try rw [htc]
          go_meet
          exact ⟨j, tc, rfl, hij, hjM, by omega, hS.out.text hhw tc, HR.out⟩
        · have e1 : ((j : Int) + 1 == (M : Int)) = false := by simp; omega
          have hj1 : j + 1 < M := by omega
          have hj1I : (j : Int) + 1 < (M : Int) := by omega
          have HR : Hid (logF Q M i (L qi) = logF Q f (j + 1) (L tc ++ L (Q.getD (j + 1) ⟨#[]⟩))) := Lib.hid (by rw [HL2.out, if_neg hend])
          have hS2 := hS.out.text hhw tc
          have hzk := HZ.out (j + 1)
          obtain ⟨qk, hqk⟩ : ∃ qk, Q.getD (j + 1) ⟨#[]⟩ = qk := ⟨_, rfl⟩
          rw [hqk] at HR hzk
          clear HL2 hend
          go_upto_region 13 with (go_at_call 106; refine (HSf.out _).mono ?_; rintro e wq ⟨rfl, hq⟩; obtain rfl : wr = wq := hq.symm)
          try rw [htc]
          obtain ⟨W4, hW4⟩ : ∃ W4, wr.setCell ⟨h, 1, none⟩ (.string tc) = W4 := ⟨_, rfl⟩
          rw [hW4] at hS2
          rw [hW4]
          have HS2 := Lib.hid hS2
          clear hW4 hS2 b0 b1 p0 p1 hcj
          have hck := HC.out W4 (bt hO.out.2 HS2.out.2) (j + 1) hj1
          rw [hqk] at hck
          obtain ⟨⟨b0, b1⟩, p0, p1⟩ := HS2.out.cells
          have hcat : (9223372036854775807 < tc.size + qk.size) = False := by simp; omega
          obtain ⟨td, htd⟩ : ∃ td : ByteArray, tc ++ qk = td := ⟨_, rfl⟩
          have htds : td.size = tc.size + qk.size := by rw [← htd, ByteArray.size_append]
          have HR2 : Hid (logF Q M i (L qi) = logF Q f (j + 1) (L td)) := Lib.hid (by rw [HR.out, ← htd, L_append])
          have hq2 : (Q.getD (j + 1) ⟨#[]⟩).size ≤ td.size := by rw [hqk]; omega
          clear hqk HR
          go_region
          try rw [htd]
          go_wp2
          go_roundg (gk - 1)
          case measure => omega
          case rel => exact ⟨j + 1, f, td, by go_num, by omega, by omega, hj1, by omega, hq2, by omega, ⟨(HS2.out.text hhw td).1, (HS2.out.text hhw td).2.drew⟩, HR2.out⟩
    case rest =>
    obtain ⟨j, tb, rfl, hij, hjM, htb, HS, HLog⟩ := hcut
    have HF3 : Hid (linesS s = linesF Q m (j + 1) (if blankB (L tb) then out else out ++ [⟨(i : Int) + 1, tb⟩])) := Lib.hid (by rw [HF2.out, HLog.out]; dsimp only; rw [bs_L])
    have HTr := Lib.hid (fun W => TrimBl tb W)
    obtain ⟨cb, hcb⟩ : ∃ cb, bs (cutB (L tb)) = cb := ⟨_, rfl⟩
    have hcl : L cb = cutB (L tb) := by rw [← hcb, L_bs]
    rw [hcb] at HTr
    obtain ⟨⟨b0, b1⟩, p0, p1⟩ := HS.out.cells
    clear HF2 HLog HS0 hcb
    by_cases h0 : cb.size = 0
    · have t2 : cb.toList = [] := by rw [tl]; exact List.eq_nil_of_length_eq_zero (by rw [len_L]; exact h0)
      have t1 : cb.toList.isEmpty = true := by rw [t2]; rfl
      have HF4 : Hid (linesS s = linesF Q m (j + 1) out) := Lib.hid (by rw [HF3.out, blank_yes hcl h0]; rfl)
      clear HF3 h0 hcl
      go_wp2_with (go_at_call 88; refine (HTr.out _).mono ?_; rintro e w2 ⟨rfl, hb2⟩)
      go_roundg m
      case measure => omega
      case rel => exact ⟨j + 1, out, A, c, rfl, by go_num, by omega, by omega, by omega, hO.out.go (bt HS.out.2 hb2), HF4.out⟩
    · have h0p : 0 < cb.size := by omega
      have h0I : (0 : Int) < (cb.size : Int) := by omega
      have t2 : ¬ cb.toList = [] := by rw [tl]; intro e; apply h0; rw [← len_L, e]; rfl
      have t1 : cb.toList.isEmpty = false := by
       cases hq : cb.toList.isEmpty with
       | false => rfl
       | true => exact absurd (List.isEmpty_iff.1 hq) t2
      have hbl := blank_cons hcl h0p
      rw [show (35 : UInt8) = UInt8.ofNat 35 from rfl, u8_eq cb[0] 35 (by omega)] at hbl
      cases h35 : ((cb[0].toNat : Int) == 35)
      · have h35n : ((cb[0].toNat : Int) != 35) = true := by rw [bne, h35]; rfl
        have HF4 : Hid (linesS s = linesF Q m (j + 1) (out ++ [⟨(i : Int) + 1, tb⟩])) := Lib.hid (by rw [HF3.out, hbl]; rw [show ((cb[0].toNat : Int) == ((35 : Nat) : Int)) = false from h35]; rfl)
        clear HF3 hbl hcl h0
        go_wp2_with (first
         | (go_at_call 88; refine (HTr.out _).mono ?_; rintro e w2 ⟨rfl, hb2⟩; have HS2 : Hid (LnSt wo w2 h ((i : Int) + 1) tb) := Lib.hid ⟨(hb2.block h (blk_lt' HS.out.1)).trans HS.out.1, bt HS.out.2 hb2⟩; obtain ⟨⟨d0, d1⟩, _⟩ := HS2.out.cells; have HO2 := Lib.hid (hO.out.go HS2.out.2); have hw2 := HO2.out.2.size)
         | (at_builtin; go_loud (refine wpList_append_lies _ rfl _ _ _ (by rfl) W1.heap.size 89 i0 _ 2 24 Tryz.underlying86 Hi0.out Hz0.out Hz1.out Hz2.out rfl (by omega) (.slice A out.length c) out.length (cellsOf encLn out) (by rfl) (HO2.out.1.alloc _) _ 1 1 (encLn ⟨(i : Int) + 1, tb⟩) (by rfl) (by rfl) (by exact World.news_of_block (heap_alloc_new _ _)) (encLn_one _) (by omega) (by unfold maxLen; omega) (by omega) (by simp; omega) _ rfl ?_; intro g2 cap w9 hown2 hgrow2 hat2 hlt2; have HO9 := Lib.hid (HO2.out.snoc hown2 hgrow2); clear hown2 hgrow2 hat2 hlt2)))
        go_roundg m
        case measure => omega
        case rel => exact ⟨j + 1, out ++ [(⟨(i : Int) + 1, tb⟩ : Ln)], _, _, by rw [List.length_append]; rfl, by go_num, by omega, by omega, by rw [List.length_append]; simp; omega, by rw [List.length_append]; exact HO9.out, HF4.out⟩
      · have h35n : ((cb[0].toNat : Int) != 35) = false := by rw [bne, h35]; rfl
        have HF4 : Hid (linesS s = linesF Q m (j + 1) out) := Lib.hid (by rw [HF3.out, hbl]; rw [show ((cb[0].toNat : Int) == ((35 : Nat) : Int)) = true from h35]; rfl)
        clear HF3 hbl hcl h0
        go_wp2_with (go_at_call 88; refine (HTr.out _).mono ?_; rintro e w2 ⟨rfl, hb2⟩)
        go_roundg m
        case measure => omega
        case rel => exact ⟨j + 1, out, A, c, rfl, by go_num, by omega, by omega, by omega, hO.out.go (bt HS.out.2 hb2), HF4.out⟩
  · obtain rfl : i = M := by omega
    obtain ⟨m, rfl⟩ : ∃ m, gko = m + 1 := ⟨gko - 1, by omega⟩
    have HR : Hid (linesS s = out) := Lib.hid (by rw [hF.out, linesF, HM.out, if_neg hlt])
    clear hF
    go_wp2
    go_ret
    rw [HR.out]
    exact ⟨_, rfl, World.ownsRow.mono hO.out.1 (by have := HB1.out.size; omega), bt HB1.out hO.out.2⟩
end Go.Proofs.YtibflgfhjfcifaaGreatDoor
namespace Go.Proofs.YtibflgfhjfcifaaGreatDoor
open Go.RowKit
end Go.Proofs.YtibflgfhjfcifaaGreatDoor
