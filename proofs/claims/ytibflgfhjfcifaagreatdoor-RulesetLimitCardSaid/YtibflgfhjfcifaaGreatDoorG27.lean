/-
  Contract of the program's set: a set of a pattern, behind its beginning.
  Contract of the program's alternatives of a pattern.
  Contracts of the program's parse and Check of a pattern.
-/
import Derived.Test.YtibflgfhjfcifaaGreatDoorG26
import Derived.Test.YtibflgfhjfcifaaGreatDoorG10
import Derived.Test.YtibflgfhjfcifaaGreatDoorG16
import Derived.Deep.RegionWith
import Derived.Test.YtibflgfhjfcifaaGreatDoorG15
namespace Go.Proofs.YtibflgfhjfcifaaGreatDoor
open Go.RowKit
theorem hp_one (l : Str) (c : UInt8) : Lib.hasPrefix l [c] = decide (l.head? = some c) := by
 cases l with
 | nil => simp [Lib.hasPrefix]
 | cons x r =>
   simp only [Lib.hasPrefix, List.head?_cons, Option.some.injEq]
   by_cases h : x = c
   · subst h; simp [List.isPrefixOf]
   · have : (c == x) = false := by simpa using fun e => h e.symm
     simp [List.isPrefixOf, this, h]
theorem hp_q (q : ByteArray) (c : UInt8) (w : World) : Calls Tryz.prog 48 #[.string q, .string ⟨#[c]⟩] w fun e w' => e = .returned (.bool (decide ((L q).head? = some c))) ∧ w' = w := by
 have h := HasPrefix_any q ⟨#[c]⟩ w
 rw [show L ⟨#[c]⟩ = [c] from rfl, hp_one] at h
 exact h.mono fun _ _ ⟨h1, h2⟩ => ⟨h1, h2.symm⟩
theorem post_cellrow2 {P : Program} {fn : Func} {R : Ending → World → Prop} {a : Act} {W : World} {g : Nat} {p q : Tmp} {ty t : TypeId} {cs : Array Value} {u : Value} {fr : Nat × Nat} {d : TypeDesc} (h : fn.results = #[.cell p ty, .tmp q]) (hp : a.tmps.getD p undef = .pointer (some ⟨g, 0, none⟩)) (hq : a.tmps.getD q undef = u)
 (hg : W.heap[g]? = some (.cells cs t fr)) (hu : P.underlying ty = some d) (hd : (match d with | .struct _ | .array _ _ => true | _ => false) = true) (hi : (P.info? ty).map (·.size) = some cs.size) (hdef : a.defers = [])
 (hR : R (.returned (.tuple #[.agg cs, u])) W) : bodyPost P fn R .ret a W := by
 have hp' : a.tmps[p]?.getD undef = .pointer (some ⟨g, 0, none⟩) := by simpa using hp
 have hq' : a.tmps[q]?.getD undef = u := by simpa using hq
 refine bodyPost_ret (v := .tuple #[.agg cs, u]) ?_ hdef hR
 simp [results, h, hp', hq', asAddr, run_loadVar_row W g t ty cs fr d hg hu hd hi]
def PSetPost (p : ByteArray) (g : Nat) (r : Str) (w : World) (e : Ending) (w' : World) : Prop := w.grownBy w' (some g) ∧
 match setS r with
 | some (x, r') => e = .returned (.tuple #[.agg (boolA 127 x.has), .bool true]) ∧ w'.heap[g]? = some (rdr p ((p.size : Int) - r'.length))
 | none => e = .returned (.tuple #[.agg (boolA 127 (fun _ => false)), .bool false])
theorem setQ_bad {no : Bool} {q : Str} (h : membersK q = none) : setQ no q = none := by
 unfold setQ
 unfold membersK at h
 rw [h]
 split <;> rfl
theorem setQ_some {no : Bool} {q r : Str} {rs : List (UInt8 × UInt8)} (h : membersK q = some (rs, r)) (hh : q.head? ≠ some 93) : setQ no q = some (.set no rs, r) := by
 unfold setQ
 unfold membersK at h
 rw [if_neg hh, h]
 rfl
theorem mem_some {c : UInt8} {r : Str} {x : UInt8 × UInt8} {n : Nat} (h : memS (c :: r) = some (x, n)) (hc : c ≠ 93) : x.1 = c ∧ membersK (c :: r) = (membersK ((c :: r).drop n)).map (fun y => (x :: y.1, y.2)) ∧ 1 ≤ n ∧ (n = 1 ∨ ∃ b, rngS r = some b ∧ n = 3) := by
 rw [memS] at h
 cases hr : rngS r with
 | none =>
   rw [hr] at h
   simp only [Option.some.injEq, Prod.mk.injEq] at h
   obtain ⟨rfl, rfl⟩ := h
   refine ⟨rfl, ?_, Nat.le_refl _, Or.inl rfl⟩
   rw [membersK_one _ _ hc hr]; rfl
 | some b =>
   rw [hr] at h
   dsimp only at h
   split at h
   · rename_i hle
     simp only [Option.some.injEq, Prod.mk.injEq] at h
     obtain ⟨rfl, rfl⟩ := h
     refine ⟨rfl, ?_, by omega, Or.inr ⟨b, rfl, rfl⟩⟩
     rw [membersK_rng _ _ _ hc hr, if_pos hle]; rfl
   · cases h
theorem mem_none {c : UInt8} {r : Str} (h : memS (c :: r) = none) (hc : c ≠ 93) : membersK (c :: r) = none := by
 rw [memS] at h
 cases hr : rngS r with
 | none => rw [hr] at h; cases h
 | some b =>
   rw [hr] at h
   dsimp only at h
   split at h
   · cases h
   · rename_i hle
     rw [membersK_rng _ _ _ hc hr, if_neg hle]
theorem alloc_st (w : World) (f : Nat → Bool) : (stSet (.pointer (some ⟨w.heap.size, 0, none⟩)) (.agg (boolA 127 f))).run Tryz.prog (w.alloc (.cells Tryz.zeroCells257 257)) = .ok () ((w.alloc (.cells Tryz.zeroCells257 257)).setRow w.heap.size (boolA 127 f)) :=
 stSet_at (heap_alloc_new w _) (by rw [zeroSet, size_boolA]) (size_boolA _ _) (boolA_one _ _)
theorem alloc_st_at (w : World) (f : Nat → Bool) : ((w.alloc (.cells Tryz.zeroCells257 257)).setRow w.heap.size (boolA 127 f)).heap[w.heap.size]? = some (.cells (boolA 127 f) 257 (0, 0)) := setRow_heap _ _ _ _ _ _ (heap_alloc_new w _)
theorem alloc_st_old (w : World) (f : Nat → Bool) {b : Nat} {o : Obj} (h : w.heap[b]? = some o) : ((w.alloc (.cells Tryz.zeroCells257 257)).setRow w.heap.size (boolA 127 f)).heap[b]? = some o := by
 have := blk_lt' h
 rw [setRow_other _ _ _ _ (by omega)]
 exact (heap_alloc_old _ _ this).trans h
theorem alloc_st_grown {WA w : World} {row : Option Nat} (f : Nat → Bool) (h : WA.grownBy w row) : WA.grownBy ((w.alloc (.cells Tryz.zeroCells257 257)).setRow w.heap.size (boolA 127 f)) row :=
 grown_far (grown_tr h (World.grownBy_alloc _ _ _)) (grown_setRow _ _ _) (fun j e => by cases e; exact Or.inl h.size)
theorem inRs_low {rs : List (UInt8 × UInt8)} (h : ∀ x ∈ rs, 32 ≤ x.1.toNat) (c : Nat) (hc : c < 32) : inRs rs c = false := by
 unfold inRs
 rw [List.any_eq_false]
 intro x hx
 have := h x hx
 simp
 omega
attribute [local go_sem ↓] ld_set st_set bd_set'
set_option maxRecDepth 100000 in
set_option maxHeartbeats 4000000 in
theorem PSet_any (p : ByteArray) (i g : Nat) (w : World) (hp : p.size ≤ 256) (hpr : printS (L p) = true) (hi : i ≤ p.size) (hg : w.heap[g]? = some (rdr p i)) :
 Calls Tryz.prog 222 #[.pointer (some ⟨g, 0, none⟩)] w (PSetPost p g ((L p).drop i) w) := by
 have hglt := blk_lt' hg
 obtain ⟨no, ft, hft, hcase, hset⟩ : ∃ no ft, (ft ≤ p.size) ∧ (no = decide (((L p).drop i).head? = some 33) ∧ ft = if no then i + 1 else i) ∧ setS ((L p).drop i) = setQ no ((L p).drop ft) := by
  by_cases h : ((L p).drop i).head? = some 33
  · have hi' : i < p.size := by
     rcases Nat.lt_or_ge i p.size with h' | h'
     · exact h'
     · rw [List.drop_eq_nil_of_le (by rw [len_L]; exact h')] at h; simp at h
    refine ⟨true, i + 1, hi', ⟨by rw [decide_eq_true h], rfl⟩, ?_⟩
    rw [setS, if_pos h, List.drop_drop]
  · exact ⟨false, i, hi, ⟨by rw [decide_eq_false h], rfl⟩, by rw [setS, if_neg h]⟩
 obtain ⟨q, hq⟩ : ∃ q, p.extract i p.size = q := ⟨_, rfl⟩
 have hL : L q = (L p).drop i := by rw [← hq, L_extract, List.take_of_length_le (by rw [len_L]; exact Nat.le_refl _)]
 have hHP := fun W => hp_q q 33 W
 rw [hL, ← hcase.1] at hHP
 have HHP := Lib.hid hHP
 have HS := Lib.hid hset
 have HP := Lib.hid hpr
 have HFt := Lib.hid hcase.2
 obtain ⟨WA, hWA⟩ : ∃ WA, w.alloc (.cells (boolA 127 (fun _ => false)) 257) = WA := ⟨_, rfl⟩
 have hA0 : WA.heap[w.heap.size]? = some (.cells (boolA 127 (fun _ => false)) 257 (0, 0)) := by rw [← hWA]; exact heap_alloc_new _ _
 have hAg : WA.heap[g]? = some (rdr p i) := by rw [← hWA]; exact (heap_alloc_old _ _ hglt).trans hg
 have hAs : WA.heap.size = w.heap.size + 1 := by rw [← hWA]; simp
 have hAb : Below w.heap.size w WA := by rw [← hWA]; exact below_alloc _ _
 obtain ⟨WB, hWB⟩ : ∃ WB, WA.alloc (.cells (boolA 127 (inRs [])) 257) = WB := ⟨_, rfl⟩
 have hB1 : WB.heap[w.heap.size + 1]? = some (.cells (boolA 127 (inRs [])) 257 (0, 0)) := by rw [← hWB, ← hAs]; exact heap_alloc_new _ _
 have hBg : WB.heap[g]? = some (rdr p i) := by rw [← hWB]; exact (heap_alloc_old _ _ (blk_lt' hAg)).trans hAg
 have hgb : WA.grownBy WB (some g) := by rw [← hWB]; exact World.grownBy_alloc _ _ _
 have c0 := cellOf (j := 0) (u := .string p) hBg rfl
 have c1 := cellOf (j := 1) (u := .int .i64 i) hBg rfl
 have f1 := frozen_of_row _ _ 1 _ _ hBg
 have hiI : (i : Int) ≤ (p.size : Int) := by omega
 have hfalse : boolA 127 (fun _ => false) = boolA 127 (inRs []) := boolA_congr (fun c _ => rfl)
 have HA0 := Lib.hid hA0
 have HAb := Lib.hid hAb
 have HAs := Lib.hid hAs
 have HB1 := Lib.hid hB1
 have HBg := Lib.hid hBg
 have HGb := Lib.hid hgb
 have HWA := Lib.hid hWA
 have HWB := Lib.hid hWB
 clear hpr hset hcase hL hHP hA0 hAs hAb hWB hWA hB1 hBg hgb hAg hg
 go_enter Tryz.func222, Tryz.ntmps222
 go_upto_region 2 with fail
 rw [zeroSet, HWA.out]
 rw [hfalse, HWB.out]
 go_quiet (first | (go_at_call 48; exact Calls.quiet_of_same (HHP.out _)))
 go_upto_if 19 with fail
 go_cut [5] from 20 to 26 (fun s5 wx => s5 = .bool no ∧ Hid (WA.grownBy wx (some g)) ∧ Hid (wx.heap[g]? = some (rdr p (ft : Nat))) ∧ Hid (wx.heap[w.heap.size + 1]? = some (.cells (boolA 127 (inRs [])) 257 (0, 0))))
 case first =>
  have hne : g ≠ w.heap.size + 1 := by omega
  cases no
  · have hfe := HFt.out
    simp only [Bool.false_eq_true, if_false] at hfe
    subst hfe
    go_wp2
    go_meet
    exact ⟨rfl, grown_tr HGb.out (grown_drewN _ _ _), HBg.out, HB1.out⟩
  · have hfe := HFt.out
    simp only [if_true] at hfe
    subst hfe
    go_wp2
    go_meet
    exact ⟨rfl, grown_tr (grown_tr HGb.out (grown_drewN _ _ _)) (grown_set _ _ _ _), by rw [show ((i + 1 : Nat) : Int) = (i : Int) + 1 from by omega]; exact rd_set HBg.out, rd_other HB1.out hne⟩
 case rest =>
 obtain ⟨rfl, HGc, HRc, HBc⟩ := hcut
 clear HB1 HBg HGb HWB HHP HFt c0 c1 f1 hq
 have c1 := cellOf (j := 1) (u := .int .i64 (ft : Nat)) HRc.out rfl
 have hne : g ≠ w.heap.size + 1 := by omega
 have hbs : WA.heap.size ≤ w.heap.size + 1 := by rw [HAs.out]; exact Nat.le_refl _
 go_wp2
 clear c1
 go_loopg [3] (p.size + 2) (fun gk s3 wr => ∃ (j : Nat) (rs : List (UInt8 × UInt8)), s3 = .bool false ∧ ft ≤ j ∧ j ≤ p.size ∧ j + gk = ft + (p.size + 2) ∧ Hid (WA.grownBy wr (some g)) ∧ Hid (wr.heap[g]? = some (rdr p (j : Nat))) ∧ Hid (wr.heap[w.heap.size + 1]? = some (.cells (boolA 127 (inRs rs)) 257 (0, 0))) ∧ Hid (membersK ((L p).drop ft) = (membersK ((L p).drop j)).map (fun x => (rs ++ x.1, x.2))) ∧ Hid (∀ x ∈ rs, 32 ≤ x.1.toNat) ∧ Hid (ft < j → ((L p).drop ft).head? ≠ some 93))
 case atStart => exact ⟨ft, [], rfl, Nat.le_refl _, hft, rfl, HGc.out, HRc.out, HBc.out, (by show _ = _; cases membersK ((L p).drop ft) <;> rfl), (fun x hx => by cases hx), fun h => absurd h (Nat.lt_irrefl _)⟩
 case round =>
  obtain ⟨j, rs, rfl, hj1, hj2, hjg, hG, hR, hB, hm, hlo, hhd⟩ := hrel
  obtain ⟨q, hq⟩ : ∃ q, p.extract j p.size = q := ⟨_, rfl⟩
  have hL : L q = (L p).drop j := by rw [← hq, L_extract, List.take_of_length_le (by rw [len_L]; exact Nat.le_refl _)]
  have hHP := fun W => hp_q q 93 W
  rw [hL] at hHP
  have c0 := cellOf (j := 0) (u := .string p) hR.out rfl
  have c1 := cellOf (j := 1) (u := .int .i64 (j : Nat)) hR.out rfl
  have f1 := frozen_of_row _ _ 1 _ _ hR.out
  have hjI : (j : Int) ≤ (p.size : Int) := by omega
  clear hL
  by_cases hx : ft < j ∧ ((L p).drop j).head? = some 93
  · obtain ⟨hfj, h93⟩ := hx
    rw [decide_eq_true h93] at hHP
    have HHP := Lib.hid hHP
    have ejf : ((j : Int) == (ft : Int)) = false := by rw [beq_eq_false_iff_ne]; omega
    have hjp : j < p.size := by
     rcases Nat.lt_or_ge j p.size with h | h
     · exact h
     · rw [List.drop_eq_nil_of_le (by rw [len_L]; exact h)] at h93; simp at h93
    have hend : setQ no ((L p).drop ft) = some (.set no rs, (L p).drop (j + 1)) := by
     refine setQ_some ?_ (hhd.out hfj)
     rw [hm.out, drop_cons p j hjp]
     rw [drop_cons p j hjp] at h93
     rw [show p[j] = 93 by simpa using h93, membersK_end]
     simp
    have HE := Lib.hid hend
    clear hHP h93 hend hm hhd
    go_wp2
    go_quiet (first | (go_at_call 48; exact Calls.quiet_of_same (HHP.out _)))
    go_upto_if 73 with fail
    go_cut [7, 8] from 74 to 90 (fun _ _ wx => Hid (WA.grownBy wx (some g)) ∧ Hid (wx.heap[g]? = some (rdr p ((j : Int) + 1))) ∧ Hid (wx.heap[w.heap.size + 1]? = some (.cells (boolA 127 (El.has (.set no rs))) 257 (0, 0))))
    case first =>
     obtain ⟨W1, hW1⟩ : ∃ W1, (wr.drewN nq).setCell ⟨g, 1, none⟩ (.int .i64 ((j : Int) + 1)) = W1 := ⟨_, rfl⟩
     rw [hW1]
     have hG1 : WA.grownBy W1 (some g) := by rw [← hW1]; exact grown_tr (grown_tr hG.out (grown_drewN _ _ _)) (grown_set _ _ _ _)
     have hR1 : W1.heap[g]? = some (rdr p ((j : Int) + 1)) := by rw [← hW1]; exact rd_set hR.out
     have hB1 : W1.heap[w.heap.size + 1]? = some (.cells (boolA 127 (inRs rs)) 257 (0, 0)) := by rw [← hW1]; exact rd_other hB.out hne
     have HG1 := Lib.hid hG1
     have HR1 := Lib.hid hR1
     have HB1 := Lib.hid hB1
     clear hW1 hG1 hR1 hB1 hG hR hB c0 c1 f1 hq
     cases no
     · go_wp2
       go_meet
       exact ⟨HG1.out, HR1.out, HB1.out⟩
     · go_wp2_with (go_at_call 221; refine (every_any _).mono ?_; rintro e w2 ⟨rfl, hb2⟩; have hst := alloc_st w2 allB; have HB2 := Lib.hid hb2; clear hb2)
       have HG2 := Lib.hid (alloc_st_grown allB (grown_tr HG1.out (grown_below HB2.out _)))
       have HR2 := Lib.hid (alloc_st_old w2 allB ((HB2.out.block g (blk_lt' HR1.out)).trans HR1.out))
       have HBb := Lib.hid (alloc_st_old w2 allB ((HB2.out.block _ (blk_lt' HB1.out)).trans HB1.out))
       have HAll := Lib.hid (alloc_st_at w2 allB)
       have hGlt : w.heap.size + 1 < w2.heap.size := Nat.lt_of_lt_of_le (blk_lt' HB1.out) HB2.out.size
       have hGg : g < w2.heap.size := Nat.lt_of_lt_of_le (blk_lt' HR1.out) HB2.out.size
       have hfe : (fun c => if 32 ≤ c ∧ c < 32 then !inRs rs c else inRs rs c) = inRs rs := by funext c; rw [if_neg (by omega)]
       clear hst HG1 HR1 HB1
       go_wp2
       obtain ⟨gko, rfl⟩ : ∃ gko : Nat, gko = gk := ⟨_, rfl⟩
       obtain ⟨wo, rfl⟩ : ∃ wo : World, wo = wr := ⟨_, rfl⟩
       go_loopg [7, 8] 97 (fun gk s7 s8 wr => ∃ (k G : Nat), s7 = .int .i64 k ∧ s8 = .pointer (some ⟨G, 0, none⟩) ∧ 32 ≤ k ∧ k ≤ 127 ∧ k + gk = 129 ∧ w.heap.size + 1 < G ∧ g < G ∧ Hid (WA.grownBy wr (some g)) ∧ Hid (wr.heap[g]? = some (rdr p ((j : Int) + 1))) ∧ Hid (wr.heap[w.heap.size + 1]? = some (.cells (boolA 127 (fun c => if 32 ≤ c ∧ c < k then !inRs rs c else inRs rs c)) 257 (0, 0))) ∧ Hid (wr.heap[G]? = some (.cells (boolA 127 allB) 257 (0, 0))))
       case atStart => exact ⟨32, w2.heap.size, rfl, rfl, Nat.le_refl _, by omega, rfl, hGlt, hGg, HG2.out, HR2.out, by show _ = _; rw [hfe]; exact HBb.out, HAll.out⟩
       case round =>
        obtain ⟨k, G, rfl, rfl, hk1, hk2, hkg, hGB, hGg, hG, hR, hB, hA⟩ := hrel
        by_cases hk : k ≤ 126
        · have hkI : (k : Int) ≤ 126 := by omega
          have cA := cellOf hA.out (boolA_get 127 allB k (by omega))
          rw [show allB k = true from by simp [allB]; omega] at cA
          have cB := cellOf hB.out (boolA_get 127 _ k (by omega))
          rw [if_neg (by omega)] at cB
          have fB := frozen_of_row _ _ k _ _ hB.out
          have hset := boolA_set 127 (fun c => if 32 ≤ c ∧ c < k then !inRs rs c else inRs rs c) k (!inRs rs k)
          have ef : (fun d => if d = k then !inRs rs k else if 32 ≤ d ∧ d < k then !inRs rs d else inRs rs d) = (fun c => if 32 ≤ c ∧ c < k + 1 then !inRs rs c else inRs rs c) := by
           funext d
           by_cases hd : d = k
           · subst hd; rw [if_pos rfl, if_pos (by omega)]
           · rw [if_neg hd]
             by_cases h : 32 ≤ d ∧ d < k
             · rw [if_pos h, if_pos (by omega)]
             · rw [if_neg h, if_neg (by omega)]
          rw [ef] at hset
          have hB2 := setCell_known hB.out hset
          have hA2 := rd_other (g := w.heap.size + 1) (u := .bool (!inRs rs k)) (i := k) hA.out (by omega)
          have hR2 := rd_other (g := w.heap.size + 1) (u := .bool (!inRs rs k)) (i := k) hR.out (fun e => hne e.symm)
          have hG2 := grown_far hG.out (grown_set wr (w.heap.size + 1) k (.bool (!inRs rs k))) (fun j e => by cases e; exact Or.inl hbs)
          have hl := ldSet_at hA2 (size_boolA _ _)
          have hst := alloc_st (wr.setCell ⟨w.heap.size + 1, k, none⟩ (.bool (!inRs rs k))) allB
          have HG2 := Lib.hid (alloc_st_grown allB hG2)
          have HR2 := Lib.hid (alloc_st_old _ allB hR2)
          have HB2 := Lib.hid (alloc_st_old _ allB hB2)
          have HAll := Lib.hid (alloc_st_at (wr.setCell ⟨w.heap.size + 1, k, none⟩ (.bool (!inRs rs k))) allB)
          have hlt1 := blk_lt' hB.out
          have hlt2 := blk_lt' hR.out
          have hsz : (wr.setCell ⟨w.heap.size + 1, k, none⟩ (.bool (!inRs rs k))).heap.size = wr.heap.size := by simp [World.setCell]
          rw [hsz] at hst HG2 HR2 HB2 HAll
          clear hset ef hB2 hA2 hR2 hG2 hG hR hB hA hsz
          go_wp2
          go_roundg (gk - 1)
          case measure => omega
          case rel => exact ⟨k + 1, wr.heap.size, by go_num, rfl, by omega, by omega, by omega, hlt1, hlt2, HG2.out, HR2.out, HB2.out, HAll.out⟩
        · obtain rfl : k = 127 := by omega
          have e : boolA 127 (fun c => if 32 ≤ c ∧ c < 127 then !inRs rs c else inRs rs c) = boolA 127 (El.has (.set true rs)) := boolA_congr fun c hc => by
           show _ = (decide (32 ≤ c) && decide (c ≤ 126) && !inRs rs c)
           by_cases h : 32 ≤ c
           · rw [if_pos ⟨h, hc⟩]
             have h2 : c ≤ 126 := by omega
             simp [h, h2]
           · rw [if_neg (fun x => h x.1), inRs_low hlo.out c (by omega)]
             simp [h]
          rw [e] at hB
          clear e
          go_wp2
          go_meet
          exact ⟨hG.out, hR.out, hB.out⟩
    case rest =>
    obtain ⟨hG2, hR2, hB2⟩ := hcut
    have hl := ldSet_at hB2.out (size_boolA _ _)
    have h0 : wc.heap[w.heap.size]? = some (.cells (boolA 127 (fun _ => false)) 257 (0, 0)) := (hG2.out.block _ (by rw [HAs.out]; omega) (by intro e; have := Option.some.inj e; omega)).trans HA0.out
    have hs := stSet_at h0 (size_boolA _ _) (size_boolA 127 (El.has (.set no rs))) (boolA_one 127 _)
    have H0 := Lib.hid h0
    clear hG hR hB c0 c1 f1 hq h0
    go_wp2
    refine post_cellrow2 rfl (by rfl) (by rfl) (setRow_heap _ _ _ _ _ _ H0.out) Tryz.underlying257 rfl (by rw [size_boolA]; exact setSize) (by rfl) ?_
    unfold PSetPost
    rw [HS.out, HE.out]
    refine ⟨grown_far (grown_tr (grown_below HAb.out _) hG2.out) (grown_setRow _ _ _) (fun k e => by cases e; exact Or.inl (Nat.le_refl _)), rfl, ?_⟩
    rw [setRow_other _ _ _ _ (by omega), hR2.out]
    congr 2
    simp only [List.length_drop, len_L]
    omega
  · go_upto_region 6 with fail
    go_cut [49] from 31 to 49 (fun s49 wx => s49 = .bool true ∧ Hid (WA.grownBy wx (some g)) ∧ Hid (wx.heap[g]? = some (rdr p (j : Nat))) ∧ Hid (wx.heap[w.heap.size + 1]? = some (.cells (boolA 127 (inRs rs)) 257 (0, 0))))
    case first =>
     by_cases hjf : j = ft
     · subst hjf
       clear hHP hx
       go_quiet (fail)
       go_wp2
       go_meet
       exact ⟨rfl, grown_tr hG.out (grown_drewN _ _ _), hR.out, hB.out⟩
     · have ejf : ((j : Int) == (ft : Int)) = false := by rw [beq_eq_false_iff_ne]; omega
       rw [decide_eq_false (fun h => hx ⟨by omega, h⟩)] at hHP
       have HHP := Lib.hid hHP
       clear hHP hx
       go_quiet (first | (go_at_call 48; exact Calls.quiet_of_same (HHP.out _)))
       go_wp2
       go_meet
       exact ⟨rfl, grown_tr hG.out (grown_drewN _ _ _), hR.out, hB.out⟩
    case rest =>
    obtain ⟨rfl, hG2, hR2, hB2⟩ := hcut
    clear hG hR hB
    have hjl : ft < j → ((L p).drop j).head? ≠ some 93 := fun h h2 => hx ⟨h, h2⟩
    have HJl := Lib.hid hjl
    have d0 := cellOf (j := 0) (u := .string p) hR2.out rfl
    have d1 := cellOf (j := 1) (u := .int .i64 (j : Nat)) hR2.out rfl
    clear hjl hx c0 c1 f1
    go_upto_region 7 with fail
    go_cut [64] from 50 to 64 (fun s64 wx => Hid (WA.grownBy wx (some g)) ∧ (s64 = .bool true ∧ Hid (setQ no ((L p).drop ft) = none) ∨ s64 = .bool false ∧ ∃ (n : Nat) (x : UInt8 × UInt8), 1 ≤ n ∧ j + n ≤ p.size ∧ 32 ≤ x.1.toNat ∧ Hid (wx.heap[g]? = some (rdr p ((j + n : Nat) : Int))) ∧ Hid (wx.heap[w.heap.size + 1]? = some (.cells (boolA 127 (inRs (rs ++ [x]))) 257 (0, 0))) ∧ Hid (membersK ((L p).drop j) = (membersK ((L p).drop (j + n))).map (fun y => (x :: y.1, y.2))) ∧ Hid (((L p).drop j).head? ≠ some 93)))
    case first =>
     by_cases h93 : ((L p).drop j).head? = some 93
     · have hjf : j = ft := by
        rcases Nat.lt_or_ge ft j with h | h
        · exact absurd h93 (HJl.out h)
        · omega
       subst hjf
       rw [decide_eq_true h93] at hHP
       have HHP := Lib.hid hHP
       have HQ : Hid (setQ no ((L p).drop j) = none) := Lib.hid (by rw [setQ, if_pos h93])
       clear hHP h93 hm
       go_quiet (first | (go_at_call 48; exact Calls.quiet_of_same (HHP.out _)))
       go_wp2
       go_meet
       exact ⟨grown_tr hG2.out (grown_drewN _ _ _), Or.inl ⟨rfl, HQ.out⟩⟩
     · rw [decide_eq_false h93] at hHP
       have HHP := Lib.hid hHP
       have hmem := fun W h1 h2 => member_any p j g (w.heap.size + 1) rs W hp HP.out hj2 hne h1 h2
       unfold MemPost at hmem
       cases hms : memS ((L p).drop j) with
       | none =>
         rw [hms] at hmem
         have HMem := Lib.hid hmem
         have HQ : Hid (setQ no ((L p).drop ft) = none) := Lib.hid (setQ_bad (by
          rw [hm.out]
          rcases Nat.lt_or_ge j p.size with hjp | hjp
          · rw [drop_cons p j hjp] at h93 hms ⊢
            rw [mem_none hms (by simpa using h93)]; rfl
          · rw [List.drop_eq_nil_of_le (by rw [len_L]; exact hjp), membersK_nil]; rfl))
         clear hmem hHP h93 hms hm
         go_region_with (first
          | (go_at_call 48; refine (HHP.out _).mono ?_; rintro e w3 ⟨rfl, rfl⟩)
          | (go_at_call 244; refine (HMem.out _ (by exact hR2.out) (by exact hB2.out)).mono ?_; rintro e w4 ⟨hk4, rfl⟩))
         all_goals
          go_wp2
          go_meet
          exact ⟨hk4 WA (grown_tr hG2.out ⟨rfl, rfl, rfl, Nat.le_refl _, fun _ _ _ => rfl⟩) hbs, Or.inl ⟨rfl, HQ.out⟩⟩
       | some y =>
         obtain ⟨x, n⟩ := y
         rw [hms] at hmem
         dsimp only at hmem
         have hjp : j < p.size := by
          rcases Nat.lt_or_ge j p.size with h | h
          · exact h
          · rw [List.drop_eq_nil_of_le (by rw [len_L]; exact h)] at hms; cases hms
         have hms2 := hms
         have h932 := h93
         rw [drop_cons p j hjp] at hms2 h932
         obtain ⟨e1, e2, hn1, hn2⟩ := mem_some hms2 (by simpa using h932)
         have hpj := pr_of HP.out j hjp
         have hn3 : j + n ≤ p.size := by
          rcases hn2 with rfl | ⟨b, hb, rfl⟩
          · omega
          · obtain ⟨_, h2, _⟩ := rng_some hb
            omega
         have HM2 : Hid (membersK ((L p).drop j) = (membersK ((L p).drop (j + n))).map (fun y => (x :: y.1, y.2))) := Lib.hid (by
          rw [drop_cons p j hjp, e2, ← drop_cons p j hjp, List.drop_drop])
         have hx32 : 32 ≤ x.1.toNat := by rw [e1]; omega
         have H93 := Lib.hid h93
         have HMem := Lib.hid hmem
         clear hmem hHP h93 hms hms2 h932 e1 e2 hn2 hm hpj
         go_region_with (first
          | (go_at_call 48; refine (HHP.out _).mono ?_; rintro e w3 ⟨rfl, rfl⟩)
          | (go_at_call 244; refine (HMem.out _ (by exact hR2.out) (by exact hB2.out)).mono ?_; rintro e w4 ⟨hk4, rfl, hr4, hb4⟩; have HR4 := Lib.hid hr4; have HB4 := Lib.hid hb4; clear hr4 hb4))
         all_goals
          go_wp2
          go_meet
          exact ⟨hk4 WA (grown_tr hG2.out ⟨rfl, rfl, rfl, Nat.le_refl _, fun _ _ _ => rfl⟩) hbs, Or.inr ⟨rfl, n, x, hn1, hn3, hx32, HR4.out, HB4.out, HM2.out, H93.out⟩⟩
    case rest =>
    obtain ⟨hG3, h64⟩ := hcut
    clear hHP HJl d0 d1 hR2 hB2 hG2
    rcases h64 with ⟨rfl, HQ⟩ | ⟨rfl, n, x, hn1, hn3, hx32, hR4, hB4, hm4, h93⟩
    · have hbd := bdSet_none wc
      have h0 : wc.heap[w.heap.size]? = some (.cells (boolA 127 (fun _ => false)) 257 (0, 0)) := (hG3.out.block _ (by rw [HAs.out]; omega) (by intro e; have := Option.some.inj e; omega)).trans HA0.out
      have hs := stSet_at h0 (size_boolA _ _) (size_boolA 127 (inRs [])) (boolA_one 127 _)
      have H0 := Lib.hid h0
      clear h0
      go_wp2
      refine post_cellrow2 rfl (by rfl) (by rfl) (setRow_heap _ _ _ _ _ _ H0.out) Tryz.underlying257 rfl (by rw [size_boolA]; exact setSize) (by rfl) ?_
      unfold PSetPost
      rw [HS.out, HQ.out]
      exact ⟨grown_far (grown_tr (grown_below HAb.out _) hG3.out) (grown_setRow _ _ _) (fun k e => by cases e; exact Or.inl (Nat.le_refl _)), by rw [hfalse]; rfl⟩
    · have HM5 : Hid (membersK ((L p).drop ft) = (membersK ((L p).drop (j + n))).map (fun y => ((rs ++ [x]) ++ y.1, y.2))) := Lib.hid (by
       rw [hm.out, hm4.out, Option.map_map]
       congr 1
       funext y
       simp)
      have HLo : Hid (∀ y ∈ rs ++ [x], 32 ≤ y.1.toNat) := Lib.hid fun y hy => by
       rcases List.mem_append.1 hy with hy | hy
       · exact hlo.out y hy
       · obtain rfl := List.mem_singleton.1 hy; exact hx32
      have HHd : Hid (ft < j + n → ((L p).drop ft).head? ≠ some 93) := Lib.hid fun _ => by
       rcases Nat.lt_or_ge ft j with h | h
       · exact hhd.out h
       · have : ft = j := by omega
         rw [this]; exact h93.out
      clear hm hm4 hlo hhd h93
      go_wp2
      go_roundg (gk - n)
      case measure => omega
      case rel => exact ⟨j + n, _, rfl, by omega, hn3, by omega, hG3.out, hR4.out, hB4.out, HM5.out, HLo.out, HHd.out⟩
end Go.Proofs.YtibflgfhjfcifaaGreatDoor
namespace Go.Proofs.YtibflgfhjfcifaaGreatDoor
open Go.RowKit
def encEP (x : El) : List Value := (elP x.litN x.isStar x.has).toList
abbrev AltsP := NstV (α := El) 263 259 129 encEP
def PAltPost (p : ByteArray) (g : Nat) (w : World) (e : Ending) (w' : World) : Prop := w.grownBy w' (some g) ∧
 match globP (L p) with
 | none => e = .returned (.tuple #[.slice none 0 0, .bool false])
 | some alts => ∃ v, e = .returned (.tuple #[v, .bool true]) ∧ Nst 263 259 129 encEP w' w.heap.size v alts
theorem el_st (w : World) (n : Nat) (st : Bool) (f : Nat → Bool) : (stElP (.pointer (some ⟨w.heap.size, 0, none⟩)) (.agg (elP n st f))).run Tryz.prog (w.alloc (.cells Tryz.zeroCells259 259)) = .ok () ((w.alloc (.cells Tryz.zeroCells259 259)).setRow w.heap.size (elP n st f)) :=
 stElP_at (heap_alloc_new w _) (by rw [zeroElP, size_elP]) (size_elP _ _ _) (elP_one _ _ _)
theorem el_st_at (w : World) (n : Nat) (st : Bool) (f : Nat → Bool) : ((w.alloc (.cells Tryz.zeroCells259 259)).setRow w.heap.size (elP n st f)).heap[w.heap.size]? = some (.cells (elP n st f) 259 (0, 0)) := setRow_heap _ _ _ _ _ _ (heap_alloc_new w _)
theorem el_st_below (w : World) (n : Nat) (st : Bool) (f : Nat → Bool) : Below w.heap.size w ((w.alloc (.cells Tryz.zeroCells259 259)).setRow w.heap.size (elP n st f)) :=
 (below_alloc w _).grown (grown_setRow _ _ _) (by simp) (fun j e => by cases e; exact Nat.le_refl _)
attribute [local go_sem ↓] ld_set st_set bd_set' ld_elP st_elP bd_elP bs_elP
theorem lt_self2 (a : Int) : (a < a + 1) = True := eq_true (by omega)
attribute [local go_sem] lt_self2
set_option maxRecDepth 100000 in
set_option maxHeartbeats 8000000 in
theorem PAlts_any (p : ByteArray) (g : Nat) (w : World) (hp : p.size ≤ 256) (hpr : printS (L p) = true) (hg : w.heap[g]? = some (rdr p 0)) :
 Calls Tryz.prog 198 #[.pointer (some ⟨g, 0, none⟩)] w (PAltPost p g w) := by
 have hglt := blk_lt' hg
 have HP := Lib.hid hpr
 have HR0 : Hid ((w.alloc (.cells #[.slice none 0 0] 263)).heap[g]? = some (rdr p 0)) := Lib.hid ((heap_alloc_old _ _ hglt).trans hg)
 have HGl : Hid (globP (L p) = globK (L p) [] []) := Lib.hid rfl
 clear hpr hg
 go_enter Tryz.func198, Tryz.ntmps198
 go_wp2
 go_loopg [2, 3, 4, 5, 6, 7, 8] (p.size + 1) (fun gk s2 s3 s4 _ _ _ _ wr => ∃ (i c go : Nat) (us : List Value) (x : Value) (ms : List (List El)) (cur : List El), s2 = .slice none 0 0 ∧ s3 = .bool false ∧ s4 = .slice (some ⟨go, 0, none⟩) (us.length + 1) c ∧ i + gk = p.size + 1 ∧ i ≤ p.size ∧ us.length + cur.length ≤ i ∧
  Hid (AltsP wr w.heap.size (.slice (some ⟨go, 0, none⟩) (us.length + 1) c) (us ++ [x]) (ms ++ [cur])) ∧ Hid (w.grownBy wr (some g)) ∧ Hid (wr.heap[g]? = some (rdr p (i : Nat))) ∧ Hid (globK (L p) [] [] = globK ((L p).drop i) ms cur))
 case atStart => exact ⟨0, 1, w.heap.size, [], .slice none 0 0, [], [], rfl, rfl, rfl, by omega, Nat.zero_le _, Nat.le_refl _, NstV.first (Nat.le_refl _), World.grownBy_alloc _ _ _, HR0.out, rfl⟩
 case round =>
  obtain ⟨i, c, go, us, x, ms, cur, rfl, rfl, rfl, hig, hi, hul, hN, hG, hR, hK⟩ := hrel
  have c0 := cellOf (j := 0) (u := .string p) hR.out rfl
  have c1 := cellOf (j := 1) (u := .int .i64 (i : Nat)) hR.out rfl
  have f1 := frozen_of_row _ _ 1 _ _ hR.out
  by_cases hlt0 : i < p.size
  · have hlt : (i : Int) < (p.size : Int) := by omega
    have hp127 := printS_drop HP.out i hlt0
    have hdr := drop_cons p i hlt0
    go_upto_region 3 with (go_quiet (fail))
    go_cut [5] from 20 to 28 (fun s5 wx => s5 = .int .u8 (p[i].toNat : Int) ∧ Hid (AltsP wx w.heap.size (.slice (some ⟨go, 0, none⟩) (us.length + 1) c) (us ++ [x]) (ms ++ [cur])) ∧ Hid (w.grownBy wx (some g)) ∧ Hid (wx.heap[g]? = some (rdr p (i : Nat))))
    case first =>
     go_quiet (fail)
     go_wp2
     go_meet
     exact ⟨rfl, hN.out.below (below_drewN (below_drewN (Below.refl _ _) _) _), grown_tr (grown_tr hG.out (grown_drewN _ _ _)) (grown_drewN _ _ _), hR.out⟩
    case rest =>
    obtain ⟨rfl, hN2, hG2, hR2⟩ := hcut
    clear hN hG hR c0 c1 f1
    have c1 := cellOf (j := 1) (u := .int .i64 (i : Nat)) hR2.out rfl
    have f1 := frozen_of_row _ _ 1 _ _ hR2.out
    obtain ⟨W1, hW1⟩ : ∃ W1, wc.setCell ⟨g, 1, none⟩ (.int .i64 ((i : Int) + 1)) = W1 := ⟨_, rfl⟩
    have hR3 : W1.heap[g]? = some (rdr p ((i : Int) + 1)) := by rw [← hW1]; exact rd_set hR2.out
    have hG3 : w.grownBy W1 (some g) := by rw [← hW1]; exact grown_tr hG2.out (grown_set _ _ _ _)
    have hN3 : AltsP W1 w.heap.size (.slice (some ⟨go, 0, none⟩) (us.length + 1) c) (us ++ [x]) (ms ++ [cur]) := by rw [← hW1]; exact hN2.out.other (grown_set _ _ _ _) (fun k e => by cases e; exact Or.inl hglt)
    have hs1 : W1.heap.size = wc.heap.size := by rw [← hW1]; simp [World.setCell]
    have hst := el_st W1 p[i].toNat false (fun _ => false)
    have hbd := bdElP_lit p[i].toNat W1
    obtain ⟨W2, hW2⟩ : ∃ W2, (W1.alloc (.cells Tryz.zeroCells259 259)).setRow W1.heap.size (elP p[i].toNat false (fun _ => false)) = W2 := ⟨_, rfl⟩
    have hb2 : Below W1.heap.size W1 W2 := by rw [← hW2]; exact el_st_below _ _ _ _
    have hE2 : W2.heap[W1.heap.size]? = some (.cells (elP p[i].toNat false (fun _ => false)) 259 (0, 0)) := by rw [← hW2]; exact el_st_at _ _ _ _
    rw [hW2] at hst
    have HR := Lib.hid ((hb2.block g (blk_lt' hR3)).trans hR3)
    have HG := Lib.hid (grown_tr hG3 (grown_below hb2 _))
    have HN := Lib.hid (hN3.below hb2)
    have HF := Lib.hid (hN3.fresh (Nat.le_refl W1.heap.size))
    have hEb : w.heap.size ≤ W1.heap.size := hG3.size
    have hgE : g < W1.heap.size := blk_lt' hR3
    rw [hs1] at hst hE2 HF hEb hgE
    have HE2 := Lib.hid hE2
    have HW1 := Lib.hid hW1
    clear hN2 hG2 hR2 hR3 hG3 hN3 hE2 hb2 hW2
    go_upto_block 2 with fail
    clear hW1 HW1
    generalize wc.heap.size = E at *
    clear hs1
    by_cases h124 : p[i] = 124
    · have e124 : ((p[i].toNat : Int) == 124) = true := by rw [h124]; rfl
      have hK2 := hK.out
      rw [hdr, h124, globK_bar] at hK2
      have HK := Lib.hid hK2
      have ho := HN.out.outer
      rw [List.length_append, List.length_singleton] at ho
      have HO := Lib.hid ho
      obtain ⟨i1, hi0, hz0, hz1, hz2⟩ := info_parts slPInfo
      have Hi0 := Lib.hid hi0
      have Hz0 := Lib.hid hz0
      have Hz1 := Lib.hid hz1
      have Hz2 := Lib.hid hz2
      have hws := HG.out.size
      have hgr := HR.out
      have hgl2 := blk_lt' hgr
      clear hK hK2 ho hi0 hz0 hz1 hz2 h124 hdr HE2 HF hst hbd hgr
      go_wp2_with (refine wpList_append_lies _ rfl _ _ _ (by rfl) w.heap.size 263 i1 _ 1 24 Tryz.underlying208 Hi0.out Hz0.out Hz1.out Hz2.out rfl (by omega) (.slice (some ⟨go, 0, none⟩) (us.length + 1) c) (us.length + 1) (us ++ [x]) (by rfl) (own_below HO.out (by go_grown)) _ 1 1 [.slice none 0 0] (by rfl) (by rfl) (by exact World.news_of_block (B := W2.heap.size) (heap_alloc_new _ _)) (by simp [Value.oneCell']) (by omega) (by unfold maxLen; omega) (by omega) (by simp; omega) _ rfl ?_; intro g2 cap w2 hown2 hgrow2 hat2 hlt2)
      have HN3 := Lib.hid ((HN.out.below (below_alloc _ _)).pushNil (A := some ⟨g2, 0, none⟩) (c := cap) rfl (by simpa using hown2) hgrow2 hat2)
      have HG3 := Lib.hid (grown_far (grown_tr HG.out (World.grownBy_alloc _ _ _)) hgrow2 (fun k hk => Or.inl (HO.out.lt k hk).1))
      have HR3 := Lib.hid ((hgrow2.block g (by simp; omega) (fun e => by have := (HO.out.lt g e.symm).1; omega)).trans ((heap_alloc_old _ _ hgl2).trans HR.out))
      clear hown2 hgrow2 hat2
      go_wp2
      go_roundg (gk - 1)
      case measure => omega
      case rel => exact ⟨i + 1, cap, g2, us ++ [x], .slice none 0 0, ms ++ [cur], [], rfl, rfl, by simp, by omega, by omega, by simp; omega, HN3.out, HG3.out, HR3.out, HK.out⟩
    · have e124 : ((p[i].toNat : Int) == 124) = false := by
       rw [beq_eq_false_iff_ne]; intro e; exact h124 (UInt8.toNat_inj.1 (Int.ofNat.inj e))
      go_cut [2, 3, 4, 7, 8] from 42 to 65 (fun s2 s3 s4 _ _ wx => s2 = .slice none 0 0 ∧ s3 = .bool false ∧ s4 = .slice (some ⟨go, 0, none⟩) (us.length + 1) c ∧ ∃ (j : Nat) (e : El), i + 1 ≤ j ∧ j ≤ p.size ∧ Hid (elS p[i] ((L p).drop (i + 1)) = some (e, (L p).drop j)) ∧ Hid (wx.heap[g]? = some (rdr p (j : Nat))) ∧ Hid (wx.heap[E]? = some (.cells (elP e.litN e.isStar e.has) 259 (0, 0))) ∧
       Hid (AltsP wx w.heap.size (.slice (some ⟨go, 0, none⟩) (us.length + 1) c) (us ++ [x]) (ms ++ [cur])) ∧ Hid (w.grownBy wx (some g)))
      case first =>
       have c5 := cellOf HE2.out (elP_get _ _ _ p[i].toNat (by omega))
       have f5 := frozen_of_row _ _ (2 + p[i].toNat) _ _ HE2.out
       by_cases h42 : p[i] = 42
       · have e42 : ((p[i].toNat : Int) == 42) = true := by rw [h42]; rfl
         have HEl : Hid (elS p[i] ((L p).drop (i + 1)) = some (.star, (L p).drop (i + 1))) := Lib.hid (by rw [h42]; rfl)
         clear h42 h124 hdr hst hbd
         go_wp2_with (go_at_call 221; refine (every_any _).mono ?_; rintro e w3 ⟨rfl, hb3⟩; have hbd := bdElP_star allB w3; have hE3 := (hb3.block _ (blk_lt' HE2.out)).trans HE2.out; have hst := stElP_at hE3 (size_elP _ _ _) (size_elP 0 true allB) (elP_one 0 true allB); have HB3 := Lib.hid hb3; have HE3 := Lib.hid hE3; clear hb3 hE3)
         go_meet
         exact ⟨rfl, rfl, rfl, i + 1, .star, Nat.le_refl _, hlt0, HEl.out, (by rw [setRow_other _ _ _ _ (by omega)]; exact (HB3.out.block g (blk_lt' HR.out)).trans HR.out), setRow_heap _ _ _ _ _ _ HE3.out, (HN.out.below HB3.out).beside (grown_setRow _ _ _) HF, grown_far (grown_tr HG.out (grown_below HB3.out _)) (grown_setRow _ _ _) (fun k e => by cases e; exact Or.inl hEb)⟩
       have e42 : ((p[i].toNat : Int) == 42) = false := by
        rw [beq_eq_false_iff_ne]; intro e; exact h42 (UInt8.toNat_inj.1 (Int.ofNat.inj e))
       by_cases h63 : p[i] = 63
       · have e63 : ((p[i].toNat : Int) == 63) = true := by rw [h63]; rfl
         have HEl : Hid (elS p[i] ((L p).drop (i + 1)) = some (.any, (L p).drop (i + 1))) := Lib.hid (by rw [h63]; rfl)
         clear h63 h42 h124 hdr hst hbd
         go_wp2_with (go_at_call 221; refine (every_any _).mono ?_; rintro e w3 ⟨rfl, hb3⟩; have hbd := bdElP_set allB w3; have hE3 := (hb3.block _ (blk_lt' HE2.out)).trans HE2.out; have hst := stElP_at hE3 (size_elP _ _ _) (size_elP 0 false allB) (elP_one 0 false allB); have HB3 := Lib.hid hb3; have HE3 := Lib.hid hE3; clear hb3 hE3)
         go_meet
         exact ⟨rfl, rfl, rfl, i + 1, .any, Nat.le_refl _, hlt0, HEl.out, (by rw [setRow_other _ _ _ _ (by omega)]; exact (HB3.out.block g (blk_lt' HR.out)).trans HR.out), setRow_heap _ _ _ _ _ _ HE3.out, (HN.out.below HB3.out).beside (grown_setRow _ _ _) HF, grown_far (grown_tr HG.out (grown_below HB3.out _)) (grown_setRow _ _ _) (fun k e => by cases e; exact Or.inl hEb)⟩
       have e63 : ((p[i].toNat : Int) == 63) = false := by
        rw [beq_eq_false_iff_ne]; intro e; exact h63 (UInt8.toNat_inj.1 (Int.ofNat.inj e))
       by_cases h91 : p[i] = 91
       · have e91 : ((p[i].toNat : Int) == 91) = true := by rw [h91]; rfl
         have hels : elS p[i] ((L p).drop (i + 1)) = setS ((L p).drop (i + 1)) := by rw [h91]; rfl
         have hset := PSet_any p (i + 1) g W2 hp HP.out hlt0 HR.out
         unfold PSetPost at hset
         cases hs : setS ((L p).drop (i + 1)) with
         | none =>
           rw [hs] at hset hels
           have hK2 := hK.out
           rw [hdr, globK_no _ _ _ _ h124 hels] at hK2
           have HK := Lib.hid hK2
           have HSet := Lib.hid hset
           clear hset hels hs hdr hK hK2 h124 h42 h63 h91 hst hbd
           go_wp2_with (go_at_call 222; refine HSet.out.mono ?_; rintro e w3 ⟨hg3, rfl⟩; have hst := alloc_st w3 (fun _ => false))
           go_ret2
           unfold PAltPost
           rw [HGl.out, HK.out]
           exact ⟨alloc_st_grown _ (grown_tr HG.out hg3), rfl⟩
         | some y =>
           obtain ⟨⟨no, rs, e1⟩, m, m1, m2, e2⟩ := setS_suf _ _ hs
           obtain ⟨e, r'⟩ := y
           dsimp only at e1 e2
           have hl0 : El.litN e = 0 ∧ El.isStar e = false := by rw [e1]; exact ⟨rfl, rfl⟩
           rw [List.drop_drop] at e2
           rw [List.length_drop, len_L] at m2
           subst e2
           rw [hs] at hset hels
           dsimp only at hset
           rw [List.length_drop, len_L, show ((p.size : Int) - ((p.size - (i + 1 + m) : Nat) : Int)) = ((i + 1 + m : Nat) : Int) from by omega] at hset
           have HEl := Lib.hid hels
           have HSet := Lib.hid hset
           clear hset hels hs hdr h124 h42 h63 h91 hst hbd e1
           go_wp2_with (go_at_call 222; refine HSet.out.mono ?_; rintro e9 w3 ⟨hg3, rfl, hr3⟩; have hst := alloc_st w3 e.has; have hl := ldSet_at (alloc_st_at w3 e.has) (size_boolA _ _); have hbd := bdElP_set e.has ((w3.alloc (.cells Tryz.zeroCells257 257)).setRow w3.heap.size (boolA 127 e.has)); have hE3 := alloc_st_old w3 e.has ((hg3.block E (blk_lt' HE2.out) (by intro x; have := Option.some.inj x; omega)).trans HE2.out); have hst2 := stElP_at hE3 (size_elP _ _ _) (size_elP 0 false e.has) (elP_one 0 false e.has); have HE3 := Lib.hid hE3; have HG3 := Lib.hid hg3; have HR3 := Lib.hid hr3; clear hE3 hg3 hr3)
           go_meet
           refine ⟨rfl, rfl, rfl, i + 1 + m, e, by omega, by omega, HEl.out, ?_, ?_, ?_, grown_far (alloc_st_grown _ (grown_tr HG.out HG3.out)) (grown_setRow _ _ _) (fun k e => by cases e; exact Or.inl hEb)⟩
           · show _ = _
             rw [setRow_other _ _ _ _ (by omega)]
             exact alloc_st_old w3 _ HR3.out
           · show _ = _
             rw [hl0.1, hl0.2]
             exact setRow_heap _ _ _ _ _ _ HE3.out
           · refine NstV.beside ?_ (grown_setRow _ _ _) HF
             exact (HN.out.other HG3.out (fun k x => by cases x; exact Or.inl hglt)).other (alloc_st_grown (row := none) _ (grown_refl w3 none)) (fun k x => by cases x)
       · have e91 : ((p[i].toNat : Int) == 91) = false := by
          rw [beq_eq_false_iff_ne]; intro e; exact h91 (UInt8.toNat_inj.1 (Int.ofNat.inj e))
         have HEl : Hid (elS p[i] ((L p).drop (i + 1)) = some (.lit p[i], (L p).drop (i + 1))) := Lib.hid (by rw [elS, if_neg h42, if_neg h63, if_neg h91])
         have hs1 := setCell_known HE2.out (elP_set p[i].toNat false (fun _ => false) p[i].toNat true)
         have e : elP p[i].toNat false (fun d => if d = p[i].toNat then true else false) = elP (El.litN (.lit p[i])) (El.isStar (.lit p[i])) (El.has (.lit p[i])) := elP_congr fun d _ => by
          show _ = (p[i].toNat == d)
          by_cases h : d = p[i].toNat
          · rw [if_pos h, h]; simp
          · rw [if_neg h]; simp; exact fun x => h x.symm
         rw [e] at hs1
         have HE3 := Lib.hid hs1
         clear h42 h124 h63 h91 hdr hs1 e hst hbd
         go_wp2
         go_meet
         exact ⟨rfl, rfl, rfl, i + 1, .lit p[i], Nat.le_refl _, hlt0, HEl.out, rd_other HR.out (by omega), HE3.out, HN.out.beside (grown_set _ _ _ _) HF, grown_far HG.out (grown_set _ _ _ _) (fun k e => by cases e; exact Or.inl hEb)⟩
      case rest =>
       obtain ⟨rfl, rfl, rfl, j, e, hj1, hj2, hel, hRj, hE, hN, hG⟩ := hcut
       have hK2 := hK.out
       rw [hdr, globK_el _ _ _ _ h124 e _ hel.out] at hK2
       have HK := Lib.hid hK2
       have ho := hN.out.outer
       simp only [List.length_append, List.length_singleton] at ho
       have hcx := ho.cellAt us.length (by omega)
       rw [List.getElem?_append_right (Nat.le_refl _), Nat.sub_self, List.getElem?_cons_zero] at hcx
       have hfx := ho.frozenAt us.length
       have hlm : us.length = ms.length := by have := hN.out.len; simpa using this
       have hin := hN.out.inner us.length x cur (by simp) (by rw [hlm]; simp)
       have HLm := Lib.hid hlm
       clear hlm
       have HI := Lib.hid hin
       have hsz := size_elP e.litN e.isStar e.has
       have he := ldElP_at (w := wc.drew) (g := E) hE.out hsz
       have hall : ∀ u ∈ (elP e.litN e.isStar e.has).toList, u.oneCell' = true := fun u hu => Array.all_eq_true_iff_forall_mem.1 (elP_one e.litN e.isStar e.has) u (by simpa using hu)
       have hbs := bsElP_at _ hsz
       have henc : (elP e.litN e.isStar e.has).toList = encEP e := rfl
       generalize elP e.litN e.isStar e.has = cs at *
       have HSz := Lib.hid hsz
       have HAll := Lib.hid hall
       have HEnc := Lib.hid henc
       clear hK hK2 ho hin hsz hall henc hdr h124 e124 hE HE2 HN HF hel hst hbd HR HG
       have hxo : some go ≠ x.ownBlock := fun e => hN.out.off us.length x go (by simp) e.symm rfl
       have HX := Lib.hid hxo
       have hwc := hG.out.size
       have hgo := (hN.out.outer.lt go rfl).2
       obtain ⟨i0, z, hi0, hz0, hz1, hz2, hz3⟩ := elPParts
       have Hi0 := Lib.hid hi0
       have Hz0 := Lib.hid hz0
       have Hz1 := Lib.hid hz1
       have Hz2 := Lib.hid hz2
       have Hz3 := Lib.hid hz3
       clear hxo hi0 hz0 hz1 hz2 hz3
       have hwr : IntKind.i64.wrap (us.length : Int) = (us.length : Int) := by rw [IntKind.wrap_i64]; omega
       go_wp2
       go_region_law (first | (refine step_append_lies _ (by rfl) _ _ _ (by rfl) w.heap.size 259 i0 z 129 129 Tryz.underlying263 Hi0.out Hz0.out Hz1.out Hz2.out Hz3.out (by omega) x cur.length (cellsOf encEP cur) (by rfl) (own_below HI.out (by go_grown)) _ 1 1 cs.toList (by rfl) (by have := HSz.out; simp [this]) (by exact World.news_of_block (B := wc.heap.size) (heap_alloc_new _ _)) HAll.out (by omega) (by unfold maxLen; omega) (by omega) (by simp; omega) _ rfl ?_; intro g2 cap w2 hown2 hgrow2 hat2 hlt2; have c2 := ((grown_below (by go_grown : Below wc.heap.size wc _) _).trans hgrow2).cell (a := ⟨go, us.length, none⟩) hcx HX.out; have f2 := (((grown_below (by go_grown : Below wc.heap.size wc _) _).trans hgrow2).frozen_far ⟨go, us.length, none⟩ hgo HX.out).trans hfx))
       all_goals
        rw [HEnc.out] at hown2
        have hgb := (hN.out.outer.lt go rfl).1
        have HN3 := Lib.hid ((hN.out.below (by go_grown)).appendLast hown2 hgrow2 hat2)
        have HG3 := Lib.hid (grown_far (grown_far (grown_tr hG.out (grown_below (by go_grown) _)) hgrow2 (fun k hk => Or.inl (HI.out.lt k hk).1)) (grown_set _ go us.length (.slice (some ⟨g2, 0, none⟩) (cur.length + 1) cap)) (fun k x => by cases x; exact Or.inl hgb))
        have HR3 := Lib.hid (rd_other (g := go) (i := us.length) (u := .slice (some ⟨g2, 0, none⟩) (cur.length + 1) cap) ((hgrow2.block g (by have := blk_lt' hRj.out; simp; omega) (fun e => by have := (HI.out.lt g e.symm).1; omega)).trans (((show Below wc.heap.size wc _ by go_grown).block g (blk_lt' hRj.out)).trans hRj.out)) (by omega))
        clear hown2 hgrow2 hat2 c2 f2 he hbs hcx hfx hN hG hRj
        go_wp2
        go_roundg (gk - (j - i))
        case measure => omega
        case rel => exact ⟨j, c, go, us, _, ms, cur ++ [e], rfl, rfl, rfl, by omega, by omega, by simp; omega, HN3.out, HG3.out, HR3.out, HK.out⟩
  · have hlt : ¬ (i : Int) < (p.size : Int) := by omega
    have hK2 := hK.out
    rw [List.drop_eq_nil_of_le (by rw [len_L]; omega), globK_nil] at hK2
    have HK := Lib.hid hK2
    clear hK2 hK
    go_wp2
    go_quiet (fail)
    go_wp2
    go_ret2
    unfold PAltPost
    rw [HGl.out, HK.out]
    exact ⟨by first | exact grown_tr hG.out (grown_drewN _ _ _) | exact grown_tr (grown_tr hG.out (grown_drewN _ _ _)) (grown_drewN _ _ _), _, rfl, ⟨_, hN.out.below (below_drewN (Below.refl _ _) _)⟩⟩
end Go.Proofs.YtibflgfhjfcifaaGreatDoor
namespace Go.Proofs.YtibflgfhjfcifaaGreatDoor
open Go.RowKit
def PGParsePost (s : Str) (w : World) (e : Ending) (w' : World) : Prop := Below w.heap.size w w' ∧
 match globS s with
 | none => ∃ n : Int, e = .returned (.tuple #[.slice none 0 0, .int .i64 n]) ∧ n = globE s
 | some alts => ∃ v, e = .returned (.tuple #[v, .int .i64 0]) ∧ Nst 263 259 129 encEP w' w.heap.size v alts
theorem own_lower {w : World} {base base' kk n : Nat} {e : TypeId} {v : Value} {xs : List Value} (h : w.ownsRow base' e kk v n xs) (hb : base ≤ base') : w.ownsRow base e kk v n xs := by
 refine ⟨h.1, ?_⟩
 rcases h.2 with h1 | ⟨g, cap, cur, h1, h2, h3⟩
 · exact Or.inl h1
 · exact Or.inr ⟨g, cap, cur, h1, Nat.le_trans hb h2, h3⟩
theorem Nst_down {w : World} {a b : Nat} {v : Value} {l : List (List El)} (h : Nst 263 259 129 encEP w a v l) (hb : b ≤ a) : Nst 263 259 129 encEP w b v l := by
 obtain ⟨vs, hN⟩ := h
 exact ⟨vs, hN.len, own_lower hN.outer hb, fun i x l hx hl => own_lower (hN.inner i x l hx hl) hb, hN.off, hN.apart⟩
set_option maxRecDepth 100000 in
set_option maxHeartbeats 1000000 in
theorem PGParse_any (p : ByteArray) (w : World) (hsz : p.size ≤ 9223372036854775807) : Calls Tryz.prog 172 #[.string p] w (PGParsePost (L p) w) := by
 by_cases h256 : 256 < p.size
 · have hI : (256 : Int) < (p.size : Int) := by omega
   have hE : globE (L p) = 21 := by rw [globE, len_L, if_pos h256]
   have hS : globS (L p) = none := by rw [globS, if_neg (fun h => by have := h.1; rw [len_L] at this; omega)]
   have HE := Lib.hid hE
   have HS := Lib.hid hS
   clear hE hS
   go_enter Tryz.func172, Tryz.ntmps172
   go_wp2
   go_ret2
   refine ⟨Below.refl _ _, ?_⟩
   rw [HS.out]
   exact ⟨21, rfl, HE.out.symm⟩
 · have hI : ¬ (256 : Int) < (p.size : Int) := by omega
   have hT := Text_any p w hsz
   have htx : textS (L p) = printS (L p) := by rw [textS, len_L, decide_eq_true (by omega), Bool.and_true]
   rw [htx] at hT
   have hge := globE_le (s := L p) (by rw [len_L]; omega)
   cases hpr : printS (L p) with
   | false =>
     rw [hpr] at hT hge
     have HT := Lib.hid hT
     have HE : Hid (globE (L p) = 20) := Lib.hid (by rw [hge]; rfl)
     have HS : Hid (globS (L p) = none) := Lib.hid (by rw [globS, if_neg (fun h => by rw [hpr] at h; cases h.2)])
     clear hT hge hpr htx
     go_enter Tryz.func172, Tryz.ntmps172
     go_wp2_with (go_at_call 197; refine HT.out.mono ?_; rintro e w' ⟨rfl, rfl⟩)
     go_ret2
     refine ⟨Below.refl _ _, ?_⟩
     rw [HS.out]
     exact ⟨20, rfl, HE.out.symm⟩
   | true =>
     rw [hpr] at hT hge
     simp only [if_true] at hge
     have HT := Lib.hid hT
     have HGs : Hid (globS (L p) = globP (L p)) := Lib.hid (by rw [globS, if_pos ⟨by rw [len_L]; omega, hpr⟩])
     have hA := PAlts_any p w.heap.size (w.alloc (rdr p 0)) (by omega) hpr (heap_alloc_new w _)
     unfold PAltPost at hA
     cases hg : globP (L p) with
     | none =>
       rw [hg] at hA hge HGs
       have HA := Lib.hid hA
       have HE : Hid (globE (L p) = 20) := Lib.hid (by rw [hge]; rfl)
       clear hT hge hpr htx hA hg
       go_enter Tryz.func172, Tryz.ntmps172
       go_wp2_with (first | (go_at_call 197; refine HT.out.mono ?_; rintro e w' ⟨rfl, rfl⟩) | (go_at_call 198; refine HA.out.mono ?_; rintro e w2 ⟨hg2, rfl⟩))
       go_ret2
       refine ⟨(below_alloc w _).grown hg2 (by simp) (fun j e => by cases e; exact Nat.le_refl _), ?_⟩
       rw [HGs.out]
       exact ⟨20, rfl, HE.out.symm⟩
     | some alts =>
       rw [hg] at hA HGs
       have HA := Lib.hid hA
       clear hT hge hpr htx hA hg
       go_enter Tryz.func172, Tryz.ntmps172
       go_wp2_with (first | (go_at_call 197; refine HT.out.mono ?_; rintro e w' ⟨rfl, rfl⟩) | (go_at_call 198; refine HA.out.mono ?_; rintro e w2 ⟨hg2, v, rfl, hN⟩))
       go_ret2
       refine ⟨(below_alloc w _).grown hg2 (by simp) (fun j e => by cases e; exact Nat.le_refl _), ?_⟩
       rw [HGs.out]
       exact ⟨v, rfl, Nst_down hN (by simp)⟩
set_option maxRecDepth 100000 in
set_option maxHeartbeats 1000000 in
theorem PGCheck_any (p : ByteArray) (w : World) (hsz : p.size ≤ 9223372036854775807) : Calls Tryz.prog 145 #[.string p] w fun e w' => e = .returned (.int .i64 (globE (L p))) ∧ Below w.heap.size w w' := by
 have hP := PGParse_any p w hsz
 unfold PGParsePost at hP
 cases hg : globS (L p) with
 | none =>
   rw [hg] at hP
   have HP := Lib.hid hP
   clear hP hg
   go_enter Tryz.func145, Tryz.ntmps145
   go_wp2_with (go_at_call 172; refine HP.out.mono ?_; rintro e w1 ⟨hb, n, rfl, rfl⟩)
   go_ret
   exact ⟨rfl, hb⟩
 | some alts =>
   rw [hg] at hP
   have HP := Lib.hid hP
   have HE : Hid (globE (L p) = 0) := Lib.hid (by
    unfold globE
    rw [hg, if_neg]
    · rfl
    · intro h
      rw [globS, if_neg (fun x => by have := x.1; omega)] at hg
      cases hg)
   clear hP hg
   go_enter Tryz.func145, Tryz.ntmps145
   go_wp2_with (go_at_call 172; refine HP.out.mono ?_; rintro e w1 ⟨hb, v, rfl, hN⟩)
   go_ret
   exact ⟨ret_i (by rw [HE.out]), hb⟩
end Go.Proofs.YtibflgfhjfcifaaGreatDoor
