/-
  Contract of the reference's Format of tokens.
  What holds of terms that are right, in plain words.
  Contracts of the reference's Check of a template, and of its Priority.
  Contracts of the reference's Match, allowed and named.
-/
import Derived.Test.YtibflgfhjfcifaaGreatDoorG15
import Derived.Test.YtibflgfhjfcifaaGreatDoorG16
import Derived.Test.YtibflgfhjfcifaaGreatDoorG17
import Derived.Test.YtibflgfhjfcifaaGreatDoorG13
namespace Go.Proofs.YtibflgfhjfcifaaGreatDoor
open Go.RowKit
theorem ReplQ (s : ByteArray) (W : World) (hE : Env0 W) (hs : s.size ≤ 1000000) :
 Calls Tryz.prog 155 #[.string s, .string ⟨#[34]⟩, .string ⟨#[92, 34]⟩] W fun e w' => e = .returned (.string (bs (Lib.replaceAll (L s) [34] [92, 34]))) ∧ Below W.heap.size W w' := by
 obtain ⟨m, hm⟩ := hE.maxLen
 have hc := Lib.countB_le ⟨#[34]⟩ (by show 1 ≤ 1; omega) s.size s (Nat.le_refl _)
 exact Tryz.strings_ReplaceAll s ⟨#[34]⟩ ⟨#[92, 34]⟩ m W (by omega) hm (by show 1 ≤ 1; omega) (by show s.size + _ * 2 ≤ _; omega)
theorem replQ_len (s : Str) : (Lib.replaceAll s [34] [92, 34]).length ≤ 2 * s.length := by
 rw [replaceAll1 _ _ _ (by simp)]
 exact flat_len2 34 [92, 34] (by simp) s
structure TkSmall (x : Tk) : Prop where
 key : x.key.size ≤ 1000
 name : x.name.size ≤ 1000
 op : x.op.size ≤ 1000
 value : x.value.size ≤ 1000
theorem RowAt.tk {w wr : World} {B : Nat} {A : Option Addr} {l : List Tk} (h : RowAt w B A 4 l.length (cellsOf encTk l)) (hb : Below B w wr) {k : Nat} (hk : k < l.length) : ∃ ba off, A = some ⟨ba, off, none⟩ ∧ ba < B ∧
 wr.cell? ⟨ba, off + k * 4, none⟩ = some (.string l[k].key) ∧ wr.cell? ⟨ba, off + k * 4 + 1, none⟩ = some (.string l[k].name) ∧ wr.cell? ⟨ba, off + k * 4 + 2, none⟩ = some (.string l[k].op) ∧ wr.cell? ⟨ba, off + k * 4 + 3, none⟩ = some (.string l[k].value) := by
 obtain ⟨ba, off, hA, hba, hc⟩ := h.cell encTk_len hk
 have hx : l[k]? = some l[k] := List.getElem?_eq_getElem hk
 refine ⟨ba, off, hA, hba, ?_, ?_, ?_, ?_⟩
 · rw [hb.cell (p := ⟨ba, off + k * 4, none⟩) hba]; exact hc k _ hx 0 _ rfl
 · rw [hb.cell (p := ⟨ba, off + k * 4 + 1, none⟩) hba]; exact hc k _ hx 1 _ rfl
 · rw [hb.cell (p := ⟨ba, off + k * 4 + 2, none⟩) hba]; exact hc k _ hx 2 _ rfl
 · rw [hb.cell (p := ⟨ba, off + k * 4 + 3, none⟩) hba]; exact hc k _ hx 3 _ rfl
def FmtPost (l : List Tk) (w : World) (e : Ending) (w' : World) : Prop := e = .returned (.tuple #[.string (bs (fmtS l).1), .int .i64 (fmtS l).2]) ∧ Below w.heap.size w w'
theorem fmtS_bad {l : List Tk} {x : Tk} (hx : x ∈ l) (h : goodB x = false) : fmtS l = ([], 82) := by
 unfold fmtS
 rw [if_neg (by rw [List.all_eq_true]; intro hh; rw [hh x hx] at h; cases h)]
set_option maxRecDepth 100000 in
set_option maxHeartbeats 8000000 in
theorem RLFormat_any (A : Option Addr) (c : Nat) (l : List Tk) (w : World) (hE : Env0 w) (h : RowAt w w.heap.size A 4 l.length (cellsOf encTk l)) (hl : l.length ≤ 100) (hsm : ∀ x ∈ l, TkSmall x) :
 Calls Tryz.prog 104 #[.slice A l.length c] w (FmtPost l w) := by
 have HE := Lib.hid hE
 have HR := Lib.hid h
 have HK := Lib.hid hsm
 clear hE h hsm
 obtain ⟨N, hN⟩ : ∃ N, l.length = N := ⟨_, rfl⟩
 have HN := Lib.hid hN
 rw [hN] at hl ⊢
 clear hN
 go_enter Tryz.func104, Tryz.ntmps104
 go_wp2
 go_loopg [4, 5] (N + 1) (fun gk s4 s5 wr => ∃ (k : Nat) (sb : ByteArray), s5 = .int .i64 k ∧ k + gk = N + 1 ∧ k ≤ N ∧ s4 = .string sb ∧ sb.size ≤ k * 10000 ∧ Hid (L sb = fmtF (l.take k)) ∧ Hid ((l.take k).all goodB = true) ∧ Hid (Below w.heap.size w wr))
 case atStart => exact ⟨0, ⟨#[]⟩, rfl, by omega, Nat.zero_le _, rfl, Nat.zero_le _, rfl, rfl, Below.refl _ _⟩
 case round =>
  obtain ⟨k, sb, rfl, hkg, hkN, rfl, hsb, hL, hG, hW⟩ := hrel
  by_cases hlt : k < N
  · have hltI : (k : Int) < (N : Int) := by omega
    have hk : k < l.length := by rw [HN.out]; exact hlt
    obtain ⟨ba, off, rfl, hba, c0, c1, c2, c3⟩ := HR.out.tk hW.out hk
    have ht : l.take (k + 1) = l.take k ++ [l[k]] := List.take_succ_eq_append_getElem hk
    have HT := Lib.hid ht
    clear ht
    have hxs := HK.out l[k] (List.getElem_mem _)
    have hbad : goodB l[k] = false → fmtS l = ([], 82) := fmtS_bad (List.getElem_mem _)
    have HBad := Lib.hid hbad
    clear hbad
    generalize l[k] = t at *
    have HGd := Lib.hid (fun W => Good_any t W (by have := hxs.key; omega) (by have := hxs.name; omega) (by have := hxs.value; omega))
    obtain ⟨z1, z2, z3, z4⟩ := hxs
    cases hgd : goodB t
    · rw [hgd] at HGd
      have HF := Lib.hid (HBad.out hgd)
      obtain ⟨key, name, op, value⟩ := t
      unfold tkV at HGd
      dsimp only at c0 c1 c2 c3 HGd
      clear hk hgd
      go_wp2_with (go_at_call 154; refine (HGd.out _).mono ?_; rintro e w1 ⟨rfl, hb1⟩)
      go_ret2
      unfold FmtPost
      rw [HF.out]
      exact ⟨rfl, bt hW.out hb1⟩
    · rw [hgd] at HGd
      have hG2 : (l.take (k + 1)).all goodB = true := by rw [HT.out, List.all_append, hG.out]; simp [hgd]
      have HG2 := Lib.hid hG2
      obtain ⟨key, name, op, value⟩ := t
      unfold tkV at HGd
      dsimp only at c0 c1 c2 c3 HGd z1 z2 z3 z4
      have HRq := Lib.hid (fun W (hW : Env0 W) => ReplQ value W hW (by omega))
      have hql := replQ_len (L value)
      rw [len_L] at hql
      have HFt : Hid (fmtT ⟨key, name, op, value⟩ = L key ++ (if (L name).isEmpty then [] else [123] ++ L name ++ [125]) ++ (L op ++ [34] ++ Lib.replaceAll (L value) [34] [92, 34] ++ [34])) := Lib.hid rfl
      have HSn := Lib.hid (fmtF_snoc (l.take k) ⟨key, name, op, value⟩)
      generalize Lib.replaceAll (L value) [34] [92, 34] = rq at *
      clear hk hgd hG2 HBad
      have hzq : (bs rq).size ≤ 2000 := by rw [size_bs]; omega
      have HBq : Hid (L (bs rq) = rq) := Lib.hid (L_bs rq)
      generalize bs rq = bq at *
      have HLs := hL
      have LQ := HBq
      by_cases hk0 : k = 0
      · subst hk0
        simp only [Nat.zero_mul, Nat.add_zero] at c0 c1 c2 c3 hsb
        by_cases hnm : name.toList = []
        · have hne : name.toList.isEmpty = true := by rw [hnm]; rfl
          go_upto_region 12 with (go_at_call 154; refine (HGd.out _).mono ?_; rintro e w1 ⟨rfl, hb1⟩; have HW1 := Lib.hid (bt hW.out hb1); have d2 := (hb1.cell (p := ⟨ba, off + 2, none⟩) (Nat.lt_of_lt_of_le hba hW.out.size)).trans c2; have d3 := (hb1.cell (p := ⟨ba, off + 3, none⟩) (Nat.lt_of_lt_of_le hba hW.out.size)).trans c3; have d0 := (hb1.cell (p := ⟨ba, off, none⟩) (Nat.lt_of_lt_of_le hba hW.out.size)).trans c0; have d1 := (hb1.cell (p := ⟨ba, off + 1, none⟩) (Nat.lt_of_lt_of_le hba hW.out.size)).trans c1; clear hb1)
          obtain ⟨pre, hpre⟩ : ∃ pre : ByteArray, sb ++ key = pre := ⟨_, rfl⟩
          have HPre : Hid (L pre = [] ++ L key ++ []) := Lib.hid (by rw [← hpre]; simp only [L_append, HLs.out]; try simp [L, fmtF])
          have hps : pre.size ≤ 4000 := by
           rw [← hpre]
           simp only [ByteArray.size_append]
           have e1 : (⟨#[44, 32]⟩ : ByteArray).size = 2 := rfl
           have e2 : (⟨#[123]⟩ : ByteArray).size = 1 := rfl
           have e3 : (⟨#[125]⟩ : ByteArray).size = 1 := rfl
           omega
          try rw [hpre]
          clear hpre
          clear c0 c1 c2 c3 d0 d1
          have hS : ∀ W', Below w1.heap.size w1 W' → W'.cell? ⟨ba, off + 2, none⟩ = some (.string op) ∧ W'.cell? ⟨ba, off + 3, none⟩ = some (.string value) := fun W' hb => ⟨(hb.cell (p := ⟨ba, off + 2, none⟩) (Nat.lt_of_lt_of_le hba HW1.out.size)).trans d2, (hb.cell (p := ⟨ba, off + 3, none⟩) (Nat.lt_of_lt_of_le hba HW1.out.size)).trans d3⟩
          have HS := Lib.hid hS
          clear hS
          have q1 : (9223372036854775807 < op.size + 1) = False := by simp; omega
          have q2 : (9223372036854775807 < op.size + 1 + bq.size) = False := by simp; omega
          have q3 : (9223372036854775807 < op.size + 1 + bq.size + 1) = False := by simp; omega
          have q4 : (9223372036854775807 < pre.size + (op.size + 1 + bq.size + 1)) = False := by simp; omega
          go_region_held3 (fun W' => W'.cell? ⟨ba, off + 2, none⟩ = some (.string op) ∧ W'.cell? ⟨ba, off + 3, none⟩ = some (.string value)) (first | exact HS.out _ (Below.refl _ _).drew | exact HS.out _ ((Below.refl _ _).drew.trans (hb0.mono (Nat.le_refl _)))) ((go_at_call 155; refine (HRq.out _ (HE.out.go (bt HW1.out (Below.refl _ _).drew))).mono ?_; rintro e w0 ⟨rfl, hb0⟩))
          have HW0 := Lib.hid (bt HW1.out ((Below.refl _ _).drew.trans hb0))
          clear hb0 q1 q2 q3 q4
          go_wp2
          go_roundg (gk - 1)
          case measure => omega
          case rel =>
           refine ⟨0 + 1, _, by go_num, by omega, by omega, rfl, ?_, ?_, HG2.out, HW0.out⟩
           · simp only [ByteArray.size_append]
             have e1 : (⟨#[34]⟩ : ByteArray).size = 1 := rfl
             omega
           · show _ = _
             rw [HT.out, HSn.out, HFt.out, L_append, HPre.out, L_append, L_append, L_append, LQ.out]
             rw [show (l.take 0).isEmpty = true from rfl]
             rw [show (L name).isEmpty = true from by rw [← tl, hnm]; rfl]
             simp [L]
        · have hne : name.toList.isEmpty = false := by rw [tl]; exact L_ne hnm
          go_upto_region 12 with (go_at_call 154; refine (HGd.out _).mono ?_; rintro e w1 ⟨rfl, hb1⟩; have HW1 := Lib.hid (bt hW.out hb1); have d2 := (hb1.cell (p := ⟨ba, off + 2, none⟩) (Nat.lt_of_lt_of_le hba hW.out.size)).trans c2; have d3 := (hb1.cell (p := ⟨ba, off + 3, none⟩) (Nat.lt_of_lt_of_le hba hW.out.size)).trans c3; have d0 := (hb1.cell (p := ⟨ba, off, none⟩) (Nat.lt_of_lt_of_le hba hW.out.size)).trans c0; have d1 := (hb1.cell (p := ⟨ba, off + 1, none⟩) (Nat.lt_of_lt_of_le hba hW.out.size)).trans c1; clear hb1)
          obtain ⟨pre, hpre⟩ : ∃ pre : ByteArray, sb ++ key ++ (⟨#[123]⟩ ++ name ++ ⟨#[125]⟩) = pre := ⟨_, rfl⟩
          have HPre : Hid (L pre = [] ++ L key ++ ([123] ++ L name ++ [125])) := Lib.hid (by rw [← hpre]; simp only [L_append, HLs.out]; try simp [L, fmtF])
          have hps : pre.size ≤ 4000 := by
           rw [← hpre]
           simp only [ByteArray.size_append]
           have e1 : (⟨#[44, 32]⟩ : ByteArray).size = 2 := rfl
           have e2 : (⟨#[123]⟩ : ByteArray).size = 1 := rfl
           have e3 : (⟨#[125]⟩ : ByteArray).size = 1 := rfl
           omega
          try rw [hpre]
          clear hpre
          clear c0 c1 c2 c3 d0 d1
          have hS : ∀ W', Below w1.heap.size w1 W' → W'.cell? ⟨ba, off + 2, none⟩ = some (.string op) ∧ W'.cell? ⟨ba, off + 3, none⟩ = some (.string value) := fun W' hb => ⟨(hb.cell (p := ⟨ba, off + 2, none⟩) (Nat.lt_of_lt_of_le hba HW1.out.size)).trans d2, (hb.cell (p := ⟨ba, off + 3, none⟩) (Nat.lt_of_lt_of_le hba HW1.out.size)).trans d3⟩
          have HS := Lib.hid hS
          clear hS
          have q1 : (9223372036854775807 < op.size + 1) = False := by simp; omega
          have q2 : (9223372036854775807 < op.size + 1 + bq.size) = False := by simp; omega
          have q3 : (9223372036854775807 < op.size + 1 + bq.size + 1) = False := by simp; omega
          have q4 : (9223372036854775807 < pre.size + (op.size + 1 + bq.size + 1)) = False := by simp; omega
          go_region_held3 (fun W' => W'.cell? ⟨ba, off + 2, none⟩ = some (.string op) ∧ W'.cell? ⟨ba, off + 3, none⟩ = some (.string value)) (first | exact HS.out _ (Below.refl _ _).drew | exact HS.out _ ((Below.refl _ _).drew.trans (hb0.mono (Nat.le_refl _)))) ((go_at_call 155; refine (HRq.out _ (HE.out.go (bt HW1.out (Below.refl _ _).drew))).mono ?_; rintro e w0 ⟨rfl, hb0⟩))
          have HW0 := Lib.hid (bt HW1.out ((Below.refl _ _).drew.trans hb0))
          clear hb0 q1 q2 q3 q4
          go_wp2
          go_roundg (gk - 1)
          case measure => omega
          case rel =>
           refine ⟨0 + 1, _, by go_num, by omega, by omega, rfl, ?_, ?_, HG2.out, HW0.out⟩
           · simp only [ByteArray.size_append]
             have e1 : (⟨#[34]⟩ : ByteArray).size = 1 := rfl
             omega
           · show _ = _
             rw [HT.out, HSn.out, HFt.out, L_append, HPre.out, L_append, L_append, L_append, LQ.out]
             rw [show (l.take 0).isEmpty = true from rfl]
             rw [show (L name).isEmpty = false from L_ne hnm]
             simp [L]
      · have hk0I : (0 : Int) < (k : Int) := by omega
        have HNe : Hid ((l.take k).isEmpty = false) := Lib.hid (by
         rw [List.isEmpty_eq_false_iff]
         intro e
         have := congrArg List.length e
         rw [List.length_take, HN.out] at this
         simp at this
         omega)
        by_cases hnm : name.toList = []
        · have hne : name.toList.isEmpty = true := by rw [hnm]; rfl
          go_upto_region 12 with (go_at_call 154; refine (HGd.out _).mono ?_; rintro e w1 ⟨rfl, hb1⟩; have HW1 := Lib.hid (bt hW.out hb1); have d2 := (hb1.cell (p := ⟨ba, off + k * 4 + 2, none⟩) (Nat.lt_of_lt_of_le hba hW.out.size)).trans c2; have d3 := (hb1.cell (p := ⟨ba, off + k * 4 + 3, none⟩) (Nat.lt_of_lt_of_le hba hW.out.size)).trans c3; have d0 := (hb1.cell (p := ⟨ba, off + k * 4, none⟩) (Nat.lt_of_lt_of_le hba hW.out.size)).trans c0; have d1 := (hb1.cell (p := ⟨ba, off + k * 4 + 1, none⟩) (Nat.lt_of_lt_of_le hba hW.out.size)).trans c1; clear hb1)
          obtain ⟨pre, hpre⟩ : ∃ pre : ByteArray, sb ++ ⟨#[44, 32]⟩ ++ key = pre := ⟨_, rfl⟩
          have HPre : Hid (L pre = (fmtF (l.take k) ++ [44, 32]) ++ L key ++ []) := Lib.hid (by rw [← hpre]; simp only [L_append, HLs.out]; try simp [L])
          have hps : pre.size ≤ k * 10000 + 4000 := by
           rw [← hpre]
           simp only [ByteArray.size_append]
           have e1 : (⟨#[44, 32]⟩ : ByteArray).size = 2 := rfl
           have e2 : (⟨#[123]⟩ : ByteArray).size = 1 := rfl
           have e3 : (⟨#[125]⟩ : ByteArray).size = 1 := rfl
           omega
          try rw [hpre]
          clear hpre
          clear c0 c1 c2 c3 d0 d1
          have hS : ∀ W', Below w1.heap.size w1 W' → W'.cell? ⟨ba, off + k * 4 + 2, none⟩ = some (.string op) ∧ W'.cell? ⟨ba, off + k * 4 + 3, none⟩ = some (.string value) := fun W' hb => ⟨(hb.cell (p := ⟨ba, off + k * 4 + 2, none⟩) (Nat.lt_of_lt_of_le hba HW1.out.size)).trans d2, (hb.cell (p := ⟨ba, off + k * 4 + 3, none⟩) (Nat.lt_of_lt_of_le hba HW1.out.size)).trans d3⟩
          have HS := Lib.hid hS
          clear hS
          have q1 : (9223372036854775807 < op.size + 1) = False := by simp; omega
          have q2 : (9223372036854775807 < op.size + 1 + bq.size) = False := by simp; omega
          have q3 : (9223372036854775807 < op.size + 1 + bq.size + 1) = False := by simp; omega
          have q4 : (9223372036854775807 < pre.size + (op.size + 1 + bq.size + 1)) = False := by simp; omega
          go_region_held3 (fun W' => W'.cell? ⟨ba, off + k * 4 + 2, none⟩ = some (.string op) ∧ W'.cell? ⟨ba, off + k * 4 + 3, none⟩ = some (.string value)) (first | exact HS.out _ (Below.refl _ _).drew | exact HS.out _ ((Below.refl _ _).drew.trans (hb0.mono (Nat.le_refl _)))) ((go_at_call 155; refine (HRq.out _ (HE.out.go (bt HW1.out (Below.refl _ _).drew))).mono ?_; rintro e w0 ⟨rfl, hb0⟩))
          have HW0 := Lib.hid (bt HW1.out ((Below.refl _ _).drew.trans hb0))
          clear hb0 q1 q2 q3 q4
          go_wp2
          go_roundg (gk - 1)
          case measure => omega
          case rel =>
           refine ⟨k + 1, _, by go_num, by omega, by omega, rfl, ?_, ?_, HG2.out, HW0.out⟩
           · simp only [ByteArray.size_append]
             have e1 : (⟨#[34]⟩ : ByteArray).size = 1 := rfl
             omega
           · show _ = _
             rw [HT.out, HSn.out, HFt.out, L_append, HPre.out, L_append, L_append, L_append, LQ.out]
             rw [HNe.out]
             rw [show (L name).isEmpty = true from by rw [← tl, hnm]; rfl]
             simp [L]
        · have hne : name.toList.isEmpty = false := by rw [tl]; exact L_ne hnm
          go_upto_region 12 with (go_at_call 154; refine (HGd.out _).mono ?_; rintro e w1 ⟨rfl, hb1⟩; have HW1 := Lib.hid (bt hW.out hb1); have d2 := (hb1.cell (p := ⟨ba, off + k * 4 + 2, none⟩) (Nat.lt_of_lt_of_le hba hW.out.size)).trans c2; have d3 := (hb1.cell (p := ⟨ba, off + k * 4 + 3, none⟩) (Nat.lt_of_lt_of_le hba hW.out.size)).trans c3; have d0 := (hb1.cell (p := ⟨ba, off + k * 4, none⟩) (Nat.lt_of_lt_of_le hba hW.out.size)).trans c0; have d1 := (hb1.cell (p := ⟨ba, off + k * 4 + 1, none⟩) (Nat.lt_of_lt_of_le hba hW.out.size)).trans c1; clear hb1)
          obtain ⟨pre, hpre⟩ : ∃ pre : ByteArray, sb ++ ⟨#[44, 32]⟩ ++ key ++ (⟨#[123]⟩ ++ name ++ ⟨#[125]⟩) = pre := ⟨_, rfl⟩
          have HPre : Hid (L pre = (fmtF (l.take k) ++ [44, 32]) ++ L key ++ ([123] ++ L name ++ [125])) := Lib.hid (by rw [← hpre]; simp only [L_append, HLs.out]; try simp [L, fmtF])
          have hps : pre.size ≤ k * 10000 + 4000 := by
           rw [← hpre]
           simp only [ByteArray.size_append]
           have e1 : (⟨#[44, 32]⟩ : ByteArray).size = 2 := rfl
           have e2 : (⟨#[123]⟩ : ByteArray).size = 1 := rfl
           have e3 : (⟨#[125]⟩ : ByteArray).size = 1 := rfl
           omega
          try rw [hpre]
          clear hpre
          clear c0 c1 c2 c3 d0 d1
          have hS : ∀ W', Below w1.heap.size w1 W' → W'.cell? ⟨ba, off + k * 4 + 2, none⟩ = some (.string op) ∧ W'.cell? ⟨ba, off + k * 4 + 3, none⟩ = some (.string value) := fun W' hb => ⟨(hb.cell (p := ⟨ba, off + k * 4 + 2, none⟩) (Nat.lt_of_lt_of_le hba HW1.out.size)).trans d2, (hb.cell (p := ⟨ba, off + k * 4 + 3, none⟩) (Nat.lt_of_lt_of_le hba HW1.out.size)).trans d3⟩
          have HS := Lib.hid hS
          clear hS
          have q1 : (9223372036854775807 < op.size + 1) = False := by simp; omega
          have q2 : (9223372036854775807 < op.size + 1 + bq.size) = False := by simp; omega
          have q3 : (9223372036854775807 < op.size + 1 + bq.size + 1) = False := by simp; omega
          have q4 : (9223372036854775807 < pre.size + (op.size + 1 + bq.size + 1)) = False := by simp; omega
          go_region_held3 (fun W' => W'.cell? ⟨ba, off + k * 4 + 2, none⟩ = some (.string op) ∧ W'.cell? ⟨ba, off + k * 4 + 3, none⟩ = some (.string value)) (first | exact HS.out _ (Below.refl _ _).drew | exact HS.out _ ((Below.refl _ _).drew.trans (hb0.mono (Nat.le_refl _)))) ((go_at_call 155; refine (HRq.out _ (HE.out.go (bt HW1.out (Below.refl _ _).drew))).mono ?_; rintro e w0 ⟨rfl, hb0⟩))
          have HW0 := Lib.hid (bt HW1.out ((Below.refl _ _).drew.trans hb0))
          clear hb0 q1 q2 q3 q4
          go_wp2
          go_roundg (gk - 1)
          case measure => omega
          case rel =>
           refine ⟨k + 1, _, by go_num, by omega, by omega, rfl, ?_, ?_, HG2.out, HW0.out⟩
           · simp only [ByteArray.size_append]
             have e1 : (⟨#[34]⟩ : ByteArray).size = 1 := rfl
             omega
           · show _ = _
             rw [HT.out, HSn.out, HFt.out, L_append, HPre.out, L_append, L_append, L_append, LQ.out]
             rw [HNe.out]
             rw [show (L name).isEmpty = false from L_ne hnm]
             simp [L]
  · obtain rfl : k = N := by omega
    have htk : l.take k = l := List.take_of_length_le (by rw [HN.out]; exact Nat.le_refl _)
    have hL' := hL.out
    have hG' := hG.out
    rw [htk] at hL' hG'
    have hlen : (fmtF l).length = sb.size := by rw [← hL', len_L]
    have hsb' : sb = bs (fmtF l) := eq_bs hL'
    by_cases h1024 : 1024 < sb.size
    · have h1I : (1024 : Int) < (sb.size : Int) := by omega
      have HF : Hid (fmtS l = ([], 81)) := Lib.hid (by unfold fmtS; rw [if_pos hG', if_pos (by rw [hlen]; exact h1024)])
      clear htk hL' hG' hlen hsb' h1024
      go_wp2
      go_ret2
      unfold FmtPost
      rw [HF.out]
      exact ⟨rfl, hW.out⟩
    · have h1I : (sb.size : Int) ≤ 1024 := by omega
      have HF : Hid (fmtS l = (fmtF l, 0)) := Lib.hid (by unfold fmtS; rw [if_pos hG', if_neg (by rw [hlen]; exact h1024)])
      have HSb := Lib.hid hsb'
      clear htk hL' hG' hlen hsb' h1024
      go_wp2
      go_ret2
      unfold FmtPost
      rw [HF.out, ← HSb.out]
      exact ⟨rfl, hW.out⟩
end Go.Proofs.YtibflgfhjfcifaaGreatDoor
namespace Go.Proofs.YtibflgfhjfcifaaGreatDoor
open Go.RowKit
theorem firstE_mem {l : List Tm} (h : firstE l = 0) : ∀ t ∈ l, termE t = 0 := by
 induction l with
 | nil => intro t ht; cases ht
 | cons x r ih =>
   rw [firstE] at h
   by_cases hx : termE x = 0
   · rw [if_pos hx] at h
     intro t ht
     rcases List.mem_cons.1 ht with rfl | ht
     · exact hx
     · exact ih h t ht
   · rw [if_neg hx] at h; exact absurd h hx
theorem checkE_ok {l : List Tm} (h : checkE l = 0) : 1 ≤ l.length ∧ l.length ≤ 16 ∧ ∀ t ∈ l, termE t = 0 := by
 unfold checkE at h
 split at h
 · cases h
 split at h
 · cases h
 split at h
 · rename_i h1 h2 h3; exact absurd h h3
 · rename_i h1 h2 h3
   exact ⟨by omega, by omega, firstE_mem (by
    by_cases h0 : firstE l = 0
    · exact h0
    · exact absurd h0 h3)⟩
structure TmRight (t : Tm) : Prop where
 k0 : 1 ≤ t.key
 k1 : t.key ≤ 24
 o0 : 1 ≤ t.op
 o1 : t.op ≤ 6
 name : t.name.size ≤ 32
 value : t.value.size ≤ 256
theorem validS_len {l : Str} (h : validS l = true) : l.length ≤ 32 := by
 unfold validS at h
 simp only [Bool.and_eq_true, decide_eq_true_eq] at h
 exact h.1.1.2
theorem keyS_len {l : Str} (h : keyS l = true) : l.length ≤ 32 := by
 unfold keyS at h
 simp only [Bool.and_eq_true, decide_eq_true_eq] at h
 exact h.1.1.2
theorem tmplB_len {l : Str} (h : tmplB l = true) : l.length ≤ 256 := by
 by_cases hl : 256 < l.length
 · unfold tmplB parseR at h
   rw [if_pos hl] at h
   cases h
 · omega
theorem patB_len {l : Str} (h : patB l = true) : l.length ≤ 256 := by
 by_cases hl : 256 < l.length
 · unfold patB globE at h
   rw [if_pos hl] at h
   cases h
 · omega
theorem dec_len : ∀ (n m : Nat), n < 10 ^ m → 1 ≤ m → (Lib.decDigits n).length ≤ m
 | n, 0, _, h => by omega
 | n, m + 1, h, _ => by
   rw [Lib.decDigits]
   split
   · simp
   · rename_i hn
     rw [List.length_append, List.length_singleton]
     have : n / 10 < 10 ^ m := by
      rw [Nat.div_lt_iff_lt_mul (by omega)]
      rw [Nat.pow_succ] at h
      exact h
     have hm : 1 ≤ m := by
      rcases Nat.eq_zero_or_pos m with rfl | hm
      · simp at this; omega
      · exact hm
     have := dec_len (n / 10) m this hm
     omega
theorem itoa_len (n : Int) (h1 : -1000 ≤ n) (h2 : n ≤ 1000) : (Lib.itoa n).length ≤ 5 := by
 unfold Lib.itoa
 split
 · have := dec_len n.natAbs 4 (by omega) (by omega)
   simp only [List.length_cons] at *
   first | omega | (simp; omega)
 · have := dec_len n.toNat 4 (by omega) (by omega)
   omega
theorem priS_len {l : Str} (h : priS l = true) : l.length ≤ 256 := by
 unfold priS at h
 rw [List.any_eq_true] at h
 obtain ⟨k, hk, e⟩ := h
 have hk := List.mem_range.1 hk
 have e : Lib.itoa ((k : Int) - 1000) = l := by simpa using e
 rw [← e]
 have := itoa_len ((k : Int) - 1000) (by omega) (by omega)
 omega
theorem opsK_mem {k op : Int} (h : (opsK k).contains op = true) : 3 ≤ op ∧ op ≤ 6 := by
 have h := List.contains_iff_mem.1 h
 unfold opsK at h
 repeat' split at h
 all_goals
  simp only [List.mem_cons, List.not_mem_nil, or_false] at h
 all_goals omega
theorem termE_right {t : Tm} (h : termE t = 0) : TmRight t := by
 unfold termE at h
 split at h
 · cases h
 rename_i hk
 split at h
 · cases h
 rename_i hn
 split at h
 · cases h
 rename_i ha
 split at h
 · cases h
 rename_i hr
 have hn : namedB t.key (L t.name) = true := by simpa using hn
 have ha : allowedB t.key t.op = true := by simpa using ha
 have hr : rightB t.key t.op (L t.name) (L t.value) = true := by simpa using hr
 have hop : 1 ≤ t.op ∧ t.op ≤ 6 := by
  unfold allowedB at ha
  split at ha
  · rename_i hm
    unfold matchB at hm
    simp only [Bool.or_eq_true, beq_iff_eq] at hm
    omega
  · have := opsK_mem ha; omega
 have hname : (L t.name).length ≤ 32 := by
  unfold namedB at hn
  repeat' split at hn
  · exact validS_len hn
  · exact keyS_len hn
  · simp only [Bool.or_eq_true, beq_iff_eq] at hn
    rcases hn with (h | h) | h <;> rw [h] <;> decide
  · rw [List.isEmpty_iff] at hn
    rw [hn]; decide
 have hval : (L t.value).length ≤ 256 := by
  unfold rightB at hr
  repeat' split at hr
  · exact priS_len hr
  · have := validS_len hr; omega
  · simp only [Bool.or_eq_true, beq_iff_eq] at hr
    rcases hr with (h | h) | h <;> rw [h] <;> decide
  · exact tmplB_len hr
  · exact patB_len hr
  · exact patB_len hr
  · exact tmplB_len hr
 rw [len_L] at hname hval
 exact ⟨by omega, by omega, hop.1, hop.2, hname, hval⟩
end Go.Proofs.YtibflgfhjfcifaaGreatDoor
namespace Go.Proofs.YtibflgfhjfcifaaGreatDoor
open Go.RowKit
set_option maxRecDepth 100000 in
set_option maxHeartbeats 1000000 in
theorem RTCheck_any (s : ByteArray) (w : World) (hE : Env0 w) (hs : s.size ≤ 9223372036854775807) :
 Calls Tryz.prog 181 #[.string s] w fun e w' => e = .returned (.int .i64 (parseR (L s)).2) ∧ Below w.heap.size w w' := by
 have HP := Lib.hid (RParse_any s w hE hs)
 unfold ParsePost at HP
 clear hE
 go_enter Tryz.func181, Tryz.ntmps181
 go_wp2_with (go_at_call 209; refine HP.out.mono ?_; rintro e w1 ⟨v, rfl, ho, hb⟩)
 go_ret
 exact ⟨rfl, hb⟩
def PriPost (s : Str) (w : World) (e : Ending) (w' : World) : Prop := ∃ n : Int, e = .returned (.tuple #[.int .i64 n, .bool (priS s)]) ∧ Below w.heap.size w w'
theorem priS_no (s : Str) (h : ∀ k : Nat, k < 2001 → Lib.itoa ((k : Int) - 1000) ≠ s) : priS s = false := by
 unfold priS
 rw [List.any_eq_false]
 intro k hk
 simpa using h k (List.mem_range.1 hk)
theorem priS_yes (s : Str) (k : Nat) (hk : k < 2001) (h : Lib.itoa ((k : Int) - 1000) = s) : priS s = true := by
 unfold priS
 rw [List.any_eq_true]
 exact ⟨k, List.mem_range.2 hk, by simpa using h⟩
set_option maxRecDepth 100000 in
set_option maxHeartbeats 1000000 in
theorem RPriority_any (s : ByteArray) (w : World) (hE : Env0 w) (_hs : s.size ≤ 9223372036854775807) :
 Calls Tryz.prog 180 #[.string s] w (PriPost (L s) w) := by
 have HE := Lib.hid hE
 clear hE
 go_enter Tryz.func180, Tryz.ntmps180
 go_wp2
 go_loopg [4] 2002 (fun gk s4 wr => ∃ m : Int, s4 = .int .i64 m ∧ -1000 ≤ m ∧ m ≤ 1001 ∧ m + gk = 1002 ∧ Hid (Below w.heap.size w wr) ∧ Hid (∀ k : Nat, (k : Int) - 1000 < m → Lib.itoa ((k : Int) - 1000) ≠ L s))
 case atStart => exact ⟨-1000, rfl, by omega, by omega, by omega, Below.refl _ _, fun k hk => by omega⟩
 case round =>
  obtain ⟨m, rfl, hm1, hm2, hmg, hB, hno⟩ := hrel
  by_cases hm : m ≤ 1000
  · have HI := Lib.hid (fun W (hW : Env0 W) => Itoa_any m (by omega) (by omega) W hW)
    have heq : ((bs (Lib.itoa m)).toList == s.toList) = (Lib.itoa m == L s) := by rw [tl, tl, L_bs]
    cases hq : (Lib.itoa m == L s)
    · rw [hq] at heq
      have hne : Lib.itoa m ≠ L s := by simpa using hq
      have HNE := Lib.hid hne
      generalize bs (Lib.itoa m) = it at *
      clear hq hne
      go_wp2_with (go_at_call 149; refine (HI.out _ (HE.out.go hB.out)).mono ?_; rintro e w1 ⟨rfl, hb1⟩)
      go_roundg (gk - 1)
      case measure => omega
      case rel =>
       refine ⟨m + 1, rfl, by omega, by omega, by omega, bt hB.out hb1, fun k hk => ?_⟩
       by_cases hk2 : (k : Int) - 1000 = m
       · rw [hk2]; exact HNE.out
       · exact hno.out k (by omega)
    · rw [hq] at heq
      have hyes : Lib.itoa m = L s := by simpa using hq
      have HY : Hid (priS (L s) = true) := Lib.hid (priS_yes (L s) (m + 1000).toNat (by omega) (by rw [← hyes]; congr 1; omega))
      generalize bs (Lib.itoa m) = it at *
      clear hq hyes
      go_wp2_with (go_at_call 149; refine (HI.out _ (HE.out.go hB.out)).mono ?_; rintro e w1 ⟨rfl, hb1⟩)
      go_ret2
      exact ⟨m, by rw [HY.out]; rfl, bt hB.out hb1⟩
  · have hm : 1000 < m := by omega
    have HN : Hid (priS (L s) = false) := Lib.hid (priS_no _ (fun k hk => hno.out k (by omega)))
    go_wp2
    go_ret2
    exact ⟨0, by rw [HN.out]; rfl, hB.out⟩
end Go.Proofs.YtibflgfhjfcifaaGreatDoor
namespace Go.Proofs.YtibflgfhjfcifaaGreatDoor
open Go.RowKit
set_option maxRecDepth 100000 in
set_option maxHeartbeats 1000000 in
theorem RMatch_any (t : Tm) (w : World) : Calls Tryz.prog 179 #[tmV t] w fun e w' => e = .returned (.bool (matchB t.op)) ∧ Below w.heap.size w w' := by
 unfold tmV
 by_cases h1 : t.op = 1
 · have e1 : (t.op == 1) = true := by simpa using h1
   have HM : Hid (matchB t.op = true) := Lib.hid (by simp [matchB, h1])
   clear h1
   go_enter Tryz.func179, Tryz.ntmps179
   go_wp2
   go_ret
   exact ⟨ret_bool (by rw [HM.out]), by go_grown⟩
 · have e1 : (t.op == 1) = false := by simpa using h1
   have HM : Hid (matchB t.op = (t.op == 2)) := Lib.hid (by simp [matchB, e1])
   clear h1
   go_enter Tryz.func179, Tryz.ntmps179
   go_wp2
   go_ret
   exact ⟨ret_bool (by rw [HM.out]), by go_grown⟩
theorem box4 {W w1 : World} {x0 x1 x2 x3 : Value} {T : TypeId} (hb : Below (W.alloc (.cells #[x0, x1, x2, x3] T)).heap.size (W.alloc (.cells #[x0, x1, x2, x3] T)) w1) :
 w1.cell? ⟨W.heap.size, 0, none⟩ = some x0 ∧ w1.cell? ⟨W.heap.size, 1, none⟩ = some x1 ∧ w1.cell? ⟨W.heap.size, 2, none⟩ = some x2 ∧ w1.cell? ⟨W.heap.size, 3, none⟩ = some x3 :=
 (res4 ((hb.block _ (by simp)).trans (heap_alloc_new W _))).1
theorem opsK_no {k op : Int} (h : ¬(op = 3 ∨ op = 4 ∨ op = 5 ∨ op = 6)) : (opsK k).contains op = false := by
 have h3 : op ≠ 3 := fun e => h (by simp [e])
 have h4 : op ≠ 4 := fun e => h (by simp [e])
 have h5 : op ≠ 5 := fun e => h (by simp [e])
 have h6 : op ≠ 6 := fun e => h (by simp [e])
 unfold opsK
 repeat (split; · simp [h3, h4, h5, h6])
 simp
theorem opsK_nil {k : Int} (h : ¬(k = 6 ∨ k = 7 ∨ k = 15 ∨ k = 17 ∨ k = 18 ∨ k = 19 ∨ k = 16 ∨ k = 20 ∨ k = 21 ∨ k = 22 ∨ k = 23 ∨ k = 24)) : opsK k = [] := by
 simp only [not_or] at h
 simp [opsK, h]
set_option maxRecDepth 100000 in
set_option maxHeartbeats 8000000 in
theorem RAllowed_any (t : Tm) (w : World) : Calls Tryz.prog 152 #[tmV t] w fun e w' => e = .returned (.bool (allowedB t.key t.op)) ∧ Below w.heap.size w w' := by
 obtain ⟨k, nm, op, v⟩ := t
 have HM := fun W => RMatch_any ⟨k, nm, op, v⟩ W
 unfold tmV at HM ⊢
 dsimp only at HM ⊢
 by_cases hm : matchB op = true
 · rw [hm] at HM
   have HR : Hid (allowedB k op = decide (k ≤ 14)) := Lib.hid (by rw [allowedB, if_pos hm])
   have HM := Lib.hid HM
   clear hm
   go_enter Tryz.func152, Tryz.ntmps152
   go_wp2_with (go_at_call 179; refine (HM.out _).mono ?_; rintro e w1 ⟨rfl, hb⟩; obtain ⟨c0, c1, c2, c3⟩ := box4 hb)
   go_ret
   exact ⟨ret_bool (by rw [HR.out]), by first | exact ((Below.refl _ _).alloc (Nat.le_refl _) _).trans (hb.mono (by simp)) | go_grown⟩
 · have hm : matchB op = false := by simpa using hm
   rw [hm] at HM
   have HR : Hid (allowedB k op = (opsK k).contains op) := Lib.hid (by rw [allowedB, hm]; rfl)
   have HM := Lib.hid HM
   clear hm
   by_cases ho : op = 3 ∨ op = 4 ∨ op = 5 ∨ op = 6
   · by_cases hk : k = 6 ∨ k = 7 ∨ k = 15 ∨ k = 17 ∨ k = 18 ∨ k = 19 ∨ k = 16 ∨ k = 20 ∨ k = 21 ∨ k = 22 ∨ k = 23 ∨ k = 24
     · rcases hk with rfl | rfl | rfl | rfl | rfl | rfl | rfl | rfl | rfl | rfl | rfl | rfl
       all_goals
        rcases ho with rfl | rfl | rfl | rfl
       all_goals
        go_enter Tryz.func152, Tryz.ntmps152
        go_wp2_with (go_at_call 179; refine (HM.out _).mono ?_; rintro e w1 ⟨rfl, hb⟩; obtain ⟨c0, c1, c2, c3⟩ := box4 hb)
        go_ret
        exact ⟨ret_bool (by rw [HR.out]; decide), ((Below.refl _ _).alloc (Nat.le_refl _) _).trans (hb.mono (by simp))⟩
     · have HN := Lib.hid (opsK_nil hk)
       obtain ⟨n6, n7, n15, n17, n18, n19, n16, n20, n21, n22, n23, n24⟩ : (k == 6) = false ∧ (k == 7) = false ∧ (k == 15) = false ∧ (k == 17) = false ∧ (k == 18) = false ∧ (k == 19) = false ∧ (k == 16) = false ∧ (k == 20) = false ∧ (k == 21) = false ∧ (k == 22) = false ∧ (k == 23) = false ∧ (k == 24) = false := by simp only [not_or] at hk; simp [hk]
       clear hk ho
       go_enter Tryz.func152, Tryz.ntmps152
       go_wp2_with (go_at_call 179; refine (HM.out _).mono ?_; rintro e w1 ⟨rfl, hb⟩; obtain ⟨c0, c1, c2, c3⟩ := box4 hb)
       go_ret
       exact ⟨ret_bool (by rw [HR.out, HN.out]; rfl), ((Below.refl _ _).alloc (Nat.le_refl _) _).trans (hb.mono (by simp))⟩
   · have HN := Lib.hid (opsK_no (k := k) ho)
     have e3 : (op == 3) = false := by simp only [not_or] at ho; simp [ho]
     have e4 : (op == 4) = false := by simp only [not_or] at ho; simp [ho]
     have e5 : (op == 5) = false := by simp only [not_or] at ho; simp [ho]
     have e6 : (op == 6) = false := by simp only [not_or] at ho; simp [ho]
     have l3 : op < 3 ∨ 6 < op := by omega
     clear ho
     by_cases hk : k = 6 ∨ k = 7 ∨ k = 15 ∨ k = 17 ∨ k = 18 ∨ k = 19 ∨ k = 16 ∨ k = 20 ∨ k = 21 ∨ k = 22 ∨ k = 23 ∨ k = 24
     · rcases hk with rfl | rfl | rfl | rfl | rfl | rfl | rfl | rfl | rfl | rfl | rfl | rfl
       all_goals
        rcases l3 with l3 | l3
       all_goals
        go_enter Tryz.func152, Tryz.ntmps152
        go_wp2_with (go_at_call 179; refine (HM.out _).mono ?_; rintro e w1 ⟨rfl, hb⟩; obtain ⟨c0, c1, c2, c3⟩ := box4 hb)
        go_ret
        exact ⟨ret_bool (by rw [HR.out, HN.out]; try (simp; omega)), ((Below.refl _ _).alloc (Nat.le_refl _) _).trans (hb.mono (by simp))⟩
     · obtain ⟨n6, n7, n15, n17, n18, n19, n16, n20, n21, n22, n23, n24⟩ : (k == 6) = false ∧ (k == 7) = false ∧ (k == 15) = false ∧ (k == 17) = false ∧ (k == 18) = false ∧ (k == 19) = false ∧ (k == 16) = false ∧ (k == 20) = false ∧ (k == 21) = false ∧ (k == 22) = false ∧ (k == 23) = false ∧ (k == 24) = false := by simp only [not_or] at hk; simp [hk]
       clear hk l3
       go_enter Tryz.func152, Tryz.ntmps152
       go_wp2_with (go_at_call 179; refine (HM.out _).mono ?_; rintro e w1 ⟨rfl, hb⟩; obtain ⟨c0, c1, c2, c3⟩ := box4 hb)
       go_ret
       exact ⟨ret_bool (by rw [HR.out, HN.out]; try (simp; omega)), ((Below.refl _ _).alloc (Nat.le_refl _) _).trans (hb.mono (by simp))⟩
theorem named_14 (nm : ByteArray) (p : Bool) (h : (L nm == programL || L nm == parentL || L nm == builtinL) = p) : namedB 14 (L nm) = p := by
 rw [← h]; rfl
set_option maxRecDepth 100000 in
set_option maxHeartbeats 4000000 in
theorem RNamed_any (t : Tm) (w : World) (hs : t.name.size ≤ 9223372036854775807) : Calls Tryz.prog 151 #[tmV t] w fun e w' => e = .returned (.bool (namedB t.key (L t.name))) ∧ Below w.heap.size w w' := by
 obtain ⟨k, nm, op, v⟩ := t
 unfold tmV
 dsimp only at hs ⊢
 have HV := fun W => RValid_any nm W hs
 have HK := fun W => RKey_any nm W hs
 by_cases h5 : k = 5 ∨ k = 11
 · have HR : Hid (namedB k (L nm) = validS (L nm)) := Lib.hid (by rw [namedB, if_pos h5])
   have HV := Lib.hid HV
   clear HK
   rcases h5 with rfl | rfl
   all_goals
    go_enter Tryz.func151, Tryz.ntmps151
    go_wp2_with (go_at_call 64; refine (HV.out _).mono ?_; rintro e w1 ⟨rfl, rfl⟩)
    go_ret
    exact ⟨ret_bool (by rw [HR.out]), by first | exact ((Below.refl _ _).alloc (Nat.le_refl _) _).trans (hb.mono (by simp)) | go_grown⟩
 have n5 : (k == 5) = false := by simp only [not_or] at h5; simp [h5]
 have n11 : (k == 11) = false := by simp only [not_or] at h5; simp [h5]
 by_cases h6 : k = 6
 · subst h6
   have HR : Hid (namedB 6 (L nm) = keyS (L nm)) := Lib.hid rfl
   have HK := Lib.hid HK
   clear HV h5
   go_enter Tryz.func151, Tryz.ntmps151
   go_wp2_with (go_at_call 178; refine (HK.out _).mono ?_; rintro e w1 ⟨rfl, rfl⟩)
   go_ret
   exact ⟨ret_bool (by rw [HR.out]), by first | exact ((Below.refl _ _).alloc (Nat.le_refl _) _).trans (hb.mono (by simp)) | go_grown⟩
 clear HV HK
 by_cases h14 : k = 14
 · subst h14
   clear h5 h6 n5 n11
   by_cases e1 : nm.toList = programL
   · have HR : Hid (namedB 14 (L nm) = true) := Lib.hid (named_14 _ _ (by rw [← tl, e1]; rfl))
     unfold programL at e1
     go_enter Tryz.func151, Tryz.ntmps151
     go_wp2
     go_ret
     exact ⟨ret_bool (by rw [HR.out]), by go_grown⟩
   · by_cases e2 : nm.toList = parentL
     · have HR : Hid (namedB 14 (L nm) = true) := Lib.hid (named_14 _ _ (by rw [← tl, e2]; rfl))
       unfold parentL at e2
       unfold programL at e1
       go_enter Tryz.func151, Tryz.ntmps151
       go_wp2
       go_ret
       exact ⟨ret_bool (by rw [HR.out]), by go_grown⟩
     · have HR : Hid (namedB 14 (L nm) = (nm.toList == builtinL)) := Lib.hid (named_14 _ _ (by rw [← tl]; simp [e1, e2]))
       unfold programL at e1
       unfold parentL at e2
       go_enter Tryz.func151, Tryz.ntmps151
       go_wp2
       go_ret
       exact ⟨ret_bool (by rw [HR.out]; simp [builtinL, e1, e2]), by go_grown⟩
 have n6 : (k == 6) = false := by simp [h6]
 have n14 : (k == 14) = false := by simp [h14]
 have HR : Hid (namedB k (L nm) = (L nm).isEmpty) := Lib.hid (by simp only [namedB, h5, h6, h14, if_false])
 clear h5 h6 h14
 go_enter Tryz.func151, Tryz.ntmps151
 go_wp2
 go_ret
 exact ⟨ret_bool (by rw [HR.out, ← tl] <;> simp), by go_grown⟩
end Go.Proofs.YtibflgfhjfcifaaGreatDoor
