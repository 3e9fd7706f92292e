/-
  Contract of the reference's Format of tokens.
-/
import Derived.Test.YthcgkeiggnfgiaaGreatDoorG21
import Derived.Test.YthcgkeiggnfgiaaGreatDoorG22
import Derived.Test.YthcgkeiggnfgiaaGreatDoorRefR
namespace Go.Proofs.YthcgkeiggnfgiaaGreatDoor
open Go.RowKit
theorem ReplQ (s : ByteArray) (W : World) (hE : Env0 W) (hs : s.size ≤ 1000000) :
    Calls Tryz.prog 124 #[.string s, .string ⟨#[34]⟩, .string ⟨#[92, 34]⟩] W fun e w' => e = .returned (.string (bs (Lib.replaceAll (L s) [34] [92, 34]))) ∧ Below W.heap.size W w' := by
  obtain ⟨m, hm⟩ := hE.maxLen
  have hc := Lib.countB_le ⟨#[34]⟩ (by show 1 ≤ 1; omega) s.size s (Nat.le_refl _)
  exact Tryz.strings_ReplaceAll s ⟨#[34]⟩ ⟨#[92, 34]⟩ m W (by omega) hm (by show 1 ≤ 1; omega) (by show s.size + _ * 2 ≤ _; omega)
theorem replQ_len (s : Str) : (Lib.replaceAll s [34] [92, 34]).length ≤ 2 * s.length := by
  rw [replaceAll1 _ _ _ (by simp)]
  exact flat_len2 34 [92, 34] (by simp) s
/-- A token of moderate size. -/
structure TkSmall (x : Tk) : Prop where
  key : x.key.size ≤ 1000
  name : x.name.size ≤ 1000
  op : x.op.size ≤ 1000
  value : x.value.size ≤ 1000
theorem RowAt.tk {w wr : World} {B : Nat} {A : Option Addr} {l : List Tk} (h : RowAt w B A 4 l.length (cellsOf encTk l)) (hb : Below B w wr) {k : Nat} (hk : k < l.length) : ∃ ba off, A = some ⟨ba, off, none⟩ ∧ ba < B ∧
    wr.cell? ⟨ba, off + k * 4, none⟩ = some (.string l[k].key) ∧ wr.cell? ⟨ba, off + k * 4 + 1, none⟩ = some (.string l[k].name) ∧ wr.cell? ⟨ba, off + k * 4 + 2, none⟩ = some (.string l[k].op) ∧ wr.cell? ⟨ba, off + k * 4 + 3, none⟩ = some (.string l[k].value) := by
  obtain ⟨ba, off, hA, hba, hc⟩ := h.cell encTk_len hk
  have hx : l[k]? = some l[k] := List.getElem?_eq_getElem hk
  refine ⟨ba, off, hA, hba, ?_, ?_, ?_, ?_⟩
  · rw [hb.cell (p := ⟨ba, off + k * 4, none⟩) hba]; exact hc k _ hx 0 _ rfl
  · rw [hb.cell (p := ⟨ba, off + k * 4 + 1, none⟩) hba]; exact hc k _ hx 1 _ rfl
  · rw [hb.cell (p := ⟨ba, off + k * 4 + 2, none⟩) hba]; exact hc k _ hx 2 _ rfl
  · rw [hb.cell (p := ⟨ba, off + k * 4 + 3, none⟩) hba]; exact hc k _ hx 3 _ rfl
def FmtPost (l : List Tk) (w : World) (e : Ending) (w' : World) : Prop := e = .returned (.tuple #[.string (bs (fmtS l).1), .int .i64 (fmtS l).2]) ∧ Below w.heap.size w w'
theorem fmtS_bad {l : List Tk} {x : Tk} (hx : x ∈ l) (h : goodB x = false) : fmtS l = ([], 82) := by
  unfold fmtS
  rw [if_neg (by rw [List.all_eq_true]; intro hh; rw [hh x hx] at h; cases h)]
set_option maxRecDepth 100000 in
set_option maxHeartbeats 8000000 in
theorem RLFormat_any (A : Option Addr) (c : Nat) (l : List Tk) (w : World) (hE : Env0 w) (h : RowAt w w.heap.size A 4 l.length (cellsOf encTk l)) (hl : l.length ≤ 100) (hsm : ∀ x ∈ l, TkSmall x) :
    Calls Tryz.prog 83 #[.slice A l.length c] w (FmtPost l w) := by
  have HE := Lib.hid hE
  have HR := Lib.hid h
  have HK := Lib.hid hsm
  clear hE h hsm
  obtain ⟨N, hN⟩ : ∃ N, l.length = N := ⟨_, rfl⟩
  have HN := Lib.hid hN
  rw [hN] at hl ⊢
  clear hN
  go_enter Tryz.func83, Tryz.ntmps83
  go_wp2
  go_loopg [4, 5] (N + 1) (fun gk s4 s5 wr => ∃ (k : Nat) (sb : ByteArray), s5 = .int .i64 k ∧ k + gk = N + 1 ∧ k ≤ N ∧ s4 = .string sb ∧ sb.size ≤ k * 10000 ∧ Hid (L sb = fmtF (l.take k)) ∧ Hid ((l.take k).all goodB = true) ∧ Hid (Below w.heap.size w wr))
  case atStart => exact ⟨0, ⟨#[]⟩, rfl, by omega, Nat.zero_le _, rfl, Nat.zero_le _, rfl, rfl, Below.refl _ _⟩
  case round =>
    obtain ⟨k, sb, rfl, hkg, hkN, rfl, hsb, hL, hG, hW⟩ := hrel
    by_cases hlt : k < N
    · have hltI : (k : Int) < (N : Int) := by omega
      have hk : k < l.length := by rw [HN.out]; exact hlt
      obtain ⟨ba, off, rfl, hba, c0, c1, c2, c3⟩ := HR.out.tk hW.out hk
      have ht : l.take (k + 1) = l.take k ++ [l[k]] := List.take_succ_eq_append_getElem hk
      have HT := Lib.hid ht
      clear ht
      have hxs := HK.out l[k] (List.getElem_mem _)
      have hbad : goodB l[k] = false → fmtS l = ([], 82) := fmtS_bad (List.getElem_mem _)
      have HBad := Lib.hid hbad
      clear hbad
      generalize l[k] = t at *
      have HGd := Lib.hid (fun W => Good_any t W (by have := hxs.key; omega) (by have := hxs.name; omega) (by have := hxs.value; omega))
      obtain ⟨z1, z2, z3, z4⟩ := hxs
      cases hgd : goodB t
      · rw [hgd] at HGd
        have HF := Lib.hid (HBad.out hgd)
        obtain ⟨key, name, op, value⟩ := t
        unfold tkV at HGd
        dsimp only at c0 c1 c2 c3 HGd
        clear hk hgd
        go_wp2_with (go_at_call 128; refine (HGd.out _).mono ?_; rintro e w1 ⟨rfl, hb1⟩)
        go_ret2
        unfold FmtPost
        rw [HF.out]
        exact ⟨rfl, bt hW.out hb1⟩
      · rw [hgd] at HGd
        have hG2 : (l.take (k + 1)).all goodB = true := by rw [HT.out, List.all_append, hG.out]; simp [hgd]
        have HG2 := Lib.hid hG2
        obtain ⟨key, name, op, value⟩ := t
        unfold tkV at HGd
        dsimp only at c0 c1 c2 c3 HGd z1 z2 z3 z4
        have HRq := Lib.hid (fun W (hW : Env0 W) => ReplQ value W hW (by omega))
        have hql := replQ_len (L value)
        rw [len_L] at hql
        have HFt : Hid (fmtT ⟨key, name, op, value⟩ = L key ++ (if (L name).isEmpty then [] else [123] ++ L name ++ [125]) ++ (L op ++ [34] ++ Lib.replaceAll (L value) [34] [92, 34] ++ [34])) := Lib.hid rfl
        have HSn := Lib.hid (fmtF_snoc (l.take k) ⟨key, name, op, value⟩)
        generalize Lib.replaceAll (L value) [34] [92, 34] = rq at *
        clear hk hgd hG2 HBad
        have hzq : (bs rq).size ≤ 2000 := by rw [size_bs]; omega
        have HBq : Hid (L (bs rq) = rq) := Lib.hid (L_bs rq)
        generalize bs rq = bq at *
        have HLs := hL
        have LQ := HBq
        by_cases hk0 : k = 0
        · subst hk0
          simp only [Nat.zero_mul, Nat.add_zero] at c0 c1 c2 c3 hsb
          by_cases hnm : name.toList = []
          · have hne : name.toList.isEmpty = true := by rw [hnm]; rfl
            go_upto_region 12 with (go_at_call 128; refine (HGd.out _).mono ?_; rintro e w1 ⟨rfl, hb1⟩; have HW1 := Lib.hid (bt hW.out hb1); have d2 := (hb1.cell (p := ⟨ba, off + 2, none⟩) (Nat.lt_of_lt_of_le hba hW.out.size)).trans c2; have d3 := (hb1.cell (p := ⟨ba, off + 3, none⟩) (Nat.lt_of_lt_of_le hba hW.out.size)).trans c3; have d0 := (hb1.cell (p := ⟨ba, off, none⟩) (Nat.lt_of_lt_of_le hba hW.out.size)).trans c0; have d1 := (hb1.cell (p := ⟨ba, off + 1, none⟩) (Nat.lt_of_lt_of_le hba hW.out.size)).trans c1; clear hb1)
            obtain ⟨pre, hpre⟩ : ∃ pre : ByteArray, sb ++ key = pre := ⟨_, rfl⟩
            have HPre : Hid (L pre = [] ++ L key ++ []) := Lib.hid (by rw [← hpre]; simp only [L_append, HLs.out]; try simp [L, fmtF])
            have hps : pre.size ≤ 4000 := by
              rw [← hpre]
              simp only [ByteArray.size_append]
              have e1 : (⟨#[44, 32]⟩ : ByteArray).size = 2 := rfl
              have e2 : (⟨#[123]⟩ : ByteArray).size = 1 := rfl
              have e3 : (⟨#[125]⟩ : ByteArray).size = 1 := rfl
              omega
            try rw [hpre]
            clear hpre
            clear c0 c1 c2 c3 d0 d1
            have hS : ∀ W', Below w1.heap.size w1 W' → W'.cell? ⟨ba, off + 2, none⟩ = some (.string op) ∧ W'.cell? ⟨ba, off + 3, none⟩ = some (.string value) := fun W' hb => ⟨(hb.cell (p := ⟨ba, off + 2, none⟩) (Nat.lt_of_lt_of_le hba HW1.out.size)).trans d2, (hb.cell (p := ⟨ba, off + 3, none⟩) (Nat.lt_of_lt_of_le hba HW1.out.size)).trans d3⟩
            have HS := Lib.hid hS
            clear hS
            have q1 : (9223372036854775807 < op.size + 1) = False := by simp; omega
            have q2 : (9223372036854775807 < op.size + 1 + bq.size) = False := by simp; omega
            have q3 : (9223372036854775807 < op.size + 1 + bq.size + 1) = False := by simp; omega
            have q4 : (9223372036854775807 < pre.size + (op.size + 1 + bq.size + 1)) = False := by simp; omega
            go_region_held3 (fun W' => W'.cell? ⟨ba, off + 2, none⟩ = some (.string op) ∧ W'.cell? ⟨ba, off + 3, none⟩ = some (.string value)) (first | exact HS.out _ (Below.refl _ _).drew | exact HS.out _ ((Below.refl _ _).drew.trans (hb0.mono (Nat.le_refl _)))) ((go_at_call 124; refine (HRq.out _ (HE.out.go (bt HW1.out (Below.refl _ _).drew))).mono ?_; rintro e w0 ⟨rfl, hb0⟩))
            have HW0 := Lib.hid (bt HW1.out ((Below.refl _ _).drew.trans hb0))
            clear hb0 q1 q2 q3 q4
            go_wp2
            go_roundg (gk - 1)
            case measure => omega
            case rel =>
              refine ⟨0 + 1, _, by go_num, by omega, by omega, rfl, ?_, ?_, HG2.out, HW0.out⟩
              · simp only [ByteArray.size_append]
                have e1 : (⟨#[34]⟩ : ByteArray).size = 1 := rfl
                omega
              · show _ = _
                rw [HT.out, HSn.out, HFt.out, L_append, HPre.out, L_append, L_append, L_append, LQ.out]
                rw [show (l.take 0).isEmpty = true from rfl]
                rw [show (L name).isEmpty = true from by rw [← tl, hnm]; rfl]
                simp [L]
          · have hne : name.toList.isEmpty = false := by rw [tl]; exact L_ne hnm
            go_upto_region 12 with (go_at_call 128; refine (HGd.out _).mono ?_; rintro e w1 ⟨rfl, hb1⟩; have HW1 := Lib.hid (bt hW.out hb1); have d2 := (hb1.cell (p := ⟨ba, off + 2, none⟩) (Nat.lt_of_lt_of_le hba hW.out.size)).trans c2; have d3 := (hb1.cell (p := ⟨ba, off + 3, none⟩) (Nat.lt_of_lt_of_le hba hW.out.size)).trans c3; have d0 := (hb1.cell (p := ⟨ba, off, none⟩) (Nat.lt_of_lt_of_le hba hW.out.size)).trans c0; have d1 := (hb1.cell (p := ⟨ba, off + 1, none⟩) (Nat.lt_of_lt_of_le hba hW.out.size)).trans c1; clear hb1)
            obtain ⟨pre, hpre⟩ : ∃ pre : ByteArray, sb ++ key ++ (⟨#[123]⟩ ++ name ++ ⟨#[125]⟩) = pre := ⟨_, rfl⟩
            have HPre : Hid (L pre = [] ++ L key ++ ([123] ++ L name ++ [125])) := Lib.hid (by rw [← hpre]; simp only [L_append, HLs.out]; try simp [L, fmtF])
            have hps : pre.size ≤ 4000 := by
              rw [← hpre]
              simp only [ByteArray.size_append]
              have e1 : (⟨#[44, 32]⟩ : ByteArray).size = 2 := rfl
              have e2 : (⟨#[123]⟩ : ByteArray).size = 1 := rfl
              have e3 : (⟨#[125]⟩ : ByteArray).size = 1 := rfl
              omega
            try rw [hpre]
            clear hpre
            clear c0 c1 c2 c3 d0 d1
            have hS : ∀ W', Below w1.heap.size w1 W' → W'.cell? ⟨ba, off + 2, none⟩ = some (.string op) ∧ W'.cell? ⟨ba, off + 3, none⟩ = some (.string value) := fun W' hb => ⟨(hb.cell (p := ⟨ba, off + 2, none⟩) (Nat.lt_of_lt_of_le hba HW1.out.size)).trans d2, (hb.cell (p := ⟨ba, off + 3, none⟩) (Nat.lt_of_lt_of_le hba HW1.out.size)).trans d3⟩
            have HS := Lib.hid hS
            clear hS
            have q1 : (9223372036854775807 < op.size + 1) = False := by simp; omega
            have q2 : (9223372036854775807 < op.size + 1 + bq.size) = False := by simp; omega
            have q3 : (9223372036854775807 < op.size + 1 + bq.size + 1) = False := by simp; omega
            have q4 : (9223372036854775807 < pre.size + (op.size + 1 + bq.size + 1)) = False := by simp; omega
            go_region_held3 (fun W' => W'.cell? ⟨ba, off + 2, none⟩ = some (.string op) ∧ W'.cell? ⟨ba, off + 3, none⟩ = some (.string value)) (first | exact HS.out _ (Below.refl _ _).drew | exact HS.out _ ((Below.refl _ _).drew.trans (hb0.mono (Nat.le_refl _)))) ((go_at_call 124; refine (HRq.out _ (HE.out.go (bt HW1.out (Below.refl _ _).drew))).mono ?_; rintro e w0 ⟨rfl, hb0⟩))
            have HW0 := Lib.hid (bt HW1.out ((Below.refl _ _).drew.trans hb0))
            clear hb0 q1 q2 q3 q4
            go_wp2
            go_roundg (gk - 1)
            case measure => omega
            case rel =>
              refine ⟨0 + 1, _, by go_num, by omega, by omega, rfl, ?_, ?_, HG2.out, HW0.out⟩
              · simp only [ByteArray.size_append]
                have e1 : (⟨#[34]⟩ : ByteArray).size = 1 := rfl
                omega
              · show _ = _
                rw [HT.out, HSn.out, HFt.out, L_append, HPre.out, L_append, L_append, L_append, LQ.out]
                rw [show (l.take 0).isEmpty = true from rfl]
                rw [show (L name).isEmpty = false from L_ne hnm]
                simp [L]
        · have hk0I : (0 : Int) < (k : Int) := by omega
          have HNe : Hid ((l.take k).isEmpty = false) := Lib.hid (by
            rw [List.isEmpty_eq_false_iff]
            intro e
            have := congrArg List.length e
            rw [List.length_take, HN.out] at this
            simp at this
            omega)
          by_cases hnm : name.toList = []
          · have hne : name.toList.isEmpty = true := by rw [hnm]; rfl
            go_upto_region 12 with (go_at_call 128; refine (HGd.out _).mono ?_; rintro e w1 ⟨rfl, hb1⟩; have HW1 := Lib.hid (bt hW.out hb1); have d2 := (hb1.cell (p := ⟨ba, off + k * 4 + 2, none⟩) (Nat.lt_of_lt_of_le hba hW.out.size)).trans c2; have d3 := (hb1.cell (p := ⟨ba, off + k * 4 + 3, none⟩) (Nat.lt_of_lt_of_le hba hW.out.size)).trans c3; have d0 := (hb1.cell (p := ⟨ba, off + k * 4, none⟩) (Nat.lt_of_lt_of_le hba hW.out.size)).trans c0; have d1 := (hb1.cell (p := ⟨ba, off + k * 4 + 1, none⟩) (Nat.lt_of_lt_of_le hba hW.out.size)).trans c1; clear hb1)
            obtain ⟨pre, hpre⟩ : ∃ pre : ByteArray, sb ++ ⟨#[44, 32]⟩ ++ key = pre := ⟨_, rfl⟩
            have HPre : Hid (L pre = (fmtF (l.take k) ++ [44, 32]) ++ L key ++ []) := Lib.hid (by rw [← hpre]; simp only [L_append, HLs.out]; try simp [L])
            have hps : pre.size ≤ k * 10000 + 4000 := by
              rw [← hpre]
              simp only [ByteArray.size_append]
              have e1 : (⟨#[44, 32]⟩ : ByteArray).size = 2 := rfl
              have e2 : (⟨#[123]⟩ : ByteArray).size = 1 := rfl
              have e3 : (⟨#[125]⟩ : ByteArray).size = 1 := rfl
              omega
            try rw [hpre]
            clear hpre
            clear c0 c1 c2 c3 d0 d1
            have hS : ∀ W', Below w1.heap.size w1 W' → W'.cell? ⟨ba, off + k * 4 + 2, none⟩ = some (.string op) ∧ W'.cell? ⟨ba, off + k * 4 + 3, none⟩ = some (.string value) := fun W' hb => ⟨(hb.cell (p := ⟨ba, off + k * 4 + 2, none⟩) (Nat.lt_of_lt_of_le hba HW1.out.size)).trans d2, (hb.cell (p := ⟨ba, off + k * 4 + 3, none⟩) (Nat.lt_of_lt_of_le hba HW1.out.size)).trans d3⟩
            have HS := Lib.hid hS
            clear hS
            have q1 : (9223372036854775807 < op.size + 1) = False := by simp; omega
            have q2 : (9223372036854775807 < op.size + 1 + bq.size) = False := by simp; omega
            have q3 : (9223372036854775807 < op.size + 1 + bq.size + 1) = False := by simp; omega
            have q4 : (9223372036854775807 < pre.size + (op.size + 1 + bq.size + 1)) = False := by simp; omega
            go_region_held3 (fun W' => W'.cell? ⟨ba, off + k * 4 + 2, none⟩ = some (.string op) ∧ W'.cell? ⟨ba, off + k * 4 + 3, none⟩ = some (.string value)) (first | exact HS.out _ (Below.refl _ _).drew | exact HS.out _ ((Below.refl _ _).drew.trans (hb0.mono (Nat.le_refl _)))) ((go_at_call 124; refine (HRq.out _ (HE.out.go (bt HW1.out (Below.refl _ _).drew))).mono ?_; rintro e w0 ⟨rfl, hb0⟩))
            have HW0 := Lib.hid (bt HW1.out ((Below.refl _ _).drew.trans hb0))
            clear hb0 q1 q2 q3 q4
            go_wp2
            go_roundg (gk - 1)
            case measure => omega
            case rel =>
              refine ⟨k + 1, _, by go_num, by omega, by omega, rfl, ?_, ?_, HG2.out, HW0.out⟩
              · simp only [ByteArray.size_append]
                have e1 : (⟨#[34]⟩ : ByteArray).size = 1 := rfl
                omega
              · show _ = _
                rw [HT.out, HSn.out, HFt.out, L_append, HPre.out, L_append, L_append, L_append, LQ.out]
                rw [HNe.out]
                rw [show (L name).isEmpty = true from by rw [← tl, hnm]; rfl]
                simp [L]
          · have hne : name.toList.isEmpty = false := by rw [tl]; exact L_ne hnm
            go_upto_region 12 with (go_at_call 128; refine (HGd.out _).mono ?_; rintro e w1 ⟨rfl, hb1⟩; have HW1 := Lib.hid (bt hW.out hb1); have d2 := (hb1.cell (p := ⟨ba, off + k * 4 + 2, none⟩) (Nat.lt_of_lt_of_le hba hW.out.size)).trans c2; have d3 := (hb1.cell (p := ⟨ba, off + k * 4 + 3, none⟩) (Nat.lt_of_lt_of_le hba hW.out.size)).trans c3; have d0 := (hb1.cell (p := ⟨ba, off + k * 4, none⟩) (Nat.lt_of_lt_of_le hba hW.out.size)).trans c0; have d1 := (hb1.cell (p := ⟨ba, off + k * 4 + 1, none⟩) (Nat.lt_of_lt_of_le hba hW.out.size)).trans c1; clear hb1)
            obtain ⟨pre, hpre⟩ : ∃ pre : ByteArray, sb ++ ⟨#[44, 32]⟩ ++ key ++ (⟨#[123]⟩ ++ name ++ ⟨#[125]⟩) = pre := ⟨_, rfl⟩
            have HPre : Hid (L pre = (fmtF (l.take k) ++ [44, 32]) ++ L key ++ ([123] ++ L name ++ [125])) := Lib.hid (by rw [← hpre]; simp only [L_append, HLs.out]; try simp [L, fmtF])
            have hps : pre.size ≤ k * 10000 + 4000 := by
              rw [← hpre]
              simp only [ByteArray.size_append]
              have e1 : (⟨#[44, 32]⟩ : ByteArray).size = 2 := rfl
              have e2 : (⟨#[123]⟩ : ByteArray).size = 1 := rfl
              have e3 : (⟨#[125]⟩ : ByteArray).size = 1 := rfl
              omega
            try rw [hpre]
            clear hpre
            clear c0 c1 c2 c3 d0 d1
            have hS : ∀ W', Below w1.heap.size w1 W' → W'.cell? ⟨ba, off + k * 4 + 2, none⟩ = some (.string op) ∧ W'.cell? ⟨ba, off + k * 4 + 3, none⟩ = some (.string value) := fun W' hb => ⟨(hb.cell (p := ⟨ba, off + k * 4 + 2, none⟩) (Nat.lt_of_lt_of_le hba HW1.out.size)).trans d2, (hb.cell (p := ⟨ba, off + k * 4 + 3, none⟩) (Nat.lt_of_lt_of_le hba HW1.out.size)).trans d3⟩
            have HS := Lib.hid hS
            clear hS
            have q1 : (9223372036854775807 < op.size + 1) = False := by simp; omega
            have q2 : (9223372036854775807 < op.size + 1 + bq.size) = False := by simp; omega
            have q3 : (9223372036854775807 < op.size + 1 + bq.size + 1) = False := by simp; omega
            have q4 : (9223372036854775807 < pre.size + (op.size + 1 + bq.size + 1)) = False := by simp; omega
            go_region_held3 (fun W' => W'.cell? ⟨ba, off + k * 4 + 2, none⟩ = some (.string op) ∧ W'.cell? ⟨ba, off + k * 4 + 3, none⟩ = some (.string value)) (first | exact HS.out _ (Below.refl _ _).drew | exact HS.out _ ((Below.refl _ _).drew.trans (hb0.mono (Nat.le_refl _)))) ((go_at_call 124; refine (HRq.out _ (HE.out.go (bt HW1.out (Below.refl _ _).drew))).mono ?_; rintro e w0 ⟨rfl, hb0⟩))
            have HW0 := Lib.hid (bt HW1.out ((Below.refl _ _).drew.trans hb0))
            clear hb0 q1 q2 q3 q4
            go_wp2
            go_roundg (gk - 1)
            case measure => omega
            case rel =>
              refine ⟨k + 1, _, by go_num, by omega, by omega, rfl, ?_, ?_, HG2.out, HW0.out⟩
              · simp only [ByteArray.size_append]
                have e1 : (⟨#[34]⟩ : ByteArray).size = 1 := rfl
                omega
              · show _ = _
                rw [HT.out, HSn.out, HFt.out, L_append, HPre.out, L_append, L_append, L_append, LQ.out]
                rw [HNe.out]
                rw [show (L name).isEmpty = false from L_ne hnm]
                simp [L]
    · obtain rfl : k = N := by omega
      have htk : l.take k = l := List.take_of_length_le (by rw [HN.out]; exact Nat.le_refl _)
      have hL' := hL.out
      have hG' := hG.out
      rw [htk] at hL' hG'
      have hlen : (fmtF l).length = sb.size := by rw [← hL', len_L]
      have hsb' : sb = bs (fmtF l) := eq_bs hL'
      by_cases h1024 : 1024 < sb.size
      · have h1I : (1024 : Int) < (sb.size : Int) := by omega
        have HF : Hid (fmtS l = ([], 81)) := Lib.hid (by unfold fmtS; rw [if_pos hG', if_pos (by rw [hlen]; exact h1024)])
        clear htk hL' hG' hlen hsb' h1024
        go_wp2
        go_ret2
        unfold FmtPost
        rw [HF.out]
        exact ⟨rfl, hW.out⟩
      · have h1I : (sb.size : Int) ≤ 1024 := by omega
        have HF : Hid (fmtS l = (fmtF l, 0)) := Lib.hid (by unfold fmtS; rw [if_pos hG', if_neg (by rw [hlen]; exact h1024)])
        have HSb := Lib.hid hsb'
        clear htk hL' hG' hlen hsb' h1024
        go_wp2
        go_ret2
        unfold FmtPost
        rw [HF.out, ← HSb.out]
        exact ⟨rfl, hW.out⟩
end Go.Proofs.YthcgkeiggnfgiaaGreatDoor
