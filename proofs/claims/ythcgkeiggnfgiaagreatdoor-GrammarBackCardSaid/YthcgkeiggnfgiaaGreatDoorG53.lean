/-
  What proper and Format of the program's lexer say, in plain words; no program in sight.
  Contract of the program's proper: can a token be written.
  Contract of the program's lexer.Format. (Printed by gen_plf.py.)
  Contract of the program's Format of terms. (Printed by gen_pfd.py.)
-/
import Derived.Test.YthcgkeiggnfgiaaGreatDoorG46
import Derived.Lib.Join
import Derived.Test.YthcgkeiggnfgiaaGreatDoorRLC
import Derived.Test.YthcgkeiggnfgiaaGreatDoorPLE
import Derived.Test.YthcgkeiggnfgiaaGreatDoorG48
import Derived.Deep.Onto
namespace Go.Proofs.YthcgkeiggnfgiaaGreatDoor
open Go.RowKit
theorem cnt_iff (f : UInt8 → Bool) (s : Str) : decide (cnt f s < s.length) = !s.all f := by
  induction s with
  | nil => rfl
  | cons c r ih =>
    unfold cnt at ih ⊢
    rw [List.takeWhile_cons, List.all_cons]
    cases hc : f c
    · simp
    · simpa using ih
theorem cnt_yes {f : UInt8 → Bool} {s : Str} (h : ¬ cnt f s < s.length) : s.all f = true := by
  have := cnt_iff f s
  rw [decide_eq_false h] at this
  cases hs : s.all f
  · rw [hs] at this; cases this
  · rfl
theorem cnt_no {f : UInt8 → Bool} {s : Str} (h : cnt f s < s.length) : s.all f = false := by
  have := cnt_iff f s
  rw [decide_eq_true h] at this
  cases hs : s.all f
  · rfl
  · rw [hs] at this; cases this
theorem opS_self {s : Str} (h : s ∈ opsL) : opS s = .ok (s, []) := by
  simp only [opsL, List.mem_cons, List.not_mem_nil, or_false] at h
  rcases h with rfl | rfl | rfl | rfl | rfl | rfl <;> kernel_rfl
theorem op_err {s : Str} {e : Int} (h : opS s = .error e) : opsL.contains s = false := by
  cases hc : opsL.contains s
  · rfl
  · rw [opS_self (by simpa using hc)] at h; cases h
theorem op_ok {s a r : Str} (h : opS s = .ok (a, r)) : opsL.contains s = r.isEmpty := by
  cases hc : opsL.contains s
  · cases r with
    | cons _ _ => rfl
    | nil =>
      exfalso
      unfold opS at h
      cases hf : opsL.find? (fun x => Lib.hasPrefix s x) with
      | none => rw [hf] at h; cases h
      | some x =>
        rw [hf] at h
        injection h with h
        injection h with _ h
        have hm := List.mem_of_find?_eq_some hf
        have hp := List.find?_some hf
        unfold Lib.hasPrefix at hp
        rw [List.isPrefixOf_iff_prefix] at hp
        obtain ⟨t, ht⟩ := hp
        rw [← ht, List.drop_left] at h
        rw [h, List.append_nil] at ht
        rw [← ht] at hc
        simp [hm] at hc
  · rw [opS_self (by simpa using hc)] at h
    injection h with h
    injection h with _ h
    rw [← h]; rfl
theorem idxB_iff (l : Str) (c : UInt8) : decide (0 ≤ Lib.indexByte l c) = l.contains c := by
  induction l with
  | nil => rfl
  | cons b l ih =>
    have hg := Lib.indexByte_ge l c
    unfold Lib.indexByte
    rw [List.contains_cons, ← ih]
    by_cases h : b = c
    · subst h; simp
    · have h1 : (b == c) = false := by simpa using h
      have h2 : (c == b) = false := by simp; exact fun e => h e.symm
      rw [h1, h2, Bool.false_or]
      by_cases h3 : Lib.indexByte l c = -1
      · rw [h3]; rfl
      · have h4 : (Lib.indexByte l c == -1) = false := by simpa using h3
        rw [h4]
        show decide (0 ≤ Lib.indexByte l c + 1) = _
        rw [decide_eq_true (by omega), decide_eq_true (by omega)]
theorem pl_tab (v : Str) : (v.all plC && !decide (0 ≤ Lib.indexByte v 9)) = v.all pr := by
  rw [idxB_iff]
  induction v with
  | nil => rfl
  | cons c r ih =>
    rw [List.all_cons, List.all_cons, List.contains_cons, ← ih]
    by_cases h : c = 9
    · subst h
      rw [show pr 9 = false from by decide]; simp
    · have h1 : (c == 9) = false := by simpa using h
      have h2 : ((9 : UInt8) == c) = false := by simp; exact fun e => h e.symm
      rw [plC, h1, h2, Bool.false_or, Bool.false_or, Bool.and_assoc]
theorem fmtF_join (l : List Tk) : fmtF l = Lib.join (l.map fmtT) [44, 32] := by
  induction l with
  | nil => rfl
  | cons x r ih =>
    rw [List.map_cons, Lib.join_cons]
    cases r with
    | nil => simp [fmtF, Lib.joinTail]
    | cons y t =>
      rw [fmtF, ih, List.map_cons, Lib.join_cons]
      simp [Lib.joinTail]
end Go.Proofs.YthcgkeiggnfgiaaGreatDoor
namespace Go.Proofs.YthcgkeiggnfgiaaGreatDoor
open Go.RowKit
set_option maxRecDepth 100000 in
set_option maxHeartbeats 8000000 in
theorem proper_any (x : Tk) (w : World) (hk : x.key.size ≤ 1000000) (hn : x.name.size ≤ 1000000) (hv : x.value.size ≤ 1000000) :
    Calls Tryz.prog 123 #[tkV x] w fun e w' => e = .returned (.bool (goodB x)) ∧ Below w.heap.size w w' := by
  have HG := Lib.hid (goodB_and x)
  obtain ⟨key, name, op, value⟩ := x
  unfold tkV
  dsimp only at hk hn hv HG ⊢
  have HCk : Hid (∀ W, Calls Tryz.prog 170 #[.string key, .func (.func 171) #[] #[]] W fun e w' => e = .returned (.int .i64 (cnt upC (L key))) ∧ w' = W) := Lib.hid fun W => (countL_any key W (by omega)).mono fun e w' h => ⟨h.1, h.2.symm⟩
  have HCn : Hid (∀ W, Calls Tryz.prog 170 #[.string name, .func (.func 172) #[] #[]] W fun e w' => e = .returned (.int .i64 (cnt nmC (L name))) ∧ w' = W) := Lib.hid fun W => (countN_any name W (by omega)).mono fun e w' h => ⟨h.1, h.2.symm⟩
  have HSf := Lib.hid (fun W => Tryz.strings_HasSuffix value ⟨#[92]⟩ W (by omega))
  have HOp := Lib.hid (fun W => op_any op W)
  have HPl := Lib.hid (fun W => plain_any value W (by omega))
  have HCt := Lib.hid (fun W => Tryz.strings_Contains_one value 9 W)
  rw [show (value.data.toList : Str) = L value from rfl, show ((⟨#[92]⟩ : ByteArray).data.toList : Str) = [92] from rfl] at HSf
  rw [show (value.data.toList : Str) = L value from rfl] at HCt
  go_enter Tryz.func123, Tryz.ntmps123
  go_wp2_with fail
  have hbx := heap_alloc_new w (.cells #[.string key, .string name, .string op, .string value] 119)
  have hbw := below_alloc w (.cells #[.string key, .string name, .string op, .string value] 119)
  have hlt := blk_lt' hbx
  obtain ⟨W1, hW1⟩ : ∃ W1, w.alloc (.cells #[.string key, .string name, .string op, .string value] 119) = W1 := ⟨_, rfl⟩
  rw [hW1] at hbx hbw hlt ⊢
  have HBW := Lib.hid hbw
  have HBX := Lib.hid hbx
  clear hW1 hbw
  obtain ⟨⟨c0, c1, c2, c3⟩, _⟩ := res4 hbx
  clear hbx
  by_cases hke : key.toList = []
  · have hem : (L key).isEmpty = true := by rw [← tl, hke]; rfl
    have HR : Hid (goodB ⟨key, name, op, value⟩ = false) := Lib.hid (by rw [HG.out, hem]; simp)
    have e1 : key.toList.isEmpty = true := by rw [hke]; rfl
    clear hem
    go_quiet (fail)
    go_wp2
    go_ret
    exact ⟨ret_bool (by rw [HR.out]), below_drewN HBW.out _⟩
  have hem : (L key).isEmpty = false := L_ne hke
  have e1 : key.toList.isEmpty = false := by rw [tl]; exact hem
  rw [hem, Bool.not_false, Bool.true_and] at HG
  clear hem
  by_cases h1 : cnt upC (L key) < key.size
  · have HR : Hid (goodB ⟨key, name, op, value⟩ = false) := Lib.hid (by rw [HG.out, cnt_no (by rw [len_L]; exact h1)]; simp)
    have h1I : (cnt upC (L key) < key.size) = True := eq_true h1
    clear h1
    go_quiet (first | (go_at_call_of 170 (Value.string key); exact Calls.quiet_of_same (HCk.out _)))
    go_wp2
    go_ret
    exact ⟨ret_bool (by rw [HR.out]), below_drewN HBW.out _⟩
  rw [cnt_yes (s := L key) (by rw [len_L]; exact h1), Bool.true_and] at HG
  have h1I : (cnt upC (L key) < key.size) = False := eq_false h1
  clear h1
  by_cases h2 : cnt nmC (L name) < name.size
  · have HR : Hid (goodB ⟨key, name, op, value⟩ = false) := Lib.hid (by rw [HG.out, cnt_no (by rw [len_L]; exact h2)]; simp)
    have h2I : (cnt nmC (L name) < name.size) = True := eq_true h2
    clear h2
    go_quiet (first | (go_at_call_of 170 (Value.string key); exact Calls.quiet_of_same (HCk.out _)) | (go_at_call_of 170 (Value.string name); exact Calls.quiet_of_same (HCn.out _)))
    go_wp2
    go_ret
    exact ⟨ret_bool (by rw [HR.out]), below_drewN HBW.out _⟩
  rw [cnt_yes (s := L name) (by rw [len_L]; exact h2), Bool.true_and] at HG
  have h2I : (cnt nmC (L name) < name.size) = False := eq_false h2
  clear h2
  generalize cnt upC (L key) = n1 at *
  generalize cnt nmC (L name) = n2 at *
  cases hsf : Lib.hasSuffix (L value) [92]
  · rw [hsf] at HSf HG
    clear hsf
    go_quiet (first | (go_at_call_of 170 (Value.string key); exact Calls.quiet_of_same (HCk.out _)) | (go_at_call_of 170 (Value.string name); exact Calls.quiet_of_same (HCn.out _)) | (go_at_call 85; exact Calls.quiet_of_same (HSf.out _)))
    clear HCk HCn HSf h1I h2I
    have HB2 := Lib.hid (below_drewN HBW.out nq)
    have HX2 : Hid ((W1.drewN nq).heap[w.heap.size]? = some (.cells #[.string key, .string name, .string op, .string value] 119 (0, 0))) := Lib.hid HBX.out
    obtain ⟨W2, hW2⟩ : ∃ W2, W1.drewN nq = W2 := ⟨_, rfl⟩
    rw [hW2] at HB2 HX2 ⊢
    clear hW2 c0 c1 c2 c3 HBW HBX hlt
    obtain ⟨⟨c0, c1, c2, c3⟩, _⟩ := res4 HX2.out
    have hlt := blk_lt' HX2.out
    cases hop : opS (L op) with
    | error e =>
      rw [hop] at HOp
      dsimp only [tri] at HOp
      have HR : Hid (goodB ⟨key, name, op, value⟩ = false) := Lib.hid (by rw [HG.out, op_err hop]; simp)
      have hne : (e == 0) = false := by rcases opS_err hop with rfl | rfl <;> rfl
      clear hop
      go_wp2_with (go_at_call 173; refine (HOp.out _).mono ?_; rintro e w3 ⟨rfl, hb3⟩)
      go_ret
      exact ⟨ret_bool (by rw [HR.out]), bt HB2.out hb3⟩
    | ok p =>
      obtain ⟨a, r⟩ := p
      rw [hop] at HOp
      dsimp only [tri] at HOp
      have hcr := op_ok hop
      rw [hcr] at HG
      clear hop hcr
      cases r with
      | cons y t =>
        have HR : Hid (goodB ⟨key, name, op, value⟩ = false) := Lib.hid (by rw [HG.out]; simp)
        have e2 : (bs (y :: t)).toList.isEmpty = false := by rw [tl, L_bs]; rfl
        have e3 : ¬ (bs (y :: t)).toList = [] := by rw [tl, L_bs]; simp
        generalize bs (y :: t) = u at *
        go_wp2_with (go_at_call 173; refine (HOp.out _).mono ?_; rintro e w3 ⟨rfl, hb3⟩)
        go_ret
        exact ⟨ret_bool (by rw [HR.out]), bt HB2.out hb3⟩
      | nil =>
        rw [show bs ([] : Str) = ⟨#[]⟩ from rfl] at HOp
        have hpt := pl_tab (L value)
        rw [← hpt] at HG
        clear hpt
        generalize bs a = u at *
        cases hpl : (L value).all plC
        · rw [hpl] at HPl HG
          have HR : Hid (goodB ⟨key, name, op, value⟩ = false) := Lib.hid (by rw [HG.out]; simp)
          clear hpl
          go_wp2_with (first
            | (go_at_call 173; refine (HOp.out _).mono ?_; rintro e w3 ⟨rfl, hb3⟩; have d3 := (hb3.cell (p := ⟨w.heap.size, 3, none⟩) hlt).trans c3)
            | (go_at_call 126; refine (HPl.out _).mono ?_; rintro e w4 ⟨rfl, hb4⟩))
          go_ret
          exact ⟨ret_bool (by rw [HR.out]), bt HB2.out (bt hb3 hb4)⟩
        · rw [hpl] at HPl HG
          have HR : Hid (goodB ⟨key, name, op, value⟩ = !decide (0 ≤ Lib.indexByte (L value) 9)) := Lib.hid (by rw [HG.out]; simp)
          clear hpl
          generalize decide (0 ≤ Lib.indexByte (L value) 9) = b at *
          go_wp2_with (first
            | (go_at_call 173; refine (HOp.out _).mono ?_; rintro e w3 ⟨rfl, hb3⟩; have d3 := (hb3.cell (p := ⟨w.heap.size, 3, none⟩) hlt).trans c3)
            | (go_at_call 126; refine (HPl.out _).mono ?_; rintro e w4 ⟨rfl, hb4⟩; have f3 := ((bt hb3 hb4).cell (p := ⟨w.heap.size, 3, none⟩) hlt).trans c3)
            | (go_at_call 174; refine (HCt.out _).mono ?_; rintro e w5 ⟨rfl, rfl⟩))
          go_ret
          exact ⟨ret_bool (by rw [HR.out]), bt HB2.out (bt hb3 hb4)⟩
  · rw [hsf] at HSf HG
    have HR : Hid (goodB ⟨key, name, op, value⟩ = false) := Lib.hid (by rw [HG.out]; simp)
    clear hsf
    go_quiet (first | (go_at_call_of 170 (Value.string key); exact Calls.quiet_of_same (HCk.out _)) | (go_at_call_of 170 (Value.string name); exact Calls.quiet_of_same (HCn.out _)) | (go_at_call 85; exact Calls.quiet_of_same (HSf.out _)))
    go_wp2
    go_ret
    exact ⟨ret_bool (by rw [HR.out]), below_drewN HBW.out _⟩
end Go.Proofs.YthcgkeiggnfgiaaGreatDoor
namespace Go.Proofs.YthcgkeiggnfgiaaGreatDoor
open Go.RowKit
theorem join2_len (M : Nat) (l : List Str) (h : ∀ x ∈ l, x.length ≤ M) : (Lib.join l [44, 32]).length ≤ l.length * (M + 2) := by
  induction l with
  | nil => simp [Lib.join]
  | cons x l ih =>
    have h1 := h x (by simp)
    have h2 := ih (fun y hy => h y (by simp [hy]))
    cases l with
    | nil => simp [Lib.join] at h2 ⊢; omega
    | cons y l =>
      have hj : Lib.join (x :: y :: l) [44, 32] = x ++ ([44, 32] ++ Lib.join (y :: l) [44, 32]) := by
        simp [Lib.join, List.intercalate, List.intersperse]
      rw [hj]
      have e := Nat.succ_mul (l.length + 1) (M + 2)
      simp only [Nat.succ_eq_add_one] at e
      simp only [List.length_append, List.length_cons, List.length_nil] at h2 ⊢
      rw [e]
      generalize (l.length + 1) * (M + 2) = Z at *
      omega
/-- strings.Join at a row that is owned. -/
theorem Join2_own (W : World) (base : Nat) (v : Value) (xs : List Str) (M : Nat) (hn : xs.length ≤ M) (hM : M ≤ 4294967) (hx : ∀ x ∈ xs, x.length ≤ M) (h : W.ownsRow base 9 1 v xs.length ((xs.map bs).map Value.string)) :
    Calls Tryz.prog 125 #[v, .string ⟨#[44, 32]⟩] W fun e w' => e = .returned (.string (bs (Lib.join xs [44, 32]))) ∧ Below W.heap.size W w' := by
  have hjl := join2_len M xs hx
  have hmul : xs.length * (M + 2) ≤ 140737488355328 := Nat.le_trans (Nat.mul_le_mul hn (Nat.le_refl (M + 2))) (Nat.le_trans (Nat.mul_le_mul hM (Nat.succ_le_succ (Nat.succ_le_succ hM))) (by decide))
  cases xs with
  | nil =>
    rcases h.2 with ⟨rfl, _⟩ | ⟨g, cap, cur, rfl, _⟩
    · exact (Tryz.strings_Join_none none 0 ⟨#[44, 32]⟩ W).mono fun e w' h => ⟨h.1, by rw [h.2]; exact Below.refl _ _⟩
    · exact (Tryz.strings_Join_none (some ⟨g, 0, none⟩) cap ⟨#[44, 32]⟩ W).mono fun e w' h => ⟨h.1, by rw [h.2]; exact Below.refl _ _⟩
  | cons x xs =>
    have hl : (((x :: xs).map bs).map (·.data.toList)) = x :: xs := by
      rw [List.map_map]
      exact (List.map_congr_left (fun y _ => L_bs y)).trans (List.map_id _)
    rcases h.2 with ⟨_, h0⟩ | ⟨g, cap, cur, rfl, hb, hgg, hroom, _, _, _⟩
    · simp at h0
    · have hc : ∀ (j : Nat) (y : ByteArray), ((x :: xs).map bs)[j]? = some y → W.cell? ⟨g, 0 + j, none⟩ = some (.string y) := fun j y hy => by
        have := h.cells (g := g) rfl j (.string y) (by rw [List.getElem?_map, hy]; rfl)
        have hadd : (⟨g, 0, none⟩ : Addr).add j = ⟨g, j, none⟩ := by unfold Addr.add; split <;> simp_all
        rw [hadd] at this
        rw [Nat.zero_add]; exact this
      have hJ := Tryz.strings_Join g 0 cap ((x :: xs).map bs) ⟨#[44, 32]⟩ W hc (blk_lt hgg) (by rw [List.length_map]; omega) (by rw [List.length_map]; exact hroom) (by rw [hl]; exact Nat.le_trans hjl hmul)
      rw [hl, List.length_map] at hJ
      exact hJ
theorem fmtT_len {x : Tk} (h : TkSmall x) : (fmtT x).length ≤ 6100 := by
  have h1 := h.key; have h2 := h.name; have h3 := h.op; have h4 := h.value
  have hq := replQ_len (L x.value)
  rw [len_L] at hq
  unfold fmtT
  simp only [List.length_append, len_L, List.length_cons, List.length_nil]
  split <;> simp only [List.length_append, len_L, List.length_cons, List.length_nil] <;> omega
set_option maxRecDepth 100000 in
set_option maxHeartbeats 8000000 in
theorem PLFormat_any (A : Option Addr) (c : Nat) (l : List Tk) (w : World) (hE : Env0 w) (h : RowAt w w.heap.size A 4 l.length (cellsOf encTk l)) (hl : l.length ≤ 100) (hsm : ∀ x ∈ l, TkSmall x) :
    Calls Tryz.prog 76 #[.slice A l.length c] w (FmtPost l w) := by
  have HE := Lib.hid hE
  have HR := Lib.hid h
  have HK := Lib.hid hsm
  clear hE h hsm
  obtain ⟨N, hN⟩ : ∃ N, l.length = N := ⟨_, rfl⟩
  have HN := Lib.hid hN
  rw [hN] at hl ⊢
  clear hN
  obtain ⟨i0, hi0, hz0, hz1, hz2⟩ := info_parts strInfo
  have Hi0 := Lib.hid hi0
  have Hz0 := Lib.hid hz0
  have Hz1 := Lib.hid hz1
  have Hz2 := Lib.hid hz2
  clear hi0 hz0 hz1 hz2
  go_enter Tryz.func76, Tryz.ntmps76
  go_wp2
  go_loopg [4, 10] (N + 1) (fun gk s4 s10 wr => ∃ (k : Nat) (v : Value), s10 = .int .i64 k ∧ k + gk = N + 1 ∧ k ≤ N ∧ v = s4 ∧ Hid (wr.ownsRow w.heap.size 9 1 v k (((((l.take k).map fmtT).map bs).map Value.string))) ∧ Hid ((l.take k).all goodB = true) ∧ Hid (Below w.heap.size w wr))
  case atStart => exact ⟨0, _, rfl, by omega, Nat.zero_le _, rfl, World.ownsRow_nil _ _ _ _, rfl, Below.refl _ _⟩
  case round =>
    obtain ⟨k, v, rfl, hkg, hkN, rfl, hO, hG, hW⟩ := hrel
    by_cases hlt : k < N
    · have hltI : (k : Int) < (N : Int) := by omega
      have hk : k < l.length := by rw [HN.out]; exact hlt
      obtain ⟨ba, off, rfl, hba, c0, c1, c2, c3⟩ := HR.out.tk hW.out hk
      have HT := Lib.hid (List.take_succ_eq_append_getElem hk)
      have hxs := HK.out l[k] (List.getElem_mem _)
      have HBad := Lib.hid (fmtS_bad (l := l) (x := l[k]) (List.getElem_mem _))
      generalize l[k] = t at *
      have HPr := Lib.hid (fun W => proper_any t W (by have := hxs.key; omega) (by have := hxs.name; omega) (by have := hxs.value; omega))
      obtain ⟨z1, z2, z3, z4⟩ := hxs
      cases hgd : goodB t
      · rw [hgd] at HPr
        have HF := Lib.hid (HBad.out hgd)
        obtain ⟨key, name, op, value⟩ := t
        unfold tkV at HPr
        dsimp only at c0 c1 c2 c3 HPr
        clear hk hgd
        go_wp2_with (go_at_call 123; refine (HPr.out _).mono ?_; rintro e w1 ⟨rfl, hb1⟩)
        go_ret2
        unfold FmtPost
        rw [HF.out]
        exact ⟨rfl, bt hW.out (bt (below_alloc _ _) hb1)⟩
      · rw [hgd] at HPr
        have HG2 : Hid ((l.take (k + 1)).all goodB = true) := Lib.hid (by rw [HT.out, List.all_append, hG.out]; simp [hgd])
        obtain ⟨key, name, op, value⟩ := t
        unfold tkV at HPr
        dsimp only at c0 c1 c2 c3 HPr z1 z2 z3 z4
        have HRq := Lib.hid (fun W (hW : Env0 W) => ReplQ value W hW (by omega))
        have hql := replQ_len (L value)
        rw [len_L] at hql
        have HFt : Hid (fmtT ⟨key, name, op, value⟩ = L key ++ (if (L name).isEmpty then [] else [123] ++ L name ++ [125]) ++ (L op ++ [34] ++ Lib.replaceAll (L value) [34] [92, 34] ++ [34])) := Lib.hid rfl
        generalize Lib.replaceAll (L value) [34] [92, 34] = rq at *
        clear hk hgd HBad hG
        have hzq : (bs rq).size ≤ 2000 := by rw [size_bs]; omega
        have HBq : Hid (L (bs rq) = rq) := Lib.hid (L_bs rq)
        generalize bs rq = bq at *
        have hwz := hW.out.size
        obtain ⟨g, hg⟩ : ∃ g, wr.heap.size = g := ⟨_, rfl⟩
        have HOr : Hid (∀ j, v.ownBlock = some j → j < g) := Lib.hid fun j e => by have := (hO.out.lt j e).2; omega
        have d1 : (9223372036854775807 < 1 + name.size) = False := by simp; omega
        have d2 : (9223372036854775807 < 1 + name.size + 1) = False := by simp; omega
        have HBase : Hid (∀ W, Below (wr.alloc (.cells #[.string key, .string name, .string op, .string value] 119)).heap.size (wr.alloc (.cells #[.string key, .string name, .string op, .string value] 119)) W → W.heap[g]? = some (.cells #[.string key, .string name, .string op, .string value] 119 (0, 0)) ∧ g < W.heap.size) := Lib.hid fun W hb => by
          subst hg
          have h1 := (hb.block wr.heap.size (by simp)).trans (heap_alloc_new wr _)
          exact ⟨h1, blk_lt' h1⟩
        by_cases hnm : name.toList = []
        · have hne : name.toList.isEmpty = true := by rw [hnm]; rfl
          have hL : (L name).isEmpty = true := by rw [← tl]; exact hne
          have HFx : Hid (fmtT ⟨key, name, op, value⟩ = L key ++ L name ++ (L op ++ [34] ++ rq ++ [34])) := Lib.hid (by rw [HFt.out, hL, if_pos rfl, show L name = [] from by rw [← tl]; exact hnm])
          go_upto_region 9 with (go_at_call 123; refine (HPr.out _).mono ?_; rintro e w2 ⟨rfl, hb2⟩; obtain ⟨hc2, hgl⟩ := HBase.out _ hb2; obtain ⟨⟨c0', c1', c2', c3'⟩, _⟩ := res4 hc2)
          have HG3 : Hid (w2.heap[g]? = some (.cells #[.string key, .string name, .string op, .string value] 119 (0, 0))) := Lib.hid hc2
          have HB3 : Hid (Below w.heap.size w w2) := Lib.hid (bt hW.out (bt (below_alloc _ _) hb2))
          have HO3 : Hid (w2.ownsRow w.heap.size 9 1 v k (((((l.take k).map fmtT).map bs).map Value.string))) := Lib.hid (own_below2 hO.out (bt (below_alloc _ _) hb2))
          clear hc2 hb2 c0' c1' c2' c3' HBase hne hL
          obtain ⟨nb, hnb⟩ : ∃ nb : ByteArray, name = nb := ⟨_, rfl⟩
          rw [hnb] at HG3
          have HFx : Hid (fmtT ⟨key, name, op, value⟩ = L key ++ L nb ++ (L op ++ [34] ++ rq ++ [34])) := Lib.hid (by rw [← hnb]; exact HFx.out)
          have hz5 : nb.size ≤ 1002 := by rw [← hnb]; omega
          clear hnb
          obtain ⟨sx, hsx⟩ : ∃ sx : ByteArray, key ++ nb ++ op ++ ⟨#[34]⟩ ++ bq ++ ⟨#[34]⟩ = sx := ⟨_, rfl⟩
          have HX : Hid ((((l.take (k + 1)).map fmtT).map bs).map Value.string = (((l.take k).map fmtT).map bs).map Value.string ++ [.string sx]) := Lib.hid (by
            have e : bs (fmtT ⟨key, name, op, value⟩) = sx := (eq_bs (by rw [HFx.out, ← hsx]; simp only [L_append, HBq.out]; simp [L])).symm
            rw [HT.out, List.map_append, List.map_append, List.map_append]
            show _ ++ [Value.string (bs (fmtT ⟨key, name, op, value⟩))] = _
            rw [e])
          have HQ := Lib.hid (fun (W : World) (hW : Below w2.heap.size w2 W) => (res4 ((hW.block g hgl).trans HG3.out)).1)
          have hw2s := HB3.out.size
          have q1 : (9223372036854775807 < key.size + nb.size) = False := by simp; omega
          have q2 : (9223372036854775807 < key.size + nb.size + op.size) = False := by simp; omega
          have q3 : (9223372036854775807 < key.size + nb.size + op.size + 1) = False := by simp; omega
          have q4 : (9223372036854775807 < key.size + nb.size + op.size + 1 + bq.size) = False := by simp; omega
          have q5 : (9223372036854775807 < key.size + nb.size + op.size + 1 + bq.size + 1) = False := by simp; omega
          refine wp_region_held_drew (S := fun W' => W'.cell? ⟨g, 0, none⟩ = some (.string key) ∧ W'.cell? ⟨g, 1, none⟩ = some (.string nb) ∧ W'.cell? ⟨g, 2, none⟩ = some (.string op) ∧ W'.cell? ⟨g, 3, none⟩ = some (.string value)) (by kernel_rfl) ?_ (fun hHeld => ?_)
          · exact HQ.out _ (by go_grown)
          refine wpAnyH_take (i := 0) (v := ?_) (by simp only [List.getElem?_toArray, List.getElem?_cons_zero]; rfl) (by kernel_rfl) (by kernel_rfl) (by kernel_rfl) (by exact fun _ _ _ h => h) (Or.inl ⟨by rfl, ?_⟩) (by assumption) ?_
          rotate_left
          · intro w hSw
            go_simp
            try with_reducible rfl
          try simp only [Act.put, List.setIfInBounds_toArray, List.set_cons_zero, List.set_cons_succ]
          refine wpAnyH_take (i := 1) (v := ?_) (by simp only [List.getElem?_toArray, List.getElem?_cons_succ, List.getElem?_cons_zero]; rfl) (by kernel_rfl) (by kernel_rfl) (by kernel_rfl) (by exact fun _ _ _ h => h) (Or.inl ⟨by rfl, ?_⟩) (by assumption) ?_
          rotate_left
          · intro w hSw
            go_simp
            try with_reducible rfl
          try simp only [Act.put, List.setIfInBounds_toArray, List.set_cons_zero, List.set_cons_succ]
          refine wpAnyH_take (i := 2) (v := ?_) (by simp only [List.getElem?_toArray, List.getElem?_cons_succ, List.getElem?_cons_zero]; rfl) (by kernel_rfl) (by kernel_rfl) (by kernel_rfl) (by exact fun _ _ _ h => h) (Or.inl ⟨by rfl, ?_⟩) (by assumption) ?_
          rotate_left
          · intro w hSw
            go_simp
            try with_reducible rfl
          try simp only [Act.put, List.setIfInBounds_toArray, List.set_cons_zero, List.set_cons_succ]
          refine wpAnyH_take (i := 3) (v := ?_) (by simp only [List.getElem?_toArray, List.getElem?_cons_succ, List.getElem?_cons_zero]; rfl) (by kernel_rfl) (by kernel_rfl) (by kernel_rfl) (by exact fun _ _ _ h => h) (Or.inl ⟨by rfl, ?_⟩) (by assumption) ?_
          rotate_left
          · intro w hSw
            go_simp
            try with_reducible rfl
          try simp only [Act.put, List.setIfInBounds_toArray, List.set_cons_zero, List.set_cons_succ]
          refine wpAnyH_take (i := 4) (v := ?_) (by simp only [List.getElem?_toArray, List.getElem?_cons_succ, List.getElem?_cons_zero]; rfl) (by kernel_rfl) (by kernel_rfl) (by kernel_rfl) (by exact fun _ _ _ h => h) (Or.inl ⟨by rfl, ?_⟩) (by assumption) ?_
          rotate_left
          · intro w hSw
            go_simp
            try with_reducible rfl
          try simp only [Act.put, List.setIfInBounds_toArray, List.set_cons_zero, List.set_cons_succ]
          refine wpAnyH_take (i := 5) (v := ?_) (by simp only [List.getElem?_toArray, List.getElem?_cons_succ, List.getElem?_cons_zero]; rfl) (by kernel_rfl) (by kernel_rfl) (by kernel_rfl) (by exact fun _ _ _ h => h) (Or.inl ⟨by rfl, ?_⟩) (by assumption) ?_
          rotate_left
          · intro w hSw
            go_simp
            try with_reducible rfl
          try simp only [Act.put, List.setIfInBounds_toArray, List.set_cons_zero, List.set_cons_succ]
          refine wpAnyH_take (i := 6) (v := ?_) (by simp only [List.getElem?_toArray, List.getElem?_cons_succ, List.getElem?_cons_zero]; rfl) (by kernel_rfl) (by kernel_rfl) (by kernel_rfl) (by exact fun _ _ _ h => h) (Or.inl ⟨by rfl, ?_⟩) (by assumption) ?_
          rotate_left
          · intro w hSw
            go_simp
            try with_reducible rfl
          try simp only [Act.put, List.setIfInBounds_toArray, List.set_cons_zero, List.set_cons_succ]
          refine wpAnyH_take (i := 7) (v := ?_) (by simp only [List.getElem?_toArray, List.getElem?_cons_succ, List.getElem?_cons_zero]; rfl) (by kernel_rfl) (by kernel_rfl) (by kernel_rfl) (by exact fun _ _ _ h => h) (Or.inl ⟨by rfl, ?_⟩) (by assumption) ?_
          rotate_left
          · intro w hSw
            go_simp
            try with_reducible rfl
          try simp only [Act.put, List.setIfInBounds_toArray, List.set_cons_zero, List.set_cons_succ]
          refine wpAnyH_take (i := 8) (v := ?_) (by simp only [List.getElem?_toArray, List.getElem?_cons_succ, List.getElem?_cons_zero]; rfl) (by kernel_rfl) (by kernel_rfl) (by kernel_rfl) (by exact fun _ _ _ h => h) (Or.inl ⟨by rfl, ?_⟩) (by assumption) ?_
          rotate_left
          · intro w hSw
            go_simp
            try with_reducible rfl
          try simp only [Act.put, List.setIfInBounds_toArray, List.set_cons_zero, List.set_cons_succ]
          refine wpAnyH_take (i := 9) (v := ?_) (by simp only [List.getElem?_toArray, List.getElem?_cons_succ, List.getElem?_cons_zero]; rfl) (by kernel_rfl) (by kernel_rfl) (by kernel_rfl) (by exact fun _ _ _ h => h) (Or.inl ⟨by rfl, ?_⟩) (by assumption) ?_
          rotate_left
          · intro w hSw
            go_simp
            try with_reducible rfl
          try simp only [Act.put, List.setIfInBounds_toArray, List.set_cons_zero, List.set_cons_succ]
          refine wpAnyH_take (i := 10) (v := ?_) (by simp only [List.getElem?_toArray, List.getElem?_cons_succ, List.getElem?_cons_zero]; rfl) (by kernel_rfl) (by kernel_rfl) (by kernel_rfl) (by exact fun _ _ _ h => h) (Or.inl ⟨by rfl, ?_⟩) (by assumption) ?_
          rotate_left
          · intro w hSw
            go_simp
            try with_reducible rfl
          try simp only [Act.put, List.setIfInBounds_toArray, List.set_cons_zero, List.set_cons_succ]
          refine wpAnyH_take (i := 11) (v := ?_) (by simp only [List.getElem?_toArray, List.getElem?_cons_succ, List.getElem?_cons_zero]; rfl) (by kernel_rfl) (by kernel_rfl) (by kernel_rfl) (by exact fun _ _ _ h => h) (Or.inl ⟨by rfl, ?_⟩) (by assumption) ?_
          rotate_left
          · intro w hSw
            go_simp
            try with_reducible rfl
          try simp only [Act.put, List.setIfInBounds_toArray, List.set_cons_zero, List.set_cons_succ]
          refine wpAnyH_ready (rs := [12]) (by kernel_rfl) (by simp) ?_
          refine AllReadyH.cons (by simp only [List.getElem?_toArray, List.getElem?_cons_succ, List.getElem?_cons_zero]; rfl) (fun K hK => ?_) AllReadyH.nil
          go_simp
          go_at_call 124
          refine (HRq.out _ (HE.out.go (bt HB3.out (Below.refl _ _).drew))).mono ?_
          rintro e w5 ⟨rfl, hb5z⟩
          have hb5 : Below w2.heap.size w2 w5 := (Below.refl _ _).drew.trans (hb5z.mono (Nat.le_refl _))
          clear hb5z
          have hs5 := hb5.size
          refine hK.out _ _ (by first | exact HQ9.out | exact HQ.out _ hb5 | exact HQ.out _ (bt hb5 (below_alloc _ _)) | exact HQ.out _ (by go_grown)) (fun hHeld => ?_)
          clear hK K
          try simp only [Act.put, List.setIfInBounds_toArray, List.set_cons_zero, List.set_cons_succ]
          refine wpAnyH_take (i := 13) (v := ?_) (by simp only [List.getElem?_toArray, List.getElem?_cons_succ, List.getElem?_cons_zero]; rfl) (by kernel_rfl) (by kernel_rfl) (by kernel_rfl) (by exact fun _ _ _ h => h) (Or.inl ⟨by rfl, ?_⟩) (by assumption) ?_
          rotate_left
          · intro w hSw
            go_simp
            try with_reducible rfl
          try simp only [Act.put, List.setIfInBounds_toArray, List.set_cons_zero, List.set_cons_succ]
          refine wpAnyH_take (i := 14) (v := ?_) (by simp only [List.getElem?_toArray, List.getElem?_cons_succ, List.getElem?_cons_zero]; rfl) (by kernel_rfl) (by kernel_rfl) (by kernel_rfl) (by exact fun _ _ _ h => h) (Or.inl ⟨by rfl, ?_⟩) (by assumption) ?_
          rotate_left
          · intro w hSw
            go_simp
            try with_reducible rfl
          try simp only [Act.put, List.setIfInBounds_toArray, List.set_cons_zero, List.set_cons_succ]
          refine wpAnyH_ready (rs := [15]) (by kernel_rfl) (by simp) ?_
          refine AllReadyH.cons (by simp only [List.getElem?_toArray, List.getElem?_cons_succ, List.getElem?_cons_zero]; rfl) (fun K hK => ?_) AllReadyH.nil
          go_simp
          refine hK.out _ _ (by first | exact HQ9.out | exact HQ.out _ hb5 | exact HQ.out _ (bt hb5 (below_alloc _ _)) | exact HQ.out _ (by go_grown)) (fun hHeld => ?_)
          clear hK K
          try simp only [Act.put, List.setIfInBounds_toArray, List.set_cons_zero, List.set_cons_succ]
          refine wpAnyH_ready (rs := [16]) (by kernel_rfl) (by simp) ?_
          refine AllReadyH.cons (by simp only [List.getElem?_toArray, List.getElem?_cons_succ, List.getElem?_cons_zero]; rfl) (fun K hK => ?_) AllReadyH.nil
          refine step_append_lies _ (by rfl) _ _ _ (by rfl) w.heap.size 9 i0 _ 1 16 Tryz.underlying45 Hi0.out Hz0.out Hz1.out Hz2.out rfl (by omega) v k (((((l.take k).map fmtT).map bs).map Value.string)) (by rfl) (own_below2 HO3.out (bt hb5 (below_alloc _ _))) _ 1 1 [.string sx] (by rfl) (by rfl) (by exact World.news_of_block (heap_alloc_new _ _)) (by simp [Value.oneCell']) (by omega) (by unfold maxLen; omega) (by omega) (by simp; omega) _ rfl ?_
          intro g2 cap w9 hown2 hgrow2 hat2 hlt2
          have HB9 := Lib.hid ((bt HB3.out (bt hb5 (below_alloc _ _))).grown hgrow2 (by have := hb5.size; simp at this ⊢; omega) (fun j e => (HO3.out.lt j e).1))
          have HO9 := Lib.hid hown2
          have HQ9 := Lib.hid (res4 ((hgrow2.block g (by have := hb5.size; simp at this ⊢; omega) (fun e => by have := HOr.out _ (by first | exact e | exact e.symm); omega)).trans (((bt hb5 (below_alloc _ _)).block g (by omega)).trans HG3.out))).1
          clear hown2 hgrow2 hat2 hlt2
          refine hK.out _ _ (by first | exact HQ9.out | exact HQ.out _ hb5 | exact HQ.out _ (bt hb5 (below_alloc _ _)) | exact HQ.out _ (by go_grown)) (fun hHeld => ?_)
          clear hK K
          try simp only [Act.put, List.setIfInBounds_toArray, List.set_cons_zero, List.set_cons_succ]
          refine wpAnyH_take (i := 17) (v := ?_) (by simp only [List.getElem?_toArray, List.getElem?_cons_succ, List.getElem?_cons_zero]; rfl) (by kernel_rfl) (by kernel_rfl) (by kernel_rfl) (by exact fun _ _ _ h => h) (Or.inl ⟨by rfl, ?_⟩) (by assumption) ?_
          rotate_left
          · intro w hSw
            go_simp
            try with_reducible rfl
          try simp only [Act.put, List.setIfInBounds_toArray, List.set_cons_zero, List.set_cons_succ]
          refine wpAnyH_done (by kernel_rfl) ?_ _
          go_wp2
          go_roundg (gk - 1)
          case measure => omega
          case rel => exact ⟨k + 1, _, by go_num, by omega, by omega, rfl, by rw [HX.out]; exact HO9.out, HG2.out, HB9.out⟩
        · have hne : name.toList.isEmpty = false := by rw [tl]; exact L_ne hnm
          have hL : (L name).isEmpty = false := by rw [← tl]; exact hne
          obtain ⟨nb, hnb⟩ : ∃ nb : ByteArray, (⟨#[123]⟩ : ByteArray) ++ name ++ ⟨#[125]⟩ = nb := ⟨_, rfl⟩
          have HFx : Hid (fmtT ⟨key, name, op, value⟩ = L key ++ L nb ++ (L op ++ [34] ++ rq ++ [34])) := Lib.hid (by rw [HFt.out, hL, ← hnb, L_append, L_append]; simp [L])
          have hz5 : nb.size ≤ 1002 := by rw [← hnb, ByteArray.size_append, ByteArray.size_append]; show 1 + name.size + 1 ≤ 1002; omega
          go_upto_region 9 with (go_at_call 123; refine (HPr.out _).mono ?_; rintro e w1 ⟨rfl, hb2⟩; obtain ⟨hc2, hgl⟩ := HBase.out _ hb2; obtain ⟨⟨c0', c1', c2', c3'⟩, ff⟩ := res4 hc2)
          try rw [hnb]
          have hset : (w1.setCell ⟨g, 1, none⟩ (.string nb)).heap[g]? = some (.cells #[.string key, .string nb, .string op, .string value] 119 (0, 0)) := heap_setCell_same _ _ _ _ _ _ hc2
          have hb3 : Below w.heap.size w (w1.setCell ⟨g, 1, none⟩ (.string nb)) := bC (bt hW.out (bt (below_alloc _ _) hb2)) (by omega)
          have ho3 : (w1.setCell ⟨g, 1, none⟩ (.string nb)).ownsRow w.heap.size 9 1 v k (((((l.take k).map fmtT).map bs).map Value.string)) := (own_below2 hO.out (bt (below_alloc _ _) hb2)).kept (grown_set _ g 1 _) (Or.inr (fun e => by have := HOr.out _ e; omega))
          have hgl3 := blk_lt' hset
          obtain ⟨w2, hw2⟩ : ∃ w2, w1.setCell ⟨g, 1, none⟩ (.string nb) = w2 := ⟨_, rfl⟩
          rw [hg] at *
          rw [hw2] at hset hb3 ho3 hgl3 ⊢
          have HG3 := Lib.hid hset
          have HB3 := Lib.hid hb3
          have HO3 := Lib.hid ho3
          clear hc2 hb2 c0' c1' c2' c3' ff HBase hne hL hset hb3 ho3 hw2 hgl
          have hgl := hgl3
          obtain ⟨sx, hsx⟩ : ∃ sx : ByteArray, key ++ nb ++ op ++ ⟨#[34]⟩ ++ bq ++ ⟨#[34]⟩ = sx := ⟨_, rfl⟩
          have HX : Hid ((((l.take (k + 1)).map fmtT).map bs).map Value.string = (((l.take k).map fmtT).map bs).map Value.string ++ [.string sx]) := Lib.hid (by
            have e : bs (fmtT ⟨key, name, op, value⟩) = sx := (eq_bs (by rw [HFx.out, ← hsx]; simp only [L_append, HBq.out]; simp [L])).symm
            rw [HT.out, List.map_append, List.map_append, List.map_append]
            show _ ++ [Value.string (bs (fmtT ⟨key, name, op, value⟩))] = _
            rw [e])
          have HQ := Lib.hid (fun (W : World) (hW : Below w2.heap.size w2 W) => (res4 ((hW.block g hgl).trans HG3.out)).1)
          have hw2s := HB3.out.size
          have q1 : (9223372036854775807 < key.size + nb.size) = False := by simp; omega
          have q2 : (9223372036854775807 < key.size + nb.size + op.size) = False := by simp; omega
          have q3 : (9223372036854775807 < key.size + nb.size + op.size + 1) = False := by simp; omega
          have q4 : (9223372036854775807 < key.size + nb.size + op.size + 1 + bq.size) = False := by simp; omega
          have q5 : (9223372036854775807 < key.size + nb.size + op.size + 1 + bq.size + 1) = False := by simp; omega
          refine wp_region_held_drew (S := fun W' => W'.cell? ⟨g, 0, none⟩ = some (.string key) ∧ W'.cell? ⟨g, 1, none⟩ = some (.string nb) ∧ W'.cell? ⟨g, 2, none⟩ = some (.string op) ∧ W'.cell? ⟨g, 3, none⟩ = some (.string value)) (by kernel_rfl) ?_ (fun hHeld => ?_)
          · exact HQ.out _ (by go_grown)
          refine wpAnyH_take (i := 0) (v := ?_) (by simp only [List.getElem?_toArray, List.getElem?_cons_zero]; rfl) (by kernel_rfl) (by kernel_rfl) (by kernel_rfl) (by exact fun _ _ _ h => h) (Or.inl ⟨by rfl, ?_⟩) (by assumption) ?_
          rotate_left
          · intro w hSw
            go_simp
            try with_reducible rfl
          try simp only [Act.put, List.setIfInBounds_toArray, List.set_cons_zero, List.set_cons_succ]
          refine wpAnyH_take (i := 1) (v := ?_) (by simp only [List.getElem?_toArray, List.getElem?_cons_succ, List.getElem?_cons_zero]; rfl) (by kernel_rfl) (by kernel_rfl) (by kernel_rfl) (by exact fun _ _ _ h => h) (Or.inl ⟨by rfl, ?_⟩) (by assumption) ?_
          rotate_left
          · intro w hSw
            go_simp
            try with_reducible rfl
          try simp only [Act.put, List.setIfInBounds_toArray, List.set_cons_zero, List.set_cons_succ]
          refine wpAnyH_take (i := 2) (v := ?_) (by simp only [List.getElem?_toArray, List.getElem?_cons_succ, List.getElem?_cons_zero]; rfl) (by kernel_rfl) (by kernel_rfl) (by kernel_rfl) (by exact fun _ _ _ h => h) (Or.inl ⟨by rfl, ?_⟩) (by assumption) ?_
          rotate_left
          · intro w hSw
            go_simp
            try with_reducible rfl
          try simp only [Act.put, List.setIfInBounds_toArray, List.set_cons_zero, List.set_cons_succ]
          refine wpAnyH_take (i := 3) (v := ?_) (by simp only [List.getElem?_toArray, List.getElem?_cons_succ, List.getElem?_cons_zero]; rfl) (by kernel_rfl) (by kernel_rfl) (by kernel_rfl) (by exact fun _ _ _ h => h) (Or.inl ⟨by rfl, ?_⟩) (by assumption) ?_
          rotate_left
          · intro w hSw
            go_simp
            try with_reducible rfl
          try simp only [Act.put, List.setIfInBounds_toArray, List.set_cons_zero, List.set_cons_succ]
          refine wpAnyH_take (i := 4) (v := ?_) (by simp only [List.getElem?_toArray, List.getElem?_cons_succ, List.getElem?_cons_zero]; rfl) (by kernel_rfl) (by kernel_rfl) (by kernel_rfl) (by exact fun _ _ _ h => h) (Or.inl ⟨by rfl, ?_⟩) (by assumption) ?_
          rotate_left
          · intro w hSw
            go_simp
            try with_reducible rfl
          try simp only [Act.put, List.setIfInBounds_toArray, List.set_cons_zero, List.set_cons_succ]
          refine wpAnyH_take (i := 5) (v := ?_) (by simp only [List.getElem?_toArray, List.getElem?_cons_succ, List.getElem?_cons_zero]; rfl) (by kernel_rfl) (by kernel_rfl) (by kernel_rfl) (by exact fun _ _ _ h => h) (Or.inl ⟨by rfl, ?_⟩) (by assumption) ?_
          rotate_left
          · intro w hSw
            go_simp
            try with_reducible rfl
          try simp only [Act.put, List.setIfInBounds_toArray, List.set_cons_zero, List.set_cons_succ]
          refine wpAnyH_take (i := 6) (v := ?_) (by simp only [List.getElem?_toArray, List.getElem?_cons_succ, List.getElem?_cons_zero]; rfl) (by kernel_rfl) (by kernel_rfl) (by kernel_rfl) (by exact fun _ _ _ h => h) (Or.inl ⟨by rfl, ?_⟩) (by assumption) ?_
          rotate_left
          · intro w hSw
            go_simp
            try with_reducible rfl
          try simp only [Act.put, List.setIfInBounds_toArray, List.set_cons_zero, List.set_cons_succ]
          refine wpAnyH_take (i := 7) (v := ?_) (by simp only [List.getElem?_toArray, List.getElem?_cons_succ, List.getElem?_cons_zero]; rfl) (by kernel_rfl) (by kernel_rfl) (by kernel_rfl) (by exact fun _ _ _ h => h) (Or.inl ⟨by rfl, ?_⟩) (by assumption) ?_
          rotate_left
          · intro w hSw
            go_simp
            try with_reducible rfl
          try simp only [Act.put, List.setIfInBounds_toArray, List.set_cons_zero, List.set_cons_succ]
          refine wpAnyH_take (i := 8) (v := ?_) (by simp only [List.getElem?_toArray, List.getElem?_cons_succ, List.getElem?_cons_zero]; rfl) (by kernel_rfl) (by kernel_rfl) (by kernel_rfl) (by exact fun _ _ _ h => h) (Or.inl ⟨by rfl, ?_⟩) (by assumption) ?_
          rotate_left
          · intro w hSw
            go_simp
            try with_reducible rfl
          try simp only [Act.put, List.setIfInBounds_toArray, List.set_cons_zero, List.set_cons_succ]
          refine wpAnyH_take (i := 9) (v := ?_) (by simp only [List.getElem?_toArray, List.getElem?_cons_succ, List.getElem?_cons_zero]; rfl) (by kernel_rfl) (by kernel_rfl) (by kernel_rfl) (by exact fun _ _ _ h => h) (Or.inl ⟨by rfl, ?_⟩) (by assumption) ?_
          rotate_left
          · intro w hSw
            go_simp
            try with_reducible rfl
          try simp only [Act.put, List.setIfInBounds_toArray, List.set_cons_zero, List.set_cons_succ]
          refine wpAnyH_take (i := 10) (v := ?_) (by simp only [List.getElem?_toArray, List.getElem?_cons_succ, List.getElem?_cons_zero]; rfl) (by kernel_rfl) (by kernel_rfl) (by kernel_rfl) (by exact fun _ _ _ h => h) (Or.inl ⟨by rfl, ?_⟩) (by assumption) ?_
          rotate_left
          · intro w hSw
            go_simp
            try with_reducible rfl
          try simp only [Act.put, List.setIfInBounds_toArray, List.set_cons_zero, List.set_cons_succ]
          refine wpAnyH_take (i := 11) (v := ?_) (by simp only [List.getElem?_toArray, List.getElem?_cons_succ, List.getElem?_cons_zero]; rfl) (by kernel_rfl) (by kernel_rfl) (by kernel_rfl) (by exact fun _ _ _ h => h) (Or.inl ⟨by rfl, ?_⟩) (by assumption) ?_
          rotate_left
          · intro w hSw
            go_simp
            try with_reducible rfl
          try simp only [Act.put, List.setIfInBounds_toArray, List.set_cons_zero, List.set_cons_succ]
          refine wpAnyH_ready (rs := [12]) (by kernel_rfl) (by simp) ?_
          refine AllReadyH.cons (by simp only [List.getElem?_toArray, List.getElem?_cons_succ, List.getElem?_cons_zero]; rfl) (fun K hK => ?_) AllReadyH.nil
          go_simp
          go_at_call 124
          refine (HRq.out _ (HE.out.go (bt HB3.out (Below.refl _ _).drew))).mono ?_
          rintro e w5 ⟨rfl, hb5z⟩
          have hb5 : Below w2.heap.size w2 w5 := (Below.refl _ _).drew.trans (hb5z.mono (Nat.le_refl _))
          clear hb5z
          have hs5 := hb5.size
          refine hK.out _ _ (by first | exact HQ9.out | exact HQ.out _ hb5 | exact HQ.out _ (bt hb5 (below_alloc _ _)) | exact HQ.out _ (by go_grown)) (fun hHeld => ?_)
          clear hK K
          try simp only [Act.put, List.setIfInBounds_toArray, List.set_cons_zero, List.set_cons_succ]
          refine wpAnyH_take (i := 13) (v := ?_) (by simp only [List.getElem?_toArray, List.getElem?_cons_succ, List.getElem?_cons_zero]; rfl) (by kernel_rfl) (by kernel_rfl) (by kernel_rfl) (by exact fun _ _ _ h => h) (Or.inl ⟨by rfl, ?_⟩) (by assumption) ?_
          rotate_left
          · intro w hSw
            go_simp
            try with_reducible rfl
          try simp only [Act.put, List.setIfInBounds_toArray, List.set_cons_zero, List.set_cons_succ]
          refine wpAnyH_take (i := 14) (v := ?_) (by simp only [List.getElem?_toArray, List.getElem?_cons_succ, List.getElem?_cons_zero]; rfl) (by kernel_rfl) (by kernel_rfl) (by kernel_rfl) (by exact fun _ _ _ h => h) (Or.inl ⟨by rfl, ?_⟩) (by assumption) ?_
          rotate_left
          · intro w hSw
            go_simp
            try with_reducible rfl
          try simp only [Act.put, List.setIfInBounds_toArray, List.set_cons_zero, List.set_cons_succ]
          refine wpAnyH_ready (rs := [15]) (by kernel_rfl) (by simp) ?_
          refine AllReadyH.cons (by simp only [List.getElem?_toArray, List.getElem?_cons_succ, List.getElem?_cons_zero]; rfl) (fun K hK => ?_) AllReadyH.nil
          go_simp
          refine hK.out _ _ (by first | exact HQ9.out | exact HQ.out _ hb5 | exact HQ.out _ (bt hb5 (below_alloc _ _)) | exact HQ.out _ (by go_grown)) (fun hHeld => ?_)
          clear hK K
          try simp only [Act.put, List.setIfInBounds_toArray, List.set_cons_zero, List.set_cons_succ]
          refine wpAnyH_ready (rs := [16]) (by kernel_rfl) (by simp) ?_
          refine AllReadyH.cons (by simp only [List.getElem?_toArray, List.getElem?_cons_succ, List.getElem?_cons_zero]; rfl) (fun K hK => ?_) AllReadyH.nil
          refine step_append_lies _ (by rfl) _ _ _ (by rfl) w.heap.size 9 i0 _ 1 16 Tryz.underlying45 Hi0.out Hz0.out Hz1.out Hz2.out rfl (by omega) v k (((((l.take k).map fmtT).map bs).map Value.string)) (by rfl) (own_below2 HO3.out (bt hb5 (below_alloc _ _))) _ 1 1 [.string sx] (by rfl) (by rfl) (by exact World.news_of_block (heap_alloc_new _ _)) (by simp [Value.oneCell']) (by omega) (by unfold maxLen; omega) (by omega) (by simp; omega) _ rfl ?_
          intro g2 cap w9 hown2 hgrow2 hat2 hlt2
          have HB9 := Lib.hid ((bt HB3.out (bt hb5 (below_alloc _ _))).grown hgrow2 (by have := hb5.size; simp at this ⊢; omega) (fun j e => (HO3.out.lt j e).1))
          have HO9 := Lib.hid hown2
          have HQ9 := Lib.hid (res4 ((hgrow2.block g (by have := hb5.size; simp at this ⊢; omega) (fun e => by have := HOr.out _ (by first | exact e | exact e.symm); omega)).trans (((bt hb5 (below_alloc _ _)).block g (by omega)).trans HG3.out))).1
          clear hown2 hgrow2 hat2 hlt2
          refine hK.out _ _ (by first | exact HQ9.out | exact HQ.out _ hb5 | exact HQ.out _ (bt hb5 (below_alloc _ _)) | exact HQ.out _ (by go_grown)) (fun hHeld => ?_)
          clear hK K
          try simp only [Act.put, List.setIfInBounds_toArray, List.set_cons_zero, List.set_cons_succ]
          refine wpAnyH_take (i := 17) (v := ?_) (by simp only [List.getElem?_toArray, List.getElem?_cons_succ, List.getElem?_cons_zero]; rfl) (by kernel_rfl) (by kernel_rfl) (by kernel_rfl) (by exact fun _ _ _ h => h) (Or.inl ⟨by rfl, ?_⟩) (by assumption) ?_
          rotate_left
          · intro w hSw
            go_simp
            try with_reducible rfl
          try simp only [Act.put, List.setIfInBounds_toArray, List.set_cons_zero, List.set_cons_succ]
          refine wpAnyH_done (by kernel_rfl) ?_ _
          go_wp2
          go_roundg (gk - 1)
          case measure => omega
          case rel => exact ⟨k + 1, _, by go_num, by omega, by omega, rfl, by rw [HX.out]; exact HO9.out, HG2.out, HB9.out⟩
    · obtain rfl : k = N := by omega
      have HA : Hid (l.all goodB = true) := Lib.hid (by have := hG.out; rwa [← HN.out, List.take_length] at this)
      have HFS : Hid (fmtS l = if 1024 < (fmtF l).length then ([], 81) else (fmtF l, 0)) := Lib.hid (by unfold fmtS; rw [HA.out]; rfl)
      have HJ : Hid (Calls Tryz.prog 125 #[v, .string ⟨#[44, 32]⟩] wr fun e w' => e = .returned (.string (bs (fmtF l))) ∧ Below wr.heap.size wr w') := Lib.hid (by
        rw [fmtF_join]
        have ho := hO.out
        have hn := HN.out
        rw [← hn, List.take_length] at ho
        exact Join2_own wr w.heap.size v (l.map fmtT) 6100 (by rw [List.length_map]; omega) (by omega) (fun x hx => by
          obtain ⟨y, hy, rfl⟩ := List.mem_map.1 hx
          exact fmtT_len (HK.out y hy)) (by rw [List.length_map]; exact ho))
      have hjs : (bs (fmtF l)).size = (fmtF l).length := size_bs _
      by_cases h1024 : 1024 < (fmtF l).length
      · have h1I : (1024 : Int) < ((bs (fmtF l)).size : Int) := by omega
        have HR : Hid (fmtS l = ([], 81)) := Lib.hid (by rw [HFS.out, if_pos h1024])
        generalize bs (fmtF l) = u at *
        clear hjs h1024
        go_wp2_with (go_at_call 125; refine HJ.out.mono ?_; rintro e w2 ⟨rfl, hb2⟩)
        go_ret2
        unfold FmtPost
        rw [HR.out]
        exact ⟨rfl, bt hW.out hb2⟩
      · have h1I : ((bs (fmtF l)).size : Int) ≤ 1024 := by omega
        have HR : Hid (fmtS l = (fmtF l, 0)) := Lib.hid (by rw [HFS.out, if_neg h1024])
        obtain ⟨u, hu⟩ : ∃ u, bs (fmtF l) = u := ⟨_, rfl⟩
        rw [hu] at HJ h1I
        have HU := Lib.hid hu
        clear hjs h1024 hu
        go_wp2_with (go_at_call 125; refine HJ.out.mono ?_; rintro e w2 ⟨rfl, hb2⟩)
        go_ret2
        unfold FmtPost
        rw [HR.out, HU.out]
        exact ⟨rfl, bt hW.out hb2⟩
end Go.Proofs.YthcgkeiggnfgiaaGreatDoor
namespace Go.Proofs.YthcgkeiggnfgiaaGreatDoor
open Go.RowKit
attribute [local go_sem ↓] st_forms
theorem OutK.snocW {w wr w9 : World} {l : List Tk} {v : Value} {y : Tk} {A : Option Addr} {c : Nat} (h : OutK w l v wr) (hown : w9.ownsRow w.heap.size 119 4 (.slice A (l.length + 1) c) (l.length + 1) (cellsOf encTk l ++ encTk y)) (hg : wr.grownBy w9 v.ownBlock) : OutK w (l ++ [y]) (.slice A (l.length + 1) c) w9 :=
  ⟨own_snoc hown, h.2.grown hg h.2.size (fun j e => (h.1.lt j e).1)⟩
set_option maxRecDepth 100000 in
set_option maxHeartbeats 8000000 in
theorem PFormat_any (A : Option Addr) (c : Nat) (l : List Tm) (w : World) (hE : Env w) (h : RowAt w w.heap.size A 4 l.length (cellsOf encTm l)) (hl : l.length ≤ 9223372036854775807) (hok : ∀ t ∈ l, TmPre t) :
    Calls Tryz.prog 41 #[.slice A l.length c] w (FormatPost l w) := by
  have HC := Lib.hid (PTCheck_any A c l w hE h hl hok)
  have HE := Lib.hid (fun (W : World) (hW : Below w.heap.size w W) => hE.go hW)
  have HR := Lib.hid h
  clear hE h hok
  by_cases hce : checkE l = 0
  · obtain ⟨h1, h16, hall⟩ := checkE_ok hce
    have HF : Hid (formatE l = fmtS (l.map tokOf)) := Lib.hid (by rw [formatE, if_pos hce])
    rw [hce] at HC
    have HK := Lib.hid (fun t ht => termE_right (hall t ht))
    obtain ⟨N, hN⟩ : ∃ N, l.length = N := ⟨_, rfl⟩
    have HN := Lib.hid hN
    rw [hN] at h1 h16 hl HC ⊢
    obtain ⟨i0, hi0, hz0, hz1, hz2⟩ := info_parts tokInfo
    have Hi0 := Lib.hid hi0
    have Hz0 := Lib.hid hz0
    have Hz1 := Lib.hid hz1
    have Hz2 := Lib.hid hz2
    clear hce hall hN hi0 hz0 hz1 hz2
    go_enter Tryz.func41, Tryz.ntmps41
    go_wp2_with (first
      | (go_at_call 28; refine HC.out.mono ?_; rintro e w1 ⟨rfl, hb1⟩; have HW1 := Lib.hid hb1; clear hb1)
      | (go_at_call 74; refine (PForms_all _).mono ?_; rintro e w2 ⟨cs, rfl, hF, h0, hone, hb2⟩; have HRw := Lib.hid (hF.rows h0); have hst := stForms_at (heap_alloc_new w2 (.cells Tryz.zeroCells114 114)) zeroForms hF.1 hone; have HB2 := Lib.hid hb2; clear hb2 h0))
    have hc0 := hF.1
    have HB3 := Lib.hid (bR (w := w2) (bAl (Below.refl w2.heap.size w2)) (Nat.le_refl _) : Below w2.heap.size w2 ((w2.alloc (.cells Tryz.zeroCells114 114)).setRow w2.heap.size cs))
    have HT3 := Lib.hid (setRow_heap _ _ _ _ _ _ (heap_alloc_new w2 (.cells Tryz.zeroCells114 114)) : ((w2.alloc (.cells Tryz.zeroCells114 114)).setRow w2.heap.size cs).heap[w2.heap.size]? = _)
    have hs3 : w2.heap.size + 1 = ((w2.alloc (.cells Tryz.zeroCells114 114)).setRow w2.heap.size cs).heap.size := by simp [World.setRow]
    obtain ⟨w3, hw3⟩ : ∃ w3, (w2.alloc (.cells Tryz.zeroCells114 114)).setRow w2.heap.size cs = w3 := ⟨_, rfl⟩
    rw [hw3] at HB3 HT3 hs3 ⊢
    have HW3 := Lib.hid (bt (bt HW1.out HB2.out) HB3.out)
    obtain ⟨T, hT⟩ : ∃ T, w2.heap.size = T := ⟨_, rfl⟩
    rw [hT] at HT3 hs3 ⊢
    clear hw3 hst hF hone hc0 hT HC
    go_loopg [6, 17] (N + 1) (fun gk s6 s17 wr => ∃ (k : Nat) (ol : List Tk) (Am : Option Addr) (cm : Nat), s6 = .slice Am ol.length cm ∧ s17 = .int .i64 k ∧ k + gk = N + 1 ∧ k ≤ N ∧ ol.length ≤ k ∧ Hid (ol = (l.take k).map tokOf) ∧ Hid (OutK w3 ol (.slice Am ol.length cm) wr))
    case atStart => exact ⟨0, [], none, 0, rfl, rfl, by omega, Nat.zero_le _, Nat.le_refl _, (by exact rfl), OutK.start _⟩
    case round =>
    obtain ⟨k, ol, Am, cm, rfl, rfl, hkg, hks, hol, hX, hO⟩ := hrel
    by_cases hlt : k < N
    · have hltI : (k : Int) < (N : Int) := by omega
      have hk : k < l.length := by rw [HN.out]; exact hlt
      have hxs := HK.out l[k] (List.getElem_mem _)
      obtain ⟨ba, off, rfl, c0, c1, c2, c3⟩ := HR.out.tm (bt HW3.out hO.out.2) hk
      have HX2 : Hid (ol ++ [tokOf l[k]] = (l.take (k + 1)).map tokOf) := Lib.hid (by rw [List.take_succ_eq_append_getElem hk, List.map_append, ← hX.out]; rfl)
      generalize l[k] = t at *
      obtain ⟨ky, nm, op, vl⟩ := t
      obtain ⟨k0, k1, o0, o1, zn, zv⟩ := hxs
      dsimp only at c0 c1 c2 c3 k0 k1 o0 o1 zn zv
      obtain ⟨kn, rfl⟩ := Int.eq_ofNat_of_zero_le (show 0 ≤ ky by omega)
      obtain ⟨on, rfl⟩ := Int.eq_ofNat_of_zero_le (show 0 ≤ op by omega)
      replace HX2 : Hid (ol ++ [⟨keyW kn, nm, opW on, vl⟩] = (l.take (k + 1)).map tokOf) := HX2
      have hknI : (kn : Int) < 25 := by omega
      have honI : (on : Int) < 7 := by omega
      have hoa := opsWA_at on (by omega)
      have hca : cs[kn * 5 + 0]? = some (.string (keyW kn)) := by
        obtain ⟨f, m, v, a, n, hrow, _⟩ := HRw.out.2 kn (by omega)
        rw [row_cell hrow HRw.out.1 (by omega) (by omega), keyW_getD kn (by omega)]; rfl
      rw [Nat.add_zero] at hca
      generalize keyW (kn : Int) = kw at *
      generalize opW (on : Int) = ow at *
      clear hk
      have HOr : Hid (∀ j, (Value.slice Am ol.length cm).ownBlock = some j → w3.heap.size ≤ j ∧ j < wr.heap.size) := Lib.hid hO.out.1.lt
      have hwz := hO.out.2.size
      go_upto_region 9 with fail
      have hb5 := below_alloc wr (.cells #[.int .i64 kn, .string nm, .int .i64 on, .string vl] 49)
      have HG5 := Lib.hid (heap_alloc_new wr (.cells #[.int .i64 kn, .string nm, .int .i64 on, .string vl] 49))
      have HT5 := Lib.hid (((bt hO.out.2 hb5).block T (by omega)).trans HT3.out)
      have HOq := Lib.hid (hO.out.go hb5)
      have hw5 : (wr.alloc (.cells #[.int .i64 kn, .string nm, .int .i64 on, .string vl] 49)).heap.size = wr.heap.size + 1 := by simp
      obtain ⟨g, hg⟩ : ∃ g, wr.heap.size = g := ⟨_, rfl⟩
      obtain ⟨w5, hw5e⟩ : ∃ w5, wr.alloc (.cells #[.int .i64 kn, .string nm, .int .i64 on, .string vl] 49) = w5 := ⟨_, rfl⟩
      rw [hg] at HG5 hw5 hwz HOr
      rw [hw5e] at HG5 HT5 HOq hw5
      try rw [hg]
      rw [hw5e]
      clear hb5 hg hw5e c0 c1 c2 c3
      have HQg : Hid (∀ W' : World, W'.heap[g]? = w5.heap[g]? → W'.heap[T]? = w5.heap[T]? → W'.cell? ⟨g, 0, none⟩ = some (.int .i64 kn) ∧ W'.cell? ⟨g, 1, none⟩ = some (.string nm) ∧ W'.cell? ⟨g, 2, none⟩ = some (.int .i64 on) ∧ W'.cell? ⟨g, 3, none⟩ = some (.string vl) ∧ W'.cell? ⟨T, kn * 5, none⟩ = some (.string kw)) := Lib.hid fun W' h1 h2 => by
        obtain ⟨a0, a1, a2, a3⟩ := (res4 (h1.trans HG5.out)).1
        exact ⟨a0, a1, a2, a3, cellOf (h2.trans HT5.out) hca⟩
      have HQ : Hid (∀ W' : World, Below w5.heap.size w5 W' → W'.cell? ⟨g, 0, none⟩ = some (.int .i64 kn) ∧ W'.cell? ⟨g, 1, none⟩ = some (.string nm) ∧ W'.cell? ⟨g, 2, none⟩ = some (.int .i64 on) ∧ W'.cell? ⟨g, 3, none⟩ = some (.string vl) ∧ W'.cell? ⟨T, kn * 5, none⟩ = some (.string kw)) := Lib.hid fun W' hb => HQg.out W' (hb.block g (by omega)) (hb.block T (by omega))
      refine wp_region_held_drew (S := fun W' => W'.cell? ⟨g, 0, none⟩ = some (.int .i64 kn) ∧ W'.cell? ⟨g, 1, none⟩ = some (.string nm) ∧ W'.cell? ⟨g, 2, none⟩ = some (.int .i64 on) ∧ W'.cell? ⟨g, 3, none⟩ = some (.string vl) ∧ W'.cell? ⟨T, kn * 5, none⟩ = some (.string kw)) (by kernel_rfl) ?_ (fun hHeld => ?_)
      · exact HQ.out _ (by go_grown)
      refine wpAnyH_take (i := 0) (v := ?_) (by simp only [List.getElem?_toArray, List.getElem?_cons_zero]; rfl) (by kernel_rfl) (by kernel_rfl) (by kernel_rfl) (by exact fun _ _ _ h => h) (Or.inl ⟨by rfl, ?_⟩) (by assumption) ?_
      rotate_left
      · intro w hSw
        go_simp
        try with_reducible rfl
      try simp only [Act.put, List.setIfInBounds_toArray, List.set_cons_zero, List.set_cons_succ]
      refine wpAnyH_take (i := 1) (v := ?_) (by simp only [List.getElem?_toArray, List.getElem?_cons_succ, List.getElem?_cons_zero]; rfl) (by kernel_rfl) (by kernel_rfl) (by kernel_rfl) (by exact fun _ _ _ h => h) (Or.inl ⟨by rfl, ?_⟩) (by assumption) ?_
      rotate_left
      · intro w hSw
        go_simp
        try with_reducible rfl
      try simp only [Act.put, List.setIfInBounds_toArray, List.set_cons_zero, List.set_cons_succ]
      refine wpAnyH_take (i := 2) (v := ?_) (by simp only [List.getElem?_toArray, List.getElem?_cons_succ, List.getElem?_cons_zero]; rfl) (by kernel_rfl) (by kernel_rfl) (by kernel_rfl) (by exact fun _ _ _ h => h) (Or.inl ⟨by rfl, ?_⟩) (by assumption) ?_
      rotate_left
      · intro w hSw
        go_simp
        try with_reducible rfl
      try simp only [Act.put, List.setIfInBounds_toArray, List.set_cons_zero, List.set_cons_succ]
      refine wpAnyH_take (i := 3) (v := ?_) (by simp only [List.getElem?_toArray, List.getElem?_cons_succ, List.getElem?_cons_zero]; rfl) (by kernel_rfl) (by kernel_rfl) (by kernel_rfl) (by exact fun _ _ _ h => h) (Or.inl ⟨by rfl, ?_⟩) (by assumption) ?_
      rotate_left
      · intro w hSw
        go_simp
        try with_reducible rfl
      try simp only [Act.put, List.setIfInBounds_toArray, List.set_cons_zero, List.set_cons_succ]
      refine wpAnyH_take (i := 4) (v := ?_) (by simp only [List.getElem?_toArray, List.getElem?_cons_succ, List.getElem?_cons_zero]; rfl) (by kernel_rfl) (by kernel_rfl) (by kernel_rfl) (by exact fun _ _ _ h => h) (Or.inl ⟨by rfl, ?_⟩) (by assumption) ?_
      rotate_left
      · intro w hSw
        go_simp
        try with_reducible rfl
      try simp only [Act.put, List.setIfInBounds_toArray, List.set_cons_zero, List.set_cons_succ]
      refine wpAnyH_take (i := 5) (v := ?_) (by simp only [List.getElem?_toArray, List.getElem?_cons_succ, List.getElem?_cons_zero]; rfl) (by kernel_rfl) (by kernel_rfl) (by kernel_rfl) (by exact fun _ _ _ h => h) (Or.inl ⟨by rfl, ?_⟩) (by assumption) ?_
      rotate_left
      · intro w hSw
        go_simp
        try with_reducible rfl
      try simp only [Act.put, List.setIfInBounds_toArray, List.set_cons_zero, List.set_cons_succ]
      refine wpAnyH_take (i := 6) (v := ?_) (by simp only [List.getElem?_toArray, List.getElem?_cons_succ, List.getElem?_cons_zero]; rfl) (by kernel_rfl) (by kernel_rfl) (by kernel_rfl) (by exact fun _ _ _ h => h) (Or.inl ⟨by rfl, ?_⟩) (by assumption) ?_
      rotate_left
      · intro w hSw
        go_simp
        try with_reducible rfl
      try simp only [Act.put, List.setIfInBounds_toArray, List.set_cons_zero, List.set_cons_succ]
      refine wpAnyH_take (i := 7) (v := ?_) (by simp only [List.getElem?_toArray, List.getElem?_cons_succ, List.getElem?_cons_zero]; rfl) (by kernel_rfl) (by kernel_rfl) (by kernel_rfl) (by exact fun _ _ _ h => h) (Or.inl ⟨by rfl, ?_⟩) (by assumption) ?_
      rotate_left
      · intro w hSw
        go_simp
        try with_reducible rfl
      try simp only [Act.put, List.setIfInBounds_toArray, List.set_cons_zero, List.set_cons_succ]
      refine wpAnyH_take (i := 9) (v := ?_) (by simp only [List.getElem?_toArray, List.getElem?_cons_succ, List.getElem?_cons_zero]; rfl) (by kernel_rfl) (by kernel_rfl) (by kernel_rfl) (by exact fun _ _ _ h => h) (Or.inl ⟨by rfl, ?_⟩) (by assumption) ?_
      rotate_left
      · intro w hSw
        go_simp
        try with_reducible rfl
      try simp only [Act.put, List.setIfInBounds_toArray, List.set_cons_zero, List.set_cons_succ]
      refine wpAnyH_take (i := 10) (v := ?_) (by simp only [List.getElem?_toArray, List.getElem?_cons_succ, List.getElem?_cons_zero]; rfl) (by kernel_rfl) (by kernel_rfl) (by kernel_rfl) (by exact fun _ _ _ h => h) (Or.inl ⟨by rfl, ?_⟩) (by assumption) ?_
      rotate_left
      · intro w hSw
        go_simp
        try with_reducible rfl
      try simp only [Act.put, List.setIfInBounds_toArray, List.set_cons_zero, List.set_cons_succ]
      refine wpAnyH_take (i := 13) (v := ?_) (by simp only [List.getElem?_toArray, List.getElem?_cons_succ, List.getElem?_cons_zero]; rfl) (by kernel_rfl) (by kernel_rfl) (by kernel_rfl) (by exact fun _ _ _ h => h) (Or.inl ⟨by rfl, ?_⟩) (by assumption) ?_
      rotate_left
      · intro w hSw
        go_simp
        try with_reducible rfl
      try simp only [Act.put, List.setIfInBounds_toArray, List.set_cons_zero, List.set_cons_succ]
      refine wpAnyH_take (i := 14) (v := ?_) (by simp only [List.getElem?_toArray, List.getElem?_cons_succ, List.getElem?_cons_zero]; rfl) (by kernel_rfl) (by kernel_rfl) (by kernel_rfl) (by exact fun _ _ _ h => h) (Or.inl ⟨by rfl, ?_⟩) (by assumption) ?_
      rotate_left
      · intro w hSw
        go_simp
        try with_reducible rfl
      try simp only [Act.put, List.setIfInBounds_toArray, List.set_cons_zero, List.set_cons_succ]
      refine wpAnyH_ready (rs := [8]) (by kernel_rfl) (by simp) ?_
      refine AllReadyH.cons (by simp only [List.getElem?_toArray, List.getElem?_cons_succ, List.getElem?_cons_zero]; rfl) (fun K hK => ?_) AllReadyH.nil
      go_simp
      go_at_call 75
      refine (tops_any _).mono ?_
      rintro e w6 ⟨rfl, rfl⟩
      refine hK.out _ _ (by first | exact HQ9.out | exact HQ.out _ (by go_grown)) (fun hHeld => ?_)
      clear hK K
      try simp only [Act.put, List.setIfInBounds_toArray, List.set_cons_zero, List.set_cons_succ]
      refine wpAnyH_take (i := 11) (v := ?_) (by simp only [List.getElem?_toArray, List.getElem?_cons_succ, List.getElem?_cons_zero]; rfl) (by kernel_rfl) (by kernel_rfl) (by kernel_rfl) (by exact fun _ _ _ h => h) (Or.inl ⟨by rfl, ?_⟩) (by assumption) ?_
      rotate_left
      · intro w hSw
        go_simp
        try with_reducible rfl
      try simp only [Act.put, List.setIfInBounds_toArray, List.set_cons_zero, List.set_cons_succ]
      refine wpAnyH_ready (rs := [12]) (by kernel_rfl) (by simp) ?_
      refine AllReadyH.cons (by simp only [List.getElem?_toArray, List.getElem?_cons_succ, List.getElem?_cons_zero]; rfl) (fun K hK => ?_) AllReadyH.nil
      go_simp
      refine hK.out _ _ (by first | exact HQ9.out | exact HQ.out _ (by go_grown)) (fun hHeld => ?_)
      clear hK K
      try simp only [Act.put, List.setIfInBounds_toArray, List.set_cons_zero, List.set_cons_succ]
      refine wpAnyH_take (i := 15) (v := ?_) (by simp only [List.getElem?_toArray, List.getElem?_cons_succ, List.getElem?_cons_zero]; rfl) (by kernel_rfl) (by kernel_rfl) (by kernel_rfl) (by exact fun _ _ _ h => h) (Or.inl ⟨by rfl, ?_⟩) (by assumption) ?_
      rotate_left
      · intro w hSw
        go_simp
        try with_reducible rfl
      try simp only [Act.put, List.setIfInBounds_toArray, List.set_cons_zero, List.set_cons_succ]
      refine wpAnyH_ready (rs := [16]) (by kernel_rfl) (by simp) ?_
      refine AllReadyH.cons (by simp only [List.getElem?_toArray, List.getElem?_cons_succ, List.getElem?_cons_zero]; rfl) (fun K hK => ?_) AllReadyH.nil
      go_simp
      refine hK.out _ _ (by first | exact HQ9.out | exact HQ.out _ (by go_grown)) (fun hHeld => ?_)
      clear hK K
      try simp only [Act.put, List.setIfInBounds_toArray, List.set_cons_zero, List.set_cons_succ]
      refine wpAnyH_ready (rs := [17]) (by kernel_rfl) (by simp) ?_
      refine AllReadyH.cons (by simp only [List.getElem?_toArray, List.getElem?_cons_succ, List.getElem?_cons_zero]; rfl) (fun K hK => ?_) AllReadyH.nil
      have HB6 : Below w5.heap.size w5 (((w5.alloc (.cells opsWA 9)).alloc (.cells #[.string kw, .string nm, .string ow, .string vl] 119)).drew) := (bt (below_alloc _ _) (below_alloc _ _)).drew
      have HO6 := Lib.hid (HOq.out.go HB6)
      refine step_append_lies _ (by rfl) _ _ _ (by rfl) w3.heap.size 119 i0 _ 4 64 Tryz.underlying116 Hi0.out Hz0.out Hz1.out Hz2.out rfl (by omega) (.slice Am ol.length cm) ol.length (cellsOf encTk ol) (by rfl) HO6.out.1 _ 1 1 (encTk ⟨kw, nm, ow, vl⟩) (by rfl) (by rfl) (by exact World.news_of_block (by have h := heap_alloc2_new w5 (.cells opsWA 9) (.cells #[.string kw, .string nm, .string ow, .string vl] 119); rw [hw5] at h; exact h)) (encTk_one _) (by omega) (by unfold maxLen; omega) (by omega) (by simp; omega) _ rfl ?_
      intro g2 cap w9 hown2 hgrow2 hat2 hlt2
      have HO2 := Lib.hid (HO6.out.snocW hown2 hgrow2)
      have HQ9 := Lib.hid (HQg.out w9 ((hgrow2.block g (Nat.lt_of_lt_of_le (by omega) HB6.size) (fun e => by have := HOr.out _ (by first | exact e | exact e.symm); omega)).trans (HB6.block g (by omega))) ((hgrow2.block T (Nat.lt_of_lt_of_le (by omega) HB6.size) (fun e => by have := HOr.out _ (by first | exact e | exact e.symm); omega)).trans (HB6.block T (by omega))))
      clear hown2 hgrow2 hat2 hlt2 HB6
      refine hK.out _ _ (by first | exact HQ9.out | exact HQ.out _ (by go_grown)) (fun hHeld => ?_)
      clear hK K
      try simp only [Act.put, List.setIfInBounds_toArray, List.set_cons_zero, List.set_cons_succ]
      refine wpAnyH_take (i := 18) (v := ?_) (by simp only [List.getElem?_toArray, List.getElem?_cons_succ, List.getElem?_cons_zero]; rfl) (by kernel_rfl) (by kernel_rfl) (by kernel_rfl) (by exact fun _ _ _ h => h) (Or.inl ⟨by rfl, ?_⟩) (by assumption) ?_
      rotate_left
      · intro w hSw
        go_simp
        try with_reducible rfl
      try simp only [Act.put, List.setIfInBounds_toArray, List.set_cons_zero, List.set_cons_succ]
      refine wpAnyH_done (by kernel_rfl) ?_ _
      go_wp2
      go_roundg (gk - 1)
      case measure => omega
      case rel => exact ⟨k + 1, _, _, _, by rw [List.length_append]; rfl, by go_num, by omega, by omega, by rw [List.length_append]; simp; omega, HX2, by rw [List.length_append]; exact HO2.out⟩
    · obtain rfl : k = N := by omega
      have hXl : ol = l.map tokOf := by rw [hX.out, List.take_of_length_le (by rw [HN.out]; exact Nat.le_refl _)]
      rw [← hXl] at HF
      have hpre : ∀ x ∈ ol, TkSmall x := by
        intro x hx
        rw [hXl] at hx
        obtain ⟨t, ht, rfl⟩ := List.mem_map.1 hx
        exact tokOf_small (HK.out t ht)
      have HW4 := Lib.hid (bt HW3.out hO.out.2)
      have HFm := Lib.hid (PLFormat_any Am cm ol wr (HE.out wr HW4.out).toEnv0 (RowAt.of_own hO.out.1) (by omega) hpre)
      unfold FmtPost at HFm
      clear hXl hpre hX
      obtain ⟨r1, hr1⟩ : ∃ r1, (fmtS ol).1 = r1 := ⟨_, rfl⟩
      obtain ⟨r2, hr2⟩ : ∃ r2, (fmtS ol).2 = r2 := ⟨_, rfl⟩
      rw [hr1, hr2] at HFm
      have HR1 := Lib.hid hr1
      have HR2 := Lib.hid hr2
      clear hr1 hr2
      go_wp2_with (go_at_call 76; refine HFm.out.mono ?_; rintro e w5 ⟨rfl, hb5⟩)
      go_ret2
      unfold FormatPost
      rw [HF.out, HR1.out, HR2.out]
      exact ⟨rfl, bt HW4.out hb5⟩
  · have HF : Hid (formatE l = ([], checkE l)) := Lib.hid (by rw [formatE, if_neg hce])
    have hne : (checkE l == 0) = false := by simp [hce]
    have hne2 : (checkE l != 0) = true := by rw [bne, hne]; rfl
    unfold FormatPost
    rw [HF.out]
    generalize checkE l = r at *
    generalize l.length = N at *
    clear hce HF
    go_enter Tryz.func41, Tryz.ntmps41
    go_wp2_with (go_at_call 28; refine HC.out.mono ?_; rintro e w1 ⟨rfl, hb1⟩)
    go_ret2
    exact ⟨rfl, hb1⟩
end Go.Proofs.YthcgkeiggnfgiaaGreatDoor
