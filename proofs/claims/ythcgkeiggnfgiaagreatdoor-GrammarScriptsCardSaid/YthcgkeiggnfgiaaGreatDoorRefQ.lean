/-
  Contract of the reference's place.
-/
import Derived.Test.YthcgkeiggnfgiaaGreatDoorG22
namespace Go.Proofs.YthcgkeiggnfgiaaGreatDoor
open Go.RowKit
/-- What place leaves: a piece, a rest, and whether it is one. -/
def PlPost (k : Nat) (s : ByteArray) (w : World) (e : Ending) (w' : World) : Prop := ∃ p r ok, e = .returned (.tuple #[encP p, .string r, .bool ok]) ∧ Below w.heap.size w w' ∧ placeS k (L s) = (if ok = true then some (p, L r) else none)
set_option maxRecDepth 100000 in
set_option maxHeartbeats 1000000 in
/-- No piece, or one without braces. -/
theorem Rplace_plain (k : Nat) (s : ByteArray) (w : World) (hs : s.size ≤ 1000) (h7 : k ≠ 7) (h8 : k ≠ 8) (h9 : ¬ (k = 9 ∧ (L s).head? = some 123)) :
    Calls Tryz.prog 217 #[.int .i64 k, .string s] w (PlPost k s w) := by
  have hpl : placeS k (L s) = if k = 0 then none else some (⟨k, bs [], 0, false⟩, L s) := by
    unfold placeS
    by_cases h0 : k = 0
    · rw [if_pos h0, if_pos h0]
    · rw [if_neg h0, if_neg h0, if_neg h7, if_neg h8, if_neg h9]
  have HPl := Lib.hid hpl
  have hpre := prefix_one (L s) 123
  have HP := HasPrefix_any s ⟨#[123]⟩ w
  have hBr : ∃ (a b : ByteArray) (ok : Bool), ∀ W : World, Calls Tryz.prog 252 #[.string s] W fun e w' => e = .returned (.tuple #[.string a, .string b, .bool ok]) ∧ ∃ n, W.drewN n = w' := by
    cases h : bracesS (L s) with
    | none => exact ⟨_, _, _, fun W => (Rbraces_no s W (by omega) h).mono fun e w' h => ⟨h.1, 0, h.2⟩⟩
    | some ab => exact ⟨_, _, _, fun W => Rbraces_yes s ab.1 ab.2 W (by omega) h⟩
  obtain ⟨a, b, okb, hBr⟩ := hBr
  have HBr := Lib.hid hBr
  clear hBr hpl
  have t7 : ((k : Int) == 7) = false := by simp; omega
  have t8 : ((k : Int) == 8) = false := by simp; omega
  by_cases h0 : k = 0
  · subst h0
    go_enter Tryz.func217, Tryz.ntmps217
    go_wp2_with (go_at_call 252; refine (HBr.out _).mono ?_; rintro e w' ⟨rfl, n, rfl⟩)
    refine bodyPost_ret (v := .tuple #[.agg #[.int .i64 0, .string ⟨#[]⟩, .int .i64 0, .bool false], .string s, .bool false]) (by simp [results, Tryz.results217, go_sem]) rfl ?_
    exact ⟨⟨0, bs [], 0, false⟩, s, false, rfl, (by go_grown; exact below_drewN (by go_grown) _), by rw [HPl.out]; rfl⟩
  · have t0 : ((k : Int) == 0) = false := by simp; omega
    by_cases h9k : k = 9
    · subst h9k
      have hpf : Lib.hasPrefix (L s) [123] = false := by
        rw [hpre]
        simpa using fun e => h9 ⟨rfl, e⟩
      change Calls _ _ _ _ (fun e w' => e = .returned (.bool (Lib.hasPrefix (L s) [123])) ∧ w = w') at HP
      have HP' : ∀ W, Calls Tryz.prog 190 #[.string s, .string ⟨#[123]⟩] W fun e w' => e = .returned (.bool false) ∧ W = w' := fun W => by
        have h := HasPrefix_any s ⟨#[123]⟩ W
        change Calls _ _ _ _ (fun e w' => e = .returned (.bool (Lib.hasPrefix (L s) [123])) ∧ W = w') at h
        rw [hpf] at h
        exact h
      have HP2 := Lib.hid HP'
      clear HP HP' hpf h9 hpre t0 t7 t8
      go_enter Tryz.func217, Tryz.ntmps217
      go_wp2_with (first | (go_at_call 252; refine (HBr.out _).mono ?_; rintro e w' ⟨rfl, n, rfl⟩) | (go_at_call 190; refine (HP2.out _).mono ?_; rintro e w' ⟨rfl, rfl⟩))
      refine bodyPost_ret (v := .tuple #[.agg #[.int .i64 9, .string ⟨#[]⟩, .int .i64 0, .bool false], .string s, .bool true]) (by simp [results, Tryz.results217, go_sem]) rfl ?_
      exact ⟨⟨9, bs [], 0, false⟩, s, true, rfl, (by go_grown; exact below_drewN (by go_grown) _), by rw [HPl.out]; rfl⟩
    · have t9 : ((k : Int) == 9) = false := by simp; omega
      clear HP h9 hpre
      go_enter Tryz.func217, Tryz.ntmps217
      go_wp2_with (go_at_call 252; refine (HBr.out _).mono ?_; rintro e w' ⟨rfl, n, rfl⟩)
      refine bodyPost_ret (v := .tuple #[.agg #[.int .i64 k, .string ⟨#[]⟩, .int .i64 0, .bool false], .string s, .bool true]) (by simp [results, Tryz.results217, go_sem]) rfl ?_
      exact ⟨⟨k, bs [], 0, false⟩, s, true, rfl, (by go_grown; exact below_drewN (by go_grown) _), by rw [HPl.out, if_neg h0]; rfl⟩
set_option maxRecDepth 100000 in
set_option maxHeartbeats 2000000 in
theorem Rplace7 (s : ByteArray) (w : World) (hs : s.size ≤ 1000) :
    Calls Tryz.prog 217 #[.int .i64 7, .string s] w (PlPost 7 s w) := by
  cases hb : bracesS (L s) with
  | none =>
    have hpl : placeS 7 (L s) = none := by
      unfold placeS
      rw [if_neg (by decide), if_pos rfl, hb]; rfl
    have HPl := Lib.hid hpl
    have HBr := Lib.hid (fun W => Rbraces_no s W (by omega) hb)
    clear hpl hb
    go_enter Tryz.func217, Tryz.ntmps217
    go_wp2_with (go_at_call 252; refine (HBr.out _).mono ?_; rintro e w' ⟨rfl, rfl⟩)
    go_region
    go_wp2
    refine bodyPost_ret (v := .tuple #[.agg #[.int .i64 7, .string ⟨#[]⟩, .int .i64 0, .bool false], .string s, .bool false]) (by simp [results, Tryz.results217, go_sem]) rfl ?_
    exact ⟨⟨7, bs [], 0, false⟩, s, false, rfl, by go_grown, by rw [HPl.out]; rfl⟩
  | some ab =>
    obtain ⟨a, b⟩ := ab
    have hlen := bracesS_len hb
    have hpl : placeS 7 (L s) = if validS a = true then some (⟨7, bs a, 0, false⟩, b) else none := by
      unfold placeS
      rw [if_neg (by decide), if_pos rfl, hb]
      rfl
    have HPl := Lib.hid hpl
    have HBr := Lib.hid (fun W => Rbraces_yes s a b W (by omega) hb)
    have hV := fun W => RValid_any (bs a) W (by rw [size_bs]; rw [len_L] at hlen; omega)
    rw [L_bs] at hV
    clear hpl hb hlen
    cases hv : validS a
    · rw [hv] at hV HPl
      have HV := Lib.hid hV
      clear hV hv
      go_enter Tryz.func217, Tryz.ntmps217
      go_wp2_with (go_at_call 252; refine (HBr.out _).mono ?_; rintro e w' ⟨rfl, n, rfl⟩)
      go_region_with (go_at_call 58; refine (HV.out _).mono ?_; rintro e w' ⟨rfl, rfl⟩)
      all_goals
        go_wp2
        refine bodyPost_ret (v := .tuple #[.agg #[.int .i64 7, .string (bs a), .int .i64 0, .bool false], .string (bs b), .bool false]) (by simp [results, Tryz.results217, go_sem]) rfl ?_
        exact ⟨⟨7, bs a, 0, false⟩, bs b, false, rfl, (by go_grown; exact below_drewN (by go_grown) _), by rw [HPl.out]; rfl⟩
    · rw [hv] at hV HPl
      have HV := Lib.hid hV
      clear hV hv
      go_enter Tryz.func217, Tryz.ntmps217
      go_wp2_with (go_at_call 252; refine (HBr.out _).mono ?_; rintro e w' ⟨rfl, n, rfl⟩)
      go_region_with (go_at_call 58; refine (HV.out _).mono ?_; rintro e w' ⟨rfl, rfl⟩)
      all_goals
        go_wp2
        refine bodyPost_ret (v := .tuple #[.agg #[.int .i64 7, .string (bs a), .int .i64 0, .bool false], .string (bs b), .bool true]) (by simp [results, Tryz.results217, go_sem]) rfl ?_
        exact ⟨⟨7, bs a, 0, false⟩, bs b, true, rfl, (by go_grown; exact below_drewN (by go_grown) _), by rw [HPl.out, L_bs]; try rfl⟩
set_option maxRecDepth 100000 in
set_option maxHeartbeats 2000000 in
theorem Rplace8 (s : ByteArray) (w : World) (hs : s.size ≤ 1000) :
    Calls Tryz.prog 217 #[.int .i64 8, .string s] w (PlPost 8 s w) := by
  cases hb : bracesS (L s) with
  | none =>
    have hpl : placeS 8 (L s) = none := by
      unfold placeS
      rw [if_neg (by decide), if_neg (by decide), if_pos rfl, hb]; rfl
    have HPl := Lib.hid hpl
    have HBr := Lib.hid (fun W => Rbraces_no s W (by omega) hb)
    clear hpl hb
    go_enter Tryz.func217, Tryz.ntmps217
    go_wp2_with (go_at_call 252; refine (HBr.out _).mono ?_; rintro e w' ⟨rfl, rfl⟩)
    go_region
    go_wp2
    refine bodyPost_ret (v := .tuple #[.agg #[.int .i64 8, .string ⟨#[]⟩, .int .i64 0, .bool false], .string s, .bool false]) (by simp [results, Tryz.results217, go_sem]) rfl ?_
    exact ⟨⟨8, bs [], 0, false⟩, s, false, rfl, by go_grown, by rw [HPl.out]; rfl⟩
  | some ab =>
    obtain ⟨a, b⟩ := ab
    have hlen := bracesS_len hb
    have hpl : placeS 8 (L s) = if keyS a = true then some (⟨8, bs a, 0, false⟩, b) else none := by
      unfold placeS
      rw [if_neg (by decide), if_neg (by decide), if_pos rfl, hb]
      rfl
    have HPl := Lib.hid hpl
    have HBr := Lib.hid (fun W => Rbraces_yes s a b W (by omega) hb)
    have hV := fun W => RKey_any (bs a) W (by rw [size_bs]; rw [len_L] at hlen; omega)
    rw [L_bs] at hV
    clear hpl hb hlen
    cases hv : keyS a
    · rw [hv] at hV HPl
      have HV := Lib.hid hV
      clear hV hv
      go_enter Tryz.func217, Tryz.ntmps217
      go_wp2_with (go_at_call 252; refine (HBr.out _).mono ?_; rintro e w' ⟨rfl, n, rfl⟩)
      go_region_with (go_at_call 107; refine (HV.out _).mono ?_; rintro e w' ⟨rfl, rfl⟩)
      all_goals
        go_wp2
        refine bodyPost_ret (v := .tuple #[.agg #[.int .i64 8, .string (bs a), .int .i64 0, .bool false], .string (bs b), .bool false]) (by simp [results, Tryz.results217, go_sem]) rfl ?_
        exact ⟨⟨8, bs a, 0, false⟩, bs b, false, rfl, (by go_grown; exact below_drewN (by go_grown) _), by rw [HPl.out]; rfl⟩
    · rw [hv] at hV HPl
      have HV := Lib.hid hV
      clear hV hv
      go_enter Tryz.func217, Tryz.ntmps217
      go_wp2_with (go_at_call 252; refine (HBr.out _).mono ?_; rintro e w' ⟨rfl, n, rfl⟩)
      go_region_with (go_at_call 107; refine (HV.out _).mono ?_; rintro e w' ⟨rfl, rfl⟩)
      all_goals
        go_wp2
        refine bodyPost_ret (v := .tuple #[.agg #[.int .i64 8, .string (bs a), .int .i64 0, .bool false], .string (bs b), .bool true]) (by simp [results, Tryz.results217, go_sem]) rfl ?_
        exact ⟨⟨8, bs a, 0, false⟩, bs b, true, rfl, (by go_grown; exact below_drewN (by go_grown) _), by rw [HPl.out, L_bs]; try rfl⟩
set_option maxRecDepth 100000 in
set_option maxHeartbeats 2000000 in
theorem Rplace9_at (s t r : ByteArray) (okb okc m : Bool) (n : Int) (w : World) (hE : Env0 w) (h123 : (L s).head? = some 123)
    (hBr : ∀ W, Calls Tryz.prog 252 #[.string s] W fun e w' => e = .returned (.tuple #[.string t, .string r, .bool okb]) ∧ ∃ k, W.drewN k = w')
    (hC : ∀ W, Env0 W → Calls Tryz.prog 253 #[.string t] W fun e w' => e = .returned (.tuple #[.int .i64 n, .bool m, .bool okc]) ∧ Below W.heap.size W w')
    (hpl : placeS 9 (L s) = if (okb && okc) = true then some (⟨9, bs [], n, m⟩, L r) else none) :
    Calls Tryz.prog 217 #[.int .i64 9, .string s] w (PlPost 9 s w) := by
  have hpf : Lib.hasPrefix (L s) [123] = true := by rw [prefix_one, h123]; rfl
  have HP' : ∀ W, Calls Tryz.prog 190 #[.string s, .string ⟨#[123]⟩] W fun e w' => e = .returned (.bool true) ∧ W = w' := fun W => by
    have h := HasPrefix_any s ⟨#[123]⟩ W
    change Calls _ _ _ _ (fun e w' => e = .returned (.bool (Lib.hasPrefix (L s) [123])) ∧ W = w') at h
    rw [hpf] at h
    exact h
  have HP2 := Lib.hid HP'
  have HE := Lib.hid hE
  have HBr := Lib.hid hBr
  have HC := Lib.hid hC
  have HPl := Lib.hid hpl
  clear HP' hpf hE hBr hC hpl h123
  go_enter Tryz.func217, Tryz.ntmps217
  go_wp2_with (first | (go_at_call 252; refine (HBr.out _).mono ?_; rintro e w' ⟨rfl, k, rfl⟩) | (go_at_call 190; refine (HP2.out _).mono ?_; rintro e w' ⟨rfl, rfl⟩))
  obtain ⟨W1, hW1⟩ : ∃ W1, ((w.alloc (.cells #[.int .i64 0, .string ⟨#[]⟩, .int .i64 0, .bool false] 241)).alloc (.cells #[.int .i64 9, .string ⟨#[]⟩, .int .i64 0, .bool false] 241)).drewN k = W1 := ⟨_, rfl⟩
  rw [hW1]
  have hb0 : W1.heap[w.heap.size]? = some (.cells #[.int .i64 0, .string ⟨#[]⟩, .int .i64 0, .bool false] 241 (0, 0)) := by rw [← hW1]; exact heap_alloc2_old w _ _
  have hb1 : W1.heap[w.heap.size + 1]? = some (.cells #[.int .i64 9, .string ⟨#[]⟩, .int .i64 0, .bool false] 241 (0, 0)) := by rw [← hW1]; exact heap_alloc2_new w _ _
  have hbw : Below w.heap.size w W1 := by rw [← hW1]; exact below_drewN (((Below.refl _ _).alloc (Nat.le_refl _) _).alloc (by simp) _) _
  clear hW1
  with_reducible refine (HC.out W1 (HE.out.go hbw)).mono ?_
  rintro e w2 ⟨rfl, hb2⟩
  have hlt : w.heap.size + 1 < w2.heap.size := Nat.lt_of_lt_of_le (blk_lt hb1) hb2.size
  replace hb0 := (hb2.block _ (blk_lt hb0)).trans hb0
  replace hb1 := (hb2.block _ (blk_lt hb1)).trans hb1
  have HB2 : Hid (Below w.heap.size w w2) := Lib.hid (bt hbw hb2)
  have r0 : w2.cell? ⟨w.heap.size, 0, none⟩ = some (.int .i64 0) := by rw [cell_of_row _ _ 0 _ _ _ hb0]; rfl
  have r1 : w2.cell? ⟨w.heap.size, 1, none⟩ = some (.string ⟨#[]⟩) := by rw [cell_of_row _ _ 1 _ _ _ hb0]; rfl
  have r2 : w2.cell? ⟨w.heap.size, 2, none⟩ = some (.int .i64 0) := by rw [cell_of_row _ _ 2 _ _ _ hb0]; rfl
  have r3 : w2.cell? ⟨w.heap.size, 3, none⟩ = some (.bool false) := by rw [cell_of_row _ _ 3 _ _ _ hb0]; rfl
  have p0 : w2.cell? ⟨w.heap.size + 1, 0, none⟩ = some (.int .i64 9) := by rw [cell_of_row _ _ 0 _ _ _ hb1]; rfl
  have p1 : w2.cell? ⟨w.heap.size + 1, 1, none⟩ = some (.string ⟨#[]⟩) := by rw [cell_of_row _ _ 1 _ _ _ hb1]; rfl
  have p2 : w2.cell? ⟨w.heap.size + 1, 2, none⟩ = some (.int .i64 0) := by rw [cell_of_row _ _ 2 _ _ _ hb1]; rfl
  have p3 : w2.cell? ⟨w.heap.size + 1, 3, none⟩ = some (.bool false) := by rw [cell_of_row _ _ 3 _ _ _ hb1]; rfl
  have f0 : w2.frozen? ⟨w.heap.size, 0, none⟩ = false := frozen_of_row _ _ _ _ _ hb0
  have f1 : w2.frozen? ⟨w.heap.size, 1, none⟩ = false := frozen_of_row _ _ _ _ _ hb0
  have f2 : w2.frozen? ⟨w.heap.size, 2, none⟩ = false := frozen_of_row _ _ _ _ _ hb0
  have f3 : w2.frozen? ⟨w.heap.size, 3, none⟩ = false := frozen_of_row _ _ _ _ _ hb0
  have g2 : w2.frozen? ⟨w.heap.size + 1, 2, none⟩ = false := frozen_of_row _ _ _ _ _ hb1
  have g3 : w2.frozen? ⟨w.heap.size + 1, 3, none⟩ = false := frozen_of_row _ _ _ _ _ hb1
  clear hb0 hb1 hb2 hbw
  cases okb
  · go_wp2
    refine bodyPost_ret (v := .tuple #[.agg #[.int .i64 9, .string ⟨#[]⟩, .int .i64 n, .bool m], .string r, .bool false]) (by simp [results, Tryz.results217, go_sem, r0, r1, r2, r3]) rfl ?_
    exact ⟨⟨9, bs [], n, m⟩, r, false, rfl, ((((((HB2.out.setCell (p := ⟨w.heap.size + 1, 2, none⟩) (Nat.le_succ _) _).setCell (p := ⟨w.heap.size + 1, 3, none⟩) (Nat.le_succ _) _).setCell (p := ⟨w.heap.size, 0, none⟩) (Nat.le_refl _) _).setCell (p := ⟨w.heap.size, 1, none⟩) (Nat.le_refl _) _).setCell (p := ⟨w.heap.size, 2, none⟩) (Nat.le_refl _) _).setCell (p := ⟨w.heap.size, 3, none⟩) (Nat.le_refl _) _), by rw [HPl.out]; rfl⟩
  · cases okc
    · go_wp2
      refine bodyPost_ret (v := .tuple #[.agg #[.int .i64 9, .string ⟨#[]⟩, .int .i64 n, .bool m], .string r, .bool false]) (by simp [results, Tryz.results217, go_sem, r0, r1, r2, r3]) rfl ?_
      exact ⟨⟨9, bs [], n, m⟩, r, false, rfl, ((((((HB2.out.setCell (p := ⟨w.heap.size + 1, 2, none⟩) (Nat.le_succ _) _).setCell (p := ⟨w.heap.size + 1, 3, none⟩) (Nat.le_succ _) _).setCell (p := ⟨w.heap.size, 0, none⟩) (Nat.le_refl _) _).setCell (p := ⟨w.heap.size, 1, none⟩) (Nat.le_refl _) _).setCell (p := ⟨w.heap.size, 2, none⟩) (Nat.le_refl _) _).setCell (p := ⟨w.heap.size, 3, none⟩) (Nat.le_refl _) _), by rw [HPl.out]; rfl⟩
    · go_wp2
      refine bodyPost_ret (v := .tuple #[.agg #[.int .i64 9, .string ⟨#[]⟩, .int .i64 n, .bool m], .string r, .bool true]) (by simp [results, Tryz.results217, go_sem, r0, r1, r2, r3]) rfl ?_
      exact ⟨⟨9, bs [], n, m⟩, r, true, rfl, ((((((HB2.out.setCell (p := ⟨w.heap.size + 1, 2, none⟩) (Nat.le_succ _) _).setCell (p := ⟨w.heap.size + 1, 3, none⟩) (Nat.le_succ _) _).setCell (p := ⟨w.heap.size, 0, none⟩) (Nat.le_refl _) _).setCell (p := ⟨w.heap.size, 1, none⟩) (Nat.le_refl _) _).setCell (p := ⟨w.heap.size, 2, none⟩) (Nat.le_refl _) _).setCell (p := ⟨w.heap.size, 3, none⟩) (Nat.le_refl _) _), by rw [HPl.out]; rfl⟩
theorem Rplace9 (s : ByteArray) (w : World) (hE : Env0 w) (hs : s.size ≤ 1000) (h123 : (L s).head? = some 123) :
    Calls Tryz.prog 217 #[.int .i64 9, .string s] w (PlPost 9 s w) := by
  cases hb : bracesS (L s) with
  | none =>
    have hpl : placeS 9 (L s) = none := by
      unfold placeS
      rw [if_neg (by decide), if_neg (by decide), if_neg (by decide), if_pos ⟨rfl, h123⟩, hb]; rfl
    have e0 : countV (L ⟨#[]⟩) = .returned (.tuple #[.int .i64 0, .bool false, .bool false]) := by kernel_rfl
    refine Rplace9_at s ⟨#[]⟩ s false false false 0 w hE h123 (fun W => (Rbraces_no s W (by omega) hb).mono fun e w' h => ⟨h.1, 0, h.2⟩) (fun W hW => ?_) (by rw [hpl]; rfl)
    have h := Rcount_any ⟨#[]⟩ W hW (Nat.zero_le _)
    rw [e0] at h
    exact h
  | some ab =>
    obtain ⟨a, b⟩ := ab
    have hlen := bracesS_len hb
    rw [len_L] at hlen
    have hpl : placeS 9 (L s) = (countS a).map fun (n, m) => (⟨9, bs [], n, m⟩, b) := by
      unfold placeS
      rw [if_neg (by decide), if_neg (by decide), if_neg (by decide), if_pos ⟨rfl, h123⟩, hb]; rfl
    have hC := fun W hW => Rcount_any (bs a) W hW (by rw [size_bs]; omega)
    rw [L_bs] at hC
    unfold countV at hC
    cases hc : countS a with
    | none =>
      rw [hc] at hC hpl
      exact Rplace9_at s (bs a) (bs b) true false false 0 w hE h123 (fun W => Rbraces_yes s a b W (by omega) hb) hC (by rw [hpl]; rfl)
    | some nm =>
      obtain ⟨n, m⟩ := nm
      rw [hc] at hC hpl
      exact Rplace9_at s (bs a) (bs b) true true m n w hE h123 (fun W => Rbraces_yes s a b W (by omega) hb) hC (by rw [hpl, L_bs]; rfl)
/-- Whatever the kind. -/
theorem Rplace_any (k : Nat) (s : ByteArray) (w : World) (hE : Env0 w) (hs : s.size ≤ 1000) : Calls Tryz.prog 217 #[.int .i64 k, .string s] w (PlPost k s w) := by
  by_cases h7 : k = 7
  · subst h7; exact Rplace7 s w hs
  by_cases h8 : k = 8
  · subst h8; exact Rplace8 s w hs
  by_cases h9 : k = 9 ∧ (L s).head? = some 123
  · obtain ⟨rfl, h⟩ := h9; exact Rplace9 s w hE hs h
  exact Rplace_plain k s w hs h7 h8 h9
end Go.Proofs.YthcgkeiggnfgiaaGreatDoor
