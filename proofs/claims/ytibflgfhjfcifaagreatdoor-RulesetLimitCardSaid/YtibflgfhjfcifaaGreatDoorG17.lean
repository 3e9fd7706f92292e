/-
  Contract of the reference's place.
  Contract of the reference's add.
  Plain facts for the reference's Parse: the letters, the run of a word, one step.
  Contract of the reference's Parse.
-/
import Derived.Test.YtibflgfhjfcifaaGreatDoorG16
namespace Go.Proofs.YtibflgfhjfcifaaGreatDoor
open Go.RowKit
def PlPost (k : Nat) (s : ByteArray) (w : World) (e : Ending) (w' : World) : Prop := ∃ p r ok, e = .returned (.tuple #[encP p, .string r, .bool ok]) ∧ Below w.heap.size w w' ∧ placeS k (L s) = (if ok = true then some (p, L r) else none)
set_option maxRecDepth 100000 in
set_option maxHeartbeats 1000000 in
theorem Rplace_plain (k : Nat) (s : ByteArray) (w : World) (hs : s.size ≤ 1000) (h7 : k ≠ 7) (h8 : k ≠ 8) (h9 : ¬ (k = 9 ∧ (L s).head? = some 123)) :
 Calls Tryz.prog 238 #[.int .i64 k, .string s] w (PlPost k s w) := by
 have hpl : placeS k (L s) = if k = 0 then none else some (⟨k, bs [], 0, false⟩, L s) := by
  unfold placeS
  by_cases h0 : k = 0
  · rw [if_pos h0, if_pos h0]
  · rw [if_neg h0, if_neg h0, if_neg h7, if_neg h8, if_neg h9]
 have HPl := Lib.hid hpl
 have hpre := prefix_one (L s) 123
 have HP := HasPrefix_any s ⟨#[123]⟩ w
 have hBr : ∃ (a b : ByteArray) (ok : Bool), ∀ W : World, Calls Tryz.prog 267 #[.string s] W fun e w' => e = .returned (.tuple #[.string a, .string b, .bool ok]) ∧ ∃ n, W.drewN n = w' := by
  cases h : bracesS (L s) with
  | none => exact ⟨_, _, _, fun W => (Rbraces_no s W (by omega) h).mono fun e w' h => ⟨h.1, 0, h.2⟩⟩
  | some ab => exact ⟨_, _, _, fun W => Rbraces_yes s ab.1 ab.2 W (by omega) h⟩
 obtain ⟨a, b, okb, hBr⟩ := hBr
 have HBr := Lib.hid hBr
 clear hBr hpl
 have t7 : ((k : Int) == 7) = false := by simp; omega
 have t8 : ((k : Int) == 8) = false := by simp; omega
 by_cases h0 : k = 0
 · subst h0
   go_enter Tryz.func238, Tryz.ntmps238
   go_wp2_with (go_at_call 267; refine (HBr.out _).mono ?_; rintro e w' ⟨rfl, n, rfl⟩)
   refine bodyPost_ret (v := .tuple #[.agg #[.int .i64 0, .string ⟨#[]⟩, .int .i64 0, .bool false], .string s, .bool false]) (by simp [results, Tryz.results238, go_sem]) rfl ?_
   exact ⟨⟨0, bs [], 0, false⟩, s, false, rfl, (by go_grown; exact below_drewN (by go_grown) _), by rw [HPl.out]; rfl⟩
 · have t0 : ((k : Int) == 0) = false := by simp; omega
   by_cases h9k : k = 9
   · subst h9k
     have hpf : Lib.hasPrefix (L s) [123] = false := by
      rw [hpre]
      simpa using fun e => h9 ⟨rfl, e⟩
     change Calls _ _ _ _ (fun e w' => e = .returned (.bool (Lib.hasPrefix (L s) [123])) ∧ w = w') at HP
     have HP' : ∀ W, Calls Tryz.prog 48 #[.string s, .string ⟨#[123]⟩] W fun e w' => e = .returned (.bool false) ∧ W = w' := fun W => by
      have h := HasPrefix_any s ⟨#[123]⟩ W
      change Calls _ _ _ _ (fun e w' => e = .returned (.bool (Lib.hasPrefix (L s) [123])) ∧ W = w') at h
      rw [hpf] at h
      exact h
     have HP2 := Lib.hid HP'
     clear HP HP' hpf h9 hpre t0 t7 t8
     go_enter Tryz.func238, Tryz.ntmps238
     go_wp2_with (first | (go_at_call 267; refine (HBr.out _).mono ?_; rintro e w' ⟨rfl, n, rfl⟩) | (go_at_call 48; refine (HP2.out _).mono ?_; rintro e w' ⟨rfl, rfl⟩))
     refine bodyPost_ret (v := .tuple #[.agg #[.int .i64 9, .string ⟨#[]⟩, .int .i64 0, .bool false], .string s, .bool true]) (by simp [results, Tryz.results238, go_sem]) rfl ?_
     exact ⟨⟨9, bs [], 0, false⟩, s, true, rfl, (by go_grown; exact below_drewN (by go_grown) _), by rw [HPl.out]; rfl⟩
   · have t9 : ((k : Int) == 9) = false := by simp; omega
     clear HP h9 hpre
     go_enter Tryz.func238, Tryz.ntmps238
     go_wp2_with (go_at_call 267; refine (HBr.out _).mono ?_; rintro e w' ⟨rfl, n, rfl⟩)
     refine bodyPost_ret (v := .tuple #[.agg #[.int .i64 k, .string ⟨#[]⟩, .int .i64 0, .bool false], .string s, .bool true]) (by simp [results, Tryz.results238, go_sem]) rfl ?_
     exact ⟨⟨k, bs [], 0, false⟩, s, true, rfl, (by go_grown; exact below_drewN (by go_grown) _), by rw [HPl.out, if_neg h0]; rfl⟩
set_option maxRecDepth 100000 in
set_option maxHeartbeats 2000000 in
theorem Rplace7 (s : ByteArray) (w : World) (hs : s.size ≤ 1000) :
 Calls Tryz.prog 238 #[.int .i64 7, .string s] w (PlPost 7 s w) := by
 cases hb : bracesS (L s) with
 | none =>
   have hpl : placeS 7 (L s) = none := by
    unfold placeS
    rw [if_neg (by decide), if_pos rfl, hb]; rfl
   have HPl := Lib.hid hpl
   have HBr := Lib.hid (fun W => Rbraces_no s W (by omega) hb)
   clear hpl hb
   go_enter Tryz.func238, Tryz.ntmps238
   go_wp2_with (go_at_call 267; refine (HBr.out _).mono ?_; rintro e w' ⟨rfl, rfl⟩)
   go_region
   go_wp2
   refine bodyPost_ret (v := .tuple #[.agg #[.int .i64 7, .string ⟨#[]⟩, .int .i64 0, .bool false], .string s, .bool false]) (by simp [results, Tryz.results238, go_sem]) rfl ?_
   exact ⟨⟨7, bs [], 0, false⟩, s, false, rfl, by go_grown, by rw [HPl.out]; rfl⟩
 | some ab =>
   obtain ⟨a, b⟩ := ab
   have hlen := bracesS_len hb
   have hpl : placeS 7 (L s) = if validS a = true then some (⟨7, bs a, 0, false⟩, b) else none := by
    unfold placeS
    rw [if_neg (by decide), if_pos rfl, hb]
    rfl
   have HPl := Lib.hid hpl
   have HBr := Lib.hid (fun W => Rbraces_yes s a b W (by omega) hb)
   have hV := fun W => RValid_any (bs a) W (by rw [size_bs]; rw [len_L] at hlen; omega)
   rw [L_bs] at hV
   clear hpl hb hlen
   cases hv : validS a
   · rw [hv] at hV HPl
     have HV := Lib.hid hV
     clear hV hv
     go_enter Tryz.func238, Tryz.ntmps238
     go_wp2_with (go_at_call 267; refine (HBr.out _).mono ?_; rintro e w' ⟨rfl, n, rfl⟩)
     go_region_with (go_at_call 64; refine (HV.out _).mono ?_; rintro e w' ⟨rfl, rfl⟩)
     all_goals
      go_wp2
      refine bodyPost_ret (v := .tuple #[.agg #[.int .i64 7, .string (bs a), .int .i64 0, .bool false], .string (bs b), .bool false]) (by simp [results, Tryz.results238, go_sem]) rfl ?_
      exact ⟨⟨7, bs a, 0, false⟩, bs b, false, rfl, (by go_grown; exact below_drewN (by go_grown) _), by rw [HPl.out]; rfl⟩
   · rw [hv] at hV HPl
     have HV := Lib.hid hV
     clear hV hv
     go_enter Tryz.func238, Tryz.ntmps238
     go_wp2_with (go_at_call 267; refine (HBr.out _).mono ?_; rintro e w' ⟨rfl, n, rfl⟩)
     go_region_with (go_at_call 64; refine (HV.out _).mono ?_; rintro e w' ⟨rfl, rfl⟩)
     all_goals
      go_wp2
      refine bodyPost_ret (v := .tuple #[.agg #[.int .i64 7, .string (bs a), .int .i64 0, .bool false], .string (bs b), .bool true]) (by simp [results, Tryz.results238, go_sem]) rfl ?_
      exact ⟨⟨7, bs a, 0, false⟩, bs b, true, rfl, (by go_grown; exact below_drewN (by go_grown) _), by rw [HPl.out, L_bs]; try rfl⟩
set_option maxRecDepth 100000 in
set_option maxHeartbeats 2000000 in
theorem Rplace8 (s : ByteArray) (w : World) (hs : s.size ≤ 1000) :
 Calls Tryz.prog 238 #[.int .i64 8, .string s] w (PlPost 8 s w) := by
 cases hb : bracesS (L s) with
 | none =>
   have hpl : placeS 8 (L s) = none := by
    unfold placeS
    rw [if_neg (by decide), if_neg (by decide), if_pos rfl, hb]; rfl
   have HPl := Lib.hid hpl
   have HBr := Lib.hid (fun W => Rbraces_no s W (by omega) hb)
   clear hpl hb
   go_enter Tryz.func238, Tryz.ntmps238
   go_wp2_with (go_at_call 267; refine (HBr.out _).mono ?_; rintro e w' ⟨rfl, rfl⟩)
   go_region
   go_wp2
   refine bodyPost_ret (v := .tuple #[.agg #[.int .i64 8, .string ⟨#[]⟩, .int .i64 0, .bool false], .string s, .bool false]) (by simp [results, Tryz.results238, go_sem]) rfl ?_
   exact ⟨⟨8, bs [], 0, false⟩, s, false, rfl, by go_grown, by rw [HPl.out]; rfl⟩
 | some ab =>
   obtain ⟨a, b⟩ := ab
   have hlen := bracesS_len hb
   have hpl : placeS 8 (L s) = if keyS a = true then some (⟨8, bs a, 0, false⟩, b) else none := by
    unfold placeS
    rw [if_neg (by decide), if_neg (by decide), if_pos rfl, hb]
    rfl
   have HPl := Lib.hid hpl
   have HBr := Lib.hid (fun W => Rbraces_yes s a b W (by omega) hb)
   have hV := fun W => RKey_any (bs a) W (by rw [size_bs]; rw [len_L] at hlen; omega)
   rw [L_bs] at hV
   clear hpl hb hlen
   cases hv : keyS a
   · rw [hv] at hV HPl
     have HV := Lib.hid hV
     clear hV hv
     go_enter Tryz.func238, Tryz.ntmps238
     go_wp2_with (go_at_call 267; refine (HBr.out _).mono ?_; rintro e w' ⟨rfl, n, rfl⟩)
     go_region_with (go_at_call 178; refine (HV.out _).mono ?_; rintro e w' ⟨rfl, rfl⟩)
     all_goals
      go_wp2
      refine bodyPost_ret (v := .tuple #[.agg #[.int .i64 8, .string (bs a), .int .i64 0, .bool false], .string (bs b), .bool false]) (by simp [results, Tryz.results238, go_sem]) rfl ?_
      exact ⟨⟨8, bs a, 0, false⟩, bs b, false, rfl, (by go_grown; exact below_drewN (by go_grown) _), by rw [HPl.out]; rfl⟩
   · rw [hv] at hV HPl
     have HV := Lib.hid hV
     clear hV hv
     go_enter Tryz.func238, Tryz.ntmps238
     go_wp2_with (go_at_call 267; refine (HBr.out _).mono ?_; rintro e w' ⟨rfl, n, rfl⟩)
     go_region_with (go_at_call 178; refine (HV.out _).mono ?_; rintro e w' ⟨rfl, rfl⟩)
     all_goals
      go_wp2
      refine bodyPost_ret (v := .tuple #[.agg #[.int .i64 8, .string (bs a), .int .i64 0, .bool false], .string (bs b), .bool true]) (by simp [results, Tryz.results238, go_sem]) rfl ?_
      exact ⟨⟨8, bs a, 0, false⟩, bs b, true, rfl, (by go_grown; exact below_drewN (by go_grown) _), by rw [HPl.out, L_bs]; try rfl⟩
set_option maxRecDepth 100000 in
set_option maxHeartbeats 2000000 in
theorem Rplace9_at (s t r : ByteArray) (okb okc m : Bool) (n : Int) (w : World) (hE : Env0 w) (h123 : (L s).head? = some 123)
 (hBr : ∀ W, Calls Tryz.prog 267 #[.string s] W fun e w' => e = .returned (.tuple #[.string t, .string r, .bool okb]) ∧ ∃ k, W.drewN k = w')
 (hC : ∀ W, Env0 W → Calls Tryz.prog 268 #[.string t] W fun e w' => e = .returned (.tuple #[.int .i64 n, .bool m, .bool okc]) ∧ Below W.heap.size W w')
 (hpl : placeS 9 (L s) = if (okb && okc) = true then some (⟨9, bs [], n, m⟩, L r) else none) :
 Calls Tryz.prog 238 #[.int .i64 9, .string s] w (PlPost 9 s w) := by
 have hpf : Lib.hasPrefix (L s) [123] = true := by rw [prefix_one, h123]; rfl
 have HP' : ∀ W, Calls Tryz.prog 48 #[.string s, .string ⟨#[123]⟩] W fun e w' => e = .returned (.bool true) ∧ W = w' := fun W => by
  have h := HasPrefix_any s ⟨#[123]⟩ W
  change Calls _ _ _ _ (fun e w' => e = .returned (.bool (Lib.hasPrefix (L s) [123])) ∧ W = w') at h
  rw [hpf] at h
  exact h
 have HP2 := Lib.hid HP'
 have HE := Lib.hid hE
 have HBr := Lib.hid hBr
 have HC := Lib.hid hC
 have HPl := Lib.hid hpl
 clear HP' hpf hE hBr hC hpl h123
 go_enter Tryz.func238, Tryz.ntmps238
 go_wp2_with (first | (go_at_call 267; refine (HBr.out _).mono ?_; rintro e w' ⟨rfl, k, rfl⟩) | (go_at_call 48; refine (HP2.out _).mono ?_; rintro e w' ⟨rfl, rfl⟩))
 obtain ⟨W1, hW1⟩ : ∃ W1, ((w.alloc (.cells #[.int .i64 0, .string ⟨#[]⟩, .int .i64 0, .bool false] 236)).alloc (.cells #[.int .i64 9, .string ⟨#[]⟩, .int .i64 0, .bool false] 236)).drewN k = W1 := ⟨_, rfl⟩
 rw [hW1]
 have hb0 : W1.heap[w.heap.size]? = some (.cells #[.int .i64 0, .string ⟨#[]⟩, .int .i64 0, .bool false] 236 (0, 0)) := by rw [← hW1]; exact heap_alloc2_old w _ _
 have hb1 : W1.heap[w.heap.size + 1]? = some (.cells #[.int .i64 9, .string ⟨#[]⟩, .int .i64 0, .bool false] 236 (0, 0)) := by rw [← hW1]; exact heap_alloc2_new w _ _
 have hbw : Below w.heap.size w W1 := by rw [← hW1]; exact below_drewN (((Below.refl _ _).alloc (Nat.le_refl _) _).alloc (by simp) _) _
 clear hW1
 with_reducible refine (HC.out W1 (HE.out.go hbw)).mono ?_
 rintro e w2 ⟨rfl, hb2⟩
 have hlt : w.heap.size + 1 < w2.heap.size := Nat.lt_of_lt_of_le (blk_lt hb1) hb2.size
 replace hb0 := (hb2.block _ (blk_lt hb0)).trans hb0
 replace hb1 := (hb2.block _ (blk_lt hb1)).trans hb1
 have HB2 : Hid (Below w.heap.size w w2) := Lib.hid (bt hbw hb2)
 have r0 : w2.cell? ⟨w.heap.size, 0, none⟩ = some (.int .i64 0) := by rw [cell_of_row _ _ 0 _ _ _ hb0]; rfl
 have r1 : w2.cell? ⟨w.heap.size, 1, none⟩ = some (.string ⟨#[]⟩) := by rw [cell_of_row _ _ 1 _ _ _ hb0]; rfl
 have r2 : w2.cell? ⟨w.heap.size, 2, none⟩ = some (.int .i64 0) := by rw [cell_of_row _ _ 2 _ _ _ hb0]; rfl
 have r3 : w2.cell? ⟨w.heap.size, 3, none⟩ = some (.bool false) := by rw [cell_of_row _ _ 3 _ _ _ hb0]; rfl
 have p0 : w2.cell? ⟨w.heap.size + 1, 0, none⟩ = some (.int .i64 9) := by rw [cell_of_row _ _ 0 _ _ _ hb1]; rfl
 have p1 : w2.cell? ⟨w.heap.size + 1, 1, none⟩ = some (.string ⟨#[]⟩) := by rw [cell_of_row _ _ 1 _ _ _ hb1]; rfl
 have p2 : w2.cell? ⟨w.heap.size + 1, 2, none⟩ = some (.int .i64 0) := by rw [cell_of_row _ _ 2 _ _ _ hb1]; rfl
 have p3 : w2.cell? ⟨w.heap.size + 1, 3, none⟩ = some (.bool false) := by rw [cell_of_row _ _ 3 _ _ _ hb1]; rfl
 have f0 : w2.frozen? ⟨w.heap.size, 0, none⟩ = false := frozen_of_row _ _ _ _ _ hb0
 have f1 : w2.frozen? ⟨w.heap.size, 1, none⟩ = false := frozen_of_row _ _ _ _ _ hb0
 have f2 : w2.frozen? ⟨w.heap.size, 2, none⟩ = false := frozen_of_row _ _ _ _ _ hb0
 have f3 : w2.frozen? ⟨w.heap.size, 3, none⟩ = false := frozen_of_row _ _ _ _ _ hb0
 have g2 : w2.frozen? ⟨w.heap.size + 1, 2, none⟩ = false := frozen_of_row _ _ _ _ _ hb1
 have g3 : w2.frozen? ⟨w.heap.size + 1, 3, none⟩ = false := frozen_of_row _ _ _ _ _ hb1
 clear hb0 hb1 hb2 hbw
 cases okb
 · go_wp2
   refine bodyPost_ret (v := .tuple #[.agg #[.int .i64 9, .string ⟨#[]⟩, .int .i64 n, .bool m], .string r, .bool false]) (by simp [results, Tryz.results238, go_sem, r0, r1, r2, r3]) rfl ?_
   exact ⟨⟨9, bs [], n, m⟩, r, false, rfl, ((((((HB2.out.setCell (p := ⟨w.heap.size + 1, 2, none⟩) (Nat.le_succ _) _).setCell (p := ⟨w.heap.size + 1, 3, none⟩) (Nat.le_succ _) _).setCell (p := ⟨w.heap.size, 0, none⟩) (Nat.le_refl _) _).setCell (p := ⟨w.heap.size, 1, none⟩) (Nat.le_refl _) _).setCell (p := ⟨w.heap.size, 2, none⟩) (Nat.le_refl _) _).setCell (p := ⟨w.heap.size, 3, none⟩) (Nat.le_refl _) _), by rw [HPl.out]; rfl⟩
 · cases okc
   · go_wp2
     refine bodyPost_ret (v := .tuple #[.agg #[.int .i64 9, .string ⟨#[]⟩, .int .i64 n, .bool m], .string r, .bool false]) (by simp [results, Tryz.results238, go_sem, r0, r1, r2, r3]) rfl ?_
     exact ⟨⟨9, bs [], n, m⟩, r, false, rfl, ((((((HB2.out.setCell (p := ⟨w.heap.size + 1, 2, none⟩) (Nat.le_succ _) _).setCell (p := ⟨w.heap.size + 1, 3, none⟩) (Nat.le_succ _) _).setCell (p := ⟨w.heap.size, 0, none⟩) (Nat.le_refl _) _).setCell (p := ⟨w.heap.size, 1, none⟩) (Nat.le_refl _) _).setCell (p := ⟨w.heap.size, 2, none⟩) (Nat.le_refl _) _).setCell (p := ⟨w.heap.size, 3, none⟩) (Nat.le_refl _) _), by rw [HPl.out]; rfl⟩
   · go_wp2
     refine bodyPost_ret (v := .tuple #[.agg #[.int .i64 9, .string ⟨#[]⟩, .int .i64 n, .bool m], .string r, .bool true]) (by simp [results, Tryz.results238, go_sem, r0, r1, r2, r3]) rfl ?_
     exact ⟨⟨9, bs [], n, m⟩, r, true, rfl, ((((((HB2.out.setCell (p := ⟨w.heap.size + 1, 2, none⟩) (Nat.le_succ _) _).setCell (p := ⟨w.heap.size + 1, 3, none⟩) (Nat.le_succ _) _).setCell (p := ⟨w.heap.size, 0, none⟩) (Nat.le_refl _) _).setCell (p := ⟨w.heap.size, 1, none⟩) (Nat.le_refl _) _).setCell (p := ⟨w.heap.size, 2, none⟩) (Nat.le_refl _) _).setCell (p := ⟨w.heap.size, 3, none⟩) (Nat.le_refl _) _), by rw [HPl.out]; rfl⟩
theorem Rplace9 (s : ByteArray) (w : World) (hE : Env0 w) (hs : s.size ≤ 1000) (h123 : (L s).head? = some 123) :
 Calls Tryz.prog 238 #[.int .i64 9, .string s] w (PlPost 9 s w) := by
 cases hb : bracesS (L s) with
 | none =>
   have hpl : placeS 9 (L s) = none := by
    unfold placeS
    rw [if_neg (by decide), if_neg (by decide), if_neg (by decide), if_pos ⟨rfl, h123⟩, hb]; rfl
   have e0 : countV (L ⟨#[]⟩) = .returned (.tuple #[.int .i64 0, .bool false, .bool false]) := by kernel_rfl
   refine Rplace9_at s ⟨#[]⟩ s false false false 0 w hE h123 (fun W => (Rbraces_no s W (by omega) hb).mono fun e w' h => ⟨h.1, 0, h.2⟩) (fun W hW => ?_) (by rw [hpl]; rfl)
   have h := Rcount_any ⟨#[]⟩ W hW (Nat.zero_le _)
   rw [e0] at h
   exact h
 | some ab =>
   obtain ⟨a, b⟩ := ab
   have hlen := bracesS_len hb
   rw [len_L] at hlen
   have hpl : placeS 9 (L s) = (countS a).map fun (n, m) => (⟨9, bs [], n, m⟩, b) := by
    unfold placeS
    rw [if_neg (by decide), if_neg (by decide), if_neg (by decide), if_pos ⟨rfl, h123⟩, hb]; rfl
   have hC := fun W hW => Rcount_any (bs a) W hW (by rw [size_bs]; omega)
   rw [L_bs] at hC
   unfold countV at hC
   cases hc : countS a with
   | none =>
     rw [hc] at hC hpl
     exact Rplace9_at s (bs a) (bs b) true false false 0 w hE h123 (fun W => Rbraces_yes s a b W (by omega) hb) hC (by rw [hpl]; rfl)
   | some nm =>
     obtain ⟨n, m⟩ := nm
     rw [hc] at hC hpl
     exact Rplace9_at s (bs a) (bs b) true true m n w hE h123 (fun W => Rbraces_yes s a b W (by omega) hb) hC (by rw [hpl, L_bs]; rfl)
theorem Rplace_any (k : Nat) (s : ByteArray) (w : World) (hE : Env0 w) (hs : s.size ≤ 1000) : Calls Tryz.prog 238 #[.int .i64 k, .string s] w (PlPost k s w) := by
 by_cases h7 : k = 7
 · subst h7; exact Rplace7 s w hs
 by_cases h8 : k = 8
 · subst h8; exact Rplace8 s w hs
 by_cases h9 : k = 9 ∧ (L s).head? = some 123
 · obtain ⟨rfl, h⟩ := h9; exact Rplace9 s w hE hs h
 exact Rplace_plain k s w hs h7 h8 h9
end Go.Proofs.YtibflgfhjfcifaaGreatDoor
namespace Go.Proofs.YtibflgfhjfcifaaGreatDoor
open Go.RowKit
def RAddPost (base : Nat) (ps : List Pc) (p : Pc) (w : World) (e : Ending) (w' : World) : Prop := ∃ v', e = .returned v' ∧ w'.ownsRow base 236 4 v' (addP ps p).length (cellsOf encPc (addP ps p)) ∧ Below base w w'
theorem rappended {base : Nat} {v : Value} {ps : List Pc} {p : Pc} {w W w2 : World} {g2 cap : Nat} (hb : Below w.heap.size w W) (hbase : base ≤ w.heap.size) (ho : w.ownsRow base 236 4 v ps.length (cellsOf encPc ps))
 (hno : ¬(p.kind = 1 ∧ (ps.getLast?.map (·.kind)) = some 1)) (hg : W.grownBy w2 v.ownBlock)
 (h2 : w2.ownsRow base 236 4 (.slice (some ⟨g2, 0, none⟩) (ps.length + 1) cap) (ps.length + 1) (cellsOf encPc ps ++ encPc p)) :
 w2.ownsRow base 236 4 (.slice (some ⟨g2, 0, none⟩) (ps.length + 1) cap) (addP ps p).length (cellsOf encPc (addP ps p)) ∧ Below base w w2 := by
 refine ⟨?_, (hb.mono hbase).grown hg (Nat.le_trans hbase hb.size) (fun k hk => (ho.lt k hk).1)⟩
 rw [addP_app hno, List.length_append, List.length_singleton, cellsOf_append]
 have e : cellsOf encPc [p] = encPc p := by simp [cellsOf]
 rw [e]
 exact h2
set_option maxRecDepth 100000 in
set_option maxHeartbeats 2000000 in
theorem Radd_any (base : Nat) (v : Value) (ps : List Pc) (p : Pc) (w : World) (ho : w.ownsRow base 236 4 v ps.length (cellsOf encPc ps)) (hbase : base ≤ w.heap.size) (hn : ps.length ≤ 10000)
 (hq : ∀ q ∈ ps, q.text.size ≤ 1000000) (ht : p.text.size ≤ 1000000) (hp : p.kind = 1 → p = txt p.text) :
 Calls Tryz.prog 236 #[v, encP p] w (RAddPost base ps p w) := by
 unfold encP
 obtain ⟨i0, hi0, hz0, hz1, hz2⟩ := info_parts pieceInfo
 obtain ⟨A, c, rfl⟩ : ∃ A c, v = .slice A ps.length c := by
  rcases ho.2 with ⟨h1, h2⟩ | ⟨g', cap, cur, h1, _⟩
  · exact ⟨_, _, by rw [h2]; exact h1⟩
  · exact ⟨_, _, h1⟩
 have Ho := Lib.hid ho
 clear ho
 rcases List.eq_nil_or_concat ps with h0 | ⟨m, q, h0⟩
 · subst h0
   have hno : ¬(p.kind = 1 ∧ (([] : List Pc).getLast?.map (·.kind)) = some 1) := fun h => by simp at h
   have Hno := Lib.hid hno
   clear hno hq hp
   simp only [List.length_nil]
   go_enter Tryz.func236, Tryz.ntmps236
   go_wp2_with (refine wpList_append_lies _ rfl _ _ _ (by rfl) base 236 i0 _ 4 40 Tryz.underlying211 hi0 hz0 hz1 hz2 rfl (by omega) (.slice A 0 c) 0 (cellsOf encPc []) (by rfl) (own_keep Ho.out (by go_grown)) _ 1 1 (encPc p) (by rfl) (by rfl) (by exact World.news_of_block (B := w.heap.size + 1) (heap_alloc2_new w _ _)) (encPc_one p) (by omega) (by unfold maxLen; omega) (by omega) (by simp; omega) _ rfl ?_; intro g2 cap w2 hown2 hgrow2 hat2 hlt2)
   go_ret
   have hR := rappended (p := p) (by go_grown) hbase Ho.out Hno.out hgrow2 hown2
   exact ⟨_, rfl, hR.1, hR.2⟩
 · rw [List.concat_eq_append] at h0
   subst h0
   obtain ⟨b, cap, hA, hbg, hb⟩ := Ho.out.form (by simp)
   obtain ⟨rfl, rfl⟩ : A = some ⟨b, 0, none⟩ ∧ c = cap := by injection hA with h1 h2 h3; exact ⟨h1, h3⟩
   have cq : w.cell? ⟨b, m.length * 4, none⟩ = some (.int .i64 q.kind) := by
    rw [Ho.out.cellAt (m.length * 4) (by simp), cellsOf_append, List.getElem?_append_right (by rw [cellsOf_len encPc 4 encPc_len]; omega), cellsOf_len encPc 4 encPc_len, Nat.sub_self]
    rfl
   have Hoo : Hid (w.ownsRow base 236 4 (.slice (some ⟨b, 0, none⟩) (m.length + 1) c) (m.length + 1) (cellsOf encPc (m ++ [q]))) := by
    have := Ho.out
    simp only [List.length_append, List.length_singleton] at this
    exact this
   have e1 : m.length + 1 = (m ++ [q]).length := by simp
   have E1 := Lib.hid e1
   simp only [List.length_append, List.length_singleton] at hn ⊢
   clear hA e1
   by_cases hpk : p.kind = 1
   · by_cases hqk : q.kind = 1
     · have htx := hq q (by simp)
       have hpt := hp hpk
       have ct : w.cell? ⟨b, m.length * 4 + 1, none⟩ = some (.string q.text) := by
        rw [Ho.out.cellAt (m.length * 4 + 1) (by simp; omega), cellsOf_append, List.getElem?_append_right (by rw [cellsOf_len encPc 4 encPc_len]; omega), cellsOf_len encPc 4 encPc_len, Nat.add_sub_cancel_left]
        rfl
       have ft : w.frozen? ⟨b, m.length * 4 + 1, none⟩ = false := Ho.out.frozenAt _
       rw [hqk] at cq
       have Hqk := Lib.hid hqk
       have Hpk := Lib.hid hpk
       rw [hpk]
       have Hpt := Lib.hid hpt
       clear hq hp hpk hqk hpt
       go_enter Tryz.func236, Tryz.ntmps236
       go_wp2
       go_region
       all_goals go_wp2
       all_goals
        go_ret
        have hs := (Hoo.out.stored (m.length * 4 + 1) (.string (q.text ++ p.text))).1
        rw [cells_setLast] at hs
        have hadd : addP (m ++ [q]) p = m ++ [{ q with text := q.text ++ p.text }] := by
         rw [addP, if_pos ⟨Hpk.out, by simp [Hqk.out]⟩, setLast_snoc]
        refine ⟨_, rfl, ?_, ?_⟩
        · rw [hadd]
          have e2 : (m ++ [{ q with text := q.text ++ p.text }]).length = m.length + 1 := by simp
          rw [e2]
          exact (own_keep hs (below_alloc _ _)).drew
        · exact (((Below.refl _ _).setCell (p := ⟨b, m.length * 4 + 1, none⟩) hbg _).alloc (by simpa [World.setCell] using hbase) _).drew
     · have hq1 : (q.kind == 1) = false := by simpa using hqk
       have hno : ¬(p.kind = 1 ∧ ((m ++ [q]).getLast?.map (·.kind)) = some 1) := fun h => hqk (by simpa using h.2)
       have Hno := Lib.hid hno
       have Hpk := Lib.hid hpk
       have hpk1 : (p.kind == 1) = true := by simpa using hpk
       clear hq hp hpk hqk hno
       go_enter Tryz.func236, Tryz.ntmps236
       go_wp2_with (refine wpList_append_lies _ rfl _ _ _ (by rfl) base 236 i0 _ 4 40 Tryz.underlying211 hi0 hz0 hz1 hz2 rfl (by omega) (.slice (some ⟨b, 0, none⟩) (m.length + 1) c) (m.length + 1) (cellsOf encPc (m ++ [q])) (by rfl) (own_keep Hoo.out (by go_grown)) _ 1 1 (encPc p) (by rfl) (by rfl) (by exact World.news_of_block (B := w.heap.size + 1) (heap_alloc2_new w _ _)) (encPc_one p) (by omega) (by unfold maxLen; omega) (by omega) (by simp; omega) _ rfl ?_; intro g2 cap w2 hown2 hgrow2 hat2 hlt2)
       go_ret
       rw [E1.out] at hown2
       have hR := rappended (p := p) (by go_grown) hbase (by rw [← E1.out]; exact Hoo.out) Hno.out hgrow2 hown2
       rw [← E1.out] at hR
       exact ⟨_, rfl, hR.1, hR.2⟩
   · have hno : ¬(p.kind = 1 ∧ ((m ++ [q]).getLast?.map (·.kind)) = some 1) := fun h => hpk h.1
     have Hno := Lib.hid hno
     have hpk1 : (p.kind == 1) = false := by simpa using hpk
     clear hq hp hpk hno
     go_enter Tryz.func236, Tryz.ntmps236
     go_wp2_with (refine wpList_append_lies _ rfl _ _ _ (by rfl) base 236 i0 _ 4 40 Tryz.underlying211 hi0 hz0 hz1 hz2 rfl (by omega) (.slice (some ⟨b, 0, none⟩) (m.length + 1) c) (m.length + 1) (cellsOf encPc (m ++ [q])) (by rfl) (own_keep Hoo.out (by go_grown)) _ 1 1 (encPc p) (by rfl) (by rfl) (by exact World.news_of_block (B := w.heap.size + 1) (heap_alloc2_new w _ _)) (encPc_one p) (by omega) (by unfold maxLen; omega) (by omega) (by simp; omega) _ rfl ?_; intro g2 cap w2 hown2 hgrow2 hat2 hlt2)
     go_ret
     rw [E1.out] at hown2
     have hR := rappended (p := p) (by go_grown) hbase (by rw [← E1.out]; exact Hoo.out) Hno.out hgrow2 hown2
     rw [← E1.out] at hR
     exact ⟨_, rfl, hR.1, hR.2⟩
end Go.Proofs.YtibflgfhjfcifaaGreatDoor
namespace Go.Proofs.YtibflgfhjfcifaaGreatDoor
open Go.RowKit
def rletters : Str := [32, 32, 107, 110, 112, 98, 100, 115, 69, 99, 80, 32]
theorem letters_all : ((List.range 256).all fun n => if n = 32 then kindOf false [UInt8.ofNat n] == 0 else (kindOf false [UInt8.ofNat n] : Int) == max 0 (Lib.indexByte rletters (UInt8.ofNat n))) = true := by kernel_rfl
theorem letters_at (b : UInt8) : (b = 32 → kindOf false [b] = 0) ∧ (b ≠ 32 → (kindOf false [b] : Int) = max 0 (Lib.indexByte rletters b)) := by
 have h := List.all_eq_true.1 letters_all b.toNat (List.mem_range.2 (UInt8.toNat_lt b))
 have e : UInt8.ofNat b.toNat = b := by simp
 rw [e] at h
 by_cases hb : b.toNat = 32
 · rw [if_pos hb] at h
   have h1 : b = 32 := UInt8.toNat_inj.1 hb
   exact ⟨fun _ => by simpa using h, fun h2 => absurd h1 h2⟩
 · rw [if_neg hb] at h
   exact ⟨fun h1 => absurd (by rw [h1]; rfl) hb, fun _ => by simpa using h⟩
theorem low_iff (b : UInt8) : lowL.contains b = (decide (97 ≤ (b.toNat : Int)) && decide ((b.toNat : Int) ≤ 122)) := by
 have h : ((List.range 256).all fun n => lowL.contains (UInt8.ofNat n) == (decide (97 ≤ ((UInt8.ofNat n).toNat : Int)) && decide (((UInt8.ofNat n).toNat : Int) ≤ 122))) = true := by kernel_rfl
 have h := List.all_eq_true.1 h b.toNat (List.mem_range.2 (UInt8.toNat_lt b))
 have e : UInt8.ofNat b.toNat = b := by simp
 rw [e] at h
 simpa using h
theorem wordLen_at (r : Str) (k : Nat) (hk : k ≤ r.length) (h1 : ∀ (j : Nat) b, j < k → r[j]? = some b → lowL.contains b = true) (h2 : ∀ b, r[k]? = some b → lowL.contains b = false) : wordLen true r = k := by
 unfold wordLen
 rw [if_pos rfl, Lib.trimLeftS_drop r lowL k hk h1 h2, List.length_drop]
 omega
theorem parseF_step (n : Nat) (c : UInt8) (r : Str) (acc : List Pc) (hn : r.length + 1 ≤ n) : ∃ n', r.length ≤ n' ∧
 parseF n (c :: r) acc = if sign c = true then (match pieceS c r with
  | some (p, r') => parseF n' r' (addP acc p)
  | none => none) else parseF n' r (addP acc (txt (bs [c]))) := by
 cases n with
 | zero => omega
 | succ n => exact ⟨n, by omega, rfl⟩
theorem cons_of {t : ByteArray} (h : t ≠ ⟨#[]⟩) : ∃ c r, L t = c :: r := by
 cases hl : L t with
 | nil => exact absurd (L_inj hl) h
 | cons c r => exact ⟨c, r, rfl⟩
theorem ext01 {t : ByteArray} {c : UInt8} {r : Str} (h : L t = c :: r) : t.extract 0 1 = bs [c] := L_inj (by rw [L_extract, h, L_bs]; rfl)
theorem ext1 {t : ByteArray} {c : UInt8} {r : Str} (h : L t = c :: r) : t.extract 1 t.size = bs r := L_inj (by rw [L_extract, List.take_of_length_le (by rw [len_L]; exact Nat.le_refl _), h, L_bs]; rfl)
theorem ext2 {t : ByteArray} {c d : UInt8} {r : Str} (h : L t = c :: d :: r) : t.extract 2 t.size = bs r := L_inj (by rw [L_extract, List.take_of_length_le (by rw [len_L]; exact Nat.le_refl _), h, L_bs]; rfl)
theorem at0 {t : ByteArray} {c : UInt8} {r : Str} (h : L t = c :: r) (h0 : 0 < t.size) : t[0] = c := by
 have : (L t)[0]? = some c := by rw [h]; rfl
 rw [List.getElem?_eq_getElem (by rw [len_L]; exact h0)] at this
 injection this
theorem at1 {t : ByteArray} {c d : UInt8} {r : Str} (h : L t = c :: d :: r) (h0 : 1 < t.size) : t[1] = d := by
 have : (L t)[1]? = some d := by rw [h]; rfl
 rw [List.getElem?_eq_getElem (by rw [len_L]; exact h0)] at this
 injection this
theorem toNat_eq (a b : UInt8) : ((a.toNat : Int) == (b.toNat : Int)) = (a == b) := by
 rw [Bool.eq_iff_iff]
 simp
 constructor
 · intro h; exact UInt8.toNat_inj.1 (by omega)
 · intro h; rw [h]
theorem kOf_ne1' (long : Bool) (w : Str) : kindOf long w ≠ 1 := kindOf_ne1 long w
theorem place_ne1 {k : Nat} {r r' : Str} {p : Pc} (h : placeS k r = some (p, r')) (hk : k ≠ 1) : p.kind ≠ 1 := by
 unfold placeS at h
 split at h
 · cases h
 split at h
 · cases hb : bracesS r with
   | none => rw [hb] at h; cases h
   | some ab =>
     rw [hb] at h
     simp only [Option.bind_some] at h
     split at h
     · injection h with h; injection h with h1 h2; subst h1; show (7 : Int) ≠ 1; decide
     · cases h
 split at h
 · cases hb : bracesS r with
   | none => rw [hb] at h; cases h
   | some ab =>
     rw [hb] at h
     simp only [Option.bind_some] at h
     split at h
     · injection h with h; injection h with h1 h2; subst h1; show (8 : Int) ≠ 1; decide
     · cases h
 split at h
 · cases hb : bracesS r with
   | none => rw [hb] at h; cases h
   | some ab =>
     rw [hb] at h
     simp only [Option.bind_some] at h
     cases hc : countS ab.1 with
     | none => rw [hc] at h; cases h
     | some nm =>
       rw [hc] at h
       simp only [Option.map_some] at h
       injection h with h; injection h with h1 h2; subst h1; show (9 : Int) ≠ 1; decide
 · injection h with h; injection h with h1 h2; subst h1
   show (k : Int) ≠ 1
   omega
end Go.Proofs.YtibflgfhjfcifaaGreatDoor
namespace Go.Proofs.YtibflgfhjfcifaaGreatDoor
open Go.RowKit
structure RIn (s : ByteArray) (w wr : World) (t : ByteArray) (acc : List Pc) (v : Value) : Prop where
 own : wr.ownsRow w.heap.size 236 4 v acc.length (cellsOf encPc acc)
 below : Below w.heap.size w wr
 fits : Fits t.size acc
 read : ∃ n, t.size ≤ n ∧ parseS (L s) = parseF n (L t) acc
theorem RIn.drew {s : ByteArray} {w wr : World} {t : ByteArray} {acc : List Pc} {v : Value} (h : RIn s w wr t acc v) : RIn s w wr.drew t acc v := ⟨h.own.drew, h.below.drew, h.fits, h.read⟩
theorem RIn.keep {s : ByteArray} {w wr W : World} {t : ByteArray} {acc : List Pc} {v : Value} (h : RIn s w wr t acc v) (hb : Below wr.heap.size wr W) : RIn s w W t acc v := ⟨own_keep h.own hb, h.below.trans (hb.mono h.below.size), h.fits, h.read⟩
theorem RIn.drewN {s : ByteArray} {w wr : World} {t : ByteArray} {acc : List Pc} {v : Value} (h : RIn s w wr t acc v) (n : Nat) : RIn s w (wr.drewN n) t acc v := ⟨own_keep h.own (below_drewN (Below.refl _ _) n), below_drewN h.below n, h.fits, h.read⟩
theorem RIn.add {s : ByteArray} {w wr : World} {t : ByteArray} {acc : List Pc} {v : Value} (h : RIn s w wr t acc v) (p : Pc) (ht : t.size ≤ 256) (hpt : p.text.size ≤ 256) (hp : p.kind = 1 → p = txt p.text) :
 Calls Tryz.prog 236 #[v, .agg #[.int .i64 p.kind, .string p.text, .int .i64 p.word, .bool p.more]] wr (RAddPost w.heap.size acc p wr) :=
 Radd_any w.heap.size v acc p wr h.own h.below.size (by have := h.fits.1; omega) (fun q hq => by have := h.fits.2 q hq; omega) (by omega) hp
theorem RIn.goOn {s : ByteArray} {w wr w' : World} {t t' : ByteArray} {acc : List Pc} {v v' : Value} {p : Pc} (h : RIn s w wr t acc v) (ho : w'.ownsRow w.heap.size 236 4 v' (addP acc p).length (cellsOf encPc (addP acc p))) (hb : Below w.heap.size wr w')
 (ht : t.size ≤ 256) (h1 : p.text.size + t'.size ≤ t.size) (h2 : t'.size + 1 ≤ t.size) (hr : ∃ n, t'.size ≤ n ∧ parseS (L s) = parseF n (L t') (addP acc p)) : RIn s w w' t' (addP acc p) v' :=
 ⟨ho, h.below.trans hb, h.fits.add ht h1 h2, hr⟩
set_option maxRecDepth 100000 in
set_option maxHeartbeats 4000000 in
theorem RParse_any (s : ByteArray) (w : World) (hE : Env0 w) (hs : s.size ≤ 9223372036854775807) :
 Calls Tryz.prog 209 #[.string s] w (ParsePost (L s) w) := by
 by_cases h256 : 256 < s.size
 · have hR : parseR (L s) = ([], 91) := by rw [parseR, len_L, if_pos h256]
   have HR := Lib.hid hR
   clear hR
   go_enter Tryz.func209, Tryz.ntmps209
   go_wp2
   go_ret2
   exact ⟨.slice none 0 0, by rw [HR.out]; rfl, by rw [HR.out]; exact ⟨rfl, .inl ⟨rfl, rfl⟩⟩, Below.refl _ _⟩
 have h256 : s.size ≤ 256 := by omega
 have HT := RText_any s w hs
 cases ht : textS (L s)
 · have hR : parseR (L s) = ([], 90) := by rw [parseR, len_L, if_neg (by omega), ht]; rfl
   have HR := Lib.hid hR
   rw [ht] at HT
   clear hR ht
   go_enter Tryz.func209, Tryz.ntmps209
   go_wp2_with (go_at_call 235; refine HT.mono ?_; rintro e w' ⟨rfl, rfl⟩)
   go_ret2
   exact ⟨.slice none 0 0, by rw [HR.out]; rfl, by rw [HR.out]; exact ⟨rfl, .inl ⟨rfl, rfl⟩⟩, Below.refl _ _⟩
 rw [ht] at HT
 have hR : parseR (L s) = match parseS (L s) with
  | some ps => (ps, 0)
  | none => ([], 90) := by rw [parseR, len_L, if_neg (by omega), ht]; rfl
 have HR := Lib.hid hR
 have HE := Lib.hid hE
 have HT2 := Lib.hid HT
 clear hR ht hE HT
 go_enter Tryz.func209, Tryz.ntmps209
 go_wp2_with (go_at_call 235; refine HT2.out.mono ?_; rintro e w' ⟨rfl, rfl⟩)
 go_loopg [0, 4] s.size (fun gk x v wr => ∃ (t : ByteArray) (acc : List Pc), x = .string t ∧ t.size ≤ gk ∧ t.size ≤ 256 ∧ Hid (RIn s w wr t acc v))
 case atStart => exact ⟨s, [], rfl, Nat.le_refl _, h256, ⟨⟨rfl, .inl ⟨rfl, rfl⟩⟩, Below.refl _ _, ⟨by simp; omega, fun q hq => by cases hq⟩, s.size, Nat.le_refl _, by rw [parseS, len_L]⟩⟩
 case round =>
  obtain ⟨t, acc, rfl, hgk, htz, hin⟩ := hrel
  by_cases h0 : t = ⟨#[]⟩
  · subst h0
    have hres : parseR (L s) = (acc, 0) := by
     obtain ⟨n, _, hn⟩ := hin.out.read
     have h1 : parseS (L s) = some acc := by
      rw [hn, show L ⟨#[]⟩ = [] from rfl]
      cases n <;> rfl
     rw [HR.out, h1]
    have HRes := Lib.hid hres
    clear hres
    go_wp2
    go_ret2
    exact ⟨_, by rw [HRes.out]; rfl, by rw [HRes.out]; exact hin.out.own, hin.out.below⟩
  · obtain ⟨c, r, hL⟩ := cons_of h0
    have hrl : r.length + 1 = t.size := by rw [← len_L, hL]; rfl
    have hpos : 0 < t.size := by omega
    have hpos1 : 1 ≤ t.size := by omega
    have hposI : (1 : Int) ≤ (t.size : Int) := by omega
    have ht0 := at0 hL hpos
    have hne : t.toList.isEmpty = false := by rw [tl, hL]; rfl
    have hne2 : ¬ t.toList = [] := fun e => by rw [e] at hne; cases hne
    obtain ⟨n, hn1, hn2⟩ := hin.out.read
    rw [hL] at hn2
    obtain ⟨n', hn3, hn4⟩ := parseF_step n c r acc (by omega)
    rw [hn4] at hn2
    have HRd := Lib.hid hn2
    have e01 := ext01 hL
    have e1 := ext1 hL
    have E01 := Lib.hid e01
    have E1 := Lib.hid e1
    have HLt := Lib.hid hL
    clear hn2 hn4 hn1 h0 e01 e1 hL
    by_cases hsg : sign c = true
    · have hc : c = 36 ∨ c = 37 := by simpa [sign] using hsg
      clear hsg
      rcases hc with rfl | rfl
      · have k36 : ((t[0].toNat : Int) == 36) = true := by rw [ht0]; decide
        have n36 : ((t[0].toNat : Int) != 36) = false := by rw [ht0]; decide
        have k37 : ((t[0].toNat : Int) == 37) = false := by rw [ht0]; decide
        have n37 : ((t[0].toNat : Int) != 37) = true := by rw [ht0]; decide
        by_cases hd : r.head? = some 36
        · obtain ⟨r2, rfl⟩ : ∃ r2, r = 36 :: r2 := by
           cases r with
           | nil => simp at hd
           | cons a b => simp at hd; exact ⟨b, by rw [hd]⟩
          have hlt1 : 1 < t.size := by simp at hrl; omega
          have ht1 := at1 HLt.out hlt1
          have hI2 : (2 : Int) ≤ (t.size : Int) := by omega
          have hI1 : (1 : Int) < (t.size : Int) := by omega
          have hI1' : decide ((1 : Int) < (t.size : Int)) = true := by simpa using hI1
          have hq : ((t[1].toNat : Int) == (t[0].toNat : Int)) = true := by rw [ht0, ht1]; decide
          have e2 := ext2 HLt.out
          have E2 := Lib.hid e2
          have HAd := Lib.hid (fun W (hb : Below wr.heap.size wr W) => (hin.out.keep hb).add (txt (bs [36])) htz (by show (bs [36]).size ≤ 256; rw [size_bs]; simp) (fun _ => rfl))
          clear hd ht0 ht1 e2
          go_wp2
          go_quiet (fail)
          go_wp2
          go_region_held3 (fun _ => True) (exact trivial) ((go_at_call 236; rw [E01.out]; refine (HAd.out _ (by first | exact (Below.refl _ _).drew | exact Below.refl _ _ | exact below_drewN (Below.refl _ _) _ | exact (below_drewN (Below.refl _ _) _).drew)).mono ?_; rintro e w2 ⟨v', rfl, ho2, hb2⟩))
          have hfin : RIn s w w2 (t.extract 2 t.size) (addP acc (txt (bs [36]))) v' := hin.out.goOn ho2 ((show Below w.heap.size wr _ from by first | exact (Below.refl _ _).drew | exact Below.refl _ _ | exact below_drewN (Below.refl _ _) _ | exact (below_drewN (Below.refl _ _) _).drew).trans hb2) htz (by rw [E2.out, size_bs]; show (bs [36]).size + r2.length ≤ t.size; rw [size_bs]; simp at hrl ⊢; omega) (by rw [E2.out, size_bs]; simp at hrl; omega) ⟨n', by rw [E2.out, size_bs]; simp at hn3; omega, by
           have := HRd.out
           rw [if_pos (by decide), show pieceS 36 (36 :: r2) = some (txt (bs [36]), r2) from by rw [pieceS, if_pos (show (36 :: r2 : Str).head? = some 36 from rfl)]; rfl] at this
           rw [this, E2.out, L_bs]⟩
          have HF := Lib.hid hfin
          have hz2 : (t.extract 2 t.size).size = r2.length := by rw [E2.out, size_bs]
          have hz3 : r2.length + 2 = t.size := by simp at hrl; omega
          clear hfin ho2 hb2
          go_wp2
          go_roundg (gk - 1)
          case measure => omega
          case rel => exact ⟨_, _, rfl, by omega, by omega, HF.out⟩
        · cases r with
          | nil =>
            have hI1' : decide ((1 : Int) < (t.size : Int)) = false := by simp at hrl; simp; omega
            have hI1 : ¬ ((1 : Int) < (t.size : Int)) := by simp at hrl; omega
            have HK1 : Hid (∀ x : Str, kindOf true x ≠ 1) := Lib.hid (fun x => kOf_ne1' _ x)
            clear ht0 
            go_wp2
            go_quiet (fail)
            go_wp2
            obtain ⟨wq, hwq⟩ : ∃ wq, wr.drewN nq = wq := ⟨_, rfl⟩
            rw [hwq]
            have hbq : Below wr.heap.size wr wq := by rw [← hwq]; exact below_drewN (Below.refl _ _) _
            have hinq := hin.out.keep hbq
            have HInq := Lib.hid hinq
            have Hbq := Lib.hid hbq
            clear hwq hinq hbq
            go_loop [6] (fun x => ∃ m : Nat, 1 ≤ m ∧ m ≤ t.size ∧ x = .int .i64 m ∧ Hid (∀ (j : Nat) b, j + 1 < m → ([] : Str)[j]? = some b → lowL.contains b = true)) (fun x => t.size - (intOf x).toNat)
            case atStart => exact ⟨1, Nat.le_refl _, hpos1, rfl, fun j b hj => absurd hj (by omega)⟩
            case round =>
             obtain ⟨m, hm1, hm2, rfl, hlow⟩ := hrel
             by_cases hlt : m < t.size
             · exact absurd hlt (by simp at hrl; omega)
             · have hw : wordLen true [] = m - 1 := wordLen_at [] (m - 1) (by simp at hrl ⊢; omega) (fun j b hj hb => hlow.out j b (by omega) hb) (fun b hb => by simp at hb)
               have Hw := Lib.hid hw
               clear hw
               have hI3 : (m : Int) ≤ (t.size : Int) := by omega
               have hI4 : (1 : Int) ≤ (m : Int) := by omega
               have eA : L (t.extract 1 m) = ([] : Str).take (m - 1) := by
                rw [L_extract, HLt.out]
                obtain ⟨q, rfl⟩ : ∃ q, m = q + 1 := ⟨m - 1, by omega⟩
                rfl
               have eB : L (t.extract m t.size) = ([] : Str).drop (m - 1) := by
                rw [L_extract, List.take_of_length_le (by rw [len_L]; exact Nat.le_refl _), HLt.out]
                obtain ⟨q, rfl⟩ : ∃ q, m = q + 1 := ⟨m - 1, by omega⟩
                rfl
               have hpc : pieceS 36 ([] : Str) = placeS (kindOf true (L (t.extract 1 m))) (L (t.extract m t.size)) := by
                rw [eA, eB, pieceS, if_neg (by simp), show ((36 : UInt8) == 36) = true from rfl, Hw.out]
               have HPC := Lib.hid hpc
               have HK := Lib.hid (Rkind_any (t.extract 1 m) wq)
               have hks := HK1.out (L (t.extract 1 m))
               generalize kindOf true (L (t.extract 1 m)) = K at *
               have HK1 : Hid (K ≠ 1) := Lib.hid hks
               have HPl := Lib.hid (fun (W : World) (hb : Below wr.heap.size wr W) => Rplace_any K (t.extract m t.size) W ((HE.out.keep hin.out.below HE.out.size).go hb) (by rw [size_extract]; omega))
               clear hpc eA eB hks
               go_wp2_with (go_at_call 237; refine HK.out.mono ?_; rintro e w1 ⟨rfl, hb1⟩; have hbk := bt Hbq.out hb1; clear hb1)
               refine (HPl.out _ hbk).mono ?_
               rintro e w2 ⟨p, r', ok, rfl, hb2, hpl⟩
               unfold encP
               have HB2 : Hid (Below wr.heap.size wr w2) := Lib.hid ((show Below wr.heap.size wr _ from by first | exact (Below.refl _ _).drew | exact Below.refl _ _ | exact below_drewN (Below.refl _ _) _ | exact (below_drewN (Below.refl _ _) _).drew | exact hbk).trans (hb2.mono (by first | exact Nat.le_refl _ | exact hbk.size)))
               have HPl2 := Lib.hid (HPC.out.trans hpl)
               clear hb2 hpl
               cases ok
               · have hres : parseR (L s) = ([], 90) := by rw [HR.out, HRd.out, if_pos (by decide), HPl2.out]; rfl
                 have HRes := Lib.hid hres
                 clear hres
                 go_wp2
                 go_ret2
                 exact ⟨.slice none 0 0, by rw [HRes.out]; rfl, by rw [HRes.out]; exact ⟨rfl, .inl ⟨rfl, rfl⟩⟩, (hin.out.below.trans (HB2.out.mono hin.out.below.size)).trans ((below_alloc w2 _).mono (Nat.le_trans hin.out.below.size HB2.out.size))⟩
               · have hpc : pieceS 36 [] = some (p, L r') := HPl2.out
                 have hl1 := pieceS_len hpc
                 have hl2 := pieceS_len' hpc
                 rw [len_L] at hl1 hl2
                 have hk1 : p.kind ≠ 1 := place_ne1 (HPC.out.symm.trans hpc) HK1.out
                 have hin2 := (hin.out.keep HB2.out).keep (below_alloc w2 (.cells #[.int .i64 p.kind, .string p.text, .int .i64 p.word, .bool p.more] 236))
                 have HAd := Lib.hid (hin2.add p htz (by omega) (fun h => absurd h hk1))
                 have HIn2 := Lib.hid hin2
                 have HPC3 := Lib.hid hpc
                 have hrs : r'.size + 1 ≤ t.size := by omega
                 clear hpc hk1 hin2
                 go_wp2_with (go_at_call 236; refine HAd.out.mono ?_; rintro e w3 ⟨v', rfl, ho3, hb3⟩)
                 have hfin : RIn s w w3 r' (addP acc p) v' := HIn2.out.goOn ho3 hb3 htz (by omega) hrs ⟨n', by omega, by
                  have := HRd.out
                  rw [if_pos (by decide), HPC3.out] at this
                  exact this⟩
                 have HF := Lib.hid hfin
                 clear hfin ho3 hb3
                 go_roundg (gk - 1)
                 case measure => omega
                 case rel => exact ⟨_, _, rfl, by omega, by omega, HF.out⟩
          | cons d r2 =>
            have hlt1 : 1 < t.size := by simp at hrl; omega
            have ht1 := at1 HLt.out hlt1
            have hI2 : (2 : Int) ≤ (t.size : Int) := by omega
            have hI1 : (1 : Int) < (t.size : Int) := by omega
            have hI1' : decide ((1 : Int) < (t.size : Int)) = true := by simpa using hI1
            have hdc : d ≠ 36 := by simpa using hd
            have hq : ((t[1].toNat : Int) == (t[0].toNat : Int)) = false := by rw [ht0, ht1, toNat_eq]; simpa using hdc
            have HK1 : Hid (∀ x : Str, kindOf true x ≠ 1) := Lib.hid (fun x => kOf_ne1' _ x)
            have HDc := Lib.hid hdc
            clear ht0 hd hdc ht1
            go_wp2
            go_quiet (fail)
            go_wp2
            obtain ⟨wq, hwq⟩ : ∃ wq, wr.drewN nq = wq := ⟨_, rfl⟩
            rw [hwq]
            have hbq : Below wr.heap.size wr wq := by rw [← hwq]; exact below_drewN (Below.refl _ _) _
            have hinq := hin.out.keep hbq
            have HInq := Lib.hid hinq
            have Hbq := Lib.hid hbq
            clear hwq hinq hbq
            go_loop [6] (fun x => ∃ m : Nat, 1 ≤ m ∧ m ≤ t.size ∧ x = .int .i64 m ∧ Hid (∀ (j : Nat) b, j + 1 < m → (d :: r2 : Str)[j]? = some b → lowL.contains b = true)) (fun x => t.size - (intOf x).toNat)
            case atStart => exact ⟨1, Nat.le_refl _, hpos1, rfl, fun j b hj => absurd hj (by omega)⟩
            case round =>
             obtain ⟨m, hm1, hm2, rfl, hlow⟩ := hrel
             by_cases hlt : m < t.size
             · have hget : ((d :: r2) : Str)[m - 1]? = some t[m] := by
                have h1 : (L t)[m]? = some t[m] := by rw [List.getElem?_eq_getElem (by rw [len_L]; exact hlt)]; rfl
                have h2 : (36 :: d :: r2 : Str)[m]? = (d :: r2 : Str)[m - 1]? := by
                 cases m with
                 | zero => omega
                 | succ q => rfl
                rw [← h2, ← HLt.out]
                exact h1
               have hlo := low_iff t[m]
               by_cases hl : lowL.contains t[m] = true
               · rw [hl] at hlo
                 obtain ⟨h97, h122⟩ : (97 : Int) ≤ (t[m].toNat : Int) ∧ (t[m].toNat : Int) ≤ 122 := by simpa using hlo.symm
                 have HG := Lib.hid hget
                 have HLw := Lib.hid hl
                 clear hlo hget hl
                 go_wp2
                 go_round
                 case rel => exact ⟨m + 1, by omega, by omega, by go_num, fun j b hj hb => by
                  rcases Nat.lt_or_ge (j + 1) m with h5 | h5
                  · exact hlow.out j b h5 hb
                  · obtain rfl : j = m - 1 := by omega
                    rw [HG.out] at hb
                    injection hb with hb
                    rw [← hb]; exact HLw.out⟩
                 case measure => simp [intOf]; omega
               · have hl' : lowL.contains t[m] = false := by simpa using hl
                 have hw : wordLen true (d :: r2) = m - 1 := wordLen_at (d :: r2) (m - 1) (by simp at hrl ⊢; omega) (fun j b hj hb => hlow.out j b (by omega) hb) (fun b hb => by rw [hget] at hb; injection hb with hb; rw [← hb]; exact hl')
                 have Hw := Lib.hid hw
                 rw [hl'] at hlo
                 clear hget hl hl' hw
                 by_cases h97 : (97 : Int) ≤ (t[m].toNat : Int)
                 · have h122 : ¬ (t[m].toNat : Int) ≤ 122 := fun h => by simp [h97, h] at hlo
                   clear hlo
                   have hI3 : (m : Int) ≤ (t.size : Int) := by omega
                   have hI4 : (1 : Int) ≤ (m : Int) := by omega
                   have eA : L (t.extract 1 m) = (d :: r2).take (m - 1) := by
                    rw [L_extract, HLt.out]
                    obtain ⟨q, rfl⟩ : ∃ q, m = q + 1 := ⟨m - 1, by omega⟩
                    rfl
                   have eB : L (t.extract m t.size) = (d :: r2).drop (m - 1) := by
                    rw [L_extract, List.take_of_length_le (by rw [len_L]; exact Nat.le_refl _), HLt.out]
                    obtain ⟨q, rfl⟩ : ∃ q, m = q + 1 := ⟨m - 1, by omega⟩
                    rfl
                   have hpc : pieceS 36 (d :: r2) = placeS (kindOf true (L (t.extract 1 m))) (L (t.extract m t.size)) := by
                    rw [eA, eB, pieceS, if_neg (by simpa using HDc.out), show ((36 : UInt8) == 36) = true from rfl, Hw.out]
                   have HPC := Lib.hid hpc
                   have HK := Lib.hid (Rkind_any (t.extract 1 m) wq)
                   have hks := HK1.out (L (t.extract 1 m))
                   generalize kindOf true (L (t.extract 1 m)) = K at *
                   have HK1 : Hid (K ≠ 1) := Lib.hid hks
                   have HPl := Lib.hid (fun (W : World) (hb : Below wr.heap.size wr W) => Rplace_any K (t.extract m t.size) W ((HE.out.keep hin.out.below HE.out.size).go hb) (by rw [size_extract]; omega))
                   clear hpc eA eB hks
                   go_wp2_with (go_at_call 237; refine HK.out.mono ?_; rintro e w1 ⟨rfl, hb1⟩; have hbk := bt Hbq.out hb1; clear hb1)
                   refine (HPl.out _ hbk).mono ?_
                   rintro e w2 ⟨p, r', ok, rfl, hb2, hpl⟩
                   unfold encP
                   have HB2 : Hid (Below wr.heap.size wr w2) := Lib.hid ((show Below wr.heap.size wr _ from by first | exact (Below.refl _ _).drew | exact Below.refl _ _ | exact below_drewN (Below.refl _ _) _ | exact (below_drewN (Below.refl _ _) _).drew | exact hbk).trans (hb2.mono (by first | exact Nat.le_refl _ | exact hbk.size)))
                   have HPl2 := Lib.hid (HPC.out.trans hpl)
                   clear hb2 hpl
                   cases ok
                   · have hres : parseR (L s) = ([], 90) := by rw [HR.out, HRd.out, if_pos (by decide), HPl2.out]; rfl
                     have HRes := Lib.hid hres
                     clear hres
                     go_wp2
                     go_ret2
                     exact ⟨.slice none 0 0, by rw [HRes.out]; rfl, by rw [HRes.out]; exact ⟨rfl, .inl ⟨rfl, rfl⟩⟩, (hin.out.below.trans (HB2.out.mono hin.out.below.size)).trans ((below_alloc w2 _).mono (Nat.le_trans hin.out.below.size HB2.out.size))⟩
                   · have hpc : pieceS 36 (d :: r2) = some (p, L r') := HPl2.out
                     have hl1 := pieceS_len hpc
                     have hl2 := pieceS_len' hpc
                     rw [len_L] at hl1 hl2
                     have hk1 : p.kind ≠ 1 := place_ne1 (HPC.out.symm.trans hpc) HK1.out
                     have hin2 := (hin.out.keep HB2.out).keep (below_alloc w2 (.cells #[.int .i64 p.kind, .string p.text, .int .i64 p.word, .bool p.more] 236))
                     have HAd := Lib.hid (hin2.add p htz (by omega) (fun h => absurd h hk1))
                     have HIn2 := Lib.hid hin2
                     have HPC3 := Lib.hid hpc
                     have hrs : r'.size + 1 ≤ t.size := by omega
                     clear hpc hk1 hin2
                     go_wp2_with (go_at_call 236; refine HAd.out.mono ?_; rintro e w3 ⟨v', rfl, ho3, hb3⟩)
                     have hfin : RIn s w w3 r' (addP acc p) v' := HIn2.out.goOn ho3 hb3 htz (by omega) hrs ⟨n', by omega, by
                      have := HRd.out
                      rw [if_pos (by decide), HPC3.out] at this
                      exact this⟩
                     have HF := Lib.hid hfin
                     clear hfin ho3 hb3
                     go_roundg (gk - 1)
                     case measure => omega
                     case rel => exact ⟨_, _, rfl, by omega, by omega, HF.out⟩
                 · clear hlo
                   have hI3 : (m : Int) ≤ (t.size : Int) := by omega
                   have hI4 : (1 : Int) ≤ (m : Int) := by omega
                   have eA : L (t.extract 1 m) = (d :: r2).take (m - 1) := by
                    rw [L_extract, HLt.out]
                    obtain ⟨q, rfl⟩ : ∃ q, m = q + 1 := ⟨m - 1, by omega⟩
                    rfl
                   have eB : L (t.extract m t.size) = (d :: r2).drop (m - 1) := by
                    rw [L_extract, List.take_of_length_le (by rw [len_L]; exact Nat.le_refl _), HLt.out]
                    obtain ⟨q, rfl⟩ : ∃ q, m = q + 1 := ⟨m - 1, by omega⟩
                    rfl
                   have hpc : pieceS 36 (d :: r2) = placeS (kindOf true (L (t.extract 1 m))) (L (t.extract m t.size)) := by
                    rw [eA, eB, pieceS, if_neg (by simpa using HDc.out), show ((36 : UInt8) == 36) = true from rfl, Hw.out]
                   have HPC := Lib.hid hpc
                   have HK := Lib.hid (Rkind_any (t.extract 1 m) wq)
                   have hks := HK1.out (L (t.extract 1 m))
                   generalize kindOf true (L (t.extract 1 m)) = K at *
                   have HK1 : Hid (K ≠ 1) := Lib.hid hks
                   have HPl := Lib.hid (fun (W : World) (hb : Below wr.heap.size wr W) => Rplace_any K (t.extract m t.size) W ((HE.out.keep hin.out.below HE.out.size).go hb) (by rw [size_extract]; omega))
                   clear hpc eA eB hks
                   go_wp2_with (go_at_call 237; refine HK.out.mono ?_; rintro e w1 ⟨rfl, hb1⟩; have hbk := bt Hbq.out hb1; clear hb1)
                   refine (HPl.out _ hbk).mono ?_
                   rintro e w2 ⟨p, r', ok, rfl, hb2, hpl⟩
                   unfold encP
                   have HB2 : Hid (Below wr.heap.size wr w2) := Lib.hid ((show Below wr.heap.size wr _ from by first | exact (Below.refl _ _).drew | exact Below.refl _ _ | exact below_drewN (Below.refl _ _) _ | exact (below_drewN (Below.refl _ _) _).drew | exact hbk).trans (hb2.mono (by first | exact Nat.le_refl _ | exact hbk.size)))
                   have HPl2 := Lib.hid (HPC.out.trans hpl)
                   clear hb2 hpl
                   cases ok
                   · have hres : parseR (L s) = ([], 90) := by rw [HR.out, HRd.out, if_pos (by decide), HPl2.out]; rfl
                     have HRes := Lib.hid hres
                     clear hres
                     go_wp2
                     go_ret2
                     exact ⟨.slice none 0 0, by rw [HRes.out]; rfl, by rw [HRes.out]; exact ⟨rfl, .inl ⟨rfl, rfl⟩⟩, (hin.out.below.trans (HB2.out.mono hin.out.below.size)).trans ((below_alloc w2 _).mono (Nat.le_trans hin.out.below.size HB2.out.size))⟩
                   · have hpc : pieceS 36 (d :: r2) = some (p, L r') := HPl2.out
                     have hl1 := pieceS_len hpc
                     have hl2 := pieceS_len' hpc
                     rw [len_L] at hl1 hl2
                     have hk1 : p.kind ≠ 1 := place_ne1 (HPC.out.symm.trans hpc) HK1.out
                     have hin2 := (hin.out.keep HB2.out).keep (below_alloc w2 (.cells #[.int .i64 p.kind, .string p.text, .int .i64 p.word, .bool p.more] 236))
                     have HAd := Lib.hid (hin2.add p htz (by omega) (fun h => absurd h hk1))
                     have HIn2 := Lib.hid hin2
                     have HPC3 := Lib.hid hpc
                     have hrs : r'.size + 1 ≤ t.size := by omega
                     clear hpc hk1 hin2
                     go_wp2_with (go_at_call 236; refine HAd.out.mono ?_; rintro e w3 ⟨v', rfl, ho3, hb3⟩)
                     have hfin : RIn s w w3 r' (addP acc p) v' := HIn2.out.goOn ho3 hb3 htz (by omega) hrs ⟨n', by omega, by
                      have := HRd.out
                      rw [if_pos (by decide), HPC3.out] at this
                      exact this⟩
                     have HF := Lib.hid hfin
                     clear hfin ho3 hb3
                     go_roundg (gk - 1)
                     case measure => omega
                     case rel => exact ⟨_, _, rfl, by omega, by omega, HF.out⟩
             · have hw : wordLen true (d :: r2) = m - 1 := wordLen_at (d :: r2) (m - 1) (by simp at hrl ⊢; omega) (fun j b hj hb => hlow.out j b (by omega) hb) (fun b hb => by have := (List.getElem?_eq_some_iff.1 hb).1; simp at hrl this; omega)
               have Hw := Lib.hid hw
               clear hw
               have hI3 : (m : Int) ≤ (t.size : Int) := by omega
               have hI4 : (1 : Int) ≤ (m : Int) := by omega
               have eA : L (t.extract 1 m) = (d :: r2).take (m - 1) := by
                rw [L_extract, HLt.out]
                obtain ⟨q, rfl⟩ : ∃ q, m = q + 1 := ⟨m - 1, by omega⟩
                rfl
               have eB : L (t.extract m t.size) = (d :: r2).drop (m - 1) := by
                rw [L_extract, List.take_of_length_le (by rw [len_L]; exact Nat.le_refl _), HLt.out]
                obtain ⟨q, rfl⟩ : ∃ q, m = q + 1 := ⟨m - 1, by omega⟩
                rfl
               have hpc : pieceS 36 (d :: r2) = placeS (kindOf true (L (t.extract 1 m))) (L (t.extract m t.size)) := by
                rw [eA, eB, pieceS, if_neg (by simpa using HDc.out), show ((36 : UInt8) == 36) = true from rfl, Hw.out]
               have HPC := Lib.hid hpc
               have HK := Lib.hid (Rkind_any (t.extract 1 m) wq)
               have hks := HK1.out (L (t.extract 1 m))
               generalize kindOf true (L (t.extract 1 m)) = K at *
               have HK1 : Hid (K ≠ 1) := Lib.hid hks
               have HPl := Lib.hid (fun (W : World) (hb : Below wr.heap.size wr W) => Rplace_any K (t.extract m t.size) W ((HE.out.keep hin.out.below HE.out.size).go hb) (by rw [size_extract]; omega))
               clear hpc eA eB hks
               go_wp2_with (go_at_call 237; refine HK.out.mono ?_; rintro e w1 ⟨rfl, hb1⟩; have hbk := bt Hbq.out hb1; clear hb1)
               refine (HPl.out _ hbk).mono ?_
               rintro e w2 ⟨p, r', ok, rfl, hb2, hpl⟩
               unfold encP
               have HB2 : Hid (Below wr.heap.size wr w2) := Lib.hid ((show Below wr.heap.size wr _ from by first | exact (Below.refl _ _).drew | exact Below.refl _ _ | exact below_drewN (Below.refl _ _) _ | exact (below_drewN (Below.refl _ _) _).drew | exact hbk).trans (hb2.mono (by first | exact Nat.le_refl _ | exact hbk.size)))
               have HPl2 := Lib.hid (HPC.out.trans hpl)
               clear hb2 hpl
               cases ok
               · have hres : parseR (L s) = ([], 90) := by rw [HR.out, HRd.out, if_pos (by decide), HPl2.out]; rfl
                 have HRes := Lib.hid hres
                 clear hres
                 go_wp2
                 go_ret2
                 exact ⟨.slice none 0 0, by rw [HRes.out]; rfl, by rw [HRes.out]; exact ⟨rfl, .inl ⟨rfl, rfl⟩⟩, (hin.out.below.trans (HB2.out.mono hin.out.below.size)).trans ((below_alloc w2 _).mono (Nat.le_trans hin.out.below.size HB2.out.size))⟩
               · have hpc : pieceS 36 (d :: r2) = some (p, L r') := HPl2.out
                 have hl1 := pieceS_len hpc
                 have hl2 := pieceS_len' hpc
                 rw [len_L] at hl1 hl2
                 have hk1 : p.kind ≠ 1 := place_ne1 (HPC.out.symm.trans hpc) HK1.out
                 have hin2 := (hin.out.keep HB2.out).keep (below_alloc w2 (.cells #[.int .i64 p.kind, .string p.text, .int .i64 p.word, .bool p.more] 236))
                 have HAd := Lib.hid (hin2.add p htz (by omega) (fun h => absurd h hk1))
                 have HIn2 := Lib.hid hin2
                 have HPC3 := Lib.hid hpc
                 have hrs : r'.size + 1 ≤ t.size := by omega
                 clear hpc hk1 hin2
                 go_wp2_with (go_at_call 236; refine HAd.out.mono ?_; rintro e w3 ⟨v', rfl, ho3, hb3⟩)
                 have hfin : RIn s w w3 r' (addP acc p) v' := HIn2.out.goOn ho3 hb3 htz (by omega) hrs ⟨n', by omega, by
                  have := HRd.out
                  rw [if_pos (by decide), HPC3.out] at this
                  exact this⟩
                 have HF := Lib.hid hfin
                 clear hfin ho3 hb3
                 go_roundg (gk - 1)
                 case measure => omega
                 case rel => exact ⟨_, _, rfl, by omega, by omega, HF.out⟩
      · have k36 : ((t[0].toNat : Int) == 36) = false := by rw [ht0]; decide
        have n36 : ((t[0].toNat : Int) != 36) = true := by rw [ht0]; decide
        have k37 : ((t[0].toNat : Int) == 37) = true := by rw [ht0]; decide
        have n37 : ((t[0].toNat : Int) != 37) = false := by rw [ht0]; decide
        by_cases hd : r.head? = some 37
        · obtain ⟨r2, rfl⟩ : ∃ r2, r = 37 :: r2 := by
           cases r with
           | nil => simp at hd
           | cons a b => simp at hd; exact ⟨b, by rw [hd]⟩
          have hlt1 : 1 < t.size := by simp at hrl; omega
          have ht1 := at1 HLt.out hlt1
          have hI2 : (2 : Int) ≤ (t.size : Int) := by omega
          have hI1 : (1 : Int) < (t.size : Int) := by omega
          have hI1' : decide ((1 : Int) < (t.size : Int)) = true := by simpa using hI1
          have hq : ((t[1].toNat : Int) == (t[0].toNat : Int)) = true := by rw [ht0, ht1]; decide
          have e2 := ext2 HLt.out
          have E2 := Lib.hid e2
          have HAd := Lib.hid (fun W (hb : Below wr.heap.size wr W) => (hin.out.keep hb).add (txt (bs [37])) htz (by show (bs [37]).size ≤ 256; rw [size_bs]; simp) (fun _ => rfl))
          clear hd ht0 ht1 e2
          go_wp2
          go_quiet (fail)
          go_wp2
          go_region_held3 (fun _ => True) (exact trivial) ((go_at_call 236; rw [E01.out]; refine (HAd.out _ (by first | exact (Below.refl _ _).drew | exact Below.refl _ _ | exact below_drewN (Below.refl _ _) _ | exact (below_drewN (Below.refl _ _) _).drew)).mono ?_; rintro e w2 ⟨v', rfl, ho2, hb2⟩))
          have hfin : RIn s w w2 (t.extract 2 t.size) (addP acc (txt (bs [37]))) v' := hin.out.goOn ho2 ((show Below w.heap.size wr _ from by first | exact (Below.refl _ _).drew | exact Below.refl _ _ | exact below_drewN (Below.refl _ _) _ | exact (below_drewN (Below.refl _ _) _).drew).trans hb2) htz (by rw [E2.out, size_bs]; show (bs [37]).size + r2.length ≤ t.size; rw [size_bs]; simp at hrl ⊢; omega) (by rw [E2.out, size_bs]; simp at hrl; omega) ⟨n', by rw [E2.out, size_bs]; simp at hn3; omega, by
           have := HRd.out
           rw [if_pos (by decide), show pieceS 37 (37 :: r2) = some (txt (bs [37]), r2) from by rw [pieceS, if_pos (show (37 :: r2 : Str).head? = some 37 from rfl)]; rfl] at this
           rw [this, E2.out, L_bs]⟩
          have HF := Lib.hid hfin
          have hz2 : (t.extract 2 t.size).size = r2.length := by rw [E2.out, size_bs]
          have hz3 : r2.length + 2 = t.size := by simp at hrl; omega
          clear hfin ho2 hb2
          go_wp2
          go_roundg (gk - 1)
          case measure => omega
          case rel => exact ⟨_, _, rfl, by omega, by omega, HF.out⟩
        · cases r with
          | nil =>
            have hI1' : decide ((1 : Int) < (t.size : Int)) = false := by simp at hrl; simp; omega
            have hI1 : ¬ ((1 : Int) < (t.size : Int)) := by simp at hrl; omega
            have hpc : pieceS 37 [] = placeS 0 (L (t.extract 1 t.size)) := by rw [E1.out, L_bs]; rfl
            have HPC := Lib.hid hpc
            have HPl := Lib.hid (fun (W : World) (hb : Below wr.heap.size wr W) => Rplace_any 0 (t.extract 1 t.size) W ((HE.out.keep hin.out.below HE.out.size).go hb) (by rw [E1.out, size_bs]; simp))
            have HK1 : Hid ((0 : Nat) ≠ 1) := Lib.hid (by decide)
            clear hd ht0 hpc
            go_wp2
            go_quiet (fail)
            go_wp2_with fail
            refine (HPl.out _ (by first | exact (Below.refl _ _).drew | exact Below.refl _ _ | exact below_drewN (Below.refl _ _) _)).mono ?_
            rintro e w2 ⟨p, r', ok, rfl, hb2, hpl⟩
            unfold encP
            have HB2 : Hid (Below wr.heap.size wr w2) := Lib.hid ((show Below wr.heap.size wr _ from by first | exact (Below.refl _ _).drew | exact Below.refl _ _ | exact below_drewN (Below.refl _ _) _ | exact (below_drewN (Below.refl _ _) _).drew | exact hbk).trans (hb2.mono (by first | exact Nat.le_refl _ | exact hbk.size)))
            have HPl2 := Lib.hid (HPC.out.trans hpl)
            clear hb2 hpl
            cases ok
            · have hres : parseR (L s) = ([], 90) := by rw [HR.out, HRd.out, if_pos (by decide), HPl2.out]; rfl
              have HRes := Lib.hid hres
              clear hres
              go_wp2
              go_ret2
              exact ⟨.slice none 0 0, by rw [HRes.out]; rfl, by rw [HRes.out]; exact ⟨rfl, .inl ⟨rfl, rfl⟩⟩, (hin.out.below.trans (HB2.out.mono hin.out.below.size)).trans ((below_alloc w2 _).mono (Nat.le_trans hin.out.below.size HB2.out.size))⟩
            · have hpc : pieceS 37 [] = some (p, L r') := HPl2.out
              have hl1 := pieceS_len hpc
              have hl2 := pieceS_len' hpc
              rw [len_L] at hl1 hl2
              have hk1 : p.kind ≠ 1 := place_ne1 (HPC.out.symm.trans hpc) HK1.out
              have hin2 := (hin.out.keep HB2.out).keep (below_alloc w2 (.cells #[.int .i64 p.kind, .string p.text, .int .i64 p.word, .bool p.more] 236))
              have HAd := Lib.hid (hin2.add p htz (by omega) (fun h => absurd h hk1))
              have HIn2 := Lib.hid hin2
              have HPC3 := Lib.hid hpc
              have hrs : r'.size + 1 ≤ t.size := by omega
              clear hpc hk1 hin2
              go_wp2_with (go_at_call 236; refine HAd.out.mono ?_; rintro e w3 ⟨v', rfl, ho3, hb3⟩)
              have hfin : RIn s w w3 r' (addP acc p) v' := HIn2.out.goOn ho3 hb3 htz (by omega) hrs ⟨n', by omega, by
               have := HRd.out
               rw [if_pos (by decide), HPC3.out] at this
               exact this⟩
              have HF := Lib.hid hfin
              clear hfin ho3 hb3
              go_roundg (gk - 1)
              case measure => omega
              case rel => exact ⟨_, _, rfl, by omega, by omega, HF.out⟩
          | cons d r2 =>
            have hlt1 : 1 < t.size := by simp at hrl; omega
            have ht1 := at1 HLt.out hlt1
            have hI2 : (2 : Int) ≤ (t.size : Int) := by omega
            have hI1 : (1 : Int) < (t.size : Int) := by omega
            have hI1' : decide ((1 : Int) < (t.size : Int)) = true := by simpa using hI1
            have hdc : d ≠ 37 := by simpa using hd
            have hq : ((t[1].toNat : Int) == (t[0].toNat : Int)) = false := by rw [ht0, ht1, toNat_eq]; simpa using hdc
            have e2 := ext2 HLt.out
            have E2 := Lib.hid e2
            have HIx := Lib.hid (fun W => IndexByte_any ⟨#[32, 32, 107, 110, 112, 98, 100, 115, 69, 99, 80, 32]⟩ t[1] W)
            obtain ⟨K, hK⟩ : ∃ K, kindOf false [d] = K := ⟨_, rfl⟩
            have hpc : pieceS 37 (d :: r2) = placeS K (L (t.extract 2 t.size)) := by
             rw [E2.out, L_bs, pieceS, if_neg (by simpa using hdc), ← hK]
             have hw : wordLen ((37 : UInt8) == 36) (d :: r2) = 1 := by
              rw [show ((37 : UInt8) == 36) = false from rfl]
              unfold wordLen
              rw [if_neg (by decide)]
              simp
             rw [hw]; rfl
            have HPC := Lib.hid hpc
            have HPl := Lib.hid (fun (W : World) (hb : Below wr.heap.size wr W) => Rplace_any K (t.extract 2 t.size) W ((HE.out.keep hin.out.below HE.out.size).go hb) (by rw [E2.out, size_bs]; simp at hrl; omega))
            have hlet := letters_at d
            rw [hK] at hlet
            by_cases h32 : d = 32
            · have hK0 : K = 0 := hlet.1 h32
              subst hK0
              have HK1 : Hid ((0 : Nat) ≠ 1) := Lib.hid (by decide)
              have k32 : ((t[1].toNat : Int) == 32) = true := by rw [ht1, h32]; decide
              clear hd hdc ht0 hpc hlet h32 ht1 e2 hK
              go_wp2
              go_quiet (fail)
              go_wp2_with (go_at_call 150; refine (HIx.out _).mono ?_; rintro e w' ⟨rfl, rfl⟩)
              refine (HPl.out _ (by first | exact (Below.refl _ _).drew | exact Below.refl _ _ | exact below_drewN (Below.refl _ _) _)).mono ?_
              rintro e w2 ⟨p, r', ok, rfl, hb2, hpl⟩
              unfold encP
              have HB2 : Hid (Below wr.heap.size wr w2) := Lib.hid ((show Below wr.heap.size wr _ from by first | exact (Below.refl _ _).drew | exact Below.refl _ _ | exact below_drewN (Below.refl _ _) _ | exact (below_drewN (Below.refl _ _) _).drew | exact hbk).trans (hb2.mono (by first | exact Nat.le_refl _ | exact hbk.size)))
              have HPl2 := Lib.hid (HPC.out.trans hpl)
              clear hb2 hpl
              cases ok
              · have hres : parseR (L s) = ([], 90) := by rw [HR.out, HRd.out, if_pos (by decide), HPl2.out]; rfl
                have HRes := Lib.hid hres
                clear hres
                go_wp2
                go_ret2
                exact ⟨.slice none 0 0, by rw [HRes.out]; rfl, by rw [HRes.out]; exact ⟨rfl, .inl ⟨rfl, rfl⟩⟩, (hin.out.below.trans (HB2.out.mono hin.out.below.size)).trans ((below_alloc w2 _).mono (Nat.le_trans hin.out.below.size HB2.out.size))⟩
              · have hpc : pieceS 37 (d :: r2) = some (p, L r') := HPl2.out
                have hl1 := pieceS_len hpc
                have hl2 := pieceS_len' hpc
                rw [len_L] at hl1 hl2
                have hk1 : p.kind ≠ 1 := place_ne1 (HPC.out.symm.trans hpc) HK1.out
                have hin2 := (hin.out.keep HB2.out).keep (below_alloc w2 (.cells #[.int .i64 p.kind, .string p.text, .int .i64 p.word, .bool p.more] 236))
                have HAd := Lib.hid (hin2.add p htz (by omega) (fun h => absurd h hk1))
                have HIn2 := Lib.hid hin2
                have HPC3 := Lib.hid hpc
                have hrs : r'.size + 1 ≤ t.size := by omega
                clear hpc hk1 hin2
                go_wp2_with (go_at_call 236; refine HAd.out.mono ?_; rintro e w3 ⟨v', rfl, ho3, hb3⟩)
                have hfin : RIn s w w3 r' (addP acc p) v' := HIn2.out.goOn ho3 hb3 htz (by omega) hrs ⟨n', by omega, by
                 have := HRd.out
                 rw [if_pos (by decide), HPC3.out] at this
                 exact this⟩
                have HF := Lib.hid hfin
                clear hfin ho3 hb3
                go_roundg (gk - 1)
                case measure => omega
                case rel => exact ⟨_, _, rfl, by omega, by omega, HF.out⟩
            · have k32 : ((t[1].toNat : Int) == 32) = false := by rw [ht1, show (32 : Int) = ((32 : UInt8).toNat : Int) from rfl, toNat_eq]; simpa using h32
              have hK1 := hlet.2 h32
              have hix : ∃ ix : Int, Lib.indexByte (L ⟨#[32, 32, 107, 110, 112, 98, 100, 115, 69, 99, 80, 32]⟩) t[1] = ix ∧ ((ix = -1 ∧ K = 0) ∨ ∃ j : Nat, ix = j ∧ K = j) := by
               refine ⟨_, rfl, ?_⟩
               rw [ht1]
               change (Lib.indexByte rletters d = -1 ∧ K = 0) ∨ ∃ j : Nat, Lib.indexByte rletters d = j ∧ K = j
               have hge := Lib.indexByte_ge rletters d
               generalize Lib.indexByte rletters d = ix at *
               by_cases hn : ix < 0
               · left; omega
               · right; exact ⟨ix.toNat, by omega, by omega⟩
              obtain ⟨ix, hix1, hix2⟩ := hix
              have HIx2 := HIx.out
              rw [hix1] at HIx2
              have HIx3 := Lib.hid HIx2
              have HK1 : Hid (K ≠ 1) := Lib.hid (by rw [← hK]; exact kOf_ne1' _ _)
              clear hd hdc ht0 hpc hlet h32 ht1 e2 hK hix1 HIx HIx2 hK1
              rcases hix2 with ⟨rfl, rfl⟩ | ⟨j, rfl, rfl⟩
              · go_wp2
                go_quiet (fail)
                go_wp2_with (go_at_call 150; refine (HIx3.out _).mono ?_; rintro e w' ⟨rfl, rfl⟩)
                refine (HPl.out _ (by first | exact (Below.refl _ _).drew | exact Below.refl _ _ | exact below_drewN (Below.refl _ _) _)).mono ?_
                rintro e w2 ⟨p, r', ok, rfl, hb2, hpl⟩
                unfold encP
                have HB2 : Hid (Below wr.heap.size wr w2) := Lib.hid ((show Below wr.heap.size wr _ from by first | exact (Below.refl _ _).drew | exact Below.refl _ _ | exact below_drewN (Below.refl _ _) _ | exact (below_drewN (Below.refl _ _) _).drew | exact hbk).trans (hb2.mono (by first | exact Nat.le_refl _ | exact hbk.size)))
                have HPl2 := Lib.hid (HPC.out.trans hpl)
                clear hb2 hpl
                cases ok
                · have hres : parseR (L s) = ([], 90) := by rw [HR.out, HRd.out, if_pos (by decide), HPl2.out]; rfl
                  have HRes := Lib.hid hres
                  clear hres
                  go_wp2
                  go_ret2
                  exact ⟨.slice none 0 0, by rw [HRes.out]; rfl, by rw [HRes.out]; exact ⟨rfl, .inl ⟨rfl, rfl⟩⟩, (hin.out.below.trans (HB2.out.mono hin.out.below.size)).trans ((below_alloc w2 _).mono (Nat.le_trans hin.out.below.size HB2.out.size))⟩
                · have hpc : pieceS 37 (d :: r2) = some (p, L r') := HPl2.out
                  have hl1 := pieceS_len hpc
                  have hl2 := pieceS_len' hpc
                  rw [len_L] at hl1 hl2
                  have hk1 : p.kind ≠ 1 := place_ne1 (HPC.out.symm.trans hpc) HK1.out
                  have hin2 := (hin.out.keep HB2.out).keep (below_alloc w2 (.cells #[.int .i64 p.kind, .string p.text, .int .i64 p.word, .bool p.more] 236))
                  have HAd := Lib.hid (hin2.add p htz (by omega) (fun h => absurd h hk1))
                  have HIn2 := Lib.hid hin2
                  have HPC3 := Lib.hid hpc
                  have hrs : r'.size + 1 ≤ t.size := by omega
                  clear hpc hk1 hin2
                  go_wp2_with (go_at_call 236; refine HAd.out.mono ?_; rintro e w3 ⟨v', rfl, ho3, hb3⟩)
                  have hfin : RIn s w w3 r' (addP acc p) v' := HIn2.out.goOn ho3 hb3 htz (by omega) hrs ⟨n', by omega, by
                   have := HRd.out
                   rw [if_pos (by decide), HPC3.out] at this
                   exact this⟩
                  have HF := Lib.hid hfin
                  clear hfin ho3 hb3
                  go_roundg (gk - 1)
                  case measure => omega
                  case rel => exact ⟨_, _, rfl, by omega, by omega, HF.out⟩
              · go_wp2
                go_quiet (fail)
                go_wp2_with (go_at_call 150; refine (HIx3.out _).mono ?_; rintro e w' ⟨rfl, rfl⟩)
                refine (HPl.out _ (by first | exact (Below.refl _ _).drew | exact Below.refl _ _ | exact below_drewN (Below.refl _ _) _)).mono ?_
                rintro e w2 ⟨p, r', ok, rfl, hb2, hpl⟩
                unfold encP
                have HB2 : Hid (Below wr.heap.size wr w2) := Lib.hid ((show Below wr.heap.size wr _ from by first | exact (Below.refl _ _).drew | exact Below.refl _ _ | exact below_drewN (Below.refl _ _) _ | exact (below_drewN (Below.refl _ _) _).drew | exact hbk).trans (hb2.mono (by first | exact Nat.le_refl _ | exact hbk.size)))
                have HPl2 := Lib.hid (HPC.out.trans hpl)
                clear hb2 hpl
                cases ok
                · have hres : parseR (L s) = ([], 90) := by rw [HR.out, HRd.out, if_pos (by decide), HPl2.out]; rfl
                  have HRes := Lib.hid hres
                  clear hres
                  go_wp2
                  go_ret2
                  exact ⟨.slice none 0 0, by rw [HRes.out]; rfl, by rw [HRes.out]; exact ⟨rfl, .inl ⟨rfl, rfl⟩⟩, (hin.out.below.trans (HB2.out.mono hin.out.below.size)).trans ((below_alloc w2 _).mono (Nat.le_trans hin.out.below.size HB2.out.size))⟩
                · have hpc : pieceS 37 (d :: r2) = some (p, L r') := HPl2.out
                  have hl1 := pieceS_len hpc
                  have hl2 := pieceS_len' hpc
                  rw [len_L] at hl1 hl2
                  have hk1 : p.kind ≠ 1 := place_ne1 (HPC.out.symm.trans hpc) HK1.out
                  have hin2 := (hin.out.keep HB2.out).keep (below_alloc w2 (.cells #[.int .i64 p.kind, .string p.text, .int .i64 p.word, .bool p.more] 236))
                  have HAd := Lib.hid (hin2.add p htz (by omega) (fun h => absurd h hk1))
                  have HIn2 := Lib.hid hin2
                  have HPC3 := Lib.hid hpc
                  have hrs : r'.size + 1 ≤ t.size := by omega
                  clear hpc hk1 hin2
                  go_wp2_with (go_at_call 236; refine HAd.out.mono ?_; rintro e w3 ⟨v', rfl, ho3, hb3⟩)
                  have hfin : RIn s w w3 r' (addP acc p) v' := HIn2.out.goOn ho3 hb3 htz (by omega) hrs ⟨n', by omega, by
                   have := HRd.out
                   rw [if_pos (by decide), HPC3.out] at this
                   exact this⟩
                  have HF := Lib.hid hfin
                  clear hfin ho3 hb3
                  go_roundg (gk - 1)
                  case measure => omega
                  case rel => exact ⟨_, _, rfl, by omega, by omega, HF.out⟩
    · have hsg' : sign c = false := by simpa using hsg
      have h36 : ((t[0].toNat : Int) == 36) = false := by
       rw [ht0, show (36 : Int) = ((36 : UInt8).toNat : Int) from rfl, toNat_eq]
       unfold sign at hsg'
       simp only [Bool.or_eq_false_iff] at hsg'
       exact hsg'.1
      have h37 : ((t[0].toNat : Int) == 37) = false := by
       rw [ht0, show (37 : Int) = ((37 : UInt8).toNat : Int) from rfl, toNat_eq]
       unfold sign at hsg'
       simp only [Bool.or_eq_false_iff] at hsg'
       exact hsg'.2
      have h36' : ((t[0].toNat : Int) != 36) = true := by rw [bne, h36]; rfl
      have h37' : ((t[0].toNat : Int) != 37) = true := by rw [bne, h37]; rfl
      have HSg := Lib.hid hsg'
      have HAd := Lib.hid (hin.out.drew.add (txt (bs [c])) htz (by show (bs [c]).size ≤ 256; rw [size_bs]; simp) (fun _ => rfl))
      clear hsg hsg' ht0
      go_wp2
      go_region_held3 (fun _ => True) (exact trivial) ((go_at_call 236; rw [E01.out]; refine HAd.out.mono ?_; rintro e w2 ⟨v', rfl, ho2, hb2⟩))
      have hbs : (t.extract 1 t.size).size = r.length := by rw [E1.out, size_bs]
      have hfin : RIn s w w2 (t.extract 1 t.size) (addP acc (txt (bs [c]))) v' := hin.out.drew.goOn ho2 hb2 htz (by rw [hbs]; show (bs [c]).size + r.length ≤ t.size; rw [size_bs]; simp; omega) (by omega) ⟨n', by omega, by
       have := HRd.out
       rw [HSg.out] at this
       rw [this, E1.out, L_bs]; rfl⟩
      have HF := Lib.hid hfin
      clear hfin ho2 hb2
      go_wp2
      go_roundg (gk - 1)
      case measure => omega
      case rel => exact ⟨_, _, rfl, by omega, by omega, HF.out⟩
end Go.Proofs.YtibflgfhjfcifaaGreatDoor
