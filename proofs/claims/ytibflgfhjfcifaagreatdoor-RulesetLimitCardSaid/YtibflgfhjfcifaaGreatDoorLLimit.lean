/-
  The law RulesetLimit, walked.
-/
import Derived.Test.YtibflgfhjfcifaaGreatDoorG42
import Derived.Test.YtibflgfhjfcifaaGreatDoorG24
import Derived.Test.YtibflgfhjfcifaaGreatDoorG00
namespace Go.Proofs.YtibflgfhjfcifaaGreatDoor
open Go.RowKit
theorem repS_rep : ∀ n, repS n = Lib.repeatL tagT n
 | 0 => rfl
 | n + 1 => by rw [repS, repS_rep n]; rfl
theorem repS_len (n : Nat) : (repS n).length = n * 9 := by rw [repS_rep, Lib.repeatL_length]; rfl
theorem Repeat_tag (n : Nat) (hn : n ≤ 1000) (W : World) : Calls Tryz.prog 24 #[.string ⟨#[84, 65, 71, 43, 61, 34, 97, 34, 10]⟩, .int .i64 n] W fun e w' => e = .returned (.string (bs (repS n))) ∧ Below W.heap.size W w' := by
 have h := Tryz.strings_Repeat ⟨#[84, 65, 71, 43, 61, 34, 97, 34, 10]⟩ n W (by omega) (by show 9 * n ≤ _; omega)
 exact h.mono fun e w' h => ⟨by rw [h.1, repS_rep]; rfl, h.2⟩
theorem limR (f : ByteArray) (n : Nat) : (loadR [⟨f, bs (repS n)⟩]).length = min 512 n := by
 rw [(load_rep f n).1, List.length_take, repR_len]
theorem limF (f : ByteArray) (n : Nat) : (loadF [⟨f, bs (repS n)⟩]).length = n - 512 := by
 rw [(load_rep f n).2, over_len]
theorem limF_at (f : ByteArray) {n i : Nat} (h : i < (loadF [⟨f, bs (repS n)⟩]).length) : (loadF [⟨f, bs (repS n)⟩])[i] = ⟨f, ((512 + i : Nat) : Int) + 1, 170⟩ := by
 have e := (load_rep f n).2
 have h2 : i < (overF ((repR f n).drop 512)).length := by rw [← e]; exact h
 rw [← over_at f h2]
 congr 1
set_option maxRecDepth 100000 in
set_option maxHeartbeats 8000000 in
theorem lawLimit (m : Int) (w : World) (hE : Env w) (hm1 : -9223372036854775808 ≤ m) (hm2 : m ≤ 9223372036854775807) :
 Calls Tryz.prog 7 #[.int .i64 m] w fun e w' => e = .returned (.bool true) ∧ Below w.heap.size w w' := by
 have HE := Lib.hid (fun (W : World) (hW : Below w.heap.size w W) => hE.go hW)
 have HF := Lib.hid (Fold_any m 5 w hm1 hm2 (by decide))
 have hr : foldS m 5 = 0 ∨ foldS m 5 = 1 ∨ foldS m 5 = 2 ∨ foldS m 5 = 3 ∨ foldS m 5 = 4 := by
  rw [foldS, if_neg (by decide)]
  omega
 generalize foldS m 5 = z at *
 clear hE hm1 hm2
 rcases hr with rfl | rfl | rfl | rfl | rfl
 · go_enter Tryz.func7, Tryz.ntmps7
   go_wp2_with (first
    | (go_at_call 23; refine HF.out.mono ?_; rintro e wv ⟨rfl, hv⟩; obtain rfl : w = wv := hv)
    | (go_at_call 24; refine (Repeat_tag 510 (by omega) _).mono ?_; rintro e w1 ⟨rfl, hb1⟩; have HB1 := Lib.hid hb1; clear hb1))
   have hts : (bs (repS 510)).size ≤ 10000 := by rw [size_bs, repS_len]; omega
   have HR : Hid ((loadR [⟨⟨#[97]⟩, bs (repS 510)⟩]).length = 510) := Lib.hid (by rw [limR]; rfl)
   have HFl : Hid ((loadF [⟨⟨#[97]⟩, bs (repS 510)⟩]).length = 0) := Lib.hid (by rw [limF])
   have HAt : Hid (∀ i, (h : i < (loadF [⟨⟨#[97]⟩, bs (repS 510)⟩]).length) → (loadF [⟨⟨#[97]⟩, bs (repS 510)⟩])[i] = ⟨⟨#[97]⟩, 513 + (i : Int), 170⟩) := Lib.hid fun i h => by
    rw [limF_at ⟨#[97]⟩ h, show ((512 + i : Nat) : Int) + 1 = 513 + (i : Int) by omega]
   generalize bs (repS 510) = tx at *
   have hrow := heap_alloc_new w1 (.cells #[.string ⟨#[97]⟩, .string tx] 42)
   have hbr := below_alloc w1 (.cells #[.string ⟨#[97]⟩, .string tx] 42)
   obtain ⟨W1, hW1⟩ : ∃ W1, w1.alloc (.cells #[.string ⟨#[97]⟩, .string tx] 42) = W1 := ⟨_, rfl⟩
   rw [hW1] at hrow hbr ⊢
   have HB2 := Lib.hid (bt HB1.out hbr)
   have HPl := Lib.hid (PLoad_any (some ⟨w1.heap.size, 0, none⟩) 1 [⟨⟨#[97]⟩, tx⟩] W1 (HE.out _ HB2.out) (by simp) (fun x hx => by obtain rfl := List.mem_singleton.1 hx; exact hts) (RowAt.of_cells hrow rfl rfl))
   unfold LoadPost at HPl
   generalize loadR [⟨⟨#[97]⟩, tx⟩] = RL at *
   generalize loadF [⟨⟨#[97]⟩, tx⟩] = FL at *
   clear hrow hbr hW1 hts
   refine HPl.out.mono ?_
   rintro e w4 ⟨A4, c4, A4f, c4f, rl, fl, rfl, hp, hf, hr4, hrf4, hi4, hb4⟩
   have e1 : rl.length = 510 := by have := congrArg List.length hp; rw [List.length_map] at this; rw [this]; exact HR.out
   have e2 : fl.length = 0 := by rw [hf]; exact HFl.out
   have HB4 := Lib.hid (bt HB2.out hb4)
   have HKn := Lib.hid (fun (W : World) => known_any W)
   rw [hf] at hrf4
   have HRf := Lib.hid hrf4
   rw [e1, e2]
   clear hr4 hrf4 hi4 hb4 hp hf e1 e2 HPl
   go_wp2_with (go_at_call 15; refine (HKn.out _).mono ?_; rintro e w8 ⟨rfl, hb8⟩; have HB8 := Lib.hid (bt HB4.out hb8); clear hb8)
   go_ret
   exact ⟨rfl, HB8.out⟩
 · go_enter Tryz.func7, Tryz.ntmps7
   go_wp2_with (first
    | (go_at_call 23; refine HF.out.mono ?_; rintro e wv ⟨rfl, hv⟩; obtain rfl : w = wv := hv)
    | (go_at_call 24; refine (Repeat_tag 511 (by omega) _).mono ?_; rintro e w1 ⟨rfl, hb1⟩; have HB1 := Lib.hid hb1; clear hb1))
   have hts : (bs (repS 511)).size ≤ 10000 := by rw [size_bs, repS_len]; omega
   have HR : Hid ((loadR [⟨⟨#[97]⟩, bs (repS 511)⟩]).length = 511) := Lib.hid (by rw [limR]; rfl)
   have HFl : Hid ((loadF [⟨⟨#[97]⟩, bs (repS 511)⟩]).length = 0) := Lib.hid (by rw [limF])
   have HAt : Hid (∀ i, (h : i < (loadF [⟨⟨#[97]⟩, bs (repS 511)⟩]).length) → (loadF [⟨⟨#[97]⟩, bs (repS 511)⟩])[i] = ⟨⟨#[97]⟩, 513 + (i : Int), 170⟩) := Lib.hid fun i h => by
    rw [limF_at ⟨#[97]⟩ h, show ((512 + i : Nat) : Int) + 1 = 513 + (i : Int) by omega]
   generalize bs (repS 511) = tx at *
   have hrow := heap_alloc_new w1 (.cells #[.string ⟨#[97]⟩, .string tx] 42)
   have hbr := below_alloc w1 (.cells #[.string ⟨#[97]⟩, .string tx] 42)
   obtain ⟨W1, hW1⟩ : ∃ W1, w1.alloc (.cells #[.string ⟨#[97]⟩, .string tx] 42) = W1 := ⟨_, rfl⟩
   rw [hW1] at hrow hbr ⊢
   have HB2 := Lib.hid (bt HB1.out hbr)
   have HPl := Lib.hid (PLoad_any (some ⟨w1.heap.size, 0, none⟩) 1 [⟨⟨#[97]⟩, tx⟩] W1 (HE.out _ HB2.out) (by simp) (fun x hx => by obtain rfl := List.mem_singleton.1 hx; exact hts) (RowAt.of_cells hrow rfl rfl))
   unfold LoadPost at HPl
   generalize loadR [⟨⟨#[97]⟩, tx⟩] = RL at *
   generalize loadF [⟨⟨#[97]⟩, tx⟩] = FL at *
   clear hrow hbr hW1 hts
   refine HPl.out.mono ?_
   rintro e w4 ⟨A4, c4, A4f, c4f, rl, fl, rfl, hp, hf, hr4, hrf4, hi4, hb4⟩
   have e1 : rl.length = 511 := by have := congrArg List.length hp; rw [List.length_map] at this; rw [this]; exact HR.out
   have e2 : fl.length = 0 := by rw [hf]; exact HFl.out
   have HB4 := Lib.hid (bt HB2.out hb4)
   have HKn := Lib.hid (fun (W : World) => known_any W)
   rw [hf] at hrf4
   have HRf := Lib.hid hrf4
   rw [e1, e2]
   clear hr4 hrf4 hi4 hb4 hp hf e1 e2 HPl
   go_wp2_with (go_at_call 15; refine (HKn.out _).mono ?_; rintro e w8 ⟨rfl, hb8⟩; have HB8 := Lib.hid (bt HB4.out hb8); clear hb8)
   go_ret
   exact ⟨rfl, HB8.out⟩
 · go_enter Tryz.func7, Tryz.ntmps7
   go_wp2_with (first
    | (go_at_call 23; refine HF.out.mono ?_; rintro e wv ⟨rfl, hv⟩; obtain rfl : w = wv := hv)
    | (go_at_call 24; refine (Repeat_tag 512 (by omega) _).mono ?_; rintro e w1 ⟨rfl, hb1⟩; have HB1 := Lib.hid hb1; clear hb1))
   have hts : (bs (repS 512)).size ≤ 10000 := by rw [size_bs, repS_len]; omega
   have HR : Hid ((loadR [⟨⟨#[97]⟩, bs (repS 512)⟩]).length = 512) := Lib.hid (by rw [limR]; rfl)
   have HFl : Hid ((loadF [⟨⟨#[97]⟩, bs (repS 512)⟩]).length = 0) := Lib.hid (by rw [limF])
   have HAt : Hid (∀ i, (h : i < (loadF [⟨⟨#[97]⟩, bs (repS 512)⟩]).length) → (loadF [⟨⟨#[97]⟩, bs (repS 512)⟩])[i] = ⟨⟨#[97]⟩, 513 + (i : Int), 170⟩) := Lib.hid fun i h => by
    rw [limF_at ⟨#[97]⟩ h, show ((512 + i : Nat) : Int) + 1 = 513 + (i : Int) by omega]
   generalize bs (repS 512) = tx at *
   have hrow := heap_alloc_new w1 (.cells #[.string ⟨#[97]⟩, .string tx] 42)
   have hbr := below_alloc w1 (.cells #[.string ⟨#[97]⟩, .string tx] 42)
   obtain ⟨W1, hW1⟩ : ∃ W1, w1.alloc (.cells #[.string ⟨#[97]⟩, .string tx] 42) = W1 := ⟨_, rfl⟩
   rw [hW1] at hrow hbr ⊢
   have HB2 := Lib.hid (bt HB1.out hbr)
   have HPl := Lib.hid (PLoad_any (some ⟨w1.heap.size, 0, none⟩) 1 [⟨⟨#[97]⟩, tx⟩] W1 (HE.out _ HB2.out) (by simp) (fun x hx => by obtain rfl := List.mem_singleton.1 hx; exact hts) (RowAt.of_cells hrow rfl rfl))
   unfold LoadPost at HPl
   generalize loadR [⟨⟨#[97]⟩, tx⟩] = RL at *
   generalize loadF [⟨⟨#[97]⟩, tx⟩] = FL at *
   clear hrow hbr hW1 hts
   refine HPl.out.mono ?_
   rintro e w4 ⟨A4, c4, A4f, c4f, rl, fl, rfl, hp, hf, hr4, hrf4, hi4, hb4⟩
   have e1 : rl.length = 512 := by have := congrArg List.length hp; rw [List.length_map] at this; rw [this]; exact HR.out
   have e2 : fl.length = 0 := by rw [hf]; exact HFl.out
   have HB4 := Lib.hid (bt HB2.out hb4)
   have HKn := Lib.hid (fun (W : World) => known_any W)
   rw [hf] at hrf4
   have HRf := Lib.hid hrf4
   rw [e1, e2]
   clear hr4 hrf4 hi4 hb4 hp hf e1 e2 HPl
   go_wp2_with (go_at_call 15; refine (HKn.out _).mono ?_; rintro e w8 ⟨rfl, hb8⟩; have HB8 := Lib.hid (bt HB4.out hb8); clear hb8)
   go_ret
   exact ⟨rfl, HB8.out⟩
 · go_enter Tryz.func7, Tryz.ntmps7
   go_wp2_with (first
    | (go_at_call 23; refine HF.out.mono ?_; rintro e wv ⟨rfl, hv⟩; obtain rfl : w = wv := hv)
    | (go_at_call 24; refine (Repeat_tag 513 (by omega) _).mono ?_; rintro e w1 ⟨rfl, hb1⟩; have HB1 := Lib.hid hb1; clear hb1))
   have hts : (bs (repS 513)).size ≤ 10000 := by rw [size_bs, repS_len]; omega
   have HR : Hid ((loadR [⟨⟨#[97]⟩, bs (repS 513)⟩]).length = 512) := Lib.hid (by rw [limR]; rfl)
   have HFl : Hid ((loadF [⟨⟨#[97]⟩, bs (repS 513)⟩]).length = 1) := Lib.hid (by rw [limF])
   have HAt : Hid (∀ i, (h : i < (loadF [⟨⟨#[97]⟩, bs (repS 513)⟩]).length) → (loadF [⟨⟨#[97]⟩, bs (repS 513)⟩])[i] = ⟨⟨#[97]⟩, 513 + (i : Int), 170⟩) := Lib.hid fun i h => by
    rw [limF_at ⟨#[97]⟩ h, show ((512 + i : Nat) : Int) + 1 = 513 + (i : Int) by omega]
   generalize bs (repS 513) = tx at *
   have hrow := heap_alloc_new w1 (.cells #[.string ⟨#[97]⟩, .string tx] 42)
   have hbr := below_alloc w1 (.cells #[.string ⟨#[97]⟩, .string tx] 42)
   obtain ⟨W1, hW1⟩ : ∃ W1, w1.alloc (.cells #[.string ⟨#[97]⟩, .string tx] 42) = W1 := ⟨_, rfl⟩
   rw [hW1] at hrow hbr ⊢
   have HB2 := Lib.hid (bt HB1.out hbr)
   have HPl := Lib.hid (PLoad_any (some ⟨w1.heap.size, 0, none⟩) 1 [⟨⟨#[97]⟩, tx⟩] W1 (HE.out _ HB2.out) (by simp) (fun x hx => by obtain rfl := List.mem_singleton.1 hx; exact hts) (RowAt.of_cells hrow rfl rfl))
   unfold LoadPost at HPl
   generalize loadR [⟨⟨#[97]⟩, tx⟩] = RL at *
   generalize loadF [⟨⟨#[97]⟩, tx⟩] = FL at *
   clear hrow hbr hW1 hts
   refine HPl.out.mono ?_
   rintro e w4 ⟨A4, c4, A4f, c4f, rl, fl, rfl, hp, hf, hr4, hrf4, hi4, hb4⟩
   have e1 : rl.length = 512 := by have := congrArg List.length hp; rw [List.length_map] at this; rw [this]; exact HR.out
   have e2 : fl.length = 1 := by rw [hf]; exact HFl.out
   have HB4 := Lib.hid (bt HB2.out hb4)
   have HKn := Lib.hid (fun (W : World) => known_any W)
   rw [hf] at hrf4
   have HRf := Lib.hid hrf4
   rw [e1, e2]
   clear hr4 hrf4 hi4 hb4 hp hf e1 e2 HPl
   go_wp2_with fail
   go_loopg [6] 2 (fun gk s6 wr => ∃ k : Nat, s6 = .int .i64 k ∧ k + gk = 2 ∧ k ≤ 1 ∧ Hid (Below w4.heap.size w4 wr))
   case atStart => exact ⟨0, rfl, rfl, by omega, Below.refl _ _⟩
   case round =>
    obtain ⟨k, rfl, hkg, hkN, hB⟩ := hrel
    by_cases hlt : k < 1
    · have hltI : (k : Int) < 1 := by omega
      have hk : k < FL.length := by rw [HFl.out]; exact hlt
      have hat := HAt.out k hk
      obtain ⟨ba, off, rfl, d0, d1, d2⟩ := HRf.out.three encFl_len hB.out hk _ _ _ rfl
      rw [hat] at d0 d1 d2
      dsimp only at d0 d1 d2
      clear hat hk
      go_wp2_with fail
      go_roundg (gk - 1)
      case measure => omega
      case rel => exact ⟨k + 1, by go_num, by omega, by omega, hB.out⟩
    · obtain rfl : k = 1 := by omega
      have HBw := Lib.hid (bt HB4.out hB.out)
      go_wp2_with (go_at_call 15; refine (HKn.out _).mono ?_; rintro e w8 ⟨rfl, hb8⟩; have HB8 := Lib.hid (bt HBw.out hb8); clear hb8)
      go_ret
      exact ⟨rfl, HB8.out⟩
 · go_enter Tryz.func7, Tryz.ntmps7
   go_wp2_with (first
    | (go_at_call 23; refine HF.out.mono ?_; rintro e wv ⟨rfl, hv⟩; obtain rfl : w = wv := hv)
    | (go_at_call 24; refine (Repeat_tag 514 (by omega) _).mono ?_; rintro e w1 ⟨rfl, hb1⟩; have HB1 := Lib.hid hb1; clear hb1))
   have hts : (bs (repS 514)).size ≤ 10000 := by rw [size_bs, repS_len]; omega
   have HR : Hid ((loadR [⟨⟨#[97]⟩, bs (repS 514)⟩]).length = 512) := Lib.hid (by rw [limR]; rfl)
   have HFl : Hid ((loadF [⟨⟨#[97]⟩, bs (repS 514)⟩]).length = 2) := Lib.hid (by rw [limF])
   have HAt : Hid (∀ i, (h : i < (loadF [⟨⟨#[97]⟩, bs (repS 514)⟩]).length) → (loadF [⟨⟨#[97]⟩, bs (repS 514)⟩])[i] = ⟨⟨#[97]⟩, 513 + (i : Int), 170⟩) := Lib.hid fun i h => by
    rw [limF_at ⟨#[97]⟩ h, show ((512 + i : Nat) : Int) + 1 = 513 + (i : Int) by omega]
   generalize bs (repS 514) = tx at *
   have hrow := heap_alloc_new w1 (.cells #[.string ⟨#[97]⟩, .string tx] 42)
   have hbr := below_alloc w1 (.cells #[.string ⟨#[97]⟩, .string tx] 42)
   obtain ⟨W1, hW1⟩ : ∃ W1, w1.alloc (.cells #[.string ⟨#[97]⟩, .string tx] 42) = W1 := ⟨_, rfl⟩
   rw [hW1] at hrow hbr ⊢
   have HB2 := Lib.hid (bt HB1.out hbr)
   have HPl := Lib.hid (PLoad_any (some ⟨w1.heap.size, 0, none⟩) 1 [⟨⟨#[97]⟩, tx⟩] W1 (HE.out _ HB2.out) (by simp) (fun x hx => by obtain rfl := List.mem_singleton.1 hx; exact hts) (RowAt.of_cells hrow rfl rfl))
   unfold LoadPost at HPl
   generalize loadR [⟨⟨#[97]⟩, tx⟩] = RL at *
   generalize loadF [⟨⟨#[97]⟩, tx⟩] = FL at *
   clear hrow hbr hW1 hts
   refine HPl.out.mono ?_
   rintro e w4 ⟨A4, c4, A4f, c4f, rl, fl, rfl, hp, hf, hr4, hrf4, hi4, hb4⟩
   have e1 : rl.length = 512 := by have := congrArg List.length hp; rw [List.length_map] at this; rw [this]; exact HR.out
   have e2 : fl.length = 2 := by rw [hf]; exact HFl.out
   have HB4 := Lib.hid (bt HB2.out hb4)
   have HKn := Lib.hid (fun (W : World) => known_any W)
   rw [hf] at hrf4
   have HRf := Lib.hid hrf4
   rw [e1, e2]
   clear hr4 hrf4 hi4 hb4 hp hf e1 e2 HPl
   go_wp2_with fail
   go_loopg [6] 3 (fun gk s6 wr => ∃ k : Nat, s6 = .int .i64 k ∧ k + gk = 3 ∧ k ≤ 2 ∧ Hid (Below w4.heap.size w4 wr))
   case atStart => exact ⟨0, rfl, rfl, by omega, Below.refl _ _⟩
   case round =>
    obtain ⟨k, rfl, hkg, hkN, hB⟩ := hrel
    by_cases hlt : k < 2
    · have hltI : (k : Int) < 2 := by omega
      have hk : k < FL.length := by rw [HFl.out]; exact hlt
      have hat := HAt.out k hk
      obtain ⟨ba, off, rfl, d0, d1, d2⟩ := HRf.out.three encFl_len hB.out hk _ _ _ rfl
      rw [hat] at d0 d1 d2
      dsimp only at d0 d1 d2
      clear hat hk
      go_wp2_with fail
      go_roundg (gk - 1)
      case measure => omega
      case rel => exact ⟨k + 1, by go_num, by omega, by omega, hB.out⟩
    · obtain rfl : k = 2 := by omega
      have HBw := Lib.hid (bt HB4.out hB.out)
      go_wp2_with (go_at_call 15; refine (HKn.out _).mono ?_; rintro e w8 ⟨rfl, hb8⟩; have HB8 := Lib.hid (bt HBw.out hb8); clear hb8)
      go_ret
      exact ⟨rfl, HB8.out⟩
end Go.Proofs.YtibflgfhjfcifaaGreatDoor
