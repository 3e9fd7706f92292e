/-
  The law GrammarPriorities, walked.
-/
import Derived.Test.YthcgkeiggnfgiaaGreatDoorG49
import Derived.Test.YthcgkeiggnfgiaaGreatDoorG00
namespace Go.Proofs.YthcgkeiggnfgiaaGreatDoor
open Go.RowKit
def priT (v : ByteArray) : Tm := ⟨22, ⟨#[]⟩, 3, v⟩
theorem check_pri (v : ByteArray) : checkE [priT v] = if priS (L v) = true then 0 else 103 := by
  have ht : termE (priT v) = if priS (L v) = true then 0 else 103 := by
    rw [termE, priT, if_neg (show ¬ ((22 : Int) < 1 ∨ 24 < (22 : Int)) by decide), if_neg (show ¬ namedB 22 (L ⟨#[]⟩) = false by decide), if_neg (show ¬ allowedB 22 3 = false by decide)]
    rw [rightB, if_pos rfl]
    cases priS (L v) <;> rfl
  cases hp : priS (L v)
  · rw [hp, if_neg (by decide)] at ht
    rw [checkE, if_neg (show ¬ [priT v].length = 0 by simp), if_neg (show ¬ 16 < [priT v].length by simp), if_pos (by rw [firstE, ht]; decide), firstE, ht]
    rfl
  · rw [hp, if_pos rfl] at ht
    rw [checkE, if_neg (show ¬ [priT v].length = 0 by simp), if_neg (show ¬ 16 < [priT v].length by simp), if_neg (by rw [firstE, ht]; decide)]
    rfl
theorem RowAt.of_whole {w : World} {g : Nat} {A : Array Value} {t : TypeId} {k n : Nat} {xs : List Value} (h : w.heap[g]? = some (.cells A t (0, 0))) (hA : A.toList = xs) (hl : xs.length = n * k) : RowAt w w.heap.size (some ⟨g, 0, none⟩) k n xs := by
  refine ⟨hl, fun _ => ⟨g, 0, rfl, blk_lt' h, fun j u hu => ?_⟩⟩
  rw [Nat.zero_add, cell_of_row _ _ j _ _ _ h, ← Array.getElem?_toList, hA]
  exact hu
theorem check_pri0 (v : ByteArray) : (checkE [priT v] == 0) = priS (L v) := by
  rw [check_pri]
  cases priS (L v) <;> rfl
theorem atoi_big : ∀ n ∈ List.range 2201, Lib.atoiAll (Lib.itoa ((n : Int) - 1100)) = .ok ((n : Int) - 1100) := by decide +kernel
theorem priS_itoa {m : Int} (h1 : -1100 ≤ m) (h2 : m ≤ 1100) : priS (Lib.itoa m) = (decide (-1000 ≤ m) && decide (m ≤ 1000)) := by
  have h := atoi_big (m + 1100).toNat (List.mem_range.2 (by omega))
  have e : (((m + 1100).toNat : Nat) : Int) - 1100 = m := by omega
  rw [e] at h
  rw [priS_ok h]
  simp
/-- The digits under way. -/
def DigI (m k : Nat) (d : Str) : Prop := (Lib.decDigits m = Lib.decDigits k ++ d ∧ (0 < k ∨ d = [])) ∨ (k = 0 ∧ d ≠ [] ∧ d = Lib.decDigits m)
theorem dec_step (k : Nat) (h : 10 ≤ k) : Lib.decDigits k = Lib.decDigits (k / 10) ++ [UInt8.ofNat (48 + k % 10)] := by
  rw [Lib.decDigits, dif_neg (by omega)]
theorem DigI.step {m k : Nat} {d : Str} (h : DigI m k d) (hc : 0 < k ∨ d = []) : DigI m (k / 10) (UInt8.ofNat (48 + k % 10) :: d) := by
  have h1 : Lib.decDigits m = Lib.decDigits k ++ d := by
    rcases h with ⟨h, _⟩ | ⟨h0, h1, _⟩
    · exact h
    · rcases hc with hc | hc
      · omega
      · exact absurd hc h1
  rcases Nat.lt_or_ge k 10 with h10 | h10
  · refine Or.inr ⟨by omega, by simp, ?_⟩
    rw [h1, dec_lt10 k h10, Nat.mod_eq_of_lt h10]; rfl
  · refine Or.inl ⟨?_, Or.inl (by omega)⟩
    rw [h1, dec_step k h10, List.append_assoc]; rfl
theorem DigI.done {m k : Nat} {d : Str} (h : DigI m k d) (hk : ¬ 0 < k) (hd : d ≠ []) : d = Lib.decDigits m := by
  rcases h with ⟨_, h⟩ | ⟨_, _, h⟩
  · rcases h with h | h
    · exact absurd h hk
    · exact absurd h hd
  · exact h
theorem cv_dig (W : World) (k : Nat) : (convert 35 9 (.slice (some ⟨W.heap.size, 0, none⟩) 1 1)).run Tryz.prog (W.alloc (.cells #[.int .u8 (48 + (k : Int) % 10)] 5)) = .ok (.string (bs [UInt8.ofNat (48 + k % 10)])) (W.alloc (.cells #[.int .u8 (48 + (k : Int) % 10)] 5)) :=
  run_convert_bytes_back _ _ _ _ ⟨W.heap.size, 0, none⟩ 1 [UInt8.ofNat (48 + k % 10)] Tryz.underlying35 byUnd strUnd (fun j hj => by
    obtain rfl : j = 0 := by simpa using hj
    refine cellOf (heap_alloc_new W _) ?_
    have : ((UInt8.ofNat (48 + k % 10)).toNat : Int) = 48 + (k : Int) % 10 := by
      simp only [UInt8.toNat_ofNat']
      omega
    show some (Value.int .u8 (48 + (k : Int) % 10)) = some (Value.int .u8 ((UInt8.ofNat (48 + k % 10)).toNat : Int))
    rw [this])
def PYes (w : World) (e : Ending) (w' : World) : Prop := e = .returned (.bool true) ∧ ∃ W : World, Below w.heap.size w W ∧ W = w'
set_option maxRecDepth 100000 in
set_option maxHeartbeats 4000000 in
theorem lawPri (n : Int) (s : ByteArray) (w : World) (hE : Env w) (hn1 : -9223372036854775808 ≤ n) (hn2 : n ≤ 9223372036854775807) (hs : s.size ≤ 281474976710656) :
    Calls Tryz.prog 6 #[.int .i64 n, .string s] w (PYes w) := by
  have HE := Lib.hid (fun (W : World) (hW : Below w.heap.size w W) => hE.go hW)
  have HKn := Lib.hid (fun (W : World) (hW : Below w.heap.size w W) => known10_any W (hE.go hW))
  have HPr := Lib.hid (fun (W : World) (hW : Below w.heap.size w W) => RPriority_any s W (hE.go hW) (by omega))
  have HC1 := Lib.hid (check_pri0 s)
  have HCk := Lib.hid (fun (v : ByteArray) (hv : v.size ≤ 281474976710656) (W : World) (hW : Below w.heap.size w W) (g : Nat) (hg : W.heap[g]? = some (.cells #[.int .i64 22, .string ⟨#[]⟩, .int .i64 3, .string v] 49 (0, 0))) =>
    PTCheck_any (some ⟨g, 0, none⟩) 1 [priT v] W (hE.go hW) (RowAt.of_whole hg rfl rfl) (show (1 : Nat) ≤ _ by decide) (fun t ht => by
      obtain rfl : t = priT v := by simpa using ht
      exact ⟨Nat.zero_le _, hv⟩))
  clear hE
  go_enter Tryz.func6, Tryz.ntmps6
  have HCs : Hid (∀ (W : World), Below w.heap.size w W → ∀ g, W.heap[g]? = some (.cells #[.int .i64 22, .string ⟨#[]⟩, .int .i64 3, .string s] 49 (0, 0)) → Calls Tryz.prog 28 #[.slice (some ⟨g, 0, none⟩) 1 1] W fun e w' => e = .returned (.int .i64 (checkE [priT s])) ∧ Below W.heap.size W w') := Lib.hid (fun W hW g hg => HCk.out s hs W hW g hg)
  unfold PriPost at HPr
  generalize checkE [priT s] = r at *
  generalize priS (L s) = b at *
  go_wp2_with fail
  refine (HPr.out _ (below_alloc _ _)).mono ?_
  rintro e w1 ⟨q, rfl, hb1⟩
  have HT1 := Lib.hid ((hb1.block w.heap.size (by simp)).trans (heap_alloc_new w _))
  have HB1 := Lib.hid (bt (below_alloc w _) hb1)
  clear hb1
  obtain ⟨⟨a0, a1, a2, a3⟩, f0, f1, f2, f3⟩ := res4 HT1.out
  have hw1 := HB1.out.size
  have ht1 := blk_lt' HT1.out
  go_wp2_with fail
  refine (HCs.out _ (bt HB1.out (below_alloc _ _)) w1.heap.size (heap_alloc_new w1 _)).mono ?_
  rintro e w2 ⟨rfl, hb2⟩
  have HT2 := Lib.hid ((bt (below_alloc w1 _) hb2).block w.heap.size ht1 |>.trans HT1.out)
  have HB2 := Lib.hid (bt HB1.out (bt (below_alloc w1 _) hb2))
  clear a0 a1 a2 a3 f0 f1 f2 f3 hb2 hw1 ht1
  have hrb := HC1.out
  go_wp2_with fail
  refine (Fold_any n 2201 _ hn1 hn2 (by omega)).mono ?_
  rintro e w3 ⟨rfl, rfl⟩
  have hfr := foldS_rng n 2201 (by omega)
  generalize foldS n 2201 = m0 at *
  clear hrb HCs HPr HC1
  obtain ⟨hm1, hm2⟩ := hfr
  obtain ⟨m, hm⟩ : ∃ m, m0 - 1100 = m := ⟨_, rfl⟩
  have hmr : -1100 ≤ m ∧ m ≤ 1100 := by omega
  go_wp2
  try rw [hm]
  have hmax : max m (-m) = ((m.natAbs : Nat) : Int) := by omega
  rw [hmax]
  obtain ⟨M, hM⟩ : ∃ M, m.natAbs = M := ⟨_, rfl⟩
  rw [hM]
  have HM := Lib.hid hM
  have hM1 : M ≤ 1100 := by omega
  clear hmax hM hm hm1 hm2
  go_loopg [8, 9] (M + 1) (fun gk s8 s9 wr => ∃ (k : Nat) (d : ByteArray), s8 = .string d ∧ s9 = .int .i64 k ∧ k ≤ gk ∧ (d.size = 0 → k + 1 ≤ gk) ∧ d.size + gk ≤ M + 1 ∧ Hid (DigI M k (L d)) ∧ Hid (Below w2.heap.size w2 wr))
  case atStart => exact ⟨M, ⟨#[]⟩, rfl, rfl, by omega, by omega, (show 0 + (M + 1) ≤ M + 1 by omega), Or.inl ⟨by simp [L], Or.inr rfl⟩, Below.refl _ _⟩
  case round =>
    obtain ⟨k, d, rfl, rfl, hkg, hk0, hds, hD, hB⟩ := hrel
    obtain ⟨cb, hcb⟩ : ∃ cb, bs [UInt8.ofNat (48 + k % 10)] = cb := ⟨_, rfl⟩
    have hcv := cv_dig wr k
    rw [hcb] at hcv
    have hcs : cb.size = 1 := by rw [← hcb, size_bs]; rfl
    have HCs := Lib.hid hcs
    have hcat : (9223372036854775807 < cb.size + d.size) = False := eq_false (by omega)
    have hLc : L (cb ++ d) = UInt8.ofNat (48 + k % 10) :: L d := by rw [L_append, ← hcb, L_bs]; rfl
    have HLc := Lib.hid hLc
    have hsz2 : (cb ++ d).size = 1 + d.size := by rw [ByteArray.size_append, hcs]
    have HSz := Lib.hid hsz2
    clear hcb hcs hLc hsz2
    by_cases hk : 0 < k
    · have hkI : (0 : Int) < (k : Int) := by omega
      have HD2 := Lib.hid (hD.out.step (Or.inl hk))
      go_wp2
      go_roundg (gk - 1)
      case measure => omega
      case rel => exact ⟨k / 10, cb ++ d, rfl, by go_num, by omega, by rw [HSz.out]; omega, by rw [HSz.out]; omega, by rw [HLc.out]; exact HD2.out, bt hB.out (by go_grown)⟩
    · obtain rfl : k = 0 := by omega
      by_cases hd0 : d.size = 0
      · have hu0 : d.toList = [] := by rw [tl]; exact List.eq_nil_of_length_eq_zero (by rw [len_L]; exact hd0)
        have hu1 : d.toList.isEmpty = true := by rw [hu0]; rfl
        have HD2 := Lib.hid (hD.out.step (Or.inr (List.eq_nil_of_length_eq_zero (by rw [len_L]; exact hd0))))
        have hgk := hk0 hd0
        have hcv0 : (convert 35 9 (.slice (some ⟨wr.heap.size, 0, none⟩) 1 1)).run Tryz.prog (wr.alloc (.cells #[.int .u8 48] 5)) = .ok (.string cb) (wr.alloc (.cells #[.int .u8 48] 5)) := hcv
        clear hk hd0 hk0 hcv
        go_wp2
        go_roundg (gk - 1)
        case measure => omega
        case rel => exact ⟨0, cb ++ d, rfl, by go_num, by omega, by rw [HSz.out]; omega, by rw [HSz.out]; omega, by rw [HLc.out]; exact HD2.out, bt hB.out (by go_grown)⟩
      · have hu0 : ¬ d.toList = [] := by
          rw [tl]; intro e; apply hd0; rw [← len_L, e]; rfl
        have hu1 : d.toList.isEmpty = false := by
          cases hq : d.toList.isEmpty with
          | false => rfl
          | true => exact absurd (List.isEmpty_iff.1 hq) hu0
        have HDd : Hid (L d = Lib.decDigits M) := Lib.hid (hD.out.done (by omega) (fun e => hd0 (by rw [← len_L, e]; rfl)))
        have hds2 : d.size ≤ 1200 := by omega
        clear hk hk0 hds hd0 hcv hcat HLc HSz HCs hD
        have HB4 := Lib.hid (bt HB2.out hB.out)
        have HT4 := Lib.hid ((hB.out.block w.heap.size (blk_lt' HT2.out)).trans HT2.out)
        obtain ⟨⟨a0, a1, a2, a3⟩, f0, f1, f2, f3⟩ := res4 HT4.out
        clear hB
        by_cases hneg : m < 0
        · have hL : L (⟨#[45]⟩ ++ d) = Lib.itoa m := by rw [L_append, HDd.out, Lib.itoa, if_pos hneg, HM.out]; rfl
          have hdx : (⟨#[45]⟩ ++ d : ByteArray).size ≤ 281474976710656 := by rw [ByteArray.size_append]; show 1 + d.size ≤ _; omega
          by_cases h1 : -1000 ≤ m
          · have hpx : priS (L (⟨#[45]⟩ ++ d)) = true := by
              rw [hL, priS_itoa hmr.1 hmr.2, decide_eq_true h1, decide_eq_true (show m ≤ 1000 by omega)]; rfl
            have h2 : m ≤ 1000 := by omega
            clear hL
            have HCx : Hid (∀ (W : World), Below w.heap.size w W → ∀ g, W.heap[g]? = some (.cells #[.int .i64 22, .string ⟨#[]⟩, .int .i64 3, .string (⟨#[45]⟩ ++ d)] 49 (0, 0)) → Calls Tryz.prog 28 #[.slice (some ⟨g, 0, none⟩) 1 1] W fun e w' => e = .returned (.int .i64 0) ∧ Below W.heap.size W w') := Lib.hid (fun W hW g hg => by
              have h := HCk.out ((⟨#[45]⟩ ++ d)) hdx W hW g hg
              rw [check_pri, hpx, if_pos rfl] at h
              exact h)
            clear hpx HCk
            go_wp2_with fail
            obtain ⟨W5, hW5⟩ : ∃ W5, wr.setCell ⟨w.heap.size, 3, none⟩ (.string ((⟨#[45]⟩ ++ d))) = W5 := ⟨_, rfl⟩
            have HB5 : Hid (Below w.heap.size w W5) := Lib.hid (by rw [← hW5]; exact bC HB4.out (Nat.le_refl _))
            have hs5 : W5.heap.size = wr.heap.size := by rw [← hW5]; simp [World.setCell]
            have HS5 := Lib.hid hs5
            rw [hW5]
            clear hW5 hs5 a0 a1 a2 a3 f0 f1 f2 f3
            refine (HCx.out _ (bt HB5.out (below_alloc _ _)) _ (by rw [← HS5.out]; exact heap_alloc_new _ _)).mono ?_
            rintro e w6 ⟨rfl, hb6⟩
            have HB6 := Lib.hid (bt HB5.out (bt (below_alloc _ _) hb6))
            clear hb6 HCx
            go_wp2_with (go_at_call 30; refine (HKn.out _ HB6.out).mono ?_; rintro e w7 ⟨rfl, hb7⟩)
            go_ret
            exact ⟨rfl, _, bt HB6.out hb7, rfl⟩
          · have hpx : priS (L (⟨#[45]⟩ ++ d)) = false := by
              rw [hL, priS_itoa hmr.1 hmr.2, decide_eq_false h1]; rfl
            have h2 : m < -1000 := by omega
            clear hL h1
            have HCx : Hid (∀ (W : World), Below w.heap.size w W → ∀ g, W.heap[g]? = some (.cells #[.int .i64 22, .string ⟨#[]⟩, .int .i64 3, .string (⟨#[45]⟩ ++ d)] 49 (0, 0)) → Calls Tryz.prog 28 #[.slice (some ⟨g, 0, none⟩) 1 1] W fun e w' => e = .returned (.int .i64 103) ∧ Below W.heap.size W w') := Lib.hid (fun W hW g hg => by
              have h := HCk.out ((⟨#[45]⟩ ++ d)) hdx W hW g hg
              rw [check_pri, hpx, if_neg (by decide)] at h
              exact h)
            clear hpx HCk
            go_wp2_with fail
            obtain ⟨W5, hW5⟩ : ∃ W5, wr.setCell ⟨w.heap.size, 3, none⟩ (.string ((⟨#[45]⟩ ++ d))) = W5 := ⟨_, rfl⟩
            have HB5 : Hid (Below w.heap.size w W5) := Lib.hid (by rw [← hW5]; exact bC HB4.out (Nat.le_refl _))
            have hs5 : W5.heap.size = wr.heap.size := by rw [← hW5]; simp [World.setCell]
            have HS5 := Lib.hid hs5
            rw [hW5]
            clear hW5 hs5 a0 a1 a2 a3 f0 f1 f2 f3
            refine (HCx.out _ (bt HB5.out (below_alloc _ _)) _ (by rw [← HS5.out]; exact heap_alloc_new _ _)).mono ?_
            rintro e w6 ⟨rfl, hb6⟩
            have HB6 := Lib.hid (bt HB5.out (bt (below_alloc _ _) hb6))
            clear hb6 HCx
            go_wp2_with (go_at_call 30; refine (HKn.out _ HB6.out).mono ?_; rintro e w7 ⟨rfl, hb7⟩)
            go_ret
            exact ⟨rfl, _, bt HB6.out hb7, rfl⟩
        · have hL : L d = Lib.itoa m := by rw [HDd.out, Lib.itoa, if_neg hneg, ← HM.out]; congr 1; omega
          have hdx : d.size ≤ 281474976710656 := by omega
          have hneg2 : 0 ≤ m := by omega
          have h0 : -1000 ≤ m := by omega
          by_cases h1 : m ≤ 1000
          · have hpx : priS (L d) = true := by
              rw [hL, priS_itoa hmr.1 hmr.2, decide_eq_true h1, decide_eq_true h0]; rfl
            clear hL hneg
            have HCx : Hid (∀ (W : World), Below w.heap.size w W → ∀ g, W.heap[g]? = some (.cells #[.int .i64 22, .string ⟨#[]⟩, .int .i64 3, .string d] 49 (0, 0)) → Calls Tryz.prog 28 #[.slice (some ⟨g, 0, none⟩) 1 1] W fun e w' => e = .returned (.int .i64 0) ∧ Below W.heap.size W w') := Lib.hid (fun W hW g hg => by
              have h := HCk.out (d) hdx W hW g hg
              rw [check_pri, hpx, if_pos rfl] at h
              exact h)
            clear hpx HCk
            go_wp2_with fail
            obtain ⟨W5, hW5⟩ : ∃ W5, wr.setCell ⟨w.heap.size, 3, none⟩ (.string (d)) = W5 := ⟨_, rfl⟩
            have HB5 : Hid (Below w.heap.size w W5) := Lib.hid (by rw [← hW5]; exact bC HB4.out (Nat.le_refl _))
            have hs5 : W5.heap.size = wr.heap.size := by rw [← hW5]; simp [World.setCell]
            have HS5 := Lib.hid hs5
            rw [hW5]
            clear hW5 hs5 a0 a1 a2 a3 f0 f1 f2 f3
            refine (HCx.out _ (bt HB5.out (below_alloc _ _)) _ (by rw [← HS5.out]; exact heap_alloc_new _ _)).mono ?_
            rintro e w6 ⟨rfl, hb6⟩
            have HB6 := Lib.hid (bt HB5.out (bt (below_alloc _ _) hb6))
            clear hb6 HCx
            go_wp2_with (go_at_call 30; refine (HKn.out _ HB6.out).mono ?_; rintro e w7 ⟨rfl, hb7⟩)
            go_ret
            exact ⟨rfl, _, bt HB6.out hb7, rfl⟩
          · have hpx : priS (L d) = false := by
              rw [hL, priS_itoa hmr.1 hmr.2, decide_eq_false h1, decide_eq_true h0]; rfl
            have h2 : 1000 < m := by omega
            have h3 : decide (m ≤ 1000) = false := decide_eq_false h1
            clear hL hneg h1
            have HCx : Hid (∀ (W : World), Below w.heap.size w W → ∀ g, W.heap[g]? = some (.cells #[.int .i64 22, .string ⟨#[]⟩, .int .i64 3, .string d] 49 (0, 0)) → Calls Tryz.prog 28 #[.slice (some ⟨g, 0, none⟩) 1 1] W fun e w' => e = .returned (.int .i64 103) ∧ Below W.heap.size W w') := Lib.hid (fun W hW g hg => by
              have h := HCk.out (d) hdx W hW g hg
              rw [check_pri, hpx, if_neg (by decide)] at h
              exact h)
            clear hpx HCk
            go_wp2_with fail
            obtain ⟨W5, hW5⟩ : ∃ W5, wr.setCell ⟨w.heap.size, 3, none⟩ (.string (d)) = W5 := ⟨_, rfl⟩
            have HB5 : Hid (Below w.heap.size w W5) := Lib.hid (by rw [← hW5]; exact bC HB4.out (Nat.le_refl _))
            have hs5 : W5.heap.size = wr.heap.size := by rw [← hW5]; simp [World.setCell]
            have HS5 := Lib.hid hs5
            rw [hW5]
            clear hW5 hs5 a0 a1 a2 a3 f0 f1 f2 f3
            refine (HCx.out _ (bt HB5.out (below_alloc _ _)) _ (by rw [← HS5.out]; exact heap_alloc_new _ _)).mono ?_
            rintro e w6 ⟨rfl, hb6⟩
            have HB6 := Lib.hid (bt HB5.out (bt (below_alloc _ _) hb6))
            clear hb6 HCx
            go_wp2_with (go_at_call 30; refine (HKn.out _ HB6.out).mono ?_; rintro e w7 ⟨rfl, hb7⟩)
            go_ret
            exact ⟨rfl, _, bt HB6.out hb7, rfl⟩
end Go.Proofs.YthcgkeiggnfgiaaGreatDoor
