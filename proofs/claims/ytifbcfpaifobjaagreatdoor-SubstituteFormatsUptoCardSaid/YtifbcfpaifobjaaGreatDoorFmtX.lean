/-
  The program's write, walked.
  The program's write at pieces that stand for something, walked.
-/
import Derived.Test.YtifbcfpaifobjaaGreatDoorFmtD
import Derived.Test.YtifbcfpaifobjaaGreatDoorFmt
namespace Go.Proofs.YtifbcfpaifobjaaGreatDoor
open Go.RowKit Go.Lib
/-- What write gives. -/
def WritePost (r : Option Str) (w : World) (e : Ending) (w' : World) : Prop :=
  (∃ s : ByteArray, e = .returned (.tuple #[.string s, .bool r.isSome]) ∧ ∀ x, r = some x → s = bs x) ∧ Below w.heap.size w w'
set_option maxRecDepth 100000 in
theorem write_text (p : Pc) (b : ByteArray) (w : World) (hE : Env w) (h : p.kind = 1) (ht : p.text.size ≤ 100000000) :
    Calls Tryz.prog 48 #[encP p, .string b] w (WritePost (some (dbl (L p.text))) w) := by
  obtain ⟨kd, tx, wd, mo⟩ := p
  unfold encP
  dsimp only at h ht ⊢
  subst h
  have hb := below_alloc w (.cells #[.int .i64 1, .string tx, .int .i64 wd, .bool mo] 64)
  have HT := Lib.hid (text_any tx _ (hE.go hb) ht)
  have HB := Lib.hid hb
  clear hb hE
  go_enter Tryz.func48, Tryz.ntmps48
  go_wp2_with (go_at_call 91; refine HT.out.mono ?_; rintro e w2 ⟨rfl, hb2⟩)
  go_ret2
  exact ⟨⟨_, rfl, fun x h => by injection h with h; rw [h]⟩, bt HB.out hb2⟩
open Go.RowKit Go.Lib
theorem bcell {W w1 : World} (hb : Below W.heap.size W w1) : (∀ b o, b < W.heap.size → w1.cell? ⟨b, o, none⟩ = W.cell? ⟨b, o, none⟩) ∧ (∀ b o, b < W.heap.size → w1.frozen? ⟨b, o, none⟩ = W.frozen? ⟨b, o, none⟩) :=
  ⟨fun b o h => hb.cell (p := ⟨b, o, none⟩) h, fun b o h => hb.frozen (p := ⟨b, o, none⟩) h⟩
theorem inside_len (p : Pc) (h : p.word ≤ 99) (ht : p.text.size ≤ 100000000) : (inBracesS p).length ≤ 100000012 := by
  have h1 : (insideS p).length ≤ 100000010 := by
    unfold insideS
    rw [List.length_append]
    have h2 : (if 0 < p.word then Lib.decDigits p.word.toNat else L p.text).length ≤ 100000000 := by
      split
      · have := (digits_at (m := p.word.toNat) (by omega)).2
        omega
      · rw [len_L]; exact ht
    have h3 : (if p.more then ([43] : Str) else []).length ≤ 1 := by split <;> simp
    omega
  unfold inBracesS
  split
  · simp
  · rw [List.length_cons, List.length_append]
    simp
    omega
def InBox (g : Nat) (lo sh : ByteArray) (b0 : Nat) (k : Nat) (W3 wx : World) : Prop :=
  wx.cell? ⟨g, 0, none⟩ = some (.string lo) ∧ wx.cell? ⟨g, 1, none⟩ = some (.string sh) ∧ wx.cell? ⟨b0, 0, none⟩ = some (.int .i64 k) ∧ Below W3.heap.size W3 wx
set_option maxRecDepth 100000 in
set_option maxHeartbeats 4000000 in
theorem write_form (p : Pc) (k : Nat) (b : ByteArray) (w : World) (hk : p.kind = k) (h2 : 2 ≤ k) (h12 : k < 12) (h99 : p.word ≤ 99) (ht : p.text.size ≤ 100000000) :
    Calls Tryz.prog 48 #[encP p, .string b] w (WritePost (writeS p (L b)) w) := by
  have HI := fun W => inBraces_any p W h99 ht
  obtain ⟨kd, tx, wd, mo⟩ := p
  unfold encP at HI ⊢
  dsimp only at hk h99 ht HI ⊢
  subst hk
  have hrow := forms_row k h12
  obtain ⟨m, hm⟩ : ∃ m, valV k = .func (.func m) #[] #[] := by
    rcases (by omega : k = 2 ∨ k = 3 ∨ k = 4 ∨ k = 5 ∨ k = 6 ∨ k = 7 ∨ k = 8 ∨ k = 9 ∨ k = 10 ∨ k = 11) with h | h | h | h | h | h | h | h | h | h <;> subst h <;> exact ⟨_, rfl⟩
  have hbv : braV k = .nilFunc ∨ ∃ n, braV k = .func (.func n) #[] #[] := by
    unfold braV fv
    split
    · exact .inr ⟨_, rfl⟩
    · exact .inr ⟨_, rfl⟩
    · exact .inl rfl
  rw [hm] at hrow
  generalize hR : writeS ⟨k, tx, wd, mo⟩ (L b) = R
  have HR := Lib.hid hR
  clear hR
  generalize hin : inBracesS ⟨k, tx, wd, mo⟩ = ib at *
  have Hin := Lib.hid hin
  clear hin
  have k1 : ((k : Int) == 1) = false := by simp; omega
  have hb0 := below_alloc w (.cells #[.int .i64 k, .string tx, .int .i64 wd, .bool mo] 64)
  have hblk0 := heap_alloc_new w (.cells #[.int .i64 k, .string tx, .int .i64 wd, .bool mo] 64)
  have HBV := Lib.hid hbv
  clear hbv hm
  have hil := inside_len ⟨k, tx, wd, mo⟩ h99 ht
  rw [Hin.out] at hil
  have hibs : (bs ib).size ≤ 100000012 := by rw [size_bs]; exact hil
  clear hil
  go_enter Tryz.func48, Tryz.ntmps48
  go_upto_region 3 with fail
  obtain ⟨W3, hW3⟩ : ∃ W3, w.alloc (.cells #[.int .i64 k, .string tx, .int .i64 wd, .bool mo] 64) = W3 := ⟨_, rfl⟩
  rw [hW3] at hb0 hblk0 ⊢
  have hPB : w.heap.size < W3.heap.size := blk_lt hblk0
  have hS : ∀ W', Below W3.heap.size W3 W' → (W'.cell? ⟨w.heap.size, 0, none⟩ = some (.int .i64 k) ∧ W'.cell? ⟨w.heap.size, 1, none⟩ = some (.string tx) ∧ W'.cell? ⟨w.heap.size, 2, none⟩ = some (.int .i64 wd) ∧ W'.cell? ⟨w.heap.size, 3, none⟩ = some (.bool mo)) ∧ Below W3.heap.size W3 W' := fun W' hb => by
    have hbk := (hb.block _ hPB).trans hblk0
    exact ⟨⟨by rw [cell_of_row _ _ 0 _ _ _ hbk]; rfl, by rw [cell_of_row _ _ 1 _ _ _ hbk]; rfl, by rw [cell_of_row _ _ 2 _ _ _ hbk]; rfl, by rw [cell_of_row _ _ 3 _ _ _ hbk]; rfl⟩, hb⟩
  have HS := Lib.hid hS
  have HB0 := Lib.hid hb0
  have hW0 : Below W3.heap.size W3 W3 := Below.refl _ _
  clear hblk0 hb0 hW3 hS
  go_cut [6, 7] (fun s6 s7 wx => ∃ g, s6 = .pointer (some ⟨g, 0, none⟩) ∧ s7 = .string (bs ib) ∧ Hid (InBox g ⟨(longN k).toArray⟩ ⟨(shortN k).toArray⟩ w.heap.size k W3 wx))
  case first =>
    rcases HBV.out with hbv | ⟨n, hbv⟩
    all_goals
      rw [hbv] at hrow
      clear hbv
      go_region_held3 (fun W' => (W'.cell? ⟨w.heap.size, 0, none⟩ = some (.int .i64 k) ∧ W'.cell? ⟨w.heap.size, 1, none⟩ = some (.string tx) ∧ W'.cell? ⟨w.heap.size, 2, none⟩ = some (.int .i64 wd) ∧ W'.cell? ⟨w.heap.size, 3, none⟩ = some (.bool mo)) ∧ Below W3.heap.size W3 W') ((refine HS.out _ ?_; repeat (first | exact Below.refl _ _ | with_reducible refine Below.drew ?_ | with_reducible refine Below.setCell ?_ (by first | exact Nat.le_refl _ | exact hz1 | exact hz2) _ | refine bt ?_ hb1 | refine bt ?_ hb2 | refine bt ?_ (below_alloc _ _)))) (first | (go_at_call 27; refine (forms_any _).mono ?_; rintro e w1 ⟨rfl, hb1⟩; obtain ⟨hc1, hf1⟩ := bcell hb1; have hz1 : W3.heap.size ≤ w1.heap.size := (by have := hb1.size; (try simp at this); omega); try (have hy1 : W3.heap.size < w1.heap.size := (by have := hb1.size; simp at this; omega))) | (go_at_call 92; refine (HI _).mono ?_; rintro e w2 ⟨rfl, hb2⟩; obtain ⟨hc2, hf2⟩ := bcell hb2; have hz2 : W3.heap.size ≤ w2.heap.size := (by have := hb2.size; (try simp at this); omega)))
      all_goals
        rename_i hHeld
        obtain ⟨⟨q0, _, _, _⟩, hbB⟩ := hHeld
        have HbB := Lib.hid hbB
        clear hbB
        go_wp2_with fail
        go_meet
        refine ⟨_, rfl, rfl, ?_⟩
        show InBox _ _ _ _ _ _ _
        exact ⟨by go_simp, by go_simp, q0, HbB.out⟩
  case rest =>
  obtain ⟨g, rfl, rfl, hq⟩ := hcut
  obtain ⟨c0, c1, q0, hbx⟩ := hq.out
  have HBx := Lib.hid (bt HB0.out hbx)
  have hlo : (⟨(longN k).toArray⟩ : ByteArray).size ≤ 10 := by
    rcases (by omega : k = 2 ∨ k = 3 ∨ k = 4 ∨ k = 5 ∨ k = 6 ∨ k = 7 ∨ k = 8 ∨ k = 9 ∨ k = 10 ∨ k = 11) with h | h | h | h | h | h | h | h | h | h <;> subst h <;> decide
  have hsh : (⟨(shortN k).toArray⟩ : ByteArray).size ≤ 10 := by
    rcases (by omega : k = 2 ∨ k = 3 ∨ k = 4 ∨ k = 5 ∨ k = 6 ∨ k = 7 ∨ k = 8 ∨ k = 9 ∨ k = 10 ∨ k = 11) with h | h | h | h | h | h | h | h | h | h <;> subst h <;> decide
  have HR2 := Lib.hid HR.out.symm
  unfold writeS at HR2
  rw [if_neg (show ¬ (k : Int) = 1 by omega)] at HR2
  dsimp only at HR2
  rw [Hin.out, Int.toNat_natCast] at HR2
  have hLo : L ⟨(longN k).toArray⟩ = longN k := L_bs _
  have hSh : L ⟨(shortN k).toArray⟩ = shortN k := L_bs _
  rw [← hLo, ← hSh] at HR2
  have HP := fun W => HasPrefix_any b ⟨#[123]⟩ W
  change ∀ W, Calls _ _ _ _ (fun e w' => e = .returned (.bool (Lib.hasPrefix (L b) [123])) ∧ W = w') at HP
  rw [prefix_one] at HP
  generalize (⟨(longN k).toArray⟩ : ByteArray) = lo at *
  generalize (⟨(shortN k).toArray⟩ : ByteArray) = sh at *
  clear hrow HBV HS hW0 hq hbx HR hLo hSh Hin HB0
  have hlong : ∀ ib : Str, (⟨#[36]⟩ : ByteArray) ++ lo ++ bs ib = bs (36 :: (L lo ++ ib)) := fun ib => L_inj (by simp [L_bs])
  have hshort : (⟨#[37]⟩ : ByteArray) ++ sh = bs (37 :: L sh) := L_inj (by simp [L_bs])
  have Hlong := Lib.hid hlong
  have Hshort := Lib.hid hshort
  have Hlong0 : Hid (⟨#[36]⟩ ++ lo ++ bs [] = bs (36 :: L lo)) := Lib.hid (by rw [hlong []]; rw [List.append_nil])
  have Hhp := Lib.hid HP
  clear hlong hshort HP
  by_cases hib : ib = []
  · subst hib
    have i1 : (bs []).toList = [] := by rw [tl, L_bs]
    have i2 : (bs []).toList.isEmpty = true := by rw [i1]; rfl
    by_cases h9 : k = 9 ∧ (L b).head? = some 123
    · obtain ⟨rfl, hh⟩ := h9
      have hR := HR2.out
      rw [if_pos ⟨rfl, rfl, hh⟩] at hR
      subst hR
      have HP := Hhp.out
      rw [show ((L b).head? == some 123) = true by rw [hh]; rfl] at HP
      clear hh HR2 Hhp
      go_wp2_with (go_at_call 42; refine (HP _).mono ?_; rintro e w' ⟨rfl, rfl⟩)
      go_ret2
      exact ⟨⟨_, rfl, fun x h => by cases h⟩, HBx.out⟩
    · have hk9 : (k = 9 ∧ ((L b).head? == some 123) = false) ∨ ((k : Int) == 9) = false := by
        by_cases h : k = 9
        · left
          refine ⟨h, ?_⟩
          cases hh : (L b).head? == some 123 with
          | false => rfl
          | true => exact absurd ⟨h, by simpa using hh⟩ h9
        · right; simp; omega
      have hR := HR2.out
      rw [if_neg (fun h => h9 ⟨by omega, h.2.2⟩)] at hR
      clear h9 HR2
      by_cases hb0 : L b = []
      · rw [hb0, if_pos (.inr rfl)] at hR
        subst hR
        have j1 : b.toList = [] := by rw [tl]; exact hb0
        have j2 : b.toList.isEmpty = true := by rw [j1]; rfl
        clear hb0
        rcases hk9 with ⟨rfl, hh⟩ | hk9
        all_goals
          have HP := Hhp.out
          try rw [hh] at HP
          clear Hhp
          try clear hh
          go_wp2_with (go_at_call 42; refine (HP _).mono ?_; rintro e w' ⟨rfl, rfl⟩)
          go_ret2
          exact ⟨⟨_, rfl, fun x h => by injection h with h; first | rw [← h, ← Hlong.out] | rw [← h, Hlong0.out]⟩, HBx.out⟩
      · obtain ⟨n1, n2⟩ := not_empty hb0
        have hbz : 0 < b.size := by
          have := List.length_pos_iff.2 hb0
          rw [len_L] at this; exact this
        have hlow : lowAt (L b) = decide (97 ≤ b[0].toNat ∧ b[0].toNat ≤ 122) := by
          have := drop_cons b 0 hbz
          rw [List.drop_zero] at this
          rw [this]; rfl
        have hbI : (0 : Int) < (b.size : Int) := by omega
        rw [hlow] at hR
        clear hlow hb0
        by_cases h97 : (b[0].toNat : Int) < 97
        · rw [if_pos (.inr (by simp; omega))] at hR
          subst hR
          rcases hk9 with ⟨rfl, hh⟩ | hk9
          all_goals
            have HP := Hhp.out
            try rw [hh] at HP
            clear Hhp
            try clear hh
            go_wp2_with (go_at_call 42; refine (HP _).mono ?_; rintro e w' ⟨rfl, rfl⟩)
            go_ret2
            exact ⟨⟨_, rfl, fun x h => by injection h with h; first | rw [← h, ← Hlong.out] | rw [← h, Hlong0.out]⟩, HBx.out⟩
        · by_cases h122 : 122 < (b[0].toNat : Int)
          · rw [if_pos (.inr (by simp; omega))] at hR
            subst hR
            rcases hk9 with ⟨rfl, hh⟩ | hk9
            all_goals
              have HP := Hhp.out
              try rw [hh] at HP
              clear Hhp
              try clear hh
              go_wp2_with (go_at_call 42; refine (HP _).mono ?_; rintro e w' ⟨rfl, rfl⟩)
              go_ret2
              exact ⟨⟨_, rfl, fun x h => by injection h with h; first | rw [← h, ← Hlong.out] | rw [← h, Hlong0.out]⟩, HBx.out⟩
          · rw [if_neg (fun h => h.elim (fun h => h rfl) (fun h => by simp at h; omega))] at hR
            by_cases hs0 : L sh = []
            · rw [if_pos hs0] at hR
              subst hR
              have j1 : sh.toList = [] := by rw [tl]; exact hs0
              have j2 : sh.toList.isEmpty = true := by rw [j1]; rfl
              clear hs0
              rcases hk9 with ⟨rfl, hh⟩ | hk9
              all_goals
                have HP := Hhp.out
                try rw [hh] at HP
                clear Hhp
                try clear hh
                go_wp2_with (go_at_call 42; refine (HP _).mono ?_; rintro e w' ⟨rfl, rfl⟩)
                go_quiet (fail)
                go_wp2
                go_ret2
                exact ⟨⟨_, rfl, fun x h => by cases h⟩, below_drewN HBx.out _⟩
            · rw [if_neg hs0] at hR
              subst hR
              obtain ⟨m1, m2⟩ := not_empty hs0
              clear hs0
              rcases hk9 with ⟨rfl, hh⟩ | hk9
              all_goals
                have HP := Hhp.out
                try rw [hh] at HP
                clear Hhp
                try clear hh
                go_wp2_with (go_at_call 42; refine (HP _).mono ?_; rintro e w' ⟨rfl, rfl⟩)
                go_quiet (fail)
                go_wp2
                go_ret2
                exact ⟨⟨_, rfl, fun x h => by injection h with h; rw [← h, ← Hshort.out]⟩, below_drewN HBx.out _⟩
  · obtain ⟨n1, n2⟩ := not_empty (s := bs ib) (by rw [L_bs]; exact hib)
    have hR := HR2.out
    rw [if_neg (fun h => hib h.2.1), if_pos (.inl hib)] at hR
    subst hR
    clear HR2 Hhp hib
    by_cases h9 : k = 9
    · subst h9
      go_wp2
      go_ret2
      exact ⟨⟨_, rfl, fun x h => by injection h with h; first | rw [← h, ← Hlong.out] | rw [← h, Hlong0.out]⟩, HBx.out⟩
    · have hk9 : ((k : Int) == 9) = false := by simp; omega
      clear h9
      go_wp2
      go_ret2
      exact ⟨⟨_, rfl, fun x h => by injection h with h; first | rw [← h, ← Hlong.out] | rw [← h, Hlong0.out]⟩, HBx.out⟩
/-- How a piece is written that a parse can give. -/
theorem write_any (p : Pc) (b : ByteArray) (w : World) (hE : Env w) (hp : properS p = true) (ht : p.text.size ≤ 100000000) :
    Calls Tryz.prog 48 #[encP p, .string b] w (WritePost (writeS p (L b)) w) := by
  by_cases h1 : p.kind = 1
  · rw [show writeS p (L b) = some (dbl (L p.text)) by rw [writeS, if_pos h1]]
    exact write_text p b w hE h1 ht
  · obtain ⟨k, hk, h2⟩ := kind_nat hp h1
    obtain ⟨h12, hf⟩ := proper_form hk h2 hp
    exact write_form p k b w hk h2 h12 (by rcases hf with ⟨_, _, h, _⟩ | ⟨_, _, h, _⟩ | ⟨_, _, m, h, _, _⟩ | ⟨_, _, _, h, _⟩ <;> omega) ht
end Go.Proofs.YtifbcfpaifobjaaGreatDoor
