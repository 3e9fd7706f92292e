/-
  Contract of the reference's token.
  The reference's way through the tokens of a line, and its terms, in plain words; no program in sight.
  Contract of the reference's Tokens.
  Contract of the reference's Parse of terms.
-/
import Derived.Test.YtibflgfhjfcifaaGreatDoorG30
import Derived.Deep.CutBlock
import Derived.Test.YtibflgfhjfcifaaGreatDoorG33
import Derived.Deep.Onto
namespace Go.Proofs.YtibflgfhjfcifaaGreatDoor
open Go.RowKit
def RTokPost (r : Except Int (Tk × Str)) (w : World) (e : Ending) (w' : World) : Prop := Below w.heap.size w w' ∧ match r with
 | .error n => ∃ a b c d : ByteArray, e = .returned (.tuple #[.agg #[.string a, .string b, .string c, .string d], .string ⟨#[]⟩, .int .i64 n])
 | .ok (x, t) => e = .returned (.tuple #[tkV x, .string (bs t), .int .i64 0])
theorem rtok_err {r : Except Int (Tk × Str)} {n : Int} {w w' : World} (hr : r = .error n) (a b c d : ByteArray) (hb : Below w.heap.size w w') : RTokPost r w (.returned (.tuple #[.agg #[.string a, .string b, .string c, .string d], .string ⟨#[]⟩, .int .i64 n])) w' := by
 rw [hr]; exact ⟨hb, a, b, c, d, rfl⟩
theorem cnt_ge (f : UInt8 → Bool) : ∀ (s : Str) (k : Nat), (s.take k).all f = true → k ≤ s.length → k ≤ cnt f s
 | _, 0, _, _ => Nat.zero_le _
 | [], k + 1, _, h => by simp at h
 | c :: r, k + 1, h, hk => by
   rw [List.take_succ_cons, List.all_cons, Bool.and_eq_true] at h
   have := cnt_ge f r k h.2 (by simpa using hk)
   unfold cnt at this ⊢
   rw [List.takeWhile_cons, h.1]
   simpa using this
theorem cnt_lt_iff {f : UInt8 → Bool} {s : ByteArray} {k : Nat} (h : ((L s).take k).all f = true) (hk : k ≤ s.size) : k ≤ cnt f (L s) ∧ (k < cnt f (L s) → ∃ hlt : k < s.size, f s[k] = true) ∧ (k = cnt f (L s) → k = s.size ∨ ∃ hlt : k < s.size, f s[k] = false) := by
 refine ⟨cnt_ge f _ k h (by rw [len_L]; exact hk), fun h2 => ?_, fun h2 => ?_⟩
 · rcases Nat.lt_or_ge k s.size with hlt | hge
   · refine ⟨hlt, ?_⟩
     cases hc : f s[k]
     · have := cnt_stop h hk (Or.inr ⟨hlt, hc⟩); omega
     · rfl
   · have := cnt_stop h hk (Or.inl (by omega)); omega
 · rcases Nat.lt_or_ge k s.size with hlt | hge
   · refine Or.inr ⟨hlt, ?_⟩
     cases hc : f s[k]
     · rfl
     · have := cnt_ge f (L s) (k + 1) (all_snoc h hlt hc) (by rw [len_L]; omega); omega
   · exact Or.inl (by omega)
set_option maxRecDepth 100000 in
set_option maxHeartbeats 8000000 in
theorem rtoken_any (s : ByteArray) (w : World) (hs : s.size ≤ 1000000) :
 Calls Tryz.prog 158 #[.string s] w (RTokPost (tokS (L s)) w) := by
 have hn := cnt_le upC (L s)
 rw [len_L] at hn
 have HT : Hid (tokS (L s) = if cnt upC (L s) = 0 then .error 82 else match nameS ((L s).drop (cnt upC (L s))) with
  | .error e => .error e
  | .ok (nm, r1) => match opS r1 with
    | .error e => .error e
    | .ok (op, r2) => match valS r2 with
      | .error e => .error e
      | .ok (v, r3) => .ok (⟨bs ((L s).take (cnt upC (L s))), bs nm, bs op, bs v⟩, r3)) := Lib.hid rfl
 obtain ⟨n, hne⟩ : ∃ n, cnt upC (L s) = n := ⟨_, rfl⟩
 rw [hne] at hn HT
 have HN := Lib.hid hne
 clear hne
 go_enter Tryz.func158, Tryz.ntmps158
 go_upto_block 0 with fail
 have HS0 : Hid (TkSt w ((w.alloc (tkO tkZ)).alloc (tkO tkZ)) tkZ) := Lib.hid (tk_new (Below.refl _ _))
 obtain ⟨W0, hW0⟩ : ∃ W0, (w.alloc (tkO tkZ)).alloc (tkO tkZ) = W0 := ⟨_, rfl⟩
 try unfold tkO at hW0
 rw [hW0] at HS0 ⊢
 clear hW0
 go_cut [6] from 11 to 22 (fun s6 wx => s6 = .int .i64 n ∧ W0 = wx)
 case first =>
  go_wp2_with fail
  go_loopg [6] (n + 1) (fun gk s6 wr => ∃ k : Nat, s6 = .int .i64 k ∧ k + gk = n + 1 ∧ k ≤ n ∧ W0 = wr ∧ Hid (((L s).take k).all upC = true))
  case atStart => exact ⟨0, rfl, by omega, Nat.zero_le _, rfl, rfl⟩
  case round =>
   obtain ⟨k, rfl, hkg, hkn, rfl, hall⟩ := hrel
   obtain ⟨hle, hl1, hl2⟩ := cnt_lt_iff hall.out (Nat.le_trans hkn hn)
   rw [HN.out] at hle hl1 hl2
   by_cases hlt : k < n
   · obtain ⟨hks, hc⟩ := hl1 hlt
     have hltI : (k : Int) < (s.size : Int) := by omega
     have HU := Lib.hid (fun W => upper_any s[k] W)
     have HA := Lib.hid (all_snoc hall.out hks hc)
     rw [hc] at HU
     clear hc hl1 hl2
     go_wp2_with (go_at_call 183; refine (HU.out _).mono ?_; rintro e w1 ⟨rfl, rfl⟩)
     go_roundg (gk - 1)
     case measure => omega
     case rel => exact ⟨k + 1, by go_num, by omega, by omega, rfl, HA.out⟩
   · obtain rfl : k = n := by omega
     rcases hl2 rfl with hz | ⟨hks, hc⟩
     · have hltI : ¬ (k : Int) < (s.size : Int) := by omega
       clear hl1 hl2 hz
       go_wp2
       go_meet
       exact ⟨rfl, rfl⟩
     · have hltI : (k : Int) < (s.size : Int) := by omega
       have HU := Lib.hid (fun W => upper_any s[k] W)
       rw [hc] at HU
       clear hc hl1 hl2
       go_wp2_with (go_at_call 183; refine (HU.out _).mono ?_; rintro e w1 ⟨rfl, rfl⟩)
       go_meet
       exact ⟨rfl, rfl⟩
 case rest =>
 obtain ⟨rfl, rfl⟩ := hcut
 clear HN
 obtain ⟨⟨⟨a0, a1, a2, a3⟩, q0, q1, q2, q3⟩, ⟨b0, b1, b2, b3⟩, p0, p1, p2, p3⟩ := And.intro (res4 HS0.out.1) (res4 HS0.out.2.1)
 by_cases h0 : n = 0
 · subst h0
   have HR : Hid (tokS (L s) = .error 82) := Lib.hid (by rw [HT.out, if_pos rfl])
   clear HT
   go_wp2
   refine post_cellrow3 rfl (by rfl) (by rfl) (by rfl) (tk_end HS0.out _ _ _ _) Tryz.underlying118 rfl tokSize (by rfl) ?_
   exact rtok_err HR.out _ _ _ _ (tk_low HS0.out _ _ _ _)
 have e0 : ((n : Int) == 0) = false := by simp; omega
 have HT1 : Hid (tokS (L s) = match nameS ((L s).drop n) with
  | .error e => .error e
  | .ok (nm, r1) => match opS r1 with
    | .error e => .error e
    | .ok (op, r2) => match valS r2 with
      | .error e => .error e
      | .ok (v, r3) => .ok (⟨bs ((L s).take n), bs nm, bs op, bs v⟩, r3)) := Lib.hid (by rw [HT.out, if_neg h0])
 have hnI : (n : Int) ≤ (s.size : Int) := by omega
 clear HT h0
 go_wp2
 go_region
 obtain ⟨u, hu⟩ : ∃ u : ByteArray, s.extract n s.size = u := ⟨_, rfl⟩
 have hLu : L u = (L s).drop n := by rw [← hu, nm_tail]; exact L_bs _
 have hus : u.size ≤ 1000000 := by rw [← hu, size_extract]; omega
 obtain ⟨ky, hky⟩ : ∃ ky : ByteArray, s.extract 0 n = ky := ⟨_, rfl⟩
 have hky2 : bs ((L s).take n) = ky := by rw [← hky]; exact (nm_head s n).symm
 rw [← hLu, hky2] at HT1
 have HS1 : Hid (TkSt w (W0.setCell ⟨w.heap.size + 1, 0, none⟩ (.string ky)).drew #[.string ky, .string ⟨#[]⟩, .string ⟨#[]⟩, .string ⟨#[]⟩]) := Lib.hid (tk_go (tk_set HS0.out 0 (.string ky)) (Below.refl _ _).drew)
 rw [hu, hky]
 obtain ⟨W1, hW1⟩ : ∃ W1, (W0.setCell ⟨w.heap.size + 1, 0, none⟩ (.string ky)).drew = W1 := ⟨_, rfl⟩
 rw [hW1] at HS1 ⊢
 clear hW1 HS0 hu hky hky2 hLu hn hnI e0 a0 a1 a2 a3 q0 q1 q2 q3 b0 b1 b2 b3 p0 p1 p2 p3
 obtain ⟨⟨⟨a0, a1, a2, a3⟩, q0, q1, q2, q3⟩, ⟨b0, b1, b2, b3⟩, p0, p1, p2, p3⟩ := And.intro (res4 HS1.out.1) (res4 HS1.out.2.1)
 have HP := Lib.hid (fun W => Tryz.strings_HasPrefix u ⟨#[123]⟩ W)
 rw [show (u.data.toList : Str) = L u from rfl, show ((⟨#[123]⟩ : ByteArray).data.toList : Str) = [123] from rfl] at HP
 obtain ⟨hb, hhb⟩ : ∃ hb, Lib.hasPrefix (L u) [123] = hb := ⟨_, rfl⟩
 rw [hhb] at HP
 have HHb := Lib.hid hhb
 clear hhb
 go_upto_if 34 with (go_at_call 48; refine (HP.out _).mono ?_; rintro e wq ⟨rfl, hq⟩; obtain rfl : W1 = wq := hq.symm)
 go_cut [0, 6] from 35 to 68 (fun s0 _ wx => ∃ (x2 nm : ByteArray), s0 = .string x2 ∧ x2.size ≤ 1000000 ∧ Hid (TkSt w wx #[.string ky, .string nm, .string ⟨#[]⟩, .string ⟨#[]⟩]) ∧ Hid (tokS (L s) = match opS (L x2) with
  | .error e => .error e
  | .ok (op, r2) => match valS r2 with
    | .error e => .error e
    | .ok (v, r3) => .ok (⟨ky, nm, bs op, bs v⟩, r3)))
 case first =>
  have hp := HHb.out
  cases hb
  · skip
    have HT2 : Hid (tokS (L s) = match opS (L u) with
     | .error e => .error e
     | .ok (op, r2) => match valS r2 with
       | .error e => .error e
       | .ok (v, r3) => .ok (⟨ky, ⟨#[]⟩, bs op, bs v⟩, r3)) := Lib.hid (by rw [HT1.out, nameS, hp]; rfl)
    clear hp HT1
    go_wp2
    go_meet
    exact ⟨u, ⟨#[]⟩, rfl, hus, HS1.out, HT2.out⟩
  · skip
    obtain ⟨t, ht⟩ : ∃ t : ByteArray, u.extract 1 u.size = t := ⟨_, rfl⟩
    have hLt : L t = (L u).drop 1 := by rw [← ht, nm_tail]; exact L_bs _
    have hu1 : 1 ≤ u.size := by
     have := Lib.hasPrefix_le hp
     rw [len_L] at this
     exact this
    have hts : t.size + 1 = u.size := by rw [← ht, size_extract]; omega
    have hget : ∀ k (h : k < t.size) (h' : k + 1 < u.size), t[k] = u[k + 1] := fun k h h' => by
     have e := congrArg (fun l : Str => l[k]?) hLt
     simp only [List.getElem?_drop] at e
     rw [List.getElem?_eq_getElem (by rw [len_L]; exact h), Nat.add_comm 1 k, List.getElem?_eq_getElem (by rw [len_L]; exact h')] at e
     exact Option.some.inj e
    obtain ⟨m, hm⟩ : ∃ m, cnt nmC (L t) = m := ⟨_, rfl⟩
    have hmt := cnt_le nmC (L t)
    rw [len_L, hm] at hmt
    have HM := Lib.hid hm
    have HNm : Hid (nameS (L u) = if m = t.size then .error 83 else if m = 0 ∨ ((L t).drop m).head? ≠ some 125 then .error 82 else .ok ((L t).take m, (L t).drop (m + 1))) := Lib.hid (by
     rw [nameS, if_pos hp, ← hLt]
     dsimp only
     rw [hm, len_L])
    have HGt := Lib.hid hget
    have HLt := Lib.hid hLt
    clear hp hm ht hget hLt
    go_upto_block 2 with fail
    go_cut [6] from 35 to 46 (fun s6 wx => s6 = .int .i64 ((m : Int) + 1) ∧ W1 = wx)
    case first =>
     go_wp2_with fail
     go_loopg [6] (m + 1) (fun gk s6 wr => ∃ k : Nat, s6 = .int .i64 ((k : Int) + 1) ∧ k + gk = m + 1 ∧ k ≤ m ∧ W1 = wr ∧ Hid (((L t).take k).all nmC = true))
     case atStart => exact ⟨0, rfl, by omega, Nat.zero_le _, rfl, rfl⟩
     case round =>
      obtain ⟨k, rfl, hkg, hkm, rfl, hall⟩ := hrel
      obtain ⟨hle, hl1, hl2⟩ := cnt_lt_iff hall.out (Nat.le_trans hkm hmt)
      rw [HM.out] at hle hl1 hl2
      by_cases hlt : k < m
      · obtain ⟨hks, hc⟩ := hl1 hlt
        have hk1 : k + 1 < u.size := by omega
        have hltI : (k : Int) + 1 < (u.size : Int) := by omega
        have HA := Lib.hid (all_snoc hall.out hks hc)
        rw [HGt.out k hks hk1] at hc
        have HU := Lib.hid (fun W => named8_any u[k + 1] W)
        rw [hc] at HU
        clear hc hl1 hl2
        go_wp2_with (go_at_call 184; refine (HU.out _).mono ?_; rintro e w1 ⟨rfl, rfl⟩)
        go_roundg (gk - 1)
        case measure => omega
        case rel => exact ⟨k + 1, by go_num, by omega, by omega, rfl, HA.out⟩
      · obtain rfl : k = m := by omega
        rcases hl2 rfl with hz | ⟨hks, hc⟩
        · have hltI : ¬ (k : Int) + 1 < (u.size : Int) := by omega
          clear hl1 hl2 hz
          go_wp2
          go_meet
          exact ⟨rfl, rfl⟩
        · have hk1 : k + 1 < u.size := by omega
          have hltI : (k : Int) + 1 < (u.size : Int) := by omega
          rw [HGt.out k hks hk1] at hc
          have HU := Lib.hid (fun W => named8_any u[k + 1] W)
          rw [hc] at HU
          clear hc hl1 hl2
          go_wp2_with (go_at_call 184; refine (HU.out _).mono ?_; rintro e w1 ⟨rfl, rfl⟩)
          go_meet
          exact ⟨rfl, rfl⟩
    case rest =>
    obtain ⟨rfl, rfl⟩ := hcut
    clear HM
    by_cases hmz : m = t.size
    · have HR : Hid (tokS (L s) = .error 83) := Lib.hid (by rw [HT1.out, HNm.out, if_pos hmz])
      have e1 : ((m : Int) + 1 == (u.size : Int)) = true := by simp; omega
      clear hmz HT1 HNm
      go_wp2
      refine post_cellrow3 rfl (by rfl) (by rfl) (by rfl) (tk_end HS1.out _ _ _ _) Tryz.underlying118 rfl tokSize (by rfl) ?_
      exact rtok_err HR.out _ _ _ _ (tk_low HS1.out _ _ _ _)
    have hmlt : m < t.size := by omega
    have hm1 : m + 1 < u.size := by omega
    have e1 : ((m : Int) + 1 == (u.size : Int)) = false := by simp; omega
    have hmI : (m : Int) + 1 < (u.size : Int) := by omega
    have hhd : ((L t).drop m).head? = some u[m + 1] := by rw [drop_at t hmlt, HGt.out m hmlt hm1]; rfl
    by_cases hm0 : m = 0
    · subst hm0
      have HR : Hid (tokS (L s) = .error 82) := Lib.hid (by rw [HT1.out, HNm.out, if_neg hmz, if_pos (Or.inl rfl)])
      clear hmz HT1 HNm hhd
      go_wp2
      refine post_cellrow3 rfl (by rfl) (by rfl) (by rfl) (tk_end HS1.out _ _ _ _) Tryz.underlying118 rfl tokSize (by rfl) ?_
      exact rtok_err HR.out _ _ _ _ (tk_low HS1.out _ _ _ _)
    have e2 : ((m : Int) + 1 == 1) = false := by simp; omega
    cases h125 : ((u[m + 1].toNat : Int) == 125)
    · have hne := u8_ne (n := 125) (by omega) h125
      have HR : Hid (tokS (L s) = .error 82) := Lib.hid (by rw [HT1.out, HNm.out, if_neg hmz, if_pos (Or.inr (by rw [hhd]; intro e; exact hne (Option.some.inj e)))])
      have h125n : ((u[m + 1].toNat : Int) != 125) = true := by rw [bne, h125]; rfl
      clear hmz HT1 HNm hhd hne
      go_wp2
      refine post_cellrow3 rfl (by rfl) (by rfl) (by rfl) (tk_end HS1.out _ _ _ _) Tryz.underlying118 rfl tokSize (by rfl) ?_
      exact rtok_err HR.out _ _ _ _ (tk_low HS1.out _ _ _ _)
    · have heq := u8_of (n := 125) (by omega) h125
      have h125n : ((u[m + 1].toNat : Int) != 125) = false := by rw [bne, h125]; rfl
      have HNo : Hid (nameS (L u) = .ok ((L t).take m, (L t).drop (m + 1))) := Lib.hid (by rw [HNm.out, if_neg hmz, if_neg (by rintro (h | h); exact hm0 h; rw [hhd, heq] at h; exact h rfl)])
      obtain ⟨x2, hu2⟩ : ∃ x2 : ByteArray, u.extract (m + 1 + 1) u.size = x2 := ⟨_, rfl⟩
      obtain ⟨nm, hnm⟩ : ∃ nm : ByteArray, u.extract 1 (m + 1) = nm := ⟨_, rfl⟩
      have hLu2 : L x2 = (L t).drop (m + 1) := by rw [← hu2, nm_tail, L_bs, HLt.out, List.drop_drop]; congr 1; omega
      have hLnm : bs ((L t).take m) = nm := by rw [← hnm]; exact (eq_bs (by rw [L_extract, HLt.out, List.take_drop, Nat.add_comm 1 m])).symm
      have hu2s : x2.size ≤ 1000000 := by rw [← hu2, size_extract]; omega
      have HT2 : Hid (tokS (L s) = match opS (L x2) with
       | .error e => .error e
       | .ok (op, r2) => match valS r2 with
         | .error e => .error e
         | .ok (v, r3) => .ok (⟨ky, nm, bs op, bs v⟩, r3)) := Lib.hid (by rw [HT1.out, HNo.out, ← hLu2]; dsimp only; rw [hLnm])
      have hm2 : (m : Int) + 1 + 1 ≤ (u.size : Int) := by omega
      clear hmz HT1 HNm hhd heq HNo hLu2 hLnm h125
      go_wp2
      go_region
      try rw [hu2, hnm]
      go_wp2
      go_meet
      try rw [hu2]
      exact ⟨x2, nm, rfl, hu2s, tk_go (tk_set HS1.out 1 (.string nm)) (Below.refl _ _).drew, HT2.out⟩
 case rest =>
 obtain ⟨x2, nm, rfl, hu2s, HS2, HT2⟩ := hcut
 clear HT1 HS1 HP HHb hus a0 a1 a2 a3 q0 q1 q2 q3 b0 b1 b2 b3 p0 p1 p2 p3
 rename_i wc
 go_upto_block 4 with (go_at_call 185; refine (ops8_any _).mono ?_; rintro e w1 ⟨rfl, rfl⟩)
 have hop0 := heap_alloc_new wc (.cells opsA 9)
 have HS3 := Lib.hid (tk_go HS2.out (below_alloc wc (.cells opsA 9)))
 obtain ⟨W3, hW3⟩ : ∃ W3, wc.alloc (.cells opsA 9) = W3 := ⟨_, rfl⟩
 obtain ⟨B, hB⟩ : ∃ B, wc.heap.size = B := ⟨_, rfl⟩
 have hBw : w.heap.size + 1 < B := by rw [← hB]; exact blk_lt' HS2.out.2.1
 rw [hW3] at hop0 HS3 ⊢
 rw [hB] at hop0 ⊢
 have HOp := Lib.hid hop0
 clear hop0 hW3 hB HS2
 go_cut [8] from 70 to 91 (fun _ wx => ∃ ob : ByteArray, Hid (TkSt w wx #[.string ky, .string nm, .string ob, .string ⟨#[]⟩]) ∧ (ob.toList = [] ∧ Hid (opS (L x2) = .error 82) ∨ ob.toList.isEmpty = false ∧ ob.size ≤ x2.size ∧ Hid (opS (L x2) = .ok (L ob, (L x2).drop ob.size))))
 case first =>
  go_wp2_with fail
  go_loopg [8] 8 (fun gk s8 wr => ∃ (k : Nat) (ob : ByteArray), s8 = .int .i64 k ∧ k + gk = 8 ∧ k ≤ 6 ∧ Hid (TkSt w wr #[.string ky, .string nm, .string ob, .string ⟨#[]⟩]) ∧ Hid (wr.heap[B]? = some (.cells opsA 9 (0, 0))) ∧ (ob = ⟨#[]⟩ ∧ Hid (noneB (L x2) k = true) ∨ ob.toList.isEmpty = false ∧ ob.size ≤ x2.size ∧ Hid (opS (L x2) = .ok (L ob, (L x2).drop ob.size))))
  case atStart => exact ⟨0, ⟨#[]⟩, rfl, rfl, by omega, HS3.out, HOp.out, Or.inl ⟨rfl, rfl⟩⟩
  case round =>
   obtain ⟨k, ob, rfl, hkg, hk6, hS, hO, hcase⟩ := hrel
   obtain ⟨⟨b0, b1, b2, b3⟩, p0, p1, p2, p3⟩ := res4 hS.out.2.1
   rcases hcase with ⟨rfl, hno⟩ | ⟨hem, hosz, hok⟩
   · by_cases hlt : k < 6
     · have hltI : (k : Int) < 6 := by omega
       obtain ⟨ob, ho, hl⟩ := opsA_at hlt
       have hcell : wr.cell? ⟨B, k, none⟩ = some (.string ob) := cellOf hO.out ho
       have HP := Lib.hid (fun W => Tryz.strings_HasPrefix x2 ob W)
       rw [show (x2.data.toList : Str) = L x2 from rfl, show (ob.data.toList : Str) = L ob from rfl] at HP
       cases hp : Lib.hasPrefix (L x2) (L ob)
       · have HA := Lib.hid (noneB_snoc hno.out hl hp)
         rw [hp] at HP
         clear hp ho hl
         go_wp2_with (go_at_call 48; refine (HP.out _).mono ?_; rintro e wq ⟨rfl, hq⟩; obtain rfl : wr = wq := hq.symm)
         go_roundg (gk - 1)
         case measure => omega
         case rel => exact ⟨k + 1, ⟨#[]⟩, by go_num, by omega, by omega, hS.out, hO.out, Or.inl ⟨rfl, HA.out⟩⟩
       · have hle := Lib.hasPrefix_le hp
         rw [len_L, len_L] at hle
         have hh := opS_hit hno.out hl hp
         rw [len_L] at hh
         have HH := Lib.hid hh
         have hem : ob.toList.isEmpty = false := by
          rw [tl]
          have hm := List.mem_of_getElem? hl
          simp only [opsL, List.mem_cons, List.not_mem_nil, or_false] at hm
          rcases hm with h | h | h | h | h | h <;> rw [h] <;> rfl
         rw [hp] at HP
         clear hp ho hl hh
         go_wp2_with (go_at_call 48; refine (HP.out _).mono ?_; rintro e wq ⟨rfl, hq⟩; obtain rfl : wr = wq := hq.symm)
         go_roundg (gk - 1)
         case measure => omega
         case rel => exact ⟨k + 1, ob, by go_num, by omega, by omega, tk_set hS.out 2 (.string ob), (Go.heap_setCell_other _ _ _ _ (by simp; omega)).trans hO.out, Or.inr ⟨hem, hle, HH.out⟩⟩
     · obtain rfl : k = 6 := by omega
       have HM := Lib.hid (opS_miss hno.out)
       go_wp2
       go_meet
       exact ⟨⟨#[]⟩, hS.out, Or.inl ⟨by rw [tl], HM.out⟩⟩
   · by_cases hlt : k < 6
     · have hltI : (k : Int) < 6 := by omega
       have hem2 : ¬ ob.toList = [] := by intro e; rw [e] at hem; cases hem
       go_wp2
       go_meet
       exact ⟨ob, hS.out, Or.inr ⟨hem, hosz, hok.out⟩⟩
     · obtain rfl : k = 6 := by omega
       go_wp2
       go_meet
       exact ⟨ob, hS.out, Or.inr ⟨hem, hosz, hok.out⟩⟩
 case rest =>
 obtain ⟨ob, HS4, hcase⟩ := hcut
 clear HS3 HOp hBw
 obtain ⟨⟨⟨a0, a1, a2, a3⟩, q0, q1, q2, q3⟩, ⟨b0, b1, b2, b3⟩, p0, p1, p2, p3⟩ := And.intro (res4 HS4.out.1) (res4 HS4.out.2.1)
 rcases hcase with ⟨hem, herr⟩ | ⟨hem, hosz, hok⟩
 · have HR : Hid (tokS (L s) = .error 82) := Lib.hid (by rw [HT2.out, herr.out])
   have hem1 : ob.toList.isEmpty = true := by rw [hem]; rfl
   have hos : ob.size = 0 := by
    have := congrArg List.length hem
    rw [tl, len_L] at this
    exact this
   have hosz : (ob.size : Int) ≤ (x2.size : Int) := by omega
   clear HT2 herr hos
   go_wp2
   refine post_cellrow3 rfl (by rfl) (by rfl) (by rfl) (tk_end HS4.out _ _ _ _) Tryz.underlying118 rfl tokSize (by rfl) ?_
   exact rtok_err HR.out _ _ _ _ (tk_low HS4.out _ _ _ _)
 have hem2 : ¬ ob.toList = [] := by intro e; rw [e] at hem; cases hem
 have hoszI : (ob.size : Int) ≤ (x2.size : Int) := by omega
 obtain ⟨x3, hu3⟩ : ∃ x3 : ByteArray, x2.extract ob.size x2.size = x3 := ⟨_, rfl⟩
 have hL3 : L x3 = (L x2).drop ob.size := by rw [← hu3, nm_tail]; exact L_bs _
 have hu3s : x3.size ≤ 1000000 := by rw [← hu3, size_extract]; omega
 have HT3 : Hid (tokS (L s) = match valS (L x3) with
  | .error e => .error e
  | .ok (v, r3) => .ok (⟨ky, nm, ob, bs v⟩, r3)) := Lib.hid (by rw [HT2.out, hok.out, ← hL3]; dsimp only; rw [bs_L])
 have HP := Lib.hid (fun W => Tryz.strings_HasPrefix x3 ⟨#[34]⟩ W)
 rw [show (x3.data.toList : Str) = L x3 from rfl, show ((⟨#[34]⟩ : ByteArray).data.toList : Str) = [34] from rfl] at HP
 clear HT2 hok hL3
 cases hp : Lib.hasPrefix (L x3) [34]
 · rw [hp] at HP
   have HR : Hid (tokS (L s) = .error 82) := Lib.hid (by rw [HT3.out, valS, hp]; rfl)
   clear hp HT3
   go_wp2_with (go_at_call 48; refine (HP.out _).mono ?_; rintro e wq ⟨rfl, hq⟩; obtain rfl : wc = wq := hq.symm)
   refine post_cellrow3 rfl (by rfl) (by rfl) (by rfl) (tk_end HS4.out _ _ _ _) Tryz.underlying118 rfl tokSize (by rfl) ?_
   exact rtok_err HR.out _ _ _ _ (tk_low HS4.out _ _ _ _)
 rw [hp] at HP
 have h1u : 1 ≤ x3.size := by
  have := Lib.hasPrefix_le hp
  rw [len_L] at this
  exact this
 have HV : Hid (tokS (L s) = match valF ((L x3).drop 1) [] with
  | .error e => .error e
  | .ok (v, r3) => .ok (⟨ky, nm, ob, bs v⟩, r3)) := Lib.hid (by rw [HT3.out, valS, if_pos hp])
 obtain ⟨i0, hi0, hz0, hz1, hz2⟩ := info_parts byInfo
 have Hi0 := Lib.hid hi0
 have Hz0 := Lib.hid hz0
 have Hz1 := Lib.hid hz1
 have Hz2 := Lib.hid hz2
 clear hp HT3 hi0 hz0 hz1 hz2
 go_wp2_with (go_at_call 48; refine (HP.out _).mono ?_; rintro e wq ⟨rfl, hq⟩; obtain rfl : wc = wq := hq.symm)
 try rw [hu3]
 clear a0 a1 a2 a3 q0 q1 q2 q3 b0 b1 b2 b3 p0 p1 p2 p3 HP
 go_loopg [9, 10] x3.size (fun gk s9 s10 wr => ∃ (k : Nat) (b : Str) (A : Option Addr) (c : Nat), s9 = .slice A b.length c ∧ s10 = .int .i64 k ∧ k + gk = x3.size + 1 ∧ k ≤ x3.size ∧ b.length ≤ k ∧ Hid (OutY wc b (.slice A b.length c) wr) ∧ Hid (tokS (L s) = match valF ((L x3).drop k) b with
  | .error e => .error e
  | .ok (v, r3) => .ok (⟨ky, nm, ob, bs v⟩, r3)))
 case atStart => exact ⟨1, [], none, 0, rfl, rfl, by omega, h1u, Nat.zero_le _, OutY.start _, HV.out⟩
 case round =>
  obtain ⟨k, b, A, c, rfl, rfl, hkg, hks, hbl, hO, hval⟩ := hrel
  have HS5 := Lib.hid (tk_go HS4.out hO.out.2)
  by_cases hlt : k < x3.size
  · have hltI : (k : Int) < (x3.size : Int) := by omega
    have hd := drop_at x3 hlt
    cases h34 : ((x3[k].toNat : Int) == 34)
    · cases h9 : ((x3[k].toNat : Int) == 9)
      · have HP := Lib.hid (fun W => Tryz.strings_HasPrefix (x3.extract k x3.size) ⟨#[92, 34]⟩ W)
        have e1 : (x3.extract k x3.size).data.toList = (L x3).drop k := by rw [nm_tail]; exact L_bs _
        have e2 : (⟨#[92, 34]⟩ : ByteArray).data.toList = [92, 34] := rfl
        rw [e1, e2] at HP
        have hlt' : (k : Int) ≤ (x3.size : Int) := by omega
        cases hq : Lib.hasPrefix ((L x3).drop k) [92, 34]
        · rw [hq] at HP
          have HV2 : Hid (tokS (L s) = match valF ((L x3).drop (k + 1)) (b ++ [x3[k]]) with
           | .error e => .error e
           | .ok (v, r3) => .ok (⟨ky, nm, ob, bs v⟩, r3)) := Lib.hid (by
           rw [hval.out, hd, valF_more (u8_ne (n := 34) (by omega) h34) (u8_ne (n := 9) (by omega) h9) (by rw [← hd]; exact hq)])
          clear hd e1 e2 hq
          have hwsz := hO.out.2.size
          go_wp2_with (first
           | (go_at_call 48; refine (HP.out _).mono ?_; rintro e w2 ⟨rfl, rfl⟩)
           | (at_builtin; go_loud (refine wpList_append_lies _ rfl _ _ _ (by rfl) wc.heap.size 5 i0 _ 1 1 Tryz.underlying95 Hi0.out Hz0.out Hz1.out Hz2.out rfl (by omega) (.slice A b.length c) b.length (b.map byV) (by rfl) (hO.out.1.alloc _) _ 1 1 [byV x3[k]] (by rfl) (by rfl) (by exact World.news_of_block (heap_alloc_new _ _)) (by simp [byV, Value.oneCell']) (by omega) (by unfold maxLen; omega) (by omega) (by simp; omega) _ rfl ?_; intro g2 cap w9 hown2 hgrow2 hat2 hlt2; have HO9 := Lib.hid (hO.out.snoc hown2 hgrow2); clear hown2 hgrow2 hat2 hlt2)))
          go_wp2
          go_roundg (gk - 1)
          case measure => omega
          case rel => exact ⟨k + 1, _, _, _, by rw [List.length_append]; rfl, by go_num, by omega, by omega, by simp; omega, by rw [List.length_append]; exact HO9.out, HV2.out⟩
        · rw [hq] at HP
          obtain ⟨r, hr⟩ := pre_esc hq
          have hlen : k + 2 ≤ x3.size := by
           have := congrArg List.length hr
           rw [List.length_drop, len_L, List.length_cons, List.length_cons] at this
           omega
          have hlt2 : k + 1 < x3.size := by omega
          have hd2 := drop_at x3 hlt2
          have hc1 : x3[k + 1] = 34 := by
           rw [hd] at hr
           injection hr with _ hr
           rw [hd2] at hr
           injection hr
          have HV2 : Hid (tokS (L s) = match valF ((L x3).drop (k + 2)) (b ++ [x3[k + 1]]) with
           | .error e => .error e
           | .ok (v, r3) => .ok (⟨ky, nm, ob, bs v⟩, r3)) := Lib.hid (by
           have hr2 := hr
           rw [hd] at hr2
           injection hr2 with _ hr2
           rw [hd2] at hr2
           injection hr2 with _ hr2
           rw [hval.out, hr, valF_esc, hc1, hr2])
          have hltI2 : (k : Int) + 1 < (x3.size : Int) := by omega
          clear hd hd2 hc1 hr e1 e2 hq
          have hwsz := hO.out.2.size
          go_wp2_with (first
           | (go_at_call 48; refine (HP.out _).mono ?_; rintro e w2 ⟨rfl, rfl⟩)
           | (at_builtin; go_loud (refine wpList_append_lies _ rfl _ _ _ (by rfl) wc.heap.size 5 i0 _ 1 1 Tryz.underlying95 Hi0.out Hz0.out Hz1.out Hz2.out rfl (by omega) (.slice A b.length c) b.length (b.map byV) (by rfl) (hO.out.1.alloc _) _ 1 1 [byV x3[k + 1]] (by rfl) (by rfl) (by exact World.news_of_block (heap_alloc_new _ _)) (by simp [byV, Value.oneCell']) (by omega) (by unfold maxLen; omega) (by omega) (by simp; omega) _ rfl ?_; intro g2 cap w9 hown2 hgrow2 hat2 hlt2; have HO9 := Lib.hid (hO.out.snoc hown2 hgrow2); clear hown2 hgrow2 hat2 hlt2)))
          go_wp2
          go_roundg (gk - 2)
          case measure => omega
          case rel => exact ⟨k + 2, _, _, _, by rw [List.length_append]; rfl, by go_num, by omega, by omega, by simp; omega, by rw [List.length_append]; exact HO9.out, HV2.out⟩
      · have HR : Hid (tokS (L s) = .error 82) := Lib.hid (by rw [hval.out, hd, u8_of (n := 9) (by omega) h9]; exact (by rw [show (UInt8.ofNat 9 : UInt8) = 9 from rfl, valF_tab]))
        obtain ⟨⟨⟨a0, a1, a2, a3⟩, q0, q1, q2, q3⟩, ⟨b0, b1, b2, b3⟩, p0, p1, p2, p3⟩ := And.intro (res4 HS5.out.1) (res4 HS5.out.2.1)
        clear hd hval
        go_wp2
        refine post_cellrow3 rfl (by rfl) (by rfl) (by rfl) (tk_end HS5.out _ _ _ _) Tryz.underlying118 rfl tokSize (by rfl) ?_
        exact rtok_err HR.out _ _ _ _ (tk_low HS5.out _ _ _ _)
    · obtain ⟨x4, hu4⟩ : ∃ x4 : ByteArray, x3.extract (k + 1) x3.size = x4 := ⟨_, rfl⟩
      have HR : Hid (tokS (L s) = .ok (⟨ky, nm, ob, bs b⟩, L x4)) := Lib.hid (by
       rw [hval.out, hd, u8_of (n := 34) (by omega) h34, show (UInt8.ofNat 34 : UInt8) = 34 from rfl, valF_quote]
       dsimp only
       rw [← hu4, nm_tail, L_bs])
      have hcv := hO.out.conv
      have hk1 : (k : Int) + 1 ≤ (x3.size : Int) := by omega
      obtain ⟨bv, hbv⟩ : ∃ bv, bs b = bv := ⟨_, rfl⟩
      rw [hbv] at hcv HR
      obtain ⟨⟨⟨a0, a1, a2, a3⟩, q0, q1, q2, q3⟩, ⟨b0, b1, b2, b3⟩, p0, p1, p2, p3⟩ := And.intro (res4 HS5.out.1) (res4 HS5.out.2.1)
      clear hd hval hbv
      go_upto_region 32 with fail
      have HS6 : Hid (TkSt w (wr.setCell ⟨w.heap.size + 1, 3, none⟩ (.string bv)) #[.string ky, .string nm, .string ob, .string bv]) := Lib.hid (tk_set HS5.out 3 (.string bv))
      obtain ⟨W6, hW6⟩ : ∃ W6, wr.setCell ⟨w.heap.size + 1, 3, none⟩ (.string bv) = W6 := ⟨_, rfl⟩
      rw [hW6] at HS6 ⊢
      clear hW6 a0 a1 a2 a3 q0 q1 q2 q3 b0 b1 b2 b3 p0 p1 p2 p3
      obtain ⟨⟨⟨a0, a1, a2, a3⟩, q0, q1, q2, q3⟩, ⟨b0, b1, b2, b3⟩, p0, p1, p2, p3⟩ := And.intro (res4 HS6.out.1) (res4 HS6.out.2.1)
      go_region
      try rw [hu4]
      go_wp2
      refine post_cellrow3 (cs := #[.string ky, .string nm, .string ob, .string bv]) rfl (by rfl) (by rfl) (by rfl) (by exact tk_end HS6.out _ _ _ _) Tryz.underlying118 rfl tokSize (by rfl) ?_
      rw [HR.out]
      exact ⟨(tk_low HS6.out _ _ _ _).drew, by show _ = Ending.returned (.tuple #[tkV ⟨ky, nm, ob, bv⟩, .string (bs (L x4)), .int .i64 0]); rw [bs_L]; rfl⟩
  · obtain rfl : k = x3.size := by omega
    have HR : Hid (tokS (L s) = .error 83) := Lib.hid (by
     rw [hval.out, List.drop_of_length_le (by rw [len_L]; exact Nat.le_refl _), valF_end])
    obtain ⟨⟨⟨a0, a1, a2, a3⟩, q0, q1, q2, q3⟩, ⟨b0, b1, b2, b3⟩, p0, p1, p2, p3⟩ := And.intro (res4 HS5.out.1) (res4 HS5.out.2.1)
    clear hval
    go_wp2
    refine post_cellrow3 rfl (by rfl) (by rfl) (by rfl) (tk_end HS5.out _ _ _ _) Tryz.underlying118 rfl tokSize (by rfl) ?_
    exact rtok_err HR.out _ _ _ _ (tk_low HS5.out _ _ _ _)
end Go.Proofs.YtibflgfhjfcifaaGreatDoor
namespace Go.Proofs.YtibflgfhjfcifaaGreatDoor
open Go.RowKit
def rtokF : Nat → Str → List Tk → Except Int (List Tk)
 | 0, _, _ => .error 82
 | n + 1, s, acc =>
   if s.length = 0 then .ok acc else match tokS s with
    | .error e => .error e
    | .ok (x, r) => if r.length ≠ 0 ∧ (restS r).length = r.length then .error 82 else rtokF n (restS r) (acc ++ [x])
theorem restS_same {r : Str} (h : (restS r).length = r.length) : restS r = r := (List.dropWhile_sublist _).eq_of_length h
theorem rtokF_eq (n : Nat) : ∀ (line : Str) (beh : Bool) (acc : List Tk), line.length < n → toksF n line beh acc = if beh = true ∧ line.length ≠ 0 ∧ (restS line).length = line.length then .error 82 else rtokF n (restS line) acc := by
 induction n with
 | zero => intro line beh acc h; omega
 | succ n ih =>
   intro line beh acc hl
   rw [toksF]
   have hr := restS_len line
   by_cases h0 : (restS line).length = 0
   · rw [if_pos h0, if_neg (by rintro ⟨_, h1, h2⟩; omega), rtokF, if_pos h0]
   · rw [if_neg h0]
     by_cases hb : beh = true ∧ (restS line).length = line.length
     · rw [if_pos hb, if_pos ⟨hb.1, by omega, hb.2⟩]
     · rw [if_neg hb, if_neg (by rintro ⟨h1, _, h2⟩; exact hb ⟨h1, h2⟩), rtokF, if_neg h0]
       cases hk : tokS (restS line) with
       | error e => rfl
       | ok p =>
         obtain ⟨x, r⟩ := p
         dsimp only
         have := tokS_len hk
         rw [ih r true _ (by omega)]
         by_cases hc : r.length ≠ 0 ∧ (restS r).length = r.length
         · rw [if_pos ⟨rfl, hc.1, hc.2⟩, if_pos hc]
         · rw [if_neg (by rintro ⟨_, h1, h2⟩; exact hc ⟨h1, h2⟩), if_neg hc]
theorem toksS_ref {line : Str} (h1 : line.length ≤ 1024) (h2 : line.all plC = true) : toksS line = rtokF (line.length + 1) (restS line) [] := by
 rw [toksS, if_neg (by omega), if_neg (by rw [h2]; simp), rtokF_eq _ _ _ _ (by omega), if_neg (by rintro ⟨h, _⟩; cases h)]
def tmR (x : Tk) : Tm := ⟨max 0 (Lib.idxOfS keysB x.key), x.name, max 0 (Lib.idxOfS opsW x.op), x.value⟩
theorem op_found : ∀ o ∈ opsL, 0 ≤ Lib.idxOfS opsW (bs o) := by decide +kernel
theorem tmR_or {x : Tk} (h : goodB x = true) : tmR x = tmOf x ∨ termE (tmR x) = 100 ∧ termE (tmOf x) = 100 := by
 have ho := op_found _ (goodB_parts h).2.2.2.1
 rw [bs_L] at ho
 by_cases hk : 0 ≤ Lib.idxOfS keysB x.key
 · left
   show (⟨max 0 (Lib.idxOfS keysB x.key), x.name, max 0 (Lib.idxOfS opsW x.op), x.value⟩ : Tm) = ⟨Lib.idxOfS keysB x.key, x.name, Lib.idxOfS opsW x.op, x.value⟩
   rw [Int.max_eq_right hk, Int.max_eq_right ho]
 · right
   have e1 : (tmR x).key = 0 := by show max 0 (Lib.idxOfS keysB x.key) = 0; omega
   have e2 : (tmOf x).key < 1 := by show Lib.idxOfS keysB x.key < 1; omega
   exact ⟨by rw [termE, if_pos (Or.inl (by omega))], by rw [termE, if_pos (Or.inl e2)]⟩
theorem firstE_R : ∀ {l : List Tk}, l.all goodB = true → firstE (l.map tmR) = firstE (l.map tmOf) ∧ (firstE (l.map tmOf) = 0 → l.map tmR = l.map tmOf)
 | [], _ => ⟨rfl, fun _ => rfl⟩
 | x :: r, h => by
   rw [List.all_cons, Bool.and_eq_true] at h
   obtain ⟨i1, i2⟩ := firstE_R h.2
   rw [List.map_cons, List.map_cons, firstE, firstE]
   rcases tmR_or h.1 with e | ⟨e1, e2⟩
   · rw [e, i1]
     refine ⟨rfl, fun h0 => ?_⟩
     by_cases ht : termE (tmOf x) = 0
     · rw [if_pos ht] at h0; rw [i2 h0]
     · rw [if_neg ht] at h0; exact absurd h0 ht
   · rw [e1, e2]
     exact ⟨rfl, fun h0 => absurd h0 (by rw [if_neg (by decide)]; decide)⟩
theorem checkE_R {l : List Tk} (h : l.all goodB = true) : checkE (l.map tmR) = checkE (l.map tmOf) ∧ (checkE (l.map tmOf) = 0 → l.map tmR = l.map tmOf) := by
 obtain ⟨h1, h2⟩ := firstE_R h
 by_cases hf : firstE (l.map tmOf) = 0
 · rw [h2 hf]; exact ⟨rfl, fun _ => rfl⟩
 · refine ⟨?_, fun h0 => ?_⟩
   · unfold checkE
     rw [List.length_map, List.length_map, h1, if_pos hf, if_pos hf]
   · have := (checkE_ok h0).2.2
     exfalso
     apply hf
     have hz : ∀ m : List Tm, (∀ t ∈ m, termE t = 0) → firstE m = 0 := by
      intro m
      induction m with
      | nil => intro _; rfl
      | cons t r ih => intro hm; rw [firstE, if_pos (hm t (by simp))]; exact ih (fun y hy => hm y (by simp [hy]))
     exact hz _ this
def rIdx (l : List ByteArray) (x : ByteArray) : Nat → Int
 | 0 => 0
 | k + 1 => if k ≠ 0 ∧ L (l.getD k ⟨#[]⟩) = L x then k else rIdx l x k
theorem rIdx_miss {l : List ByteArray} {x : ByteArray} (h : ∀ k, k < l.length → l.getD k ⟨#[]⟩ ≠ x) : ∀ n, n ≤ l.length → rIdx l x n = 0
 | 0, _ => rfl
 | n + 1, hn => by
   rw [rIdx, if_neg, rIdx_miss h n (by omega)]
   rintro ⟨_, e⟩
   exact h n (by omega) (by rw [← bs_L (l.getD n ⟨#[]⟩), e, bs_L])
theorem keys_idx : ∀ x ∈ keysB, rIdx keysB x 25 = max 0 (Lib.idxOfS keysB x) := by decide +kernel
theorem ops_idx : ∀ x ∈ opsW, rIdx opsW x 7 = max 0 (Lib.idxOfS opsW x) := by decide +kernel
theorem idx_none {zs : List ByteArray} {x : ByteArray} (h : x ∉ zs) : ∀ i, Lib.idxFromS zs x i = -1 := by
 induction zs with
 | nil => intro i; rfl
 | cons z r ih =>
   intro i
   rw [Lib.idxFromS]
   have hz : ¬ z = x := fun e => h (by rw [e]; simp)
   simp only [hz, if_false]
   exact ih (fun hx => h (by simp [hx])) _
theorem rIdx_keys (x : ByteArray) : rIdx keysB x 25 = max 0 (Lib.idxOfS keysB x) := by
 by_cases h : x ∈ keysB
 · exact keys_idx x h
 · rw [Lib.idxOfS, idx_none h, rIdx_miss (fun k hk e => h (by rw [← e, List.getD, List.getElem?_eq_getElem hk]; exact List.getElem_mem _)) 25 (by decide)]
   rfl
theorem rIdx_ops (x : ByteArray) : rIdx opsW x 7 = max 0 (Lib.idxOfS opsW x) := by
 by_cases h : x ∈ opsW
 · exact ops_idx x h
 · rw [Lib.idxOfS, idx_none h, rIdx_miss (fun k hk e => h (by rw [← e, List.getD, List.getElem?_eq_getElem hk]; exact List.getElem_mem _)) 7 (by decide)]
   rfl
end Go.Proofs.YtibflgfhjfcifaaGreatDoor
namespace Go.Proofs.YtibflgfhjfcifaaGreatDoor
open Go.RowKit
set_option maxRecDepth 100000 in
set_option maxHeartbeats 8000000 in
theorem RTokens_any (s : ByteArray) (w : World) (hs : s.size ≤ 9223372036854775807) :
 Calls Tryz.prog 107 #[.string s] w (TokPost (toksS (L s)) w) := by
 by_cases h1 : 1024 < s.size
 · have HR : Hid (toksS (L s) = .error 81) := Lib.hid (by rw [toksS, if_pos (by rw [len_L]; exact h1)])
   have h1I : (1024 : Int) < (s.size : Int) := by omega
   clear h1
   go_enter Tryz.func107, Tryz.ntmps107
   go_wp2
   go_ret2
   rw [HR.out]
   exact ⟨rfl, Below.refl _ _⟩
 have h1I : (s.size : Int) ≤ 1024 := by omega
 have hsz : s.size ≤ 1024 := by omega
 have HT0 : Hid ((L s).all plC = false → toksS (L s) = .error 80) := Lib.hid (fun h => by rw [toksS, if_neg (by rw [len_L]; exact h1), if_pos h])
 have HT1 : Hid ((L s).all plC = true → toksS (L s) = rtokF (s.size + 1) (restS (L s)) []) := Lib.hid (fun h => by rw [toksS_ref (by rw [len_L]; omega) h, len_L])
 obtain ⟨i0, hi0, hz0, hz1, hz2⟩ := info_parts tokInfo
 have Hi0 := Lib.hid hi0
 have Hz0 := Lib.hid hz0
 have Hz1 := Lib.hid hz1
 have Hz2 := Lib.hid hz2
 clear h1 hi0 hz0 hz1 hz2
 go_enter Tryz.func107, Tryz.ntmps107
 go_wp2
 go_loopg [4] (s.size + 1) (fun gk s4 wr => ∃ k : Nat, s4 = .int .i64 k ∧ k + gk = s.size + 1 ∧ k ≤ s.size ∧ w = wr ∧ Hid (((L s).take k).all plC = true))
 case atStart => exact ⟨0, rfl, by omega, Nat.zero_le _, rfl, rfl⟩
 case round =>
  obtain ⟨k, rfl, hkg, hks, rfl, hall⟩ := hrel
  by_cases hlt : k < s.size
  · have hltI : (k : Int) < (s.size : Int) := by omega
    have hpl := plC_eq s[k]
    cases h9 : ((s[k].toNat : Int) == 9)
    · have h9n : ((s[k].toNat : Int) != 9) = true := by rw [bne, h9]; rfl
      rw [h9, Bool.false_or] at hpl
      by_cases h32 : (s[k].toNat : Int) < 32
      · have HR := Lib.hid (HT0.out (all_no hlt (by rw [hpl]; simp; omega)))
        clear hpl
        go_wp2
        go_ret2
        rw [HR.out]
        exact ⟨rfl, Below.refl _ _⟩
      · have h32 : 32 ≤ (s[k].toNat : Int) := by omega
        by_cases h126 : 126 < (s[k].toNat : Int)
        · have HR := Lib.hid (HT0.out (all_no hlt (by rw [hpl]; simp; omega)))
          clear hpl
          go_wp2
          go_ret2
          rw [HR.out]
          exact ⟨rfl, Below.refl _ _⟩
        · have h126 : (s[k].toNat : Int) ≤ 126 := by omega
          have HA := Lib.hid (all_snoc hall.out hlt (by rw [hpl]; simp; omega))
          clear hpl
          go_wp2
          go_roundg (gk - 1)
          case measure => omega
          case rel => exact ⟨k + 1, by go_num, by omega, by omega, rfl, HA.out⟩
    · have h9n : ((s[k].toNat : Int) != 9) = false := by rw [bne, h9]; rfl
      rw [h9, Bool.true_or] at hpl
      have HA := Lib.hid (all_snoc hall.out hlt hpl)
      clear hpl
      go_wp2
      go_roundg (gk - 1)
      case measure => omega
      case rel => exact ⟨k + 1, by go_num, by omega, by omega, rfl, HA.out⟩
  · obtain rfl : k = s.size := by omega
    have HT := Lib.hid (HT1.out (by have := hall.out; rw [take_all s _ (by omega)] at this; exact this))
    have HTr := Lib.hid (fun W => TrimSep s W)
    have hrl := restS_len (L s)
    rw [len_L] at hrl
    obtain ⟨x0, hx0⟩ : ∃ x0, bs (restS (L s)) = x0 := ⟨_, rfl⟩
    have hx0s : x0.size = (restS (L s)).length := by rw [← hx0, size_bs]
    have HL0 : Hid (L x0 = restS (L s)) := Lib.hid (by rw [← hx0, L_bs])
    rw [hx0] at HTr
    have HT2 : Hid (toksS (L s) = rtokF (s.size + 1) (L x0) []) := Lib.hid (by rw [HT.out, HL0.out])
    clear hx0 HT HL0 hall HT0 HT1
    go_wp2_with (go_at_call 88; refine (HTr.out _).mono ?_; rintro e w1 ⟨rfl, hb1⟩)
    have HB1 := Lib.hid hb1
    clear hb1 HTr
    go_loopg [5, 6] (s.size + 1) (fun gk s5 s6 wr => ∃ (cur : ByteArray) (acc : List Tk) (A : Option Addr) (c : Nat), s6 = .string cur ∧ s5 = .slice A acc.length c ∧ cur.size < gk ∧ acc.length + cur.size ≤ 1024 ∧ Hid (OutK w acc (.slice A acc.length c) wr) ∧ Hid (toksS (L s) = rtokF gk (L cur) acc))
    case atStart => exact ⟨x0, [], none, 0, rfl, rfl, by omega, by simp; omega, (OutK.start w).go HB1.out, HT2.out⟩
    case round =>
     obtain ⟨cur, acc, A, c, rfl, rfl, hgk, hacc, hO, hT⟩ := hrel
     obtain ⟨m, rfl⟩ : ∃ m, gk = m + 1 := ⟨gk - 1, by omega⟩
     have HX : Hid (toksS (L s) = if cur.size = 0 then .ok acc else match tokS (L cur) with
      | .error e => .error e
      | .ok (x, r) => if r.length ≠ 0 ∧ (restS r).length = r.length then .error 82 else rtokF m (restS r) (acc ++ [x])) := Lib.hid (by rw [hT.out, rtokF, len_L]; try rfl)
     clear hT
     by_cases h0 : cur.size = 0
     · have hu0 : cur.toList = [] := by rw [tl]; exact List.eq_nil_of_length_eq_zero (by rw [len_L]; exact h0)
       have hu1 : cur.toList.isEmpty = true := by rw [hu0]; rfl
       have HR : Hid (toksS (L s) = .ok acc) := Lib.hid (by rw [HX.out, if_pos h0])
       clear HX h0
       go_wp2
       go_ret2
       rw [HR.out]
       exact ⟨_, rfl, hO.out⟩
     have hu0 : ¬ cur.toList = [] := by
      rw [tl]; intro e; apply h0; rw [← len_L, e]; rfl
     have hu1 : cur.toList.isEmpty = false := by
      cases hq : cur.toList.isEmpty with
      | false => rfl
      | true => exact absurd (List.isEmpty_iff.1 hq) hu0
     have HX2 : Hid (toksS (L s) = match tokS (L cur) with
      | .error e => .error e
      | .ok (x, r) => if r.length ≠ 0 ∧ (restS r).length = r.length then .error 82 else rtokF m (restS r) (acc ++ [x])) := Lib.hid (by rw [HX.out, if_neg h0])
     have HTk := Lib.hid (fun W => rtoken_any cur W (by omega))
     clear HX h0
     cases hk : tokS (L cur) with
     | error e =>
       have HR : Hid (toksS (L s) = .error e) := Lib.hid (by rw [HX2.out, hk])
       have hne : (e == 0) = false := by rcases tokS_err hk with rfl | rfl <;> rfl
       have hne2 : (e != 0) = true := by rw [bne, hne]; rfl
       rw [hk] at HTk
       unfold RTokPost at HTk
       dsimp only at HTk
       clear hk HX2
       go_wp2_with (go_at_call 158; refine (HTk.out _).mono ?_; rintro e w3 ⟨hb3, t0, t1, t2, t3, rfl⟩)
       go_ret2
       rw [HR.out]
       exact ⟨rfl, bt (hO.out.go hb3).2 (below_alloc _ _)⟩
     | ok p =>
       obtain ⟨⟨xk, xn, xo, xv⟩, r⟩ := p
       have hrl2 : r.length < cur.size := by have := tokS_len hk; rwa [len_L] at this
       have HX3 : Hid (toksS (L s) = if r.length ≠ 0 ∧ (restS r).length = r.length then .error 82 else rtokF m (restS r) (acc ++ [⟨xk, xn, xo, xv⟩])) := Lib.hid (by rw [HX2.out, hk])
       rw [hk] at HTk
       unfold RTokPost tkV at HTk
       dsimp only at HTk
       have hrs : (bs r).size = r.length := size_bs r
       have hrr := restS_len r
       have HTr2 := Lib.hid (fun W => TrimSep (bs r) W)
       rw [L_bs] at HTr2
       clear hk HX2
       by_cases hc : r.length ≠ 0 ∧ (restS r).length = r.length
       · have HR : Hid (toksS (L s) = .error 82) := Lib.hid (by rw [HX3.out, if_pos hc])
         rw [restS_same hc.2] at HTr2
         have hq0 : ¬ (bs r).toList = [] := by rw [tl, L_bs]; intro e; exact hc.1 (by rw [e]; rfl)
         have hq1 : (bs r).toList.isEmpty = false := by
          cases hq : (bs r).toList.isEmpty with
          | false => rfl
          | true => exact absurd (List.isEmpty_iff.1 hq) hq0
         generalize bs r = rb at *
         clear hc HX3
         go_wp2_with (first
          | (go_at_call 158; refine (HTk.out _).mono ?_; rintro e w3 ⟨hb3, rfl⟩; have HO3 := Lib.hid ((hO.out.go hb3).go (below_alloc w3 (.cells #[.string xk, .string xn, .string xo, .string xv] 118))); have hwz := (hO.out.go hb3).2.size; clear hb3)
          | (go_at_call 88; refine (HTr2.out _).mono ?_; rintro e w5 ⟨rfl, hb5⟩)
          | (at_builtin; go_loud (refine wpList_append_lies _ rfl _ _ _ (by rfl) w.heap.size 118 i0 _ 4 64 Tryz.underlying109 Hi0.out Hz0.out Hz1.out Hz2.out rfl (by omega) (.slice A acc.length c) acc.length (cellsOf encTk acc) (by rfl) (HO3.out.1.alloc _) _ 1 1 (encTk ⟨xk, xn, xo, xv⟩) (by rfl) (by rfl) (by exact World.news_of_block (heap_alloc2_new w3 _ _)) (encTk_one _) (by omega) (by unfold maxLen; omega) (by omega) (by simp; omega) _ rfl ?_; intro g2 cap w9 hown2 hgrow2 hat2 hlt2; have HO9 := Lib.hid (HO3.out.snoc hown2 hgrow2); clear hown2 hgrow2 hat2 hlt2)))
         go_ret2
         rw [HR.out]
         exact ⟨rfl, (HO9.out.go hb5).2⟩
       · have HX4 : Hid (toksS (L s) = rtokF m (L (bs (restS r))) (acc ++ [⟨xk, xn, xo, xv⟩])) := Lib.hid (by rw [HX3.out, if_neg hc, L_bs])
         have hcs : (bs (restS r)).size = (restS r).length := size_bs _
         have hcase : ((bs r).toList = [] ∧ (bs r).toList.isEmpty = true) ∨ (¬ (bs r).toList = [] ∧ (bs r).toList.isEmpty = false ∧ ((bs (restS r)).toList == (bs r).toList) = false ∧ ¬ bs (restS r) = bs r) := by
          rcases Nat.eq_zero_or_pos r.length with h0 | h0
          · have : r = [] := List.eq_nil_of_length_eq_zero h0
            subst this
            exact Or.inl ⟨by rw [tl, L_bs], by rw [tl, L_bs]; rfl⟩
          · have h2 : ¬ restS r = r := fun e => hc ⟨by omega, by rw [e]⟩
            have h3 : ¬ r = [] := by rintro rfl; simp at h0
            refine Or.inr ⟨by rw [tl, L_bs]; exact h3, ?_, ?_, ?_⟩
            · rw [tl, L_bs]; cases r with
              | nil => exact absurd rfl h3
              | cons _ _ => rfl
            · rw [tl, tl, L_bs, L_bs]; simpa using h2
            · intro e; exact h2 (by have := congrArg L e; rwa [L_bs, L_bs] at this)
         generalize bs r = rb at *
         generalize bs (restS r) = rc at *
         clear hc HX3
         rcases hcase with ⟨hq0, hq1⟩ | ⟨hq0, hq1, hq2, hq3⟩
         all_goals
          go_wp2_with (first
           | (go_at_call 158; refine (HTk.out _).mono ?_; rintro e w3 ⟨hb3, rfl⟩; have HO3 := Lib.hid ((hO.out.go hb3).go (below_alloc w3 (.cells #[.string xk, .string xn, .string xo, .string xv] 118))); have hwz := (hO.out.go hb3).2.size; clear hb3)
           | (go_at_call 88; refine (HTr2.out _).mono ?_; rintro e w5 ⟨rfl, hb5⟩)
           | (at_builtin; go_loud (refine wpList_append_lies _ rfl _ _ _ (by rfl) w.heap.size 118 i0 _ 4 64 Tryz.underlying109 Hi0.out Hz0.out Hz1.out Hz2.out rfl (by omega) (.slice A acc.length c) acc.length (cellsOf encTk acc) (by rfl) (HO3.out.1.alloc _) _ 1 1 (encTk ⟨xk, xn, xo, xv⟩) (by rfl) (by rfl) (by exact World.news_of_block (heap_alloc2_new w3 _ _)) (encTk_one _) (by omega) (by unfold maxLen; omega) (by omega) (by simp; omega) _ rfl ?_; intro g2 cap w9 hown2 hgrow2 hat2 hlt2; have HO9 := Lib.hid (HO3.out.snoc hown2 hgrow2); clear hown2 hgrow2 hat2 hlt2)))
          go_roundg m
          case measure => omega
          case rel => exact ⟨rc, acc ++ [(⟨xk, xn, xo, xv⟩ : Tk)], _, _, rfl, by rw [List.length_append]; rfl, by omega, by rw [List.length_append]; simp; omega, by have h := HO9.out.go hb5; rw [List.length_append]; exact h, HX4.out⟩
end Go.Proofs.YtibflgfhjfcifaaGreatDoor
namespace Go.Proofs.YtibflgfhjfcifaaGreatDoor
open Go.RowKit
abbrev tmO (a : Int) (nm : ByteArray) (b : Int) (vl : ByteArray) : Obj := .cells #[.int .i64 a, .string nm, .int .i64 b, .string vl] 66 (0, 0)
def TmSt (w W : World) (g : Nat) (a : Int) (nm : ByteArray) (b : Int) (vl : ByteArray) : Prop := W.heap[g]? = some (tmO a nm b vl) ∧ Below w.heap.size w W
theorem TmSt.key {w W : World} {g : Nat} {a b : Int} {nm vl : ByteArray} (h : TmSt w W g a nm b vl) (hg : w.heap.size ≤ g) (z : Int) : TmSt w (W.setCell ⟨g, 0, none⟩ (.int .i64 z)) g z nm b vl :=
 ⟨Go.Joins.block_setCell h.1 _, bC h.2 hg⟩
theorem TmSt.op {w W : World} {g : Nat} {a b : Int} {nm vl : ByteArray} (h : TmSt w W g a nm b vl) (hg : w.heap.size ≤ g) (z : Int) : TmSt w (W.setCell ⟨g, 2, none⟩ (.int .i64 z)) g a nm z vl :=
 ⟨Go.Joins.block_setCell h.1 _, bC h.2 hg⟩
set_option maxRecDepth 100000 in
set_option maxHeartbeats 8000000 in
theorem RParseT_any (s : ByteArray) (w : World) (hE : Env0 w) (hs : s.size ≤ 9223372036854775807) :
 Calls Tryz.prog 68 #[.string s] w (ParseG (parseL (L s)) w) := by
 have HTk := Lib.hid (RTokens_any s w hs)
 have HE := Lib.hid (fun (W : World) (hW : Below w.heap.size w W) => hE.go hW)
 clear hE
 cases hk : toksS (L s) with
 | error e =>
   have HR : Hid (parseL (L s) = .error e) := Lib.hid (by rw [parseL, hk])
   have hne : (e == 0) = false := by simp; exact toksS_err hk
   have hne2 : (e != 0) = true := by rw [bne, hne]; rfl
   rw [hk] at HTk
   unfold TokPost at HTk
   clear hk
   go_enter Tryz.func68, Tryz.ntmps68
   go_wp2_with (go_at_call 107; refine HTk.out.mono ?_; rintro e w1 ⟨rfl, hb1⟩)
   go_ret2
   rw [HR.out]
   exact ⟨rfl, hb1⟩
 | ok l =>
 have HPl : Hid (parseL (L s) = if checkE (l.map tmR) = 0 then .ok (l.map tmR) else .error (checkE (l.map tmR))) := Lib.hid (by
  obtain ⟨e1, e2⟩ := checkE_R (toksS_good hk)
  rw [parseL, hk]
  dsimp only
  rw [e1]
  by_cases h0 : checkE (l.map tmOf) = 0
  · rw [if_pos h0, if_pos h0, e2 h0]
  · rw [if_neg h0, if_neg h0])
 have hsz := toksS_size hk
 have HTp := Lib.hid hsz.1
 have hll := hsz.2
 rw [hk] at HTk
 unfold TokPost at HTk
 clear hk hsz
 obtain ⟨N, hN⟩ : ∃ N, l.length = N := ⟨_, rfl⟩
 rw [hN] at hll
 have HN := Lib.hid hN
 clear hN
 obtain ⟨i0, hi0, hz0, hz1, hz2⟩ := info_parts termInfo
 have Hi0 := Lib.hid hi0
 have Hz0 := Lib.hid hz0
 have Hz1 := Lib.hid hz1
 have Hz2 := Lib.hid hz2
 clear hi0 hz0 hz1 hz2
 go_enter Tryz.func68, Tryz.ntmps68
 go_wp2_with (first
  | (go_at_call 107; refine HTk.out.mono ?_; rintro e w1 ⟨v, rfl, hK⟩; obtain ⟨At, ct, rfl⟩ := own_slice hK.1; have HK := Lib.hid hK; clear hK)
  | (go_at_call 102; refine (RKeys_any _).mono ?_; rintro e w2 ⟨rfl, rfl⟩)
  | (go_at_call 103; refine (ROps_any _).mono ?_; rintro e w2 ⟨rfl, rfl⟩))
 have hky := heap_alloc2_old w1 (.cells keysA 9) (.cells opsWA 9)
 have hop := heap_alloc2_new w1 (.cells keysA 9) (.cells opsWA 9)
 have hb3 := bt (below_alloc w1 (.cells keysA 9)) (below_alloc (w1.alloc (.cells keysA 9)) (.cells opsWA 9))
 have hsz3 : ((w1.alloc (.cells keysA 9)).alloc (.cells opsWA 9)).heap.size = w1.heap.size + 2 := by simp
 obtain ⟨w3, hw3⟩ : ∃ w3, (w1.alloc (.cells keysA 9)).alloc (.cells opsWA 9) = w3 := ⟨_, rfl⟩
 obtain ⟨B, hB⟩ : ∃ B, w1.heap.size = B := ⟨_, rfl⟩
 have HRt : Hid (RowAt w3 w3.heap.size At 4 l.length (cellsOf encTk l)) := Lib.hid (by rw [← hw3]; exact ((RowAt.of_own HK.out.1).keep hb3).up hb3.size)
 have HW3 : Hid (Below w.heap.size w w3) := Lib.hid (by rw [← hw3]; exact bt HK.out.2 hb3)
 rw [hw3, hB] at hky hop hsz3
 try rw [hw3]
 try rw [hB]
 have HKy := Lib.hid hky
 have HOp := Lib.hid hop
 clear hky hop hb3 hw3 hB HK HTk
 rw [HN.out]
 go_loopg [8, 9] (N + 1) (fun gk s8 s9 wr => ∃ (k : Nat) (ol : List Tm) (Am : Option Addr) (cm : Nat), s8 = .slice Am ol.length cm ∧ s9 = .int .i64 k ∧ k + gk = N + 1 ∧ k ≤ N ∧ ol.length ≤ k ∧ Hid (ol = (l.take k).map tmR) ∧ Hid (OutM w3 ol (.slice Am ol.length cm) wr))
 case atStart => exact ⟨0, [], none, 0, rfl, rfl, by omega, Nat.zero_le _, Nat.le_refl _, (by exact rfl), OutM.start (Below.refl _ _)⟩
 case round =>
  obtain ⟨k, ol, Am, cm, rfl, rfl, hkg, hks, hol, hX, hO⟩ := hrel
  obtain ⟨wo, rfl⟩ : ∃ wo : World, wo = wr := ⟨_, rfl⟩
  obtain ⟨gko, rfl⟩ : ∃ gko : Nat, gko = gk := ⟨_, rfl⟩
  by_cases hlt : k < N
  · have hltI : (k : Int) < (N : Int) := by omega
    have hk : k < l.length := by rw [HN.out]; exact hlt
    have hQ0 := fun W' (hb : Below w3.heap.size w3 W') => tkAt HRt.out hb hk
    have HX2 : Hid (ol ++ [tmR l[k]] = (l.take (k + 1)).map tmR) := Lib.hid (by rw [List.take_succ_eq_append_getElem hk, List.map_append, ← hX.out]; rfl)
    generalize l[k] = x at *
    obtain ⟨ky, nm, oo, vl⟩ := x
    dsimp only at hQ0
    obtain ⟨ba, off, rfl, _⟩ := hQ0 w3 (Below.refl _ _)
    have HQ : Hid (∀ W', Below wo.heap.size wo W' → W'.cell? ⟨ba, off + k * 4, none⟩ = some (.string ky) ∧ W'.cell? ⟨ba, off + k * 4 + 1, none⟩ = some (.string nm) ∧ W'.cell? ⟨ba, off + k * 4 + 2, none⟩ = some (.string oo) ∧ W'.cell? ⟨ba, off + k * 4 + 3, none⟩ = some (.string vl)) := Lib.hid fun W' hb => by
     obtain ⟨ba', off', e, h⟩ := hQ0 W' (bt hO.out.2 hb)
     obtain ⟨rfl, rfl⟩ : ba = ba' ∧ off = off' := by injection e with e; injection e with e1 e2; exact ⟨e1, e2⟩
     exact h
    replace HX2 : Hid (ol ++ [⟨max 0 (Lib.idxOfS keysB ky), nm, max 0 (Lib.idxOfS opsW oo), vl⟩] = (l.take (k + 1)).map tmR) := HX2
    have HTb : Hid (∀ W' : World, Below wo.heap.size wo W' → W'.heap[B]? = some (.cells keysA 9 (0, 0)) ∧ W'.heap[B + 1]? = some (.cells opsWA 9 (0, 0))) := Lib.hid fun W' hb => ⟨((bt hO.out.2 hb).block B (by omega)).trans HKy.out, ((bt hO.out.2 hb).block (B + 1) (by omega)).trans HOp.out⟩
    clear hk hQ0
    have hwz := hO.out.2.size
    obtain ⟨c0, c1, c2, c3⟩ := HQ.out wo (Below.refl _ _)
    obtain ⟨d0, d1, d2, d3⟩ := HQ.out _ (below_alloc wo (.cells #[.int .i64 0, .string ⟨#[]⟩, .int .i64 0, .string ⟨#[]⟩] 66))
    go_wp2_with fail
    go_region
    have HS5 : Hid (TmSt wo (wo.alloc (.cells #[.int .i64 0, .string nm, .int .i64 0, .string vl] 66)).drew wo.heap.size 0 nm 0 vl) := Lib.hid ⟨heap_alloc_new wo _, (below_alloc wo _).drew⟩
    obtain ⟨g, hg⟩ : ∃ g, wo.heap.size = g := ⟨_, rfl⟩
    obtain ⟨W5, hW5⟩ : ∃ W5, (wo.alloc (.cells #[.int .i64 0, .string nm, .int .i64 0, .string vl] 66)).drew = W5 := ⟨_, rfl⟩
    have hgw : wo.heap.size ≤ g := by omega
    rw [hW5, hg] at HS5
    rw [hW5, hg]
    clear hW5 c0 c1 c2 c3 d0 d1 d2 d3
    go_upto_block 2 with fail
    go_cut [11] from 41 to 58 (fun _ wx => Hid (TmSt wo wx g (rIdx keysB ky 25) nm 0 vl))
    case first =>
     go_wp2_with fail
     go_loopg [11] 25 (fun gk sj wx => ∃ j : Nat, sj = .int .i64 j ∧ j + gk = 26 ∧ 1 ≤ j ∧ j ≤ 25 ∧ Hid (TmSt wo wx g (rIdx keysB ky j) nm 0 vl))
     case atStart => exact ⟨1, rfl, by omega, by omega, by omega, by have h : rIdx keysB ky 1 = 0 := by { rw [rIdx, if_neg (by rintro ⟨h, _⟩; exact h rfl)]; rfl }; rw [h]; exact HS5.out⟩
     case round =>
      obtain ⟨j, rfl, hjg, hj1, hjn, hS⟩ := hrel
      by_cases hjlt : j < 25
      · have hjI : (j : Int) < 25 := by omega
        obtain ⟨k0, k1⟩ := HTb.out _ hS.out.2
        obtain ⟨c0, c1, c2, c3⟩ := HQ.out _ hS.out.2
        have hkc := cellOf k0 (keysA_at j hjlt)
        obtain ⟨⟨a0, a1, a2, a3⟩, q0, q1, q2, q3⟩ := res4 hS.out.1
        have hgd : keysB.getD j ⟨#[]⟩ = keyW (j : Int) := by rw [keyW, Int.toNat_natCast]
        generalize keyW (j : Int) = kw at *
        cases hq : (kw.toList == ky.toList)
        · have HI : Hid (rIdx keysB ky (j + 1) = rIdx keysB ky j) := Lib.hid (by rw [rIdx, if_neg]; rintro ⟨_, e⟩; rw [hgd] at e; rw [tl, tl, e] at hq; simp at hq)
          clear hgd k0 k1
          go_wp2_with fail
          go_quiet (fail)
          go_wp2
          go_roundg (gk - 1)
          case measure => omega
          case rel => exact ⟨j + 1, by go_num, by omega, by omega, by omega, by rw [HI.out]; exact ⟨hS.out.1, below_drewN hS.out.2 _⟩⟩
        · have HI : Hid (rIdx keysB ky (j + 1) = j) := Lib.hid (by rw [rIdx, if_pos]; exact ⟨by omega, by rw [hgd, ← tl, ← tl]; simpa using hq⟩)
          clear hgd k0 k1
          go_wp2_with fail
          go_quiet (fail)
          go_wp2
          go_roundg (gk - 1)
          case measure => omega
          case rel => exact ⟨j + 1, by go_num, by omega, by omega, by omega, by rw [HI.out]; exact TmSt.key (w := wo) (W := World.drewN _ _) ⟨hS.out.1, below_drewN hS.out.2 _⟩ hgw _⟩
      · obtain rfl : j = 25 := by omega
        go_wp2
        go_meet
        exact hS.out
    case rest =>
    have HS6 := hcut
    clear HS5
    go_upto_block 4 with fail
    go_cut [12] from 59 to 76 (fun _ wx => Hid (TmSt wo wx g (rIdx keysB ky 25) nm (rIdx opsW oo 7) vl))
    case first =>
     go_wp2_with fail
     go_loopg [12] 7 (fun gk sj wx => ∃ j : Nat, sj = .int .i64 j ∧ j + gk = 8 ∧ 1 ≤ j ∧ j ≤ 7 ∧ Hid (TmSt wo wx g (rIdx keysB ky 25) nm (rIdx opsW oo j) vl))
     case atStart => exact ⟨1, rfl, by omega, by omega, by omega, by have h : rIdx opsW oo 1 = 0 := by { rw [rIdx, if_neg (by rintro ⟨h, _⟩; exact h rfl)]; rfl }; rw [h]; exact HS6.out⟩
     case round =>
      obtain ⟨j, rfl, hjg, hj1, hjn, hS⟩ := hrel
      by_cases hjlt : j < 7
      · have hjI : (j : Int) < 7 := by omega
        obtain ⟨k0, k1⟩ := HTb.out _ hS.out.2
        obtain ⟨c0, c1, c2, c3⟩ := HQ.out _ hS.out.2
        have hkc := cellOf k1 (opsWA_at j hjlt)
        obtain ⟨⟨a0, a1, a2, a3⟩, q0, q1, q2, q3⟩ := res4 hS.out.1
        have hgd : opsW.getD j ⟨#[]⟩ = opW (j : Int) := by rw [opW, Int.toNat_natCast]
        generalize opW (j : Int) = kw at *
        cases hq : (kw.toList == oo.toList)
        · have HI : Hid (rIdx opsW oo (j + 1) = rIdx opsW oo j) := Lib.hid (by rw [rIdx, if_neg]; rintro ⟨_, e⟩; rw [hgd] at e; rw [tl, tl, e] at hq; simp at hq)
          clear hgd k0 k1
          go_wp2_with fail
          go_quiet (fail)
          go_wp2
          go_roundg (gk - 1)
          case measure => omega
          case rel => exact ⟨j + 1, by go_num, by omega, by omega, by omega, by rw [HI.out]; exact ⟨hS.out.1, below_drewN hS.out.2 _⟩⟩
        · have HI : Hid (rIdx opsW oo (j + 1) = j) := Lib.hid (by rw [rIdx, if_pos]; exact ⟨by omega, by rw [hgd, ← tl, ← tl]; simpa using hq⟩)
          clear hgd k0 k1
          go_wp2_with fail
          go_quiet (fail)
          go_wp2
          go_roundg (gk - 1)
          case measure => omega
          case rel => exact ⟨j + 1, by go_num, by omega, by omega, by omega, by rw [HI.out]; exact TmSt.op (w := wo) (W := World.drewN _ _) ⟨hS.out.1, below_drewN hS.out.2 _⟩ hgw _⟩
      · obtain rfl : j = 7 := by omega
        go_wp2
        go_meet
        exact hS.out
    case rest =>
    have HS7 := hcut
    clear HS6
    rw [rIdx_keys, rIdx_ops] at HS7
    generalize max 0 (Lib.idxOfS keysB ky) = ik at *
    generalize max 0 (Lib.idxOfS opsW oo) = io at *
    obtain ⟨⟨a0, a1, a2, a3⟩, q0, q1, q2, q3⟩ := res4 HS7.out.1
    have HO7 := Lib.hid (hO.out.go HS7.out.2)
    have hwz7 := HO7.out.2.size
    go_wp2_with (at_builtin; go_loud (refine wpList_append_lies _ rfl _ _ _ (by rfl) w3.heap.size 66 i0 _ 4 48 Tryz.underlying37 Hi0.out Hz0.out Hz1.out Hz2.out rfl (by omega) (.slice Am ol.length cm) ol.length (cellsOf encTm ol) (by rfl) (HO7.out.1.alloc _) _ 1 1 (encTm ⟨ik, nm, io, vl⟩) (by rfl) (by rfl) (by exact World.news_of_block (heap_alloc_new _ _)) (encTm_one _) (by omega) (by unfold maxLen; omega) (by omega) (by simp; omega) _ rfl ?_; intro g2 cap w9 hown2 hgrow2 hat2 hlt2; have HO9 := Lib.hid (HO7.out.snoc hown2 hgrow2); clear hown2 hgrow2 hat2 hlt2))
    go_roundg (gko - 1)
    case measure => omega
    case rel => exact ⟨k + 1, ol ++ [(⟨ik, nm, io, vl⟩ : Tm)], _, _, by rw [List.length_append]; rfl, by go_num, by omega, by omega, by rw [List.length_append]; simp; omega, HX2.out, by rw [List.length_append]; exact HO9.out⟩
  · obtain rfl : k = N := by omega
    have hXl : ol = l.map tmR := by rw [hX.out, List.take_of_length_le (by rw [HN.out]; exact Nat.le_refl _)]
    rw [← hXl] at HPl
    have hpre : ∀ t ∈ ol, TmOk t := by
     intro t ht
     rw [hXl] at ht
     obtain ⟨x, hx, rfl⟩ := List.mem_map.1 ht
     have h := HTp.out x hx
     exact ⟨by have := h.name; show x.name.size ≤ _; omega, by have := h.value; show x.value.size ≤ _; omega⟩
    have HW4 := Lib.hid (bt HW3.out hO.out.2)
    have HCk := Lib.hid (RCheck_any Am cm ol wo (HE.out wo HW4.out) (RowAt.of_own hO.out.1) (by omega) hpre)
    clear hXl hpre hX
    by_cases hc : checkE ol = 0
    · have HR : Hid (parseL (L s) = .ok ol) := Lib.hid (by rw [HPl.out, if_pos hc])
      rw [hc] at HCk
      clear hc
      go_wp2_with (go_at_call 101; refine HCk.out.mono ?_; rintro e w5 ⟨rfl, hb5⟩)
      go_ret2
      rw [HR.out]
      exact ⟨_, rfl, World.ownsRow.mono (hO.out.go hb5).1 (by have := HW3.out.size; omega), bt HW4.out hb5⟩
    · have HR : Hid (parseL (L s) = .error (checkE ol)) := Lib.hid (by rw [HPl.out, if_neg hc])
      have hne : (checkE ol == 0) = false := by simp [hc]
      have hne2 : (checkE ol != 0) = true := by rw [bne, hne]; rfl
      generalize checkE ol = r at *
      clear hc
      go_wp2_with (go_at_call 101; refine HCk.out.mono ?_; rintro e w5 ⟨rfl, hb5⟩)
      go_ret2
      rw [HR.out]
      exact ⟨rfl, bt HW4.out hb5⟩
end Go.Proofs.YtibflgfhjfcifaaGreatDoor
