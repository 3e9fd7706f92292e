/-
  Contract of the program's alternatives of a pattern.
-/
import Derived.Test.YtgdjknpdgajdgaaPGlobD
namespace Go.Proofs.Ytgdjknpdgajdgaa
open Go.RowKit
def encEP (x : El) : List Value := (elP x.litN x.isStar x.has).toList
theorem encEP_len (x : El) : (encEP x).length = 129 := by rw [encEP, Array.length_toList, size_elP]
abbrev AltsP := NstV (α := El) 100 118 129 encEP
def PAltPost (p : ByteArray) (g : Nat) (w : World) (e : Ending) (w' : World) : Prop := w.grownBy w' (some g) ∧
  match globP (L p) with
  | none => e = .returned (.tuple #[.slice none 0 0, .bool false])
  | some alts => ∃ v, e = .returned (.tuple #[v, .bool true]) ∧ Nst 100 118 129 encEP w' w.heap.size v alts
theorem el_st (w : World) (n : Nat) (st : Bool) (f : Nat → Bool) : (stElP (.pointer (some ⟨w.heap.size, 0, none⟩)) (.agg (elP n st f))).run Try.prog (w.alloc (.cells Try.zeroCells118 118)) = .ok () ((w.alloc (.cells Try.zeroCells118 118)).setRow w.heap.size (elP n st f)) :=
  stElP_at (heap_alloc_new w _) (by rw [zeroElP, size_elP]) (size_elP _ _ _) (elP_one _ _ _)
theorem el_st_at (w : World) (n : Nat) (st : Bool) (f : Nat → Bool) : ((w.alloc (.cells Try.zeroCells118 118)).setRow w.heap.size (elP n st f)).heap[w.heap.size]? = some (.cells (elP n st f) 118 (0, 0)) := setRow_heap _ _ _ _ _ _ (heap_alloc_new w _)
theorem el_st_below (w : World) (n : Nat) (st : Bool) (f : Nat → Bool) : Below w.heap.size w ((w.alloc (.cells Try.zeroCells118 118)).setRow w.heap.size (elP n st f)) :=
  (below_alloc w _).grown (grown_setRow _ _ _) (by simp) (fun j e => by cases e; exact Nat.le_refl _)
attribute [local go_sem ↓] ld_set st_set bd_set' ld_elP st_elP bd_elP bs_elP
theorem lt_self2 (a : Int) : (a < a + 1) = True := eq_true (by omega)
attribute [local go_sem] lt_self2
set_option maxRecDepth 100000 in
set_option maxHeartbeats 8000000 in
theorem PAlts_any (p : ByteArray) (g : Nat) (w : World) (hp : p.size ≤ 256) (hpr : printS (L p) = true) (hg : w.heap[g]? = some (rdr p 0)) :
    Calls Try.prog 62 #[.pointer (some ⟨g, 0, none⟩)] w (PAltPost p g w) := by
  have hglt := blk_lt' hg
  have HP := Lib.hid hpr
  have HR0 : Hid ((w.alloc (.cells #[.slice none 0 0] 100)).heap[g]? = some (rdr p 0)) := Lib.hid ((heap_alloc_old _ _ hglt).trans hg)
  have HGl : Hid (globP (L p) = globK (L p) [] []) := Lib.hid rfl
  clear hpr hg
  go_enter Try.func62, Try.ntmps62
  go_wp2
  go_loopg [2, 3, 4, 5, 6, 7, 8] (p.size + 1) (fun gk s2 s3 s4 _ _ _ _ wr => ∃ (i c go : Nat) (us : List Value) (x : Value) (ms : List (List El)) (cur : List El), s2 = .slice none 0 0 ∧ s3 = .bool false ∧ s4 = .slice (some ⟨go, 0, none⟩) (us.length + 1) c ∧ i + gk = p.size + 1 ∧ i ≤ p.size ∧ us.length + cur.length ≤ i ∧
    Hid (AltsP wr w.heap.size (.slice (some ⟨go, 0, none⟩) (us.length + 1) c) (us ++ [x]) (ms ++ [cur])) ∧ Hid (w.grownBy wr (some g)) ∧ Hid (wr.heap[g]? = some (rdr p (i : Nat))) ∧ Hid (globK (L p) [] [] = globK ((L p).drop i) ms cur))
  case atStart => exact ⟨0, 1, w.heap.size, [], .slice none 0 0, [], [], rfl, rfl, rfl, by omega, Nat.zero_le _, Nat.le_refl _, NstV.first (Nat.le_refl _), World.grownBy_alloc _ _ _, HR0.out, rfl⟩
  case round =>
    obtain ⟨i, c, go, us, x, ms, cur, rfl, rfl, rfl, hig, hi, hul, hN, hG, hR, hK⟩ := hrel
    have c0 := cellOf (j := 0) (u := .string p) hR.out rfl
    have c1 := cellOf (j := 1) (u := .int .i64 (i : Nat)) hR.out rfl
    have f1 := frozen_of_row _ _ 1 _ _ hR.out
    by_cases hlt0 : i < p.size
    · have hlt : (i : Int) < (p.size : Int) := by omega
      have hp127 := printS_drop HP.out i hlt0
      have hdr := drop_cons p i hlt0
      go_upto_region 3 with (go_quiet (fail))
      go_cut [5] from 20 to 28 (fun s5 wx => s5 = .int .u8 (p[i].toNat : Int) ∧ Hid (AltsP wx w.heap.size (.slice (some ⟨go, 0, none⟩) (us.length + 1) c) (us ++ [x]) (ms ++ [cur])) ∧ Hid (w.grownBy wx (some g)) ∧ Hid (wx.heap[g]? = some (rdr p (i : Nat))))
      case first =>
        go_quiet (fail)
        go_wp2
        go_meet
        exact ⟨rfl, hN.out.below (below_drewN (below_drewN (Below.refl _ _) _) _), grown_tr (grown_tr hG.out (grown_drewN _ _ _)) (grown_drewN _ _ _), hR.out⟩
      case rest =>
      obtain ⟨rfl, hN2, hG2, hR2⟩ := hcut
      clear hN hG hR c0 c1 f1
      have c1 := cellOf (j := 1) (u := .int .i64 (i : Nat)) hR2.out rfl
      have f1 := frozen_of_row _ _ 1 _ _ hR2.out
      obtain ⟨W1, hW1⟩ : ∃ W1, wc.setCell ⟨g, 1, none⟩ (.int .i64 ((i : Int) + 1)) = W1 := ⟨_, rfl⟩
      have hR3 : W1.heap[g]? = some (rdr p ((i : Int) + 1)) := by rw [← hW1]; exact rd_set hR2.out
      have hG3 : w.grownBy W1 (some g) := by rw [← hW1]; exact grown_tr hG2.out (grown_set _ _ _ _)
      have hN3 : AltsP W1 w.heap.size (.slice (some ⟨go, 0, none⟩) (us.length + 1) c) (us ++ [x]) (ms ++ [cur]) := by rw [← hW1]; exact hN2.out.other (grown_set _ _ _ _) (fun k e => by cases e; exact Or.inl hglt)
      have hs1 : W1.heap.size = wc.heap.size := by rw [← hW1]; simp [World.setCell]
      have hst := el_st W1 p[i].toNat false (fun _ => false)
      have hbd := bdElP_lit p[i].toNat W1
      obtain ⟨W2, hW2⟩ : ∃ W2, (W1.alloc (.cells Try.zeroCells118 118)).setRow W1.heap.size (elP p[i].toNat false (fun _ => false)) = W2 := ⟨_, rfl⟩
      have hb2 : Below W1.heap.size W1 W2 := by rw [← hW2]; exact el_st_below _ _ _ _
      have hE2 : W2.heap[W1.heap.size]? = some (.cells (elP p[i].toNat false (fun _ => false)) 118 (0, 0)) := by rw [← hW2]; exact el_st_at _ _ _ _
      rw [hW2] at hst
      have HR := Lib.hid ((hb2.block g (blk_lt' hR3)).trans hR3)
      have HG := Lib.hid (grown_tr hG3 (grown_below hb2 _))
      have HN := Lib.hid (hN3.below hb2)
      have HF := Lib.hid (hN3.fresh (Nat.le_refl W1.heap.size))
      have hEb : w.heap.size ≤ W1.heap.size := hG3.size
      have hgE : g < W1.heap.size := blk_lt' hR3
      rw [hs1] at hst hE2 HF hEb hgE
      have HE2 := Lib.hid hE2
      have HW1 := Lib.hid hW1
      clear hN2 hG2 hR2 hR3 hG3 hN3 hE2 hb2 hW2
      go_upto_block 2 with fail
      clear hW1 HW1
      generalize wc.heap.size = E at *
      clear hs1
      by_cases h124 : p[i] = 124
      · have e124 : ((p[i].toNat : Int) == 124) = true := by rw [h124]; rfl
        have hK2 := hK.out
        rw [hdr, h124, globK_bar] at hK2
        have HK := Lib.hid hK2
        have ho := HN.out.outer
        rw [List.length_append, List.length_singleton] at ho
        have HO := Lib.hid ho
        obtain ⟨i1, hi0, hz0, hz1, hz2⟩ := info_parts slPInfo
        have Hi0 := Lib.hid hi0
        have Hz0 := Lib.hid hz0
        have Hz1 := Lib.hid hz1
        have Hz2 := Lib.hid hz2
        have hws := HG.out.size
        have hgr := HR.out
        have hgl2 := blk_lt' hgr
        clear hK hK2 ho hi0 hz0 hz1 hz2 h124 hdr HE2 HF hst hbd hgr
        go_wp2_with (refine wpList_append_lies _ rfl _ _ _ (by rfl) w.heap.size 100 i1 _ 1 24 Try.underlying96 Hi0.out Hz0.out Hz1.out Hz2.out rfl (by omega) (.slice (some ⟨go, 0, none⟩) (us.length + 1) c) (us.length + 1) (us ++ [x]) (by rfl) (own_below HO.out (by go_grown)) _ 1 1 [.slice none 0 0] (by rfl) (by rfl) (by exact World.news_of_block (B := W2.heap.size) (heap_alloc_new _ _)) (by simp [Value.oneCell']) (by omega) (by unfold maxLen; omega) (by omega) (by simp; omega) _ rfl ?_; intro g2 cap w2 hown2 hgrow2 hat2 hlt2)
        have HN3 := Lib.hid ((HN.out.below (below_alloc _ _)).pushNil (A := some ⟨g2, 0, none⟩) (c := cap) rfl (by simpa using hown2) hgrow2 hat2)
        have HG3 := Lib.hid (grown_far (grown_tr HG.out (World.grownBy_alloc _ _ _)) hgrow2 (fun k hk => Or.inl (HO.out.lt k hk).1))
        have HR3 := Lib.hid ((hgrow2.block g (by simp; omega) (fun e => by have := (HO.out.lt g e.symm).1; omega)).trans ((heap_alloc_old _ _ hgl2).trans HR.out))
        clear hown2 hgrow2 hat2
        go_wp2
        go_roundg (gk - 1)
        case measure => omega
        case rel => exact ⟨i + 1, cap, g2, us ++ [x], .slice none 0 0, ms ++ [cur], [], rfl, rfl, by simp, by omega, by omega, by simp; omega, HN3.out, HG3.out, HR3.out, HK.out⟩
      · have e124 : ((p[i].toNat : Int) == 124) = false := by
          rw [beq_eq_false_iff_ne]; intro e; exact h124 (UInt8.toNat_inj.1 (Int.ofNat.inj e))
        go_cut [2, 3, 4, 7, 8] from 42 to 65 (fun s2 s3 s4 _ _ wx => s2 = .slice none 0 0 ∧ s3 = .bool false ∧ s4 = .slice (some ⟨go, 0, none⟩) (us.length + 1) c ∧ ∃ (j : Nat) (e : El), i + 1 ≤ j ∧ j ≤ p.size ∧ Hid (elS p[i] ((L p).drop (i + 1)) = some (e, (L p).drop j)) ∧ Hid (wx.heap[g]? = some (rdr p (j : Nat))) ∧ Hid (wx.heap[E]? = some (.cells (elP e.litN e.isStar e.has) 118 (0, 0))) ∧
          Hid (AltsP wx w.heap.size (.slice (some ⟨go, 0, none⟩) (us.length + 1) c) (us ++ [x]) (ms ++ [cur])) ∧ Hid (w.grownBy wx (some g)))
        case first =>
          have c5 := cellOf HE2.out (elP_get _ _ _ p[i].toNat (by omega))
          have f5 := frozen_of_row _ _ (2 + p[i].toNat) _ _ HE2.out
          by_cases h42 : p[i] = 42
          · have e42 : ((p[i].toNat : Int) == 42) = true := by rw [h42]; rfl
            have HEl : Hid (elS p[i] ((L p).drop (i + 1)) = some (.star, (L p).drop (i + 1))) := Lib.hid (by rw [h42]; rfl)
            clear h42 h124 hdr hst hbd
            go_wp2_with (go_at_call 82; refine (every_any _).mono ?_; rintro e w3 ⟨rfl, hb3⟩; have hbd := bdElP_star allB w3; have hE3 := (hb3.block _ (blk_lt' HE2.out)).trans HE2.out; have hst := stElP_at hE3 (size_elP _ _ _) (size_elP 0 true allB) (elP_one 0 true allB); have HB3 := Lib.hid hb3; have HE3 := Lib.hid hE3; clear hb3 hE3)
            go_meet
            exact ⟨rfl, rfl, rfl, i + 1, .star, Nat.le_refl _, hlt0, HEl.out, (by rw [setRow_other _ _ _ _ (by omega)]; exact (HB3.out.block g (blk_lt' HR.out)).trans HR.out), setRow_heap _ _ _ _ _ _ HE3.out, (HN.out.below HB3.out).beside (grown_setRow _ _ _) HF, grown_far (grown_tr HG.out (grown_below HB3.out _)) (grown_setRow _ _ _) (fun k e => by cases e; exact Or.inl hEb)⟩
          have e42 : ((p[i].toNat : Int) == 42) = false := by
            rw [beq_eq_false_iff_ne]; intro e; exact h42 (UInt8.toNat_inj.1 (Int.ofNat.inj e))
          by_cases h63 : p[i] = 63
          · have e63 : ((p[i].toNat : Int) == 63) = true := by rw [h63]; rfl
            have HEl : Hid (elS p[i] ((L p).drop (i + 1)) = some (.any, (L p).drop (i + 1))) := Lib.hid (by rw [h63]; rfl)
            clear h63 h42 h124 hdr hst hbd
            go_wp2_with (go_at_call 82; refine (every_any _).mono ?_; rintro e w3 ⟨rfl, hb3⟩; have hbd := bdElP_set allB w3; have hE3 := (hb3.block _ (blk_lt' HE2.out)).trans HE2.out; have hst := stElP_at hE3 (size_elP _ _ _) (size_elP 0 false allB) (elP_one 0 false allB); have HB3 := Lib.hid hb3; have HE3 := Lib.hid hE3; clear hb3 hE3)
            go_meet
            exact ⟨rfl, rfl, rfl, i + 1, .any, Nat.le_refl _, hlt0, HEl.out, (by rw [setRow_other _ _ _ _ (by omega)]; exact (HB3.out.block g (blk_lt' HR.out)).trans HR.out), setRow_heap _ _ _ _ _ _ HE3.out, (HN.out.below HB3.out).beside (grown_setRow _ _ _) HF, grown_far (grown_tr HG.out (grown_below HB3.out _)) (grown_setRow _ _ _) (fun k e => by cases e; exact Or.inl hEb)⟩
          have e63 : ((p[i].toNat : Int) == 63) = false := by
            rw [beq_eq_false_iff_ne]; intro e; exact h63 (UInt8.toNat_inj.1 (Int.ofNat.inj e))
          by_cases h91 : p[i] = 91
          · have e91 : ((p[i].toNat : Int) == 91) = true := by rw [h91]; rfl
            have hels : elS p[i] ((L p).drop (i + 1)) = setS ((L p).drop (i + 1)) := by rw [h91]; rfl
            have hset := PSet_any p (i + 1) g W2 hp HP.out hlt0 HR.out
            unfold PSetPost at hset
            cases hs : setS ((L p).drop (i + 1)) with
            | none =>
              rw [hs] at hset hels
              have hK2 := hK.out
              rw [hdr, globK_no _ _ _ _ h124 hels] at hK2
              have HK := Lib.hid hK2
              have HSet := Lib.hid hset
              clear hset hels hs hdr hK hK2 h124 h42 h63 h91 hst hbd
              go_wp2_with (go_at_call 83; refine HSet.out.mono ?_; rintro e w3 ⟨hg3, rfl⟩; have hst := alloc_st w3 (fun _ => false))
              go_ret2
              unfold PAltPost
              rw [HGl.out, HK.out]
              exact ⟨alloc_st_grown _ (grown_tr HG.out hg3), rfl⟩
            | some y =>
              obtain ⟨⟨no, rs, e1⟩, m, m1, m2, e2⟩ := setS_suf _ _ hs
              obtain ⟨e, r'⟩ := y
              dsimp only at e1 e2
              have hl0 : El.litN e = 0 ∧ El.isStar e = false := by rw [e1]; exact ⟨rfl, rfl⟩
              rw [List.drop_drop] at e2
              rw [List.length_drop, len_L] at m2
              subst e2
              rw [hs] at hset hels
              dsimp only at hset
              rw [List.length_drop, len_L, show ((p.size : Int) - ((p.size - (i + 1 + m) : Nat) : Int)) = ((i + 1 + m : Nat) : Int) from by omega] at hset
              have HEl := Lib.hid hels
              have HSet := Lib.hid hset
              clear hset hels hs hdr h124 h42 h63 h91 hst hbd e1
              go_wp2_with (go_at_call 83; refine HSet.out.mono ?_; rintro e9 w3 ⟨hg3, rfl, hr3⟩; have hst := alloc_st w3 e.has; have hl := ldSet_at (alloc_st_at w3 e.has) (size_boolA _ _); have hbd := bdElP_set e.has ((w3.alloc (.cells Try.zeroCells116 116)).setRow w3.heap.size (boolA 127 e.has)); have hE3 := alloc_st_old w3 e.has ((hg3.block E (blk_lt' HE2.out) (by intro x; have := Option.some.inj x; omega)).trans HE2.out); have hst2 := stElP_at hE3 (size_elP _ _ _) (size_elP 0 false e.has) (elP_one 0 false e.has); have HE3 := Lib.hid hE3; have HG3 := Lib.hid hg3; have HR3 := Lib.hid hr3; clear hE3 hg3 hr3)
              go_meet
              refine ⟨rfl, rfl, rfl, i + 1 + m, e, by omega, by omega, HEl.out, ?_, ?_, ?_, grown_far (alloc_st_grown _ (grown_tr HG.out HG3.out)) (grown_setRow _ _ _) (fun k e => by cases e; exact Or.inl hEb)⟩
              · show _ = _
                rw [setRow_other _ _ _ _ (by omega)]
                exact alloc_st_old w3 _ HR3.out
              · show _ = _
                rw [hl0.1, hl0.2]
                exact setRow_heap _ _ _ _ _ _ HE3.out
              · refine NstV.beside ?_ (grown_setRow _ _ _) HF
                exact (HN.out.other HG3.out (fun k x => by cases x; exact Or.inl hglt)).other (alloc_st_grown (row := none) _ (grown_refl w3 none)) (fun k x => by cases x)
          · have e91 : ((p[i].toNat : Int) == 91) = false := by
              rw [beq_eq_false_iff_ne]; intro e; exact h91 (UInt8.toNat_inj.1 (Int.ofNat.inj e))
            have HEl : Hid (elS p[i] ((L p).drop (i + 1)) = some (.lit p[i], (L p).drop (i + 1))) := Lib.hid (by rw [elS, if_neg h42, if_neg h63, if_neg h91])
            have hs1 := setCell_known HE2.out (elP_set p[i].toNat false (fun _ => false) p[i].toNat true)
            have e : elP p[i].toNat false (fun d => if d = p[i].toNat then true else false) = elP (El.litN (.lit p[i])) (El.isStar (.lit p[i])) (El.has (.lit p[i])) := elP_congr fun d _ => by
              show _ = (p[i].toNat == d)
              by_cases h : d = p[i].toNat
              · rw [if_pos h, h]; simp
              · rw [if_neg h]; simp; exact fun x => h x.symm
            rw [e] at hs1
            have HE3 := Lib.hid hs1
            clear h42 h124 h63 h91 hdr hs1 e hst hbd
            go_wp2
            go_meet
            exact ⟨rfl, rfl, rfl, i + 1, .lit p[i], Nat.le_refl _, hlt0, HEl.out, rd_other HR.out (by omega), HE3.out, HN.out.beside (grown_set _ _ _ _) HF, grown_far HG.out (grown_set _ _ _ _) (fun k e => by cases e; exact Or.inl hEb)⟩
        case rest =>
          obtain ⟨rfl, rfl, rfl, j, e, hj1, hj2, hel, hRj, hE, hN, hG⟩ := hcut
          have hK2 := hK.out
          rw [hdr, globK_el _ _ _ _ h124 e _ hel.out] at hK2
          have HK := Lib.hid hK2
          have ho := hN.out.outer
          simp only [List.length_append, List.length_singleton] at ho
          have hcx := ho.cellAt us.length (by omega)
          rw [List.getElem?_append_right (Nat.le_refl _), Nat.sub_self, List.getElem?_cons_zero] at hcx
          have hfx := ho.frozenAt us.length
          have hlm : us.length = ms.length := by have := hN.out.len; simpa using this
          have hin := hN.out.inner us.length x cur (by simp) (by rw [hlm]; simp)
          have HLm := Lib.hid hlm
          clear hlm
          have HI := Lib.hid hin
          have hsz := size_elP e.litN e.isStar e.has
          have he := ldElP_at (w := wc.drew) (g := E) hE.out hsz
          have hall : ∀ u ∈ (elP e.litN e.isStar e.has).toList, u.oneCell' = true := fun u hu => Array.all_eq_true_iff_forall_mem.1 (elP_one e.litN e.isStar e.has) u (by simpa using hu)
          have hbs := bsElP_at _ hsz
          have henc : (elP e.litN e.isStar e.has).toList = encEP e := rfl
          generalize elP e.litN e.isStar e.has = cs at *
          have HSz := Lib.hid hsz
          have HAll := Lib.hid hall
          have HEnc := Lib.hid henc
          clear hK hK2 ho hin hsz hall henc hdr h124 e124 hE HE2 HN HF hel hst hbd HR HG
          have hxo : some go ≠ x.ownBlock := fun e => hN.out.off us.length x go (by simp) e.symm rfl
          have HX := Lib.hid hxo
          have hwc := hG.out.size
          have hgo := (hN.out.outer.lt go rfl).2
          obtain ⟨i0, z, hi0, hz0, hz1, hz2, hz3⟩ := elPParts
          have Hi0 := Lib.hid hi0
          have Hz0 := Lib.hid hz0
          have Hz1 := Lib.hid hz1
          have Hz2 := Lib.hid hz2
          have Hz3 := Lib.hid hz3
          clear hxo hi0 hz0 hz1 hz2 hz3
          have hwr : IntKind.i64.wrap (us.length : Int) = (us.length : Int) := by rw [IntKind.wrap_i64]; omega
          go_wp2
          go_region_law (first | (refine step_append_lies _ (by rfl) _ _ _ (by rfl) w.heap.size 118 i0 z 129 129 Try.underlying100 Hi0.out Hz0.out Hz1.out Hz2.out Hz3.out (by omega) x cur.length (cellsOf encEP cur) (by rfl) (own_below HI.out (by go_grown)) _ 1 1 cs.toList (by rfl) (by have := HSz.out; simp [this]) (by exact World.news_of_block (B := wc.heap.size) (heap_alloc_new _ _)) HAll.out (by omega) (by unfold maxLen; omega) (by omega) (by simp; omega) _ rfl ?_; intro g2 cap w2 hown2 hgrow2 hat2 hlt2; have c2 := ((grown_below (by go_grown : Below wc.heap.size wc _) _).trans hgrow2).cell (a := ⟨go, us.length, none⟩) hcx HX.out; have f2 := (((grown_below (by go_grown : Below wc.heap.size wc _) _).trans hgrow2).frozen_far ⟨go, us.length, none⟩ hgo HX.out).trans hfx))
          all_goals
            rw [HEnc.out] at hown2
            have hgb := (hN.out.outer.lt go rfl).1
            have HN3 := Lib.hid ((hN.out.below (by go_grown)).appendLast hown2 hgrow2 hat2)
            have HG3 := Lib.hid (grown_far (grown_far (grown_tr hG.out (grown_below (by go_grown) _)) hgrow2 (fun k hk => Or.inl (HI.out.lt k hk).1)) (grown_set _ go us.length (.slice (some ⟨g2, 0, none⟩) (cur.length + 1) cap)) (fun k x => by cases x; exact Or.inl hgb))
            have HR3 := Lib.hid (rd_other (g := go) (i := us.length) (u := .slice (some ⟨g2, 0, none⟩) (cur.length + 1) cap) ((hgrow2.block g (by have := blk_lt' hRj.out; simp; omega) (fun e => by have := (HI.out.lt g e.symm).1; omega)).trans (((show Below wc.heap.size wc _ by go_grown).block g (blk_lt' hRj.out)).trans hRj.out)) (by omega))
            clear hown2 hgrow2 hat2 c2 f2 he hbs hcx hfx hN hG hRj
            go_wp2
            go_roundg (gk - (j - i))
            case measure => omega
            case rel => exact ⟨j, c, go, us, _, ms, cur ++ [e], rfl, rfl, rfl, by omega, by omega, by simp; omega, HN3.out, HG3.out, HR3.out, HK.out⟩
    · have hlt : ¬ (i : Int) < (p.size : Int) := by omega
      have hK2 := hK.out
      rw [List.drop_eq_nil_of_le (by rw [len_L]; omega), globK_nil] at hK2
      have HK := Lib.hid hK2
      clear hK2 hK
      go_wp2
      go_quiet (fail)
      go_wp2
      go_ret2
      unfold PAltPost
      rw [HGl.out, HK.out]
      exact ⟨by first | exact grown_tr hG.out (grown_drewN _ _ _) | exact grown_tr (grown_tr hG.out (grown_drewN _ _ _)) (grown_drewN _ _ _), _, rfl, ⟨_, hN.out.below (below_drewN (Below.refl _ _) _)⟩⟩
end Go.Proofs.Ytgdjknpdgajdgaa
