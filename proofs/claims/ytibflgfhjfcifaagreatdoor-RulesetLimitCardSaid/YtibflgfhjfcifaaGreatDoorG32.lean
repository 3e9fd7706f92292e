/-
  Contract of the program's Parse.
  The sanity check of the law file of grammar.
-/
import Derived.Test.YtibflgfhjfcifaaGreatDoorG31
import Derived.Deep.Onto
namespace Go.Proofs.YtibflgfhjfcifaaGreatDoor
open Go.RowKit
attribute [local go_sem ↓] st_forms


set_option maxRecDepth 100000 in
set_option maxHeartbeats 8000000 in
theorem PParse_any (s : ByteArray) (w : World) (hE : Env w) (hs : s.size ≤ 9223372036854775807) :
 Calls Tryz.prog 34 #[.string s] w (ParseG (parseL (L s)) w) := by
 have HTk := Lib.hid (PTokens_any s w hs)
 have HE := Lib.hid (fun (W : World) (hW : Below w.heap.size w W) => hE.go hW)
 clear hE
 cases hk : toksS (L s) with
 | error e =>
   have HR : Hid (parseL (L s) = .error e) := Lib.hid (by rw [parseL, hk])
   have hne : (e == 0) = false := by simp; exact toksS_err hk
   have hne2 : (e != 0) = true := by rw [bne, hne]; rfl
   rw [hk] at HTk
   unfold TokPost at HTk
   clear hk
   go_enter Tryz.func34, Tryz.ntmps34
   go_wp2_with (go_at_call 58; refine HTk.out.mono ?_; rintro e w1 ⟨rfl, hb1⟩)
   go_ret2
   rw [HR.out]
   exact ⟨rfl, hb1⟩
 | ok l =>
 have HPl : Hid (parseL (L s) = if checkE (l.map tmOf) = 0 then .ok (l.map tmOf) else .error (checkE (l.map tmOf))) := Lib.hid (by rw [parseL, hk])
 have hsz := toksS_size hk
 have HTp := Lib.hid hsz.1
 have hll := hsz.2
 rw [hk] at HTk
 unfold TokPost at HTk
 clear hk hsz
 obtain ⟨N, hN⟩ : ∃ N, l.length = N := ⟨_, rfl⟩
 rw [hN] at hll
 have HN := Lib.hid hN
 clear hN
 obtain ⟨i0, hi0, hz0, hz1, hz2⟩ := info_parts termInfo
 have Hi0 := Lib.hid hi0
 have Hz0 := Lib.hid hz0
 have Hz1 := Lib.hid hz1
 have Hz2 := Lib.hid hz2
 clear hi0 hz0 hz1 hz2
 go_enter Tryz.func34, Tryz.ntmps34
 go_wp2_with (first
  | (go_at_call 58; refine HTk.out.mono ?_; rintro e w1 ⟨v, rfl, hK⟩; obtain ⟨At, ct, rfl⟩ := own_slice hK.1; have HK := Lib.hid hK; clear hK)
  | (go_at_call 59; refine (PForms_all _).mono ?_; rintro e w2 ⟨cs, rfl, hF, h0, hone, hb2⟩; have HRw := Lib.hid (hF.rows h0); have hst := stForms_at (heap_alloc_new w2 (.cells Tryz.zeroCells115 115)) zeroForms hF.1 hone; have HB2 := Lib.hid hb2; clear hb2 h0))
 have hc0 := hF.1
 have HB3 := Lib.hid (bR (w := w2) (bAl (Below.refl w2.heap.size w2)) (Nat.le_refl _) : Below w2.heap.size w2 ((w2.alloc (.cells Tryz.zeroCells115 115)).setRow w2.heap.size cs))
 have HT3 := Lib.hid (setRow_heap _ _ _ _ _ _ (heap_alloc_new w2 (.cells Tryz.zeroCells115 115)) : ((w2.alloc (.cells Tryz.zeroCells115 115)).setRow w2.heap.size cs).heap[w2.heap.size]? = _)
 have hs3 : w2.heap.size + 1 = ((w2.alloc (.cells Tryz.zeroCells115 115)).setRow w2.heap.size cs).heap.size := by simp [World.setRow]
 obtain ⟨w3, hw3⟩ : ∃ w3, (w2.alloc (.cells Tryz.zeroCells115 115)).setRow w2.heap.size cs = w3 := ⟨_, rfl⟩
 rw [hw3] at HB3 HT3 hs3 ⊢
 have HW3 := Lib.hid (bt (bt HK.out.2 HB2.out) HB3.out)
 have HRt : Hid (RowAt w3 w3.heap.size At 4 l.length (cellsOf encTk l)) := Lib.hid (((RowAt.of_own HK.out.1).keep (bt HB2.out HB3.out)).up (bt HB2.out HB3.out).size)
 clear hw3 hst hF hone hc0 hs3
 rw [HN.out]
 go_loopg [7, 23] (N + 1) (fun gk s7 s23 wr => ∃ (k : Nat) (ol : List Tm) (Am : Option Addr) (cm : Nat), s7 = .slice Am ol.length cm ∧ s23 = .int .i64 k ∧ k + gk = N + 1 ∧ k ≤ N ∧ ol.length ≤ k ∧ Hid (ol = (l.take k).map tmOf) ∧ Hid (OutM w3 ol (.slice Am ol.length cm) wr))
 case atStart => exact ⟨0, [], none, 0, rfl, rfl, by omega, Nat.zero_le _, Nat.le_refl _, (by exact rfl), OutM.start (Below.refl _ _)⟩
 case round =>
  obtain ⟨k, ol, Am, cm, rfl, rfl, hkg, hks, hol, hX, hO⟩ := hrel
  by_cases hlt : k < N
  · have hltI : (k : Int) < (N : Int) := by omega
    have hk : k < l.length := by rw [HN.out]; exact hlt
    obtain ⟨ba, off, rfl, c0, c1, c2, c3⟩ := tkAt HRt.out hO.out.2 hk
    have HX2 : Hid (ol ++ [tmOf l[k]] = (l.take (k + 1)).map tmOf) := Lib.hid (by rw [List.take_succ_eq_append_getElem hk, List.map_append, ← hX.out]; rfl)
    generalize l[k] = x at *
    obtain ⟨ky, nm, oo, vl⟩ := x
    dsimp only at c0 c1 c2 c3
    replace HX2 : Hid (ol ++ [⟨Lib.idxOfS keysB ky, nm, Lib.idxOfS opsW oo, vl⟩] = (l.take (k + 1)).map tmOf) := HX2
    clear hk
    have HIx := Lib.hid (IndexForms_any cs w2.heap.size wr.heap.size 115 ky (wr.alloc (.cells #[.string ky, .string nm, .string oo, .string vl] 118)) HRw.out (((hO.out.2.alloc hO.out.2.size _).block w2.heap.size (blk_lt' HT3.out)).trans HT3.out) (cellOf (heap_alloc_new wr _) rfl) (by simp))
    have HOr := Lib.hid hO.out.1.lt
    generalize Lib.idxOfS keysB ky = ik at *
    have hwz := hO.out.2.size
    go_wp2_with (go_at_call 60; refine HIx.out.mono ?_; rintro e w5 ⟨rfl, hb5⟩; have HTok5 := Lib.hid ((hb5.block wr.heap.size (by simp)).trans (heap_alloc_new wr _)); have hw5 := hb5.size; have HQ := Lib.hid (fun (W : World) (hW : Below w5.heap.size w5 W) => (res4 (((hW.block _ (by simp at hw5; omega)).trans (hb5.block wr.heap.size (by simp))).trans (heap_alloc_new wr _))).1); have HOq := Lib.hid (hO.out.go (bt (below_alloc wr _) hb5)); clear hb5)
    simp at hw5
    have HO5s := HOq.out.2.size
    refine wp_region_held_drew (S := fun W' => W'.cell? ⟨wr.heap.size, 0, none⟩ = some (.string ky) ∧ W'.cell? ⟨wr.heap.size, 1, none⟩ = some (.string nm) ∧ W'.cell? ⟨wr.heap.size, 2, none⟩ = some (.string oo) ∧ W'.cell? ⟨wr.heap.size, 3, none⟩ = some (.string vl)) (by kernel_rfl) ?_ (fun hHeld => ?_)
    · exact HQ.out _ (by go_grown)
    refine wpAnyH_take (i := 0) (v := ?_) (by simp only [List.getElem?_toArray, List.getElem?_cons_zero]; rfl) (by kernel_rfl) (by kernel_rfl) (by kernel_rfl) (by exact fun _ _ _ h => h) (Or.inl ⟨by rfl, ?_⟩) (by assumption) ?_
    rotate_left
    · intro w hSw
      go_simp
      try with_reducible rfl
    try simp only [Act.put, List.setIfInBounds_toArray, List.set_cons_zero, List.set_cons_succ]
    refine wpAnyH_take (i := 1) (v := ?_) (by simp only [List.getElem?_toArray, List.getElem?_cons_succ, List.getElem?_cons_zero]; rfl) (by kernel_rfl) (by kernel_rfl) (by kernel_rfl) (by exact fun _ _ _ h => h) (Or.inl ⟨by rfl, ?_⟩) (by assumption) ?_
    rotate_left
    · intro w hSw
      go_simp
      try with_reducible rfl
    try simp only [Act.put, List.setIfInBounds_toArray, List.set_cons_zero, List.set_cons_succ]
    refine wpAnyH_take (i := 2) (v := ?_) (by simp only [List.getElem?_toArray, List.getElem?_cons_succ, List.getElem?_cons_zero]; rfl) (by kernel_rfl) (by kernel_rfl) (by kernel_rfl) (by exact fun _ _ _ h => h) (Or.inl ⟨by rfl, ?_⟩) (by assumption) ?_
    rotate_left
    · intro w hSw
      go_simp
      try with_reducible rfl
    try simp only [Act.put, List.setIfInBounds_toArray, List.set_cons_zero, List.set_cons_succ]
    refine wpAnyH_take (i := 3) (v := ?_) (by simp only [List.getElem?_toArray, List.getElem?_cons_succ, List.getElem?_cons_zero]; rfl) (by kernel_rfl) (by kernel_rfl) (by kernel_rfl) (by exact fun _ _ _ h => h) (Or.inl ⟨by rfl, ?_⟩) (by assumption) ?_
    rotate_left
    · intro w hSw
      go_simp
      try with_reducible rfl
    try simp only [Act.put, List.setIfInBounds_toArray, List.set_cons_zero, List.set_cons_succ]
    refine wpAnyH_take (i := 5) (v := ?_) (by simp only [List.getElem?_toArray, List.getElem?_cons_succ, List.getElem?_cons_zero]; rfl) (by kernel_rfl) (by kernel_rfl) (by kernel_rfl) (by exact fun _ _ _ h => h) (Or.inl ⟨by rfl, ?_⟩) (by assumption) ?_
    rotate_left
    · intro w hSw
      go_simp
      try with_reducible rfl
    try simp only [Act.put, List.setIfInBounds_toArray, List.set_cons_zero, List.set_cons_succ]
    refine wpAnyH_take (i := 6) (v := ?_) (by simp only [List.getElem?_toArray, List.getElem?_cons_succ, List.getElem?_cons_zero]; rfl) (by kernel_rfl) (by kernel_rfl) (by kernel_rfl) (by exact fun _ _ _ h => h) (Or.inl ⟨by rfl, ?_⟩) (by assumption) ?_
    rotate_left
    · intro w hSw
      go_simp
      try with_reducible rfl
    try simp only [Act.put, List.setIfInBounds_toArray, List.set_cons_zero, List.set_cons_succ]
    refine wpAnyH_take (i := 8) (v := ?_) (by simp only [List.getElem?_toArray, List.getElem?_cons_succ, List.getElem?_cons_zero]; rfl) (by kernel_rfl) (by kernel_rfl) (by kernel_rfl) (by exact fun _ _ _ h => h) (Or.inl ⟨by rfl, ?_⟩) (by assumption) ?_
    rotate_left
    · intro w hSw
      go_simp
      try with_reducible rfl
    try simp only [Act.put, List.setIfInBounds_toArray, List.set_cons_zero, List.set_cons_succ]
    refine wpAnyH_take (i := 9) (v := ?_) (by simp only [List.getElem?_toArray, List.getElem?_cons_succ, List.getElem?_cons_zero]; rfl) (by kernel_rfl) (by kernel_rfl) (by kernel_rfl) (by exact fun _ _ _ h => h) (Or.inl ⟨by rfl, ?_⟩) (by assumption) ?_
    rotate_left
    · intro w hSw
      go_simp
      try with_reducible rfl
    try simp only [Act.put, List.setIfInBounds_toArray, List.set_cons_zero, List.set_cons_succ]
    refine wpAnyH_ready (rs := [4]) (by kernel_rfl) (by simp) ?_
    refine AllReadyH.cons (by simp only [List.getElem?_toArray, List.getElem?_cons_succ, List.getElem?_cons_zero]; rfl) (fun K hK => ?_) AllReadyH.nil
    go_simp
    go_at_call 63
    refine (tops_any _).mono ?_
    rintro e w6 ⟨rfl, rfl⟩
    refine hK.out _ _ (by first | exact HQ9.out | exact HQ.out _ (by go_grown)) (fun hHeld => ?_)
    clear hK K
    try simp only [Act.put, List.setIfInBounds_toArray, List.set_cons_zero, List.set_cons_succ]
    refine wpAnyH_ready (rs := [7]) (by kernel_rfl) (by simp) ?_
    refine AllReadyH.cons (by simp only [List.getElem?_toArray, List.getElem?_cons_succ, List.getElem?_cons_zero]; rfl) (fun K hK => ?_) AllReadyH.nil
    go_simp
    go_at_call 62
    refine (IndexOps_any w5.heap.size oo _ (heap_alloc_new w5.drew _)).mono ?_
    rintro e w7 ⟨rfl, rfl⟩
    refine hK.out _ _ (by first | exact HQ9.out | exact HQ.out _ (by go_grown)) (fun hHeld => ?_)
    clear hK K
    try simp only [Act.put, List.setIfInBounds_toArray, List.set_cons_zero, List.set_cons_succ]
    refine wpAnyH_take (i := 10) (v := ?_) (by simp only [List.getElem?_toArray, List.getElem?_cons_succ, List.getElem?_cons_zero]; rfl) (by kernel_rfl) (by kernel_rfl) (by kernel_rfl) (by exact fun _ _ _ h => h) (Or.inl ⟨by rfl, ?_⟩) (by assumption) ?_
    rotate_left
    · intro w hSw
      go_simp
      try with_reducible rfl
    try simp only [Act.put, List.setIfInBounds_toArray, List.set_cons_zero, List.set_cons_succ]
    refine wpAnyH_ready (rs := [11]) (by kernel_rfl) (by simp) ?_
    refine AllReadyH.cons (by simp only [List.getElem?_toArray, List.getElem?_cons_succ, List.getElem?_cons_zero]; rfl) (fun K hK => ?_) AllReadyH.nil
    go_simp
    refine hK.out _ _ (by first | exact HQ9.out | exact HQ.out _ (by go_grown)) (fun hHeld => ?_)
    clear hK K
    try simp only [Act.put, List.setIfInBounds_toArray, List.set_cons_zero, List.set_cons_succ]
    refine wpAnyH_ready (rs := [12]) (by kernel_rfl) (by simp) ?_
    refine AllReadyH.cons (by simp only [List.getElem?_toArray, List.getElem?_cons_succ, List.getElem?_cons_zero]; rfl) (fun K hK => ?_) AllReadyH.nil
    refine step_append_lies _ (by rfl) _ _ _ (by rfl) w3.heap.size 66 i0 _ 4 48 Tryz.underlying37 Hi0.out Hz0.out Hz1.out Hz2.out rfl (by omega) (.slice Am ol.length cm) ol.length (cellsOf encTm ol) (by rfl) (own_below2 HOq.out.1 (by go_grown)) _ 1 1 (encTm ⟨ik, nm, Lib.idxOfS opsW oo, vl⟩) (by rfl) (by rfl) (by exact World.news_of_block (heap_alloc2_new _ _ _)) (encTm_one _) (by omega) (by unfold maxLen;omega) (by omega) (by simp;omega) _ rfl ?_
    intro g2 cap w9 hown2 hgrow2 hat2 hlt2
    have HO2 := Lib.hid (((HOq.out.go (Below.refl _ _).drew).go (below_alloc _ _)).snoc hown2 hgrow2)
    have HQ9 := Lib.hid (res4 ((hgrow2.block wr.heap.size (by simp;omega) (fun e => by have := HOr.out _ (by first | exact e | exact e.symm);omega)).trans ((((below_alloc (w5.drew.alloc _) _).block wr.heap.size (by simp;omega)).trans ((below_alloc w5.drew _).block wr.heap.size (by simp;omega))).trans HTok5.out))).1
    clear hown2 hgrow2 hat2 hlt2
    refine hK.out _ _ (by first | exact HQ9.out | exact HQ.out _ (by go_grown)) (fun hHeld => ?_)
    clear hK K
    try simp only [Act.put, List.setIfInBounds_toArray, List.set_cons_zero, List.set_cons_succ]
    refine wpAnyH_take (i := 13) (v := ?_) (by simp only [List.getElem?_toArray, List.getElem?_cons_succ, List.getElem?_cons_zero]; rfl) (by kernel_rfl) (by kernel_rfl) (by kernel_rfl) (by exact fun _ _ _ h => h) (Or.inl ⟨by rfl, ?_⟩) (by assumption) ?_
    rotate_left
    · intro w hSw
      go_simp
      try with_reducible rfl
    try simp only [Act.put, List.setIfInBounds_toArray, List.set_cons_zero, List.set_cons_succ]
    refine wpAnyH_done (by kernel_rfl) ?_ _
    go_wp2
    go_roundg (gk - 1)
    case measure => omega
    case rel => exact ⟨k + 1, ol ++ [⟨ik, nm, Lib.idxOfS opsW oo, vl⟩], _, _, by rw [List.length_append]; rfl, by go_num, by omega, by omega, by rw [List.length_append]; simp; omega, HX2, by rw [List.length_append]; exact HO2⟩
  · obtain rfl : k = N := by omega
    have hXl : ol = l.map tmOf := by rw [hX.out, List.take_of_length_le (by rw [HN.out]; exact Nat.le_refl _)]
    rw [← hXl] at HPl
    have hpre : ∀ t ∈ ol, TmPre t := by
     intro t ht
     rw [hXl] at ht
     obtain ⟨x, hx, rfl⟩ := List.mem_map.1 ht
     exact tmOf_pre (HTp.out x hx)
    have HW4 := Lib.hid (bt HW3.out hO.out.2)
    have HCk := Lib.hid (PTCheck_any Am cm ol wr (HE.out wr HW4.out) (RowAt.of_own hO.out.1) (by omega) hpre)
    clear hXl hpre hX
    by_cases hc : checkE ol = 0
    · have HR : Hid (parseL (L s) = .ok ol) := Lib.hid (by rw [HPl.out, if_pos hc])
      rw [hc] at HCk
      clear hc
      go_wp2_with (go_at_call 21; refine HCk.out.mono ?_; rintro e w5 ⟨rfl, hb5⟩)
      go_ret2
      rw [HR.out]
      exact ⟨_, rfl, World.ownsRow.mono (hO.out.go hb5).1 (by have := HW3.out.size; omega), bt HW4.out hb5⟩
    · have HR : Hid (parseL (L s) = .error (checkE ol)) := Lib.hid (by rw [HPl.out, if_neg hc])
      have hne : (checkE ol == 0) = false := by simp [hc]
      have hne2 : (checkE ol != 0) = true := by rw [bne, hne]; rfl
      generalize checkE ol = r at *
      clear hc
      go_wp2_with (go_at_call 21; refine HCk.out.mono ?_; rintro e w5 ⟨rfl, hb5⟩)
      go_ret2
      rw [HR.out]
      exact ⟨rfl, bt HW4.out hb5⟩
end Go.Proofs.YtibflgfhjfcifaaGreatDoor
namespace Go.Proofs.YtibflgfhjfcifaaGreatDoor
open Go.RowKit
def kLit1 : ByteArray := ⟨#[83, 85, 66, 83, 89, 83, 84, 69, 77, 61, 61, 34, 98, 108, 111, 99, 107, 34, 44, 32, 83, 89, 77, 76, 73, 78, 75, 43, 61, 34, 100, 105, 115, 107, 47, 37, 107, 34]⟩
def kLit2 : ByteArray := ⟨#[80, 82, 73, 79, 82, 73, 84, 89, 61, 34, 48, 48, 55, 34]⟩
def kLit3 : ByteArray := ⟨#[32, 44, 32]⟩
def kTm1 : Tm := ⟨3, ⟨#[]⟩, 1, ⟨#[98, 108, 111, 99, 107]⟩⟩
def kTm2 : Tm := ⟨16, ⟨#[]⟩, 4, ⟨#[100, 105, 115, 107, 47, 37, 107]⟩⟩
theorem kToks1 : toksS (L kLit1) = .ok [⟨⟨#[83, 85, 66, 83, 89, 83, 84, 69, 77]⟩, ⟨#[]⟩, ⟨#[61, 61]⟩, ⟨#[98, 108, 111, 99, 107]⟩⟩, ⟨⟨#[83, 89, 77, 76, 73, 78, 75]⟩, ⟨#[]⟩, ⟨#[43, 61]⟩, ⟨#[100, 105, 115, 107, 47, 37, 107]⟩⟩] := by kernel_rfl
theorem kParse1 : parseL (L kLit1) = .ok [kTm1, kTm2] := by
 rw [parseL, kToks1]
 show (if checkE [kTm1, kTm2] = 0 then Except.ok [kTm1, kTm2] else .error (checkE [kTm1, kTm2])) = _
 rw [show checkE [kTm1, kTm2] = 0 from by kernel_rfl]
 rfl
theorem kToks2 : toksS (L kLit2) = .ok [⟨⟨#[80, 82, 73, 79, 82, 73, 84, 89]⟩, ⟨#[]⟩, ⟨#[61]⟩, ⟨#[48, 48, 55]⟩⟩] := by kernel_rfl
theorem kPri : priS [48, 48, 55] = false := by
 rw [priS_ok (v := 7) (by kernel_rfl), show (7 : Int) = ((7 : Nat) : Int) from rfl, itoa_dec, dec_lt10 7 (by omega)]
 rfl
theorem kParse2 : parseL (L kLit2) = .error 103 := by
 rw [parseL, kToks2]
 have hc : checkE [(⟨22, ⟨#[]⟩, 3, ⟨#[48, 48, 55]⟩⟩ : Tm)] = 103 := by
  have ht : termE (⟨22, ⟨#[]⟩, 3, ⟨#[48, 48, 55]⟩⟩ : Tm) = 103 := by
   rw [termE, if_neg (by decide), if_neg (by decide), if_neg (by decide), if_pos (by
    rw [rightB, if_pos rfl]; exact kPri)]
  rw [checkE, if_neg (by decide), if_neg (by decide), if_pos (by rw [firstE, ht]; decide), firstE, ht]
  rfl
 show (if checkE [(⟨22, ⟨#[]⟩, 3, ⟨#[48, 48, 55]⟩⟩ : Tm)] = 0 then Except.ok _ else .error (checkE [(⟨22, ⟨#[]⟩, 3, ⟨#[48, 48, 55]⟩⟩ : Tm)])) = _
 rw [hc]
 rfl
theorem kParse3 : parseL (L kLit3) = .error 106 := by kernel_rfl
set_option maxRecDepth 100000 in
set_option maxHeartbeats 2000000 in
theorem known10_any (w : World) (hE : Env w) :
 Calls Tryz.prog 13 #[] w fun e w' => e = .returned (.bool true) ∧ Below w.heap.size w w' := by
 have HP1 := Lib.hid (PParse_any kLit1 w hE (by decide))
 have HP2 := Lib.hid (fun (W : World) (hW : Below w.heap.size w W) => PParse_any kLit2 W (hE.go hW) (by decide))
 have HP3 := Lib.hid (fun (W : World) (hW : Below w.heap.size w W) => PParse_any kLit3 W (hE.go hW) (by decide))
 rw [kParse1] at HP1
 rw [kParse2] at HP2
 rw [kParse3] at HP3
 unfold ParseG at HP1 HP2 HP3
 unfold kLit1 at HP1
 unfold kLit2 at HP2
 unfold kLit3 at HP3
 dsimp only at HP1 HP2 HP3
 clear hE
 go_enter Tryz.func13, Tryz.ntmps13
 go_wp2_with fail
 refine HP1.out.mono ?_
 rintro e w1 ⟨v, rfl, hO⟩
 obtain ⟨A, c, rfl⟩ := own_slice hO.1
 obtain ⟨ba, off, rfl, hba, hc⟩ := (RowAt.of_own hO.1).at_ (by decide)
 have HC := Lib.hid (fun (W : World) (hW : Below w1.heap.size w1 W) (j : Nat) (u : Value) (hu : (cellsOf encTm [kTm1, kTm2])[j]? = some u) => (hW.cell (p := ⟨ba, off + j, none⟩) hba).trans (hc j u hu))
 have HB1 := Lib.hid hO.2
 clear hc hO
 go_wp2_with fail
 refine (HP2.out _ HB1.out).mono ?_
 rintro e w2 ⟨rfl, hb2⟩
 go_wp2_with fail
 refine (HP3.out _ (bt HB1.out hb2)).mono ?_
 rintro e w3 ⟨rfl, hb3⟩
 have hb13 := bt hb2 hb3
 have c0 : w3.cell? ⟨ba, off + 4, none⟩ = some (.int .i64 16) := HC.out w3 hb13 4 _ rfl
 have c1 : w3.cell? ⟨ba, off + 4 + 1, none⟩ = some (.string ⟨#[]⟩) := HC.out w3 hb13 5 _ rfl
 have c2 : w3.cell? ⟨ba, off + 4 + 2, none⟩ = some (.int .i64 4) := HC.out w3 hb13 6 _ rfl
 have c3 : w3.cell? ⟨ba, off + 4 + 3, none⟩ = some (.string ⟨#[100, 105, 115, 107, 47, 37, 107]⟩) := HC.out w3 hb13 7 _ rfl
 go_wp2
 go_ret
 exact ⟨ret_bool (by first | rfl | decide | simp), bt HB1.out hb13⟩
end Go.Proofs.YtibflgfhjfcifaaGreatDoor
