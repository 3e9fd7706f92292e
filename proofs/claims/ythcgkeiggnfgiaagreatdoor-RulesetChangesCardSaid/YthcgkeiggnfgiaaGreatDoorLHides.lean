/-
  The law RulesetHides, walked.
-/
import Derived.Test.YthcgkeiggnfgiaaGreatDoorG19
namespace Go.Proofs.YthcgkeiggnfgiaaGreatDoor
open Go.RowKit
def HYes (w : World) (e : Ending) (w' : World) : Prop := e = .returned (.bool true) ∧ ∃ W : World, Below w.heap.size w W ∧ W = w'
theorem madeOk {ds : List (Ls At)} (h : MadeD (lsOf ds)) : ∀ d ∈ ds, ∀ x ∈ d.l, FileOk x := fun d hd x hx => by
  have := made_ok h d.l (List.mem_map.2 ⟨d, hd, rfl⟩) x hx
  unfold FileOk maxLen
  omega
theorem bulk_made {ds : List (Ls At)} (h : MadeD (lsOf ds)) (hl : ds.length ≤ 2) : bulk ds ≤ 8 := by
  have : ∀ d ∈ ds, d.l.length ≤ 3 := fun d hd => sub_len (h d.l (List.mem_map.2 ⟨d, hd, rfl⟩))
  clear h
  have h2 : bulk ds ≤ 4 * ds.length := by
    clear hl
    induction ds with
    | nil => simp [bulk]
    | cons d r ih =>
      have h1 := this d (by simp)
      have h2 := ih (fun x hx => this x (by simp [hx]))
      rw [bulk_cons, List.length_cons]
      omega
  omega
theorem own_lit2 (w : World) (o : Obj) (T : TypeId) : ((w.alloc o).alloc (.cells #[.slice (some ⟨w.heap.size, 0, none⟩) 1 1] T)).ownsRow w.heap.size T 1 (.slice (some ⟨w.heap.size + 1, 0, none⟩) 1 1) 1 [.slice (some ⟨w.heap.size, 0, none⟩) 1 1] := by
  have := World.ownsRow_lit (base := w.heap.size) (e := T) (size := 1) (w.alloc o) #[.slice (some ⟨w.heap.size, 0, none⟩) 1 1] 1 (by simp) (by unfold maxLen; omega) rfl
  rw [World.size_alloc] at this
  exact this
def nameV : List ByteArray := [⟨#[49, 48, 45, 97, 46, 114, 117, 108, 101, 115]⟩, ⟨#[53, 48, 45, 98, 46, 114, 117, 108, 101, 115]⟩, ⟨#[110, 101, 119]⟩]
theorem nameV_ok : ∀ s ∈ nameV, validS (L s) = true ∧ s.size ≤ 100 := by decide +kernel
set_option maxRecDepth 100000 in
set_option maxHeartbeats 4000000 in
theorem lawHides (A : Option Addr) (n c : Nat) (tx : ByteArray) (w : World) (hE : Env0 w) (hT : TapeIs (w.alloc (.cells #[.slice A n c, .int .i64 0] 28)) w.heap.size n 0) (htx : tx.size ≤ 9223372036854775807) :
    Calls Tryz.prog 4 #[.slice A n c, .string tx] w fun e w' => e = .returned (.bool true) ∧ Below w.heap.size w w' := by
  by_cases h300 : 300 < tx.size
  · have h300I : (300 : Int) < (tx.size : Int) := by omega
    have HK := Lib.hid (known_any w)
    clear hT hE htx h300
    go_enter Tryz.func4, Tryz.ntmps4
    go_wp2_with (go_at_call 15; refine HK.out.mono ?_; rintro e w5 ⟨rfl, hb5⟩)
    go_ret
    exact ⟨rfl, hb5⟩
  · have h300I : ¬ (300 : Int) < (tx.size : Int) := by omega
    have HT := Lib.hid (TSt.start hT)
    have HE := Lib.hid (hE.go (below_alloc w (.cells #[.slice A n c, .int .i64 0] 28)))
    have hnG := hE.size
    obtain ⟨i0, hi0, hz0, hz1, hz2⟩ := info_parts fileInfo
    have Hi0 := Lib.hid hi0
    have Hz0 := Lib.hid hz0
    have Hz1 := Lib.hid hz1
    have Hz2 := Lib.hid hz2
    obtain ⟨j0, hj0, hy0, hy1, hy2⟩ := info_parts dirInfo
    have Hj0 := Lib.hid hj0
    have Hy0 := Lib.hid hy0
    have Hy1 := Lib.hid hy1
    have Hy2 := Lib.hid hy2
    have hsz0 : (w.alloc (.cells #[.slice A n c, .int .i64 0] 28)).heap.size = w.heap.size + 1 := by simp
    have hbel0 := below_alloc w (.cells #[.slice A n c, .int .i64 0] 28)
    obtain ⟨W0, hW0⟩ : ∃ W0, w.alloc (.cells #[.slice A n c, .int .i64 0] 28) = W0 := ⟨_, rfl⟩
    rw [hW0] at HT HE hsz0 hbel0
    have HS0 := Lib.hid hsz0
    have HB0 := Lib.hid hbel0
    clear hT hE hi0 hz0 hz1 hz2 hj0 hy0 hy1 hy2 hsz0 hbel0
    go_enter Tryz.func4, Tryz.ntmps4
    go_wp2_with fail
    clear hW0
    (with_reducible refine (Dirs_any (n := n) (p := 0) (d := 0) HT.out HE.out hnG (by omega)).mono ?_)
    rintro e w1 ⟨v, vs, ls, rfl, hl1, hl2, hN, hMd, hT1⟩
    have HT1 := Lib.hid hT1
    have HN := Lib.hid hN
    have HMd := Lib.hid hMd
    have hw1 : w.heap.size + 1 ≤ w1.heap.size := by have := hT1.gr.size; have := HS0.out; omega
    clear hN hT1 hMd hl1 HT
    go_wp2_with fail
    have hO := One_t (n := n) (p := 0) (W := w1.alloc (.cells #[.string ⟨#[49, 48, 45, 97, 46, 114, 117, 108, 101, 115]⟩, .string ⟨#[53, 48, 45, 98, 46, 114, 117, 108, 101, 115]⟩, .string ⟨#[110, 101, 119]⟩] 9)) w1.heap.size 0 3 nameV (HT1.out.st.alloc _) (by omega) (by omega) (by decide) (by decide) (fun i s hi => by
      rw [Nat.zero_add, cell_of_row _ _ i _ _ _ (heap_alloc_new w1 _)]
      rcases (by have := (List.getElem?_eq_some_iff.1 hi).1; simp [nameV] at this; omega : i = 0 ∨ i = 1 ∨ i = 2) with rfl | rfl | rfl <;> (simp [nameV] at hi; subst hi; rfl))
    rw [show nameV.length = 3 from rfl] at hO
    (with_reducible refine hO.mono ?_)
    rintro e w2 ⟨s, hsm, rfl, hT2⟩
    have hsv := nameV_ok s hsm
    have HN2 := Lib.hid ((HN.out.below (below_alloc _ _)).other hT2.gr (fun g e => Or.inl (by have := Option.some.inj e; have := HS0.out; omega)))
    have HB2 : Hid (Below w.heap.size w w2) := Lib.hid (by
      have h1 := HT1.out.allocR.trans hT2
      have h2 := HB0.out
      have hg := h1.gr
      exact ⟨hg.os.trans h2.os, hg.tape.trans h2.tape, hg.output.trans h2.output, Nat.le_trans h2.size hg.size, fun k hk => (hg.block k (Nat.lt_of_lt_of_le hk h2.size) (by intro e; have := Option.some.inj e; omega)).trans (h2.block k hk)⟩)
    obtain ⟨A1, c1, ds, rfl, hls, hvs, hD, hdc⟩ := HN2.out.dirs
    subst hls
    have hdl : ds.length ≤ 2 := by simpa [lsOf] using hl2
    have hbk := bulk_made HMd.out hdl
    have HD := Lib.hid hD
    have HDok := Lib.hid (madeOk HMd.out)
    have hm1 := PMergeD_any A1 c1 ds w2 hD (by omega) (madeOk HMd.out)
    rw [mergeF, if_pos (made_check HMd.out (by omega))] at hm1
    have HM1 := Lib.hid hm1
    unfold FilesPost at HM1
    have hck2 := hide_check (x := ⟨s, tx⟩) HMd.out (by omega) hsv.1
    have hbl : (mergeL (lsOf ds)).length ≤ 100 := by have := mergeL_len (lsOf ds); have := allN_len ds; omega
    have hbl2 : (mergeL ([⟨s, tx⟩] :: lsOf ds)).length ≤ 100 := by
      have h1 := mergeL_len ([⟨s, tx⟩] :: lsOf ds)
      have h2 := allN_len ds
      have e : allN ([⟨s, tx⟩] :: lsOf ds) = [nm ⟨s, tx⟩] ++ allN (lsOf ds) := by simp [allN]
      rw [e, List.length_append, List.length_singleton] at h1
      omega
    have HFn := Lib.hid (fnd_hides ⟨s, tx⟩ (lsOf ds))
    have HOt := Lib.hid (oth_hides ⟨s, tx⟩ (lsOf ds))
    have HMf2 : Hid (mergeF ([⟨s, tx⟩] :: lsOf ds) = (mergeL ([⟨s, tx⟩] :: lsOf ds), 0)) := Lib.hid (by rw [mergeF, if_pos hck2])
    dsimp only [nm] at HFn HOt
    generalize hbe : mergeL (lsOf ds) = be at *
    generalize haf : mergeL ([⟨s, tx⟩] :: lsOf ds) = af at *
    clear hT2 hm1 hck2 hvs hD HN HN2 hsm hl2 hbe haf HT1
    dsimp only at HM1
    go_wp2_with fail
    refine HM1.out.mono ?_
    rintro e w3 ⟨A3, c3, rfl, hc3, hr3, hb3⟩
    have HR3 := Lib.hid hr3
    have HB3 := Lib.hid hb3
    have HD3 := Lib.hid (HD.out.keep hb3)
    clear hr3 hb3 hc3
    go_wp2_with (at_builtin; refine wpList_append_row rfl (.tmp 39) (.tmp 40) 22 rfl w3.heap.size 31 j0 _ 1 24 Tryz.underlying22 Hj0.out Hy0.out Hy1.out Hy2.out rfl (by omega) (.slice (some ⟨w3.heap.size + 1, 0, none⟩) 1 1) 1 [Value.slice (some ⟨w3.heap.size, 0, none⟩) 1 1] (by rfl) (by exact own_lit2 w3 _ _) A1 ds.length c1 _ (ds.map Ls.v) (by rfl) (HD3.out.outer.keep ((below_alloc _ _).trans ((below_alloc _ _).mono (by simp)))) (fun u hu => by obtain ⟨y, _, rfl⟩ := List.mem_map.1 hu; rfl) (by unfold maxLen; omega) (by omega) (by simp; omega) ?_; intro v4 w4 hown4 hgrow4 hloc4 hnn4)
    have hx4 : w4.heap[w3.heap.size]? = some (.cells #[.string s, .string tx] 34 (0, 0)) := (hgrow4.block w3.heap.size (by simp; omega) (by simp [Value.ownBlock])).trans ((Below.heap_alloc _ _ _ (by simp)).trans (heap_alloc_new w3 _))
    have HB4 : Hid (Below w3.heap.size w3 w4) := Lib.hid (((below_alloc _ _).trans ((below_alloc _ _).mono (by simp))).grown hgrow4 (by simp; omega) (fun j e => by simp [Value.ownBlock] at e; omega))
    obtain ⟨A4, c4, rfl, hc4⟩ := own_slice2 hown4
    have hD4 : DirsAt w4 A4 (⟨some ⟨w3.heap.size, 0, none⟩, 1, [⟨s, tx⟩]⟩ :: ds) := by
      refine ⟨?_, fun d hd => ?_, fun d hd => ?_⟩
      · have := RowAt.of_own hown4
        rw [List.length_cons, Nat.add_comm ds.length 1]
        exact this
      · rcases List.mem_cons.1 hd with rfl | hd
        · exact RowAt.of_cells hx4 rfl rfl
        · exact (HD3.out.keep HB4.out).inner d hd
      · rcases List.mem_cons.1 hd with rfl | hd
        · exact Nat.le_refl _
        · exact HD3.out.cap d hd
    have hm4 := PMergeD_any A4 c4 _ w4 hD4 (by rw [bulk_cons]; simp; omega) (fun d hd => by
      rcases List.mem_cons.1 hd with rfl | hd
      · intro x hx
        obtain rfl := List.mem_singleton.1 hx
        refine ⟨?_, ?_⟩ <;> (unfold maxLen; dsimp only; omega)
      · exact HDok.out d hd)
    rw [show lsOf ((⟨some ⟨w3.heap.size, 0, none⟩, 1, [⟨s, tx⟩]⟩ : Ls At) :: ds) = [⟨s, tx⟩] :: lsOf ds from rfl, HMf2.out, List.length_cons, Nat.add_comm ds.length 1] at hm4
    have HM4 := Lib.hid hm4
    unfold FilesPost at HM4
    dsimp only at HM4
    have HR4 := Lib.hid (HR3.out.keep HB4.out)
    clear hown4 hgrow4 hloc4 hnn4 hx4 hD4 hm4 HD HD3 HM1 HMf2 HDok
    go_wp2_with fail
    refine HM4.out.mono ?_
    rintro e w5 ⟨A5, c5, rfl, hc5, hr5, hb5⟩
    have HB5 := Lib.hid (bt HB2.out (bt HB3.out (bt HB4.out hb5)))
    have HRa := Lib.hid hr5
    have HRb : Hid (RowAt w5 w5.heap.size A3 2 be.length (cellsOf encAt be)) := Lib.hid (((HR4.out.up HB4.out.size).keep hb5).up hb5.size)
    clear hb5 hr5 hc5 HM4 HR4
    generalize hbn : be.length = bn at *
    generalize han : af.length = an at *
    have HBn := Lib.hid hbn
    have HAn := Lib.hid han
    clear hbn han
    have hsl : s.size ≤ 100 := hsv.2
    go_wp2
    go_loopg [12, 14] (bn + 1) (fun gk s12 s14 wr => ∃ (k : Nat) (v : Value), v = s12 ∧ s14 = .int .i64 k ∧ k + gk = bn + 1 ∧ k ≤ bn ∧ Hid (OutIn w5 (othF (L s) (be.take k)) v wr))
    case atStart => exact ⟨0, _, rfl, rfl, by omega, Nat.zero_le _, by rw [List.take_zero]; exact OutIn.start (Below.refl _ _)⟩
    case round =>
      obtain ⟨k, v, rfl, rfl, hkg, hkN, hO⟩ := hrel
      by_cases hlt : k < bn
      · have hltI : (k : Int) < (bn : Int) := by omega
        obtain ⟨y, hy⟩ : ∃ y, be[k]? = some y := ⟨_, List.getElem?_eq_getElem (by rw [HBn.out]; exact hlt)⟩
        have hrb := HRb.out
        rw [← HBn.out] at hrb
        obtain ⟨ba, off, hA, hba, hcc⟩ := hrb.fileX hy
        obtain ⟨c0, c1⟩ := hcc _ hO.out.2
        subst hA
        have HTk : Hid (be.take (k + 1) = be.take k ++ [y]) := Lib.hid (by rw [List.take_add_one, hy]; rfl)
        have hol : (othF (L s) (be.take k)).length ≤ 100 := by have := othF_len (L s) (be.take k); rw [List.length_take] at this; omega
        clear hrb hcc hy
        generalize hoo : othF (L s) (be.take k) = ol at *
        have HOo := Lib.hid hoo
        clear hoo
        cases hq : (y.name.toList == s.toList)
        · have hne : nm y ≠ L s := fun e => by
            have : (y.name.toList == s.toList) = true := by rw [tl, tl]; simpa using e
            rw [this] at hq; cases hq
          have HX : Hid (othF (L s) (be.take (k + 1)) = ol ++ [y]) := Lib.hid (by rw [HTk.out, othF_snoc, if_neg hne, HOo.out])
          have hqn : (y.name.toList != s.toList) = true := by simp only [bne, hq]; rfl
          have hw9 := hO.out.2.size
          clear hne
          go_wp2_with (at_builtin; refine wpList_append_lies _ rfl _ _ _ (by rfl) w5.heap.size 34 i0 _ 2 32 Tryz.underlying31 Hi0.out Hz0.out Hz1.out Hz2.out rfl (by omega) v ol.length (cellsOf encAt ol) (by rfl) (hO.out.1.alloc _) _ 1 1 (encAt y) (by rfl) (by rfl) (by exact World.news_of_block (heap_alloc_new _ _)) (encAt_one _) (by omega) (by unfold maxLen; omega) (by omega) (by simp; omega) _ rfl ?_; intro g2 cap w9 hown2 hgrow2 hat2 hlt2)
          have HO3 := Lib.hid (hO.out.snoc hown2 hgrow2)
          clear hown2 hgrow2 hat2 hlt2
          go_wp2
          go_roundg (gk - 1)
          case measure => omega
          case rel => exact ⟨k + 1, _, rfl, by go_num, by omega, by omega, by rw [HX.out]; exact HO3.out⟩
        · have he : nm y = L s := by
            have := hq
            rw [tl, tl] at this
            simpa using this
          have HX : Hid (othF (L s) (be.take (k + 1)) = ol) := Lib.hid (by rw [HTk.out, othF_snoc, if_pos he, HOo.out])
          have hqn : (y.name.toList != s.toList) = false := by simp only [bne, hq]; rfl
          clear he
          go_wp2
          go_roundg (gk - 1)
          case measure => omega
          case rel => exact ⟨k + 1, _, rfl, by go_num, by omega, by omega, by rw [HX.out]; exact hO.out⟩
      · obtain rfl : k = bn := by omega
        have HOb : Hid (OutIn w5 (othF (L s) be) v wr) := Lib.hid (by have := hO.out; rwa [List.take_of_length_le (by rw [HBn.out]; exact Nat.le_refl _)] at this)
        have HRa6 := Lib.hid ((HRa.out.keep hO.out.2).up hO.out.2.size)
        have hobl : (othF (L s) be).length ≤ 100 := by have := othF_len (L s) be; rw [HBn.out] at this; omega
        go_wp2
        obtain ⟨w6, rfl⟩ : ∃ w6 : World, w6 = wr := ⟨_, rfl⟩
        go_loopg [13, 15, 16] (an + 1) (fun gk s13 s15 s16 wr => ∃ (m : Nat) (u : Value), u = s13 ∧ s16 = .int .i64 m ∧ s15 = .bool (fndS (L s) (L tx) (af.take m)) ∧ m + gk = an + 1 ∧ m ≤ an ∧ Hid (OutIn w6 (othF (L s) (af.take m)) u wr))
        case atStart => exact ⟨0, _, rfl, rfl, by rw [List.take_zero]; rfl, by omega, Nat.zero_le _, by rw [List.take_zero]; exact OutIn.start (Below.refl _ _)⟩
        case round =>
          obtain ⟨m, u, rfl, rfl, rfl, hmg, hmN, hO2⟩ := hrel
          by_cases hltm : m < an
          · have hltmI : (m : Int) < (an : Int) := by omega
            obtain ⟨y, hy⟩ : ∃ y, af[m]? = some y := ⟨_, List.getElem?_eq_getElem (by rw [HAn.out]; exact hltm)⟩
            have hrb := HRa6.out
            rw [← HAn.out] at hrb
            obtain ⟨ba, off, hA, hba, hcc⟩ := hrb.fileX hy
            obtain ⟨c0, c1⟩ := hcc _ hO2.out.2
            subst hA
            have HTk : Hid (af.take (m + 1) = af.take m ++ [y]) := Lib.hid (by rw [List.take_add_one, hy]; rfl)
            have hol : (othF (L s) (af.take m)).length ≤ 100 := by have := othF_len (L s) (af.take m); rw [List.length_take] at this; omega
            clear hrb hcc hy
            generalize hoo : othF (L s) (af.take m) = ol at *
            have HOo := Lib.hid hoo
            generalize hff : fndS (L s) (L tx) (af.take m) = fb at *
            have HFf := Lib.hid hff
            clear hoo hff
            cases hq : (y.name.toList == s.toList)
            · have hne : nm y ≠ L s := fun e => by
                have : (y.name.toList == s.toList) = true := by rw [tl, tl]; simpa using e
                rw [this] at hq; cases hq
              have HX : Hid (othF (L s) (af.take (m + 1)) = ol ++ [y]) := Lib.hid (by rw [HTk.out, othF_snoc, if_neg hne, HOo.out])
              have HY : Hid (fndS (L s) (L tx) (af.take (m + 1)) = fb) := Lib.hid (by rw [HTk.out, fndS_snoc, if_neg hne, HFf.out])
              have hw9 := hO2.out.2.size
              clear hne
              go_wp2_with (at_builtin; refine wpList_append_lies _ rfl _ _ _ (by rfl) w6.heap.size 34 i0 _ 2 32 Tryz.underlying31 Hi0.out Hz0.out Hz1.out Hz2.out rfl (by omega) u ol.length (cellsOf encAt ol) (by rfl) (hO2.out.1.alloc _) _ 1 1 (encAt y) (by rfl) (by rfl) (by exact World.news_of_block (heap_alloc_new _ _)) (encAt_one _) (by omega) (by unfold maxLen; omega) (by omega) (by simp; omega) _ rfl ?_; intro g2 cap w9 hown2 hgrow2 hat2 hlt2)
              have HO3 := Lib.hid (hO2.out.snoc hown2 hgrow2)
              clear hown2 hgrow2 hat2 hlt2
              go_wp2
              go_roundg (gk - 1)
              case measure => omega
              case rel => exact ⟨m + 1, _, rfl, by go_num, by rw [HY.out], by omega, by omega, by rw [HX.out]; exact HO3.out⟩
            · have he : nm y = L s := by
                have := hq
                rw [tl, tl] at this
                simpa using this
              have HX : Hid (othF (L s) (af.take (m + 1)) = ol) := Lib.hid (by rw [HTk.out, othF_snoc, if_pos he, HOo.out])
              have HY : Hid (fndS (L s) (L tx) (af.take (m + 1)) = (y.val.toList == tx.toList)) := Lib.hid (by rw [HTk.out, fndS_snoc, if_pos he, tl, tl])
              clear he
              go_wp2
              go_roundg (gk - 1)
              case measure => omega
              case rel => exact ⟨m + 1, _, rfl, by go_num, by rw [HY.out], by omega, by omega, by rw [HX.out]; exact hO2.out⟩
          · obtain rfl : m = an := by omega
            have hta : af.take m = af := List.take_of_length_le (by rw [HAn.out]; exact Nat.le_refl _)
            rw [hta] at hO2
            rw [hta, HFn.out]
            rw [HOt.out] at hO2
            obtain ⟨A7, c7, rfl, hc7⟩ := own_slice2 HOb.out.1
            obtain ⟨A8, c8, rfl, hc8⟩ := own_slice2 hO2.out.1
            have HSm := Lib.hid (fun W (hW : Below wr.heap.size wr W) => SameFiles_yes A7 A8 c7 c8 (othF (L s) be) W (by omega) ((((RowAt.of_own HOb.out.1).keep hO2.out.2).up hO2.out.2.size).keep hW |>.up hW.size) (((RowAt.of_own hO2.out.1).keep hW).up hW.size))
            have HB7 := Lib.hid (bt HB5.out (bt hO.out.2 hO2.out.2))
            generalize (othF (L s) be).length = ol at *
            clear hta
            cases htx2 : (L tx).isEmpty
            · have t1 : tx.toList.isEmpty = false := by rw [tl]; exact htx2
              have t2 : ¬ tx.toList = [] := by rw [tl]; simpa using htx2
              clear htx2
              go_wp2_with (first | (go_at_call 21; refine (HSm.out _ (Below.refl _ _)).mono ?_; rintro e w8 ⟨rfl, hb8⟩; have HB8 := Lib.hid (bt HB7.out hb8); clear hb8) | (go_at_call 15; refine (known_any _).mono ?_; rintro e w9 ⟨rfl, hb9⟩; have HB9 := Lib.hid (bt HB8.out hb9); clear hb9))
              go_ret
              exact ⟨rfl, HB9.out⟩
            · have t1 : tx.toList.isEmpty = true := by rw [tl]; exact htx2
              have t2 : tx.toList = [] := by rw [tl]; simpa using htx2
              clear htx2
              go_wp2_with (first | (go_at_call 21; refine (HSm.out _ (Below.refl _ _)).mono ?_; rintro e w8 ⟨rfl, hb8⟩; have HB8 := Lib.hid (bt HB7.out hb8); clear hb8) | (go_at_call 15; refine (known_any _).mono ?_; rintro e w9 ⟨rfl, hb9⟩; have HB9 := Lib.hid (bt HB8.out hb9); clear hb9))
              go_ret
              exact ⟨rfl, HB9.out⟩
end Go.Proofs.YthcgkeiggnfgiaaGreatDoor
