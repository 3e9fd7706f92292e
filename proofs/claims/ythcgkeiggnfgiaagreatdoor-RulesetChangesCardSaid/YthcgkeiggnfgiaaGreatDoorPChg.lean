/-
  Contract of the program's Changed.
-/
import Derived.Test.YthcgkeiggnfgiaaGreatDoorChgP
namespace Go.Proofs.YthcgkeiggnfgiaaGreatDoor
open Go.RowKit Go.Maps
theorem difF_look (a b : List At) (n : Str) : difF a b n = (((lookF a n).isSome != (lookF b n).isSome) || (((lookF a n).getD ⟨#[]⟩).toList != ((lookF b n).getD ⟨#[]⟩).toList)) := by
  unfold difF
  cases lookF a n with
  | none => cases lookF b n with
    | none => simp
    | some y => simp
  | some x => cases lookF b n with
    | none => simp
    | some y =>
      simp only [Option.isSome_some, bne_self_eq_false, Bool.false_or, Option.getD_some]
      cases h : (x.toList == y.toList) with
      | false =>
        have := (val_ne x y).2 h
        simp only [bne, h]
        simpa using this
      | true =>
        have : x = y := Decidable.not_not.1 (fun h2 => by rw [(val_ne x y).1 h2] at h; cases h)
        subst this
        simp
set_option maxRecDepth 100000 in
set_option maxHeartbeats 4000000 in
theorem PChanged_any (A B : Option Addr) (ca cb : Nat) (a b : List At) (w : World) (ha : RowAt w w.heap.size A 2 a.length (cellsOf encAt a)) (hb : RowAt w w.heap.size B 2 b.length (cellsOf encAt b)) (hla : a.length ≤ 40000) (hlb : b.length ≤ 40000) (hca : a.length ≤ ca) (hcb : b.length ≤ cb)
    (hza : ∀ x ∈ a, FileOk x) (hzb : ∀ x ∈ b, FileOk x) :
    Calls Tryz.prog 25 #[.slice A a.length ca, .slice B b.length cb] w (TextsPost (changedF a b) w) := by
  have hta := Texts_any A ca a w ha (by omega) hza
  have htb := fun W (hW : Below w.heap.size w W) => Texts_any B cb b W ((hb.keep hW).up hW.size) (by omega) hzb
  unfold MapPost at hta htb
  have HTa := Lib.hid hta
  have HTb := Lib.hid htb
  have HCc : Hid (∀ W0, Below w.heap.size w W0 → Calls Tryz.prog 59 #[.slice (some ⟨W0.heap.size, 0, none⟩) 2 2] (W0.alloc (.cells #[.slice A a.length ca, .slice B b.length cb] 31)) fun e w' => ∃ v, e = .returned v ∧ OutIn (W0.alloc (.cells #[.slice A a.length ca, .slice B b.length cb] 31)) (a ++ b) v w') := Lib.hid fun W0 hW0 => by
    have hb0 : Below w.heap.size w (W0.alloc (.cells #[.slice A a.length ca, .slice B b.length cb] 31)) := bt hW0 (below_alloc _ _)
    have hd : DirsAt (W0.alloc (.cells #[.slice A a.length ca, .slice B b.length cb] 31)) (some ⟨W0.heap.size, 0, none⟩) [⟨A, ca, a⟩, ⟨B, cb, b⟩] := by
      refine ⟨?_, fun d hd => ?_, fun d hd => ?_⟩
      · exact ⟨rfl, fun _ => ⟨W0.heap.size, 0, rfl, by simp, fun j u hu => by rw [Nat.zero_add, cell_of_row _ _ j _ _ _ (heap_alloc_new W0 _)]; simpa [Ls.v] using hu⟩⟩
      · rcases List.mem_cons.1 hd with rfl | hd
        · exact (ha.keep hb0).up hb0.size
        · obtain rfl := List.mem_singleton.1 hd
          exact (hb.keep hb0).up hb0.size
      · rcases List.mem_cons.1 hd with rfl | hd
        · exact hca
        · obtain rfl := List.mem_singleton.1 hd
          exact hcb
    have h := Concat_any (some ⟨W0.heap.size, 0, none⟩) 2 _ _ hd (by simp [bulk]; omega)
    have e : catF [(⟨A, ca, a⟩ : Ls At), ⟨B, cb, b⟩] = a ++ b := by simp [catF]
    rw [e] at h
    exact h
  have HCh := Lib.hid (changed_is a b)
  have HDf := Lib.hid (difF_look a b)
  have HZ : Hid (∀ x ∈ a ++ b, FileOk x) := Lib.hid fun x hx => (List.mem_append.1 hx).elim (hza x) (hzb x)
  obtain ⟨i0, hi0, hz0, hz1, hz2⟩ := info_parts strInfo
  have Hi0 := Lib.hid hi0
  have Hz0 := Lib.hid hz0
  have Hz1 := Lib.hid hz1
  have Hz2 := Lib.hid hz2
  have hfl : (a ++ b).length ≤ 80000 := by rw [List.length_append]; omega
  clear hi0 hz0 hz1 hz2 ha hb hta htb hza hzb
  generalize hfs : a ++ b = fs at *
  generalize hnn : fs.length = N at *
  have HN := Lib.hid hnn
  clear hfs hnn
  go_enter Tryz.func25, Tryz.ntmps25
  go_wp2_with (first
    | (go_at_call_of 56 (Value.slice A a.length ca); refine HTa.out.mono ?_; rintro e w1 ⟨rfl, hm1, hb1⟩; have HM1 := Lib.hid hm1; have HB1 := Lib.hid hb1; clear hm1 hb1)
    | (go_at_call_of 56 (Value.slice B b.length cb); refine (HTb.out _ HB1.out).mono ?_; rintro e w2 ⟨rfl, hm2, hb2⟩; have HM2 := Lib.hid hm2; have HM12 := Lib.hid (HM1.out.kept (grown_below hb2 none) (by simp)); have HB2 := Lib.hid (bt HB1.out hb2); clear hm2 hb2)
    | (go_at_call 59; refine (HCc.out _ HB2.out).mono ?_; rintro e w3 ⟨v3, rfl, hO3⟩; have HB23 := Lib.hid (bt (below_alloc w2 _) hO3.2); obtain ⟨A3, c3, rfl, hc3⟩ := own_slice2 hO3.1; have hR3 := RowAt.of_own hO3.1; rw [HN.out] at hR3 ⊢; have HR3 := Lib.hid hR3; clear hO3 hc3 hR3))
  have HB3 := Lib.hid (bt HB2.out HB23.out)
  have HL1 := Lib.hid (fun W (hW : Below w3.heap.size w3 W) => look_text (W := W) (HM12.out.kept (grown_below (bt HB23.out hW) none) (by simp)))
  have HL2 := Lib.hid (fun W (hW : Below w3.heap.size w3 W) => look_text (W := W) (HM2.out.kept (grown_below (bt HB23.out hW) none) (by simp)))
  clear HM1 HM2 HM12 HTa HTb HCc HB1 HB2 HB23
  go_loopg [7, 9, 10, 11, 12, 13, 23] (N + 1) (fun gk s7 _ _ _ _ _ s23 wr => ∃ (k : Nat) (v : Value), v = s7 ∧ s23 = .int .i64 k ∧ k + gk = N + 1 ∧ k ≤ N ∧ Hid (OutT w3 (((fs.take k).map nm).filter (difF a b)) v wr))
  case atStart => exact ⟨0, _, rfl, rfl, by omega, Nat.zero_le _, OutT.start (Below.refl _ _)⟩
  case round =>
    obtain ⟨k, v, rfl, rfl, hkg, hkN, hO⟩ := hrel
    by_cases hlt : k < N
    · have hltI : (k : Int) < (N : Int) := by omega
      have hk' : k < fs.length := by rw [HN.out]; exact hlt
      obtain ⟨x, hx⟩ : ∃ x, fs[k]? = some x := ⟨_, List.getElem?_eq_getElem hk'⟩
      have hrow := HR3.out
      rw [← HN.out] at hrow
      obtain ⟨ba, off, hA, hba, hcc⟩ := hrow.fileX hx
      obtain ⟨c0, c1⟩ := hcc wr hO.out.2
      subst hA
      have hxs := (HZ.out x (List.mem_of_getElem? hx)).1
      have HFm : Hid (((fs.take (k + 1)).map nm).filter (difF a b) = ((fs.take k).map nm).filter (difF a b) ++ (if difF a b (L x.name) then [L x.name] else [])) := Lib.hid (by rw [List.take_add_one, hx, Option.toList_some, List.map_append, List.filter_append, show [x].map nm = [L x.name] from rfl]; simp [List.filter_cons])
      have hol : (((fs.take k).map nm).filter (difF a b)).length ≤ 80000 := by
        have h1 := List.length_filter_le (difF a b) ((fs.take k).map nm)
        rw [List.length_map, List.length_take] at h1
        omega
      obtain ⟨ol, hoo⟩ : ∃ ol, ((fs.take k).map nm).filter (difF a b) = ol := ⟨_, rfl⟩
      rw [hoo] at HFm hol hO
      have hbw := bt hO.out.2 (below_alloc wr (.cells #[.string x.name, .string x.val] 34))
      have hl1 := HL1.out _ hbw x.name hxs
      have hl2 := HL2.out _ hbw x.name hxs
      have HD := Lib.hid (HDf.out (L x.name))
      have hw3r := hO.out.2.size
      have hbar : ba < wr.heap.size := by omega
      have HO4 := Lib.hid (hO.out.go (below_alloc wr (.cells #[.string x.name, .string x.val] 34)))
      have hHn : bs (L x.name) = x.name := bs_L _
      have HHn := Lib.hid hHn
      clear hoo hbw hcc hrow hk' hxs hHn
      generalize (lookF a (L x.name)).isSome = h1 at *
      generalize (lookF b (L x.name)).isSome = h2 at *
      generalize (lookF a (L x.name)).getD ⟨#[]⟩ = s1 at *
      generalize (lookF b (L x.name)).getD ⟨#[]⟩ = s2 at *
      cases h1 <;> cases h2
      case false.false =>
        cases hq : (s1.toList == s2.toList)
        · have hqn : (s1.toList != s2.toList) = true := by simp only [bne, hq]; rfl
          have HD1 : Hid (difF a b (L x.name) = true) := Lib.hid (by rw [HD.out, hqn]; rfl)
          have HF1 : Hid (((fs.take (k + 1)).map nm).filter (difF a b) = ol ++ [L x.name]) := Lib.hid (by rw [HFm.out, HD1.out]; simp)
          clear HFm HD1 HD
          go_wp2_with (first
            | (at_builtin; refine wpList_append_lies _ rfl _ _ _ (by rfl) w3.heap.size 9 i0 _ 1 16 Tryz.underlying45 Hi0.out Hz0.out Hz1.out Hz2.out rfl (by omega) v ol.length (ol.map strV) (by rfl) (HO4.out.1.alloc _) _ 1 1 [.string x.name] (by rfl) (by rfl) (by exact World.news_of_block (heap_alloc2_new wr _ _)) (by simp [Value.oneCell']) (by omega) (by unfold maxLen; omega) (by omega) (by simp; omega) _ rfl ?_; intro g2 cap w9 hown2 hgrow2 hat2 hlt2; have HO9 := Lib.hid (HO4.out.snoc (y := L x.name) (by rw [strV, HHn.out]; exact hown2) hgrow2); clear hown2 hgrow2 hat2 hlt2))
          go_wp2
          go_roundg (gk - 1)
          case measure => omega
          case rel => exact ⟨k + 1, _, rfl, by go_num, by omega, by omega, by rw [HF1.out]; exact HO9.out⟩
        · have hqn : (s1.toList != s2.toList) = false := by simp only [bne, hq]; rfl
          have HD1 : Hid (difF a b (L x.name) = false) := Lib.hid (by rw [HD.out, hqn]; rfl)
          have HF1 : Hid (((fs.take (k + 1)).map nm).filter (difF a b) = ol) := Lib.hid (by rw [HFm.out, HD1.out]; simp)
          clear HFm HD1 HD
          go_wp2_with (first
            | (at_builtin; refine wpList_append_lies _ rfl _ _ _ (by rfl) w3.heap.size 9 i0 _ 1 16 Tryz.underlying45 Hi0.out Hz0.out Hz1.out Hz2.out rfl (by omega) v ol.length (ol.map strV) (by rfl) (HO4.out.1.alloc _) _ 1 1 [.string x.name] (by rfl) (by rfl) (by exact World.news_of_block (heap_alloc2_new wr _ _)) (by simp [Value.oneCell']) (by omega) (by unfold maxLen; omega) (by omega) (by simp; omega) _ rfl ?_; intro g2 cap w9 hown2 hgrow2 hat2 hlt2; have HO9 := Lib.hid (HO4.out.snoc (y := L x.name) (by rw [strV, HHn.out]; exact hown2) hgrow2); clear hown2 hgrow2 hat2 hlt2))
          go_wp2
          go_roundg (gk - 1)
          case measure => omega
          case rel => exact ⟨k + 1, _, rfl, by go_num, by omega, by omega, by rw [HF1.out]; exact HO4.out⟩
      case false.true =>
        have HD1 : Hid (difF a b (L x.name) = true) := Lib.hid (by rw [HD.out]; rfl)
        have HF1 : Hid (((fs.take (k + 1)).map nm).filter (difF a b) = ol ++ [L x.name]) := Lib.hid (by rw [HFm.out, HD1.out]; simp)
        clear HFm HD1 HD
        go_wp2_with (first
            | (at_builtin; refine wpList_append_lies _ rfl _ _ _ (by rfl) w3.heap.size 9 i0 _ 1 16 Tryz.underlying45 Hi0.out Hz0.out Hz1.out Hz2.out rfl (by omega) v ol.length (ol.map strV) (by rfl) (HO4.out.1.alloc _) _ 1 1 [.string x.name] (by rfl) (by rfl) (by exact World.news_of_block (heap_alloc2_new wr _ _)) (by simp [Value.oneCell']) (by omega) (by unfold maxLen; omega) (by omega) (by simp; omega) _ rfl ?_; intro g2 cap w9 hown2 hgrow2 hat2 hlt2; have HO9 := Lib.hid (HO4.out.snoc (y := L x.name) (by rw [strV, HHn.out]; exact hown2) hgrow2); clear hown2 hgrow2 hat2 hlt2))
        go_wp2
        go_roundg (gk - 1)
        case measure => omega
        case rel => exact ⟨k + 1, _, rfl, by go_num, by omega, by omega, by rw [HF1.out]; exact HO9.out⟩
      case true.false =>
        have HD1 : Hid (difF a b (L x.name) = true) := Lib.hid (by rw [HD.out]; rfl)
        have HF1 : Hid (((fs.take (k + 1)).map nm).filter (difF a b) = ol ++ [L x.name]) := Lib.hid (by rw [HFm.out, HD1.out]; simp)
        clear HFm HD1 HD
        go_wp2_with (first
            | (at_builtin; refine wpList_append_lies _ rfl _ _ _ (by rfl) w3.heap.size 9 i0 _ 1 16 Tryz.underlying45 Hi0.out Hz0.out Hz1.out Hz2.out rfl (by omega) v ol.length (ol.map strV) (by rfl) (HO4.out.1.alloc _) _ 1 1 [.string x.name] (by rfl) (by rfl) (by exact World.news_of_block (heap_alloc2_new wr _ _)) (by simp [Value.oneCell']) (by omega) (by unfold maxLen; omega) (by omega) (by simp; omega) _ rfl ?_; intro g2 cap w9 hown2 hgrow2 hat2 hlt2; have HO9 := Lib.hid (HO4.out.snoc (y := L x.name) (by rw [strV, HHn.out]; exact hown2) hgrow2); clear hown2 hgrow2 hat2 hlt2))
        go_wp2
        go_roundg (gk - 1)
        case measure => omega
        case rel => exact ⟨k + 1, _, rfl, by go_num, by omega, by omega, by rw [HF1.out]; exact HO9.out⟩
      case true.true =>
        cases hq : (s1.toList == s2.toList)
        · have hqn : (s1.toList != s2.toList) = true := by simp only [bne, hq]; rfl
          have HD1 : Hid (difF a b (L x.name) = true) := Lib.hid (by rw [HD.out, hqn]; rfl)
          have HF1 : Hid (((fs.take (k + 1)).map nm).filter (difF a b) = ol ++ [L x.name]) := Lib.hid (by rw [HFm.out, HD1.out]; simp)
          clear HFm HD1 HD
          go_wp2_with (first
            | (at_builtin; refine wpList_append_lies _ rfl _ _ _ (by rfl) w3.heap.size 9 i0 _ 1 16 Tryz.underlying45 Hi0.out Hz0.out Hz1.out Hz2.out rfl (by omega) v ol.length (ol.map strV) (by rfl) (HO4.out.1.alloc _) _ 1 1 [.string x.name] (by rfl) (by rfl) (by exact World.news_of_block (heap_alloc2_new wr _ _)) (by simp [Value.oneCell']) (by omega) (by unfold maxLen; omega) (by omega) (by simp; omega) _ rfl ?_; intro g2 cap w9 hown2 hgrow2 hat2 hlt2; have HO9 := Lib.hid (HO4.out.snoc (y := L x.name) (by rw [strV, HHn.out]; exact hown2) hgrow2); clear hown2 hgrow2 hat2 hlt2))
          go_wp2
          go_roundg (gk - 1)
          case measure => omega
          case rel => exact ⟨k + 1, _, rfl, by go_num, by omega, by omega, by rw [HF1.out]; exact HO9.out⟩
        · have hqn : (s1.toList != s2.toList) = false := by simp only [bne, hq]; rfl
          have HD1 : Hid (difF a b (L x.name) = false) := Lib.hid (by rw [HD.out, hqn]; rfl)
          have HF1 : Hid (((fs.take (k + 1)).map nm).filter (difF a b) = ol) := Lib.hid (by rw [HFm.out, HD1.out]; simp)
          clear HFm HD1 HD
          go_wp2_with (first
            | (at_builtin; refine wpList_append_lies _ rfl _ _ _ (by rfl) w3.heap.size 9 i0 _ 1 16 Tryz.underlying45 Hi0.out Hz0.out Hz1.out Hz2.out rfl (by omega) v ol.length (ol.map strV) (by rfl) (HO4.out.1.alloc _) _ 1 1 [.string x.name] (by rfl) (by rfl) (by exact World.news_of_block (heap_alloc2_new wr _ _)) (by simp [Value.oneCell']) (by omega) (by unfold maxLen; omega) (by omega) (by simp; omega) _ rfl ?_; intro g2 cap w9 hown2 hgrow2 hat2 hlt2; have HO9 := Lib.hid (HO4.out.snoc (y := L x.name) (by rw [strV, HHn.out]; exact hown2) hgrow2); clear hown2 hgrow2 hat2 hlt2))
          go_wp2
          go_roundg (gk - 1)
          case measure => omega
          case rel => exact ⟨k + 1, _, rfl, by go_num, by omega, by omega, by rw [HF1.out]; exact HO4.out⟩
    · obtain rfl : k = N := by omega
      have hO5 := hO.out
      rw [List.take_of_length_le (by rw [HN.out]; exact Nat.le_refl _)] at hO5
      have hol : ((fs.map nm).filter (difF a b)).length ≤ 80000 := by
        have h1 := List.length_filter_le (difF a b) (fs.map nm)
        rw [List.length_map, HN.out] at h1
        omega
      obtain ⟨ol, hoo⟩ : ∃ ol, (fs.map nm).filter (difF a b) = ol := ⟨_, rfl⟩
      rw [hoo] at hO5 hol HCh
      obtain ⟨A5, c5, rfl, hc5⟩ := own_slice2 hO5.1
      have HO5 := Lib.hid hO5
      clear hoo hO5 hO
      go_wp2_with fail
      refine (SortT_any HO5.out.1 (by omega)).mono ?_
      rintro e w6 ⟨rfl, hs6, hg6⟩
      have HO6 : Hid (OutT w3 (ol.mergeSort fun x y => decide (x ≤ y)) (.slice A5 (ol.mergeSort fun x y => decide (x ≤ y)).length c5) w6) := Lib.hid ⟨by rw [List.length_mergeSort]; exact hs6, HO5.out.2.grown hg6 HO5.out.2.size (fun j e => (HO5.out.1.lt j e).1)⟩
      have HLn : Hid ((ol.mergeSort fun x y => decide (x ≤ y)).length = ol.length) := Lib.hid (List.length_mergeSort ..)
      clear hs6 hg6
      go_wp2_with fail
      rw [← HLn.out]
      refine (CompactT_any HO6.out.1 (by rw [HLn.out]; omega)).mono ?_
      rintro e w7 ⟨rfl, hs7, hg7⟩
      rw [HCh.out] at hs7
      have HO7 : Hid (TextsPost (changedF a b) w (.returned (.slice A5 (changedF a b).length c5)) w7) := Lib.hid (TextsPost.of_own hs7 rfl rfl (bt HB3.out (HO6.out.2.grown hg7 HO6.out.2.size (fun j e => (HO6.out.1.lt j e).1))))
      rw [HCh.out]
      clear hs7 hg7
      go_wp2
      go_ret
      exact HO7.out
end Go.Proofs.YthcgkeiggnfgiaaGreatDoor
