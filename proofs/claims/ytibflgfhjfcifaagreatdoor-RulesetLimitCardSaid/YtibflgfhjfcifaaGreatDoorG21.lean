/-
  Contracts of the reference's find and put.
  Contract of the reference's Names.
  Contract of the reference's Check of directories.
  Contract of the reference's Merge of directories.
-/
import Derived.Test.YtibflgfhjfcifaaGreatDoorG20
import Derived.Test.YtibflgfhjfcifaaGreatDoorG00
import Derived.Test.YtibflgfhjfcifaaGreatDoorG16
import Derived.Test.YtibflgfhjfcifaaGreatDoorG08
import Derived.Test.YtibflgfhjfcifaaGreatDoorG06
import Derived.Deep.AppendLies
namespace Go.Proofs.YtibflgfhjfcifaaGreatDoor
open Go.RowKit
theorem findF_hit {l : List At} {n : Str} {k : Nat} {x : At} (hx : l[k]? = some x) (hno : ∀ (j : Nat) (y : At), j < k → l[j]? = some y → (L y.name == n) = false) (hyes : (L x.name == n) = true) : findF l n = some x := by
 induction l generalizing k with
 | nil => simp at hx
 | cons y l ih =>
   cases k with
   | zero =>
     simp at hx
     subst hx
     simp only [findF, nm, List.find?_cons, hyes]
   | succ k =>
     have h0 := hno 0 y (by omega) (by simp)
     have := ih (k := k) (by simpa using hx) (fun j z hj hz => hno (j + 1) z (by omega) (by simpa using hz))
     simp only [findF, nm, List.find?_cons, h0] at this ⊢
     exact this
theorem findF_miss {l : List At} {n : Str} (hno : ∀ (j : Nat) (y : At), l[j]? = some y → (L y.name == n) = false) : findF l n = none := by
 unfold findF
 rw [List.find?_eq_none]
 intro x hx
 obtain ⟨j, hj⟩ := List.getElem?_of_mem hx
 rw [show (nm x == n) = false from hno j x hj]; simp
def foundV : Option At → Value
 | some x => .tuple #[.agg #[.string x.name, .string x.val], .bool true]
 | none => .tuple #[.agg #[.string ⟨#[]⟩, .string ⟨#[]⟩], .bool false]
def FindPost (o : Option At) (w : World) (e : Ending) (w' : World) : Prop := e = .returned (foundV o) ∧ Below w.heap.size w w'
set_option maxRecDepth 100000 in
set_option maxHeartbeats 1000000 in
theorem RFind_any (A : Option Addr) (c : Nat) (l : List At) (nm : ByteArray) (w : World) (h : RowAt w w.heap.size A 2 l.length (cellsOf encAt l)) (hl : l.length ≤ 4611686018427387904) :
 Calls Tryz.prog 38 #[.slice A l.length c, .string nm] w (FindPost (findF l (L nm)) w) := by
 have H := Lib.hid h
 clear h
 generalize hN : l.length = N at hl ⊢
 have HN := Lib.hid hN
 clear hN
 go_enter Tryz.func38, Tryz.ntmps38
 go_wp2
 go_loop [6] (fun i => ∃ k : Nat, k ≤ N ∧ i = .int .i64 k ∧ Hid (∀ (j : Nat) (y : At), j < k → l[j]? = some y → (L y.name == L nm) = false)) (fun i => N - (intOf i).toNat)
 case atStart => exact ⟨0, Nat.zero_le _, rfl, fun j y hj => absurd hj (by omega)⟩
 case round =>
  obtain ⟨k, hk, rfl, hp⟩ := hrel
  by_cases hlt : k < N
  · have hlt' : k < l.length := by rw [HN.out]; exact hlt
    obtain ⟨ba, off, rfl, hB, hc⟩ := H.out.cell encAt_len hlt'
    obtain ⟨x, hx⟩ : ∃ x, l[k]? = some x := ⟨_, List.getElem?_eq_getElem hlt'⟩
    have c0 : w.cell? ⟨ba, off + k * 2, none⟩ = some (.string x.name) := hc k x hx 0 _ rfl
    have c1 : w.cell? ⟨ba, off + k * 2 + 1, none⟩ = some (.string x.val) := hc k x hx 1 _ rfl
    have HX := Lib.hid hx
    clear hx hc hlt'
    cases hq : (x.name.toList == nm.toList)
    · go_wp2
      go_round
      case rel =>
       refine ⟨k + 1, by omega, by go_num, fun j y hj hy => ?_⟩
       rcases (by omega : j = k ∨ j < k) with e | e
       · subst e
         rw [HX.out] at hy
         injection hy with hy
         rw [← hy, ← tl, ← tl]
         exact hq
       · exact hp.out j y e hy
      case measure => simp [intOf]; omega
    · have e1 := findF_hit HX.out hp.out (by rw [← tl, ← tl]; exact hq)
      have E1 := Lib.hid e1
      clear e1
      go_wp2
      exact bodyPost_ret (v := .tuple #[.agg #[.string x.name, .string x.val], .bool true]) (by simp [results, Tryz.results38, go_sem]) rfl ⟨by rw [E1.out]; rfl, by go_grown⟩
  · have e1 := findF_miss (l := l) (n := L nm) (fun j y hy => hp.out j y (by have := (List.getElem?_eq_some_iff.1 hy).1; rw [HN.out] at this; omega) hy)
    have E1 := Lib.hid e1
    clear e1
    go_wp2
    exact bodyPost_ret (v := .tuple #[.agg #[.string ⟨#[]⟩, .string ⟨#[]⟩], .bool false]) (by simp [results, Tryz.results38, go_sem]) rfl ⟨by rw [E1.out]; rfl, by go_grown⟩
theorem own_slice2 {W : World} {b : Nat} {e : TypeId} {sz : Nat} {v : Value} {n : Nat} {xs : List Value} (h : W.ownsRow b e sz v n xs) : ∃ A c, v = .slice A n c ∧ n ≤ c := by
 rcases h.2 with ⟨h1, h2⟩ | ⟨g', cap, cur, h1, _, _, hr, _⟩
 · exact ⟨_, _, by rw [h2]; exact h1, by omega⟩
 · exact ⟨_, _, h1, hr⟩
def TextsPost (l : List Str) (w : World) (e : Ending) (w' : World) : Prop := ∃ A c, e = .returned (.slice A l.length c) ∧ l.length ≤ c ∧ RowAt w' w'.heap.size A 1 l.length (l.map strV) ∧ Below w.heap.size w w'
theorem TextsPost.of_own {l : List Str} {w w' : World} {b : Nat} {e : TypeId} {v : Value} {n : Nat} {xs : List Value} (h : w'.ownsRow b e 1 v n xs) (hx : xs = l.map strV) (hn : n = l.length) (hb : Below w.heap.size w w') : TextsPost l w (.returned v) w' := by
 subst hn hx
 obtain ⟨A, c, rfl, hc⟩ := own_slice2 h
 exact ⟨A, c, rfl, hc, RowAt.of_own h, hb⟩
theorem strInfo : (Tryz.prog.info? 9).map (fun i => (i.zero, i.size, i.bytes)) = some (some (.string ⟨#[]⟩), 1, 16) := by kernel_rfl
theorem strV_one (l : List Str) : ∀ u ∈ l.map strV, u.oneCell' = true := fun u hu => by
 obtain ⟨x, _, rfl⟩ := List.mem_map.1 hu; rfl
theorem RowAt.of_block {W : World} {g : Nat} {T : TypeId} {v : Value} (h : W.heap[g]? = some (.cells #[v] T (0, 0))) : RowAt W (g + 1) (some ⟨g, 0, none⟩) 1 1 [v] :=
 ⟨rfl, fun _ => ⟨g, 0, rfl, by omega, fun j u hu => by
  cases j with
  | zero => simp at hu; subst hu; rw [Nat.zero_add, cell_of_row _ _ 0 _ _ _ h]; rfl
  | succ j => simp at hu⟩⟩
theorem RowAt.of_lit (W : World) (T : TypeId) (v : Value) : RowAt (W.alloc (.cells #[v] T)) (W.heap.size + 1) (some ⟨W.heap.size, 0, none⟩) 1 1 [v] := RowAt.of_block (heap_alloc_new W _)
theorem RowAt.rest {w : World} {B n m c : Nat} {A : Option Addr} {xs : List Value} (h : RowAt w B A 1 n xs) (hm : m ≤ n) (hc : n ≤ c) : RowAt w B (if c = m then A else A.map (·.add (m * 1))) 1 (n - m) (xs.drop m) := by
 refine ⟨by rw [List.length_drop, h.len]; omega, fun hlt => ?_⟩
 obtain ⟨ba, off, rfl, hB, hx⟩ := h.at_ (by omega)
 rw [if_neg (by omega)]
 refine ⟨ba, off + m, by rw [Option.map_some, add_plain', Nat.mul_one], hB, fun j u hu => ?_⟩
 rw [List.getElem?_drop] at hu
 rw [Nat.add_assoc]
 exact hx _ _ hu
set_option maxRecDepth 100000 in
set_option maxHeartbeats 4000000 in
theorem RPut_any (A : Option Addr) (c : Nat) (l : List Str) (s : ByteArray) (w : World) (h : RowAt w w.heap.size A 1 l.length (l.map strV)) (hl : l.length ≤ 1000000) (hc : l.length ≤ c) :
 Calls Tryz.prog 65 #[.slice A l.length c, .string s] w (TextsPost (putS l (L s)) w) := by
 have H := Lib.hid h
 have HHd : Hid (∀ k, k ≤ l.length → ∀ W, Below w.heap.size w W → RowAt W W.heap.size A 1 k ((l.take k).map strV)) := Lib.hid fun k hk W hb => by
  have := ((h.keep hb).up hb.size).head hk
  rw [Nat.mul_one, ← List.map_take] at this
  exact this
 have HRs : Hid (∀ k, k ≤ l.length → ∀ W, Below w.heap.size w W → ∀ A', A' = (if c = k then A else A.map (·.add (k * 1))) → RowAt W W.heap.size A' 1 (l.length - k) ((l.drop k).map strV)) := Lib.hid fun k hk W hb A' e => by
  subst e
  have := ((h.keep hb).up hb.size).rest hk hc
  rw [← List.map_drop] at this
  exact this
 have Hend : Hid (∀ W, Below w.heap.size w W → putS l (L s) = l → TextsPost (putS l (L s)) w (.returned (.slice A l.length c)) W) := Lib.hid fun W hb e => by
  rw [e]; exact ⟨A, c, rfl, hc, (h.keep hb).up hb.size, hb⟩
 clear h
 generalize hN : l.length = N at *
 have HN := Lib.hid hN
 clear hN
 have hcI : (N : Int) ≤ (c : Int) := by omega
 obtain ⟨i0, hi0, hz0, hz1, hz2⟩ := info_parts strInfo
 have Hi0 := Lib.hid hi0
 have Hz0 := Lib.hid hz0
 have Hz1 := Lib.hid hz1
 have Hz2 := Lib.hid hz2
 clear hi0 hz0 hz1 hz2
 go_enter Tryz.func65, Tryz.ntmps65
 go_wp2
 go_loop [5] (fun i => ∃ k : Nat, k ≤ N ∧ i = .int .i64 k ∧ Hid (∀ x ∈ l.take k, x < L s)) (fun i => N - (intOf i).toNat)
 case atStart => exact ⟨0, Nat.zero_le _, rfl, fun x hx => by simp at hx⟩
 case round =>
  obtain ⟨k, hk, rfl, hp⟩ := hrel
  have hkI : (k : Int) ≤ (N : Int) := by omega
  have hkc : (k : Int) ≤ (c : Int) := by omega
  have HH := Lib.hid (HHd.out k hk)
  have HR := Lib.hid (HRs.out k hk)
  by_cases hlt : k < N
  · have hlt' : k < l.length := by rw [HN.out]; exact hlt
    have hltI : (k : Int) < (N : Int) := by omega
    have hrow := H.out
    rw [← HN.out] at hrow
    obtain ⟨ba, off, rfl, hB, hx⟩ := hrow.text hlt'
    have c0 := hx w (Below.refl _ _)
    have HX : Hid (∀ x, bs l[k] = x → x.toList = l[k]) := Lib.hid fun x e => by rw [← e, tl, L_bs]
    have HK : Hid (l[k]? = some l[k]) := Lib.hid (List.getElem?_eq_getElem hlt')
    have HT : Hid (l.take (k + 1) = l.take k ++ [l[k]]) := Lib.hid (List.take_succ_eq_append_getElem hlt')
    generalize l[k] = t at *
    have hxe := HX.out _ rfl
    generalize bs t = x at *
    have HE := Lib.hid hxe
    clear hx HX hxe hrow
    cases hq : Op.bytesLess x.toList s.toList
    · have hno : ∀ x, l[k]? = some x → ¬ x < L s := fun y hy => by
       rw [HK.out] at hy
       obtain rfl := Option.some.inj hy
       rw [bless, HE.out, tl] at hq
       simpa using hq
      cases he : (x.toList == s.toList)
      · have HP : Hid (putS l (L s) = l.take k ++ L s :: l.drop k) := Lib.hid (by
         rw [putS_stop hp.out hno (by rw [HN.out]; omega), if_neg]
         rw [HK.out, ← HE.out, ← tl]
         intro e
         rw [Option.some.inj e] at he
         simp at he)
        clear hno
        have hck : ¬ c = k := by omega
        go_wp2
        go_region_held3 (fun _ => True) (trivial) ((first
         | (refine step_append_row rfl (.const (.slice none 0 0)) (.tmp 35) 74 rfl w.heap.size 9 i0 _ 1 16 Tryz.underlying74 Hi0.out Hz0.out Hz1.out Hz2.out rfl (by omega) (.slice none 0 0) 0 [] rfl (World.ownsRow_nil _ _ _ _) _ k _ _ _ rfl (HH.out _ ?_) (strV_one _) ?_ ?_ ?_ ?_
            · go_grown
            · unfold maxLen; omega
            · omega
            · first | exact Nat.le_refl _ | (simp; done)
            intro v1 w1 hown1 hgrow1 hloc1 hnn1
            have HB1 : Hid (Below w.heap.size w w1) := Lib.hid (bt (by go_grown) (grown_none hgrow1))
            have HO1 := Lib.hid hown1
            have HS1 : Hid (∀ (o : Obj) (W : World), W.grownBy w1 none → W.heap[w.heap.size]? = some o → w1.heap[w.heap.size]? = some o) := Lib.hid fun o W hg h0 => (hg.block _ (blk_lt' h0) (by simp)).trans h0
            have hw1 := HB1.out.size
            clear hown1 hloc1 hnn1
            have HG1 := Lib.hid hgrow1
            clear hgrow1)
         | (have _t := HG1
            first
            | (refine step_append_row rfl (.tmp 36) (.tmp 38) 74 rfl w.heap.size 9 i0 _ 1 16 Tryz.underlying74 Hi0.out Hz0.out Hz1.out Hz2.out rfl (by omega) _ (0 + k) ([] ++ (l.take k).map strV) rfl (HO1.out.alloc _) (some ⟨w1.heap.size, 0, none⟩) 1 1 (w1.heap.size + 1) [Value.string s] rfl ?_ ?_ ?_ ?_ ?_ ?_
               · exact RowAt.of_lit _ _ _
               · simp [Value.oneCell']
               · unfold maxLen; omega
               · omega
               · first | omega | (simp; omega)
               intro v2 w2 hown2 hgrow2 hloc2 hnn2
               have HB2 : Hid (Below w.heap.size w w2) := Lib.hid ((bt HB1.out (below_alloc _ _)).grown hgrow2 (by simp; omega) (fun j e => (HO1.out.lt j e).1))
               have HO2 := Lib.hid hown2
               have hw2 := HB2.out.size
               clear hown2 hgrow2 hloc2 hnn2 HG1)
            | (refine step_append_row rfl (.tmp 36) (.tmp 38) 74 rfl w.heap.size 9 i0 _ 1 16 Tryz.underlying74 Hi0.out Hz0.out Hz1.out Hz2.out rfl (by omega) _ (0 + k) ([] ++ (l.take k).map strV) rfl HO1.out (some ⟨w.heap.size, 0, none⟩) 1 1 (w.heap.size + 1) [Value.string s] rfl ?_ ?_ ?_ ?_ ?_ ?_
               · exact RowAt.of_block (HS1.out _ _ HG1.out (heap_alloc_new w _))
               · simp [Value.oneCell']
               · unfold maxLen; omega
               · omega
               · first | omega | (simp; omega)
               intro v2 w2 hown2 hgrow2 hloc2 hnn2
               have HB2 : Hid (Below w.heap.size w w2) := Lib.hid (HB1.out.grown hgrow2 (by omega) (fun j e => (HO1.out.lt j e).1))
               have HO2 := Lib.hid hown2
               have hw2 := HB2.out.size
               clear hown2 hgrow2 hloc2 hnn2 HG1))
         | (refine step_append_row rfl (.tmp 39) (.tmp 42) 74 rfl w.heap.size 9 i0 _ 1 16 Tryz.underlying74 Hi0.out Hz0.out Hz1.out Hz2.out rfl (by omega) _ (0 + k + 1) ([] ++ (l.take k).map strV ++ [Value.string s]) rfl HO2.out _ (N - k) _ _ _ rfl (HR.out _ HB2.out _ ?_) (strV_one _) ?_ ?_ ?_ ?_
            · first | rfl | (simp [add_plain', hck]; done)
            · unfold maxLen; omega
            · omega
            · omega
            intro v3 w3 hown3 hgrow3 hloc3 hnn3
            have HB3 : Hid (Below w.heap.size w w3) := Lib.hid (HB2.out.grown hgrow3 (by omega) (fun j e => (HO2.out.lt j e).1))
            have HO3 := Lib.hid hown3
            clear hown3 hgrow3 hloc3 hnn3)))
        all_goals
         go_wp2
         go_ret
         exact TextsPost.of_own HO3.out (by rw [HP.out, List.map_append, List.map_cons]; simp [strV, bs_L]) (by rw [HP.out]; simp only [List.length_append, List.length_take, List.length_cons, List.length_drop, HN.out]; omega) HB3.out
      · have HP : Hid (putS l (L s) = l) := Lib.hid (by
         rw [putS_stop hp.out hno (by rw [HN.out]; omega), if_pos]
         have : x.toList = s.toList := by simpa using he
         rw [HK.out, ← HE.out, ← tl, this])
        clear hno
        go_wp2
        go_ret
        exact Hend.out _ (Below.refl _ _) HP.out
    · go_wp2
      go_round
      case rel =>
       refine ⟨k + 1, by omega, by go_num, fun y hy => ?_⟩
       rw [HT.out] at hy
       rcases List.mem_append.1 hy with hy | hy
       · exact hp.out y hy
       · obtain rfl := List.mem_singleton.1 hy
         rw [bless, HE.out, tl] at hq
         simpa using hq
      case measure => simp [intOf]; omega
  · have hge : ¬ (k : Int) < (N : Int) := by omega
    have HP : Hid (putS l (L s) = l.take k ++ L s :: l.drop k) := Lib.hid (by
     rw [putS_stop hp.out (fun x hx => by have := (List.getElem?_eq_some_iff.1 hx).1; rw [HN.out] at this; omega) (by rw [HN.out]; exact hk), if_neg]
     intro e
     have := (List.getElem?_eq_some_iff.1 e).1
     rw [HN.out] at this; omega)
    by_cases hck : c = k
    all_goals
     go_wp2
     go_region_held3 (fun _ => True) (trivial) ((first
      | (refine step_append_row rfl (.const (.slice none 0 0)) (.tmp 35) 74 rfl w.heap.size 9 i0 _ 1 16 Tryz.underlying74 Hi0.out Hz0.out Hz1.out Hz2.out rfl (by omega) (.slice none 0 0) 0 [] rfl (World.ownsRow_nil _ _ _ _) _ k _ _ _ rfl (HH.out _ ?_) (strV_one _) ?_ ?_ ?_ ?_
         · go_grown
         · unfold maxLen; omega
         · omega
         · first | exact Nat.le_refl _ | (simp; done)
         intro v1 w1 hown1 hgrow1 hloc1 hnn1
         have HB1 : Hid (Below w.heap.size w w1) := Lib.hid (bt (by go_grown) (grown_none hgrow1))
         have HO1 := Lib.hid hown1
         have HS1 : Hid (∀ (o : Obj) (W : World), W.grownBy w1 none → W.heap[w.heap.size]? = some o → w1.heap[w.heap.size]? = some o) := Lib.hid fun o W hg h0 => (hg.block _ (blk_lt' h0) (by simp)).trans h0
         have hw1 := HB1.out.size
         clear hown1 hloc1 hnn1
         have HG1 := Lib.hid hgrow1
         clear hgrow1)
      | (have _t := HG1
         first
         | (refine step_append_row rfl (.tmp 36) (.tmp 38) 74 rfl w.heap.size 9 i0 _ 1 16 Tryz.underlying74 Hi0.out Hz0.out Hz1.out Hz2.out rfl (by omega) _ (0 + k) ([] ++ (l.take k).map strV) rfl (HO1.out.alloc _) (some ⟨w1.heap.size, 0, none⟩) 1 1 (w1.heap.size + 1) [Value.string s] rfl ?_ ?_ ?_ ?_ ?_ ?_
            · exact RowAt.of_lit _ _ _
            · simp [Value.oneCell']
            · unfold maxLen; omega
            · omega
            · first | omega | (simp; omega)
            intro v2 w2 hown2 hgrow2 hloc2 hnn2
            have HB2 : Hid (Below w.heap.size w w2) := Lib.hid ((bt HB1.out (below_alloc _ _)).grown hgrow2 (by simp; omega) (fun j e => (HO1.out.lt j e).1))
            have HO2 := Lib.hid hown2
            have hw2 := HB2.out.size
            clear hown2 hgrow2 hloc2 hnn2 HG1)
         | (refine step_append_row rfl (.tmp 36) (.tmp 38) 74 rfl w.heap.size 9 i0 _ 1 16 Tryz.underlying74 Hi0.out Hz0.out Hz1.out Hz2.out rfl (by omega) _ (0 + k) ([] ++ (l.take k).map strV) rfl HO1.out (some ⟨w.heap.size, 0, none⟩) 1 1 (w.heap.size + 1) [Value.string s] rfl ?_ ?_ ?_ ?_ ?_ ?_
            · exact RowAt.of_block (HS1.out _ _ HG1.out (heap_alloc_new w _))
            · simp [Value.oneCell']
            · unfold maxLen; omega
            · omega
            · first | omega | (simp; omega)
            intro v2 w2 hown2 hgrow2 hloc2 hnn2
            have HB2 : Hid (Below w.heap.size w w2) := Lib.hid (HB1.out.grown hgrow2 (by omega) (fun j e => (HO1.out.lt j e).1))
            have HO2 := Lib.hid hown2
            have hw2 := HB2.out.size
            clear hown2 hgrow2 hloc2 hnn2 HG1))
      | (refine step_append_row rfl (.tmp 39) (.tmp 42) 74 rfl w.heap.size 9 i0 _ 1 16 Tryz.underlying74 Hi0.out Hz0.out Hz1.out Hz2.out rfl (by omega) _ (0 + k + 1) ([] ++ (l.take k).map strV ++ [Value.string s]) rfl HO2.out _ (N - k) _ _ _ rfl (HR.out _ HB2.out _ ?_) (strV_one _) ?_ ?_ ?_ ?_
         · first | rfl | (simp [hck]; done)
         · unfold maxLen; omega
         · omega
         · omega
         intro v3 w3 hown3 hgrow3 hloc3 hnn3
         have HB3 : Hid (Below w.heap.size w w3) := Lib.hid (HB2.out.grown hgrow3 (by omega) (fun j e => (HO2.out.lt j e).1))
         have HO3 := Lib.hid hown3
         clear hown3 hgrow3 hloc3 hnn3)))
     all_goals
      go_wp2
      go_ret
      exact TextsPost.of_own HO3.out (by rw [HP.out, List.map_append, List.map_cons]; simp [strV, bs_L]) (by rw [HP.out]; simp only [List.length_append, List.length_take, List.length_cons, List.length_drop, HN.out]; omega) HB3.out
end Go.Proofs.YtibflgfhjfcifaaGreatDoor
namespace Go.Proofs.YtibflgfhjfcifaaGreatDoor
open Go.RowKit
def preN (ds : List (Ls At)) (i k : Nat) : List Str := allN ((lsOf ds).take i) ++ (((lsOf ds).getD i []).take k).map nm
theorem preN_zero (ds : List (Ls At)) : preN ds 0 0 = [] := by simp [preN, allN]
theorem preN_next (ds : List (Ls At)) {i : Nat} (hi : i < ds.length) : preN ds i ds[i].l.length = preN ds (i + 1) 0 := by
 have hi' : i < (lsOf ds).length := by simpa [lsOf] using hi
 have e : (lsOf ds).getD i [] = ds[i].l := by rw [List.getD, List.getElem?_eq_getElem hi']; simp [lsOf]
 unfold preN
 rw [e, List.take_length, List.take_succ_eq_append_getElem hi', allN_append, List.take_zero, List.map_nil, List.append_nil]
 have e2 : (lsOf ds)[i] = ds[i].l := by simp [lsOf]
 rw [e2]
 simp [allN]
theorem preN_step (ds : List (Ls At)) {i k : Nat} (hi : i < ds.length) (hk : k < ds[i].l.length) : preN ds i (k + 1) = preN ds i k ++ [nm ds[i].l[k]] := by
 have hi' : i < (lsOf ds).length := by simpa [lsOf] using hi
 have e : (lsOf ds).getD i [] = ds[i].l := by rw [List.getD, List.getElem?_eq_getElem hi']; simp [lsOf]
 unfold preN
 rw [e, List.take_succ_eq_append_getElem hk, List.map_append, List.append_assoc]
 rfl
theorem preN_all (ds : List (Ls At)) {i : Nat} (hi : ds.length ≤ i) : preN ds i 0 = allN (lsOf ds) := by
 unfold preN
 rw [List.take_of_length_le (by simpa [lsOf] using hi)]
 simp
theorem preN_len (ds : List (Ls At)) {i k : Nat} (hi : i < ds.length) (hk : k ≤ ds[i].l.length) : (preN ds i k).length ≤ bulk ds := by
 have hi' : i < (lsOf ds).length := by simpa [lsOf] using hi
 have e : (lsOf ds).getD i [] = ds[i].l := by rw [List.getD, List.getElem?_eq_getElem hi']; simp [lsOf]
 have h1 := allN_len (ds.take i)
 rw [lsOf_take] at h1
 have h2 : bulk ds = bulk (ds.take i) + bulk (ds.drop i) := by rw [← bulk_append, List.take_append_drop]
 have h3 : bulk (ds.drop i) = 1 + ds[i].l.length + bulk (ds.drop (i + 1)) := by rw [List.drop_eq_getElem_cons hi, bulk_cons]
 unfold preN
 rw [e, List.length_append, List.length_map, List.length_take]
 omega
def NamesIn (w : World) (ns : List Str) (v : Value) (wr : World) : Prop := ∃ A c, v = .slice A (namesS ns).length c ∧ (namesS ns).length ≤ c ∧ RowAt wr wr.heap.size A 1 (namesS ns).length ((namesS ns).map strV) ∧ Below w.heap.size w wr
theorem NamesIn.go {w wr w' : World} {ns : List Str} {v : Value} (h : NamesIn w ns v wr) (hb : Below wr.heap.size wr w') : NamesIn w ns v w' := by
 obtain ⟨A, c, e, hc, hr, hB⟩ := h
 exact ⟨A, c, e, hc, (hr.keep hb).up hb.size, bt hB hb⟩
theorem NamesIn.below {w wr : World} {ns : List Str} {v : Value} (h : NamesIn w ns v wr) : Below w.heap.size w wr := by
 obtain ⟨A, c, e, hc, hr, hB⟩ := h
 exact hB
def PutIn (w _wr : World) (ns : List Str) (e : Ending) (w' : World) : Prop := ∃ v, e = .returned v ∧ NamesIn w ns v w'
theorem NamesIn.put {w wr : World} {ns : List Str} {v : Value} (h : NamesIn w ns v wr) (s : ByteArray) (hl : ns.length ≤ 100000) : Calls Tryz.prog 65 #[v, .string s] wr (PutIn w wr (ns ++ [L s])) := by
 obtain ⟨A, c, rfl, hc, hr, hB⟩ := h
 have hln := len_namesS ns
 refine (RPut_any A c (namesS ns) s wr hr (by omega) hc).mono ?_
 rintro e w' ⟨A', c', rfl, hc', hr', hB'⟩
 rw [← namesS_snoc] at *
 exact ⟨_, rfl, A', c', rfl, hc', hr', bt hB hB'⟩
set_option maxRecDepth 100000 in
set_option maxHeartbeats 4000000 in
theorem RNames_any (A : Option Addr) (c : Nat) (ds : List (Ls At)) (w : World) (h : DirsAt w A ds) (hb : bulk ds ≤ 100000) :
 Calls Tryz.prog 37 #[.slice A ds.length c] w (TextsPost (namesS (allN (lsOf ds))) w) := by
 have H := Lib.hid h
 have HBk := Lib.hid hb
 have hM : ds.length ≤ 100000 := Nat.le_trans (bulk_len ds) hb
 clear h hb
 generalize hMM : ds.length = M at *
 have HM := Lib.hid hMM
 clear hMM
 go_enter Tryz.func37, Tryz.ntmps37
 go_wp2
 go_loopg [3, 4] (M + 1) (fun gk s3 s4 wr => ∃ (k : Nat) (v : Value), v = s3 ∧ s4 = .int .i64 k ∧ k + gk = M + 1 ∧ k ≤ M ∧ Hid (NamesIn w (preN ds k 0) v wr))
 case atStart => exact ⟨0, _, rfl, rfl, by omega, Nat.zero_le _, by rw [preN_zero]; exact ⟨none, 0, rfl, Nat.le_refl _, ⟨rfl, fun h => absurd h (Nat.lt_irrefl 0)⟩, Below.refl _ _⟩⟩
 case round =>
  obtain ⟨k, v, rfl, rfl, hkg, hkM, hN⟩ := hrel
  by_cases hlt : k < M
  · have hltI : (k : Int) < (M : Int) := by omega
    have hk' : k < ds.length := by rw [HM.out]; exact hlt
    obtain ⟨g, off, rfl, hg, hcell, hrow⟩ := H.out.dir hk'
    have HP : Hid (∀ m x, ds[k].l[m]? = some x → preN ds k (m + 1) = preN ds k m ++ [nm x]) := Lib.hid fun m x hx => by
     obtain ⟨hm, rfl⟩ := List.getElem?_eq_some_iff.1 hx
     exact preN_step ds hk' hm
    have HQ : Hid (preN ds k ds[k].l.length = preN ds (k + 1) 0) := Lib.hid (preN_next ds hk')
    have HL : Hid (∀ m, m ≤ ds[k].l.length → (preN ds k m).length ≤ 100000) := Lib.hid fun m hm => Nat.le_trans (preN_len ds hk' hm) HBk.out
    have hl1 : ds[k].l.length ≤ 100000 := Nat.le_of_lt (Nat.lt_of_lt_of_le (bulk_mem (List.getElem_mem hk')) HBk.out)
    have HF : Hid (∀ m x, ds[k].l[m]? = some x → ∃ ba off, ds[k].A = some ⟨ba, off, none⟩ ∧ ba < w.heap.size ∧ ∀ W, Below w.heap.size w W → W.cell? ⟨ba, off + m * 2, none⟩ = some (.string x.name) ∧ W.cell? ⟨ba, off + m * 2 + 1, none⟩ = some (.string x.val)) := Lib.hid fun m x hx => (hrow w (Below.refl _ _)).fileX hx
    generalize ds[k] = d at *
    obtain ⟨dA, dc, dl⟩ := d
    dsimp only at *
    have HC := Lib.hid hcell
    clear hcell hrow hk'
    generalize hNN : dl.length = N at *
    have HNN := Lib.hid hNN
    clear hNN
    go_wp2
    obtain ⟨gko, rfl⟩ : ∃ gko : Nat, gko = gk := ⟨_, rfl⟩
    obtain ⟨wo, rfl⟩ : ∃ wo : World, wo = wr := ⟨_, rfl⟩
    go_loopg [3, 5] (N + 1) (fun gk s3 s5 wr => ∃ (m : Nat) (v : Value), v = s3 ∧ s5 = .int .i64 m ∧ m + gk = N + 1 ∧ m ≤ N ∧ Hid (NamesIn w (preN ds k m) v wr))
    case atStart => exact ⟨0, _, rfl, rfl, by omega, Nat.zero_le _, hN.out⟩
    case round =>
     obtain ⟨m, v, rfl, rfl, hmg, hmN, hN⟩ := hrel
     have hc0 := HC.out _ (hN.out.below)
     by_cases hltm : m < N
     · have hltmI : (m : Int) < (N : Int) := by omega
       obtain ⟨x, hx⟩ : ∃ x, dl[m]? = some x := ⟨_, List.getElem?_eq_getElem (by rw [HNN.out]; exact hltm)⟩
       have HX := Lib.hid (HP.out m x hx)
       obtain ⟨ba, off2, rfl, hba, hcc⟩ := HF.out m x hx
       have hcn := (hcc _ (hN.out.below)).1
       have HPut := Lib.hid (hN.out.put x.name (HL.out m hmN))
       clear hx hcc
       go_wp2_with fail
       refine HPut.out.mono ?_
       rintro e w2 ⟨v2, rfl, hN2⟩
       have HN2 := Lib.hid hN2
       clear hN2 HPut hN
       go_wp2
       go_roundg (gk - 1)
       case measure => omega
       case rel => exact ⟨m + 1, _, rfl, by go_num, by omega, by omega, by rw [HX.out]; exact HN2.out⟩
     · obtain rfl : m = N := by omega
       go_wp2
       go_roundg (gko - 1)
       case measure => omega
       case rel => exact ⟨k + 1, _, rfl, by go_num, by omega, by omega, by rw [← HQ.out]; exact hN.out⟩
  · obtain rfl : k = M := by omega
    have he : preN ds k 0 = allN (lsOf ds) := preN_all ds (by rw [HM.out]; exact Nat.le_refl _)
    have HE := Lib.hid he
    clear he
    go_wp2
    go_ret
    obtain ⟨A1, c1, rfl, hc1, hr1, hB1⟩ := hN.out
    rw [HE.out] at *
    exact ⟨A1, c1, rfl, hc1, hr1, hB1⟩
end Go.Proofs.YtibflgfhjfcifaaGreatDoor
namespace Go.Proofs.YtibflgfhjfcifaaGreatDoor
open Go.RowKit
def ErrPost (n : Int) (w : World) (e : Ending) (w' : World) : Prop := e = .returned (.int .i64 n) ∧ Below w.heap.size w w'
set_option maxRecDepth 100000 in
set_option maxHeartbeats 8000000 in
theorem RCheckD_any (A : Option Addr) (c : Nat) (ds : List (Ls At)) (w : World) (h : DirsAt w A ds) (hb : bulk ds ≤ 100000) (hsz : ∀ d ∈ ds, ∀ x ∈ d.l, x.name.size ≤ 9223372036854775807) :
 Calls Tryz.prog 36 #[.slice A ds.length c] w (ErrPost (checkF (lsOf ds)) w) := by
 have H := Lib.hid h
 have HBk := Lib.hid hb
 have HSz := Lib.hid hsz
 have HNm := Lib.hid (fun W (hW : Below w.heap.size w W) => RNames_any A c ds W (h.keep hW) hb)
 have hM : ds.length ≤ 100000 := Nat.le_trans (bulk_len ds) hb
 have HBad : Hid (∀ (k : Nat) (d : Ls At), ds[k]? = some d → badD d.l = true → checkF (lsOf ds) = 171) := Lib.hid fun k d hk hd => check_bad (List.mem_map.2 ⟨d, List.mem_of_getElem? hk, rfl⟩) hd
 have HGood : Hid ((∀ (j : Nat) (d : Ls At), j < ds.length → ds[j]? = some d → badD d.l = false) → checkF (lsOf ds) = if 64 < (namesS (allN (lsOf ds))).length then 170 else 0) := Lib.hid fun hg => check_good fun l hl => by
  obtain ⟨d, hd, rfl⟩ := List.mem_map.1 hl
  obtain ⟨j, hj⟩ := List.getElem?_of_mem hd
  exact hg j d (List.getElem?_eq_some_iff.1 hj).1 hj
 clear h hb hsz
 generalize hMM : ds.length = M at *
 have HM := Lib.hid hMM
 clear hMM
 generalize checkF (lsOf ds) = ce at *
 go_enter Tryz.func36, Tryz.ntmps36
 go_wp2
 go_loopg [3] (M + 1) (fun gk s3 wr => ∃ (k : Nat), s3 = .int .i64 k ∧ k + gk = M + 1 ∧ k ≤ M ∧ Hid (∀ (j : Nat) (d : Ls At), j < k → ds[j]? = some d → badD d.l = false) ∧ Hid (Below w.heap.size w wr))
 case atStart => exact ⟨0, rfl, by omega, Nat.zero_le _, fun j d hj => absurd hj (by omega), Below.refl _ _⟩
 case round =>
  obtain ⟨k, rfl, hkg, hkM, hG, hW⟩ := hrel
  by_cases hlt : k < M
  · have hltI : (k : Int) < (M : Int) := by omega
    have hk' : k < ds.length := by rw [HM.out]; exact hlt
    obtain ⟨g, off, rfl, hg, hcell, hrow⟩ := H.out.dir hk'
    have HB1 := Lib.hid (HBad.out k ds[k] (List.getElem?_eq_getElem hk'))
    have HDk : Hid (∀ d, ds[k]? = some d → d = ds[k]) := Lib.hid fun d hd => (Option.some.inj ((List.getElem?_eq_getElem hk').symm.trans hd)).symm
    have hl1 : ds[k].l.length ≤ 100000 := Nat.le_of_lt (Nat.lt_of_lt_of_le (bulk_mem (List.getElem_mem hk')) HBk.out)
    have hcp := H.out.cap ds[k] (List.getElem_mem hk')
    have HS1 := Lib.hid (HSz.out ds[k] (List.getElem_mem hk'))
    have HF : Hid (∀ m x, ds[k].l[m]? = some x → ∃ ba off, ds[k].A = some ⟨ba, off, none⟩ ∧ ba < w.heap.size ∧ ∀ W, Below w.heap.size w W → W.cell? ⟨ba, off + m * 2, none⟩ = some (.string x.name) ∧ W.cell? ⟨ba, off + m * 2 + 1, none⟩ = some (.string x.val)) := Lib.hid fun m x hx => (hrow w (Below.refl _ _)).fileX hx
    generalize ds[k] = d at *
    obtain ⟨dA, dc, dl⟩ := d
    dsimp only at *
    have HC := Lib.hid hcell
    have HFd : Hid (∀ m n, m ≤ dl.length → ∀ W, Below w.heap.size w W → Calls Tryz.prog 38 #[.slice dA m dc, .string n] W (FindPost (findF (dl.take m) (L n)) W)) := Lib.hid fun m n hm W hb => by
     have h1 := (hrow W hb).head hm
     rw [cellsOf_take encAt 2 encAt_len] at h1
     have h2 : (dl.take m).length = m := by rw [List.length_take]; omega
     have := RFind_any dA dc (dl.take m) n W (by rw [h2]; exact h1) (by omega)
     rw [h2] at this
     exact this
    clear hcell hrow hk'
    generalize hNN : dl.length = N at *
    have HNN := Lib.hid hNN
    clear hNN
    have hcpI : (N : Int) ≤ (dc : Int) := by omega
    go_wp2
    obtain ⟨gko, rfl⟩ : ∃ gko : Nat, gko = gk := ⟨_, rfl⟩
    obtain ⟨wo, rfl⟩ : ∃ wo : World, wo = wr := ⟨_, rfl⟩
    go_loopg [4] (N + 1) (fun gk s4 wr => ∃ (m : Nat), s4 = .int .i64 m ∧ m + gk = N + 1 ∧ m ≤ N ∧ Hid (GoodPre dl m) ∧ Hid (Below w.heap.size w wr))
    case atStart => exact ⟨0, rfl, by omega, Nat.zero_le _, good_zero _, hW.out⟩
    case round =>
     obtain ⟨m, rfl, hmg, hmN, hGm, hW⟩ := hrel
     have hc0 := HC.out _ hW.out
     by_cases hltm : m < N
     · have hltmI : (m : Int) < (N : Int) := by omega
       have hmc : (m : Int) ≤ (dc : Int) := by omega
       have hlm : m < dl.length := by rw [HNN.out]; exact hltm
       obtain ⟨x, hx⟩ : ∃ x, dl[m]? = some x := ⟨_, List.getElem?_eq_getElem hlm⟩
       obtain ⟨ba, off2, rfl, hba, hcc⟩ := HF.out m x hx
       have hcn := (hcc _ hW.out).1
       have HX := Lib.hid hx
       have HS : Hid (∀ W', Below w.heap.size w W' → Below w.heap.size w W' ∧ W'.cell? ⟨g, off + k, none⟩ = some (.slice (some ⟨ba, off2, none⟩) N dc) ∧ W'.cell? ⟨ba, off2 + m * 2, none⟩ = some (.string x.name)) := Lib.hid fun W' hb => ⟨hb, HC.out W' hb, (hcc W' hb).1⟩
       have hfd := HFd.out m x.name (by omega)
       have hxs := HS1.out x (List.mem_of_getElem? hx)
       have HGs := Lib.hid (fun (hf : findF (dl.take m) (L x.name) = none) (hv : validS (L x.name) = true) => good_step hGm.out hx hf hv)
       have HBv := Lib.hid (fun (hv : validS (L x.name) = false) => HB1.out (bad_val (List.mem_of_getElem? hx) hv))
       have HBd := Lib.hid (fun y (hf : findF (dl.take m) (L x.name) = some y) => HB1.out (bad_dup hx hf))
       clear hx hcc hlm
       have hws := hW.out.size
       cases hfq : findF (dl.take m) (L x.name) with
       | some y =>
         have hce := HBd.out y hfq
         rw [hfq] at hfd
         have HFq := Lib.hid hfd
         unfold FindPost foundV at HFq
         clear hfd hfq HBd HBv HGs
         subst hce
         go_wp2
         go_region_held3 (fun W' => Below w.heap.size w W' ∧ W'.cell? ⟨g, off + k, none⟩ = some (.slice (some ⟨ba, off2, none⟩) N dc) ∧ W'.cell? ⟨ba, off2 + m * 2, none⟩ = some (.string x.name)) ((refine HS.out _ ?_; repeat (first | exact hW.out | refine bD ?_ | refine bA ?_ | refine bt ?_ hb1 | refine bS ?_ (by first | assumption | omega)))) ((go_at_call 38; refine (HFq.out _ (by repeat (first | exact hW.out | refine bD ?_ | refine bA ?_))).mono ?_; rintro e w1 ⟨rfl, hb1⟩; obtain ⟨hc', hf'⟩ := bcell hb1; have hz1 := hb1.size))
         all_goals
          rename_i hHeld
          have HBe := Lib.hid hHeld.1
          clear hHeld
          go_wp2
          go_ret
          exact ⟨rfl, HBe.out⟩
       | none =>
         rw [hfq] at hfd
         have HFq := Lib.hid hfd
         unfold FindPost foundV at HFq
         have HFn := Lib.hid hfq
         clear hfd hfq HBd
         go_wp2
         go_upto_region 7 with fail
         go_cut [6] from 22 to 40 (fun s6 wx => s6 = .bool false ∧ Hid (Below w.heap.size w wx))
         case first =>
          go_region_held3 (fun W' => Below w.heap.size w W' ∧ W'.cell? ⟨g, off + k, none⟩ = some (.slice (some ⟨ba, off2, none⟩) N dc) ∧ W'.cell? ⟨ba, off2 + m * 2, none⟩ = some (.string x.name)) ((refine HS.out _ ?_; repeat (first | exact hW.out | refine bD ?_ | refine bA ?_ | refine bt ?_ hb1 | refine bS ?_ (by first | assumption | omega)))) ((go_at_call 38; refine (HFq.out _ (by repeat (first | exact hW.out | refine bD ?_ | refine bA ?_))).mono ?_; rintro e w1 ⟨rfl, hb1⟩; obtain ⟨hc', hf'⟩ := bcell hb1; have hz1 := hb1.size))
          all_goals
           rename_i hHeld
           have HBe := Lib.hid hHeld.1
           clear hHeld
           go_wp2
           go_meet
           exact ⟨rfl, HBe.out⟩
         case rest =>
         obtain ⟨rfl, hWx⟩ := hcut
         obtain ⟨_, d1, d2⟩ := HS.out _ hWx.out
         have hV := fun W => RValid_any x.name W hxs
         cases hvq : validS (L x.name) with
         | true =>
           rw [hvq] at hV
           have HV := Lib.hid hV
           have HGs2 := Lib.hid (HGs.out HFn.out hvq)
           clear hV hvq HGs HBv
           go_wp2_with (go_at_call 64; refine (HV.out _).mono ?_; rintro e w5 ⟨rfl, rfl⟩)
           go_roundg (gk - 1)
           case measure => omega
           case rel => exact ⟨m + 1, by go_num, by omega, by omega, HGs2.out, hWx.out⟩
         | false =>
           rw [hvq] at hV
           have HV := Lib.hid hV
           have hce := HBv.out hvq
           subst hce
           clear hV hvq HGs HBv
           go_wp2_with (go_at_call 64; refine (HV.out _).mono ?_; rintro e w5 ⟨rfl, rfl⟩)
           go_ret
           exact ⟨rfl, hWx.out⟩
     · obtain rfl : m = N := by omega
       have HGd := Lib.hid (good_all hGm.out (by rw [HNN.out]; exact Nat.le_refl _))
       go_wp2
       go_roundg (gko - 1)
       case measure => omega
       case rel =>
        refine ⟨k + 1, by go_num, by omega, by omega, fun j d hj hd => ?_, hW.out⟩
        rcases (by omega : j = k ∨ j < k) with e | e
        · subst e
          have := HDk.out d hd
          subst this
          exact HGd.out
        · exact hG.out j d e hd
  · obtain rfl : k = M := by omega
    have hce := HGood.out hG.out
    have HNs := Lib.hid (HNm.out wr hW.out)
    unfold TextsPost at HNs
    have hnl := Nat.le_trans (len_namesS (allN (lsOf ds))) (Nat.le_trans (allN_len ds) HBk.out)
    generalize namesS (allN (lsOf ds)) = ns at *
    generalize ns.length = nl at *
    by_cases h64 : 64 < nl
    · rw [if_pos h64] at hce
      subst hce
      have h64I : (64 : Int) < (nl : Int) := by omega
      go_wp2_with (go_at_call 37; refine HNs.out.mono ?_; rintro e w5 ⟨A5, c5, rfl, hc5, hr5, hb5⟩; have HB5 := Lib.hid (bt hW.out hb5); clear hc5 hr5 hb5)
      go_ret
      exact ⟨rfl, HB5.out⟩
    · rw [if_neg h64] at hce
      subst hce
      have h64I : ¬ (64 : Int) < (nl : Int) := by omega
      go_wp2_with (go_at_call 37; refine HNs.out.mono ?_; rintro e w5 ⟨A5, c5, rfl, hc5, hr5, hb5⟩; have HB5 := Lib.hid (bt hW.out hb5); clear hc5 hr5 hb5)
      go_ret
      exact ⟨rfl, HB5.out⟩
end Go.Proofs.YtibflgfhjfcifaaGreatDoor
namespace Go.Proofs.YtibflgfhjfcifaaGreatDoor
open Go.RowKit
theorem fileInfo : (Tryz.prog.info? 42).map (fun i => (i.zero, i.size, i.bytes)) = some (some (.agg #[.string ⟨#[]⟩, .string ⟨#[]⟩]), 2, 32) := by kernel_rfl
theorem encAt_one (x : At) : ∀ u ∈ encAt x, u.oneCell' = true := by simp [encAt, Value.oneCell']
def FilesPost (r : List At × Int) (w : World) (e : Ending) (w' : World) : Prop := ∃ A c, e = .returned (.tuple #[.slice A r.1.length c, .int .i64 r.2]) ∧ r.1.length ≤ c ∧ RowAt w' w'.heap.size A 2 r.1.length (cellsOf encAt r.1) ∧ Below w.heap.size w w'
theorem pick_step {ds : List (List At)} {n : Str} {k : Nat} {d : List At} (hno : ∀ (j : Nat) (y : List At), j < k → ds[j]? = some y → findF y n = none) (hd : ds[k]? = some d) {x : At} (hx : findF d n = some x) : pickF ds n = some x := by
 induction ds generalizing k with
 | nil => simp at hd
 | cons y ds ih =>
   cases k with
   | zero =>
     simp at hd
     subst hd
     simp [pickF, hx]
   | succ k =>
     have h0 := hno 0 y (by omega) (by simp)
     have := ih (k := k) (fun j z hj hz => hno (j + 1) z (by omega) (by simpa using hz)) (by simpa using hd)
     simp only [pickF, List.findSome?_cons, h0] at this ⊢
     exact this
theorem pick_none {ds : List (List At)} {n : Str} (hno : ∀ (j : Nat) (y : List At), ds[j]? = some y → findF y n = none) : pickF ds n = none := by
 unfold pickF
 rw [List.findSome?_eq_none_iff]
 intro d hd
 obtain ⟨j, hj⟩ := List.getElem?_of_mem hd
 exact hno j d hj
theorem keep_yes {ds : List (List At)} {n : Str} {x : At} (h : pickF ds n = some x) (hx : (L x.val).isEmpty = false) : keepF ds n = some x := keepF_some.2 ⟨h, hx⟩
theorem keep_no {ds : List (List At)} {n : Str} {x : At} (h : pickF ds n = some x) (hx : (L x.val).isEmpty = true) : keepF ds n = none := by
 unfold keepF; rw [h, Option.filter_some, hx]; rfl
theorem keep_none {ds : List (List At)} {n : Str} (h : pickF ds n = none) : keepF ds n = none := by
 unfold keepF; rw [h]; rfl
def OutIn (w : World) (l : List At) (v : Value) (wr : World) : Prop := wr.ownsRow w.heap.size 42 2 v l.length (cellsOf encAt l) ∧ Below w.heap.size w wr
theorem OutIn.go {w wr w' : World} {l : List At} {v : Value} (h : OutIn w l v wr) (hb : Below wr.heap.size wr w') : OutIn w l v w' := ⟨own_below2 h.1 hb, bt h.2 hb⟩
theorem OutIn.start {w wr : World} (h : Below w.heap.size w wr) : OutIn w [] (.slice none 0 0) wr := ⟨World.ownsRow_nil _ _ _ _, h⟩
theorem OutIn.snoc {w wr w9 : World} {l : List At} {v : Value} {y : At} {o : Obj} {A : Option Addr} {c : Nat} (h : OutIn w l v wr) (hown : w9.ownsRow w.heap.size 42 2 (.slice A (l.length + 1) c) (l.length + 1) (cellsOf encAt l ++ encAt y)) (hg : (wr.alloc o).grownBy w9 v.ownBlock) : OutIn w (l ++ [y]) (.slice A (l.length + 1) c) w9 :=
 ⟨own_snoc hown, (bt h.2 (below_alloc _ _)).grown hg (by have := h.2.size; simp; omega) (fun j e => (h.1.lt j e).1)⟩
theorem filterMap_snoc {ns : List Str} {k : Nat} (hk : k < ns.length) (f : Str → Option At) : (ns.take (k + 1)).filterMap f = (ns.take k).filterMap f ++ (f ns[k]).toList := by
 rw [List.take_succ_eq_append_getElem hk, List.filterMap_append]
 cases h : f ns[k] <;> simp [h]
set_option maxRecDepth 100000 in
set_option maxHeartbeats 8000000 in
theorem RMergeD_any (A : Option Addr) (c : Nat) (ds : List (Ls At)) (w : World) (h : DirsAt w A ds) (hb : bulk ds ≤ 100000) (hsz : ∀ d ∈ ds, ∀ x ∈ d.l, x.name.size ≤ 9223372036854775807) :
 Calls Tryz.prog 16 #[.slice A ds.length c] w (FilesPost (mergeF (lsOf ds)) w) := by
 have H := Lib.hid h
 have HBk := Lib.hid hb
 have HCk := Lib.hid (RCheckD_any A c ds w h hb hsz)
 have HNm := Lib.hid (fun W (hW : Below w.heap.size w W) => RNames_any A c ds W (h.keep hW) hb)
 have hM : ds.length ≤ 100000 := Nat.le_trans (bulk_len ds) hb
 unfold ErrPost at HCk
 by_cases hce : checkF (lsOf ds) = 0
 · have HMf : Hid (mergeF (lsOf ds) = (mergeL (lsOf ds), 0)) := Lib.hid (by rw [mergeF, if_pos hce])
   rw [hce] at HCk
   obtain ⟨i0, hi0, hz0, hz1, hz2⟩ := info_parts fileInfo
   have Hi0 := Lib.hid hi0
   have Hz0 := Lib.hid hz0
   have Hz1 := Lib.hid hz1
   have Hz2 := Lib.hid hz2
   have hnl := Nat.le_trans (len_namesS (allN (lsOf ds))) (Nat.le_trans (allN_len ds) hb)
   have HMl : Hid (mergeL (lsOf ds) = (namesS (allN (lsOf ds))).filterMap (keepF (lsOf ds))) := Lib.hid rfl
   have HFd : Hid (∀ (i : Nat) (d : Ls At), ds[i]? = some d → ∀ n, ∀ W, Below w.heap.size w W → Calls Tryz.prog 38 #[.slice d.A d.l.length d.c, .string n] W (FindPost (findF d.l (L n)) W)) := Lib.hid fun i d hd n W hW => by
    obtain ⟨hi, rfl⟩ := List.getElem?_eq_some_iff.1 hd
    have h1 := h.inner ds[i] (List.getElem_mem hi)
    have h2 := bulk_mem (List.getElem_mem hi)
    exact RFind_any _ _ _ n W ((h1.keep hW).up hW.size) (by omega)
   clear hce h hb hsz hi0 hz0 hz1 hz2
   generalize hMM : ds.length = M at *
   have HM := Lib.hid hMM
   clear hMM
   go_enter Tryz.func16, Tryz.ntmps16
   go_wp2_with (go_at_call 36; refine HCk.out.mono ?_; rintro e w1 ⟨rfl, hb1⟩; have HB1 := Lib.hid hb1; clear hb1)
   have HNs := Lib.hid (HNm.out _ HB1.out)
   unfold TextsPost at HNs
   generalize hns : namesS (allN (lsOf ds)) = ns at *
   generalize hnn : ns.length = N at *
   have HN := Lib.hid hnn
   clear hns hnn HCk HNm
   go_wp2_with (go_at_call 37; refine HNs.out.mono ?_; rintro e w2 ⟨A2, c2, rfl, hc2, hr2, hb2⟩; have HR2 := Lib.hid hr2; have HB2 := Lib.hid (bt HB1.out hb2); clear hc2 hr2 hb2)
   clear HNs
   have H2 := Lib.hid (H.out.keep HB2.out)
   have HF2 : Hid (∀ (i : Nat) (d : Ls At), ds[i]? = some d → ∀ n, ∀ W, Below w2.heap.size w2 W → Calls Tryz.prog 38 #[.slice d.A d.l.length d.c, .string n] W (FindPost (findF d.l (L n)) W)) := Lib.hid fun i d hd n W hW => HFd.out i d hd n W (bt HB2.out hW)
   clear H HFd HB1
   go_loopg [5, 7] (N + 1) (fun gk s5 s7 wr => ∃ (k : Nat) (v : Value), v = s5 ∧ s7 = .int .i64 k ∧ k + gk = N + 1 ∧ k ≤ N ∧ Hid (OutIn w2 ((ns.take k).filterMap (keepF (lsOf ds))) v wr))
   case atStart => exact ⟨0, _, rfl, rfl, by omega, Nat.zero_le _, OutIn.start (Below.refl _ _)⟩
   case round =>
    obtain ⟨k, v, rfl, rfl, hkg, hkN, hO⟩ := hrel
    by_cases hlt : k < N
    · have hltI : (k : Int) < (N : Int) := by omega
      have hk' : k < ns.length := by rw [HN.out]; exact hlt
      have hrow2 := HR2.out
      rw [← HN.out] at hrow2
      obtain ⟨nb, noff, hA2, hnb, hnx⟩ := hrow2.text hk'
      have HFm : Hid ((ns.take (k + 1)).filterMap (keepF (lsOf ds)) = (ns.take k).filterMap (keepF (lsOf ds)) ++ (keepF (lsOf ds) ns[k]).toList) := Lib.hid (filterMap_snoc hk' _)
      generalize ns[k] = n at *
      subst hA2
      have HNx := Lib.hid hnx
      clear hnx hrow2 hk'
      have hol : ((ns.take k).filterMap (keepF (lsOf ds))).length ≤ 100000 := by
       have h1 := List.length_filterMap_le (keepF (lsOf ds)) (ns.take k)
       rw [List.length_take] at h1
       omega
      generalize hoo : (ns.take k).filterMap (keepF (lsOf ds)) = ol at *
      clear hoo
      go_wp2
      obtain ⟨gko, rfl⟩ : ∃ gko : Nat, gko = gk := ⟨_, rfl⟩
      obtain ⟨wo, rfl⟩ : ∃ wo : World, wo = wr := ⟨_, rfl⟩
      go_loopg [5, 8] (M + 1) (fun gk s5 s8 wr => ∃ (m : Nat), v = s5 ∧ s8 = .int .i64 m ∧ m + gk = M + 1 ∧ m ≤ M ∧ Hid (∀ (j : Nat) (y : List At), j < m → (lsOf ds)[j]? = some y → findF y n = none) ∧ Hid (OutIn w2 ol v wr))
      case atStart => exact ⟨0, rfl, rfl, by omega, Nat.zero_le _, fun j y hj => absurd hj (by omega), hO.out⟩
      case round =>
       obtain ⟨m, rfl, rfl, hmg, hmM, hno, hO⟩ := hrel
       by_cases hltm : m < M
       · have hltmI : (m : Int) < (M : Int) := by omega
         have hm' : m < ds.length := by rw [HM.out]; exact hltm
         obtain ⟨d, hd⟩ : ∃ d, ds[m]? = some d := ⟨_, List.getElem?_eq_getElem hm'⟩
         obtain ⟨g, off, hA, hg, hcell, hdr⟩ := H2.out.dir hm'
         have hde : ds[m] = d := by rw [List.getElem?_eq_getElem hm'] at hd; exact Option.some.inj hd
         rw [hde] at hcell
         have hls : (lsOf ds)[m]? = some d.l := by rw [lsOf, List.getElem?_map, hd]; rfl
         have HPk : Hid (∀ x, findF d.l n = some x → pickF (lsOf ds) n = some x) := Lib.hid fun x hx => pick_step hno.out hls hx
         have HLs := Lib.hid hls
         have hfd := fun W (hb : Below wr.heap.size wr W) => HF2.out m d hd (bs n) W (bt hO.out.2 hb)
         rw [L_bs] at hfd
         have HS : Hid (∀ W', Below wr.heap.size wr W' → Below wr.heap.size wr W' ∧ W'.cell? ⟨g, off + m, none⟩ = some (.slice d.A d.l.length d.c) ∧ W'.cell? ⟨nb, noff + k, none⟩ = some (.string (bs n))) := Lib.hid fun W' hb => ⟨hb, hcell W' (bt hO.out.2 hb), HNx.out W' (bt hO.out.2 hb)⟩
         obtain ⟨_, c0, c1⟩ := HS.out wr (Below.refl _ _)
         obtain ⟨dA, dc, dl⟩ := d
         dsimp only at *
         subst hA
         clear hdr hm' hde hcell hls hd
         cases hfq : findF dl n with
         | none =>
           rw [hfq] at hfd
           have HFq := Lib.hid hfd
           unfold FindPost foundV at HFq
           have HFn := Lib.hid hfq
           clear hfd hfq HPk
           go_wp2
           go_upto_region 12 with fail
           go_cut [10] from 30 to 42 (fun s10 wx => s10 = .bool false ∧ Hid (Below wr.heap.size wr wx))
           case first =>
            go_region_held3 (fun W' => Below wr.heap.size wr W' ∧ W'.cell? ⟨g, off + m, none⟩ = some (.slice dA dl.length dc) ∧ W'.cell? ⟨nb, noff + k, none⟩ = some (.string (bs n))) ((refine HS.out _ ?_; repeat (first | exact Below.refl _ _ | refine bD ?_ | refine bA ?_ | refine bt ?_ hb1 | refine bS ?_ (by first | assumption | omega)))) ((go_at_call 38; refine (HFq.out _ (by repeat (first | exact Below.refl _ _ | refine bD ?_ | refine bA ?_))).mono ?_; rintro e w1 ⟨rfl, hb1⟩; obtain ⟨hc', hf'⟩ := bcell hb1; have hz1 := hb1.size))
            all_goals
             rename_i hHeld
             have HBe := Lib.hid hHeld.1
             clear hHeld
             go_wp2
             go_meet
             exact ⟨rfl, HBe.out⟩
           case rest =>
           obtain ⟨rfl, hWx⟩ := hcut
           go_wp2
           go_roundg (gk - 1)
           case measure => omega
           case rel =>
            refine ⟨m + 1, rfl, by go_num, by omega, by omega, fun j y hj hy => ?_, hO.out.go hWx.out⟩
            rcases (by omega : j = m ∨ j < m) with e | e
            · subst e
              rw [HLs.out] at hy
              obtain rfl := Option.some.inj hy
              exact HFn.out
            · exact hno.out j y e hy
         | some y =>
           have hpk := HPk.out y hfq
           rw [hfq] at hfd
           have HFq := Lib.hid hfd
           have HP := Lib.hid hpk
           unfold FindPost foundV at HFq
           clear hfd hfq HPk hpk
           go_wp2
           go_upto_region 12 with fail
           go_cut [9, 10] from 30 to 42 (fun s9 s10 wx => ∃ pb : Nat, s9 = .pointer (some ⟨pb, 0, none⟩) ∧ s10 = .bool true ∧ wx.cell? ⟨pb, 0, none⟩ = some (.string y.name) ∧ wx.cell? ⟨pb, 1, none⟩ = some (.string y.val) ∧ Hid (Below wr.heap.size wr wx))
           case first =>
            go_region_held3 (fun W' => Below wr.heap.size wr W' ∧ W'.cell? ⟨g, off + m, none⟩ = some (.slice dA dl.length dc) ∧ W'.cell? ⟨nb, noff + k, none⟩ = some (.string (bs n))) ((refine HS.out _ ?_; repeat (first | exact Below.refl _ _ | refine bD ?_ | refine bA ?_ | refine bt ?_ hb1 | refine bS ?_ (by first | assumption | omega)))) ((go_at_call 38; refine (HFq.out _ (by repeat (first | exact Below.refl _ _ | refine bD ?_ | refine bA ?_))).mono ?_; rintro e w1 ⟨rfl, hb1⟩; obtain ⟨hc', hf'⟩ := bcell hb1; have hz1 := hb1.size))
            all_goals
             rename_i hHeld
             have HBe := Lib.hid hHeld.1
             clear hHeld
             go_wp2
             go_meet
             exact ⟨_, rfl, rfl, by go_simp, by go_simp, HBe.out⟩
           case rest =>
           obtain ⟨pb, rfl, rfl, p0, p1, hWx⟩ := hcut
           have HO2 := Lib.hid (hO.out.go hWx.out)
           cases hve : (L y.val).isEmpty with
           | true =>
             have HKp := Lib.hid (keep_no HP.out hve)
             have hv1 : y.val.toList.isEmpty = true := by rw [tl]; exact hve
             have hv2 : y.val.toList = [] := by rw [tl]; simpa using hve
             clear hve
             go_wp2
             go_roundg (gko - 1)
             case measure => omega
             case rel => exact ⟨k + 1, _, rfl, by go_num, by omega, by omega, by rw [HFm.out, HKp.out]; simp only [Option.toList_none, List.append_nil]; exact HO2.out⟩
           | false =>
             have HKp := Lib.hid (keep_yes HP.out hve)
             have hv1 : y.val.toList.isEmpty = false := by rw [tl]; exact hve
             have hv2 : ¬ y.val.toList = [] := by rw [tl]; simpa using hve
             clear hve
             have hw9 := HO2.out.2.size
             go_wp2_with (refine wpList_append_lies _ rfl _ _ _ (by rfl) w2.heap.size 42 i0 _ 2 32 Tryz.underlying40 Hi0.out Hz0.out Hz1.out Hz2.out rfl (by omega) v ol.length (cellsOf encAt ol) (by rfl) (HO2.out.1.alloc _) _ 1 1 (encAt y) (by rfl) (by rfl) (by exact World.news_of_block (heap_alloc_new _ _)) (encAt_one _) (by omega) (by unfold maxLen; omega) (by omega) (by simp; omega) _ rfl ?_; intro g2 cap w9 hown2 hgrow2 hat2 hlt2)
             have HO3 := Lib.hid (HO2.out.snoc hown2 hgrow2)
             clear hown2 hgrow2 hat2 hlt2
             go_wp2
             go_roundg (gko - 1)
             case measure => omega
             case rel => exact ⟨k + 1, _, rfl, by go_num, by omega, by omega, by rw [HFm.out, HKp.out]; exact HO3.out⟩
       · obtain rfl : m = M := by omega
         have HKp : Hid (keepF (lsOf ds) n = none) := Lib.hid (keep_none (pick_none fun j y hy => hno.out j y (by have := (List.getElem?_eq_some_iff.1 hy).1; simp only [lsOf, List.length_map] at this; rw [HM.out] at this; exact this) hy))
         go_wp2
         go_roundg (gko - 1)
         case measure => omega
         case rel => exact ⟨k + 1, _, rfl, by go_num, by omega, by omega, by rw [HFm.out, HKp.out]; simp only [Option.toList_none, List.append_nil]; exact hO.out⟩
    · obtain rfl : k = N := by omega
      go_wp2
      go_ret2
      unfold FilesPost
      rw [HMf.out, HMl.out]
      rw [List.take_of_length_le (by rw [HN.out]; exact Nat.le_refl _)] at hO
      obtain ⟨A3, c3, rfl, hc3⟩ := own_slice2 hO.out.1
      exact ⟨A3, c3, rfl, hc3, RowAt.of_own hO.out.1, bt HB2.out hO.out.2⟩
 · have HMf : Hid (mergeF (lsOf ds) = ([], checkF (lsOf ds))) := Lib.hid (by rw [mergeF, if_neg hce])
   generalize checkF (lsOf ds) = ce at *
   have hne : (ce == 0) = false := by simp [hce]
   have hnn : (ce != 0) = true := by simp [hce]
   generalize ds.length = N at *
   clear hce H HBk HNm h hb hsz
   go_enter Tryz.func16, Tryz.ntmps16
   go_wp2_with (go_at_call 36; refine HCk.out.mono ?_; rintro e w1 ⟨rfl, hb1⟩)
   go_ret2
   unfold FilesPost
   rw [HMf.out]
   exact ⟨none, 0, rfl, Nat.le_refl _, ⟨rfl, fun h => absurd h (Nat.lt_irrefl 0)⟩, hb1⟩
end Go.Proofs.YtibflgfhjfcifaaGreatDoor
