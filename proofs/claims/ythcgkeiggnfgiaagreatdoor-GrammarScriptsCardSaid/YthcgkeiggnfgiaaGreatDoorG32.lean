/-
  Contracts of the reference's find and put.
  Contract of the reference's Names.
-/
import Derived.Test.YthcgkeiggnfgiaaGreatDoorG31
import Derived.Test.YthcgkeiggnfgiaaGreatDoorG00
import Derived.Test.YthcgkeiggnfgiaaGreatDoorG22
namespace Go.Proofs.YthcgkeiggnfgiaaGreatDoor
open Go.RowKit
theorem findF_hit {l : List At} {n : Str} {k : Nat} {x : At} (hx : l[k]? = some x) (hno : ∀ (j : Nat) (y : At), j < k → l[j]? = some y → (L y.name == n) = false) (hyes : (L x.name == n) = true) : findF l n = some x := by
  induction l generalizing k with
  | nil => simp at hx
  | cons y l ih =>
    cases k with
    | zero =>
      simp at hx
      subst hx
      simp only [findF, nm, List.find?_cons, hyes]
    | succ k =>
      have h0 := hno 0 y (by omega) (by simp)
      have := ih (k := k) (by simpa using hx) (fun j z hj hz => hno (j + 1) z (by omega) (by simpa using hz))
      simp only [findF, nm, List.find?_cons, h0] at this ⊢
      exact this
theorem findF_miss {l : List At} {n : Str} (hno : ∀ (j : Nat) (y : At), l[j]? = some y → (L y.name == n) = false) : findF l n = none := by
  unfold findF
  rw [List.find?_eq_none]
  intro x hx
  obtain ⟨j, hj⟩ := List.getElem?_of_mem hx
  rw [show (nm x == n) = false from hno j x hj]; simp
/-- A file, or none, as find hands it back. -/
def foundV : Option At → Value
  | some x => .tuple #[.agg #[.string x.name, .string x.val], .bool true]
  | none => .tuple #[.agg #[.string ⟨#[]⟩, .string ⟨#[]⟩], .bool false]
def FindPost (o : Option At) (w : World) (e : Ending) (w' : World) : Prop := e = .returned (foundV o) ∧ Below w.heap.size w w'
theorem file_size : (Tryz.prog.info? 34).map (·.size) = some 2 := by kernel_rfl
set_option maxRecDepth 100000 in
set_option maxHeartbeats 1000000 in
theorem RFind_any (A : Option Addr) (c : Nat) (l : List At) (nm : ByteArray) (w : World) (h : RowAt w w.heap.size A 2 l.length (cellsOf encAt l)) (hl : l.length ≤ 4611686018427387904) :
    Calls Tryz.prog 55 #[.slice A l.length c, .string nm] w (FindPost (findF l (L nm)) w) := by
  have H := Lib.hid h
  clear h
  generalize hN : l.length = N at hl ⊢
  have HN := Lib.hid hN
  clear hN
  go_enter Tryz.func55, Tryz.ntmps55
  go_wp2
  go_loop [6] (fun i => ∃ k : Nat, k ≤ N ∧ i = .int .i64 k ∧ Hid (∀ (j : Nat) (y : At), j < k → l[j]? = some y → (L y.name == L nm) = false)) (fun i => N - (intOf i).toNat)
  case atStart => exact ⟨0, Nat.zero_le _, rfl, fun j y hj => absurd hj (by omega)⟩
  case round =>
    obtain ⟨k, hk, rfl, hp⟩ := hrel
    by_cases hlt : k < N
    · have hlt' : k < l.length := by rw [HN.out]; exact hlt
      obtain ⟨ba, off, rfl, hB, hc⟩ := H.out.cell encAt_len hlt'
      obtain ⟨x, hx⟩ : ∃ x, l[k]? = some x := ⟨_, List.getElem?_eq_getElem hlt'⟩
      have c0 : w.cell? ⟨ba, off + k * 2, none⟩ = some (.string x.name) := hc k x hx 0 _ rfl
      have c1 : w.cell? ⟨ba, off + k * 2 + 1, none⟩ = some (.string x.val) := hc k x hx 1 _ rfl
      have HX := Lib.hid hx
      clear hx hc hlt'
      cases hq : (x.name.toList == nm.toList)
      · go_wp2
        go_round
        case rel =>
          refine ⟨k + 1, by omega, by go_num, fun j y hj hy => ?_⟩
          rcases (by omega : j = k ∨ j < k) with e | e
          · subst e
            rw [HX.out] at hy
            injection hy with hy
            rw [← hy, ← tl, ← tl]
            exact hq
          · exact hp.out j y e hy
        case measure => simp [intOf]; omega
      · have e1 := findF_hit HX.out hp.out (by rw [← tl, ← tl]; exact hq)
        have E1 := Lib.hid e1
        clear e1
        go_wp2
        exact bodyPost_ret (v := .tuple #[.agg #[.string x.name, .string x.val], .bool true]) (by simp [results, Tryz.results55, go_sem]) rfl ⟨by rw [E1.out]; rfl, by go_grown⟩
    · have e1 := findF_miss (l := l) (n := L nm) (fun j y hy => hp.out j y (by have := (List.getElem?_eq_some_iff.1 hy).1; rw [HN.out] at this; omega) hy)
      have E1 := Lib.hid e1
      clear e1
      go_wp2
      exact bodyPost_ret (v := .tuple #[.agg #[.string ⟨#[]⟩, .string ⟨#[]⟩], .bool false]) (by simp [results, Tryz.results55, go_sem]) rfl ⟨by rw [E1.out]; rfl, by go_grown⟩
theorem own_slice2 {W : World} {b : Nat} {e : TypeId} {sz : Nat} {v : Value} {n : Nat} {xs : List Value} (h : W.ownsRow b e sz v n xs) : ∃ A c, v = .slice A n c ∧ n ≤ c := by
  rcases h.2 with ⟨h1, h2⟩ | ⟨g', cap, cur, h1, _, _, hr, _⟩
  · exact ⟨_, _, by rw [h2]; exact h1, by omega⟩
  · exact ⟨_, _, h1, hr⟩
/-- A list of texts that a call hands back. -/
def TextsPost (l : List Str) (w : World) (e : Ending) (w' : World) : Prop := ∃ A c, e = .returned (.slice A l.length c) ∧ l.length ≤ c ∧ RowAt w' w'.heap.size A 1 l.length (l.map strV) ∧ Below w.heap.size w w'
theorem TextsPost.of_own {l : List Str} {w w' : World} {b : Nat} {e : TypeId} {v : Value} {n : Nat} {xs : List Value} (h : w'.ownsRow b e 1 v n xs) (hx : xs = l.map strV) (hn : n = l.length) (hb : Below w.heap.size w w') : TextsPost l w (.returned v) w' := by
  subst hn hx
  obtain ⟨A, c, rfl, hc⟩ := own_slice2 h
  exact ⟨A, c, rfl, hc, RowAt.of_own h, hb⟩
theorem strInfo : (Tryz.prog.info? 9).map (fun i => (i.zero, i.size, i.bytes)) = some (some (.string ⟨#[]⟩), 1, 16) := by kernel_rfl
theorem strV_one (l : List Str) : ∀ u ∈ l.map strV, u.oneCell' = true := fun u hu => by
  obtain ⟨x, _, rfl⟩ := List.mem_map.1 hu; rfl
theorem RowAt.of_block {W : World} {g : Nat} {T : TypeId} {v : Value} (h : W.heap[g]? = some (.cells #[v] T (0, 0))) : RowAt W (g + 1) (some ⟨g, 0, none⟩) 1 1 [v] :=
  ⟨rfl, fun _ => ⟨g, 0, rfl, by omega, fun j u hu => by
    cases j with
    | zero => simp at hu; subst hu; rw [Nat.zero_add, cell_of_row _ _ 0 _ _ _ h]; rfl
    | succ j => simp at hu⟩⟩
theorem RowAt.of_lit (W : World) (T : TypeId) (v : Value) : RowAt (W.alloc (.cells #[v] T)) (W.heap.size + 1) (some ⟨W.heap.size, 0, none⟩) 1 1 [v] := RowAt.of_block (heap_alloc_new W _)
/-- The rest of a row. -/
theorem RowAt.rest {w : World} {B n m c : Nat} {A : Option Addr} {xs : List Value} (h : RowAt w B A 1 n xs) (hm : m ≤ n) (hc : n ≤ c) : RowAt w B (if c = m then A else A.map (·.add (m * 1))) 1 (n - m) (xs.drop m) := by
  refine ⟨by rw [List.length_drop, h.len]; omega, fun hlt => ?_⟩
  obtain ⟨ba, off, rfl, hB, hx⟩ := h.at_ (by omega)
  rw [if_neg (by omega)]
  refine ⟨ba, off + m, by rw [Option.map_some, add_plain', Nat.mul_one], hB, fun j u hu => ?_⟩
  rw [List.getElem?_drop] at hu
  rw [Nat.add_assoc]
  exact hx _ _ hu
set_option maxRecDepth 100000 in
set_option maxHeartbeats 4000000 in
theorem RPut_any (A : Option Addr) (c : Nat) (l : List Str) (s : ByteArray) (w : World) (h : RowAt w w.heap.size A 1 l.length (l.map strV)) (hl : l.length ≤ 1000000) (hc : l.length ≤ c) :
    Calls Tryz.prog 95 #[.slice A l.length c, .string s] w (TextsPost (putS l (L s)) w) := by
  have H := Lib.hid h
  have HHd : Hid (∀ k, k ≤ l.length → ∀ W, Below w.heap.size w W → RowAt W W.heap.size A 1 k ((l.take k).map strV)) := Lib.hid fun k hk W hb => by
    have := ((h.keep hb).up hb.size).head hk
    rw [Nat.mul_one, ← List.map_take] at this
    exact this
  have HRs : Hid (∀ k, k ≤ l.length → ∀ W, Below w.heap.size w W → ∀ A', A' = (if c = k then A else A.map (·.add (k * 1))) → RowAt W W.heap.size A' 1 (l.length - k) ((l.drop k).map strV)) := Lib.hid fun k hk W hb A' e => by
    subst e
    have := ((h.keep hb).up hb.size).rest hk hc
    rw [← List.map_drop] at this
    exact this
  have Hend : Hid (∀ W, Below w.heap.size w W → putS l (L s) = l → TextsPost (putS l (L s)) w (.returned (.slice A l.length c)) W) := Lib.hid fun W hb e => by
    rw [e]; exact ⟨A, c, rfl, hc, (h.keep hb).up hb.size, hb⟩
  clear h
  generalize hN : l.length = N at *
  have HN := Lib.hid hN
  clear hN
  have hcI : (N : Int) ≤ (c : Int) := by omega
  obtain ⟨i0, hi0, hz0, hz1, hz2⟩ := info_parts strInfo
  have Hi0 := Lib.hid hi0
  have Hz0 := Lib.hid hz0
  have Hz1 := Lib.hid hz1
  have Hz2 := Lib.hid hz2
  clear hi0 hz0 hz1 hz2
  go_enter Tryz.func95, Tryz.ntmps95
  go_wp2
  go_loop [5] (fun i => ∃ k : Nat, k ≤ N ∧ i = .int .i64 k ∧ Hid (∀ x ∈ l.take k, x < L s)) (fun i => N - (intOf i).toNat)
  case atStart => exact ⟨0, Nat.zero_le _, rfl, fun x hx => by simp at hx⟩
  case round =>
    obtain ⟨k, hk, rfl, hp⟩ := hrel
    have hkI : (k : Int) ≤ (N : Int) := by omega
    have hkc : (k : Int) ≤ (c : Int) := by omega
    have HH := Lib.hid (HHd.out k hk)
    have HR := Lib.hid (HRs.out k hk)
    by_cases hlt : k < N
    · have hlt' : k < l.length := by rw [HN.out]; exact hlt
      have hltI : (k : Int) < (N : Int) := by omega
      have hrow := H.out
      rw [← HN.out] at hrow
      obtain ⟨ba, off, rfl, hB, hx⟩ := hrow.text hlt'
      have c0 := hx w (Below.refl _ _)
      have HX : Hid (∀ x, bs l[k] = x → x.toList = l[k]) := Lib.hid fun x e => by rw [← e, tl, L_bs]
      have HK : Hid (l[k]? = some l[k]) := Lib.hid (List.getElem?_eq_getElem hlt')
      have HT : Hid (l.take (k + 1) = l.take k ++ [l[k]]) := Lib.hid (List.take_succ_eq_append_getElem hlt')
      generalize l[k] = t at *
      have hxe := HX.out _ rfl
      generalize bs t = x at *
      have HE := Lib.hid hxe
      clear hx HX hxe hrow
      cases hq : Op.bytesLess x.toList s.toList
      · have hno : ∀ x, l[k]? = some x → ¬ x < L s := fun y hy => by
          rw [HK.out] at hy
          obtain rfl := Option.some.inj hy
          rw [bless, HE.out, tl] at hq
          simpa using hq
        cases he : (x.toList == s.toList)
        · have HP : Hid (putS l (L s) = l.take k ++ L s :: l.drop k) := Lib.hid (by
            rw [putS_stop hp.out hno (by rw [HN.out]; omega), if_neg]
            rw [HK.out, ← HE.out, ← tl]
            intro e
            rw [Option.some.inj e] at he
            simp at he)
          clear hno
          have hck : ¬ c = k := by omega
          go_wp2
          go_region_held3 (fun _ => True) (trivial) ((first
            | (refine step_append_row rfl (.const (.slice none 0 0)) (.tmp 35) 45 rfl w.heap.size 9 i0 _ 1 16 Tryz.underlying45 Hi0.out Hz0.out Hz1.out Hz2.out rfl (by omega) (.slice none 0 0) 0 [] rfl (World.ownsRow_nil _ _ _ _) _ k _ _ _ rfl (HH.out _ ?_) (strV_one _) ?_ ?_ ?_ ?_
               · go_grown
               · unfold maxLen; omega
               · omega
               · first | exact Nat.le_refl _ | (simp; done)
               intro v1 w1 hown1 hgrow1 hloc1 hnn1
               have HB1 : Hid (Below w.heap.size w w1) := Lib.hid (bt (by go_grown) (grown_none hgrow1))
               have HO1 := Lib.hid hown1
               have HS1 : Hid (∀ (o : Obj) (W : World), W.grownBy w1 none → W.heap[w.heap.size]? = some o → w1.heap[w.heap.size]? = some o) := Lib.hid fun o W hg h0 => (hg.block _ (blk_lt' h0) (by simp)).trans h0
               have hw1 := HB1.out.size
               clear hown1 hloc1 hnn1
               have HG1 := Lib.hid hgrow1
               clear hgrow1)
            | (have _t := HG1
               first
               | (refine step_append_row rfl (.tmp 36) (.tmp 38) 45 rfl w.heap.size 9 i0 _ 1 16 Tryz.underlying45 Hi0.out Hz0.out Hz1.out Hz2.out rfl (by omega) _ (0 + k) ([] ++ (l.take k).map strV) rfl (HO1.out.alloc _) (some ⟨w1.heap.size, 0, none⟩) 1 1 (w1.heap.size + 1) [Value.string s] rfl ?_ ?_ ?_ ?_ ?_ ?_
                  · exact RowAt.of_lit _ _ _
                  · simp [Value.oneCell']
                  · unfold maxLen; omega
                  · omega
                  · first | omega | (simp; omega)
                  intro v2 w2 hown2 hgrow2 hloc2 hnn2
                  have HB2 : Hid (Below w.heap.size w w2) := Lib.hid ((bt HB1.out (below_alloc _ _)).grown hgrow2 (by simp; omega) (fun j e => (HO1.out.lt j e).1))
                  have HO2 := Lib.hid hown2
                  have hw2 := HB2.out.size
                  clear hown2 hgrow2 hloc2 hnn2 HG1)
               | (refine step_append_row rfl (.tmp 36) (.tmp 38) 45 rfl w.heap.size 9 i0 _ 1 16 Tryz.underlying45 Hi0.out Hz0.out Hz1.out Hz2.out rfl (by omega) _ (0 + k) ([] ++ (l.take k).map strV) rfl HO1.out (some ⟨w.heap.size, 0, none⟩) 1 1 (w.heap.size + 1) [Value.string s] rfl ?_ ?_ ?_ ?_ ?_ ?_
                  · exact RowAt.of_block (HS1.out _ _ HG1.out (heap_alloc_new w _))
                  · simp [Value.oneCell']
                  · unfold maxLen; omega
                  · omega
                  · first | omega | (simp; omega)
                  intro v2 w2 hown2 hgrow2 hloc2 hnn2
                  have HB2 : Hid (Below w.heap.size w w2) := Lib.hid (HB1.out.grown hgrow2 (by omega) (fun j e => (HO1.out.lt j e).1))
                  have HO2 := Lib.hid hown2
                  have hw2 := HB2.out.size
                  clear hown2 hgrow2 hloc2 hnn2 HG1))
            | (refine step_append_row rfl (.tmp 39) (.tmp 42) 45 rfl w.heap.size 9 i0 _ 1 16 Tryz.underlying45 Hi0.out Hz0.out Hz1.out Hz2.out rfl (by omega) _ (0 + k + 1) ([] ++ (l.take k).map strV ++ [Value.string s]) rfl HO2.out _ (N - k) _ _ _ rfl (HR.out _ HB2.out _ ?_) (strV_one _) ?_ ?_ ?_ ?_
               · first | rfl | (simp [add_plain', hck]; done)
               · unfold maxLen; omega
               · omega
               · omega
               intro v3 w3 hown3 hgrow3 hloc3 hnn3
               have HB3 : Hid (Below w.heap.size w w3) := Lib.hid (HB2.out.grown hgrow3 (by omega) (fun j e => (HO2.out.lt j e).1))
               have HO3 := Lib.hid hown3
               clear hown3 hgrow3 hloc3 hnn3)))
          all_goals
            go_wp2
            go_ret
            exact TextsPost.of_own HO3.out (by rw [HP.out, List.map_append, List.map_cons]; simp [strV, bs_L]) (by rw [HP.out]; simp only [List.length_append, List.length_take, List.length_cons, List.length_drop, HN.out]; omega) HB3.out
        · have HP : Hid (putS l (L s) = l) := Lib.hid (by
            rw [putS_stop hp.out hno (by rw [HN.out]; omega), if_pos]
            have : x.toList = s.toList := by simpa using he
            rw [HK.out, ← HE.out, ← tl, this])
          clear hno
          go_wp2
          go_ret
          exact Hend.out _ (Below.refl _ _) HP.out
      · go_wp2
        go_round
        case rel =>
          refine ⟨k + 1, by omega, by go_num, fun y hy => ?_⟩
          rw [HT.out] at hy
          rcases List.mem_append.1 hy with hy | hy
          · exact hp.out y hy
          · obtain rfl := List.mem_singleton.1 hy
            rw [bless, HE.out, tl] at hq
            simpa using hq
        case measure => simp [intOf]; omega
    · have hge : ¬ (k : Int) < (N : Int) := by omega
      have HP : Hid (putS l (L s) = l.take k ++ L s :: l.drop k) := Lib.hid (by
        rw [putS_stop hp.out (fun x hx => by have := (List.getElem?_eq_some_iff.1 hx).1; rw [HN.out] at this; omega) (by rw [HN.out]; exact hk), if_neg]
        intro e
        have := (List.getElem?_eq_some_iff.1 e).1
        rw [HN.out] at this; omega)
      by_cases hck : c = k
      all_goals
        go_wp2
        go_region_held3 (fun _ => True) (trivial) ((first
          | (refine step_append_row rfl (.const (.slice none 0 0)) (.tmp 35) 45 rfl w.heap.size 9 i0 _ 1 16 Tryz.underlying45 Hi0.out Hz0.out Hz1.out Hz2.out rfl (by omega) (.slice none 0 0) 0 [] rfl (World.ownsRow_nil _ _ _ _) _ k _ _ _ rfl (HH.out _ ?_) (strV_one _) ?_ ?_ ?_ ?_
             · go_grown
             · unfold maxLen; omega
             · omega
             · first | exact Nat.le_refl _ | (simp; done)
             intro v1 w1 hown1 hgrow1 hloc1 hnn1
             have HB1 : Hid (Below w.heap.size w w1) := Lib.hid (bt (by go_grown) (grown_none hgrow1))
             have HO1 := Lib.hid hown1
             have HS1 : Hid (∀ (o : Obj) (W : World), W.grownBy w1 none → W.heap[w.heap.size]? = some o → w1.heap[w.heap.size]? = some o) := Lib.hid fun o W hg h0 => (hg.block _ (blk_lt' h0) (by simp)).trans h0
             have hw1 := HB1.out.size
             clear hown1 hloc1 hnn1
             have HG1 := Lib.hid hgrow1
             clear hgrow1)
          | (have _t := HG1
             first
             | (refine step_append_row rfl (.tmp 36) (.tmp 38) 45 rfl w.heap.size 9 i0 _ 1 16 Tryz.underlying45 Hi0.out Hz0.out Hz1.out Hz2.out rfl (by omega) _ (0 + k) ([] ++ (l.take k).map strV) rfl (HO1.out.alloc _) (some ⟨w1.heap.size, 0, none⟩) 1 1 (w1.heap.size + 1) [Value.string s] rfl ?_ ?_ ?_ ?_ ?_ ?_
                · exact RowAt.of_lit _ _ _
                · simp [Value.oneCell']
                · unfold maxLen; omega
                · omega
                · first | omega | (simp; omega)
                intro v2 w2 hown2 hgrow2 hloc2 hnn2
                have HB2 : Hid (Below w.heap.size w w2) := Lib.hid ((bt HB1.out (below_alloc _ _)).grown hgrow2 (by simp; omega) (fun j e => (HO1.out.lt j e).1))
                have HO2 := Lib.hid hown2
                have hw2 := HB2.out.size
                clear hown2 hgrow2 hloc2 hnn2 HG1)
             | (refine step_append_row rfl (.tmp 36) (.tmp 38) 45 rfl w.heap.size 9 i0 _ 1 16 Tryz.underlying45 Hi0.out Hz0.out Hz1.out Hz2.out rfl (by omega) _ (0 + k) ([] ++ (l.take k).map strV) rfl HO1.out (some ⟨w.heap.size, 0, none⟩) 1 1 (w.heap.size + 1) [Value.string s] rfl ?_ ?_ ?_ ?_ ?_ ?_
                · exact RowAt.of_block (HS1.out _ _ HG1.out (heap_alloc_new w _))
                · simp [Value.oneCell']
                · unfold maxLen; omega
                · omega
                · first | omega | (simp; omega)
                intro v2 w2 hown2 hgrow2 hloc2 hnn2
                have HB2 : Hid (Below w.heap.size w w2) := Lib.hid (HB1.out.grown hgrow2 (by omega) (fun j e => (HO1.out.lt j e).1))
                have HO2 := Lib.hid hown2
                have hw2 := HB2.out.size
                clear hown2 hgrow2 hloc2 hnn2 HG1))
          | (refine step_append_row rfl (.tmp 39) (.tmp 42) 45 rfl w.heap.size 9 i0 _ 1 16 Tryz.underlying45 Hi0.out Hz0.out Hz1.out Hz2.out rfl (by omega) _ (0 + k + 1) ([] ++ (l.take k).map strV ++ [Value.string s]) rfl HO2.out _ (N - k) _ _ _ rfl (HR.out _ HB2.out _ ?_) (strV_one _) ?_ ?_ ?_ ?_
             · first | rfl | (simp [hck]; done)
             · unfold maxLen; omega
             · omega
             · omega
             intro v3 w3 hown3 hgrow3 hloc3 hnn3
             have HB3 : Hid (Below w.heap.size w w3) := Lib.hid (HB2.out.grown hgrow3 (by omega) (fun j e => (HO2.out.lt j e).1))
             have HO3 := Lib.hid hown3
             clear hown3 hgrow3 hloc3 hnn3)))
        all_goals
          go_wp2
          go_ret
          exact TextsPost.of_own HO3.out (by rw [HP.out, List.map_append, List.map_cons]; simp [strV, bs_L]) (by rw [HP.out]; simp only [List.length_append, List.length_take, List.length_cons, List.length_drop, HN.out]; omega) HB3.out
end Go.Proofs.YthcgkeiggnfgiaaGreatDoor
namespace Go.Proofs.YthcgkeiggnfgiaaGreatDoor
open Go.RowKit
/-- The names so far: of the directories ahead, and of the first files of this one. -/
def preN (ds : List (Ls At)) (i k : Nat) : List Str := allN ((lsOf ds).take i) ++ (((lsOf ds).getD i []).take k).map nm
theorem preN_zero (ds : List (Ls At)) : preN ds 0 0 = [] := by simp [preN, allN]
theorem preN_next (ds : List (Ls At)) {i : Nat} (hi : i < ds.length) : preN ds i ds[i].l.length = preN ds (i + 1) 0 := by
  have hi' : i < (lsOf ds).length := by simpa [lsOf] using hi
  have e : (lsOf ds).getD i [] = ds[i].l := by rw [List.getD, List.getElem?_eq_getElem hi']; simp [lsOf]
  unfold preN
  rw [e, List.take_length, List.take_succ_eq_append_getElem hi', allN_append, List.take_zero, List.map_nil, List.append_nil]
  have e2 : (lsOf ds)[i] = ds[i].l := by simp [lsOf]
  rw [e2]
  simp [allN]
theorem preN_step (ds : List (Ls At)) {i k : Nat} (hi : i < ds.length) (hk : k < ds[i].l.length) : preN ds i (k + 1) = preN ds i k ++ [nm ds[i].l[k]] := by
  have hi' : i < (lsOf ds).length := by simpa [lsOf] using hi
  have e : (lsOf ds).getD i [] = ds[i].l := by rw [List.getD, List.getElem?_eq_getElem hi']; simp [lsOf]
  unfold preN
  rw [e, List.take_succ_eq_append_getElem hk, List.map_append, List.append_assoc]
  rfl
theorem preN_all (ds : List (Ls At)) {i : Nat} (hi : ds.length ≤ i) : preN ds i 0 = allN (lsOf ds) := by
  unfold preN
  rw [List.take_of_length_le (by simpa [lsOf] using hi)]
  simp
theorem preN_len (ds : List (Ls At)) {i k : Nat} (hi : i < ds.length) (hk : k ≤ ds[i].l.length) : (preN ds i k).length ≤ bulk ds := by
  have hi' : i < (lsOf ds).length := by simpa [lsOf] using hi
  have e : (lsOf ds).getD i [] = ds[i].l := by rw [List.getD, List.getElem?_eq_getElem hi']; simp [lsOf]
  have h1 := allN_len (ds.take i)
  rw [lsOf_take] at h1
  have h2 : bulk ds = bulk (ds.take i) + bulk (ds.drop i) := by rw [← bulk_append, List.take_append_drop]
  have h3 : bulk (ds.drop i) = 1 + ds[i].l.length + bulk (ds.drop (i + 1)) := by rw [List.drop_eq_getElem_cons hi, bulk_cons]
  unfold preN
  rw [e, List.length_append, List.length_map, List.length_take]
  omega
/-- The names collected so far, as they lie. -/
def NamesIn (w : World) (ns : List Str) (v : Value) (wr : World) : Prop := ∃ A c, v = .slice A (namesS ns).length c ∧ (namesS ns).length ≤ c ∧ RowAt wr wr.heap.size A 1 (namesS ns).length ((namesS ns).map strV) ∧ Below w.heap.size w wr
theorem NamesIn.go {w wr w' : World} {ns : List Str} {v : Value} (h : NamesIn w ns v wr) (hb : Below wr.heap.size wr w') : NamesIn w ns v w' := by
  obtain ⟨A, c, e, hc, hr, hB⟩ := h
  exact ⟨A, c, e, hc, (hr.keep hb).up hb.size, bt hB hb⟩
theorem NamesIn.below {w wr : World} {ns : List Str} {v : Value} (h : NamesIn w ns v wr) : Below w.heap.size w wr := by
  obtain ⟨A, c, e, hc, hr, hB⟩ := h
  exact hB
def PutIn (w _wr : World) (ns : List Str) (e : Ending) (w' : World) : Prop := ∃ v, e = .returned v ∧ NamesIn w ns v w'
theorem NamesIn.put {w wr : World} {ns : List Str} {v : Value} (h : NamesIn w ns v wr) (s : ByteArray) (hl : ns.length ≤ 100000) : Calls Tryz.prog 95 #[v, .string s] wr (PutIn w wr (ns ++ [L s])) := by
  obtain ⟨A, c, rfl, hc, hr, hB⟩ := h
  have hln := len_namesS ns
  refine (RPut_any A c (namesS ns) s wr hr (by omega) hc).mono ?_
  rintro e w' ⟨A', c', rfl, hc', hr', hB'⟩
  rw [← namesS_snoc] at *
  exact ⟨_, rfl, A', c', rfl, hc', hr', bt hB hB'⟩
set_option maxRecDepth 100000 in
set_option maxHeartbeats 4000000 in
theorem RNames_any (A : Option Addr) (c : Nat) (ds : List (Ls At)) (w : World) (h : DirsAt w A ds) (hb : bulk ds ≤ 100000) :
    Calls Tryz.prog 54 #[.slice A ds.length c] w (TextsPost (namesS (allN (lsOf ds))) w) := by
  have H := Lib.hid h
  have HBk := Lib.hid hb
  have hM : ds.length ≤ 100000 := Nat.le_trans (bulk_len ds) hb
  clear h hb
  generalize hMM : ds.length = M at *
  have HM := Lib.hid hMM
  clear hMM
  go_enter Tryz.func54, Tryz.ntmps54
  go_wp2
  go_loopg [3, 4] (M + 1) (fun gk s3 s4 wr => ∃ (k : Nat) (v : Value), v = s3 ∧ s4 = .int .i64 k ∧ k + gk = M + 1 ∧ k ≤ M ∧ Hid (NamesIn w (preN ds k 0) v wr))
  case atStart => exact ⟨0, _, rfl, rfl, by omega, Nat.zero_le _, by rw [preN_zero]; exact ⟨none, 0, rfl, Nat.le_refl _, ⟨rfl, fun h => absurd h (Nat.lt_irrefl 0)⟩, Below.refl _ _⟩⟩
  case round =>
    obtain ⟨k, v, rfl, rfl, hkg, hkM, hN⟩ := hrel
    by_cases hlt : k < M
    · have hltI : (k : Int) < (M : Int) := by omega
      have hk' : k < ds.length := by rw [HM.out]; exact hlt
      obtain ⟨g, off, rfl, hg, hcell, hrow⟩ := H.out.dir hk'
      have HP : Hid (∀ m x, ds[k].l[m]? = some x → preN ds k (m + 1) = preN ds k m ++ [nm x]) := Lib.hid fun m x hx => by
        obtain ⟨hm, rfl⟩ := List.getElem?_eq_some_iff.1 hx
        exact preN_step ds hk' hm
      have HQ : Hid (preN ds k ds[k].l.length = preN ds (k + 1) 0) := Lib.hid (preN_next ds hk')
      have HL : Hid (∀ m, m ≤ ds[k].l.length → (preN ds k m).length ≤ 100000) := Lib.hid fun m hm => Nat.le_trans (preN_len ds hk' hm) HBk.out
      have hl1 : ds[k].l.length ≤ 100000 := Nat.le_of_lt (Nat.lt_of_lt_of_le (bulk_mem (List.getElem_mem hk')) HBk.out)
      have HF : Hid (∀ m x, ds[k].l[m]? = some x → ∃ ba off, ds[k].A = some ⟨ba, off, none⟩ ∧ ba < w.heap.size ∧ ∀ W, Below w.heap.size w W → W.cell? ⟨ba, off + m * 2, none⟩ = some (.string x.name) ∧ W.cell? ⟨ba, off + m * 2 + 1, none⟩ = some (.string x.val)) := Lib.hid fun m x hx => (hrow w (Below.refl _ _)).fileX hx
      generalize ds[k] = d at *
      obtain ⟨dA, dc, dl⟩ := d
      dsimp only at *
      have HC := Lib.hid hcell
      clear hcell hrow hk'
      generalize hNN : dl.length = N at *
      have HNN := Lib.hid hNN
      clear hNN
      go_wp2
      obtain ⟨gko, rfl⟩ : ∃ gko : Nat, gko = gk := ⟨_, rfl⟩
      obtain ⟨wo, rfl⟩ : ∃ wo : World, wo = wr := ⟨_, rfl⟩
      go_loopg [3, 5] (N + 1) (fun gk s3 s5 wr => ∃ (m : Nat) (v : Value), v = s3 ∧ s5 = .int .i64 m ∧ m + gk = N + 1 ∧ m ≤ N ∧ Hid (NamesIn w (preN ds k m) v wr))
      case atStart => exact ⟨0, _, rfl, rfl, by omega, Nat.zero_le _, hN.out⟩
      case round =>
        obtain ⟨m, v, rfl, rfl, hmg, hmN, hN⟩ := hrel
        have hc0 := HC.out _ (hN.out.below)
        by_cases hltm : m < N
        · have hltmI : (m : Int) < (N : Int) := by omega
          obtain ⟨x, hx⟩ : ∃ x, dl[m]? = some x := ⟨_, List.getElem?_eq_getElem (by rw [HNN.out]; exact hltm)⟩
          have HX := Lib.hid (HP.out m x hx)
          obtain ⟨ba, off2, rfl, hba, hcc⟩ := HF.out m x hx
          have hcn := (hcc _ (hN.out.below)).1
          have HPut := Lib.hid (hN.out.put x.name (HL.out m hmN))
          clear hx hcc
          go_wp2_with fail
          refine HPut.out.mono ?_
          rintro e w2 ⟨v2, rfl, hN2⟩
          have HN2 := Lib.hid hN2
          clear hN2 HPut hN
          go_wp2
          go_roundg (gk - 1)
          case measure => omega
          case rel => exact ⟨m + 1, _, rfl, by go_num, by omega, by omega, by rw [HX.out]; exact HN2.out⟩
        · obtain rfl : m = N := by omega
          go_wp2
          go_roundg (gko - 1)
          case measure => omega
          case rel => exact ⟨k + 1, _, rfl, by go_num, by omega, by omega, by rw [← HQ.out]; exact hN.out⟩
    · obtain rfl : k = M := by omega
      have he : preN ds k 0 = allN (lsOf ds) := preN_all ds (by rw [HM.out]; exact Nat.le_refl _)
      have HE := Lib.hid he
      clear he
      go_wp2
      go_ret
      obtain ⟨A1, c1, rfl, hc1, hr1, hB1⟩ := hN.out
      rw [HE.out] at *
      exact ⟨A1, c1, rfl, hc1, hr1, hB1⟩
end Go.Proofs.YthcgkeiggnfgiaaGreatDoor
