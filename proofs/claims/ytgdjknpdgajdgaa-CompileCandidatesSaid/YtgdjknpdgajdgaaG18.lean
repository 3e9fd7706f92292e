/-
  Contract of the reference's Set of attributes: some list of no other attributes.
  Contract of coldplugworld's Attrs: some short list of attributes.
-/
import Derived.Test.YtgdjknpdgajdgaaG08
import Derived.Test.YtgdjknpdgajdgaaG05
import Derived.Test.YtgdjknpdgajdgaaTerms
namespace Go.Proofs.Ytgdjknpdgajdgaa
open Go.RowKit
theorem atInfo : (Try.prog.info? 87).map (fun i => (i.zero, i.size, i.bytes)) = some (some (.agg #[.string ⟨#[]⟩, .string ⟨#[]⟩]), 2, 32) := by kernel_rfl
theorem encAt_one2 (t : At) : ∀ u ∈ encAt t, u.oneCell' = true := by simp [encAt, Value.oneCell']
/-- No attribute but those and a new one. -/
def AtOf (l : List At) (y : At) (m : List At) : Prop := ∀ x ∈ m, x ∈ l ∨ x = y
theorem AtOf.snoc {l m : List At} {x y : At} (h : AtOf l y m) (hx : x ∈ l ∨ x = y) : AtOf l y (m ++ [x]) := fun z hz => by
  rcases List.mem_append.1 hz with hz | hz
  · exact h z hz
  · obtain rfl := List.mem_singleton.1 hz; exact hx
theorem own_ap {α : Type} {enc : α → List Value} {W : World} {base k n c : Nat} {e : TypeId} {A : Option Addr} {l2 : List α} {xs : List Value} (h : W.ownsRow base e k (.slice A n c) n xs) (hn : n = l2.length) (hx : xs = cellsOf enc l2) : W.ownsRow base e k (.slice A l2.length c) l2.length (cellsOf enc l2) := by
  subst hn hx; exact h
def AtSetPost (l : List At) (y : At) (w : World) (e : Ending) (w' : World) : Prop := ∃ v m, e = .returned v ∧ w'.ownsRow w.heap.size 87 2 v m.length (cellsOf encAt m) ∧ m.length ≤ l.length + 1 ∧ AtOf l y m ∧ Below w.heap.size w w'
set_option maxRecDepth 100000 in
set_option maxHeartbeats 8000000 in
theorem RSet_at (A : Option Addr) (c : Nat) (l : List At) (nm vl : ByteArray) (w : World) (hl : l.length ≤ 1000) (h : RowAt w w.heap.size A 2 l.length (cellsOf encAt l)) :
    Calls Try.prog 23 #[.slice A l.length c, .string nm, .string vl] w (AtSetPost l ⟨nm, vl⟩ w) := by
  have H := Lib.hid h
  clear h
  obtain ⟨i0, hi0, hz0, hz1, hz2⟩ := info_parts atInfo
  have Hi0 := Lib.hid hi0
  have Hz0 := Lib.hid hz0
  have Hz1 := Lib.hid hz1
  have Hz2 := Lib.hid hz2
  clear hi0 hz0 hz1 hz2
  obtain ⟨N, hN⟩ : ∃ N, l.length = N := ⟨_, rfl⟩
  have HN := Lib.hid hN
  have HEnd : Hid (∀ (v : Value) (m : List At) (W : World), W.ownsRow w.heap.size 87 2 v m.length (cellsOf encAt m) → m.length ≤ N + 1 → AtOf l ⟨nm, vl⟩ m → Below w.heap.size w W → AtSetPost l ⟨nm, vl⟩ w (.returned v) W) := Lib.hid fun v m W h1 h2 h3 h4 => ⟨v, m, rfl, h1, by rw [hN]; exact h2, h3, h4⟩
  rw [hN] at hl ⊢
  clear hN
  generalize hP : AtSetPost l ⟨nm, vl⟩ w = P at *
  clear hP
  go_enter Try.func23, Try.ntmps23
  go_wp2_with fail
  go_loopg [7, 8, 9] (N + 1) (fun gk s7 s8 s9 wr => ∃ (k : Nat) (B : Option Addr) (d : Nat) (m : List At) (b : Bool), s7 = .slice B m.length d ∧ s8 = .bool b ∧ s9 = .int .i64 k ∧ k + gk = N + 1 ∧ k ≤ N ∧ m.length ≤ k + 1 ∧ (b = false → m.length ≤ k) ∧ Hid (wr.ownsRow w.heap.size 87 2 (.slice B m.length d) m.length (cellsOf encAt m)) ∧ Hid (AtOf l ⟨nm, vl⟩ m) ∧ Hid (Below w.heap.size w wr))
  case atStart => exact ⟨0, none, 0, [], _, rfl, rfl, rfl, by omega, Nat.zero_le _, by simp, fun _ => by simp, World.ownsRow_nil _ _ _ _, (fun x hx => by cases hx), Below.refl _ _⟩
  case round =>
    obtain ⟨k, B, d, m, b, rfl, rfl, rfl, hkg, hkN, hmk, hmb, hO, hA, hB⟩ := hrel
    obtain ⟨wo, rfl⟩ : ∃ wo : World, wo = wr := ⟨_, rfl⟩
    have hwz := hB.out.size
    by_cases hlt : k < N
    · have hltI : (k : Int) < (N : Int) := by omega
      have hk2 : k < l.length := by rw [HN.out]; exact hlt
      obtain ⟨ba, off, rfl, hba, hc⟩ := H.out.cell encAt_len hk2
      have hx : l[k]? = some l[k] := List.getElem?_eq_getElem hk2
      have HC : Hid (∀ W, Below w.heap.size w W → W.cell? ⟨ba, off + k * 2, none⟩ = some (.string l[k].name) ∧ W.cell? ⟨ba, off + k * 2 + 1, none⟩ = some (.string l[k].val)) := Lib.hid fun W hW =>
        ⟨(hW.cell (p := ⟨ba, off + k * 2, none⟩) hba).trans (hc k _ hx 0 _ rfl), (hW.cell (p := ⟨ba, off + k * 2 + 1, none⟩) hba).trans (hc k _ hx 1 _ rfl)⟩
      have HIn : Hid (l[k] ∈ l) := Lib.hid (List.getElem_mem _)
      obtain ⟨c0, c1⟩ := HC.out wo hB.out
      generalize l[k] = x at *
      obtain ⟨xn, xv⟩ := x
      dsimp only at c0 c1 HC
      clear hc hx hk2
      cases hq2 : (xn.toList == nm.toList)
      · cases b
        · have hm0 := hmb rfl
          clear hmb
          cases hq1 : Op.bytesLess xn.toList nm.toList
          · skip
            go_wp2_with (first
              | (at_builtin; go_loud (refine wpList_append_lies _ rfl (.tmp 29) (.tmp 33) _ (by rfl) w.heap.size 87 i0 _ 2 32 Try.underlying23 Hi0.out Hz0.out Hz1.out Hz2.out rfl (by omega) (.slice B m.length d) (m.length) (cellsOf encAt m) (by rfl) (hO.out.alloc _) _ 1 1 (encAt (⟨nm, vl⟩ : At)) (by rfl) (by rfl) (by exact World.news_of_block (heap_alloc_new _ _)) (encAt_one2 _) (by omega) (by unfold maxLen; omega) (by omega) (by simp; omega) _ rfl ?_; intro g1 cap1 w1 hown1 hgrow1 hat1 hlt1; have HO1 := Lib.hid hown1; have HB1 : Hid (Below w.heap.size w w1) := Lib.hid ((bt hB.out (below_alloc _ _)).grown hgrow1 (bt hB.out (below_alloc _ _)).size (fun j e => (hO.out.lt j e).1)); obtain ⟨x10, x11⟩ := HC.out w1 HB1.out; have hz1 := HB1.out.size; clear hown1 hgrow1 hat1 hlt1))
              | (at_builtin; go_loud (refine wpList_append_lies _ rfl (.tmp 42) (.tmp 47) _ (by rfl) w.heap.size 87 i0 _ 2 32 Try.underlying23 Hi0.out Hz0.out Hz1.out Hz2.out rfl (by omega) (.slice (some ⟨g1, 0, none⟩) (m.length + 1) cap1) (m.length + 1) (cellsOf encAt m ++ encAt (⟨nm, vl⟩ : At)) (by rfl) (HO1.out.alloc _) _ 1 1 (encAt (⟨xn, xv⟩ : At)) (by rfl) (by rfl) (by exact World.news_of_block (heap_alloc_new _ _)) (encAt_one2 _) (by omega) (by unfold maxLen; omega) (by omega) (by simp; omega) _ rfl ?_; intro g2 cap2 w2 hown2 hgrow2 hat2 hlt2; have HO2 := Lib.hid hown2; have HB2 : Hid (Below w.heap.size w w2) := Lib.hid ((bt HB1.out (below_alloc _ _)).grown hgrow2 (bt HB1.out (below_alloc _ _)).size (fun j e => (HO1.out.lt j e).1)); obtain ⟨x20, x21⟩ := HC.out w2 HB2.out; have hz2 := HB2.out.size; clear hown2 hgrow2 hat2 hlt2)))
            go_roundg (gk - 1)
            case measure => omega
            case rel => exact ⟨k + 1, _, _, ((m ++ [(⟨nm, vl⟩ : At)]) ++ [(⟨xn, xv⟩ : At)]), true, by rw [List.length_append, List.length_append]; rfl, rfl, by go_num, by omega, by omega, by simp; omega, (fun h => by cases h), own_ap HO2.out (by simp) (by simp [cellsOf]), (AtOf.snoc (hA.out.snoc (Or.inr rfl)) (Or.inl HIn.out)), HB2.out⟩
          · skip
            go_wp2_with (first
              | (at_builtin; go_loud (refine wpList_append_lies _ rfl (.tmp 42) (.tmp 47) _ (by rfl) w.heap.size 87 i0 _ 2 32 Try.underlying23 Hi0.out Hz0.out Hz1.out Hz2.out rfl (by omega) (.slice B m.length d) (m.length) (cellsOf encAt m) (by rfl) (hO.out.alloc _) _ 1 1 (encAt (⟨xn, xv⟩ : At)) (by rfl) (by rfl) (by exact World.news_of_block (heap_alloc_new _ _)) (encAt_one2 _) (by omega) (by unfold maxLen; omega) (by omega) (by simp; omega) _ rfl ?_; intro g2 cap2 w2 hown2 hgrow2 hat2 hlt2; have HO2 := Lib.hid hown2; have HB2 : Hid (Below w.heap.size w w2) := Lib.hid ((bt hB.out (below_alloc _ _)).grown hgrow2 (bt hB.out (below_alloc _ _)).size (fun j e => (hO.out.lt j e).1)); obtain ⟨x20, x21⟩ := HC.out w2 HB2.out; have hz2 := HB2.out.size; clear hown2 hgrow2 hat2 hlt2)))
            go_roundg (gk - 1)
            case measure => omega
            case rel => exact ⟨k + 1, _, _, (m ++ [(⟨xn, xv⟩ : At)]), false, by rw [List.length_append]; rfl, rfl, by go_num, by omega, by omega, by simp; omega, (fun _ => by simp; omega), own_ap HO2.out (by simp) (by simp [cellsOf]), (AtOf.snoc hA.out (Or.inl HIn.out)), HB2.out⟩
        · clear hmb
          go_wp2_with (first
            | (at_builtin; go_loud (refine wpList_append_lies _ rfl (.tmp 42) (.tmp 47) _ (by rfl) w.heap.size 87 i0 _ 2 32 Try.underlying23 Hi0.out Hz0.out Hz1.out Hz2.out rfl (by omega) (.slice B m.length d) (m.length) (cellsOf encAt m) (by rfl) (hO.out.alloc _) _ 1 1 (encAt (⟨xn, xv⟩ : At)) (by rfl) (by rfl) (by exact World.news_of_block (heap_alloc_new _ _)) (encAt_one2 _) (by omega) (by unfold maxLen; omega) (by omega) (by simp; omega) _ rfl ?_; intro g2 cap2 w2 hown2 hgrow2 hat2 hlt2; have HO2 := Lib.hid hown2; have HB2 : Hid (Below w.heap.size w w2) := Lib.hid ((bt hB.out (below_alloc _ _)).grown hgrow2 (bt hB.out (below_alloc _ _)).size (fun j e => (hO.out.lt j e).1)); obtain ⟨x20, x21⟩ := HC.out w2 HB2.out; have hz2 := HB2.out.size; clear hown2 hgrow2 hat2 hlt2)))
          go_roundg (gk - 1)
          case measure => omega
          case rel => exact ⟨k + 1, _, _, (m ++ [(⟨xn, xv⟩ : At)]), true, by rw [List.length_append]; rfl, rfl, by go_num, by omega, by omega, by simp; omega, (fun h => by cases h), own_ap HO2.out (by simp) (by simp [cellsOf]), (AtOf.snoc hA.out (Or.inl HIn.out)), HB2.out⟩
      · cases b
        · have hm0 := hmb rfl
          clear hmb
          cases hq1 : Op.bytesLess xn.toList nm.toList
          · skip
            go_wp2_with (first
              | (at_builtin; go_loud (refine wpList_append_lies _ rfl (.tmp 29) (.tmp 33) _ (by rfl) w.heap.size 87 i0 _ 2 32 Try.underlying23 Hi0.out Hz0.out Hz1.out Hz2.out rfl (by omega) (.slice B m.length d) (m.length) (cellsOf encAt m) (by rfl) (hO.out.alloc _) _ 1 1 (encAt (⟨nm, vl⟩ : At)) (by rfl) (by rfl) (by exact World.news_of_block (heap_alloc_new _ _)) (encAt_one2 _) (by omega) (by unfold maxLen; omega) (by omega) (by simp; omega) _ rfl ?_; intro g1 cap1 w1 hown1 hgrow1 hat1 hlt1; have HO1 := Lib.hid hown1; have HB1 : Hid (Below w.heap.size w w1) := Lib.hid ((bt hB.out (below_alloc _ _)).grown hgrow1 (bt hB.out (below_alloc _ _)).size (fun j e => (hO.out.lt j e).1)); obtain ⟨x10, x11⟩ := HC.out w1 HB1.out; have hz1 := HB1.out.size; clear hown1 hgrow1 hat1 hlt1)))
            go_roundg (gk - 1)
            case measure => omega
            case rel => exact ⟨k + 1, _, _, (m ++ [(⟨nm, vl⟩ : At)]), true, by rw [List.length_append]; rfl, rfl, by go_num, by omega, by omega, by simp; omega, (fun h => by cases h), own_ap HO1.out (by simp) (by simp [cellsOf]), (hA.out.snoc (Or.inr rfl)), HB1.out⟩
          · skip
            go_wp2
            go_roundg (gk - 1)
            case measure => omega
            case rel => exact ⟨k + 1, _, _, m, false, rfl, rfl, by go_num, by omega, by omega, by omega, (fun _ => by omega), hO.out, hA.out, hB.out⟩
        · clear hmb
          go_wp2
          go_roundg (gk - 1)
          case measure => omega
          case rel => exact ⟨k + 1, _, _, m, true, rfl, rfl, by go_num, by omega, by omega, by omega, (fun h => by cases h), hO.out, hA.out, hB.out⟩
    · obtain rfl : k = N := by omega
      cases b
      · have hm0 := hmb rfl
        go_wp2_with (at_builtin; go_loud (refine wpList_append_lies _ rfl (.tmp 51) (.tmp 55) _ (by rfl) w.heap.size 87 i0 _ 2 32 Try.underlying23 Hi0.out Hz0.out Hz1.out Hz2.out rfl (by omega) (.slice B m.length d) m.length (cellsOf encAt m) (by rfl) (hO.out.alloc _) _ 1 1 (encAt (⟨nm, vl⟩ : At)) (by rfl) (by rfl) (by exact World.news_of_block (heap_alloc_new _ _)) (encAt_one2 _) (by omega) (by unfold maxLen; omega) (by omega) (by simp; omega) _ rfl ?_; intro g2 cap2 w2 hown2 hgrow2 hat2 hlt2; have HO2 := Lib.hid hown2; have HB2 : Hid (Below w.heap.size w w2) := Lib.hid ((bt hB.out (below_alloc _ _)).grown hgrow2 (bt hB.out (below_alloc _ _)).size (fun j e => (hO.out.lt j e).1)); clear hown2 hgrow2 hat2 hlt2))
        exact HEnd.out _ (m ++ [(⟨nm, vl⟩ : At)]) _ (by have := own_ap (l2 := m ++ [(⟨nm, vl⟩ : At)]) (enc := encAt) HO2.out (by simp) (by simp [cellsOf]); rw [List.length_append] at this ⊢; exact this) (by simp; omega) (hA.out.snoc (Or.inr rfl)) HB2.out
      · go_wp2
        exact HEnd.out _ m _ hO.out (by omega) hA.out hB.out
end Go.Proofs.Ytgdjknpdgajdgaa
namespace Go.Proofs.Ytgdjknpdgajdgaa
open Go.RowKit
abbrev ARow := TRow (α := At) 87 2 encAt
def SomeAts (hi : Nat) (w0 : World) (b n p d : Nat) (w : World) (e : Ending) (w' : World) : Prop := ∃ v l, e = .returned v ∧ l.length ≤ hi ∧ (∀ x ∈ l, x.val.size ≤ 200) ∧ ARow w0 b n p d w v l w'
/-- A list that Set has made takes the place of the elder one. -/
theorem ARow.set {w0 w W W1 : World} {b n p d : Nat} {v v' : Value} {l m : List At} (h : ARow w0 b n p d w v l W) (hown : W1.ownsRow W.heap.size 87 2 v' m.length (cellsOf encAt m)) (hb : Below W.heap.size W W1) : ARow w0 b n p d w v' m W1 :=
  ⟨h.nx.grownR (grown_below hb none) (fun _ e => by cases e), own_base hown h.nx.gr.size, h.lo⟩
theorem ats_small {l m : List At} {y : At} (h : ∀ x ∈ l, x.val.size ≤ 200) (hy : y.val.size ≤ 200) (hm : AtOf l y m) : ∀ x ∈ m, x.val.size ≤ 200 := fun x hx => by
  rcases hm x hx with h1 | rfl
  · exact h x h1
  · exact hy
set_option maxRecDepth 100000 in
set_option maxHeartbeats 8000000 in
theorem Attrs_any {w0 w : World} {b n p d : Nat} (h : TSt w0 b n p d w) (h3 : p + d ≤ 90000) :
    Calls Try.prog 22 #[.pointer (some ⟨b, 0, none⟩)] w (SomeAts 3 w0 b n p (d + 10) w) := by
  have H := Lib.hid h
  have hlb := h.lt
  have hws := h.size
  clear h
  unfold SomeAts
  go_enter Try.func22, Try.ntmps22
  go_wp2_with fail
  (with_reducible refine (Next_t (n := n) (p := p) _ H.out (by omega) (by omega) (by omega)).mono ?_)
  rintro e w1 ⟨r, r0, r1, rfl, hT1⟩
  obtain ⟨rn, rfl⟩ := Int.eq_ofNat_of_zero_le r0
  have hrn : rn ≤ 3 := by omega
  have HT1 := Lib.hid (TRow.go (TRow.start (T := 87) (kk := 2) (enc := encAt) H.out) hT1)
  clear hT1 r0 r1
  go_wp2_with fail
  go_loopg [3, 4] 4 (fun gk s3 s4 wr => ∃ (k : Nat) (A : Option Addr) (c : Nat) (l : List At) (D : Nat), s3 = .slice A l.length c ∧ s4 = .int .i64 k ∧ k + 1 ≤ gk ∧ k ≤ 3 ∧ l.length + k ≤ 3 ∧ D + 2 * k ≤ d + 10 ∧ Hid (∀ x ∈ l, x.val.size ≤ 200) ∧ Hid (ARow w0 b n p D w (.slice A l.length c) l wr))
  case atStart => exact ⟨rn, none, 0, [], d + 1, rfl, rfl, by omega, hrn, by simp; omega, by omega, (fun x hx => by cases hx), HT1.out⟩
  case round =>
    obtain ⟨k, A, c, l, D, rfl, rfl, hkg, hk2, hlk, hD, hZ, hR⟩ := hrel
    by_cases hk : 0 < k
    · have hkI : (0 : Int) < (k : Int) := by omega
      go_wp2_with fail
      (with_reducible refine (One_b (n := n) (p := p) 60 _ _ _ _ _ hR.out.nx.st (by decide) (by simp) (by decide) (by decide) (by simp) (by omega)).mono ?_)
      rintro e w2 ⟨s1, hs1, rfl, hT2⟩
      have HR2 := Lib.hid (hR.out.go hT2)
      clear hT2
      go_wp2_with fail
      (with_reducible refine (One_b (n := n) (p := p) 60 _ _ _ _ _ HR2.out.nx.st (by decide) (by simp) (by decide) (by decide) (by simp) (by omega)).mono ?_)
      rintro e w3 ⟨s2, hs2, rfl, hT3⟩
      have HR3 := Lib.hid (HR2.out.go hT3)
      clear hT3
      go_wp2_with fail
      refine (RSet_at A c l s1 s2 w3 (by omega) (RowAt.of_own HR3.out.own)).mono ?_
      rintro e w4 ⟨v4, m, rfl, hown4, hml, hat4, hb4⟩
      obtain ⟨A4, c4, rfl⟩ := own_slice hown4
      have HR4 := Lib.hid (ARow.set HR3.out hown4 hb4)
      have HZ4 := Lib.hid (ats_small hZ.out (y := ⟨s1, s2⟩) (by show s2.size ≤ 200; omega) hat4)
      clear hown4 hb4 hat4
      go_wp2
      go_roundg (gk - 1)
      case measure => omega
      case rel => exact ⟨k - 1, A4, c4, m, D + 2, rfl, by rw [show ((k - 1 : Nat) : Int) = (k : Int) - 1 from by omega], by omega, by omega, by omega, by omega, HZ4.out, HR4.out⟩
    · obtain rfl : k = 0 := by omega
      go_wp2
      go_ret
      exact ⟨_, l, rfl, by omega, hZ.out, hR.out.more (by omega)⟩
end Go.Proofs.Ytgdjknpdgajdgaa
