/-
  Contract of coldplugworld's Terms: a list of some short terms.
-/
import Derived.Test.YtgdjknpdgajdgaaMatches
import Derived.Test.YtgdjknpdgajdgaaAssigns
import Derived.Test.YtgdjknpdgajdgaaG05
import Derived.Deep.AppendLies
namespace Go.Proofs.Ytgdjknpdgajdgaa
open Go.RowKit
/-- A list of short terms beside the tape. -/
structure TTm (w0 : World) (b n p d : Nat) (w : World) (v : Value) (l : List Tm) (W : World) : Prop where
  row : TRow 43 4 encTm w0 b n p d w v l W
  small : ∀ t ∈ l, TmSmall 60 t
def SomeTms (lo hi : Nat) (w0 : World) (b n p d : Nat) (w : World) (e : Ending) (w' : World) : Prop := ∃ v l, e = .returned v ∧ lo ≤ l.length ∧ l.length ≤ hi ∧ TTm w0 b n p d w v l w'
theorem snoc_small {l : List Tm} {t : Tm} (h : ∀ x ∈ l, TmSmall 60 x) (ht : TmSmall 60 t) : ∀ x ∈ l ++ [t], TmSmall 60 x := fun x hx => by
  rcases List.mem_append.1 hx with hx | hx
  · exact h x hx
  · obtain rfl := List.mem_singleton.1 hx; exact ht
theorem cons_small {l : List Tm} {t : Tm} (h : ∀ x ∈ l, TmSmall 60 x) (ht : TmSmall 60 t) : ∀ x ∈ t :: l, TmSmall 60 x := fun x hx => by
  rcases List.mem_cons.1 hx with rfl | hx
  · exact ht
  · exact h x hx
theorem cells_one (l : List Tm) : ∀ u ∈ cellsOf encTm l, u.oneCell' = true := fun u hu => by
  unfold cellsOf at hu
  obtain ⟨t, _, hu⟩ := List.mem_flatMap.1 hu
  exact encTm_one t u hu
/-- A fresh literal of one element, to which the made list is appended. -/
theorem TRow.cons {α : Type} {T : TypeId} {kk : Nat} {enc : α → List Value} {w0 w W W2 : World} {b n p d c B : Nat} {A : Option Addr} {v : Value} {l : List α} {t : α} (h : TRow T kk enc w0 b n p d w v l W) (hown : W2.ownsRow w.heap.size T kk (.slice A (1 + l.length) c) (1 + l.length) (enc t ++ cellsOf enc l)) (hg : W.grownBy W2 (some B)) (hB : w.heap.size ≤ B) : TRow T kk enc w0 b n p d w (.slice A (1 + l.length) c) (t :: l) W2 :=
  ⟨h.nx.grownR hg (fun j e => by cases e; have := h.lo; omega), by rw [List.length_cons, Nat.add_comm l.length 1]; exact hown, h.lo⟩
set_option maxRecDepth 100000 in
set_option maxHeartbeats 8000000 in
theorem Terms_any {w0 w : World} {b n p d : Nat} (h : TSt w0 b n p d w) (h3 : p + d ≤ 90000) :
    Calls Try.prog 15 #[.pointer (some ⟨b, 0, none⟩)] w (SomeTms 1 6 w0 b n p (d + 100) w) := by
  have H := Lib.hid h
  have hlb := h.lt
  have hws := h.size
  clear h
  obtain ⟨i0, hi0, hz0, hz1, hz2⟩ := info_parts termInfo
  have Hi0 := Lib.hid hi0
  have Hz0 := Lib.hid hz0
  have Hz1 := Lib.hid hz1
  have Hz2 := Lib.hid hz2
  clear hi0 hz0 hz1 hz2
  go_enter Try.func15, Try.ntmps15
  go_wp2_with fail
  (with_reducible refine (Next_t (n := n) (p := p) _ H.out (by omega) (by omega) (by omega)).mono ?_)
  rintro e w1 ⟨r, r0, r1, rfl, hT1⟩
  obtain ⟨rn, rfl⟩ := Int.eq_ofNat_of_zero_le r0
  have hrn : rn ≤ 2 := by omega
  have HT1 := Lib.hid (TRow.go (TRow.start (T := 43) (kk := 4) (enc := encTm) H.out) hT1)
  clear hT1 r0 r1
  go_wp2_with fail
  go_loopg [3, 4] 3 (fun gk s3 s4 wr => ∃ (k : Nat) (v : Value) (l : List Tm) (D : Nat), v = s3 ∧ s4 = .int .i64 k ∧ k + 1 ≤ gk ∧ k ≤ 2 ∧ l.length + k ≤ 2 ∧ D + 10 * k ≤ d + 21 ∧ Hid (TTm w0 b n p D w v l wr))
  case atStart => exact ⟨rn, _, [], d + 1, rfl, rfl, by omega, hrn, by simp; omega, by omega, HT1.out, fun t ht => by cases ht⟩
  case round =>
    obtain ⟨k, v, l, D, rfl, rfl, hkg, hk2, hlk, hD, hTT⟩ := hrel
    by_cases hk : 0 < k
    · have hkI : (0 : Int) < (k : Int) := by omega
      go_wp2_with fail
      (with_reducible refine (Matches_any (n := n) (p := p) hTT.out.row.nx.st (by omega)).mono ?_)
      rintro e w2 ⟨t, hts, rfl, hT2⟩
      have HR2 := Lib.hid (hTT.out.row.go hT2)
      have HS2 := Lib.hid (snoc_small hTT.out.small hts)
      clear hT2 hts
      unfold tmV
      have hw2 := HR2.out.nx.gr.size
      go_wp2_with (refine wpList_append_lies _ rfl _ _ _ (by rfl) w.heap.size 43 i0 _ 4 48 Try.underlying44 Hi0.out Hz0.out Hz1.out Hz2.out rfl (by omega) v l.length (cellsOf encTm l) (by rfl) (HR2.out.alloc _).own _ 1 1 (encTm t) (by rfl) (by rfl) (by exact World.news_of_block (B := w2.heap.size) (heap_alloc_new _ _)) (encTm_one _) (by omega) (by unfold maxLen; omega) (by omega) (by simp; omega) _ rfl ?_; intro g2 cap w3 hown2 hgrow2 hat2 hlt2)
      have HR3 := Lib.hid ((HR2.out.alloc _).snoc hown2 hgrow2)
      clear hown2 hgrow2 hat2
      go_wp2
      go_roundg (gk - 1)
      case measure => omega
      case rel => exact ⟨k - 1, _, l ++ [t], D + 10, rfl, by rw [show ((k - 1 : Nat) : Int) = (k : Int) - 1 from by omega], by omega, by omega, by simp; omega, by omega, HR3.out, HS2.out⟩
    · obtain rfl : k = 0 := by omega
      go_wp2_with fail
      (with_reducible refine (Next_t (n := n) (p := p) _ hTT.out.row.nx.st (by omega) (by omega) (by omega)).mono ?_)
      rintro e w2 ⟨r2, r0, r1, rfl, hT2⟩
      obtain ⟨rm, rfl⟩ := Int.eq_ofNat_of_zero_le r0
      have hrm : rm ≤ 1 := by omega
      have HR2 := Lib.hid (hTT.out.row.go hT2)
      have HS2 := Lib.hid hTT.out.small
      clear hT2 hTT r0 r1
      go_wp2_with fail
      obtain ⟨gko, rfl⟩ : ∃ gko : Nat, gko = gk := ⟨_, rfl⟩
      obtain ⟨wo, rfl⟩ : ∃ wo : World, wo = wr := ⟨_, rfl⟩
      go_loopg [3, 5] 4 (fun gk s3 s5 wr => ∃ (k : Nat) (v : Value) (l : List Tm) (D : Nat), v = s3 ∧ s5 = .int .i64 k ∧ k + 1 ≤ gk ∧ k ≤ 2 ∧ l.length + k ≤ 4 ∧ 1 ≤ l.length + k ∧ D + 10 * k ≤ d + 52 ∧ Hid (TTm w0 b n p D w v l wr))
      case atStart => exact ⟨1 + rm, v, l, D + 1, rfl, by rw [show ((1 + rm : Nat) : Int) = 1 + (rm : Int) from by omega], by omega, by omega, by omega, by omega, by omega, HR2.out, HS2.out⟩
      case round =>
        obtain ⟨k, v, l, D, rfl, rfl, hkg2, hk22, hlk2, hlk3, hD2, hTT⟩ := hrel
        by_cases hk : 0 < k
        · have hkI : (0 : Int) < (k : Int) := by omega
          go_wp2_with fail
          (with_reducible refine (Assigns_any (n := n) (p := p) hTT.out.row.nx.st (by omega)).mono ?_)
          rintro e w3 ⟨t, hts, rfl, hT3⟩
          have HR3 := Lib.hid (hTT.out.row.go hT3)
          have HS3 := Lib.hid (snoc_small hTT.out.small hts)
          clear hT3 hts
          unfold tmV
          have hw3 := HR3.out.nx.gr.size
          go_wp2_with (refine wpList_append_lies _ rfl _ _ _ (by rfl) w.heap.size 43 i0 _ 4 48 Try.underlying44 Hi0.out Hz0.out Hz1.out Hz2.out rfl (by omega) v l.length (cellsOf encTm l) (by rfl) (HR3.out.alloc _).own _ 1 1 (encTm t) (by rfl) (by rfl) (by exact World.news_of_block (B := w3.heap.size) (heap_alloc_new _ _)) (encTm_one _) (by omega) (by unfold maxLen; omega) (by omega) (by simp; omega) _ rfl ?_; intro g2 cap w9 hown2 hgrow2 hat2 hlt2)
          have HR4 := Lib.hid ((HR3.out.alloc _).snoc hown2 hgrow2)
          clear hown2 hgrow2 hat2
          go_wp2
          go_roundg (gk - 1)
          case measure => omega
          case rel => exact ⟨k - 1, _, l ++ [t], D + 10, rfl, by rw [show ((k - 1 : Nat) : Int) = (k : Int) - 1 from by omega], by omega, by omega, by simp; omega, by simp; omega, by omega, HR4.out, HS3.out⟩
        · obtain rfl : k = 0 := by omega
          go_wp2_with fail
          (with_reducible refine (Next_t (n := n) (p := p) _ hTT.out.row.nx.st (by omega) (by omega) (by omega)).mono ?_)
          rintro e w3 ⟨r3, r0, r1, rfl, hT3⟩
          have HR3 := Lib.hid (hTT.out.row.go hT3)
          have HS3 := Lib.hid hTT.out.small
          clear hT3 hTT
          have hw3 := HR3.out.nx.gr.size
          by_cases h0 : r3 = 0
          · subst h0
            go_wp2_with fail
            (with_reducible refine (One_b (n := n) (p := p) 60 _ _ _ _ _ HR3.out.nx.st (by decide) (by simp) (by decide) (by decide) (by simp) (by omega)).mono ?_)
            rintro e w4 ⟨s, hs, rfl, hT4⟩
            have HR4 := Lib.hid (HR3.out.go hT4)
            clear hT4
            have hw4 := HR4.out.nx.gr.size
            have HS4 := Lib.hid (snoc_small (t := ⟨23, ⟨#[]⟩, 3, s⟩) HS3.out ⟨(by dsimp only; decide), hs, (by dsimp only; decide), (by dsimp only; decide), (by dsimp only; decide), (by dsimp only; decide)⟩)
            go_wp2_with (refine wpList_append_lies _ rfl _ _ _ (by rfl) w.heap.size 43 i0 _ 4 48 Try.underlying44 Hi0.out Hz0.out Hz1.out Hz2.out rfl (by omega) v l.length (cellsOf encTm l) (by rfl) (HR4.out.alloc _).own _ 1 1 (encTm ⟨23, ⟨#[]⟩, 3, s⟩) (by rfl) (by rfl) (by exact World.news_of_block (B := w4.heap.size) (heap_alloc_new _ _)) (encTm_one _) (by omega) (by unfold maxLen; omega) (by omega) (by simp; omega) _ rfl ?_; intro g2 cap w9 hown2 hgrow2 hat2 hlt2)
            have HR5 := Lib.hid ((HR4.out.alloc _).snoc (t := ⟨23, ⟨#[]⟩, 3, s⟩) hown2 hgrow2)
            clear hown2 hgrow2 hat2
            go_wp2
            go_ret
            exact ⟨_, l ++ [⟨23, ⟨#[]⟩, 3, s⟩], rfl, by simp, by simp; omega, HR5.out.more (by omega), HS4.out⟩
          by_cases h1 : r3 = 1
          · subst h1
            go_wp2_with fail
            (with_reducible refine (One_b (n := n) (p := p) 60 _ _ _ _ _ HR3.out.nx.st (by decide) (by simp) (by decide) (by decide) (by simp) (by omega)).mono ?_)
            rintro e w4 ⟨s, hs, rfl, hT4⟩
            have HR4 := Lib.hid (HR3.out.go hT4)
            clear hT4
            have hw4 := HR4.out.nx.gr.size
            have HS4 := Lib.hid (snoc_small (t := ⟨24, ⟨#[]⟩, 3, s⟩) HS3.out ⟨(by dsimp only; decide), hs, (by dsimp only; decide), (by dsimp only; decide), (by dsimp only; decide), (by dsimp only; decide)⟩)
            go_wp2_with (refine wpList_append_lies _ rfl _ _ _ (by rfl) w.heap.size 43 i0 _ 4 48 Try.underlying44 Hi0.out Hz0.out Hz1.out Hz2.out rfl (by omega) v l.length (cellsOf encTm l) (by rfl) (HR4.out.alloc _).own _ 1 1 (encTm ⟨24, ⟨#[]⟩, 3, s⟩) (by rfl) (by rfl) (by exact World.news_of_block (B := w4.heap.size) (heap_alloc_new _ _)) (encTm_one _) (by omega) (by unfold maxLen; omega) (by omega) (by simp; omega) _ rfl ?_; intro g2 cap w9 hown2 hgrow2 hat2 hlt2)
            have HR5 := Lib.hid ((HR4.out.alloc _).snoc (t := ⟨24, ⟨#[]⟩, 3, s⟩) hown2 hgrow2)
            clear hown2 hgrow2 hat2
            go_wp2
            go_ret
            exact ⟨_, l ++ [⟨24, ⟨#[]⟩, 3, s⟩], rfl, by simp, by simp; omega, HR5.out.more (by omega), HS4.out⟩
          have e0 : (r3 == 0) = false := by simp [h0]
          have e1 : (r3 == 1) = false := by simp [h1]
          by_cases h2 : r3 = 2
          · subst h2
            go_wp2_with fail
            (with_reducible refine (Assigns_any (n := n) (p := p) HR3.out.nx.st (by omega)).mono ?_)
            rintro e w4 ⟨t, hts, rfl, hT4⟩
            have HR4 := Lib.hid (HR3.out.go hT4)
            clear hT4
            have HS4 := Lib.hid (cons_small HS3.out hts)
            clear hts
            unfold tmV
            have hw4 := HR4.out.nx.gr.size
            have hlo := HR4.out.lo
            obtain ⟨gg, cp, hv, hgb, hgl⟩ := HR4.out.own.form (by omega)
            subst hv
            go_wp2_with (refine wpList_append_lies _ rfl _ _ _ (by rfl) w.heap.size 43 i0 _ 4 48 Try.underlying44 Hi0.out Hz0.out Hz1.out Hz2.out rfl (by omega) (.slice (some ⟨w4.heap.size, 0, none⟩) 1 1) 1 (encTm t) (by rfl) (by exact World.ownsRow_lit w4 _ 1 (by omega) (by unfold maxLen; omega) (by rfl)) _ l.length cp (cellsOf encTm l) (by rfl) (cellsOf_len encTm 4 (fun _ => rfl) l) (by exact (HR4.out.alloc _).own.cells rfl) (cells_one l) (by omega) (by unfold maxLen; omega) (by omega) (by simp; omega) _ rfl ?_; intro g2 cap w9 hown2 hgrow2 hat2 hlt2)
            have HR5 := Lib.hid ((HR4.out.alloc _).cons hown2 hgrow2 hw4)
            clear hown2 hgrow2 hat2
            go_wp2
            go_ret
            exact ⟨_, t :: l, rfl, by simp, by simp; omega, HR5.out.more (by omega), HS4.out⟩
          · have e2 : (r3 == 2) = false := by simp [h2]
            clear h0 h1 h2
            go_wp2
            go_ret
            exact ⟨_, l, rfl, by omega, by omega, HR3.out.more (by omega), HS3.out⟩
end Go.Proofs.Ytgdjknpdgajdgaa
