/-
  Contracts of both sides' front of a rule.
-/
import Derived.Test.YtgdjknpdgajdgaaPDev
import Derived.Test.YtgdjknpdgajdgaaTerms
import Derived.Test.YtgdjknpdgajdgaaG05
namespace Go.Proofs.Ytgdjknpdgajdgaa
open Go.RowKit
def FrontPost (l : List Tm) (w : World) (e : Ending) (w' : World) : Prop := ∃ v, e = .returned v ∧ w'.ownsRow w.heap.size 43 4 v (frontS l).length (cellsOf encTm (frontS l)) ∧ Below w.heap.size w w'
theorem front_go {l m : List Tm} {k : Nat} (h : m ++ frontS (l.drop k) = frontS l) (hk : k < l.length) : (stopB l[k] = true → m = frontS l) ∧ (stopB l[k] = false → (staticB l[k] = true → (m ++ [l[k]]) ++ frontS (l.drop (k + 1)) = frontS l) ∧ (staticB l[k] = false → m ++ frontS (l.drop (k + 1)) = frontS l)) := by
  rw [List.drop_eq_getElem_cons hk] at h
  refine ⟨fun hs => ?_, fun hs => ⟨fun h2 => ?_, fun h2 => ?_⟩⟩
  · rw [front_stop hs, List.append_nil] at h; exact h
  · rw [front_static hs h2] at h; rw [List.append_assoc]; exact h
  · rw [front_other hs h2] at h; exact h
theorem front_end {l m : List Tm} (h : m ++ frontS (l.drop l.length) = frontS l) : m = frontS l := by
  rw [List.drop_length] at h; simpa [frontS] using h
theorem front_post {l m : List Tm} {w wr : World} {A : Option Addr} {c : Nat} (h : m = frontS l) (ho : wr.ownsRow w.heap.size 43 4 (.slice A m.length c) m.length (cellsOf encTm m)) (hb : Below w.heap.size w wr) : FrontPost l w (.returned (.slice A m.length c)) wr := by
  subst h
  exact ⟨_, rfl, ho, hb⟩
set_option maxRecDepth 100000 in
set_option maxHeartbeats 8000000 in
theorem PFront_any (fl : ByteArray) (ln : Int) (A : Option Addr) (c : Nat) (l : List Tm) (w : World) (hl : l.length ≤ 1000) (h : RowAt w w.heap.size A 4 l.length (cellsOf encTm l)) :
    Calls Try.prog 18 #[.agg #[.string fl, .int .i64 ln, .slice A l.length c]] w (FrontPost l w) := by
  have H := Lib.hid h
  clear h
  obtain ⟨i0, hi0, hz0, hz1, hz2⟩ := info_parts termInfo
  have Hi0 := Lib.hid hi0
  have Hz0 := Lib.hid hz0
  have Hz1 := Lib.hid hz1
  have Hz2 := Lib.hid hz2
  clear hi0 hz0 hz1 hz2
  obtain ⟨N, hN⟩ : ∃ N, l.length = N := ⟨_, rfl⟩
  have HN := Lib.hid hN
  have HSta : Hid ([] ++ frontS (l.drop 0) = frontS l) := Lib.hid rfl
  rw [hN] at hl ⊢
  clear hN
  have HFp : Hid (∀ (m : List Tm) (wr : World) (A : Option Addr) (c : Nat), m = frontS l → wr.ownsRow w.heap.size 43 4 (.slice A m.length c) m.length (cellsOf encTm m) → Below w.heap.size w wr → FrontPost l w (.returned (.slice A m.length c)) wr) := Lib.hid fun m wr A c h1 h2 h3 => front_post h1 h2 h3
  generalize hP : FrontPost l w = P at *
  clear hP
  go_enter Try.func18, Try.ntmps18
  go_wp2_with fail
  go_loopg [3, 9] (N + 1) (fun gk s3 s9 wr => ∃ (k : Nat) (B : Option Addr) (d : Nat) (m : List Tm), s3 = .slice B m.length d ∧ s9 = .int .i64 k ∧ k + gk = N + 1 ∧ k ≤ N ∧ m.length ≤ k ∧ Hid (wr.ownsRow w.heap.size 43 4 (.slice B m.length d) m.length (cellsOf encTm m)) ∧ Hid (m ++ frontS (l.drop k) = frontS l) ∧ Hid (Below w.heap.size w wr))
  case atStart => exact ⟨0, none, 0, [], rfl, rfl, by omega, Nat.zero_le _, Nat.le_refl _, World.ownsRow_nil _ _ _ _, HSta.out, below_alloc _ _⟩
  case round =>
    obtain ⟨k, B, d, m, rfl, rfl, hkg, hkN, hmk, hO, hF, hB⟩ := hrel
    obtain ⟨wo, rfl⟩ : ∃ wo : World, wo = wr := ⟨_, rfl⟩
    have hwz := hB.out.size
    by_cases hlt : k < N
    · have hltI : (k : Int) < (N : Int) := by omega
      have hk2 : k < l.length := by rw [HN.out]; exact hlt
      have hr := H.out
      obtain ⟨ba, off, rfl, c0, c1, c2, c3⟩ := hr.tm hB.out hk2
      obtain ⟨f1, f2⟩ := front_go hF.out hk2
      have HF1 := Lib.hid f1
      have HF2 := Lib.hid f2
      have HSt := Lib.hid (fun W => PStatic_any l[k] W)
      generalize l[k] = t at *
      obtain ⟨ky, nmm, op, vl⟩ := t
      unfold tmV at HSt
      dsimp only at c0 c1 c2 c3 HSt
      clear hr f1 f2 hk2
      by_cases h12 : ky = 12
      · subst h12
        have HE := Lib.hid (HF1.out rfl)
        go_wp2
        exact HFp.out _ _ _ _ HE.out (hO.out.alloc _) (hB.out.trans ((below_alloc _ _).mono hB.out.size))
      have e12 : (ky == 12) = false := by simpa using h12
      by_cases h14 : ky = 14
      · subst h14
        have HE := Lib.hid (HF1.out rfl)
        go_wp2
        exact HFp.out _ _ _ _ HE.out (hO.out.alloc _) (hB.out.trans ((below_alloc _ _).mono hB.out.size))
      have e14 : (ky == 14) = false := by simpa using h14
      obtain ⟨g1, g2⟩ := HF2.out (by unfold stopB; rw [e12, e14]; rfl)
      have HG1 := Lib.hid g1
      have HG2 := Lib.hid g2
      clear h12 h14 g1 g2
      cases hs : staticB (⟨ky, nmm, op, vl⟩ : Tm) with
      | false =>
        rw [hs] at HSt
        have HE := Lib.hid (HG2.out hs)
        clear hs
        go_wp2_with (go_at_call 38; refine (HSt.out _).mono ?_; rintro e w2 ⟨rfl, hb2⟩; have HB2 := Lib.hid (bt (below_alloc wo _) hb2); clear hb2)
        go_roundg (gk - 1)
        case measure => omega
        case rel => exact ⟨k + 1, B, d, m, rfl, by go_num, by omega, by omega, by omega, own_below2 hO.out HB2.out, HE.out, bt hB.out HB2.out⟩
      | true =>
        rw [hs] at HSt
        have HE := Lib.hid (HG1.out hs)
        clear hs
        go_wp2_with (first
          | (go_at_call 38; refine (HSt.out _).mono ?_; rintro e w2 ⟨rfl, hb2⟩; have HB2 := Lib.hid (bt (below_alloc wo _) hb2); obtain ⟨x0, x1, x2, x3⟩ := box4 hb2; have hw2 := HB2.out.size; clear hb2)
          | (at_builtin; go_loud (refine wpList_append_lies _ rfl _ _ _ (by rfl) w.heap.size 43 i0 _ 4 48 Try.underlying44 Hi0.out Hz0.out Hz1.out Hz2.out rfl (by omega) (.slice B m.length d) m.length (cellsOf encTm m) (by rfl) ((own_below2 hO.out HB2.out).alloc _) _ 1 1 (encTm ⟨ky, nmm, op, vl⟩) (by rfl) (by rfl) (by exact World.news_of_block (B := w2.heap.size) (heap_alloc_new _ _)) (encTm_one _) (by omega) (by unfold maxLen; omega) (by omega) (by simp; omega) _ rfl ?_; intro g2 cap w3 hown2 hgrow2 hat2 hlt2)))
        have hO3 := own_snoc hown2
        have hB3 : Below w.heap.size w w3 := (bt hB.out (bt HB2.out (below_alloc w2 _))).grown hgrow2 (by have := (below_alloc w2 (.cells #[.int .i64 ky, .string nmm, .int .i64 op, .string vl] 43)).size; omega) (fun j e => (hO.out.lt j e).1)
        have HO3 := Lib.hid hO3
        have HB3 := Lib.hid hB3
        clear hown2 hgrow2 hat2 hO3 hB3
        go_wp2
        go_roundg (gk - 1)
        case measure => omega
        case rel => exact ⟨k + 1, _, _, m ++ [(⟨ky, nmm, op, vl⟩ : Tm)], by rw [List.length_append]; rfl, by go_num, by omega, by omega, by simp; omega, by rw [List.length_append] at HO3 ⊢; exact HO3.out, HE.out, HB3.out⟩
    · obtain rfl : k = N := by omega
      have HE := Lib.hid (front_end (l := l) (m := m) (by have := hF.out; rw [← HN.out] at this; exact this))
      go_wp2
      exact HFp.out _ _ _ _ HE.out hO.out hB.out
set_option maxRecDepth 100000 in
set_option maxHeartbeats 8000000 in
theorem RFront_any (A : Option Addr) (c : Nat) (l : List Tm) (w : World) (hl : l.length ≤ 1000) (h : RowAt w w.heap.size A 4 l.length (cellsOf encTm l)) :
    Calls Try.prog 44 #[.slice A l.length c] w (FrontPost l w) := by
  have H := Lib.hid h
  clear h
  obtain ⟨i0, hi0, hz0, hz1, hz2⟩ := info_parts termInfo
  have Hi0 := Lib.hid hi0
  have Hz0 := Lib.hid hz0
  have Hz1 := Lib.hid hz1
  have Hz2 := Lib.hid hz2
  clear hi0 hz0 hz1 hz2
  obtain ⟨N, hN⟩ : ∃ N, l.length = N := ⟨_, rfl⟩
  have HN := Lib.hid hN
  have HSta : Hid ([] ++ frontS (l.drop 0) = frontS l) := Lib.hid rfl
  rw [hN] at hl ⊢
  clear hN
  have HFp : Hid (∀ (m : List Tm) (wr : World) (A : Option Addr) (c : Nat), m = frontS l → wr.ownsRow w.heap.size 43 4 (.slice A m.length c) m.length (cellsOf encTm m) → Below w.heap.size w wr → FrontPost l w (.returned (.slice A m.length c)) wr) := Lib.hid fun m wr A c h1 h2 h3 => front_post h1 h2 h3
  generalize hP : FrontPost l w = P at *
  clear hP
  go_enter Try.func44, Try.ntmps44
  go_wp2_with fail
  go_loopg [3, 4] (N + 1) (fun gk s3 s4 wr => ∃ (k : Nat) (B : Option Addr) (d : Nat) (m : List Tm), s3 = .slice B m.length d ∧ s4 = .int .i64 k ∧ k + gk = N + 1 ∧ k ≤ N ∧ m.length ≤ k ∧ Hid (wr.ownsRow w.heap.size 43 4 (.slice B m.length d) m.length (cellsOf encTm m)) ∧ Hid (m ++ frontS (l.drop k) = frontS l) ∧ Hid (Below w.heap.size w wr))
  case atStart => exact ⟨0, none, 0, [], rfl, rfl, by omega, Nat.zero_le _, Nat.le_refl _, World.ownsRow_nil _ _ _ _, HSta.out, Below.refl _ _⟩
  case round =>
    obtain ⟨k, B, d, m, rfl, rfl, hkg, hkN, hmk, hO, hF, hB⟩ := hrel
    obtain ⟨wo, rfl⟩ : ∃ wo : World, wo = wr := ⟨_, rfl⟩
    have hwz := hB.out.size
    by_cases hlt : k < N
    · have hltI : (k : Int) < (N : Int) := by omega
      have hk2 : k < l.length := by rw [HN.out]; exact hlt
      have hr := H.out
      obtain ⟨ba, off, rfl, c0, c1, c2, c3⟩ := hr.tm hB.out hk2
      have HTm : Hid (∀ W, Below w.heap.size w W → W.cell? ⟨ba, off + k * 4, none⟩ = some (.int .i64 l[k].key) ∧ W.cell? ⟨ba, off + k * 4 + 1, none⟩ = some (.string l[k].name) ∧ W.cell? ⟨ba, off + k * 4 + 2, none⟩ = some (.int .i64 l[k].op) ∧ W.cell? ⟨ba, off + k * 4 + 3, none⟩ = some (.string l[k].value)) := Lib.hid fun W hW => by
        obtain ⟨ba', off', e', y⟩ := hr.tm hW hk2
        obtain ⟨rfl, rfl⟩ : ba = ba' ∧ off = off' := by injection e' with e'; injection e' with h1 h2; exact ⟨h1, h2⟩
        exact y
      obtain ⟨f1, f2⟩ := front_go hF.out hk2
      have HF1 := Lib.hid f1
      have HF2 := Lib.hid f2
      have HSt := Lib.hid (fun W => RStatic_any l[k] W)
      generalize l[k] = t at *
      obtain ⟨ky, nmm, op, vl⟩ := t
      unfold tmV at HSt
      dsimp only at c0 c1 c2 c3 HSt HTm
      clear hr f1 f2 hk2
      by_cases h12 : ky = 12
      · subst h12
        have HE := Lib.hid (HF1.out rfl)
        go_wp2
        exact HFp.out _ _ _ _ HE.out hO.out hB.out
      have e12 : (ky == 12) = false := by simpa using h12
      by_cases h14 : ky = 14
      · subst h14
        have HE := Lib.hid (HF1.out rfl)
        go_wp2
        exact HFp.out _ _ _ _ HE.out hO.out hB.out
      have e14 : (ky == 14) = false := by simpa using h14
      obtain ⟨g1, g2⟩ := HF2.out (by unfold stopB; rw [e12, e14]; rfl)
      have HG1 := Lib.hid g1
      have HG2 := Lib.hid g2
      clear h12 h14 g1 g2
      cases hs : staticB (⟨ky, nmm, op, vl⟩ : Tm) with
      | false =>
        rw [hs] at HSt
        have HE := Lib.hid (HG2.out hs)
        clear hs
        go_wp2_with (go_at_call 54; refine (HSt.out _).mono ?_; rintro e w2 ⟨rfl, hb2⟩; have HB2 := Lib.hid hb2; clear hb2)
        go_roundg (gk - 1)
        case measure => omega
        case rel => exact ⟨k + 1, B, d, m, rfl, by go_num, by omega, by omega, by omega, own_below2 hO.out HB2.out, HE.out, bt hB.out HB2.out⟩
      | true =>
        rw [hs] at HSt
        have HE := Lib.hid (HG1.out hs)
        clear hs
        go_wp2_with (first
          | (go_at_call 54; refine (HSt.out _).mono ?_; rintro e w2 ⟨rfl, hb2⟩; have HB2 := Lib.hid hb2; obtain ⟨x0, x1, x2, x3⟩ := HTm.out w2 (bt hB.out hb2); have hw2 := HB2.out.size; clear hb2)
          | (at_builtin; go_loud (refine wpList_append_lies _ rfl _ _ _ (by rfl) w.heap.size 43 i0 _ 4 48 Try.underlying44 Hi0.out Hz0.out Hz1.out Hz2.out rfl (by omega) (.slice B m.length d) m.length (cellsOf encTm m) (by rfl) ((own_below2 hO.out HB2.out).alloc _) _ 1 1 (encTm ⟨ky, nmm, op, vl⟩) (by rfl) (by rfl) (by exact World.news_of_block (B := w2.heap.size) (heap_alloc_new _ _)) (encTm_one _) (by omega) (by unfold maxLen; omega) (by omega) (by simp; omega) _ rfl ?_; intro g2 cap w3 hown2 hgrow2 hat2 hlt2)))
        have hO3 := own_snoc hown2
        have hB3 : Below w.heap.size w w3 := (bt hB.out (bt HB2.out (below_alloc w2 _))).grown hgrow2 (by have := (below_alloc w2 (.cells #[.int .i64 ky, .string nmm, .int .i64 op, .string vl] 43)).size; omega) (fun j e => (hO.out.lt j e).1)
        have HO3 := Lib.hid hO3
        have HB3 := Lib.hid hB3
        clear hown2 hgrow2 hat2 hO3 hB3
        go_wp2
        go_roundg (gk - 1)
        case measure => omega
        case rel => exact ⟨k + 1, _, _, m ++ [(⟨ky, nmm, op, vl⟩ : Tm)], by rw [List.length_append]; rfl, by go_num, by omega, by omega, by simp; omega, by rw [List.length_append] at HO3 ⊢; exact HO3.out, HE.out, HB3.out⟩
    · obtain rfl : k = N := by omega
      have HE := Lib.hid (front_end (l := l) (m := m) (by have := hF.out; rw [← HN.out] at this; exact this))
      go_wp2
      exact HFp.out _ _ _ _ HE.out hO.out hB.out
end Go.Proofs.Ytgdjknpdgajdgaa
