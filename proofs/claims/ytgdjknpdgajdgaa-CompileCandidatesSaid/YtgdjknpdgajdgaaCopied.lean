/-
  Contract of compile's copied: the same rules, in memory of their own.
-/
import Derived.Test.YtgdjknpdgajdgaaRevL
import Derived.Test.YtgdjknpdgajdgaaRLink
namespace Go.Proofs.Ytgdjknpdgajdgaa
open Go.RowKit
/-- Rules that a call copies. -/
structure CopSt (w : World) (rl : List Rl) (v : Value) (W : World) : Prop where
  own : W.ownsRow w.heap.size 46 3 v rl.length (cellsOf encRl rl)
  inn : InOff 4 encTm Rl.tms W W.heap.size v.ownBlock rl
  bel : Below w.heap.size w W
theorem CopSt.start (w : World) : CopSt w [] (.slice none 0 0) w := ⟨World.ownsRow_nil _ _ _ _, InOff.nil, Below.refl _ _⟩
section
variable {w W W1 w9 : World} {v : Value} {rl : List Rl}
theorem CopSt.go (h : CopSt w rl v W) (hb : Below W.heap.size W W1) : CopSt w rl v W1 :=
  ⟨h.own.kept (grown_below hb none) (by cases hv : v.ownBlock <;> simp), (h.inn.keep hb).up hb.size, bt h.bel hb⟩
theorem CopSt.push {y : Rl} {g2 c : Nat} (h : CopSt w rl v W) (hb : Below W.heap.size W W1) (hy : RowAt W W.heap.size y.tms.A 4 y.tms.l.length (cellsOf encTm y.tms.l)) (hyo : ∀ a, y.tms.A = some a → v.ownBlock ≠ some a.block)
    (hown : w9.ownsRow w.heap.size 46 3 (.slice (some ⟨g2, 0, none⟩) (rl.length + 1) c) (rl.length + 1) (cellsOf encRl rl ++ encRl y)) (hg : W1.grownBy w9 v.ownBlock) (hat : v.ownBlock = some g2 ∨ g2 = W1.heap.size) :
    CopSt w (rl ++ [y]) (.slice (some ⟨g2, 0, none⟩) (rl.length + 1) c) w9 := by
  have h1 : InOff 4 encTm Rl.tms W W.heap.size v.ownBlock (rl ++ [y]) := h.inn.snoc ⟨hy, fun _ a e e2 => (hyo a e) e2.symm⟩
  have hs := hb.size
  have h4 := (h1.keep hb).moved (row' := some g2) hs hg (by
    rcases hat with e | e
    · exact Or.inl e.symm
    · right; intro g eg; injection eg with eg; omega)
  have hs9 := hg.size
  have hw := h.bel.size
  refine ⟨own_snoc hown, h4.up (by omega), (bt h.bel hb).grown hg (by omega) (fun j e => (h.own.lt j e).1)⟩
end
/-- What copied leaves. -/
def CopPost (l : List Rl) (w : World) (e : Ending) (w' : World) : Prop := ∃ A c l2, e = .returned (.slice A l2.length c) ∧ l2.map Rl.p = l.map Rl.p ∧ RowAt w' w'.heap.size A 3 l2.length (cellsOf encRl l2) ∧ InAt 4 encTm Rl.tms w' w'.heap.size l2 ∧ Below w.heap.size w w'
theorem CopSt.post {w W : World} {l l2 : List Rl} {A : Option Addr} {c : Nat} (h : CopSt w l2 (.slice A l2.length c) W) (hp : l2.map Rl.p = l.map Rl.p) : CopPost l w (.returned (.slice A l2.length c)) W :=
  ⟨A, c, l2, rfl, hp, RowAt.of_own h.own, h.inn.at_, h.bel⟩
set_option maxRecDepth 100000 in
set_option maxHeartbeats 8000000 in
theorem Copied_any (A : Option Addr) (c : Nat) (l : List Rl) (w : World) (hl : l.length ≤ 1000) (hz : ∀ x ∈ l, 1 ≤ x.tms.l.length ∧ x.tms.l.length ≤ 1000) (h : RowAt w w.heap.size A 3 l.length (cellsOf encRl l)) (hi : InAt 4 encTm Rl.tms w w.heap.size l) :
    Calls Try.prog 17 #[.slice A l.length c] w (CopPost l w) := by
  have H := Lib.hid h
  have HI := Lib.hid hi
  have HZ := Lib.hid hz
  clear h hi hz
  obtain ⟨i0, hi0, hz0, hz1, hz2⟩ := info_parts rlInfo
  have Hi0 := Lib.hid hi0
  have Hz0 := Lib.hid hz0
  have Hz1 := Lib.hid hz1
  have Hz2 := Lib.hid hz2
  clear hi0 hz0 hz1 hz2
  obtain ⟨N, hN⟩ : ∃ N, l.length = N := ⟨_, rfl⟩
  have HN := Lib.hid hN
  have HEnd : Hid (∀ (A : Option Addr) (c : Nat) (l2 : List Rl) (W : World), CopSt w l2 (.slice A l2.length c) W → l2.map Rl.p = l.map Rl.p → CopPost l w (.returned (.slice A l2.length c)) W) := Lib.hid fun A c l2 W h1 h2 => h1.post h2
  rw [hN] at hl ⊢
  clear hN
  generalize hP : CopPost l w = P at *
  clear hP
  go_enter Try.func17, Try.ntmps17
  go_wp2_with fail
  go_loopg [3, 8] (N + 1) (fun gk s3 s8 wr => ∃ (k : Nat) (B : Option Addr) (d : Nat) (m : List Rl), s3 = .slice B m.length d ∧ s8 = .int .i64 k ∧ k + gk = N + 1 ∧ k ≤ N ∧ m.length ≤ k ∧ Hid (CopSt w m (.slice B m.length d) wr) ∧ Hid (m.map Rl.p = (l.take k).map Rl.p))
  case atStart => exact ⟨0, none, 0, [], rfl, rfl, by omega, Nat.zero_le _, Nat.le_refl _, CopSt.start w, rfl⟩
  case round =>
    obtain ⟨k, B, d, m, rfl, rfl, hkg, hkN, hmk, hS, hM⟩ := hrel
    obtain ⟨wo, rfl⟩ : ∃ wo : World, wo = wr := ⟨_, rfl⟩
    have hwz := hS.out.bel.size
    by_cases hlt : k < N
    · have hltI : (k : Int) < (N : Int) := by omega
      have hk2 : k < l.length := by rw [HN.out]; exact hlt
      obtain ⟨ba, off, rfl, d0, d1, d2⟩ := H.out.three encRl_len hS.out.bel hk2 _ _ _ rfl
      have hin := HI.out l[k] (List.getElem_mem _)
      obtain ⟨hz1, hz2⟩ := HZ.out l[k] (List.getElem_mem _)
      have HTk : Hid ((l.take (k + 1)).map Rl.p = (l.take k).map Rl.p ++ [Rl.p l[k]]) := Lib.hid (by rw [List.take_succ_eq_append_getElem hk2, List.map_append]; rfl)
      generalize l[k] = y at *
      obtain ⟨yf, yl, yA, yc, yt⟩ := y
      dsimp only at d0 d1 d2 hin hz1 hz2
      obtain ⟨w1, hw1⟩ : ∃ w1, wo.alloc (.cells #[.string yf, .int .i64 yl, .slice yA yt.length yc] 46) = w1 := ⟨_, rfl⟩
      have hB1 : Below wo.heap.size wo w1 := by rw [← hw1]; exact below_alloc _ _
      have hx : w1.heap[wo.heap.size]? = some (.cells #[.string yf, .int .i64 yl, .slice yA yt.length yc] 46 (0, 0)) := by rw [← hw1]; exact heap_alloc_new _ _
      have hs1 : w1.heap.size = wo.heap.size + 1 := by rw [← hw1]; simp
      have HCl := Lib.hid (CloneT_any yA yc yt w1 (by omega) hz1 ((hin.keep (bt hS.out.bel hB1)).up (bt hS.out.bel hB1).size))
      have HB1 := Lib.hid hB1
      have HX := Lib.hid hx
      have HW1 := Lib.hid hw1
      have e0 := cellOf (j := 2) hx rfl
      unfold ClonePost at HCl
      clear hin hB1 hx hw1 hk2
      go_upto_region 5 with fail
      rw [HW1.out]
      go_upto_region 6 with (go_at_call 37; refine HCl.out.mono ?_; rintro e w5 ⟨A5, c5, rfl, hown5, hb5⟩; have HO5 := Lib.hid hown5; have HB5 := Lib.hid hb5; have hx5 := (hb5.block _ (blk_lt' HX.out)).trans HX.out; have HX5 := Lib.hid hx5; have x0 := cellOf (j := 0) hx5 rfl; have x1 := cellOf (j := 1) hx5 rfl; have x2 := cellOf (j := 2) hx5 rfl; have fx : w5.frozen? ⟨wo.heap.size, 2, none⟩ = false := frozen_of_row _ _ _ _ _ hx5; clear hx5 hown5 hb5)
      obtain ⟨w6, hw6⟩ : ∃ w6, w5.setCell ⟨wo.heap.size, 2, none⟩ (.slice A5 yt.length c5) = w6 := ⟨_, rfl⟩
      have hg6 : w5.grownBy w6 (some wo.heap.size) := by rw [← hw6]; exact grown_set w5 wo.heap.size 2 _
      have hx6 : w6.heap[wo.heap.size]? = some (.cells #[.string yf, .int .i64 yl, .slice A5 yt.length c5] 46 (0, 0)) := by
        rw [← hw6, heap_setCell_same _ _ _ _ _ _ HX5.out]; rfl
      have hB6 : Below wo.heap.size wo w6 := (bt HB1.out HB5.out).grown hg6 (bt HB1.out HB5.out).size (fun j e => by cases e; exact Nat.le_refl _)
      have HS6 := Lib.hid (hS.out.go hB6)
      have HY6 : Hid (RowAt w6 w6.heap.size A5 4 yt.length (cellsOf encTm yt)) := Lib.hid (((RowAt.of_own HO5.out).grown (Nat.le_refl _) hg6 (fun _ a ha e => by
        have h7 := (HO5.out.lt a.block (by rw [ha]; rfl)).1
        have h8 := Option.some.inj e
        omega)).up hg6.size)
      have HYo : Hid (∀ a, A5 = some a → (Value.slice B m.length d).ownBlock ≠ some a.block) := Lib.hid (fun a ha e => by
        have h7 := (HO5.out.lt a.block (by rw [ha]; rfl)).1
        have h8 := (hS.out.own.lt a.block e).2
        omega)
      have hz6 := hB6.size
      have z0 := cellOf (j := 0) hx6 rfl
      have z1 := cellOf (j := 1) hx6 rfl
      have z2 := cellOf (j := 2) hx6 rfl
      rw [hw6]
      clear hw6 hg6 hx6 hB6 x0 x1 x2 fx
      go_wp2_with (at_builtin; go_loud (refine wpList_append_lies _ rfl _ _ _ (by rfl) w.heap.size 46 i0 _ 3 48 Try.underlying30 Hi0.out Hz0.out Hz1.out Hz2.out rfl (by omega) (.slice B m.length d) m.length (cellsOf encRl m) (by rfl) (HS6.out.own.alloc _) _ 1 1 (encRl (⟨yf, yl, ⟨A5, c5, yt⟩⟩ : Rl)) (by rfl) (by rfl) (by exact World.news_of_block (heap_alloc_new _ _)) (encRl_one _) (by omega) (by unfold maxLen; omega) (by omega) (by simp; omega) _ rfl ?_; intro g2 cap w9 hown2 hgrow2 hat2 hlt2; have HS9 := Lib.hid (HS6.out.push (y := ⟨yf, yl, ⟨A5, c5, yt⟩⟩) (below_alloc _ _) HY6.out HYo.out hown2 hgrow2 hat2); clear hown2 hgrow2 hat2 hlt2))
      have HM2 : Hid ((m ++ [(⟨yf, yl, ⟨A5, c5, yt⟩⟩ : Rl)]).map Rl.p = (l.take (k + 1)).map Rl.p) := Lib.hid (by rw [HTk.out, List.map_append, hM.out]; rfl)
      go_wp2
      go_roundg (gk - 1)
      case measure => omega
      case rel => exact ⟨k + 1, _, _, m ++ [(⟨yf, yl, ⟨A5, c5, yt⟩⟩ : Rl)], by rw [List.length_append]; rfl, by go_num, by omega, by omega, by simp; omega, by rw [List.length_append]; exact HS9.out, HM2.out⟩
    · obtain rfl : k = N := by omega
      have hfin : m.map Rl.p = l.map Rl.p := by rw [hM.out, ← HN.out, List.take_length]
      go_wp2
      exact HEnd.out _ _ _ _ hS.out hfin
end Go.Proofs.Ytgdjknpdgajdgaa
