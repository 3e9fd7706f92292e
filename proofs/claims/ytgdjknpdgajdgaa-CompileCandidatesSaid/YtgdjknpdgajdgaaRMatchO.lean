/-
  Contracts of the reference's places and one: an alternative at a text by sets of places.
-/
import Derived.Test.YtgdjknpdgajdgaaG04
import Derived.Test.YtgdjknpdgajdgaaG05
import Derived.Test.YtgdjknpdgajdgaaScrD
import Derived.Laws.OwnMore
import Derived.BigQuiet
import Derived.OwnWalk
namespace Go.Proofs.Ytgdjknpdgajdgaa
open Go.RowKit
def bV (a : List Bool) : List Value := a.map Value.bool
theorem bV_len (a : List Bool) : (bV a).length = a.length := List.length_map ..
theorem bV_set (a : List Bool) (j : Nat) (b : Bool) : (bV a).set j (.bool b) = bV (a.set j b) := by simp [bV, List.map_set]
theorem bV_get {a : List Bool} {j : Nat} {b : Bool} (h : a[j]? = some b) : (bV a)[j]? = some (.bool b) := by simp [bV, h]
theorem bV_one (a : List Bool) : ∀ u ∈ bV a, u.oneCell' = true := fun u hu => by
  obtain ⟨b, _, rfl⟩ := List.mem_map.1 hu; rfl
theorem boolInfo : (Try.prog.info? 4).map (fun i => (i.zero, i.size, i.bytes)) = some (some (.bool false), 1, 1) := by kernel_rfl
/-- A row of truth values of the call's own. -/
abbrev BRow (W : World) (base g c : Nat) (a : List Bool) : Prop := W.ownsRow base 4 1 (.slice (some ⟨g, 0, none⟩) a.length c) a.length (bV a)
theorem BRow.cell {W : World} {base g c : Nat} {a : List Bool} (h : BRow W base g c a) {j : Nat} {b : Bool} (hj : a[j]? = some b) : W.cell? ⟨g, j, none⟩ = some (.bool b) := by
  have hlt := (List.getElem?_eq_some_iff.1 hj).1
  rw [World.ownsRow.cellAt h j (by omega)]
  exact bV_get hj
theorem BRow.put {W : World} {base g c : Nat} {a : List Bool} (h : BRow W base g c a) (j : Nat) (b : Bool) : BRow (W.setCell ⟨g, j, none⟩ (.bool b)) base g c (a.set j b) ∧ W.grownBy (W.setCell ⟨g, j, none⟩ (.bool b)) (some g) := by
  obtain ⟨h1, h2⟩ := World.ownsRow.stored h j (.bool b)
  rw [bV_set] at h1
  refine ⟨?_, h2⟩
  show World.ownsRow _ _ _ _ (.slice (some ⟨g, 0, none⟩) (a.set j b).length c) (a.set j b).length _
  rw [List.length_set]
  exact h1
theorem BRow.lo {W : World} {base g c : Nat} {a : List Bool} (h : BRow W base g c a) : base ≤ g ∧ g < W.heap.size := h.lt g rfl
theorem bool_at {a : List Bool} {j : Nat} (h : j < a.length) : ∃ b, a[j]? = some b := ⟨_, List.getElem?_eq_getElem h⟩
theorem encER_star (x : El) : (encER x)[0]? = some (.bool x.isStar) := by rw [encER, Array.getElem?_toList, elR_get0]
theorem encER_has (x : El) {c : Nat} (h : c < 128) : (encER x)[2 + c]? = some (.bool (x.hasR c)) := by rw [encER, Array.getElem?_toList, elR_get _ _ _ c h]
theorem er_cells {w wr : World} {B : Nat} {A : Option Addr} {l : List El} (h : RowAt w B A 130 l.length (cellsOf encER l)) (hb : Below B w wr) {k : Nat} (hlt : k < l.length) :
    ∃ ba off, A = some ⟨ba, off, none⟩ ∧ wr.cell? ⟨ba, off + k * 130, none⟩ = some (.bool l[k].isStar) ∧ ∀ c, c < 128 → wr.cell? ⟨ba, off + k * 130 + 2 + c, none⟩ = some (.bool (l[k].hasR c)) := by
  obtain ⟨ba, off, hA, hba, hc⟩ := h.cell encER_len hlt
  have hx : l[k]? = some l[k] := List.getElem?_eq_getElem hlt
  refine ⟨ba, off, hA, ?_, fun c hc' => ?_⟩
  · rw [hb.cell (p := ⟨ba, off + k * 130, none⟩) hba]
    exact hc k _ hx 0 _ (encER_star _)
  · rw [hb.cell (p := ⟨ba, off + k * 130 + 2 + c, none⟩) hba, show off + k * 130 + 2 + c = off + (k * 130 + (2 + c)) from by omega]
    exact hc k _ hx (2 + c) _ (encER_has _ hc')
/-- What places leaves. -/
def PlacesPost (l : List El) (a : List Bool) (w : World) (e : Ending) (w' : World) : Prop := ∃ g c b, e = .returned (.slice (some ⟨g, 0, none⟩) (l.length + 1) c) ∧ BRow w' w.heap.size g c b ∧ ClosedP El.isStar l l.length b ∧ (∀ t, FromP El.isStar hasRB l b t ↔ FromP El.isStar hasRB l a t) ∧ Below w.heap.size w w'
set_option maxRecDepth 100000 in
set_option maxHeartbeats 4000000 in
theorem Rplaces_any (A A0 : Option Addr) (c c0 : Nat) (l : List El) (a : List Bool) (w : World) (hl : l.length ≤ 1000000) (hal : a.length = l.length + 1) (h : RowAt w w.heap.size A 130 l.length (cellsOf encER l)) (h0 : RowAt w w.heap.size A0 1 a.length (bV a)) :
    Calls Try.prog 98 #[.slice A l.length c, .slice A0 a.length c0] w (PlacesPost l a w) := by
  have H := Lib.hid h
  have H0 := Lib.hid h0
  obtain ⟨i0, hi0, hz0, hz1, hz2⟩ := info_parts boolInfo
  have Hi0 := Lib.hid hi0
  have Hz0 := Lib.hid hz0
  have Hz1 := Lib.hid hz1
  have Hz2 := Lib.hid hz2
  clear h h0 hi0 hz0 hz1 hz2
  unfold PlacesPost
  obtain ⟨N, hN⟩ : ∃ N, l.length = N := ⟨_, rfl⟩
  have HN := Lib.hid hN
  have HAl : Hid (a.length = N + 1) := Lib.hid (by omega)
  rw [hN] at hl ⊢
  rw [hal, hN]
  clear hN hal
  go_enter Try.func98, Try.ntmps98
  go_wp2_with (at_builtin; go_loud (refine wpList_append_row rfl _ _ _ (by rfl) w.heap.size 4 i0 _ 1 1 Try.underlying155 Hi0.out Hz0.out Hz1.out Hz2.out rfl (by omega) (.slice none 0 0) 0 [] (by rfl) (World.ownsRow_nil _ _ _ _) A0 (N + 1) c0 _ (bV a) (by rfl) (by rw [← HAl.out]; exact H0.out) (bV_one a) (by unfold maxLen; omega) (by omega) (Nat.le_refl _) ?_; intro v1 w1 hown1 hg1 hat1 hnn1; rw [Nat.zero_add, List.nil_append] at hown1))
  obtain ⟨g, cp, hv, hg0, hgl⟩ := hown1.form (by omega)
  subst hv
  have HR1 : Hid (BRow w1 w.heap.size g cp a) := Lib.hid (by show World.ownsRow _ _ _ _ (.slice _ a.length _) a.length _; rw [HAl.out]; exact hown1)
  have HB1 : Hid (Below w.heap.size w w1) := Lib.hid (grown_none hg1)
  clear hown1 hg1 hat1 hnn1
  go_wp2_with fail
  go_loopg [6] (N + 1) (fun gk s6 wr => ∃ (k : Nat) (b : List Bool), s6 = .int .i64 k ∧ k + gk = N + 1 ∧ k ≤ N ∧ b.length = N + 1 ∧ Hid (BRow wr w.heap.size g cp b) ∧ Hid (ClosedP El.isStar l k b) ∧ Hid (∀ t, FromP El.isStar hasRB l b t ↔ FromP El.isStar hasRB l a t) ∧ Hid (Below w.heap.size w wr))
  case atStart => exact ⟨0, a, rfl, by omega, Nat.zero_le _, HAl.out, HR1.out, ClosedP.zero (by rw [HAl.out, HN.out]), fun _ => Iff.rfl, HB1.out⟩
  case round =>
    obtain ⟨k, b, rfl, hkg, hkN, hbl, hR, hC, hF, hB⟩ := hrel
    have hgw := hR.out.lo
    by_cases hlt : k < N
    · have hltI : (k : Int) < (N : Int) := by omega
      have hk2 : k < l.length := by rw [HN.out]; exact hlt
      obtain ⟨bk, hbk⟩ := bool_at (a := b) (j := k) (by omega)
      have d0 := hR.out.cell hbk
      cases bk with
      | false =>
        have HC2 := Lib.hid (hC.out.skip hk2 (fun _ h2 => by rw [hbk] at h2; cases h2))
        clear hbk hk2
        go_wp2
        go_roundg (gk - 1)
        case measure => omega
        case rel => exact ⟨k + 1, b, by go_num, by omega, by omega, hbl, hR.out, HC2.out, hF.out, hB.out⟩
      | true =>
        obtain ⟨ba, off, rfl, c1, ce⟩ := er_cells H.out hB.out hk2
        clear ce
        cases hs : l[k].isStar with
        | false =>
          rw [hs] at c1
          have HC2 := Lib.hid (hC.out.skip hk2 (fun h1 _ => by rw [hs] at h1; cases h1))
          clear hbk hk2 hs
          go_wp2
          go_roundg (gk - 1)
          case measure => omega
          case rel => exact ⟨k + 1, b, by go_num, by omega, by omega, hbl, hR.out, HC2.out, hF.out, hB.out⟩
        | true =>
          rw [hs] at c1
          obtain ⟨r1, r2⟩ := hR.out.put (k + 1) true
          have HR2 := Lib.hid r1
          have HC2 := Lib.hid (hC.out.put hk2)
          have HF2 : Hid (∀ t, FromP El.isStar hasRB l (b.set (k + 1) true) t ↔ FromP El.isStar hasRB l a t) := Lib.hid fun t => (FromP.put hk2 hs hbk).trans (hF.out t)
          have HB2 := Lib.hid (hB.out.grown r2 hB.out.size (fun j e => by cases e; exact hgw.1))
          obtain ⟨bk2, hbk2⟩ := bool_at (a := b) (j := k + 1) (by omega)
          have d1 := hR.out.cell hbk2
          have f1 : wr.frozen? ⟨g, k + 1, none⟩ = false := World.ownsRow.frozenAt hR.out (k + 1)
          clear hbk hk2 hs hbk2 r1 r2
          go_wp2
          go_roundg (gk - 1)
          case measure => omega
          case rel => exact ⟨k + 1, b.set (k + 1) true, by go_num, by omega, by omega, by rw [List.length_set]; exact hbl, HR2.out, HC2.out, HF2.out, HB2.out⟩
    · obtain rfl : k = N := by omega
      go_wp2
      go_ret
      exact ⟨g, cp, b, rfl, hR.out, hC.out, hF.out, hB.out⟩
theorem falses (n : Nat) : (madeCells (Value.bool false).cells (n * 1)).toList = bV (List.replicate n false) := by
  rw [Nat.mul_one]
  have := toList_madeCells_one (.bool false) n
  rw [bV, List.map_replicate]
  exact this
set_option maxRecDepth 100000 in
set_option maxHeartbeats 8000000 in
theorem Rone_any (A : Option Addr) (c : Nat) (l : List El) (s : ByteArray) (w : World) (hl : l.length ≤ 1000000) (hsz : s.size ≤ 9223372036854775806) (h : RowAt w w.heap.size A 130 l.length (cellsOf encER l)) (hb : ∀ i, (hi : i < s.size) → s[i].toNat < 128) :
    Calls Try.prog 87 #[.slice A l.length c, .string s] w fun e w' => e = .returned (.bool (matchS El.isStar hasRB l (L s))) ∧ Below w.heap.size w w' := by
  have HP := Lib.hid (fun (W : World) (hW : Below w.heap.size w W) (A0 : Option Addr) (c0 : Nat) (a : List Bool) (hal : a.length = l.length + 1) (h0 : RowAt W W.heap.size A0 1 a.length (bV a)) => Rplaces_any A A0 c c0 l a W hl hal ((h.keep hW).up hW.size) h0)
  have H := Lib.hid h
  have HBy := Lib.hid hb
  have HGt : Hid (∀ i, (h : i < s.size) → (L s).drop i = s[i] :: (L s).drop (i + 1)) := Lib.hid fun i h => drop_cons s i h
  have HEn : Hid ((L s).drop s.size = []) := Lib.hid (by rw [← len_L s, List.drop_length])
  obtain ⟨i0, hi0, hz0, hz1, hz2⟩ := info_parts boolInfo
  have Hi0 := Lib.hid hi0
  have Hz0 := Lib.hid hz0
  have Hz1 := Lib.hid hz1
  have Hz2 := Lib.hid hz2
  clear h hb hi0 hz0 hz1 hz2
  unfold PlacesPost at HP
  obtain ⟨N, hN⟩ : ∃ N, l.length = N := ⟨_, rfl⟩
  have HN := Lib.hid hN
  rw [hN] at hl ⊢
  clear hN
  go_enter Try.func87, Try.ntmps87
  go_wp2_with (at_make; go_loud (refine wpList_make_full _ rfl _ _ _ rfl w.heap.size 4 i0 _ 1 Try.underlying155 Hi0.out Hz0.out Hz1.out .i64 .i64 ((N : Int) + 1) ((N : Int) + 1) (N + 1) (by rfl) (by rfl) (by omega) (by omega) (by rw [Hz2.out]; omega) (by unfold maxLen; omega) (by omega) ?_; intro w1 hown1 hg1; rw [falses] at hown1; have hR1 : BRow w1 w.heap.size w.heap.size (N + 1) (List.replicate (N + 1) false) := (by show World.ownsRow _ _ _ _ (.slice _ (List.replicate (N + 1) false).length _) (List.replicate (N + 1) false).length _; rw [List.length_replicate]; exact hown1); have HR1 := Lib.hid hR1; have HG1 := Lib.hid (grown_none hg1); have d0 := hR1.cell (j := 0) (b := false) (by rw [List.getElem?_replicate, if_pos (by omega)]); have f0 : w1.frozen? ⟨w.heap.size, 0, none⟩ = false := World.ownsRow.frozenAt hR1 0; clear hown1 hg1 hR1))
  obtain ⟨r1, r2⟩ := HR1.out.put 0 true
  have hl0 : ((List.replicate (N + 1) false).set 0 true).length = N + 1 := by simp
  have HF0 : Hid (∀ t, FromP El.isStar hasRB l ((List.replicate (N + 1) false).set 0 true) t ↔ matchS El.isStar hasRB l t = true) := Lib.hid fun t => from_start (set_here (by simp)) (fun i h => by
    rcases set_true h with h | ⟨h, _⟩
    · rw [List.getElem?_replicate] at h
      split at h <;> cases h
    · exact h)
  have HB1 : Hid (Below w.heap.size w (w1.setCell ⟨w.heap.size, 0, none⟩ (.bool true))) := Lib.hid (HG1.out.grown r2 HG1.out.size (fun j e => by cases e; exact Nat.le_refl _))
  have hP1 := HP.out _ HB1.out (some ⟨w.heap.size, 0, none⟩) (N + 1) _ (by rw [hl0, HN.out]) (RowAt.of_own r1)
  rw [hl0, HN.out] at hP1
  have HP1 := Lib.hid hP1
  clear hP1 r1 r2 hl0
  generalize (List.replicate (N + 1) false).set 0 true = a0 at *
  go_wp2_with (go_at_call 98; refine HP1.out.mono ?_; rintro e w2 ⟨g2, c2, b2, rfl, hR2, hC2, hF2, hb2⟩; have HB2 := Lib.hid (bt HB1.out hb2); have HR2 : Hid (BRow w2 w.heap.size g2 c2 b2) := Lib.hid ⟨hR2.1, by rcases hR2.2 with h1 | ⟨g, cap, cur, h1, h2, h3⟩; exact Or.inl h1; exact Or.inr ⟨g, cap, cur, h1, Nat.le_trans HB1.out.size h2, h3⟩⟩; have HC2 : Hid (ClosedP El.isStar l l.length b2) := Lib.hid (by rw [HN.out]; exact hC2); have HI2 : Hid (matchS El.isStar hasRB l (L s) = true ↔ FromP El.isStar hasRB l b2 ((L s).drop 0)) := Lib.hid (by rw [List.drop_zero]; exact ((hF2 _).trans (HF0.out _)).symm); have hbl2 : b2.length = N + 1 := (by rw [hC2.len, HN.out]); clear hR2 hC2 hF2 hb2)
  go_loopg [5, 6] (s.size + 1) (fun gk s5 s6 wr => ∃ (k g c : Nat) (b : List Bool), s5 = .slice (some ⟨g, 0, none⟩) (N + 1) c ∧ s6 = .int .i64 k ∧ k + gk = s.size + 1 ∧ k ≤ s.size ∧ b.length = N + 1 ∧ Hid (BRow wr w.heap.size g c b) ∧ Hid (ClosedP El.isStar l l.length b) ∧ Hid (matchS El.isStar hasRB l (L s) = true ↔ FromP El.isStar hasRB l b ((L s).drop k)) ∧ Hid (Below w.heap.size w wr))
  case atStart => exact ⟨0, g2, c2, b2, rfl, rfl, by omega, Nat.zero_le _, hbl2, HR2.out, HC2.out, HI2.out, HB2.out⟩
  case round =>
    obtain ⟨k, g, cg, b, rfl, rfl, hkg, hkN, hbl, hR, hC, hI, hB⟩ := hrel
    obtain ⟨gko, rfl⟩ : ∃ gko : Nat, gko = gk := ⟨_, rfl⟩
    obtain ⟨wo, rfl⟩ : ∃ wo : World, wo = wr := ⟨_, rfl⟩
    have hgw := hR.out.lo
    have hwz := hB.out.size
    by_cases hlt : k < s.size
    · have hltI : (k : Int) < (s.size : Int) := by omega
      have hch := HBy.out k hlt
      have HDr := Lib.hid (HGt.out k hlt)
      go_wp2_with (at_make; go_loud (refine wpList_make_full _ rfl _ _ _ rfl w.heap.size 4 i0 _ 1 Try.underlying155 Hi0.out Hz0.out Hz1.out .i64 .i64 ((N : Int) + 1) ((N : Int) + 1) (N + 1) (by rfl) (by rfl) (by omega) (by omega) (by rw [Hz2.out]; omega) (by unfold maxLen; omega) (by omega) ?_; intro w1 hown1 hg1; rw [falses] at hown1; have hR1 : BRow w1 w.heap.size wo.heap.size (N + 1) (List.replicate (N + 1) false) := (by show World.ownsRow _ _ _ _ (.slice _ (List.replicate (N + 1) false).length _) (List.replicate (N + 1) false).length _; rw [List.length_replicate]; exact hown1); have HR1 := Lib.hid hR1; have HG1 := Lib.hid (grown_none hg1); clear hown1 hg1 hR1))
      have HRb : Hid (BRow w1 w.heap.size g cg b) := Lib.hid (own_below2 hR.out HG1.out)
      have HB1 := Lib.hid (bt hB.out HG1.out)
      go_loopg [8] (N + 1) (fun gk s8 wx => ∃ (m : Nat) (nx : List Bool), s8 = .int .i64 m ∧ m + gk = N + 1 ∧ m ≤ N ∧ nx.length = N + 1 ∧ Hid (BRow wx w.heap.size wo.heap.size (N + 1) nx) ∧ Hid (NextP El.isStar hasRB l b s[k] m nx) ∧ Hid (BRow wx w.heap.size g cg b) ∧ Hid (Below w.heap.size w wx))
      case atStart => exact ⟨0, List.replicate (N + 1) false, rfl, by omega, Nat.zero_le _, by simp, HR1.out, by have := NextP.start (star := El.isStar) (has := hasRB) l b s[k]; rw [HN.out] at this; exact this, HRb.out, HB1.out⟩
      case round =>
        obtain ⟨m, nx, rfl, hmg, hmN, hnl, hNr, hNx, hBr, hBw⟩ := hrel
        have hgn := hNr.out.lo
        by_cases hltm : m < N
        · have hltmI : (m : Int) < (N : Int) := by omega
          have hm2 : m < l.length := by rw [HN.out]; exact hltm
          obtain ⟨bm, hbm⟩ := bool_at (a := b) (j := m) (by omega)
          have d0 := hBr.out.cell hbm
          cases bm with
          | false =>
            have HN2 := Lib.hid (hNx.out.skip hm2 (fun h => by rw [hbm] at h; cases h))
            clear hbm hm2
            go_wp2
            go_quiet (fail)
            go_wp2
            go_roundg (gk - 1)
            case measure => omega
            case rel => exact ⟨m + 1, nx, by go_num, by omega, by omega, hnl, own_below2 hNr.out (below_drewN (Below.refl _ _) _), HN2.out, own_below2 hBr.out (below_drewN (Below.refl _ _) _), below_drewN hBw.out _⟩
          | true =>
            obtain ⟨ba, off, rfl, c1, ch⟩ := er_cells H.out hBw.out hm2
            cases hs : l[m].isStar with
            | true =>
              rw [hs] at c1
              obtain ⟨r1, r2⟩ := hNr.out.put m true
              have HNr2 := Lib.hid r1
              have HN2 := Lib.hid (hNx.out.atStar hm2 hbm hs)
              have HBr2 : Hid (BRow _ w.heap.size g cg b) := Lib.hid (own_apart hBr.out r2 (fun j e => by cases e; intro e2; have : g = wo.heap.size := (by simpa [Value.ownBlock] using e2); omega))
              have HBw2 := Lib.hid (hBw.out.grown r2 hBw.out.size (fun j e => by cases e; exact hgn.1))
              obtain ⟨bk2, hbk2⟩ := bool_at (a := nx) (j := m) (by omega)
              have d1 := hNr.out.cell hbk2
              have f1 : wr.frozen? ⟨wo.heap.size, m, none⟩ = false := World.ownsRow.frozenAt hNr.out m
              have d2 := HBr2.out.cell hbm
              obtain ⟨ba', off', e', c1', ce'⟩ := er_cells H.out HBw2.out hm2
              clear ce'
              obtain ⟨rfl, rfl⟩ : ba = ba' ∧ off = off' := by injection e' with e'; injection e' with h1 h2; exact ⟨h1, h2⟩
              rw [hs] at c1'
              clear hbm hm2 hs hbk2 r1 r2 ch e'
              go_wp2
              go_quiet (fail)
              go_wp2
              go_roundg (gk - 1)
              case measure => omega
              case rel => exact ⟨m + 1, nx.set m true, by go_num, by omega, by omega, by rw [List.length_set]; exact hnl, own_below2 HNr2.out (below_drewN (Below.refl _ _) _), HN2.out, own_below2 HBr2.out (below_drewN (Below.refl _ _) _), below_drewN HBw2.out _⟩
            | false =>
              rw [hs] at c1
              have c2 := ch s[k].toNat hch
              cases hh : l[m].hasR s[k].toNat with
              | false =>
                rw [hh] at c2
                have HN2 := Lib.hid (hNx.out.skip hm2 (fun _ => ⟨hs, hh⟩))
                clear hbm hm2 hs hh ch
                go_wp2
                go_quiet (fail)
                go_wp2
                go_roundg (gk - 1)
                case measure => omega
                case rel => exact ⟨m + 1, nx, by go_num, by omega, by omega, hnl, own_below2 hNr.out (below_drewN (Below.refl _ _) _), HN2.out, own_below2 hBr.out (below_drewN (Below.refl _ _) _), below_drewN hBw.out _⟩
              | true =>
                rw [hh] at c2
                have HN2 := Lib.hid (hNx.out.atByte hm2 hbm hs hh)
                obtain ⟨bk2, hbk2⟩ := bool_at (a := nx) (j := m + 1) (by omega)
                have HD2 := Lib.hid hbk2
                clear hbm hm2 hs hh ch hbk2
                go_wp2
                go_quiet (fail)
                generalize hwy : World.drewN wr _ = wy
                have HNr3 : Hid (BRow wy w.heap.size wo.heap.size (N + 1) nx) := Lib.hid (by rw [← hwy]; exact own_below2 hNr.out (below_drewN (Below.refl _ _) _))
                have HBr3 : Hid (BRow wy w.heap.size g cg b) := Lib.hid (by rw [← hwy]; exact own_below2 hBr.out (below_drewN (Below.refl _ _) _))
                have HBw3 : Hid (Below w.heap.size w wy) := Lib.hid (by rw [← hwy]; exact below_drewN hBw.out _)
                clear hwy
                obtain ⟨r1, r2⟩ := HNr3.out.put (m + 1) true
                have HNr2 := Lib.hid r1
                have HBr2 : Hid (BRow _ w.heap.size g cg b) := Lib.hid (own_apart HBr3.out r2 (fun j e => by cases e; intro e2; have : g = wo.heap.size := (by simpa [Value.ownBlock] using e2); omega))
                have HBw2 := Lib.hid (HBw3.out.grown r2 HBw3.out.size (fun j e => by cases e; exact hgn.1))
                have d1 := HNr3.out.cell HD2.out
                have f1 : wy.frozen? ⟨wo.heap.size, m + 1, none⟩ = false := World.ownsRow.frozenAt HNr3.out (m + 1)
                clear r1 r2
                go_wp2
                go_roundg (gk - 1)
                case measure => omega
                case rel => exact ⟨m + 1, nx.set (m + 1) true, by go_num, by omega, by omega, by rw [List.length_set]; exact hnl, HNr2.out, HN2.out, HBr2.out, HBw2.out⟩
        · obtain rfl : m = N := by omega
          have hP2 := HP.out _ hBw.out (some ⟨wo.heap.size, 0, none⟩) (m + 1) nx (by rw [hnl, HN.out]) (by have := RowAt.of_own hNr.out; exact this)
          rw [hnl, HN.out] at hP2
          have HP2 := Lib.hid hP2
          clear hP2
          go_wp2_with (go_at_call 98; refine HP2.out.mono ?_; rintro e w3 ⟨g3, c3, b3, rfl, hR3, hC3, hF3, hb3⟩; have HB3 := Lib.hid (bt hBw.out hb3); have HR3 : Hid (BRow w3 w.heap.size g3 c3 b3) := Lib.hid ⟨hR3.1, by rcases hR3.2 with h1 | ⟨g, cap, cur, h1, h2, h3⟩; exact Or.inl h1; exact Or.inr ⟨g, cap, cur, h1, Nat.le_trans hBw.out.size h2, h3⟩⟩; have HC3 : Hid (ClosedP El.isStar l l.length b3) := Lib.hid (by rw [HN.out]; exact hC3); have HI3 : Hid (matchS El.isStar hasRB l (L s) = true ↔ FromP El.isStar hasRB l b3 ((L s).drop (k + 1))) := Lib.hid (by have h1 := hI.out; rw [HDr.out] at h1; exact h1.trans ((next_same hNx.out (by rw [HN.out]; exact Nat.le_refl _) hC.out).symm.trans (hF3 _).symm)); have hbl3 : b3.length = m + 1 := (by rw [hC3.len, HN.out]); clear hR3 hC3 hF3 hb3)
          go_roundg (gko - 1)
          case measure => omega
          case rel => exact ⟨k + 1, g3, c3, b3, rfl, by go_num, by omega, by omega, hbl3, HR3.out, HC3.out, HI3.out, HB3.out⟩
    · obtain rfl : k = s.size := by omega
      obtain ⟨bN, hbN⟩ := bool_at (a := b) (j := N) (by omega)
      have d0 := hR.out.cell hbN
      have HFin : Hid (matchS El.isStar hasRB l (L s) = bN) := Lib.hid (by
        have h1 := hI.out
        rw [HEn.out, from_nil hC.out, HN.out, hbN] at h1
        cases bN
        · rw [Bool.eq_false_iff]; intro h2; exact absurd (h1.1 h2) (by simp)
        · exact h1.2 rfl)
      clear hbN hlt hkg
      go_wp2
      go_ret
      exact ⟨by rw [HFin.out]; rfl, hB.out⟩
end Go.Proofs.Ytgdjknpdgajdgaa
