/-
  A row of terms with one cell written anew, in plain words.
  Contract of the law file's spoilt: a list of some short terms.
  spoilt, from a new tape.
-/
import Derived.Test.YthcgkeiggnfgiaaGreatDoorG06
import Derived.Laws.OwnMore
import Derived.Test.YthcgkeiggnfgiaaGreatDoorG22
import Derived.Test.YthcgkeiggnfgiaaGreatDoorLift10
import Derived.Test.YthcgkeiggnfgiaaGreatDoorG44
namespace Go.Proofs.YthcgkeiggnfgiaaGreatDoor
open Go.RowKit
theorem cells_set {α : Type} {enc : α → List Value} {kk : Nat} (hlen : ∀ x, (enc x).length = kk) {f : Nat} (hf : f < kk) (u : Value) (t' : α) : ∀ (l : List α) (k : Nat) (hk : k < l.length), enc t' = (enc l[k]).set f u → (cellsOf enc l).set (k * kk + f) u = cellsOf enc (l.set k t')
  | x :: r, 0, _, h => by
    show (enc x ++ cellsOf enc r).set (0 * kk + f) u = enc t' ++ cellsOf enc r
    rw [Nat.zero_mul, Nat.zero_add, List.set_append_left _ _ (by rw [hlen]; exact hf), h]
    rfl
  | x :: r, k + 1, hk, h => by
    show (enc x ++ cellsOf enc r).set ((k + 1) * kk + f) u = enc x ++ cellsOf enc (r.set k t')
    rw [List.set_append_right _ _ (by rw [hlen, Nat.succ_mul]; omega), hlen, ← cells_set hlen hf u t' r k (by simpa using hk) h]
    congr 2
    rw [Nat.succ_mul]; omega
theorem set_key (l : List Tm) (k : Nat) (hk : k < l.length) (z : Int) : (cellsOf encTm l).set (k * 4 + 0) (.int .i64 z) = cellsOf encTm (l.set k { l[k] with key := z }) := cells_set encTm_len (by omega) _ _ l k hk rfl
theorem set_name (l : List Tm) (k : Nat) (hk : k < l.length) (s : ByteArray) : (cellsOf encTm l).set (k * 4 + 1) (.string s) = cellsOf encTm (l.set k { l[k] with name := s }) := cells_set encTm_len (by omega) _ _ l k hk rfl
theorem set_op (l : List Tm) (k : Nat) (hk : k < l.length) (z : Int) : (cellsOf encTm l).set (k * 4 + 2) (.int .i64 z) = cellsOf encTm (l.set k { l[k] with op := z }) := cells_set encTm_len (by omega) _ _ l k hk rfl
theorem set_value (l : List Tm) (k : Nat) (hk : k < l.length) (s : ByteArray) : (cellsOf encTm l).set (k * 4 + 3) (.string s) = cellsOf encTm (l.set k { l[k] with value := s }) := cells_set encTm_len (by omega) _ _ l k hk rfl
theorem set_small {m : Nat} {l : List Tm} {k : Nat} {t : Tm} (h : ∀ x ∈ l, TmSmall m x) (ht : TmSmall m t) : ∀ x ∈ l.set k t, TmSmall m x := fun x hx => by
  rcases List.mem_or_eq_of_mem_set hx with h1 | rfl
  · exact h x h1
  · exact ht
/-- A cell of a made list, written anew. -/
theorem TRow.set {α : Type} {T : TypeId} {kk : Nat} {enc : α → List Value} {w0 w W : World} {b n p d g c j : Nat} {u : Value} {l l' : List α} (h : TRow T kk enc w0 b n p d w (.slice (some ⟨g, 0, none⟩) l.length c) l W) (hl : l'.length = l.length) (hc : (cellsOf enc l).set j u = cellsOf enc l') :
    TRow T kk enc w0 b n p d w (.slice (some ⟨g, 0, none⟩) l'.length c) l' (W.setCell ⟨g, j, none⟩ u) := by
  have hs := h.own.stored j u
  refine ⟨h.nx.grownR hs.2 (fun i e => ?_), ?_, h.lo⟩
  · injection e with e
    subst e
    have := (h.own.lt g rfl).1
    have := h.lo
    omega
  · rw [hl, ← hc]; exact hs.1
theorem TTm.set {w0 w W : World} {b n p d g c f k : Nat} {u : Value} {l : List Tm} {t : Tm} (h : TTm w0 b n p d w (.slice (some ⟨g, 0, none⟩) l.length c) l W) (hk : k < l.length) (hf : f < 4) (he : encTm t = (encTm l[k]).set f u) (ht : TmSmall 60 t) :
    TTm w0 b n p d w (.slice (some ⟨g, 0, none⟩) (l.set k t).length c) (l.set k t) (W.setCell ⟨g, k * 4 + f, none⟩ u) :=
  ⟨h.row.set (by rw [List.length_set]) (cells_set encTm_len hf u t l k hk he), set_small h.small ht⟩
end Go.Proofs.YthcgkeiggnfgiaaGreatDoor
namespace Go.Proofs.YthcgkeiggnfgiaaGreatDoor
open Go.RowKit
theorem TRow.snocs {α : Type} {T : TypeId} {kk : Nat} {enc : α → List Value} {w0 w W W2 : World} {b n p d c m : Nat} {A : Option Addr} {v : Value} {l r : List α} (h : TRow T kk enc w0 b n p d w v l W) (hr : r.length = m) (hown : W2.ownsRow w.heap.size T kk (.slice A (l.length + m) c) (l.length + m) (cellsOf enc l ++ cellsOf enc r)) (hg : W.grownBy W2 v.ownBlock) : TRow T kk enc w0 b n p d w (.slice A (l.length + m) c) (l ++ r) W2 :=
  ⟨h.nx.grownR hg (fun j e => by have := (h.own.lt j e).1; have := h.lo; omega), by rw [List.length_append, hr, cellsOf_append]; exact hown, h.lo⟩
theorem two_small {l : List Tm} (h : ∀ x ∈ l, TmSmall 60 x) (k : Int) (h1 : -10 ≤ k) (h2 : k ≤ 100) : ∀ x ∈ l ++ [⟨23, ⟨#[]⟩, 3, ⟨#[97]⟩⟩, ⟨k, ⟨#[]⟩, 3, ⟨#[98]⟩⟩], TmSmall 60 x := fun x hx => by
  rcases List.mem_append.1 hx with hx | hx
  · exact h x hx
  · simp only [List.mem_cons, List.not_mem_nil, or_false] at hx
    rcases hx with rfl | rfl
    · exact ⟨by decide, by decide, by decide, by decide, by decide, by decide⟩
    · exact ⟨Nat.zero_le _, (by show (1 : Nat) ≤ 60; decide), h1, h2, (by show (-10 : Int) ≤ 3; decide), (by show (3 : Int) ≤ 100; decide)⟩
set_option maxRecDepth 100000 in
set_option maxHeartbeats 4000000 in
theorem Spoilt_any {w0 w : World} {b n p d : Nat} (h : TSt w0 b n p d w) (h3 : p + d ≤ 50000) :
    Calls Tryz.prog 31 #[.pointer (some ⟨b, 0, none⟩)] w (SomeTms 0 40 w0 b n p (d + 2000) w) := by
  have H := Lib.hid h
  have hlb := h.lt
  have hws := h.size
  clear h
  go_enter Tryz.func31, Tryz.ntmps31
  go_wp2_with fail
  (with_reducible refine (Terms_any (n := n) (p := p) H.out (by omega)).mono ?_)
  rintro e w1 ⟨v, l, rfl, hl1, hl2, hT⟩
  obtain ⟨A, c, rfl⟩ := own_slice hT.row.own
  have hform : ∃ g, A = some ⟨g, 0, none⟩ := by
    rcases hT.row.own.2 with ⟨e, h0⟩ | ⟨g, cap, cur, e, _⟩
    · omega
    · injection e with e _ _; exact ⟨g, e⟩
  obtain ⟨g, rfl⟩ := hform
  have HT := Lib.hid hT
  clear hT
  obtain ⟨N, hN⟩ : ∃ N, l.length = N := ⟨_, rfl⟩
  have HN := Lib.hid hN
  rw [hN] at hl1 hl2
  rw [hN]
  clear hN
  go_wp2_with fail
  (with_reducible refine (Next_t (n := n) (p := p) _ HT.out.row.nx.st (by omega) (by omega) (by omega)).mono ?_)
  rintro e w2 ⟨k, k0, k1, rfl, hT2⟩
  obtain ⟨kn, rfl⟩ := Int.eq_ofNat_of_zero_le k0
  have HT2 := Lib.hid (HT.out.row.go hT2)
  clear hT2
  go_wp2_with fail
  (with_reducible refine (Next_t (n := n) (p := p) _ HT2.out.nx.st (by omega) (by omega) (by omega)).mono ?_)
  rintro e w3 ⟨r, r0, r1, rfl, hT3⟩
  have HT3 : Hid (TTm w0 b n p (d + 102) w (.slice (some ⟨g, 0, none⟩) l.length c) l w3) := Lib.hid ⟨(HT2.out.go hT3).more (by omega), HT.out.small⟩
  clear hT3 HT2 HT
  have hr : r = 7 ∨ 8 ≤ r ∨ r ≤ 6 := by omega
  rcases hr with rfl | hr | hr
  · go_wp2
    go_ret
    exact ⟨_, [], rfl, Nat.zero_le _, Nat.zero_le _, ⟨HT3.out.row.nx.more (by omega), World.ownsRow_nil _ _ _ _, HT3.out.row.lo⟩, fun t ht => by cases ht⟩
  · have q0 : (r == 0) = false := by simp; omega
    have q1 : (r == 1) = false := by simp; omega
    have q2 : (r == 2) = false := by simp; omega
    have q3 : (r == 3) = false := by simp; omega
    have q4 : (r == 4) = false := by simp; omega
    have q5 : (r == 5) = false := by simp; omega
    have q6 : (r == 6) = false := by simp; omega
    have q7 : (r == 7) = false := by simp; omega
    go_wp2
    go_ret
    exact ⟨_, l, (by have e := HN.out; subst e; rfl), Nat.zero_le _, by rw [HN.out]; omega, HT3.out.row.more (by omega), HT3.out.small⟩
  · have hr2 : r = 0 ∨ r = 1 ∨ r = 2 ∨ r = 3 ∨ r = 4 ∨ r = 5 ∨ r = 6 := by omega
    rcases hr2 with rfl | rfl | rfl | rfl | rfl | rfl | rfl
    · go_wp2_with fail
      (with_reducible refine (Next_t (n := n) (p := p) _ HT3.out.row.nx.st (by omega) (by omega) (by omega)).mono ?_)
      rintro e w4 ⟨q, q0, q1, rfl, hT4⟩
      have HT4 : Hid (TTm w0 b n p (d + 103) w (.slice (some ⟨g, 0, none⟩) l.length c) l w4) := Lib.hid ⟨HT3.out.row.go hT4, HT3.out.small⟩
      clear hT4
      have hk : kn < l.length := by rw [HN.out]; omega
      have hkI : (kn : Int) < (N : Int) := by omega
      have hown := HT4.out.row.own
      have hx : l[kn]? = some l[kn] := List.getElem?_eq_getElem hk
      have c0 : w4.cell? ⟨g, kn * 4, none⟩ = some (.int .i64 l[kn].key) := (hown.cellAt (kn * 4) (by omega)).trans (cellsOf_get encTm 4 encTm_len _ _ 0 _ hx (by omega))
      have c1 : w4.cell? ⟨g, kn * 4 + 1, none⟩ = some (.string l[kn].name) := (hown.cellAt (kn * 4 + 1) (by omega)).trans (cellsOf_get encTm 4 encTm_len _ _ 1 _ hx (by omega))
      have c2 : w4.cell? ⟨g, kn * 4 + 2, none⟩ = some (.int .i64 l[kn].op) := (hown.cellAt (kn * 4 + 2) (by omega)).trans (cellsOf_get encTm 4 encTm_len _ _ 2 _ hx (by omega))
      have c3 : w4.cell? ⟨g, kn * 4 + 3, none⟩ = some (.string l[kn].value) := (hown.cellAt (kn * 4 + 3) (by omega)).trans (cellsOf_get encTm 4 encTm_len _ _ 3 _ hx (by omega))
      have f0 := hown.frozenAt (kn * 4)
      have f1 := hown.frozenAt (kn * 4 + 1)
      have f2 := hown.frozenAt (kn * 4 + 2)
      have f3 := hown.frozenAt (kn * 4 + 3)
      have hsm := HT4.out.small l[kn] (List.getElem_mem _)
      clear hown hx
      have hs5 : TmSmall 60 { l[kn] with key := q - 1 } := ⟨hsm.name, hsm.value, by show -10 ≤ q - 1; omega, by show q - 1 ≤ 100; omega, hsm.o0, hsm.o1⟩
      have HT5 := Lib.hid (HT4.out.set (u := .int .i64 (q - 1)) (f := 0) hk (by omega) rfl hs5)
      have hlen : (l.set kn { l[kn] with key := q - 1 }).length = N := by rw [List.length_set, HN.out]
      rw [hlen] at HT5
      have HL := Lib.hid hlen
      clear hlen hs5
      go_wp2
      go_ret
      exact ⟨_, l.set kn { l[kn] with key := q - 1 }, rfl, Nat.zero_le _, by rw [HL.out]; omega, by have h := HT5.out.row.more (show d + 103 ≤ d + 2000 by omega); exact ⟨h, HT5.out.small⟩⟩
    · go_wp2_with fail
      (with_reducible refine (One_b (n := n) (p := p) 60 _ _ _ _ _ HT3.out.row.nx.st (by decide) (by simp) (by decide) (by decide) (by simp) (by omega)).mono ?_)
      rintro e w4 ⟨q, hq, rfl, hT4⟩
      have HT4 : Hid (TTm w0 b n p (d + 103) w (.slice (some ⟨g, 0, none⟩) l.length c) l w4) := Lib.hid ⟨HT3.out.row.go hT4, HT3.out.small⟩
      clear hT4
      have hk : kn < l.length := by rw [HN.out]; omega
      have hkI : (kn : Int) < (N : Int) := by omega
      have hown := HT4.out.row.own
      have hx : l[kn]? = some l[kn] := List.getElem?_eq_getElem hk
      have c0 : w4.cell? ⟨g, kn * 4, none⟩ = some (.int .i64 l[kn].key) := (hown.cellAt (kn * 4) (by omega)).trans (cellsOf_get encTm 4 encTm_len _ _ 0 _ hx (by omega))
      have c1 : w4.cell? ⟨g, kn * 4 + 1, none⟩ = some (.string l[kn].name) := (hown.cellAt (kn * 4 + 1) (by omega)).trans (cellsOf_get encTm 4 encTm_len _ _ 1 _ hx (by omega))
      have c2 : w4.cell? ⟨g, kn * 4 + 2, none⟩ = some (.int .i64 l[kn].op) := (hown.cellAt (kn * 4 + 2) (by omega)).trans (cellsOf_get encTm 4 encTm_len _ _ 2 _ hx (by omega))
      have c3 : w4.cell? ⟨g, kn * 4 + 3, none⟩ = some (.string l[kn].value) := (hown.cellAt (kn * 4 + 3) (by omega)).trans (cellsOf_get encTm 4 encTm_len _ _ 3 _ hx (by omega))
      have f0 := hown.frozenAt (kn * 4)
      have f1 := hown.frozenAt (kn * 4 + 1)
      have f2 := hown.frozenAt (kn * 4 + 2)
      have f3 := hown.frozenAt (kn * 4 + 3)
      have hsm := HT4.out.small l[kn] (List.getElem_mem _)
      clear hown hx
      have hs5 : TmSmall 60 { l[kn] with name := q } := ⟨hq, hsm.value, hsm.k0, hsm.k1, hsm.o0, hsm.o1⟩
      have HT5 := Lib.hid (HT4.out.set (u := .string q) (f := 1) hk (by omega) rfl hs5)
      have hlen : (l.set kn { l[kn] with name := q }).length = N := by rw [List.length_set, HN.out]
      rw [hlen] at HT5
      have HL := Lib.hid hlen
      clear hlen hs5
      go_wp2
      go_ret
      exact ⟨_, l.set kn { l[kn] with name := q }, rfl, Nat.zero_le _, by rw [HL.out]; omega, by have h := HT5.out.row.more (show d + 103 ≤ d + 2000 by omega); exact ⟨h, HT5.out.small⟩⟩
    · go_wp2_with fail
      (with_reducible refine (Next_t (n := n) (p := p) _ HT3.out.row.nx.st (by omega) (by omega) (by omega)).mono ?_)
      rintro e w4 ⟨q, q0, q1, rfl, hT4⟩
      have HT4 : Hid (TTm w0 b n p (d + 103) w (.slice (some ⟨g, 0, none⟩) l.length c) l w4) := Lib.hid ⟨HT3.out.row.go hT4, HT3.out.small⟩
      clear hT4
      have hk : kn < l.length := by rw [HN.out]; omega
      have hkI : (kn : Int) < (N : Int) := by omega
      have hown := HT4.out.row.own
      have hx : l[kn]? = some l[kn] := List.getElem?_eq_getElem hk
      have c0 : w4.cell? ⟨g, kn * 4, none⟩ = some (.int .i64 l[kn].key) := (hown.cellAt (kn * 4) (by omega)).trans (cellsOf_get encTm 4 encTm_len _ _ 0 _ hx (by omega))
      have c1 : w4.cell? ⟨g, kn * 4 + 1, none⟩ = some (.string l[kn].name) := (hown.cellAt (kn * 4 + 1) (by omega)).trans (cellsOf_get encTm 4 encTm_len _ _ 1 _ hx (by omega))
      have c2 : w4.cell? ⟨g, kn * 4 + 2, none⟩ = some (.int .i64 l[kn].op) := (hown.cellAt (kn * 4 + 2) (by omega)).trans (cellsOf_get encTm 4 encTm_len _ _ 2 _ hx (by omega))
      have c3 : w4.cell? ⟨g, kn * 4 + 3, none⟩ = some (.string l[kn].value) := (hown.cellAt (kn * 4 + 3) (by omega)).trans (cellsOf_get encTm 4 encTm_len _ _ 3 _ hx (by omega))
      have f0 := hown.frozenAt (kn * 4)
      have f1 := hown.frozenAt (kn * 4 + 1)
      have f2 := hown.frozenAt (kn * 4 + 2)
      have f3 := hown.frozenAt (kn * 4 + 3)
      have hsm := HT4.out.small l[kn] (List.getElem_mem _)
      clear hown hx
      have hs5 : TmSmall 60 { l[kn] with op := q - 1 } := ⟨hsm.name, hsm.value, hsm.k0, hsm.k1, by show -10 ≤ q - 1; omega, by show q - 1 ≤ 100; omega⟩
      have HT5 := Lib.hid (HT4.out.set (u := .int .i64 (q - 1)) (f := 2) hk (by omega) rfl hs5)
      have hlen : (l.set kn { l[kn] with op := q - 1 }).length = N := by rw [List.length_set, HN.out]
      rw [hlen] at HT5
      have HL := Lib.hid hlen
      clear hlen hs5
      go_wp2
      go_ret
      exact ⟨_, l.set kn { l[kn] with op := q - 1 }, rfl, Nat.zero_le _, by rw [HL.out]; omega, by have h := HT5.out.row.more (show d + 103 ≤ d + 2000 by omega); exact ⟨h, HT5.out.small⟩⟩
    · go_wp2_with fail
      (with_reducible refine (One_b (n := n) (p := p) 60 _ _ _ _ _ HT3.out.row.nx.st (by decide) (by simp) (by decide) (by decide) (by simp) (by omega)).mono ?_)
      rintro e w4 ⟨q, hq, rfl, hT4⟩
      have HT4 : Hid (TTm w0 b n p (d + 103) w (.slice (some ⟨g, 0, none⟩) l.length c) l w4) := Lib.hid ⟨HT3.out.row.go hT4, HT3.out.small⟩
      clear hT4
      have hk : kn < l.length := by rw [HN.out]; omega
      have hkI : (kn : Int) < (N : Int) := by omega
      have hown := HT4.out.row.own
      have hx : l[kn]? = some l[kn] := List.getElem?_eq_getElem hk
      have c0 : w4.cell? ⟨g, kn * 4, none⟩ = some (.int .i64 l[kn].key) := (hown.cellAt (kn * 4) (by omega)).trans (cellsOf_get encTm 4 encTm_len _ _ 0 _ hx (by omega))
      have c1 : w4.cell? ⟨g, kn * 4 + 1, none⟩ = some (.string l[kn].name) := (hown.cellAt (kn * 4 + 1) (by omega)).trans (cellsOf_get encTm 4 encTm_len _ _ 1 _ hx (by omega))
      have c2 : w4.cell? ⟨g, kn * 4 + 2, none⟩ = some (.int .i64 l[kn].op) := (hown.cellAt (kn * 4 + 2) (by omega)).trans (cellsOf_get encTm 4 encTm_len _ _ 2 _ hx (by omega))
      have c3 : w4.cell? ⟨g, kn * 4 + 3, none⟩ = some (.string l[kn].value) := (hown.cellAt (kn * 4 + 3) (by omega)).trans (cellsOf_get encTm 4 encTm_len _ _ 3 _ hx (by omega))
      have f0 := hown.frozenAt (kn * 4)
      have f1 := hown.frozenAt (kn * 4 + 1)
      have f2 := hown.frozenAt (kn * 4 + 2)
      have f3 := hown.frozenAt (kn * 4 + 3)
      have hsm := HT4.out.small l[kn] (List.getElem_mem _)
      clear hown hx
      have hs5 : TmSmall 60 { l[kn] with value := q } := ⟨hsm.name, hq, hsm.k0, hsm.k1, hsm.o0, hsm.o1⟩
      have HT5 := Lib.hid (HT4.out.set (u := .string q) (f := 3) hk (by omega) rfl hs5)
      have hlen : (l.set kn { l[kn] with value := q }).length = N := by rw [List.length_set, HN.out]
      rw [hlen] at HT5
      have HL := Lib.hid hlen
      clear hlen hs5
      go_wp2
      go_ret
      exact ⟨_, l.set kn { l[kn] with value := q }, rfl, Nat.zero_le _, by rw [HL.out]; omega, by have h := HT5.out.row.more (show d + 103 ≤ d + 2000 by omega); exact ⟨h, HT5.out.small⟩⟩
    · skip
      obtain rfl : l.length = N := HN.out
      obtain ⟨i0, hi0, hz0, hz1, hz2⟩ := info_parts termInfo
      have Hi0 := Lib.hid hi0
      have Hz0 := Lib.hid hz0
      have Hz1 := Lib.hid hz1
      have Hz2 := Lib.hid hz2
      clear hi0 hz0 hz1 hz2
      have hw3 := HT3.out.row.nx.gr.size
      have HS := Lib.hid (two_small HT3.out.small 24 (by decide) (by decide))
      go_wp2_with (refine wpList_append_lies _ rfl _ _ _ (by rfl) w.heap.size 49 i0 _ 4 48 Tryz.underlying53 Hi0.out Hz0.out Hz1.out Hz2.out rfl (by omega) (.slice (some ⟨g, 0, none⟩) l.length c) l.length (cellsOf encTm l) (by rfl) (HT3.out.row.alloc _).own _ 2 2 (cellsOf encTm [⟨23, ⟨#[]⟩, 3, ⟨#[97]⟩⟩, ⟨24, ⟨#[]⟩, 3, ⟨#[98]⟩⟩]) (by rfl) (by rfl) (by exact World.news_of_block (B := w3.heap.size) (heap_alloc_new _ _)) (cells_one _) (by omega) (by unfold maxLen; omega) (by omega) (by simp; omega) _ rfl ?_; intro g2 cap w9 hown2 hgrow2 hat2 hlt2)
      have HR5 := Lib.hid ((HT3.out.row.alloc _).snocs (r := [⟨23, ⟨#[]⟩, 3, ⟨#[97]⟩⟩, ⟨24, ⟨#[]⟩, 3, ⟨#[98]⟩⟩]) rfl hown2 hgrow2)
      clear hown2 hgrow2 hat2
      go_wp2
      go_ret
      exact ⟨_, l ++ [⟨23, ⟨#[]⟩, 3, ⟨#[97]⟩⟩, ⟨24, ⟨#[]⟩, 3, ⟨#[98]⟩⟩], rfl, Nat.zero_le _, by rw [List.length_append]; simp; omega, by have h := HR5.out.more (show d + 102 ≤ d + 2000 by omega); exact ⟨h, HS.out⟩⟩
    · skip
      obtain rfl : l.length = N := HN.out
      obtain ⟨i0, hi0, hz0, hz1, hz2⟩ := info_parts termInfo
      have Hi0 := Lib.hid hi0
      have Hz0 := Lib.hid hz0
      have Hz1 := Lib.hid hz1
      have Hz2 := Lib.hid hz2
      clear hi0 hz0 hz1 hz2
      have hw3 := HT3.out.row.nx.gr.size
      have HS := Lib.hid (two_small HT3.out.small 23 (by decide) (by decide))
      go_wp2_with (refine wpList_append_lies _ rfl _ _ _ (by rfl) w.heap.size 49 i0 _ 4 48 Tryz.underlying53 Hi0.out Hz0.out Hz1.out Hz2.out rfl (by omega) (.slice (some ⟨g, 0, none⟩) l.length c) l.length (cellsOf encTm l) (by rfl) (HT3.out.row.alloc _).own _ 2 2 (cellsOf encTm [⟨23, ⟨#[]⟩, 3, ⟨#[97]⟩⟩, ⟨23, ⟨#[]⟩, 3, ⟨#[98]⟩⟩]) (by rfl) (by rfl) (by exact World.news_of_block (B := w3.heap.size) (heap_alloc_new _ _)) (cells_one _) (by omega) (by unfold maxLen; omega) (by omega) (by simp; omega) _ rfl ?_; intro g2 cap w9 hown2 hgrow2 hat2 hlt2)
      have HR5 := Lib.hid ((HT3.out.row.alloc _).snocs (r := [⟨23, ⟨#[]⟩, 3, ⟨#[97]⟩⟩, ⟨23, ⟨#[]⟩, 3, ⟨#[98]⟩⟩]) rfl hown2 hgrow2)
      clear hown2 hgrow2 hat2
      go_wp2
      go_ret
      exact ⟨_, l ++ [⟨23, ⟨#[]⟩, 3, ⟨#[97]⟩⟩, ⟨23, ⟨#[]⟩, 3, ⟨#[98]⟩⟩], rfl, Nat.zero_le _, by rw [List.length_append]; simp; omega, by have h := HR5.out.more (show d + 102 ≤ d + 2000 by omega); exact ⟨h, HS.out⟩⟩
    · skip
      obtain rfl : l.length = N := HN.out
      obtain ⟨i0, hi0, hz0, hz1, hz2⟩ := info_parts termInfo
      have Hi0 := Lib.hid hi0
      have Hz0 := Lib.hid hz0
      have Hz1 := Lib.hid hz1
      have Hz2 := Lib.hid hz2
      clear hi0 hz0 hz1 hz2
      go_wp2_with fail
      go_loopg [3] 18 (fun gk s3 wr => ∃ (v : Value) (l : List Tm) (D : Nat), v = s3 ∧ l.length ≤ 17 ∧ 18 ≤ gk + l.length ∧ D + 11 * gk ≤ d + 400 ∧ Hid (TTm w0 b n p D w v l wr))
      case atStart => exact ⟨_, l, d + 102, rfl, by omega, by omega, by omega, HT3.out⟩
      case round =>
        obtain ⟨v, l, D, rfl, hl17, hgk, hD, hTT⟩ := hrel
        obtain ⟨A2, c2, rfl⟩ := own_slice hTT.out.row.own
        have hgk1 : 1 ≤ gk := by omega
        go_wp2_with fail
        (with_reducible refine (Next_t (n := n) (p := p) _ hTT.out.row.nx.st (by omega) (by omega) (by omega)).mono ?_)
        rintro e w4 ⟨r, r0, r1, rfl, hT4⟩
        have HR4 := Lib.hid (hTT.out.row.go hT4)
        have HS4 := Lib.hid hTT.out.small
        clear hT4 hTT
        by_cases hlt : (l.length : Int) < 16 + r
        · have hl16 : l.length ≤ 16 := by omega
          go_wp2_with fail
          (with_reducible refine (Assigns_any (n := n) (p := p) HR4.out.nx.st (by omega)).mono ?_)
          rintro e w5 ⟨t, hts, rfl, hT5⟩
          have HR5 := Lib.hid (HR4.out.go hT5)
          have HS5 := Lib.hid (snoc_small HS4.out hts)
          clear hT5 hts
          unfold tmV
          have hw5 := HR5.out.nx.gr.size
          go_wp2_with (refine wpList_append_lies _ rfl _ _ _ (by rfl) w.heap.size 49 i0 _ 4 48 Tryz.underlying53 Hi0.out Hz0.out Hz1.out Hz2.out rfl (by omega) (.slice A2 l.length c2) l.length (cellsOf encTm l) (by rfl) (HR5.out.alloc _).own _ 1 1 (encTm t) (by rfl) (by rfl) (by exact World.news_of_block (B := w5.heap.size) (heap_alloc_new _ _)) (encTm_one _) (by omega) (by unfold maxLen; omega) (by omega) (by simp; omega) _ rfl ?_; intro g2 cap w9 hown2 hgrow2 hat2 hlt2)
          have HR9 := Lib.hid ((HR5.out.alloc _).snoc hown2 hgrow2)
          clear hown2 hgrow2 hat2
          go_roundg (gk - 1)
          case measure => omega
          case rel => exact ⟨_, l ++ [t], D + 11, rfl, by rw [List.length_append]; simp; omega, by rw [List.length_append]; simp; omega, by omega, HR9.out.more (by omega), HS5.out⟩
        · go_wp2
          go_ret
          exact ⟨_, l, rfl, Nat.zero_le _, by omega, by have h := HR4.out.more (show D + 1 ≤ d + 2000 by omega); exact ⟨h, HS4.out⟩⟩
end Go.Proofs.YthcgkeiggnfgiaaGreatDoor
namespace Go.Proofs.YthcgkeiggnfgiaaGreatDoor
open Go.RowKit
theorem grown_back {w W0 W : World} {b : Nat} (h : Below w.heap.size w W0) (hg : W0.grownBy W (some b)) (hb : w.heap.size ≤ b) : Below w.heap.size w W :=
  ⟨hg.os.trans h.os, hg.tape.trans h.tape, hg.output.trans h.output, Nat.le_trans h.size hg.size, fun k hk => (hg.block k (Nat.lt_of_lt_of_le hk h.size) (by intro e; have := Option.some.inj e; omega)).trans (h.block k hk)⟩
theorem IntsIn.tape {w : World} {A : Option Addr} {n : Nat} (h : IntsIn w A n) (c : Nat) (t : TypeId) : TapeIs (w.alloc (.cells #[.slice A n c, .int .i64 0] t)) w.heap.size n 0 := by
  obtain ⟨h0, ba, off, hA, hlt, hz⟩ := h
  refine ⟨⟨A, c, t, heap_alloc_new _ _, ba, off, hA, by omega, fun i hi => ?_⟩, h0⟩
  obtain ⟨z, hc, z1, z2⟩ := hz i hi
  exact ⟨z, by rw [World.cell?_of_block (Below.heap_alloc w _ ba hlt)]; exact hc, z1, z2⟩
theorem IntsIn.keep {w W : World} {A : Option Addr} {n : Nat} (h : IntsIn w A n) (hb : Below w.heap.size w W) : IntsIn W A n := by
  obtain ⟨h0, ba, off, hA, hlt, hz⟩ := h
  refine ⟨h0, ba, off, hA, Nat.lt_of_lt_of_le hlt hb.size, fun i hi => ?_⟩
  obtain ⟨z, hc, z1, z2⟩ := hz i hi
  exact ⟨z, by rw [hb.cell (p := ⟨ba, off + i, none⟩) hlt]; exact hc, z1, z2⟩
theorem TmSmall.pre {m : Nat} {t : Tm} (h : TmSmall m t) (hm : m ≤ 1000000) : TmPre t := ⟨by have := h.name; omega, by have := h.value; omega⟩
theorem TmPre.ok {t : Tm} (h : TmPre t) : TmOk t := ⟨h.name, by have := h.value; omega⟩
/-- Terms that a call has made. -/
def NewTms (w : World) (e : Ending) (w' : World) : Prop := ∃ A c x, e = .returned (.slice A x.length c) ∧ x.length ≤ 40 ∧ RowAt w' w'.heap.size A 4 x.length (cellsOf encTm x) ∧ (∀ t ∈ x, TmSmall 60 t) ∧ Below w.heap.size w w'
theorem Spoilt_new {w : World} {A : Option Addr} {n : Nat} (c : Nat) (hI : IntsIn w A n) :
    Calls Tryz.prog 31 #[.pointer (some ⟨w.heap.size, 0, none⟩)] (w.alloc (.cells #[.slice A n c, .int .i64 0] 28)) (NewTms w) := by
  refine (Spoilt_any (n := n) (p := 0) (d := 0) (TSt.start (hI.tape c 28)) (by omega)).mono ?_
  rintro e w2 ⟨v, x, rfl, _, hx, hX⟩
  obtain ⟨XA, xc, rfl⟩ := own_slice hX.row.own
  exact ⟨XA, xc, x, rfl, hx, RowAt.of_own hX.row.own, hX.small, grown_back (below_alloc w _) hX.row.nx.gr (Nat.le_refl _)⟩
end Go.Proofs.YthcgkeiggnfgiaaGreatDoor
