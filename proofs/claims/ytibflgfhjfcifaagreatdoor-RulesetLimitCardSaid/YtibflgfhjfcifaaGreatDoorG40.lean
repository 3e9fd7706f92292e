/-
  The value of a term by its key: plain, and the contract of the reference's Value.
  Contract of the program's value: the value of a term by its key.
  Contract of the law file's rules: some rules that are not linked.
  Which rules stay, in plain words; no program in sight.
  Contract of the reference's Link. (Printed by gen_rlink.py.)
-/
import Derived.Test.YtibflgfhjfcifaaGreatDoorG39
import Derived.Test.YtibflgfhjfcifaaGreatDoorG00
import Derived.Test.YtibflgfhjfcifaaGreatDoorG06
import Derived.Test.YtibflgfhjfcifaaGreatDoorG20
import Derived.Deep.RegionHeld3
import Derived.Deep.CutBlock
namespace Go.Proofs.YtibflgfhjfcifaaGreatDoor
open Go.RowKit
def valT (l : List Tm) (key : Int) : Option ByteArray := (l.find? fun t => t.key == key).map Tm.value
def valOV (o : Option ByteArray) : Value := .tuple #[.string (o.getD ⟨#[]⟩), .bool o.isSome]
theorem find_hit {l : List Tm} {key : Int} {k : Nat} (hno : ∀ j (h : j < l.length), j < k → l[j].key ≠ key) (hk : k < l.length) (h : l[k].key = key) : valT l key = some l[k].value := by
 unfold valT
 have : l.find? (fun t => t.key == key) = some l[k] := by
  rw [List.find?_eq_some_iff_getElem]
  exact ⟨by simpa using h, k, hk, rfl, fun j hj => by simpa using hno j (by omega) hj⟩
 rw [this]; rfl
theorem find_miss {l : List Tm} {key : Int} (hno : ∀ j (h : j < l.length), l[j].key ≠ key) : valT l key = none := by
 unfold valT
 have : l.find? (fun t => t.key == key) = none := by
  rw [List.find?_eq_none]
  intro t ht
  obtain ⟨j, hj, rfl⟩ := List.getElem_of_mem ht
  simpa using hno j hj
 rw [this]; rfl
set_option maxRecDepth 100000 in
set_option maxHeartbeats 1000000 in
theorem RValue_any (A : Option Addr) (c : Nat) (l : List Tm) (key : Int) (w : World) (hn : l.length ≤ 1000000) (h : RowAt w w.heap.size A 4 l.length (cellsOf encTm l)) :
 Calls Tryz.prog 14 #[.slice A l.length c, .int .i64 key] w fun e w' => e = .returned (valOV (valT l key)) ∧ w = w' := by
 have H := Lib.hid h
 clear h
 generalize hN : l.length = N at *
 have HN := Lib.hid hN
 clear hN
 go_enter Tryz.func14, Tryz.ntmps14
 go_wp2
 go_loopg [6] (N + 1) (fun gk s6 wr => ∃ k : Nat, s6 = .int .i64 k ∧ k + gk = N + 1 ∧ k ≤ N ∧ w = wr ∧ Hid (∀ j (h : j < l.length), j < k → l[j].key ≠ key))
 case atStart => exact ⟨0, rfl, by omega, Nat.zero_le _, rfl, fun j _ h => absurd h (Nat.not_lt_zero _)⟩
 case round =>
  obtain ⟨k, rfl, hkg, hkN, rfl, hno⟩ := hrel
  by_cases hlt : k < N
  · have hk' : k < l.length := by rw [HN.out]; exact hlt
    have hr := H.out
    rw [← HN.out] at hr
    obtain ⟨ba, off, rfl, c0, c1, c2, c3⟩ := hr.tm (Below.refl _ _) hk'
    have hltI : (k : Int) < (N : Int) := by omega
    clear hr
    cases hq : (l[k].key == key)
    · have hne : l[k].key ≠ key := by simpa using hq
      have HA : Hid (∀ j (h : j < l.length), j < k + 1 → l[j].key ≠ key) := Lib.hid fun j h hj => by
       rcases Nat.lt_or_ge j k with h1 | h1
       · exact hno.out j h h1
       · obtain rfl : j = k := by omega
         exact hne
      generalize l[k].key = ky at *
      generalize l[k].value = vl at *
      clear hne
      go_wp2
      go_roundg (gk - 1)
      case measure => omega
      case rel => exact ⟨k + 1, by go_num, by omega, by omega, rfl, HA.out⟩
    · have hke : l[k].key = key := by simpa using hq
      have HV := Lib.hid (find_hit hno.out hk' hke)
      generalize l[k].key = ky at *
      generalize l[k].value = vl at *
      subst hke
      go_wp2
      go_ret2
      rw [HV.out]
      exact ⟨rfl, rfl⟩
  · obtain rfl : k = N := by omega
    have HV := Lib.hid (find_miss (l := l) (key := key) fun j h => hno.out j h (by rw [← HN.out]; exact h))
    go_wp2
    go_ret2
    rw [HV.out]
    exact ⟨rfl, rfl⟩
end Go.Proofs.YtibflgfhjfcifaaGreatDoor
namespace Go.Proofs.YtibflgfhjfcifaaGreatDoor
open Go.RowKit
set_option maxRecDepth 100000 in
theorem inKeyT_any (t : Tm) (key : Int) (g : Nat) (w : World) (hg : w.cell? ⟨g, 0, none⟩ = some (.int .i64 key)) (hgs : g < w.heap.size) :
 Calls Tryz.prog 57 #[tmV t, .pointer (some ⟨g, 0, none⟩)] w fun e w' => e = .returned (.bool (t.key == key)) ∧ Below w.heap.size w w' := by
 obtain ⟨ky, nm, op, vl⟩ := t
 unfold tmV
 dsimp only
 go_enter Tryz.func57, Tryz.ntmps57
 go_wp2
 go_ret
 exact ⟨rfl, below_alloc _ _⟩
def idxT (l : List Tm) (key : Int) : Int := match l.findIdx? (fun t => t.key == key) with
 | some k => k
 | none => -1
theorem idx_hitT {l : List Tm} {key : Int} {k : Nat} (hno : ∀ j (h : j < l.length), j < k → l[j].key ≠ key) (hk : k < l.length) (h : l[k].key = key) : idxT l key = k := by
 unfold idxT
 have : l.findIdx? (fun t => t.key == key) = some k := by
  rw [List.findIdx?_eq_some_iff_getElem]
  exact ⟨hk, by simpa using h, fun j hj => by simpa using hno j (by omega) hj⟩
 rw [this]
theorem idx_missT {l : List Tm} {key : Int} (hno : ∀ j (h : j < l.length), l[j].key ≠ key) : idxT l key = -1 := by
 unfold idxT
 have : l.findIdx? (fun t => t.key == key) = none := by
  rw [List.findIdx?_eq_none_iff]
  intro t ht
  obtain ⟨j, hj, rfl⟩ := List.getElem_of_mem ht
  simpa using hno j hj
 rw [this]
theorem idxT_val (l : List Tm) (key : Int) : (idxT l key = -1 ∧ valT l key = none) ∨ ∃ k, ∃ h : k < l.length, idxT l key = (k : Nat) ∧ valT l key = some l[k].value := by
 by_cases h : ∃ k, ∃ h : k < l.length, l[k].key = key ∧ ∀ j (h : j < l.length), j < k → l[j].key ≠ key
 · obtain ⟨k, hk, he, hno⟩ := h
   exact Or.inr ⟨k, hk, idx_hitT hno hk he, find_hit hno hk he⟩
 · have hno : ∀ n j (h : j < l.length), j < n → l[j].key ≠ key := by
    intro n
    induction n with
    | zero => intro j _ h; omega
    | succ n ih =>
      intro j hj hn
      rcases Nat.lt_or_ge j n with h1 | h1
      · exact ih j hj h1
      · obtain rfl : j = n := by omega
        exact fun e => h ⟨j, hj, e, ih⟩
   have hno2 : ∀ j (h : j < l.length), l[j].key ≠ key := fun j hj => hno (j + 1) j hj (Nat.lt_succ_self j)
   exact Or.inl ⟨idx_missT hno2, find_miss hno2⟩
set_option maxRecDepth 100000 in
set_option maxHeartbeats 2000000 in
theorem IndexT_any (A : Option Addr) (c g : Nat) (l : List Tm) (key : Int) (w : World) (hn : l.length ≤ 1000000) (h : RowAt w w.heap.size A 4 l.length (cellsOf encTm l)) (hg : w.cell? ⟨g, 0, none⟩ = some (.int .i64 key)) (hgs : g < w.heap.size) :
 Calls Tryz.prog 56 #[.slice A l.length c, .func (.func 57) #[] #[.pointer (some ⟨g, 0, none⟩)]] w fun e w' => e = .returned (.int .i64 (idxT l key)) ∧ Below w.heap.size w w' := by
 have H := Lib.hid h
 have HG := Lib.hid hg
 clear h hg
 generalize hN : l.length = N at *
 have HN := Lib.hid hN
 clear hN
 go_enter Tryz.func56, Tryz.ntmps56
 go_wp2
 go_loopg [8] (N + 1) (fun gk s8 wr => ∃ k : Nat, s8 = .int .i64 k ∧ k + gk = N + 1 ∧ k ≤ N ∧ Hid (∀ j (h : j < l.length), j < k → l[j].key ≠ key) ∧ Hid (Below w.heap.size w wr))
 case atStart => exact ⟨0, rfl, by omega, Nat.zero_le _, (fun j _ h => absurd h (Nat.not_lt_zero _)), Below.refl _ _⟩
 case round =>
  obtain ⟨k, rfl, hkg, hkN, hno, hB⟩ := hrel
  by_cases hlt : k < N
  · have hk' : k < l.length := by rw [HN.out]; exact hlt
    have hr := H.out
    rw [← HN.out] at hr
    obtain ⟨ba, off, rfl, c0, c1, c2, c3⟩ := hr.tm hB.out hk'
    have hltI : (k : Int) < (N : Int) := by omega
    have hgr : wr.cell? ⟨g, 0, none⟩ = some (.int .i64 key) := (hB.out.cell (p := ⟨g, 0, none⟩) hgs).trans HG.out
    have HC := Lib.hid (inKeyT_any l[k] key g wr hgr (by have := hB.out.size; omega))
    have HHit := Lib.hid (fun (h : l[k].key = key) => idx_hitT hno.out hk' h)
    have HNx : Hid (l[k].key ≠ key → ∀ j (h : j < l.length), j < k + 1 → l[j].key ≠ key) := Lib.hid fun hne j h hj => by
     rcases Nat.lt_or_ge j k with h1 | h1
     · exact hno.out j h h1
     · obtain rfl : j = k := by omega
       exact hne
    generalize l[k] = t at *
    obtain ⟨ky, nm, op, vl⟩ := t
    unfold tmV at HC
    dsimp only at c0 c1 c2 c3 HC HHit HNx
    clear hr hgr
    cases hq : (ky == key)
    · rw [hq] at HC
      have HA := Lib.hid (HNx.out (by simpa using hq))
      clear hq
      go_wp2_with (go_at_call 57; refine HC.out.mono ?_; rintro e w2 ⟨rfl, hb2⟩)
      go_roundg (gk - 1)
      case measure => omega
      case rel => exact ⟨k + 1, by go_num, by omega, by omega, HA.out, bt hB.out hb2⟩
    · rw [hq] at HC
      have HV := Lib.hid (HHit.out (by simpa using hq))
      clear hq
      go_wp2_with (go_at_call 57; refine HC.out.mono ?_; rintro e w2 ⟨rfl, hb2⟩)
      go_ret
      rw [HV.out]
      exact ⟨rfl, bt hB.out hb2⟩
  · obtain rfl : k = N := by omega
    have HV := Lib.hid (idx_missT (l := l) (key := key) fun j h => hno.out j h (by rw [← HN.out]; exact h))
    go_wp2
    go_ret
    rw [HV.out]
    exact ⟨rfl, hB.out⟩
set_option maxRecDepth 100000 in
set_option maxHeartbeats 2000000 in
theorem PValue_any (A : Option Addr) (c : Nat) (l : List Tm) (key : Int) (w : World) (hn : l.length ≤ 1000000) (h : RowAt w w.heap.size A 4 l.length (cellsOf encTm l)) :
 Calls Tryz.prog 29 #[.slice A l.length c, .int .i64 key] w fun e w' => e = .returned (valOV (valT l key)) ∧ Below w.heap.size w w' := by
 have HIx := Lib.hid (IndexT_any A c w.heap.size l key (w.alloc (.cells #[.int .i64 key] 3)) hn ((h.keep (below_alloc w _)).up (by simp)) (cellOf (heap_alloc_new w _) rfl) (by simp))
 have H := Lib.hid h
 have hcase := idxT_val l key
 generalize idxT l key = ix at *
 generalize hvt : valT l key = vt at *
 clear h hvt
 rcases hcase with ⟨rfl, rfl⟩ | ⟨k, hk, rfl, rfl⟩
 · generalize l.length = N at *
   go_enter Tryz.func29, Tryz.ntmps29
   go_wp2_with (go_at_call 56; refine HIx.out.mono ?_; rintro e w2 ⟨rfl, hb2⟩)
   go_ret2
   exact ⟨rfl, bt (below_alloc _ _) hb2⟩
 · have HQ : Hid (∀ W, Below w.heap.size w W → ∃ ba off, A = some ⟨ba, off, none⟩ ∧ W.cell? ⟨ba, off + k * 4 + 3, none⟩ = some (.string l[k].value)) := Lib.hid fun W hW => by
    obtain ⟨ba, off, e, _, _, _, h3⟩ := H.out.tm hW hk
    exact ⟨ba, off, e, h3⟩
   have hkI : (k : Int) < (l.length : Int) := by omega
   generalize l[k].value = vl at *
   generalize l.length = N at *
   clear hk
   go_enter Tryz.func29, Tryz.ntmps29
   go_wp2_with (go_at_call 56; refine HIx.out.mono ?_; rintro e w2 ⟨rfl, hb2⟩; obtain ⟨ba, off, rfl, c3⟩ := HQ.out w2 (bt (below_alloc _ _) hb2))
   go_ret2
   exact ⟨rfl, bt (below_alloc _ _) hb2⟩
end Go.Proofs.YtibflgfhjfcifaaGreatDoor
namespace Go.Proofs.YtibflgfhjfcifaaGreatDoor
open Go.RowKit
structure RlSt (w0 : World) (b n p d : Nat) (w : World) (v : Value) (rl : List Rl) (W : World) : Prop where
 nx : TNx w0 b n p d w W
 own : W.ownsRow w.heap.size 39 3 v rl.length (cellsOf encRl rl)
 inn : InOff 4 encTm Rl.tms W W.heap.size v.ownBlock rl
 inb : InOff 4 encTm Rl.tms W W.heap.size (some b) rl
 lo : w0.heap.size ≤ w.heap.size
section
variable {w0 w W W1 w9 : World} {b n p d d' : Nat} {v : Value} {rl : List Rl}
theorem RlSt.start (h : TSt w0 b n p d w) : RlSt w0 b n p d w (.slice none 0 0) [] w := ⟨TNx.refl h, World.ownsRow_nil _ _ _ _, InOff.nil, InOff.nil, h.size⟩
theorem RlSt.far (h : RlSt w0 b n p d w v rl W) : v.ownBlock ≠ some b := fun e => by
 have h1 := (h.own.lt b e).1
 have h2 := h.nx.st.lt
 have h3 := h.lo
 omega
theorem RlSt.go (h : RlSt w0 b n p d w v rl W) (hT : TNx w0 b n p d' W W1) : RlSt w0 b n p d' w v rl W1 := by
 have h4 := h.inb.grown (Nat.le_refl _) hT.gr
 have hs := hT.gr.size
 exact ⟨h.nx.trans hT, h.own.kept hT.gr (Or.inr h.far), (h.inn.with h4 (Nat.le_refl _)).up hs, h4.up hs, h.lo⟩
theorem RlSt.more (h : RlSt w0 b n p d w v rl W) (hd : d ≤ d') : RlSt w0 b n p d' w v rl W := ⟨h.nx.more hd, h.own, h.inn, h.inb, h.lo⟩
theorem RlSt.push {y : Rl} {g2 c : Nat} (h : RlSt w0 b n p d w v rl W) (hb : Below W.heap.size W W1) (hy : RowAt W W.heap.size y.tms.A 4 y.tms.l.length (cellsOf encTm y.tms.l)) (hyo : ∀ a, y.tms.A = some a → v.ownBlock ≠ some a.block ∧ a.block ≠ b)
 (hown : w9.ownsRow w.heap.size 39 3 (.slice (some ⟨g2, 0, none⟩) (rl.length + 1) c) (rl.length + 1) (cellsOf encRl rl ++ encRl y)) (hg : W1.grownBy w9 v.ownBlock) (hat : v.ownBlock = some g2 ∨ g2 = W1.heap.size) :
 RlSt w0 b n p d w (.slice (some ⟨g2, 0, none⟩) (rl.length + 1) c) (rl ++ [y]) w9 := by
 have h1 : InOff 4 encTm Rl.tms W W.heap.size v.ownBlock (rl ++ [y]) := h.inn.snoc ⟨hy, fun _ a e e2 => (hyo a e).1 e2.symm⟩
 have h2 : InOff 4 encTm Rl.tms W W.heap.size (some b) (rl ++ [y]) := h.inb.snoc ⟨hy, fun _ a e e2 => (hyo a e).2 (Option.some.inj e2)⟩
 have hs := hb.size
 have h4 := (h1.keep hb).moved (row' := some g2) hs hg (by
  rcases hat with e | e
  · exact Or.inl e.symm
  · right; intro g eg; injection eg with eg; omega)
 have hs9 := hg.size
 refine ⟨(h.nx.grownR (grown_below hb none) (fun _ e => by cases e)).grownR hg (fun j e => by have := (h.own.lt j e).1; have := h.lo; omega), own_snoc hown, h4.up (by omega), (h2.with h4 (Nat.le_refl _)).up (by omega), h.lo⟩
end
def SomeRls (w0 : World) (b n p d : Nat) (w : World) (e : Ending) (w' : World) : Prop := ∃ v rl, e = .returned v ∧ rl.length ≤ 7 ∧ (∀ x ∈ rl, 1 ≤ x.tms.l.length ∧ x.tms.l.length ≤ 6 ∧ ∀ t ∈ x.tms.l, TmSmall 60 t) ∧ RlSt w0 b n p d w v rl w'
set_option maxRecDepth 100000 in
set_option maxHeartbeats 8000000 in
theorem Rules_any {w0 w : World} {b n p d : Nat} (h : TSt w0 b n p d w) (h3 : p + d ≤ 50000) :
 Calls Tryz.prog 8 #[.pointer (some ⟨b, 0, none⟩)] w (SomeRls w0 b n p (d + 1000) w) := by
 have H := Lib.hid h
 have hlb := h.lt
 have hws := h.size
 clear h
 obtain ⟨i0, hi0, hz0, hz1, hz2⟩ := info_parts rlInfo
 have Hi0 := Lib.hid hi0
 have Hz0 := Lib.hid hz0
 have Hz1 := Lib.hid hz1
 have Hz2 := Lib.hid hz2
 clear hi0 hz0 hz1 hz2
 go_enter Tryz.func8, Tryz.ntmps8
 go_wp2_with fail
 (with_reducible refine (Next_t (n := n) (p := p) _ H.out (by omega) (by omega) (by omega)).mono ?_)
 rintro e w1 ⟨r, r0, r1, rfl, hT1⟩
 obtain ⟨rn, rfl⟩ := Int.eq_ofNat_of_zero_le r0
 have hrn : rn ≤ 7 := by omega
 have HT1 := Lib.hid ((RlSt.start H.out).go hT1)
 clear hT1 r0 r1
 go_wp2_with fail
 go_loopg [3, 4] 8 (fun gk s3 s4 wr => ∃ (k : Nat) (A : Option Addr) (c : Nat) (rl : List Rl) (D : Nat), s3 = .slice A rl.length c ∧ s4 = .int .i64 k ∧ k + 1 ≤ gk ∧ k ≤ 7 ∧ rl.length + k ≤ 7 ∧ D + 101 * k ≤ d + 708 ∧ Hid (∀ x ∈ rl, 1 ≤ x.tms.l.length ∧ x.tms.l.length ≤ 6 ∧ ∀ t ∈ x.tms.l, TmSmall 60 t) ∧ Hid (RlSt w0 b n p D w (.slice A rl.length c) rl wr))
 case atStart => exact ⟨rn, none, 0, [], d + 1, rfl, rfl, by omega, hrn, by simp; omega, by omega, (fun x hx => by cases hx), HT1.out⟩
 case round =>
  obtain ⟨k, A, c, rl, D, rfl, rfl, hkg, hk7, hlk, hD, hZ, hR⟩ := hrel
  by_cases hk : 0 < k
  · have hkI : (0 : Int) < (k : Int) := by omega
    go_wp2_with fail
    (with_reducible refine (One_b (n := n) (p := p) 60 _ _ _ _ _ hR.out.nx.st (by decide) (by simp) (by decide) (by decide) (by simp) (by omega)).mono ?_)
    rintro e w2 ⟨y, hy, rfl, hT2⟩
    have HR2 := Lib.hid (hR.out.go hT2)
    clear hT2
    go_wp2_with fail
    (with_reducible refine (Terms_any (n := n) (p := p) HR2.out.nx.st (by omega)).mono ?_)
    rintro e w3 ⟨tv, l, rfl, hl1, hl6, hTT⟩
    obtain ⟨TA, tc, rfl⟩ := own_slice hTT.row.own
    have HR3 := Lib.hid (HR2.out.go hTT.row.nx)
    have HTr := Lib.hid (RowAt.of_own hTT.row.own)
    have HTo : Hid (∀ a, TA = some a → (Value.slice A rl.length c).ownBlock ≠ some a.block ∧ a.block ≠ b) := Lib.hid fun a ha => by
     have h1 := (hTT.row.own.lt a.block (by rw [ha]; rfl)).1
     have h2 := HR2.out.nx.gr.size
     exact ⟨fun e => by have := (HR2.out.own.lt _ e).2; omega, by omega⟩
    have HZ2 : Hid (∀ x ∈ rl ++ [(⟨y, k, ⟨TA, tc, l⟩⟩ : Rl)], 1 ≤ x.tms.l.length ∧ x.tms.l.length ≤ 6 ∧ ∀ t ∈ x.tms.l, TmSmall 60 t) := Lib.hid fun x hx => by
     rcases List.mem_append.1 hx with hx | hx
     · exact hZ.out x hx
     · obtain rfl := List.mem_singleton.1 hx; exact ⟨hl1, hl6, hTT.small⟩
    have hw3 := HR3.out.nx.gr.size
    clear hTT
    go_wp2_with (at_builtin; go_loud (refine wpList_append_lies _ rfl _ _ _ (by rfl) w.heap.size 39 i0 _ 3 48 Tryz.underlying23 Hi0.out Hz0.out Hz1.out Hz2.out rfl (by omega) (.slice A rl.length c) rl.length (cellsOf encRl rl) (by rfl) (HR3.out.own.alloc _) _ 1 1 (encRl (⟨y, k, ⟨TA, tc, l⟩⟩ : Rl)) (by rfl) (by rfl) (by exact World.news_of_block (heap_alloc_new _ _)) (encRl_one _) (by omega) (by unfold maxLen; omega) (by omega) (by simp; omega) _ rfl ?_; intro g2 cap w9 hown2 hgrow2 hat2 hlt2; have HR9 := Lib.hid (HR3.out.push (y := (⟨y, k, ⟨TA, tc, l⟩⟩ : Rl)) (below_alloc _ _) HTr.out HTo.out hown2 hgrow2 hat2); clear hown2 hgrow2 hat2 hlt2))
    go_roundg (gk - 1)
    case measure => omega
    case rel => exact ⟨k - 1, _, _, rl ++ [(⟨y, k, ⟨TA, tc, l⟩⟩ : Rl)], D + 101, by rw [List.length_append]; rfl, by rw [show ((k - 1 : Nat) : Int) = (k : Int) - 1 from by omega], by omega, by omega, by rw [List.length_append]; simp; omega, by omega, HZ2.out, by rw [List.length_append]; exact HR9.out⟩
  · obtain rfl : k = 0 := by omega
    go_wp2
    go_ret
    exact ⟨_, rl, rfl, by omega, hZ.out, hR.out.more (by omega)⟩
def NewRls (w : World) (e : Ending) (w' : World) : Prop := ∃ A c rl, e = .returned (.slice A rl.length c) ∧ rl.length ≤ 7 ∧ (∀ x ∈ rl, 1 ≤ x.tms.l.length ∧ x.tms.l.length ≤ 6 ∧ ∀ t ∈ x.tms.l, TmSmall 60 t) ∧ RowAt w' w'.heap.size A 3 rl.length (cellsOf encRl rl) ∧ InAt 4 encTm Rl.tms w' w'.heap.size rl ∧ Below w.heap.size w w' ∧ rl.length ≤ c
theorem Rules_new {w : World} {A : Option Addr} {n : Nat} (c : Nat) (hI : IntsIn w A n) :
 Calls Tryz.prog 8 #[.pointer (some ⟨w.heap.size, 0, none⟩)] (w.alloc (.cells #[.slice A n c, .int .i64 0] 27)) (NewRls w) := by
 refine (Rules_any (n := n) (p := 0) (d := 0) (TSt.start (hI.tape c 27)) (by omega)).mono ?_
 rintro e w2 ⟨v, rl, rfl, hl, hz, hS⟩
 obtain ⟨XA, xc, rfl⟩ := own_slice hS.own
 have hc : rl.length ≤ xc := by
  rcases hS.own.2 with ⟨h1, h2⟩ | ⟨g, cap, cur, e, _, _, hroom, _⟩
  · rw [h2]; exact Nat.zero_le _
  · injection e with _ _ e; rw [e]; exact hroom
 exact ⟨XA, xc, rl, rfl, hl, hz, RowAt.of_own hS.own, hS.inn.at_, grown_back (below_alloc w _) hS.nx.gr (Nat.le_refl _), hc⟩
end Go.Proofs.YtibflgfhjfcifaaGreatDoor
namespace Go.Proofs.YtibflgfhjfcifaaGreatDoor
open Go.RowKit
def sameV (o : Option ByteArray) (tg : ByteArray) : Bool := match o with
 | some v => v.toList == tg.toList
 | none => false
def labB (rs : List Rp) (tg : ByteArray) : Bool := rs.any fun y => sameV (valT y.tms 23) tg
def keepB (rs : List Rp) (x : Rp) : Bool := match valT x.tms 24 with
 | some tg => labB rs tg
 | none => true
def linkF : List Rp → List Rp × List Fl
 | [] => ([], [])
 | x :: r => if keepB (linkF r).1 x then (x :: (linkF r).1, (linkF r).2) else ((linkF r).1, ⟨x.file, x.line, 107⟩ :: (linkF r).2)
theorem linkF_drop {l : List Rp} {j : Nat} (h : j < l.length) : linkF (l.drop j) = if keepB (linkF (l.drop (j + 1))).1 l[j] then (l[j] :: (linkF (l.drop (j + 1))).1, (linkF (l.drop (j + 1))).2) else ((linkF (l.drop (j + 1))).1, ⟨l[j].file, l[j].line, 107⟩ :: (linkF (l.drop (j + 1))).2) := by
 rw [List.drop_eq_getElem_cons h, linkF]
theorem linkF_len (l : List Rp) : (linkF l).1.length + (linkF l).2.length = l.length := by
 induction l with
 | nil => rfl
 | cons x r ih =>
   rw [linkF]
   split <;> simp <;> omega
theorem linkF_sub (l : List Rp) : ∀ x ∈ (linkF l).1, x ∈ l := by
 induction l with
 | nil => intro x hx; cases hx
 | cons y r ih =>
   intro x hx
   rw [linkF] at hx
   split at hx
   · rcases List.mem_cons.1 hx with rfl | hx
     · simp
     · exact List.mem_cons_of_mem _ (ih x hx)
   · exact List.mem_cons_of_mem _ (ih x hx)
def LinkPost (T : Addr → Prop) (l : List Rp) (w : World) (e : Ending) (w' : World) : Prop := ∃ Ar cr Af cf rl fl, e = .returned (.tuple #[.slice Ar rl.length cr, .slice Af fl.length cf]) ∧ rl.map Rl.p = (linkF l).1 ∧ fl = (linkF l).2 ∧ RowAt w' w'.heap.size Ar 3 rl.length (cellsOf encRl rl) ∧ RowAt w' w'.heap.size Af 3 fl.length (cellsOf encFl fl) ∧ InAt 4 encTm Rl.tms w' w'.heap.size rl ∧ Below w.heap.size w w' ∧ rl.length ≤ cr ∧ (∀ a, Ar = some a → w.heap.size ≤ a.block) ∧ ∀ y ∈ rl, ∀ a, y.tms.A = some a → T a
theorem cap_of {w : World} {base k n : Nat} {e : TypeId} {A : Option Addr} {c : Nat} {xs : List Value} (h : w.ownsRow base e k (.slice A n c) n xs) : n ≤ c := by
 rcases h.2 with ⟨_, h2⟩ | ⟨g, cap, cur, e, _, _, hroom, _⟩
 · rw [h2]; exact Nat.zero_le _
 · injection e with _ _ e; rw [e]; exact hroom
end Go.Proofs.YtibflgfhjfcifaaGreatDoor
namespace Go.Proofs.YtibflgfhjfcifaaGreatDoor
open Go.RowKit
theorem cells_oneF (l : List Fl) : ∀ u ∈ cellsOf encFl l, u.oneCell' = true := fun u hu => by
 unfold cellsOf at hu
 obtain ⟨t, _, hu⟩ := List.mem_flatMap.1 hu
 exact encFl_one t u hu
theorem cells_oneR (l : List Rl) : ∀ u ∈ cellsOf encRl l, u.oneCell' = true := fun u hu => by
 unfold cellsOf at hu
 obtain ⟨t, _, hu⟩ := List.mem_flatMap.1 hu
 exact encRl_one t u hu
theorem consF {w : World} {base n c : Nat} {A : Option Addr} {y : Fl} {l : List Fl} (h : w.ownsRow base 55 3 (.slice A n c) n (encFl y ++ cellsOf encFl l)) : w.ownsRow base 55 3 (.slice A n c) n (cellsOf encFl (y :: l)) := h
theorem consR {w : World} {base n c : Nat} {A : Option Addr} {y : Rl} {l : List Rl} (h : w.ownsRow base 39 3 (.slice A n c) n (encRl y ++ cellsOf encRl l)) : w.ownsRow base 39 3 (.slice A n c) n (cellsOf encRl (y :: l)) := h
theorem below_grownX {w W W' : World} {row : Option Nat} (h : Below w.heap.size w W) (hg : W.grownBy W' row) (hr : ∀ g, row = some g → w.heap.size ≤ g) : Below w.heap.size w W' := h.grown hg h.size hr
set_option maxRecDepth 100000 in
set_option maxHeartbeats 8000000 in
theorem RLink_any (A : Option Addr) (c : Nat) (l : List Rl) (w : World) (hl : l.length ≤ 1000) (hz : ∀ x ∈ l, x.tms.l.length ≤ 1000) (h : RowAt w w.heap.size A 3 l.length (cellsOf encRl l)) (hi : InAt 4 encTm Rl.tms w w.heap.size l) :
 Calls Tryz.prog 10 #[.slice A l.length c] w (LinkPost (fun a => ∃ x ∈ l, x.tms.A = some a) (l.map Rl.p) w) := by
 have H := Lib.hid h
 have HI := Lib.hid hi
 have HZ := Lib.hid hz
 clear h hi hz
 unfold LinkPost
 have HD : Hid (∀ j, (h : j < l.length) → linkF ((l.map Rl.p).drop j) = if keepB (linkF ((l.map Rl.p).drop (j + 1))).1 (Rl.p l[j]) then (Rl.p l[j] :: (linkF ((l.map Rl.p).drop (j + 1))).1, (linkF ((l.map Rl.p).drop (j + 1))).2) else ((linkF ((l.map Rl.p).drop (j + 1))).1, ⟨l[j].file, l[j].line, 107⟩ :: (linkF ((l.map Rl.p).drop (j + 1))).2)) := Lib.hid fun j h => by
  rw [linkF_drop (by simpa using h)]
  simp only [List.getElem_map]
  rfl
 obtain ⟨N, hN⟩ : ∃ N, l.length = N := ⟨_, rfl⟩
 have HN := Lib.hid hN
 rw [hN] at hl ⊢
 have HDe : Hid (linkF ((l.map Rl.p).drop N) = ([], [])) := Lib.hid (by rw [List.drop_of_length_le (by rw [List.length_map, hN]; exact Nat.le_refl _)]; rfl)
 clear hN
 obtain ⟨i0, hi0, hz0, hz1, hz2⟩ := info_parts rlInfo
 have Hi0 := Lib.hid hi0
 have Hz0 := Lib.hid hz0
 have Hz1 := Lib.hid hz1
 have Hz2 := Lib.hid hz2
 obtain ⟨j0, hj0, hy0, hy1, hy2⟩ := info_parts flInfo
 have Hj0 := Lib.hid hj0
 have Hy0 := Lib.hid hy0
 have Hy1 := Lib.hid hy1
 have Hy2 := Lib.hid hy2
 clear hi0 hz0 hz1 hz2 hj0 hy0 hy1 hy2
 go_enter Tryz.func10, Tryz.ntmps10
 go_wp2
 go_loopg [4, 5, 6] (N + 1) (fun gk s4 s5 s6 wr => ∃ (k : Nat) (rl : List Rl) (fl : List Fl) (Ar : Option Addr) (cr : Nat) (Af : Option Addr) (cf : Nat), s4 = .slice Ar rl.length cr ∧ s5 = .slice Af fl.length cf ∧ s6 = .int .i64 ((k : Int) - 1) ∧ k < gk ∧ k ≤ N ∧ rl.length + k ≤ N ∧ fl.length + k ≤ N ∧ Hid (wr.ownsRow w.heap.size 39 3 (.slice Ar rl.length cr) rl.length (cellsOf encRl rl)) ∧ Hid (wr.ownsRow w.heap.size 55 3 (.slice Af fl.length cf) fl.length (cellsOf encFl fl)) ∧ Hid (Below w.heap.size w wr) ∧ Hid (∀ x ∈ rl, x ∈ l) ∧ Hid (rl.map Rl.p = (linkF ((l.map Rl.p).drop k)).1) ∧ Hid (fl = (linkF ((l.map Rl.p).drop k)).2))
 case atStart => exact ⟨N, [], [], none, 0, none, 0, rfl, rfl, rfl, by omega, Nat.le_refl _, by simp, by simp, World.ownsRow_nil _ _ _ _, World.ownsRow_nil _ _ _ _, Below.refl _ _, (fun x hx => by cases hx), (by show _ = _; rw [HDe.out]; rfl), (by show _ = _; rw [HDe.out])⟩
 case round =>
  obtain ⟨k, rl, fl, Ar, cr, Af, cf, rfl, rfl, rfl, hkg, hkN, hrl, hfl, hOr, hOf, hB, hIn, hLr, hLf⟩ := hrel
  obtain ⟨wo, rfl⟩ : ∃ wo : World, wo = wr := ⟨_, rfl⟩
  obtain ⟨gko, rfl⟩ : ∃ gko : Nat, gko = gk := ⟨_, rfl⟩
  have hwz := hB.out.size
  by_cases hk0 : 0 < k
  · obtain ⟨j, rfl⟩ : ∃ j, k = j + 1 := ⟨k - 1, by omega⟩
    have hji : ((j + 1 : Nat) : Int) - 1 = (j : Int) := by omega
    rw [hji]
    have hjI : (0 : Int) ≤ (j : Int) := by omega
    have hjN : (j : Int) < (N : Int) := by omega
    have hj : j < l.length := by rw [HN.out]; omega
    have HQ0 : Hid (∀ W', Below w.heap.size w W' → ∃ ba off, A = some ⟨ba, off, none⟩ ∧ W'.cell? ⟨ba, off + j * 3, none⟩ = some (.string l[j].file) ∧ W'.cell? ⟨ba, off + j * 3 + 1, none⟩ = some (.int .i64 l[j].line) ∧ W'.cell? ⟨ba, off + j * 3 + 2, none⟩ = some (.slice l[j].tms.A l[j].tms.l.length l[j].tms.c)) := Lib.hid fun W' hb => H.out.three encRl_len hb hj _ _ _ rfl
    have hdj := HD.out j hj
    have hmem : l[j] ∈ l := List.getElem_mem _
    have hin := HI.out l[j] hmem
    have hzj := HZ.out l[j] hmem
    obtain ⟨x, hx⟩ : ∃ x, l[j] = x := ⟨_, rfl⟩
    rw [hx] at HQ0 hdj hmem hin hzj
    rw [← hLr.out, ← hLf.out] at hdj
    have HMem := Lib.hid hmem
    clear hx hj hmem hLr hLf
    obtain ⟨xf, xl, xA, xc, xt⟩ := x
    obtain ⟨ba, off, rfl, _⟩ := HQ0.out w (Below.refl _ _)
    dsimp only at HQ0 hin hzj hdj
    have HQ1 : Hid (∀ W', Below w.heap.size w W' → W'.cell? ⟨ba, off + j * 3, none⟩ = some (.string xf) ∧ W'.cell? ⟨ba, off + j * 3 + 1, none⟩ = some (.int .i64 xl) ∧ W'.cell? ⟨ba, off + j * 3 + 2, none⟩ = some (.slice xA xt.length xc)) := Lib.hid fun W' hb => by
     obtain ⟨ba', off', e, h⟩ := HQ0.out W' hb
     obtain ⟨rfl, rfl⟩ : ba = ba' ∧ off = off' := by injection e with e; injection e with e1 e2; exact ⟨e1, e2⟩
     exact h
    have HVal := Lib.hid (RValue_any xA xc xt 24 wo (by omega) ((hin.keep hB.out).up hB.out.size))
    have HKp : Hid (keepB (rl.map Rl.p) (Rl.p ⟨xf, xl, ⟨xA, xc, xt⟩⟩) = (match valT xt 24 with | some tg => labB (rl.map Rl.p) tg | none => true)) := Lib.hid rfl
    have HDj := Lib.hid hdj
    obtain ⟨c0, c1, c2⟩ := HQ1.out wo hB.out
    obtain ⟨o, ho⟩ : ∃ o, valT xt 24 = o := ⟨_, rfl⟩
    rw [ho] at HVal HKp
    clear HQ0 hdj hin ho
    unfold valOV at HVal
    obtain ⟨tg, htg⟩ : ∃ tg : ByteArray, o.getD ⟨#[]⟩ = tg := ⟨_, rfl⟩
    obtain ⟨ob, hob⟩ : ∃ ob : Bool, o.isSome = ob := ⟨_, rfl⟩
    rw [htg, hob] at HVal
    have HKq : Hid (keepB (rl.map Rl.p) (Rl.p ⟨xf, xl, ⟨xA, xc, xt⟩⟩) = (!ob || labB (rl.map Rl.p) tg)) := Lib.hid (by rw [HKp.out, ← htg, ← hob]; cases o <;> rfl)
    clear HKp htg hob
    go_upto_block 2 with (go_at_call 14; refine HVal.out.mono ?_; rintro e wv ⟨rfl, hv⟩; obtain rfl : wo = wv := hv)
    go_cut [9] from 31 to 54 (fun s9 wx => s9 = .bool (!ob || labB (rl.map Rl.p) tg) ∧ wo = wx)
    case first =>
     go_wp2_with fail
     go_loopg [9, 10] (rl.length + 1) (fun gk s9 s10 wx => ∃ m : Nat, s9 = .bool (!ob || labB ((rl.take m).map Rl.p) tg) ∧ s10 = .int .i64 m ∧ m + gk = rl.length + 1 ∧ m ≤ rl.length ∧ wo = wx)
     case atStart => exact ⟨0, by simp [labB], rfl, by omega, Nat.zero_le _, rfl⟩
     case round =>
      obtain ⟨m, rfl, rfl, hmg, hmM, rfl⟩ := hrel
      by_cases hlt : m < rl.length
      · have hltI : (m : Int) < (rl.length : Int) := by omega
        have hm := hlt
        obtain ⟨ra, ro, rfl, d0, d1, d2⟩ := (RowAt.of_own hOr.out).three encRl_len (Below.refl _ _) hm _ _ _ rfl
        have hmem := hIn.out rl[m] (List.getElem_mem _)
        have hin := HI.out rl[m] hmem
        have hzm := HZ.out rl[m] hmem
        have hts : labB ((rl.take (m + 1)).map Rl.p) tg = (labB ((rl.take m).map Rl.p) tg || sameV (valT rl[m].tms.l 23) tg) := by
         rw [List.take_succ_eq_append_getElem hm, List.map_append, labB, List.any_append]
         simp [labB, Rl.p]
        generalize rl[m] = y at *
        obtain ⟨yf, yl, yA, yc, yt⟩ := y
        dsimp only at d0 d1 d2 hin hzm hts
        have HVy := Lib.hid (RValue_any yA yc yt 23 wo (by omega) ((hin.keep hB.out).up hB.out.size))
        obtain ⟨o2, ho2⟩ : ∃ o2, valT yt 23 = o2 := ⟨_, rfl⟩
        rw [ho2] at HVy hts
        obtain ⟨fb, hfb⟩ : ∃ fb, (!ob || labB ((rl.take m).map Rl.p) tg) = fb := ⟨_, rfl⟩
        have HNw : Hid ((!ob || labB ((rl.take (m + 1)).map Rl.p) tg) = (fb || sameV o2 tg)) := Lib.hid (by rw [hts, ← hfb, Bool.or_assoc])
        rw [hfb]
        unfold valOV at HVy
        generalize yt.length = qy at *
        clear hts hfb ho2 hin hzm hmem hm
        cases fb
        · cases o2 with
          | none =>
            go_wp2_with (go_at_call 14; refine HVy.out.mono ?_; rintro e wv ⟨rfl, hv⟩; obtain rfl : wo = wv := hv)
            go_roundg (gk - 1)
            case measure => omega
            case rel => exact ⟨m + 1, by rw [HNw.out]; rfl, by go_num, by omega, by omega, rfl⟩
          | some vv =>
            go_wp2_with (go_at_call 14; refine HVy.out.mono ?_; rintro e wv ⟨rfl, hv⟩; obtain rfl : wo = wv := hv)
            go_roundg (gk - 1)
            case measure => omega
            case rel => exact ⟨m + 1, by rw [HNw.out]; rfl, by go_num, by omega, by omega, rfl⟩
        · go_wp2_with (go_at_call 14; refine HVy.out.mono ?_; rintro e wv ⟨rfl, hv⟩; obtain rfl : wo = wv := hv)
          go_roundg (gk - 1)
          case measure => omega
          case rel => exact ⟨m + 1, by rw [HNw.out]; rfl, by go_num, by omega, by omega, rfl⟩
      · obtain rfl : m = rl.length := by omega
        have HTa : Hid ((rl.take rl.length).map Rl.p = rl.map Rl.p) := Lib.hid (by rw [List.take_length])
        go_wp2
        go_meet
        exact ⟨by rw [HTa.out], rfl⟩
    case rest =>
    obtain ⟨rfl, rfl⟩ := hcut
    cases hkp : (!ob || labB (rl.map Rl.p) tg)
    · have hk2 := HKq.out
      rw [hkp] at hk2
      have hd := HDj.out
      rw [hk2, if_neg (by simp)] at hd
      have HLr : Hid (rl.map Rl.p = (linkF ((l.map Rl.p).drop j)).1) := Lib.hid (by rw [hd])
      have HLf : Hid ((⟨xf, xl, 107⟩ : Fl) :: fl = (linkF ((l.map Rl.p).drop j)).2) := Lib.hid (by rw [hd])
      have HInn := hIn
      have HQ : Hid (∀ W', Below wo.heap.size wo W' → W'.cell? ⟨ba, off + j * 3, none⟩ = some (.string xf) ∧ W'.cell? ⟨ba, off + j * 3 + 1, none⟩ = some (.int .i64 xl)) := Lib.hid fun W' hb => by
       obtain ⟨h0, h1, _⟩ := HQ1.out W' (bt hB.out hb)
       exact ⟨h0, h1⟩
      clear hk2 hd hkp c0 c1 c2
      go_wp2_with fail
      refine wp_region_held_drew (S := fun W' => W'.cell? ⟨ba, off + j * 3, none⟩ = some (.string xf) ∧ W'.cell? ⟨ba, off + j * 3 + 1, none⟩ = some (.int .i64 xl)) (by kernel_rfl) ?_ (fun hHeld => ?_)
      · exact HQ.out _ (by go_grown)
      refine wpAnyH_take (i := 0) (v := ?_) (by simp only [List.getElem?_toArray, List.getElem?_cons_zero]; rfl) (by kernel_rfl) (by kernel_rfl) (by kernel_rfl) (by exact fun _ _ _ h => h) (Or.inl ⟨by rfl, ?_⟩) (by assumption) ?_
      rotate_left
      · intro w hSw
        go_simp
        try with_reducible rfl
      try simp only [Act.put, List.setIfInBounds_toArray, List.set_cons_zero, List.set_cons_succ]
      refine wpAnyH_take (i := 1) (v := ?_) (by simp only [List.getElem?_toArray, List.getElem?_cons_succ, List.getElem?_cons_zero]; rfl) (by kernel_rfl) (by kernel_rfl) (by kernel_rfl) (by exact fun _ _ _ h => h) (Or.inl ⟨by rfl, ?_⟩) (by assumption) ?_
      rotate_left
      · intro w hSw
        go_simp
        try with_reducible rfl
      try simp only [Act.put, List.setIfInBounds_toArray, List.set_cons_zero, List.set_cons_succ]
      refine wpAnyH_take (i := 2) (v := ?_) (by simp only [List.getElem?_toArray, List.getElem?_cons_succ, List.getElem?_cons_zero]; rfl) (by kernel_rfl) (by kernel_rfl) (by kernel_rfl) (by exact fun _ _ _ h => h) (Or.inl ⟨by rfl, ?_⟩) (by assumption) ?_
      rotate_left
      · intro w hSw
        go_simp
        try with_reducible rfl
      try simp only [Act.put, List.setIfInBounds_toArray, List.set_cons_zero, List.set_cons_succ]
      refine wpAnyH_take (i := 3) (v := ?_) (by simp only [List.getElem?_toArray, List.getElem?_cons_succ, List.getElem?_cons_zero]; rfl) (by kernel_rfl) (by kernel_rfl) (by kernel_rfl) (by exact fun _ _ _ h => h) (Or.inl ⟨by rfl, ?_⟩) (by assumption) ?_
      rotate_left
      · intro w hSw
        go_simp
        try with_reducible rfl
      try simp only [Act.put, List.setIfInBounds_toArray, List.set_cons_zero, List.set_cons_succ]
      refine wpAnyH_take (i := 4) (v := ?_) (by simp only [List.getElem?_toArray, List.getElem?_cons_succ, List.getElem?_cons_zero]; rfl) (by kernel_rfl) (by kernel_rfl) (by kernel_rfl) (by exact fun _ _ _ h => h) (Or.inl ⟨by rfl, ?_⟩) (by assumption) ?_
      rotate_left
      · intro w hSw
        go_simp
        try with_reducible rfl
      try simp only [Act.put, List.setIfInBounds_toArray, List.set_cons_zero, List.set_cons_succ]
      refine wpAnyH_take (i := 5) (v := ?_) (by simp only [List.getElem?_toArray, List.getElem?_cons_succ, List.getElem?_cons_zero]; rfl) (by kernel_rfl) (by kernel_rfl) (by kernel_rfl) (by exact fun _ _ _ h => h) (Or.inl ⟨by rfl, ?_⟩) (by assumption) ?_
      rotate_left
      · intro w hSw
        go_simp
        try with_reducible rfl
      try simp only [Act.put, List.setIfInBounds_toArray, List.set_cons_zero, List.set_cons_succ]
      refine wpAnyH_take (i := 6) (v := ?_) (by simp only [List.getElem?_toArray, List.getElem?_cons_succ, List.getElem?_cons_zero]; rfl) (by kernel_rfl) (by kernel_rfl) (by kernel_rfl) (by exact fun _ _ _ h => h) (Or.inl ⟨by rfl, ?_⟩) (by assumption) ?_
      rotate_left
      · intro w hSw
        go_simp
        try with_reducible rfl
      try simp only [Act.put, List.setIfInBounds_toArray, List.set_cons_zero, List.set_cons_succ]
      refine wpAnyH_take (i := 7) (v := ?_) (by simp only [List.getElem?_toArray, List.getElem?_cons_succ, List.getElem?_cons_zero]; rfl) (by kernel_rfl) (by kernel_rfl) (by kernel_rfl) (by exact fun _ _ _ h => h) (Or.inl ⟨by rfl, ?_⟩) (by assumption) ?_
      rotate_left
      · intro w hSw
        go_simp
        try with_reducible rfl
      try simp only [Act.put, List.setIfInBounds_toArray, List.set_cons_zero, List.set_cons_succ]
      refine wpAnyH_take (i := 8) (v := ?_) (by simp only [List.getElem?_toArray, List.getElem?_cons_succ, List.getElem?_cons_zero]; rfl) (by kernel_rfl) (by kernel_rfl) (by kernel_rfl) (by exact fun _ _ _ h => h) (Or.inl ⟨by rfl, ?_⟩) (by assumption) ?_
      rotate_left
      · intro w hSw
        go_simp
        try with_reducible rfl
      try simp only [Act.put, List.setIfInBounds_toArray, List.set_cons_zero, List.set_cons_succ]
      refine wpAnyH_take (i := 9) (v := ?_) (by simp only [List.getElem?_toArray, List.getElem?_cons_succ, List.getElem?_cons_zero]; rfl) (by kernel_rfl) (by kernel_rfl) (by kernel_rfl) (by exact fun _ _ _ h => h) (Or.inl ⟨by rfl, ?_⟩) (by assumption) ?_
      rotate_left
      · intro w hSw
        go_simp
        try with_reducible rfl
      try simp only [Act.put, List.setIfInBounds_toArray, List.set_cons_zero, List.set_cons_succ]
      refine wpAnyH_take (i := 10) (v := ?_) (by simp only [List.getElem?_toArray, List.getElem?_cons_succ, List.getElem?_cons_zero]; rfl) (by kernel_rfl) (by kernel_rfl) (by kernel_rfl) (by exact fun _ _ _ h => h) (Or.inl ⟨by rfl, ?_⟩) (by assumption) ?_
      rotate_left
      · intro w hSw
        go_simp
        try with_reducible rfl
      try simp only [Act.put, List.setIfInBounds_toArray, List.set_cons_zero, List.set_cons_succ]
      refine wpAnyH_take (i := 12) (v := ?_) (by simp only [List.getElem?_toArray, List.getElem?_cons_succ, List.getElem?_cons_zero]; rfl) (by kernel_rfl) (by kernel_rfl) (by kernel_rfl) (by exact fun _ _ _ h => h) (Or.inl ⟨by rfl, ?_⟩) (by assumption) ?_
      rotate_left
      · intro w hSw
        go_simp
        try with_reducible rfl
      try simp only [Act.put, List.setIfInBounds_toArray, List.set_cons_zero, List.set_cons_succ]
      refine wpAnyH_ready (rs := [11]) (by kernel_rfl) (by simp) ?_
      refine AllReadyH.cons (by simp only [List.getElem?_toArray, List.getElem?_cons_succ, List.getElem?_cons_zero]; rfl) (fun K hK => ?_) AllReadyH.nil
      go_simp
      refine hK.out _ _ (by first | exact HQ9.out | exact HQ.out _ (by go_grown)) (fun hHeld => ?_)
      clear hK K
      try simp only [Act.put, List.setIfInBounds_toArray, List.set_cons_zero, List.set_cons_succ]
      refine wpAnyH_ready (rs := [13]) (by kernel_rfl) (by simp) ?_
      refine AllReadyH.cons (by simp only [List.getElem?_toArray, List.getElem?_cons_succ, List.getElem?_cons_zero]; rfl) (fun K hK => ?_) AllReadyH.nil
      refine step_append_row (by rfl) _ _ _ (by rfl) w.heap.size 55 j0 _ 3 32 Tryz.underlying28 Hj0.out Hy0.out Hy1.out Hy2.out rfl (by omega) (.slice (some ⟨wo.heap.size, 0, none⟩) 1 1) 1 (encFl (⟨xf, xl, 107⟩ : Fl)) (by rfl) (by first | exact World.ownsRow_lit wo _ 1 (by omega) (by unfold maxLen; omega) (by rfl) | exact own_below2 (World.ownsRow_lit wo _ 1 (by omega) (by unfold maxLen; omega) (by rfl)) (Below.refl _ _).drew | exact World.ownsRow_lit wo.drew _ 1 (by simpa using hwz) (by unfold maxLen; omega) (by rfl)) Af fl.length cf wo.heap.size (cellsOf encFl fl) (by rfl) ((RowAt.of_own hOf.out).keep (by go_grown)) (cells_oneF fl) (by unfold maxLen; omega) (by omega) (by simp; omega) ?_
      intro v9 w9 hown2 hgrow2 hat2 _
      obtain ⟨A9, c9, rfl⟩ := own_slice hown2
      have HO9 := Lib.hid (consF hown2)
      have HG9 : Hid (Below wo.heap.size wo w9) := Lib.hid (below_grownX (by go_grown) hgrow2 (fun g e => by simp [Value.ownBlock] at e; omega))
      have HQ9 := Lib.hid (HQ.out w9 HG9.out)
      clear hown2 hgrow2 hat2
      refine hK.out _ _ (by first | exact HQ9.out | exact HQ.out _ (by go_grown)) (fun hHeld => ?_)
      clear hK K
      try simp only [Act.put, List.setIfInBounds_toArray, List.set_cons_zero, List.set_cons_succ]
      refine wpAnyH_take (i := 14) (v := ?_) (by simp only [List.getElem?_toArray, List.getElem?_cons_succ, List.getElem?_cons_zero]; rfl) (by kernel_rfl) (by kernel_rfl) (by kernel_rfl) (by exact fun _ _ _ h => h) (Or.inl ⟨by rfl, ?_⟩) (by assumption) ?_
      rotate_left
      · intro w hSw
        go_simp
        try with_reducible rfl
      try simp only [Act.put, List.setIfInBounds_toArray, List.set_cons_zero, List.set_cons_succ]
      refine wpAnyH_done (by kernel_rfl) ?_ _
      go_wp2
      go_roundg (gko - 1)
      case measure => omega
      case rel => exact ⟨j, rl, (⟨xf, xl, 107⟩ : Fl) :: fl, _, _, _, _, rfl, by rw [List.length_cons, Nat.add_comm fl.length 1], rfl, by omega, by omega, by omega, by rw [List.length_cons]; omega, own_below2 hOr.out HG9.out, by rw [List.length_cons, Nat.add_comm fl.length 1]; exact HO9.out, bt hB.out HG9.out, HInn.out, HLr.out, HLf.out⟩
    · have hk2 := HKq.out
      rw [hkp] at hk2
      have hd := HDj.out
      rw [hk2, if_pos rfl] at hd
      have HLr : Hid (((⟨xf, xl, ⟨xA, xc, xt⟩⟩ : Rl) :: rl).map Rl.p = (linkF ((l.map Rl.p).drop j)).1) := Lib.hid (by rw [hd]; rfl)
      have HLf : Hid (fl = (linkF ((l.map Rl.p).drop j)).2) := Lib.hid (by rw [hd])
      have HInn : Hid (∀ x ∈ (⟨xf, xl, ⟨xA, xc, xt⟩⟩ : Rl) :: rl, x ∈ l) := Lib.hid fun y hy => by
       rcases List.mem_cons.1 hy with rfl | hy
       · exact HMem.out
       · exact hIn.out y hy
      clear hk2 hd hkp
      go_wp2_with (at_builtin; go_loud (refine wpList_append_row rfl _ _ _ (by rfl) w.heap.size 39 i0 _ 3 48 Tryz.underlying23 Hi0.out Hz0.out Hz1.out Hz2.out rfl (by omega) (.slice (some ⟨wo.heap.size, 0, none⟩) 1 1) 1 (encRl (⟨xf, xl, ⟨xA, xc, xt⟩⟩ : Rl)) (by rfl) (by exact World.ownsRow_lit wo _ 1 (by omega) (by unfold maxLen; omega) (by rfl)) Ar rl.length cr wo.heap.size (cellsOf encRl rl) (by rfl) ((RowAt.of_own hOr.out).keep (below_alloc _ _)) (cells_oneR rl) (by unfold maxLen; omega) (by omega) (by simp; omega) ?_; intro v9 w9 hown2 hgrow2 hat2 _; obtain ⟨A9, c9, rfl⟩ := own_slice hown2; have HO9 := Lib.hid (consR hown2); have HG9 : Hid (Below wo.heap.size wo w9) := Lib.hid (below_grownX (below_alloc wo _) hgrow2 (fun g e => by simp [Value.ownBlock] at e; omega)); clear hown2 hgrow2 hat2))
      go_roundg (gko - 1)
      case measure => omega
      case rel => exact ⟨j, (⟨xf, xl, ⟨xA, xc, xt⟩⟩ : Rl) :: rl, fl, _, _, _, _, by rw [List.length_cons, Nat.add_comm rl.length 1], rfl, rfl, by omega, by omega, by rw [List.length_cons]; omega, by omega, by rw [List.length_cons, Nat.add_comm rl.length 1]; exact HO9.out, own_below2 hOf.out HG9.out, bt hB.out HG9.out, HInn.out, HLr.out, HLf.out⟩
  · obtain rfl : k = 0 := by omega
    rw [List.drop_zero] at hLr hLf
    have HIr : Hid (InAt 4 encTm Rl.tms wo wo.heap.size rl) := Lib.hid ((InAt.sub (HI.out.keep hB.out) hIn.out).up hB.out.size)
    go_wp2
    go_ret2
    exact ⟨_, _, _, _, rl, fl, rfl, hLr.out, hLf.out, RowAt.of_own hOr.out, RowAt.of_own hOf.out, HIr.out, hB.out, cap_of hOr.out, fun a e => (hOr.out.lt a.block (by rw [e]; rfl)).1, fun y hy a e => ⟨y, hIn.out y hy, e⟩⟩
end Go.Proofs.YtibflgfhjfcifaaGreatDoor
