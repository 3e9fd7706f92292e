/-
  Contract of the program's value: the value of a term by its key.
  slices.ContainsFunc at terms, for the closures of compile. (Printed by gen_cont.py.)
-/
import Derived.Test.YtgdjknpdgajdgaaG10
import Derived.Test.YtgdjknpdgajdgaaPDev
namespace Go.Proofs.Ytgdjknpdgajdgaa
open Go.RowKit
/-- Where the first term with a key lies. -/
def idxT (l : List Tm) (key : Int) : Int := match l.findIdx? (fun t => t.key == key) with
  | some k => k
  | none => -1
theorem idx_hitT {l : List Tm} {key : Int} {k : Nat} (hno : ∀ j (h : j < l.length), j < k → l[j].key ≠ key) (hk : k < l.length) (h : l[k].key = key) : idxT l key = k := by
  unfold idxT
  have : l.findIdx? (fun t => t.key == key) = some k := by
    rw [List.findIdx?_eq_some_iff_getElem]
    exact ⟨hk, by simpa using h, fun j hj => by simpa using hno j (by omega) hj⟩
  rw [this]
theorem idx_missT {l : List Tm} {key : Int} (hno : ∀ j (h : j < l.length), l[j].key ≠ key) : idxT l key = -1 := by
  unfold idxT
  have : l.findIdx? (fun t => t.key == key) = none := by
    rw [List.findIdx?_eq_none_iff]
    intro t ht
    obtain ⟨j, hj, rfl⟩ := List.getElem_of_mem ht
    simpa using hno j hj
  rw [this]
theorem idxT_val (l : List Tm) (key : Int) : (idxT l key = -1 ∧ valT l key = none) ∨ ∃ k, ∃ h : k < l.length, idxT l key = (k : Nat) ∧ valT l key = some l[k].value := by
  by_cases h : ∃ k, ∃ h : k < l.length, l[k].key = key ∧ ∀ j (h : j < l.length), j < k → l[j].key ≠ key
  · obtain ⟨k, hk, he, hno⟩ := h
    exact Or.inr ⟨k, hk, idx_hitT hno hk he, find_hit hno hk he⟩
  · have hno : ∀ n j (h : j < l.length), j < n → l[j].key ≠ key := by
      intro n
      induction n with
      | zero => intro j _ h; omega
      | succ n ih =>
        intro j hj hn
        rcases Nat.lt_or_ge j n with h1 | h1
        · exact ih j hj h1
        · obtain rfl : j = n := by omega
          exact fun e => h ⟨j, hj, e, ih⟩
    have hno2 : ∀ j (h : j < l.length), l[j].key ≠ key := fun j hj => hno (j + 1) j hj (Nat.lt_succ_self j)
    exact Or.inl ⟨idx_missT hno2, find_miss hno2⟩
end Go.Proofs.Ytgdjknpdgajdgaa
namespace Go.Proofs.Ytgdjknpdgajdgaa
open Go.RowKit
/-- Where the first element lies at which something holds. -/
def idxP {α : Type} (q : α → Bool) (l : List α) : Int := match l.findIdx? q with
  | some k => k
  | none => -1
theorem idxP_hit {α : Type} {q : α → Bool} {l : List α} {k : Nat} (hno : ∀ j (h : j < l.length), j < k → q l[j] = false) (hk : k < l.length) (h : q l[k] = true) : idxP q l = k := by
  unfold idxP
  have : l.findIdx? q = some k := by
    rw [List.findIdx?_eq_some_iff_getElem]
    exact ⟨hk, h, fun j hj => by simpa using hno j (by omega) hj⟩
  rw [this]
theorem idxP_miss {α : Type} {q : α → Bool} {l : List α} (hno : ∀ j (h : j < l.length), q l[j] = false) : idxP q l = -1 := by
  unfold idxP
  have : l.findIdx? q = none := by
    rw [List.findIdx?_eq_none_iff]
    intro t ht
    obtain ⟨j, hj, rfl⟩ := List.getElem_of_mem ht
    exact hno j hj
  rw [this]
theorem idxP_any {α : Type} (q : α → Bool) (l : List α) : decide (0 ≤ idxP q l) = l.any q := by
  unfold idxP
  cases h : l.findIdx? q with
  | none =>
    rw [List.findIdx?_eq_none_iff] at h
    have : l.any q = false := by
      rw [List.any_eq_false]
      intro x hx
      simp [h x hx]
    rw [this]; rfl
  | some k =>
    rw [List.findIdx?_eq_some_iff_getElem] at h
    obtain ⟨hk, h1, _⟩ := h
    have : l.any q = true := List.any_eq_true.2 ⟨l[k], List.getElem_mem _, h1⟩
    rw [this]; simp
theorem idxP_rng {α : Type} (q : α → Bool) (l : List α) : -1 ≤ idxP q l ∧ idxP q l ≤ l.length := by
  unfold idxP
  cases h : l.findIdx? q with
  | none => dsimp only; omega
  | some k =>
    rw [List.findIdx?_eq_some_iff_getElem] at h
    obtain ⟨hk, _⟩ := h
    simp; omega
set_option maxRecDepth 100000 in
set_option maxHeartbeats 2000000 in
theorem IndexL_any (A : Option Addr) (c : Nat) (l : List Tm) (q : Tm → Bool) (w : World) (hn : l.length ≤ 1000000) (h : RowAt w w.heap.size A 4 l.length (cellsOf encTm l)) (hq : ∀ t ∈ l, ∀ W, Below w.heap.size w W → Calls Try.prog 21 #[tmV t] W fun e w' => e = .returned (.bool (q t)) ∧ Below W.heap.size W w') :
    Calls Try.prog 40 #[.slice A l.length c, .func (.func 21) #[] #[]] w fun e w' => e = .returned (.int .i64 (idxP q l)) ∧ Below w.heap.size w w' := by
  have H := Lib.hid h
  have HQ := Lib.hid hq
  clear h hq
  generalize hN : l.length = N at *
  have HN := Lib.hid hN
  clear hN
  go_enter Try.func40, Try.ntmps40
  go_wp2
  go_loopg [8] (N + 1) (fun gk s8 wr => ∃ k : Nat, s8 = .int .i64 k ∧ k + gk = N + 1 ∧ k ≤ N ∧ Hid (∀ j (h : j < l.length), j < k → q l[j] = false) ∧ Hid (Below w.heap.size w wr))
  case atStart => exact ⟨0, rfl, by omega, Nat.zero_le _, (fun j _ h => absurd h (Nat.not_lt_zero _)), Below.refl _ _⟩
  case round =>
    obtain ⟨k, rfl, hkg, hkN, hno, hB⟩ := hrel
    by_cases hlt : k < N
    · have hk' : k < l.length := by rw [HN.out]; exact hlt
      have hr := H.out
      rw [← HN.out] at hr
      obtain ⟨ba, off, rfl, c0, c1, c2, c3⟩ := hr.tm hB.out hk'
      have hltI : (k : Int) < (N : Int) := by omega
      have HC := Lib.hid (HQ.out l[k] (List.getElem_mem _) wr hB.out)
      have HHit := Lib.hid (fun (h : q l[k] = true) => idxP_hit hno.out hk' h)
      have HNx : Hid (q l[k] = false → ∀ j (h : j < l.length), j < k + 1 → q l[j] = false) := Lib.hid fun hne j h hj => by
        rcases Nat.lt_or_ge j k with h1 | h1
        · exact hno.out j h h1
        · obtain rfl : j = k := by omega
          exact hne
      generalize l[k] = t at *
      generalize q t = b at *
      obtain ⟨ky, nm, op, vl⟩ := t
      unfold tmV at HC
      dsimp only at c0 c1 c2 c3 HC
      clear hr
      cases b
      · have HA := Lib.hid (HNx.out rfl)
        go_wp2_with (go_at_call 21; refine HC.out.mono ?_; rintro e w2 ⟨rfl, hb2⟩)
        go_roundg (gk - 1)
        case measure => omega
        case rel => exact ⟨k + 1, by go_num, by omega, by omega, HA.out, bt hB.out hb2⟩
      · have HV := Lib.hid (HHit.out rfl)
        go_wp2_with (go_at_call 21; refine HC.out.mono ?_; rintro e w2 ⟨rfl, hb2⟩)
        go_ret
        rw [HV.out]
        exact ⟨rfl, bt hB.out hb2⟩
    · obtain rfl : k = N := by omega
      have HV := Lib.hid (idxP_miss (l := l) (q := q) fun j h => hno.out j h (by rw [← HN.out]; exact h))
      go_wp2
      go_ret
      rw [HV.out]
      exact ⟨rfl, hB.out⟩
set_option maxRecDepth 100000 in
set_option maxHeartbeats 2000000 in
theorem ContainsL_any (A : Option Addr) (c : Nat) (l : List Tm) (q : Tm → Bool) (w : World) (hn : l.length ≤ 1000000) (h : RowAt w w.heap.size A 4 l.length (cellsOf encTm l)) (hq : ∀ t ∈ l, ∀ W, Below w.heap.size w W → Calls Try.prog 21 #[tmV t] W fun e w' => e = .returned (.bool (q t)) ∧ Below W.heap.size W w') :
    Calls Try.prog 20 #[.slice A l.length c, .func (.func 21) #[] #[]] w fun e w' => e = .returned (.bool (l.any q)) ∧ Below w.heap.size w w' := by
  have HIx := Lib.hid (IndexL_any A c l q w hn h hq)
  have HAn := Lib.hid (idxP_any q l)
  generalize idxP q l = ix at *
  generalize l.length = N at *
  clear h hq
  go_enter Try.func20, Try.ntmps20
  go_wp2_with (go_at_call 40; refine HIx.out.mono ?_; rintro e w2 ⟨rfl, hb2⟩)
  go_ret
  exact ⟨ret_bool (by rw [← HAn.out]), hb2⟩
set_option maxRecDepth 100000 in
set_option maxHeartbeats 2000000 in
theorem IndexD_any (A : Option Addr) (c : Nat) (l : List Tm) (q : Tm → Bool) (g : Nat) (w : World) (hn : l.length ≤ 1000000) (h : RowAt w w.heap.size A 4 l.length (cellsOf encTm l)) (hq : ∀ t ∈ l, ∀ W, Below w.heap.size w W → Calls Try.prog 28 #[tmV t, .pointer (some ⟨g, 0, none⟩)] W fun e w' => e = .returned (.bool (q t)) ∧ Below W.heap.size W w') :
    Calls Try.prog 40 #[.slice A l.length c, .func (.func 28) #[] #[.pointer (some ⟨g, 0, none⟩)]] w fun e w' => e = .returned (.int .i64 (idxP q l)) ∧ Below w.heap.size w w' := by
  have H := Lib.hid h
  have HQ := Lib.hid hq
  clear h hq
  generalize hN : l.length = N at *
  have HN := Lib.hid hN
  clear hN
  go_enter Try.func40, Try.ntmps40
  go_wp2
  go_loopg [8] (N + 1) (fun gk s8 wr => ∃ k : Nat, s8 = .int .i64 k ∧ k + gk = N + 1 ∧ k ≤ N ∧ Hid (∀ j (h : j < l.length), j < k → q l[j] = false) ∧ Hid (Below w.heap.size w wr))
  case atStart => exact ⟨0, rfl, by omega, Nat.zero_le _, (fun j _ h => absurd h (Nat.not_lt_zero _)), Below.refl _ _⟩
  case round =>
    obtain ⟨k, rfl, hkg, hkN, hno, hB⟩ := hrel
    by_cases hlt : k < N
    · have hk' : k < l.length := by rw [HN.out]; exact hlt
      have hr := H.out
      rw [← HN.out] at hr
      obtain ⟨ba, off, rfl, c0, c1, c2, c3⟩ := hr.tm hB.out hk'
      have hltI : (k : Int) < (N : Int) := by omega
      have HC := Lib.hid (HQ.out l[k] (List.getElem_mem _) wr hB.out)
      have HHit := Lib.hid (fun (h : q l[k] = true) => idxP_hit hno.out hk' h)
      have HNx : Hid (q l[k] = false → ∀ j (h : j < l.length), j < k + 1 → q l[j] = false) := Lib.hid fun hne j h hj => by
        rcases Nat.lt_or_ge j k with h1 | h1
        · exact hno.out j h h1
        · obtain rfl : j = k := by omega
          exact hne
      generalize l[k] = t at *
      generalize q t = b at *
      obtain ⟨ky, nm, op, vl⟩ := t
      unfold tmV at HC
      dsimp only at c0 c1 c2 c3 HC
      clear hr
      cases b
      · have HA := Lib.hid (HNx.out rfl)
        go_wp2_with (go_at_call 28; refine HC.out.mono ?_; rintro e w2 ⟨rfl, hb2⟩)
        go_roundg (gk - 1)
        case measure => omega
        case rel => exact ⟨k + 1, by go_num, by omega, by omega, HA.out, bt hB.out hb2⟩
      · have HV := Lib.hid (HHit.out rfl)
        go_wp2_with (go_at_call 28; refine HC.out.mono ?_; rintro e w2 ⟨rfl, hb2⟩)
        go_ret
        rw [HV.out]
        exact ⟨rfl, bt hB.out hb2⟩
    · obtain rfl : k = N := by omega
      have HV := Lib.hid (idxP_miss (l := l) (q := q) fun j h => hno.out j h (by rw [← HN.out]; exact h))
      go_wp2
      go_ret
      rw [HV.out]
      exact ⟨rfl, hB.out⟩
set_option maxRecDepth 100000 in
set_option maxHeartbeats 2000000 in
theorem ContainsD_any (A : Option Addr) (c : Nat) (l : List Tm) (q : Tm → Bool) (g : Nat) (w : World) (hn : l.length ≤ 1000000) (h : RowAt w w.heap.size A 4 l.length (cellsOf encTm l)) (hq : ∀ t ∈ l, ∀ W, Below w.heap.size w W → Calls Try.prog 28 #[tmV t, .pointer (some ⟨g, 0, none⟩)] W fun e w' => e = .returned (.bool (q t)) ∧ Below W.heap.size W w') :
    Calls Try.prog 20 #[.slice A l.length c, .func (.func 28) #[] #[.pointer (some ⟨g, 0, none⟩)]] w fun e w' => e = .returned (.bool (l.any q)) ∧ Below w.heap.size w w' := by
  have HIx := Lib.hid (IndexD_any A c l q g w hn h hq)
  have HAn := Lib.hid (idxP_any q l)
  generalize idxP q l = ix at *
  generalize l.length = N at *
  clear h hq
  go_enter Try.func20, Try.ntmps20
  go_wp2_with (go_at_call 40; refine HIx.out.mono ?_; rintro e w2 ⟨rfl, hb2⟩)
  go_ret
  exact ⟨ret_bool (by rw [← HAn.out]), hb2⟩
set_option maxRecDepth 100000 in
theorem Lab_any (t : Tm) (w : World) : Calls Try.prog 21 #[tmV t] w fun e w' => e = .returned (.bool (t.key == 23)) ∧ Below w.heap.size w w' := by
  unfold tmV
  go_enter Try.func21, Try.ntmps21
  go_wp2
  go_ret
  exact ⟨rfl, below_alloc _ _⟩
/-- A device in a box. -/
def DvBox (w : World) (g : Nat) (d : Dv) : Prop := w.heap[g]? = some (.cells #[.int .i64 d.ix, .int .i64 d.pa, .string d.nam, .string d.og, .string d.sb, .string d.dr, .string d.al, .int .i64 d.kd, .int .i64 d.nb, .slice d.ats.A d.ats.l.length d.ats.c] 25 (0, 0))
theorem DvBox.lt {w : World} {g : Nat} {d : Dv} (h : DvBox w g d) : g < w.heap.size := blk_lt' h
theorem DvBox.keep {w W : World} {g : Nat} {d : Dv} (h : DvBox w g d) (hb : Below w.heap.size w W) : DvBox W g d := (hb.block g h.lt).trans h
theorem DvBox.cells {w : World} {g : Nat} {d : Dv} (h : DvBox w g d) : w.cell? ⟨g, 0, none⟩ = some (.int .i64 d.ix) ∧ w.cell? ⟨g, 1, none⟩ = some (.int .i64 d.pa) ∧ w.cell? ⟨g, 2, none⟩ = some (.string d.nam) ∧ w.cell? ⟨g, 3, none⟩ = some (.string d.og) ∧ w.cell? ⟨g, 4, none⟩ = some (.string d.sb) ∧ w.cell? ⟨g, 5, none⟩ = some (.string d.dr) ∧ w.cell? ⟨g, 6, none⟩ = some (.string d.al) ∧ w.cell? ⟨g, 7, none⟩ = some (.int .i64 d.kd) ∧ w.cell? ⟨g, 8, none⟩ = some (.int .i64 d.nb) ∧ w.cell? ⟨g, 9, none⟩ = some (.slice d.ats.A d.ats.l.length d.ats.c) :=
  ⟨cellOf h rfl, cellOf h rfl, cellOf h rfl, cellOf h rfl, cellOf h rfl, cellOf h rfl, cellOf h rfl, cellOf h rfl, cellOf h rfl, cellOf h rfl⟩
set_option maxRecDepth 100000 in
set_option maxHeartbeats 1000000 in
theorem NotDev_any (t : Tm) (d : Dv) (g : Nat) (w : World) (hp : t.value.size ≤ 4611686018427387904) (hd : DvOk d) (h : DvAt w w.heap.size d) (hg : DvBox w g d) :
    Calls Try.prog 28 #[tmV t, .pointer (some ⟨g, 0, none⟩)] w fun e w' => e = .returned (.bool (!devB t d)) ∧ Below w.heap.size w w' := by
  have HD : Hid (∀ W, Below w.heap.size w W → Calls Try.prog 29 #[tmV t, dvV d] W fun e w' => e = .returned (.bool (devB t d)) ∧ Below W.heap.size W w') := Lib.hid fun W hW => PDevice_any t d W hp hd ((h.keep hW).up hW.size)
  obtain ⟨c0, c1, c2, c3, c4, c5, c6, c7, c8, c9⟩ := hg.cells
  have hgl := hg.lt
  generalize devB t d = b at *
  unfold tmV dvV at *
  clear h hd hp hg
  go_enter Try.func28, Try.ntmps28
  go_wp2_with (go_at_call 29; refine (HD.out _ (below_alloc _ _)).mono ?_; rintro e w2 ⟨rfl, hb2⟩; have HB2 := Lib.hid (bt (below_alloc _ _) hb2); clear hb2)
  go_ret
  exact ⟨rfl, HB2.out⟩
end Go.Proofs.Ytgdjknpdgajdgaa
