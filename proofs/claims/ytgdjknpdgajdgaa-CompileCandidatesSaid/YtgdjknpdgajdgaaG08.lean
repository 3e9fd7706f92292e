/-
  Contracts of the reference's find and put.
  Contracts of both sides' Get: the value of an attribute.
-/
import Derived.Test.YtgdjknpdgajdgaaG04
import Derived.Test.YtgdjknpdgajdgaaG01
import Derived.Test.YtgdjknpdgajdgaaG05
namespace Go.Proofs.Ytgdjknpdgajdgaa
open Go.RowKit
theorem findF_hit {l : List At} {n : Str} {k : Nat} {x : At} (hx : l[k]? = some x) (hno : ∀ (j : Nat) (y : At), j < k → l[j]? = some y → (L y.name == n) = false) (hyes : (L x.name == n) = true) : findF l n = some x := by
  induction l generalizing k with
  | nil => simp at hx
  | cons y l ih =>
    cases k with
    | zero =>
      simp at hx
      subst hx
      simp only [findF, nm, List.find?_cons, hyes]
    | succ k =>
      have h0 := hno 0 y (by omega) (by simp)
      have := ih (k := k) (by simpa using hx) (fun j z hj hz => hno (j + 1) z (by omega) (by simpa using hz))
      simp only [findF, nm, List.find?_cons, h0] at this ⊢
      exact this
theorem findF_miss {l : List At} {n : Str} (hno : ∀ (j : Nat) (y : At), l[j]? = some y → (L y.name == n) = false) : findF l n = none := by
  unfold findF
  rw [List.find?_eq_none]
  intro x hx
  obtain ⟨j, hj⟩ := List.getElem?_of_mem hx
  rw [show (nm x == n) = false from hno j x hj]; simp
/-- A file, or none, as find hands it back. -/
def foundV : Option At → Value
  | some x => .tuple #[.agg #[.string x.name, .string x.val], .bool true]
  | none => .tuple #[.agg #[.string ⟨#[]⟩, .string ⟨#[]⟩], .bool false]
def FindPost (o : Option At) (w : World) (e : Ending) (w' : World) : Prop := e = .returned (foundV o) ∧ Below w.heap.size w w'
theorem own_slice2 {W : World} {b : Nat} {e : TypeId} {sz : Nat} {v : Value} {n : Nat} {xs : List Value} (h : W.ownsRow b e sz v n xs) : ∃ A c, v = .slice A n c ∧ n ≤ c := by
  rcases h.2 with ⟨h1, h2⟩ | ⟨g', cap, cur, h1, _, _, hr, _⟩
  · exact ⟨_, _, by rw [h2]; exact h1, by omega⟩
  · exact ⟨_, _, h1, hr⟩
/-- A list of texts that a call hands back. -/
def TextsPost (l : List Str) (w : World) (e : Ending) (w' : World) : Prop := ∃ A c, e = .returned (.slice A l.length c) ∧ l.length ≤ c ∧ RowAt w' w'.heap.size A 1 l.length (l.map strV) ∧ Below w.heap.size w w'
theorem TextsPost.of_own {l : List Str} {w w' : World} {b : Nat} {e : TypeId} {v : Value} {n : Nat} {xs : List Value} (h : w'.ownsRow b e 1 v n xs) (hx : xs = l.map strV) (hn : n = l.length) (hb : Below w.heap.size w w') : TextsPost l w (.returned v) w' := by
  subst hn hx
  obtain ⟨A, c, rfl, hc⟩ := own_slice2 h
  exact ⟨A, c, rfl, hc, RowAt.of_own h, hb⟩
theorem strInfo : (Try.prog.info? 9).map (fun i => (i.zero, i.size, i.bytes)) = some (some (.string ⟨#[]⟩), 1, 16) := by kernel_rfl
theorem strV_one (l : List Str) : ∀ u ∈ l.map strV, u.oneCell' = true := fun u hu => by
  obtain ⟨x, _, rfl⟩ := List.mem_map.1 hu; rfl
theorem RowAt.of_block {W : World} {g : Nat} {T : TypeId} {v : Value} (h : W.heap[g]? = some (.cells #[v] T (0, 0))) : RowAt W (g + 1) (some ⟨g, 0, none⟩) 1 1 [v] :=
  ⟨rfl, fun _ => ⟨g, 0, rfl, by omega, fun j u hu => by
    cases j with
    | zero => simp at hu; subst hu; rw [Nat.zero_add, cell_of_row _ _ 0 _ _ _ h]; rfl
    | succ j => simp at hu⟩⟩
theorem RowAt.of_lit (W : World) (T : TypeId) (v : Value) : RowAt (W.alloc (.cells #[v] T)) (W.heap.size + 1) (some ⟨W.heap.size, 0, none⟩) 1 1 [v] := RowAt.of_block (heap_alloc_new W _)
/-- The rest of a row. -/
theorem RowAt.rest {w : World} {B n m c : Nat} {A : Option Addr} {xs : List Value} (h : RowAt w B A 1 n xs) (hm : m ≤ n) (hc : n ≤ c) : RowAt w B (if c = m then A else A.map (·.add (m * 1))) 1 (n - m) (xs.drop m) := by
  refine ⟨by rw [List.length_drop, h.len]; omega, fun hlt => ?_⟩
  obtain ⟨ba, off, rfl, hB, hx⟩ := h.at_ (by omega)
  rw [if_neg (by omega)]
  refine ⟨ba, off + m, by rw [Option.map_some, add_plain', Nat.mul_one], hB, fun j u hu => ?_⟩
  rw [List.getElem?_drop] at hu
  rw [Nat.add_assoc]
  exact hx _ _ hu
end Go.Proofs.Ytgdjknpdgajdgaa
namespace Go.Proofs.Ytgdjknpdgajdgaa
open Go.RowKit
/-- An attribute's value, or none, as Get hands it back. -/
def getV : Option At → Value
  | some x => .tuple #[.string x.val, .bool true]
  | none => .tuple #[.string ⟨#[]⟩, .bool false]
def GetPost (o : Option At) (w : World) (e : Ending) (w' : World) : Prop := e = .returned (getV o) ∧ Below w.heap.size w w'
set_option maxRecDepth 100000 in
set_option maxHeartbeats 1000000 in
theorem RGet_any (A : Option Addr) (c : Nat) (l : List At) (nm : ByteArray) (w : World) (h : RowAt w w.heap.size A 2 l.length (cellsOf encAt l)) (hl : l.length ≤ 4611686018427387904) :
    Calls Try.prog 57 #[.slice A l.length c, .string nm] w (GetPost (findF l (L nm)) w) := by
  have H := Lib.hid h
  clear h
  generalize hN : l.length = N at hl ⊢
  have HN := Lib.hid hN
  clear hN
  go_enter Try.func57, Try.ntmps57
  go_wp2
  go_loop [6] (fun i => ∃ k : Nat, k ≤ N ∧ i = .int .i64 k ∧ Hid (∀ (j : Nat) (y : At), j < k → l[j]? = some y → (L y.name == L nm) = false)) (fun i => N - (intOf i).toNat)
  case atStart => exact ⟨0, Nat.zero_le _, rfl, fun j y hj => absurd hj (by omega)⟩
  case round =>
    obtain ⟨k, hk, rfl, hp⟩ := hrel
    by_cases hlt : k < N
    · have hlt' : k < l.length := by rw [HN.out]; exact hlt
      obtain ⟨ba, off, rfl, hB, hc⟩ := H.out.cell encAt_len hlt'
      obtain ⟨x, hx⟩ : ∃ x, l[k]? = some x := ⟨_, List.getElem?_eq_getElem hlt'⟩
      have c0 : w.cell? ⟨ba, off + k * 2, none⟩ = some (.string x.name) := hc k x hx 0 _ rfl
      have c1 : w.cell? ⟨ba, off + k * 2 + 1, none⟩ = some (.string x.val) := hc k x hx 1 _ rfl
      have HX := Lib.hid hx
      clear hx hc hlt'
      cases hq : (x.name.toList == nm.toList)
      · go_wp2
        go_round
        case rel =>
          refine ⟨k + 1, by omega, by go_num, fun j y hj hy => ?_⟩
          rcases (by omega : j = k ∨ j < k) with e | e
          · subst e
            rw [HX.out] at hy
            injection hy with hy
            rw [← hy, ← tl, ← tl]
            exact hq
          · exact hp.out j y e hy
        case measure => simp [intOf]; omega
      · have e1 := findF_hit HX.out hp.out (by rw [← tl, ← tl]; exact hq)
        have E1 := Lib.hid e1
        clear e1
        go_wp2
        go_ret2
        exact ⟨by rw [E1.out]; rfl, Below.refl _ _⟩
    · have e1 := findF_miss (l := l) (n := L nm) (fun j y hy => hp.out j y (by have := (List.getElem?_eq_some_iff.1 hy).1; rw [HN.out] at this; omega) hy)
      have E1 := Lib.hid e1
      clear e1
      go_wp2
      go_ret2
      exact ⟨by rw [E1.out]; rfl, Below.refl _ _⟩
set_option maxRecDepth 100000 in
set_option maxHeartbeats 1000000 in
theorem PGet_any (A : Option Addr) (c : Nat) (l : List At) (nm : ByteArray) (w : World) (h : RowAt w w.heap.size A 2 l.length (cellsOf encAt l)) (hl : l.length ≤ 4611686018427387904) :
    Calls Try.prog 67 #[.slice A l.length c, .string nm] w (GetPost (findF l (L nm)) w) := by
  have H := Lib.hid h
  clear h
  generalize hN : l.length = N at hl ⊢
  have HN := Lib.hid hN
  clear hN
  go_enter Try.func67, Try.ntmps67
  go_wp2
  go_loopw [10] (fun i wr => ∃ k : Nat, k ≤ N ∧ i = .int .i64 k ∧ Hid (∀ (j : Nat) (y : At), j < k → l[j]? = some y → (L y.name == L nm) = false) ∧ Hid (Below w.heap.size w wr)) (fun i _ => N - (intOf i).toNat)
  case atStart => exact ⟨0, Nat.zero_le _, rfl, fun j y hj => absurd hj (by omega), Below.refl _ _⟩
  case round =>
    obtain ⟨k, hk, rfl, hp, hB⟩ := hrel
    by_cases hlt : k < N
    · have hlt' : k < l.length := by rw [HN.out]; exact hlt
      have hltI : (k : Int) < (N : Int) := by omega
      obtain ⟨ba, off, rfl, hBa, hc⟩ := H.out.cell encAt_len hlt'
      obtain ⟨x, hx⟩ : ∃ x, l[k]? = some x := ⟨_, List.getElem?_eq_getElem hlt'⟩
      have c0 : wr.cell? ⟨ba, off + k * 2, none⟩ = some (.string x.name) := (hB.out.cell (p := ⟨ba, off + k * 2, none⟩) hBa).trans (hc k x hx 0 _ rfl)
      have c1 : wr.cell? ⟨ba, off + k * 2 + 1, none⟩ = some (.string x.val) := (hB.out.cell (p := ⟨ba, off + k * 2 + 1, none⟩) hBa).trans (hc k x hx 1 _ rfl)
      have HX := Lib.hid hx
      have HB2 := Lib.hid (bt hB.out (below_alloc wr (.cells #[.string x.name, .string x.val] 87)))
      clear hx hc hlt'
      cases hq : (x.name.toList == nm.toList)
      · go_wp2
        go_roundw
        case rel =>
          refine ⟨k + 1, by omega, by go_num, fun j y hj hy => ?_, HB2.out⟩
          rcases (by omega : j = k ∨ j < k) with e | e
          · subst e
            rw [HX.out] at hy
            injection hy with hy
            rw [← hy, ← tl, ← tl]
            exact hq
          · exact hp.out j y e hy
        case measure => simp [intOf]; omega
      · have e1 := findF_hit HX.out hp.out (by rw [← tl, ← tl]; exact hq)
        have E1 := Lib.hid e1
        clear e1
        go_wp2
        go_ret2
        exact ⟨by rw [E1.out]; rfl, HB2.out⟩
    · have e1 := findF_miss (l := l) (n := L nm) (fun j y hy => hp.out j y (by have := (List.getElem?_eq_some_iff.1 hy).1; rw [HN.out] at this; omega) hy)
      have E1 := Lib.hid e1
      clear e1
      go_wp2
      go_ret2
      exact ⟨by rw [E1.out]; rfl, hB.out⟩
end Go.Proofs.Ytgdjknpdgajdgaa
