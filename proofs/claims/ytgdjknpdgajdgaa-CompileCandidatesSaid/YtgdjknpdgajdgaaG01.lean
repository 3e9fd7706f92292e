/-
  Contracts of package coldplugmake: Fold, the tape's Next and One.
  Rows of values in memory: a slice whose cells are known; no program in sight.
  Lists whose elements bear lists: a placed list; lists of such elements, read and built; no program in sight.
  What a function that reads the tape and makes memory of its own knows as it goes: the tape, and that nothing else that was there has turned.
  Short terms: what the makers of terms hand back; rows known whole.
-/
import Derived.Test.YtgdjknpdgajdgaaG00
import Derived.Test.YtgdjknpdgajdgaaProg
import Derived.Laws.OwnMore
import Derived.Deep.WholeRow
import Derived.Deep.Cut
import Derived.Deep.CutRange
import Derived.Deep.CutBlock
namespace Go.Proofs.Ytgdjknpdgajdgaa
open Go.RowKit
def foldS (v n : Int) : Int := if n ≤ 1 then 0 else v % n
theorem foldS_rng (v n : Int) (h : 1 ≤ n) : 0 ≤ foldS v n ∧ foldS v n < n := by
  unfold foldS
  split
  · omega
  · exact ⟨Int.emod_nonneg _ (by omega), Int.emod_lt_of_pos _ (by omega)⟩
theorem tmod_nonneg_eq (v n : Int) (hn : 0 < n) (h : 0 ≤ v.tmod n) : v.tmod n = v % n := by
  rw [Int.tmod_eq_emod] at h ⊢
  split at h
  · simp_all
  · have h1 := Int.emod_nonneg v (show n ≠ 0 by omega)
    have h2 := Int.emod_lt_of_pos v hn
    exfalso; omega
theorem tmod_neg_eq (v n : Int) (hn : 0 < n) (h : v.tmod n < 0) : v.tmod n + n = v % n := by
  rw [Int.tmod_eq_emod] at h ⊢
  split at h
  · have h1 := Int.emod_nonneg v (show n ≠ 0 by omega)
    exfalso; omega
  · rename_i h3
    rw [if_neg h3]
    omega
set_option maxRecDepth 100000 in
set_option maxHeartbeats 400000 in
theorem Fold_any (v n : Int) (w : World) (_h1 : -9223372036854775808 ≤ v) (_h2 : v ≤ 9223372036854775807) (h3 : n ≤ 9223372036854775807) :
    Calls Try.prog 33 #[.int .i64 v, .int .i64 n] w fun e w' => e = .returned (.int .i64 (foldS v n)) ∧ w = w' := by
  go_enter Try.func33, Try.ntmps33
  go_wp2
  · go_ret
    exact ⟨ret_int (by simp [foldS]; omega), rfl⟩
  · go_ret
    have hn : 1 < n := by assumption
    have ht : v.tmod n < 0 := by assumption
    have e := tmod_neg_eq v n (by omega) ht
    have r := foldS_rng v n (by omega)
    rw [foldS, if_neg (by omega)] at r
    exact ⟨ret_int (by rw [e, foldS, if_neg (by omega)]; exact IntWalk.wrap64_in _ ⟨by omega, by omega⟩), rfl⟩
  · go_ret
    have hn : 1 < n := by assumption
    have ht : 0 ≤ v.tmod n := by assumption
    exact ⟨ret_int (by rw [tmod_nonneg_eq v n (by omega) ht, foldS, if_neg (by omega)]), rfl⟩
/-- The tape's block: a list of n numbers that lies elsewhere, and a place. -/
structure TapeIs (w : World) (b : Nat) (n : Nat) (p : Nat) : Prop where
  blk : ∃ A c t, w.heap[b]? = some (.cells #[.slice A n c, .int .i64 p] t (0, 0)) ∧ ∃ ba off, (0 < n → A = some ⟨ba, off, none⟩) ∧ ba ≠ b ∧ ∀ i, i < n → ∃ z : Int, w.cell? ⟨ba, off + i, none⟩ = some (.int .i64 z) ∧ -9223372036854775808 ≤ z ∧ z ≤ 9223372036854775807
  small : n ≤ 9223372036854775807
theorem TapeIs.lt {w : World} {b n p : Nat} (h : TapeIs w b n p) : b < w.heap.size := by
  obtain ⟨A, c, t, hb, _⟩ := h.blk
  rcases Nat.lt_or_ge b w.heap.size with hlt | hge
  · exact hlt
  · rw [Array.getElem?_eq_none hge] at hb; cases hb
theorem TapeIs.drewN {w : World} {b n p : Nat} (h : TapeIs w b n p) (k : Nat) : TapeIs (w.drewN k) b n p := ⟨h.blk, h.small⟩
/-- The tape goes on by one. -/
theorem TapeIs.next {w : World} {b n p : Nat} (h : TapeIs w b n p) : TapeIs (w.setCell ⟨b, 1, none⟩ (.int .i64 (p + 1))) b n (p + 1) := by
  obtain ⟨A, c, t, hb, ba, off, hA, hne, hz⟩ := h.blk
  refine ⟨⟨A, c, t, ?_, ba, off, hA, hne, fun i hi => ?_⟩, h.small⟩
  · rw [heap_setCell_same _ _ _ _ _ _ hb]; rfl
  · obtain ⟨z, hc, z1, z2⟩ := hz i hi
    exact ⟨z, by rw [World.cell?_of_block (heap_setCell_other _ _ _ _ hne)]; exact hc, z1, z2⟩
/-- It lies as it lay where only other, newer blocks have turned. -/
theorem TapeIs.keep {w w' : World} {b n p B : Nat} (h : TapeIs w b n p) (hb : Below B w w') (hB : w.heap.size ≤ B) : TapeIs w' b n p := by
  obtain ⟨A, c, t, hh, ba, off, hA, hne, hz⟩ := h.blk
  refine ⟨⟨A, c, t, by rw [hb.block b (Nat.lt_of_lt_of_le h.lt hB)]; exact hh, ba, off, hA, hne, fun i hi => ?_⟩, h.small⟩
  obtain ⟨z, hc, z1, z2⟩ := hz i hi
  exact ⟨z, by rw [hb.cell (p := ⟨ba, off + i, none⟩) (Nat.lt_of_lt_of_le (block_lt_of_cell hc) hB)]; exact hc, z1, z2⟩
/-- What a function that reads the tape leaves: the tape at a later place, all other old memory as it was. -/
structure TapeOn (w w' : World) (b n p d : Nat) : Prop where
  tape : ∃ q, p ≤ q ∧ q ≤ p + d ∧ TapeIs w' b n q
  os : w'.os = w.os
  tp : w'.tape = w.tape
  output : w'.output = w.output
  size : w.heap.size ≤ w'.heap.size
  block : ∀ k, k < w.heap.size → k ≠ b → w'.heap[k]? = w.heap[k]?
def SomeInt (m : Int) (P : World → Prop) (e : Ending) (w' : World) : Prop := ∃ r : Int, 0 ≤ r ∧ r < m ∧ e = .returned (.int .i64 r) ∧ P w'
set_option maxRecDepth 100000 in
set_option maxHeartbeats 400000 in
theorem Next_set (b n p : Nat) (m : Int) (w : World) (h : TapeIs w b n p) (h1 : 1 ≤ m) (h2 : m ≤ 1000000) (h3 : p ≤ 1000000) :
    Calls Try.prog 13 #[.pointer (some ⟨b, 0, none⟩), .int .i64 m] w (SomeInt m fun w' => ∃ k, (w.setCell ⟨b, 1, none⟩ (.int .i64 (p + 1))).drewN k = w') := by
  obtain ⟨⟨A, c, t, hb, ba, off, hA, hne, hz⟩, hs⟩ := h
  have c0 : w.cell? ⟨b, 0, none⟩ = some (.slice A n c) := by rw [cell_of_row _ _ 0 _ _ _ hb]; rfl
  have c1 : w.cell? ⟨b, 1, none⟩ = some (.int .i64 p) := by rw [cell_of_row _ _ 1 _ _ _ hb]; rfl
  have f1 : w.frozen? ⟨b, 1, none⟩ = false := frozen_of_row _ _ _ _ _ hb
  clear hb
  by_cases hlt : p < n
  · obtain rfl := hA (by omega)
    obtain ⟨z, hc, z1, z2⟩ := hz p hlt
    clear hz hA
    go_enter Try.func13, Try.ntmps13
    go_wp2
    go_quiet (fail)
    go_wp2
    go_quiet (fail)
    go_wp2_with (go_at_call 33; refine (Fold_any _ _ _ (by omega) (by omega) (by omega)).mono ?_; rintro e w' ⟨rfl, rfl⟩)
    go_ret
    exact ⟨_, (foldS_rng _ _ h1).1, (foldS_rng _ _ h1).2, rfl, _, rfl⟩
  · clear hz hA
    go_enter Try.func13, Try.ntmps13
    go_wp2
    go_quiet (fail)
    go_wp2_with (go_at_call 33; refine (Fold_any _ _ _ (by omega) (by omega) (by omega)).mono ?_; rintro e w' ⟨rfl, rfl⟩)
    go_ret
    exact ⟨_, (foldS_rng _ _ h1).1, (foldS_rng _ _ h1).2, rfl, _, rfl⟩
theorem Next_any (b n p : Nat) (m : Int) (w : World) (h : TapeIs w b n p) (h1 : 1 ≤ m) (h2 : m ≤ 1000000) (h3 : p ≤ 1000000) :
    Calls Try.prog 13 #[.pointer (some ⟨b, 0, none⟩), .int .i64 m] w (SomeInt m fun w' => TapeOn w w' b n p 1) :=
  (Next_set b n p m w h h1 h2 h3).mono fun e w' ⟨r, r0, r1, he, k, hw⟩ => ⟨r, r0, r1, he, by
    subst hw
    exact ⟨⟨p + 1, by omega, by omega, h.next.drewN k⟩, rfl, rfl, rfl, by simp [World.setCell], fun j hj hne => heap_setCell_other _ _ _ _ hne⟩⟩
/-- One of these texts. -/
def SomeStr (Q : ByteArray → Prop) (P : World → Prop) (e : Ending) (w' : World) : Prop := ∃ s : ByteArray, Q s ∧ e = .returned (.string s) ∧ P w'
set_option maxRecDepth 100000 in
set_option maxHeartbeats 400000 in
theorem One_any (b n p g off c : Nat) (ss : List ByteArray) (w : World) (h : TapeIs w b n p) (h3 : p ≤ 1000000) (hg : g ≠ b) (h0 : 0 < ss.length) (h1 : ss.length ≤ 1000)
    (hc : ∀ i s, ss[i]? = some s → w.cell? ⟨g, off + i, none⟩ = some (.string s)) :
    Calls Try.prog 14 #[.pointer (some ⟨b, 0, none⟩), .slice (some ⟨g, off, none⟩) ss.length c] w (SomeStr (· ∈ ss) fun w' => TapeOn w w' b n p 1) := by
  have HN := Next_any b n p (ss.length : Nat) w h (by omega) (by omega) h3
  have H := Lib.hid h
  have HC := Lib.hid hc
  clear h hc
  have hne : ((ss.length : Int) == 0) = false := by simp; intro e; rw [e] at h0; simp at h0
  have h2 : (ss.length : Int) ≤ 1000 := by omega
  go_enter Try.func14, Try.ntmps14
  go_wp2_with fail
  refine HN.mono ?_
  rintro e w' ⟨r, r0, r1, rfl, hT⟩
  obtain ⟨j, rfl⟩ := Int.eq_ofNat_of_zero_le r0
  have hj : j < ss.length := by omega
  have hcell : w'.cell? ⟨g, off + j, none⟩ = some (.string ss[j]) := by
    have h4 := HC.out j ss[j] (List.getElem?_eq_getElem hj)
    have h5 := block_lt_of_cell h4
    rw [World.cell?_of_block (w := w) (hT.block g h5 hg)]
    exact h4
  have HT := Lib.hid hT
  clear hT
  generalize hs : ss[j] = s at hcell
  have HS := Lib.hid hs
  clear hs
  go_wp2
  go_ret
  exact ⟨s, by rw [← HS.out]; exact List.getElem_mem _, rfl, HT.out⟩
end Go.Proofs.Ytgdjknpdgajdgaa
namespace Go.Proofs.Ytgdjknpdgajdgaa
open Go.RowKit
/-- A slice of n elements of k cells each lies at A: it reads as xs, and lies below block B. -/
structure RowAt (w : World) (B : Nat) (A : Option Addr) (k n : Nat) (xs : List Value) : Prop where
  len : xs.length = n * k
  at_ : 0 < n → ∃ ba off, A = some ⟨ba, off, none⟩ ∧ ba < B ∧ ∀ j u, xs[j]? = some u → w.cell? ⟨ba, off + j, none⟩ = some u
theorem RowAt.keep {w w' : World} {B k n : Nat} {A : Option Addr} {xs : List Value} (h : RowAt w B A k n xs) (hb : Below B w w') : RowAt w' B A k n xs :=
  ⟨h.len, fun hn => by
    obtain ⟨ba, off, e, hB, hc⟩ := h.at_ hn
    exact ⟨ba, off, e, hB, fun j u hu => by rw [hb.cell (p := ⟨ba, off + j, none⟩) hB]; exact hc j u hu⟩⟩
theorem RowAt.of_own {w : World} {base k n : Nat} {e : TypeId} {A : Option Addr} {c : Nat} {xs : List Value} (h : w.ownsRow base e k (.slice A n c) n xs) : RowAt w w.heap.size A k n xs := by
  refine ⟨h.1, fun hn => ?_⟩
  obtain ⟨g, cap, hv, _, hlt⟩ := h.form hn
  have hA : A = some ⟨g, 0, none⟩ := by injection hv
  subst hA
  refine ⟨g, 0, rfl, hlt, fun j u hu => ?_⟩
  have := h.cells (g := g) rfl j u hu
  have hadd : (⟨g, 0, none⟩ : Addr).add j = ⟨g, j, none⟩ := by unfold Addr.add; split <;> simp_all
  rw [hadd] at this
  rw [Nat.zero_add]
  exact this
/-- Lists of elements as their cells, one behind the other. -/
def cellsOf {α : Type} (enc : α → List Value) (l : List α) : List Value := l.flatMap enc
theorem cellsOf_len {α : Type} (enc : α → List Value) (k : Nat) (hk : ∀ x, (enc x).length = k) (l : List α) : (cellsOf enc l).length = l.length * k := by
  induction l with
  | nil => simp [cellsOf]
  | cons x l ih => simp only [cellsOf, List.flatMap_cons, List.length_append, List.length_cons, hk] at ih ⊢; rw [ih, Nat.add_mul]; omega
theorem cellsOf_get {α : Type} (enc : α → List Value) (k : Nat) (hk : ∀ x, (enc x).length = k) (l : List α) (i f : Nat) (x : α) (hx : l[i]? = some x) (hf : f < k) : (cellsOf enc l)[i * k + f]? = (enc x)[f]? := by
  induction l generalizing i with
  | nil => simp at hx
  | cons y l ih =>
    cases i with
    | zero =>
      simp at hx
      subst hx
      simp only [cellsOf, List.flatMap_cons, Nat.zero_mul, Nat.zero_add]
      rw [List.getElem?_append_left (by rw [hk]; exact hf)]
    | succ i =>
      simp at hx
      simp only [cellsOf, List.flatMap_cons]
      rw [List.getElem?_append_right (by rw [hk, Nat.add_mul]; omega), hk, show (i + 1) * k + f - k = i * k + f from by rw [Nat.add_mul]; omega]
      exact ih i hx
theorem cellsOf_append {α : Type} (enc : α → List Value) (l m : List α) : cellsOf enc (l ++ m) = cellsOf enc l ++ cellsOf enc m := by simp [cellsOf]
/-- The cells of one element. -/
theorem RowAt.cell {α : Type} {enc : α → List Value} {k : Nat} (hk : ∀ x, (enc x).length = k) {w : World} {B : Nat} {A : Option Addr} {l : List α} (h : RowAt w B A k l.length (cellsOf enc l)) {i : Nat} (hi : i < l.length) :
    ∃ ba off, A = some ⟨ba, off, none⟩ ∧ ba < B ∧ ∀ j x, l[j]? = some x → ∀ f u, (enc x)[f]? = some u → w.cell? ⟨ba, off + (j * k + f), none⟩ = some u := by
  obtain ⟨ba, off, e, hB, hc⟩ := h.at_ (by omega)
  refine ⟨ba, off, e, hB, fun j x hx f u hu => hc _ _ ?_⟩
  have hf : f < k := by
    have := List.getElem?_eq_some_iff.1 hu
    obtain ⟨h1, _⟩ := this
    rw [hk] at h1; exact h1
  rw [cellsOf_get enc k hk l j f x hx hf]
  exact hu
/-- A named value. -/
structure At where
  name : ByteArray
  val : ByteArray
def encAt (x : At) : List Value := [.string x.name, .string x.val]
theorem encAt_len (x : At) : (encAt x).length = 2 := rfl
/-- The value of the first element with a name. -/
def getA (l : List At) (nm : Str) : Option ByteArray := (l.find? fun x => L x.name == nm).map (·.val)
end Go.Proofs.Ytgdjknpdgajdgaa
namespace Go.Proofs.Ytgdjknpdgajdgaa
open Go.RowKit
/-- A list that lies somewhere. -/
structure Ls (β : Type) where
  A : Option Addr
  c : Nat
  l : List β
def Ls.v {β : Type} (y : Ls β) : Value := .slice y.A y.l.length y.c
/-- It reads, below block B, and off one block. -/
structure RowOff (w : World) (B : Nat) (row : Option Nat) (A : Option Addr) (k n : Nat) (xs : List Value) : Prop where
  at_ : RowAt w B A k n xs
  off : 0 < n → ∀ a, A = some a → some a.block ≠ row
theorem RowAt.grown {w w' : World} {B k n : Nat} {A : Option Addr} {xs : List Value} {row : Option Nat} (h : RowAt w B A k n xs) (hB : B ≤ w.heap.size) (hg : w.grownBy w' row) (hne : 0 < n → ∀ a, A = some a → some a.block ≠ row) : RowAt w' B A k n xs :=
  ⟨h.len, fun hn => by
    obtain ⟨ba, off, e, hb, hc⟩ := h.at_ hn
    refine ⟨ba, off, e, hb, fun j u hu => ?_⟩
    rw [World.cell?_of_block (w := w) (hg.block ba (Nat.lt_of_lt_of_le hb hB) (hne hn _ e))]
    exact hc j u hu⟩
theorem RowAt.up {w : World} {B B' k n : Nat} {A : Option Addr} {xs : List Value} (h : RowAt w B A k n xs) (hB : B ≤ B') : RowAt w B' A k n xs :=
  ⟨h.len, fun hn => by
    obtain ⟨ba, off, e, hb, hc⟩ := h.at_ hn
    exact ⟨ba, off, e, Nat.lt_of_lt_of_le hb hB, hc⟩⟩
theorem RowOff.grown {w w' : World} {B k n : Nat} {A : Option Addr} {xs : List Value} {row : Option Nat} (h : RowOff w B row A k n xs) (hB : B ≤ w.heap.size) (hg : w.grownBy w' row) : RowOff w' B row A k n xs :=
  ⟨h.at_.grown hB hg h.off, h.off⟩
theorem RowOff.keep {w w' : World} {B k n : Nat} {A : Option Addr} {xs : List Value} {row : Option Nat} (h : RowOff w B row A k n xs) (hb : Below B w w') : RowOff w' B row A k n xs := ⟨h.at_.keep hb, h.off⟩
/-- Off another block that lies at or beyond B. -/
theorem RowAt.offOf {w : World} {B k n : Nat} {A : Option Addr} {xs : List Value} (h : RowAt w B A k n xs) {row : Option Nat} (hr : ∀ g, row = some g → B ≤ g) : RowOff w B row A k n xs :=
  ⟨h, fun hn a e hx => by
    obtain ⟨ba, off, e', hb, _⟩ := h.at_ hn
    rw [e] at e'
    obtain rfl := Option.some.inj e'
    have := hr _ hx.symm
    dsimp only at this
    omega⟩
/-- An own row reads. -/
theorem RowAt.own {w : World} {base k n : Nat} {e : TypeId} {v : Value} {xs : List Value} (h : w.ownsRow base e k v n xs) : ∃ A c, v = .slice A n c ∧ RowAt w w.heap.size A k n xs ∧ (∀ a, A = some a → v.ownBlock = some a.block) := by
  have hA : ∃ A c, v = .slice A n c := by
    rcases h.2 with ⟨h1, h2⟩ | ⟨g, cap, cur, h1, _⟩
    · exact ⟨_, _, by rw [h2]; exact h1⟩
    · exact ⟨_, _, h1⟩
  obtain ⟨A, c, rfl⟩ := hA
  exact ⟨A, c, rfl, RowAt.of_own h, fun a e => by rw [e]; rfl⟩
section
variable {α β : Type} (k : Nat) (enc : β → List Value) (inn : α → Ls β)
/-- The inner lists of elements, read. -/
def InAt (w : World) (B : Nat) (ls : List α) : Prop := ∀ y ∈ ls, RowAt w B (inn y).A k (inn y).l.length (cellsOf enc (inn y).l)
def InOff (w : World) (B : Nat) (row : Option Nat) (ls : List α) : Prop := ∀ y ∈ ls, RowOff w B row (inn y).A k (inn y).l.length (cellsOf enc (inn y).l)
variable {k enc inn}
theorem InAt.keep {w w' : World} {B : Nat} {ls : List α} (h : InAt k enc inn w B ls) (hb : Below B w w') : InAt k enc inn w' B ls := fun y hy => (h y hy).keep hb
theorem InAt.up {w : World} {B B' : Nat} {ls : List α} (h : InAt k enc inn w B ls) (hB : B ≤ B') : InAt k enc inn w B' ls := fun y hy => (h y hy).up hB
theorem InOff.at_ {w : World} {B : Nat} {row : Option Nat} {ls : List α} (h : InOff k enc inn w B row ls) : InAt k enc inn w B ls := fun y hy => (h y hy).at_
theorem InOff.keep {w w' : World} {B : Nat} {row : Option Nat} {ls : List α} (h : InOff k enc inn w B row ls) (hb : Below B w w') : InOff k enc inn w' B row ls := fun y hy => (h y hy).keep hb
theorem InOff.grown {w w' : World} {B : Nat} {row : Option Nat} {ls : List α} (h : InOff k enc inn w B row ls) (hB : B ≤ w.heap.size) (hg : w.grownBy w' row) : InOff k enc inn w' B row ls := fun y hy => (h y hy).grown hB hg
theorem InAt.offOf {w : World} {B : Nat} {ls : List α} (h : InAt k enc inn w B ls) {row : Option Nat} (hr : ∀ g, row = some g → B ≤ g) : InOff k enc inn w B row ls := fun y hy => (h y hy).offOf hr
theorem InOff.up {w : World} {B B' : Nat} {row : Option Nat} {ls : List α} (h : InOff k enc inn w B row ls) (hB : B ≤ B') : InOff k enc inn w B' row ls := fun y hy => ⟨(h y hy).at_.up hB, (h y hy).off⟩
theorem InAt.nil {w : World} {B : Nat} : InAt k enc inn w B [] := fun _ h => by cases h
theorem InOff.nil {w : World} {B : Nat} {row : Option Nat} : InOff k enc inn w B row [] := fun _ h => by cases h
theorem InOff.snoc {w : World} {B : Nat} {row : Option Nat} {ls : List α} {x : α} (h : InOff k enc inn w B row ls) (hx : RowOff w B row (inn x).A k (inn x).l.length (cellsOf enc (inn x).l)) : InOff k enc inn w B row (ls ++ [x]) := fun y hy => by
  rcases List.mem_append.1 hy with hy | hy
  · exact h y hy
  · obtain rfl := List.mem_singleton.1 hy; exact hx
theorem InAt.sub {w : World} {B : Nat} {ls ms : List α} (h : InAt k enc inn w B ls) (hs : ∀ y ∈ ms, y ∈ ls) : InAt k enc inn w B ms := fun y hy => h y (hs y hy)
theorem InOff.sub {w : World} {B : Nat} {row : Option Nat} {ls ms : List α} (h : InOff k enc inn w B row ls) (hs : ∀ y ∈ ms, y ∈ ls) : InOff k enc inn w B row ms := fun y hy => h y (hs y hy)
/-- Where the outer row has moved into a new block, or stayed. -/
theorem InOff.moved {w w' : World} {B : Nat} {row row' : Option Nat} {ls : List α} (h : InOff k enc inn w B row ls) (hB : B ≤ w.heap.size) (hg : w.grownBy w' row) (hr : row' = row ∨ ∀ g, row' = some g → B ≤ g) : InOff k enc inn w' B row' ls := by
  rcases hr with rfl | hr
  · exact h.grown hB hg
  · exact (InOff.at_ (h.grown hB hg)).offOf hr
end
end Go.Proofs.Ytgdjknpdgajdgaa
namespace Go.Proofs.Ytgdjknpdgajdgaa
open Go.RowKit
/-- The tape, its numbers below a block. -/
structure TapeB (W : World) (b n q base : Nat) : Prop where
  blk : ∃ A c t, W.heap[b]? = some (.cells #[.slice A n c, .int .i64 q] t (0, 0)) ∧ ∃ ba off, (0 < n → A = some ⟨ba, off, none⟩) ∧ ba ≠ b ∧ (0 < n → ba < base) ∧ ∀ i, i < n → ∃ z : Int, W.cell? ⟨ba, off + i, none⟩ = some (.int .i64 z) ∧ -9223372036854775808 ≤ z ∧ z ≤ 9223372036854775807
  small : n ≤ 9223372036854775807
  lt : b < base
theorem TapeB.is {W : World} {b n q base : Nat} (h : TapeB W b n q base) : TapeIs W b n q := by
  obtain ⟨A, c, t, hh, ba, off, hA, hne, _, hz⟩ := h.blk
  exact ⟨⟨A, c, t, hh, ba, off, hA, hne, hz⟩, h.small⟩
theorem TapeB.of {W : World} {b n q : Nat} (h : TapeIs W b n q) : TapeB W b n q W.heap.size := by
  have hl := h.lt
  obtain ⟨⟨A, c, t, hh, ba, off, hA, hne, hz⟩, hs⟩ := h
  exact ⟨⟨A, c, t, hh, ba, off, hA, hne, fun h0 => by obtain ⟨z, hc, _⟩ := hz 0 h0; exact block_lt_of_cell hc, hz⟩, hs, hl⟩
/-- Where all blocks below stand but the tape's own. -/
theorem TapeB.keep {W W' : World} {b n q q' base : Nat} (h : TapeB W b n q base) (hb : ∀ A c t, W.heap[b]? = some (.cells #[.slice A n c, .int .i64 q] t (0, 0)) → W'.heap[b]? = some (.cells #[.slice A n c, .int .i64 q'] t (0, 0))) (ho : ∀ k, k < base → k ≠ b → W'.heap[k]? = W.heap[k]?) : TapeB W' b n q' base := by
  obtain ⟨A, c, t, hh, ba, off, hA, hne, hlt, hz⟩ := h.blk
  refine ⟨⟨A, c, t, hb A c t hh, ba, off, hA, hne, hlt, fun i hi => ?_⟩, h.small, h.lt⟩
  obtain ⟨z, hc, z1, z2⟩ := hz i hi
  exact ⟨z, by rw [World.cell?_of_block (w := W) (ho ba (hlt (by omega)) hne)]; exact hc, z1, z2⟩
theorem blk_lt' {w : World} {g : Nat} {o : Obj} (h : w.heap[g]? = some o) : g < w.heap.size := (Array.getElem?_eq_some_iff.1 h).1
theorem grown_refl (w : World) (row : Option Nat) : w.grownBy w row := ⟨rfl, rfl, rfl, Nat.le_refl _, fun _ _ _ => rfl⟩
theorem grown_below {w w' : World} (h : Below w.heap.size w w') (row : Option Nat) : w.grownBy w' row := ⟨h.os, h.tape, h.output, h.size, fun k hk _ => h.block k hk⟩
theorem grown_tr {a b c : World} {row : Option Nat} (h : a.grownBy b row) (k : b.grownBy c row) : a.grownBy c row := h.trans k
/-- A step that turns another block, or none, of those that were there at first. -/
theorem grown_far {a b c : World} {row row' : Option Nat} (h : a.grownBy b row) (k : b.grownBy c row') (hr : ∀ j, row' = some j → a.heap.size ≤ j ∨ row = some j) : a.grownBy c row := h.andThen k hr
theorem grown_none {a b : World} (h : a.grownBy b none) : Below a.heap.size a b := ⟨h.os, h.tape, h.output, h.size, fun k hk => h.block k hk (by simp)⟩
theorem grown_set (w : World) (B i : Nat) (u : Value) : w.grownBy (w.setCell ⟨B, i, none⟩ u) (some B) := ⟨rfl, rfl, rfl, by simp [World.setCell], fun k _ hk => heap_setCell_other _ _ _ _ (fun e => hk (by rw [e]))⟩
theorem grown_setRow (w : World) (B : Nat) (c : Array Value) : w.grownBy (w.setRow B c) (some B) := ⟨rfl, rfl, rfl, by simp [World.setRow], fun k _ hk => setRow_other w B k c (fun e => hk (by rw [e]))⟩
theorem grown_drewN (w : World) (k : Nat) (row : Option Nat) : w.grownBy (w.drewN k) row := ⟨rfl, rfl, rfl, Nat.le_refl _, fun _ _ _ => rfl⟩
/-- The state: the tape as it lies now, and what has stayed since w0. -/
structure TSt (w0 : World) (b n p d : Nat) (W : World) : Prop where
  tape : ∃ q, p ≤ q ∧ q ≤ p + d ∧ TapeB W b n q w0.heap.size
  gr : w0.grownBy W (some b)
theorem TSt.lt {w0 W : World} {b n p d : Nat} (h : TSt w0 b n p d W) : b < w0.heap.size := by obtain ⟨q, _, _, hq⟩ := h.tape; exact hq.lt
theorem TSt.start {w : World} {b n p : Nat} (h : TapeIs w b n p) : TSt w b n p 0 w := ⟨⟨p, Nat.le_refl _, by omega, .of h⟩, grown_refl _ _⟩
theorem TSt.more {w0 W : World} {b n p d d' : Nat} (h : TSt w0 b n p d W) (hd : d ≤ d') : TSt w0 b n p d' W := by
  obtain ⟨⟨q, q1, q2, hq⟩, hg⟩ := h
  exact ⟨⟨q, q1, by omega, hq⟩, hg⟩
theorem TSt.size {w0 W : World} {b n p d : Nat} (h : TSt w0 b n p d W) : w0.heap.size ≤ W.heap.size := h.gr.size
/-- A step beside the tape. -/
theorem TSt.grown {w0 W W' : World} {b n p d : Nat} {row : Option Nat} (h : TSt w0 b n p d W) (hg : W.grownBy W' row) (hr : ∀ j, row = some j → w0.heap.size ≤ j) : TSt w0 b n p d W' := by
  have hs := h.size
  have hl := h.lt
  obtain ⟨⟨q, q1, q2, hq⟩, h2⟩ := h
  have hk : ∀ k, k < w0.heap.size → W'.heap[k]? = W.heap[k]? := fun k hk => hg.block k (by omega) (fun e => by have := hr k e.symm; omega)
  exact ⟨⟨q, q1, q2, hq.keep (fun A c t hh => by rw [hk b hl]; exact hh) (fun k hk' _ => hk k hk')⟩, grown_far h2 hg fun j e => Or.inl (hr j e)⟩
theorem TSt.below {w0 W W' : World} {b n p d : Nat} (h : TSt w0 b n p d W) (hb : Below W.heap.size W W') : TSt w0 b n p d W' := h.grown (grown_below hb none) (fun _ e => by cases e)
theorem TSt.alloc {w0 W : World} {b n p d : Nat} (h : TSt w0 b n p d W) (o : Obj) : TSt w0 b n p d (W.alloc o) := h.grown (World.grownBy_alloc W o none) (fun _ e => by cases e)
theorem TSt.drewN {w0 W : World} {b n p d : Nat} (h : TSt w0 b n p d W) (k : Nat) : TSt w0 b n p d (W.drewN k) := h.grown (grown_drewN W k none) (fun _ e => by cases e)
theorem TSt.took {w0 W : World} {b n p d q : Nat} (h : w0.grownBy W (some b)) (hq : TapeB W b n q w0.heap.size) (q1 : p ≤ q) (q2 : q ≤ p + d) (k : Nat) : TSt w0 b n p (d + 1) ((W.setCell ⟨b, 1, none⟩ (.int .i64 (q + 1))).drewN k) := by
  have hblk : ∀ j, j ≠ b → ((W.setCell ⟨b, 1, none⟩ (.int .i64 (q + 1))).drewN k).heap[j]? = W.heap[j]? := fun j hj => heap_setCell_other _ _ _ _ hj
  refine ⟨⟨q + 1, by omega, by omega, hq.keep (fun A c t hh => ?_) (fun j hj hne => hblk j hne)⟩, grown_tr h (grown_tr (grown_set W b 1 _) (grown_drewN _ _ _))⟩
  show (W.setCell _ _).heap[b]? = _
  rw [heap_setCell_same _ _ _ _ _ _ hh]; rfl
/-- What a step that reads the tape leaves behind. -/
structure TNx (w0 : World) (b n p d : Nat) (W W' : World) : Prop where
  st : TSt w0 b n p d W'
  gr : W.grownBy W' (some b)
/-- A number of the tape. -/
theorem Next_t {w0 W : World} {b n p d : Nat} (m : Int) (h : TSt w0 b n p d W) (h1 : 1 ≤ m) (h2 : m ≤ 1000000) (h3 : p + d ≤ 1000000) :
    Calls Try.prog 13 #[.pointer (some ⟨b, 0, none⟩), .int .i64 m] W (SomeInt m (TNx w0 b n p (d + 1) W)) := by
  obtain ⟨⟨q, q1, q2, hq⟩, hg⟩ := h
  refine (Next_set b n q m W hq.is h1 h2 (by omega)).mono fun e w' ⟨r, r0, r1, he, k, hw⟩ => ⟨r, r0, r1, he, ?_⟩
  subst hw
  exact ⟨TSt.took hg hq q1 q2 k, grown_tr (grown_set W b 1 _) (grown_drewN _ _ _)⟩
set_option maxRecDepth 100000 in
set_option maxHeartbeats 400000 in
/-- The next number is settled already: whatever memory is made meanwhile. -/
theorem Next_fix0 (b n p : Nat) (m : Int) (w : World) (h : TapeIs w b n p) (h1 : 1 ≤ m) (h2 : m ≤ 1000000) (h3 : p ≤ 1000000) :
    ∃ r : Int, 0 ≤ r ∧ r < m ∧ ∀ W, Below w.heap.size w W → Calls Try.prog 13 #[.pointer (some ⟨b, 0, none⟩), .int .i64 m] W fun e w' => e = .returned (.int .i64 r) ∧ ∃ k, (W.setCell ⟨b, 1, none⟩ (.int .i64 (p + 1))).drewN k = w' := by
  have hlt := h.lt
  obtain ⟨⟨A, c, t, hb, ba, off, hA, hne, hz⟩, hs⟩ := h
  have HC : Hid (∀ W, Below w.heap.size w W → W.cell? ⟨b, 0, none⟩ = some (.slice A n c) ∧ W.cell? ⟨b, 1, none⟩ = some (.int .i64 p) ∧ W.frozen? ⟨b, 1, none⟩ = false) := Lib.hid fun W hW => by
    have hb' := (hW.block b hlt).trans hb
    exact ⟨by rw [cell_of_row _ _ 0 _ _ _ hb']; rfl, by rw [cell_of_row _ _ 1 _ _ _ hb']; rfl, frozen_of_row _ _ _ _ _ hb'⟩
  clear hb
  by_cases hp : p < n
  · obtain rfl := hA (by omega)
    obtain ⟨z, hc, z1, z2⟩ := hz p hp
    have HZ : Hid (∀ W, Below w.heap.size w W → W.cell? ⟨ba, off + p, none⟩ = some (.int .i64 z)) := Lib.hid fun W hW => by
      rw [hW.cell (p := ⟨ba, off + p, none⟩) (block_lt_of_cell hc)]; exact hc
    clear hz hA hc
    refine ⟨foldS z m, (foldS_rng _ _ h1).1, (foldS_rng _ _ h1).2, fun W hW => ?_⟩
    obtain ⟨c0, c1, f1⟩ := HC.out W hW
    have c2 := HZ.out W hW
    have HW := Lib.hid hW
    clear hW
    go_enter Try.func13, Try.ntmps13
    go_wp2
    go_quiet (fail)
    go_wp2
    go_quiet (fail)
    go_wp2_with (go_at_call 33; refine (Fold_any _ _ _ (by omega) (by omega) (by omega)).mono ?_; rintro e w' ⟨rfl, rfl⟩)
    go_ret
    exact ⟨rfl, _, rfl⟩
  · clear hz hA
    refine ⟨foldS (((p : Int) * 7).tmod 11) m, (foldS_rng _ _ h1).1, (foldS_rng _ _ h1).2, fun W hW => ?_⟩
    obtain ⟨c0, c1, f1⟩ := HC.out W hW
    have HW := Lib.hid hW
    clear hW
    go_enter Try.func13, Try.ntmps13
    go_wp2
    go_quiet (fail)
    go_wp2_with (go_at_call 33; refine (Fold_any _ _ _ (by omega) (by omega) (by omega)).mono ?_; rintro e w' ⟨rfl, rfl⟩)
    go_ret
    refine ⟨?_, _, rfl⟩
    first | rfl | (congr 2; simp; done) | (rw [Int.tmod_eq_emod_of_nonneg (by omega)])
theorem Next_fix {w0 W : World} {b n p d : Nat} (m : Int) (h : TSt w0 b n p d W) (h1 : 1 ≤ m) (h2 : m ≤ 1000000) (h3 : p + d ≤ 1000000) :
    ∃ r : Int, 0 ≤ r ∧ r < m ∧ ∀ W1, Below W.heap.size W W1 → Calls Try.prog 13 #[.pointer (some ⟨b, 0, none⟩), .int .i64 m] W1 fun e w' => e = .returned (.int .i64 r) ∧ TNx w0 b n p (d + 1) W1 w' := by
  have h' := h
  obtain ⟨⟨q, q1, q2, hq⟩, hg⟩ := h
  obtain ⟨r, r0, r1, hr⟩ := Next_fix0 b n q m W hq.is h1 h2 (by omega)
  refine ⟨r, r0, r1, fun W1 hW => (hr W1 hW).mono fun e w' ⟨he, k, hw⟩ => ⟨he, ?_⟩⟩
  subst hw
  have hq1 : TapeB W1 b n q w0.heap.size := hq.keep (fun A c t hh => by rw [hW.block b (blk_lt' hh)]; exact hh) (fun k hk _ => hW.block k (Nat.lt_of_lt_of_le hk h'.size))
  exact ⟨TSt.took (h'.below hW).gr hq1 q1 q2 k, grown_tr (grown_set W1 b 1 _) (grown_drewN _ _ _)⟩
set_option maxRecDepth 100000 in
set_option maxHeartbeats 400000 in
/-- One of some texts, whose row lies elsewhere. -/
theorem One_t {w0 W : World} {b n p d : Nat} (g off c : Nat) (ss : List ByteArray) (h : TSt w0 b n p d W) (h3 : p + d ≤ 1000000) (hg : g ≠ b) (h0 : 0 < ss.length) (h1 : ss.length ≤ 1000)
    (hc : ∀ i s, ss[i]? = some s → W.cell? ⟨g, off + i, none⟩ = some (.string s)) :
    Calls Try.prog 14 #[.pointer (some ⟨b, 0, none⟩), .slice (some ⟨g, off, none⟩) ss.length c] W (SomeStr (· ∈ ss) (TNx w0 b n p (d + 1) W)) := by
  have HN := Next_t (ss.length : Nat) h (by omega) (by omega) h3
  have H := Lib.hid h
  have HC := Lib.hid hc
  clear h hc
  have hne : ((ss.length : Int) == 0) = false := by simp; intro e; rw [e] at h0; simp at h0
  have h2 : (ss.length : Int) ≤ 1000 := by omega
  go_enter Try.func14, Try.ntmps14
  go_wp2_with fail
  refine HN.mono ?_
  rintro e w' ⟨r, r0, r1, rfl, hT⟩
  obtain ⟨j, rfl⟩ := Int.eq_ofNat_of_zero_le r0
  have hj : j < ss.length := by omega
  have hcell : w'.cell? ⟨g, off + j, none⟩ = some (.string ss[j]) := by
    have h4 := HC.out j ss[j] (List.getElem?_eq_getElem hj)
    exact hT.gr.cell h4 (fun e => hg (Option.some.inj e))
  have HT := Lib.hid hT
  clear hT
  generalize hs : ss[j] = s at hcell
  have HS := Lib.hid hs
  clear hs
  go_wp2
  go_ret
  exact ⟨s, by rw [← HS.out]; exact List.getElem_mem _, rfl, HT.out⟩
/-- A row of short texts. -/
def strCells (m : Nat) (A : Array Value) : Bool := A.toList.all fun
  | .string s => decide (s.size ≤ m)
  | _ => false
theorem strCells_list {m : Nat} : ∀ {l : List Value}, (l.all fun | .string s => decide (s.size ≤ m) | _ => false) = true → ∃ ss : List ByteArray, l = ss.map Value.string ∧ ∀ s ∈ ss, s.size ≤ m
  | [], _ => ⟨[], rfl, fun _ h => by cases h⟩
  | v :: r, h => by
    rw [List.all_cons, Bool.and_eq_true] at h
    obtain ⟨ss, e, hs⟩ := strCells_list h.2
    cases v with
    | string s =>
      refine ⟨s :: ss, by rw [e]; rfl, fun x hx => ?_⟩
      rcases List.mem_cons.1 hx with rfl | hx
      · simpa using h.1
      · exact hs x hx
    | _ => simp at h
/-- One of some short texts, whose row has just been made. -/
theorem One_b {w0 W : World} {b n p d : Nat} (m : Nat) (A : Array Value) (T : TypeId) (g k c : Nat) (h : TSt w0 b n p d W) (hA : strCells m A = true) (hk : A.size = k) (hk0 : 0 < k) (hk1 : k ≤ 1000) (hg : g = W.heap.size) (h3 : p + d ≤ 1000000) :
    Calls Try.prog 14 #[.pointer (some ⟨b, 0, none⟩), .slice (some ⟨g, 0, none⟩) k c] (W.alloc (.cells A T)) (SomeStr (·.size ≤ m) (TNx w0 b n p (d + 1) W)) := by
  subst hg
  obtain ⟨ss, e, hs⟩ := strCells_list hA
  have hl : ss.length = k := by rw [← hk, ← Array.length_toList, e, List.length_map]
  subst hl
  have hs0 := h.size
  have hlt := h.lt
  refine (One_t W.heap.size 0 c ss (h.alloc (.cells A T)) h3 (by omega) hk0 hk1 (fun i s hi => ?_)).mono fun e w' ⟨s, h1, he, ht⟩ => ⟨s, hs s h1, he, ht.st, grown_tr (World.grownBy_alloc W _ _) ht.gr⟩
  rw [Nat.zero_add, cell_of_row _ _ i _ _ _ (heap_alloc_new W _), ← Array.getElem?_toList, e, List.getElem?_map, hi]; rfl
end Go.Proofs.Ytgdjknpdgajdgaa
namespace Go.Proofs.Ytgdjknpdgajdgaa
open Go.RowKit
structure Tm where
  key : Int
  name : ByteArray
  op : Int
  value : ByteArray
def encTm (t : Tm) : List Value := [.int .i64 t.key, .string t.name, .int .i64 t.op, .string t.value]
def tmV (t : Tm) : Value := .agg #[.int .i64 t.key, .string t.name, .int .i64 t.op, .string t.value]
theorem encTm_len (t : Tm) : (encTm t).length = 4 := rfl
/-- Short, and its numbers small. -/
structure TmSmall (m : Nat) (t : Tm) : Prop where
  name : t.name.size ≤ m
  value : t.value.size ≤ m
  k0 : -10 ≤ t.key
  k1 : t.key ≤ 100
  o0 : -10 ≤ t.op
  o1 : t.op ≤ 100
def SomeTm (m : Nat) (P : World → Prop) (e : Ending) (w' : World) : Prop := ∃ t : Tm, TmSmall m t ∧ e = .returned (tmV t) ∧ P w'
theorem term_size : (Try.prog.info? 43).map (·.size) = some 4 := by kernel_rfl
/-- The cell of the result, written and handed back. -/
theorem TNx.trans {w0 W W1 W2 : World} {b n p d d' : Nat} (h : TNx w0 b n p d W W1) (k : TNx w0 b n p d' W1 W2) : TNx w0 b n p d' W W2 := ⟨k.st, grown_tr h.gr k.gr⟩
theorem TNx.alloc {w0 W W1 : World} {b n p d : Nat} {o : Obj} (h : TNx w0 b n p d (W.alloc o) W1) : TNx w0 b n p d W W1 := ⟨h.st, grown_tr (World.grownBy_alloc _ _ _) h.gr⟩
theorem TNx.more {w0 W W1 : World} {b n p d d' : Nat} (h : TNx w0 b n p d W W1) (hd : d ≤ d') : TNx w0 b n p d' W W1 := ⟨h.st.more hd, h.gr⟩
theorem TNx.blk {w0 W W1 : World} {b n p d g : Nat} {o : Obj} (h : TNx w0 b n p d W W1) (hg : W.heap[g]? = some o) (hne : g ≠ b) : W1.heap[g]? = some o := (h.gr.block g (blk_lt' hg) (fun e => hne (Option.some.inj e))).trans hg
theorem TNx.setRow {w0 W W1 : World} {b n p d g : Nat} (h : TNx w0 b n p d W W1) (hg : W.heap.size ≤ g) (hw : w0.heap.size ≤ W.heap.size) (c : Array Value) : TNx w0 b n p d W (W1.setRow g c) :=
  ⟨h.st.grown (grown_setRow W1 g c) (fun j e => by cases e; omega), grown_far h.gr (grown_setRow W1 g c) (fun j e => by cases e; exact Or.inl hg)⟩
theorem TNx.of_below {w0 W W' W1 : World} {b n p d : Nat} (h : TNx w0 b n p d W' W1) (hb : Below W.heap.size W W') : TNx w0 b n p d W W1 := ⟨h.st, grown_tr (grown_below hb _) h.gr⟩
theorem TNx.grownR {w0 W W1 W2 : World} {b n p d : Nat} {row : Option Nat} (h : TNx w0 b n p d W W1) (hg : W1.grownBy W2 row) (hr : ∀ j, row = some j → w0.heap.size ≤ j ∧ W.heap.size ≤ j) : TNx w0 b n p d W W2 :=
  ⟨h.st.grown hg (fun j e => (hr j e).1), grown_far h.gr hg (fun j e => Or.inl (hr j e).2)⟩
theorem TNx.setCellR {w0 W W1 : World} {b n p d g i : Nat} {u : Value} (h : TNx w0 b n p d W W1) (hg : W.heap.size ≤ g) (hw : w0.heap.size ≤ W.heap.size) : TNx w0 b n p d W (W1.setCell ⟨g, i, none⟩ u) := h.grownR (grown_set W1 g i u) (fun j e => by cases e; exact ⟨by omega, hg⟩)
theorem TNx.allocR {w0 W W1 : World} {b n p d : Nat} {o : Obj} (h : TNx w0 b n p d W W1) : TNx w0 b n p d W (W1.alloc o) := h.grownR (World.grownBy_alloc W1 o none) (fun _ e => by cases e)
theorem TNx.drewR {w0 W W1 : World} {b n p d : Nat} (h : TNx w0 b n p d W W1) : TNx w0 b n p d W W1.drew := h.grownR (row := none) ⟨rfl, rfl, rfl, Nat.le_refl _, fun _ _ _ => rfl⟩ (fun _ e => by cases e)
/-- What lay elsewhere lies there still. -/
def Stay (b : Nat) (W W1 : World) : Prop := ∀ g o, W.heap[g]? = some o → g ≠ b → W1.heap[g]? = some o
theorem TNx.stay {w0 W W1 : World} {b n p d : Nat} (h : TNx w0 b n p d W W1) : Stay b W W1 := fun _ _ hg hne => h.blk hg hne
theorem TNx.cell {w0 W W1 : World} {b n p d : Nat} (h : TNx w0 b n p d W W1) : ∀ g i, g < W.heap.size → g ≠ b → W1.cell? ⟨g, i, none⟩ = W.cell? ⟨g, i, none⟩ := fun g i hg hne => h.gr.cell_far ⟨g, i, none⟩ hg (fun e => hne (Option.some.inj e))
/-- One of some short texts, whose row is known. -/
theorem One_k {w0 W : World} {b n p d : Nat} (m : Nat) (A : Array Value) (T : TypeId) (g k c : Nat) (h : TSt w0 b n p d W) (hrow : W.heap[g]? = some (.cells A T (0, 0))) (hA : strCells m A = true) (hk : A.size = k) (hk0 : 0 < k) (hk1 : k ≤ 1000) (hg : g ≠ b) (h3 : p + d ≤ 1000000) :
    Calls Try.prog 14 #[.pointer (some ⟨b, 0, none⟩), .slice (some ⟨g, 0, none⟩) k c] W (SomeStr (·.size ≤ m) (TNx w0 b n p (d + 1) W)) := by
  obtain ⟨ss, e, hs⟩ := strCells_list hA
  have hl : ss.length = k := by rw [← hk, ← Array.length_toList, e, List.length_map]
  subst hl
  refine (One_t g 0 c ss h h3 hg hk0 hk1 (fun i s hi => ?_)).mono fun e w' ⟨s, h1, he, ht⟩ => ⟨s, hs s h1, he, ht⟩
  rw [Nat.zero_add, cell_of_row _ _ i _ _ _ hrow, ← Array.getElem?_toList, e, List.getElem?_map, hi]; rfl
/-- The four cells of a block. -/
theorem res4 {W : World} {g : Nat} {T : TypeId} {x0 x1 x2 x3 : Value} (h : W.heap[g]? = some (.cells #[x0, x1, x2, x3] T (0, 0))) :
    (W.cell? ⟨g, 0, none⟩ = some x0 ∧ W.cell? ⟨g, 1, none⟩ = some x1 ∧ W.cell? ⟨g, 2, none⟩ = some x2 ∧ W.cell? ⟨g, 3, none⟩ = some x3) ∧ W.frozen? ⟨g, 0, none⟩ = false ∧ W.frozen? ⟨g, 1, none⟩ = false ∧ W.frozen? ⟨g, 2, none⟩ = false ∧ W.frozen? ⟨g, 3, none⟩ = false :=
  ⟨⟨by rw [cell_of_row _ _ 0 _ _ _ h]; rfl, by rw [cell_of_row _ _ 1 _ _ _ h]; rfl, by rw [cell_of_row _ _ 2 _ _ _ h]; rfl, by rw [cell_of_row _ _ 3 _ _ _ h]; rfl⟩, frozen_of_row _ _ _ _ _ h, frozen_of_row _ _ _ _ _ h, frozen_of_row _ _ _ _ _ h, frozen_of_row _ _ _ _ _ h⟩
theorem cellOf {W : World} {g j : Nat} {A : Array Value} {T : TypeId} {u : Value} (h : W.heap[g]? = some (.cells A T (0, 0))) (hA : A[j]? = some u) : W.cell? ⟨g, j, none⟩ = some u := by rw [cell_of_row _ _ j _ _ _ h]; exact hA
/-- A row of small numbers. -/
def intCells (lo hi : Int) (A : Array Value) : Bool := A.toList.all fun
  | .int .i64 v => decide (lo ≤ v) && decide (v ≤ hi)
  | _ => false
theorem intCells_at {lo hi : Int} {A : Array Value} {j : Nat} (hA : intCells lo hi A = true) (hj : j < A.size) : ∃ v, lo ≤ v ∧ v ≤ hi ∧ A[j]? = some (.int .i64 v) := by
  have h1 := List.all_eq_true.1 hA A[j] (by simp)
  rw [Array.getElem?_eq_getElem hj]
  generalize A[j] = u at h1
  cases u with
  | int k v =>
    cases k <;> first | (simp at h1; exact ⟨v, h1.1, h1.2, rfl⟩) | simp at h1
  | _ => simp at h1
theorem intCells_get {lo hi : Int} {A : Array Value} {W : World} {g j : Nat} {T : TypeId} (hrow : W.heap[g]? = some (.cells A T (0, 0))) (hA : intCells lo hi A = true) (hj : j < A.size) : ∃ v, lo ≤ v ∧ v ≤ hi ∧ W.cell? ⟨g, j, none⟩ = some (.int .i64 v) := by
  have h1 := List.all_eq_true.1 hA A[j] (by simp)
  rw [cell_of_row _ _ j _ _ _ hrow, Array.getElem?_eq_getElem hj]
  generalize A[j] = u at h1
  cases u with
  | int k v =>
    cases k <;> first | (simp at h1; exact ⟨v, h1.1, h1.2, rfl⟩) | simp at h1
  | _ => simp at h1
/-- A function's result of many cells, just written whole. -/
theorem post_cellrow {P : Program} {fn : Func} {R : Ending → World → Prop} {a : Act} {W : World} {g : Nat} {p : Tmp} {ty t : TypeId} {old cs : Array Value} {fr : Nat × Nat} {d : TypeDesc} (h : fn.results = #[.cell p ty]) (hp : a.tmps.getD p undef = .pointer (some ⟨g, 0, none⟩))
    (hg : W.heap[g]? = some (.cells old t fr)) (hu : P.underlying ty = some d) (hd : (match d with | .struct _ | .array _ _ => true | _ => false) = true) (hi : (P.info? ty).map (·.size) = some cs.size) (hdef : a.defers = [])
    (hR : R (.returned (.agg cs)) (W.setRow g cs)) : bodyPost P fn R .ret a (W.setRow g cs) :=
  bodyPost_ret (results_cell_row h _ _ g t cs fr d hp (setRow_heap _ _ _ _ _ _ hg) hu hd hi) hdef hR
end Go.Proofs.Ytgdjknpdgajdgaa
