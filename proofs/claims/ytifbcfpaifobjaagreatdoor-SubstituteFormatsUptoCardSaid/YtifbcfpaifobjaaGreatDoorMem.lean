/-
  Rows of values in memory: a slice whose cells are known; no program in sight.
-/
import Derived.Test.YtifbcfpaifobjaaGreatDoorBase
namespace Go.Proofs.YtifbcfpaifobjaaGreatDoor
open Go.RowKit
/-- A slice of n elements of k cells each lies at A: it reads as xs, and lies below block B. -/
structure RowAt (w : World) (B : Nat) (A : Option Addr) (k n : Nat) (xs : List Value) : Prop where
  len : xs.length = n * k
  at_ : 0 < n → ∃ ba off, A = some ⟨ba, off, none⟩ ∧ ba < B ∧ ∀ j u, xs[j]? = some u → w.cell? ⟨ba, off + j, none⟩ = some u
theorem RowAt.keep {w w' : World} {B k n : Nat} {A : Option Addr} {xs : List Value} (h : RowAt w B A k n xs) (hb : Below B w w') : RowAt w' B A k n xs :=
  ⟨h.len, fun hn => by
    obtain ⟨ba, off, e, hB, hc⟩ := h.at_ hn
    exact ⟨ba, off, e, hB, fun j u hu => by rw [hb.cell (p := ⟨ba, off + j, none⟩) hB]; exact hc j u hu⟩⟩
theorem RowAt.of_own {w : World} {base k n : Nat} {e : TypeId} {A : Option Addr} {c : Nat} {xs : List Value} (h : w.ownsRow base e k (.slice A n c) n xs) : RowAt w w.heap.size A k n xs := by
  refine ⟨h.1, fun hn => ?_⟩
  obtain ⟨g, cap, hv, _, hlt⟩ := h.form hn
  have hA : A = some ⟨g, 0, none⟩ := by injection hv
  subst hA
  refine ⟨g, 0, rfl, hlt, fun j u hu => ?_⟩
  have := h.cells (g := g) rfl j u hu
  have hadd : (⟨g, 0, none⟩ : Addr).add j = ⟨g, j, none⟩ := by unfold Addr.add; split <;> simp_all
  rw [hadd] at this
  rw [Nat.zero_add]
  exact this
/-- Lists of elements as their cells, one behind the other. -/
def cellsOf {α : Type} (enc : α → List Value) (l : List α) : List Value := l.flatMap enc
theorem cellsOf_len {α : Type} (enc : α → List Value) (k : Nat) (hk : ∀ x, (enc x).length = k) (l : List α) : (cellsOf enc l).length = l.length * k := by
  induction l with
  | nil => simp [cellsOf]
  | cons x l ih => simp only [cellsOf, List.flatMap_cons, List.length_append, List.length_cons, hk] at ih ⊢; rw [ih, Nat.add_mul]; omega
theorem cellsOf_get {α : Type} (enc : α → List Value) (k : Nat) (hk : ∀ x, (enc x).length = k) (l : List α) (i f : Nat) (x : α) (hx : l[i]? = some x) (hf : f < k) : (cellsOf enc l)[i * k + f]? = (enc x)[f]? := by
  induction l generalizing i with
  | nil => simp at hx
  | cons y l ih =>
    cases i with
    | zero =>
      simp at hx
      subst hx
      simp only [cellsOf, List.flatMap_cons, Nat.zero_mul, Nat.zero_add]
      rw [List.getElem?_append_left (by rw [hk]; exact hf)]
    | succ i =>
      simp at hx
      simp only [cellsOf, List.flatMap_cons]
      rw [List.getElem?_append_right (by rw [hk, Nat.add_mul]; omega), hk, show (i + 1) * k + f - k = i * k + f from by rw [Nat.add_mul]; omega]
      exact ih i hx
theorem cellsOf_append {α : Type} (enc : α → List Value) (l m : List α) : cellsOf enc (l ++ m) = cellsOf enc l ++ cellsOf enc m := by simp [cellsOf]
/-- The cells of one element. -/
theorem RowAt.cell {α : Type} {enc : α → List Value} {k : Nat} (hk : ∀ x, (enc x).length = k) {w : World} {B : Nat} {A : Option Addr} {l : List α} (h : RowAt w B A k l.length (cellsOf enc l)) {i : Nat} (hi : i < l.length) :
    ∃ ba off, A = some ⟨ba, off, none⟩ ∧ ba < B ∧ ∀ j x, l[j]? = some x → ∀ f u, (enc x)[f]? = some u → w.cell? ⟨ba, off + (j * k + f), none⟩ = some u := by
  obtain ⟨ba, off, e, hB, hc⟩ := h.at_ (by omega)
  refine ⟨ba, off, e, hB, fun j x hx f u hu => hc _ _ ?_⟩
  have hf : f < k := by
    have := List.getElem?_eq_some_iff.1 hu
    obtain ⟨h1, _⟩ := this
    rw [hk] at h1; exact h1
  rw [cellsOf_get enc k hk l j f x hx hf]
  exact hu
/-- A named value. -/
structure At where
  name : ByteArray
  val : ByteArray
def encAt (x : At) : List Value := [.string x.name, .string x.val]
theorem encAt_len (x : At) : (encAt x).length = 2 := rfl
/-- The value of the first element with a name. -/
def getA (l : List At) (nm : Str) : Option ByteArray := (l.find? fun x => L x.name == nm).map (·.val)
end Go.Proofs.YtifbcfpaifobjaaGreatDoor
