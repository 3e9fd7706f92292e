/-
  slices.Reverse at rules and at faults, slices.Clone at terms: the contracts of the shelf laid here. (The layings: printed by lay-plain.)
-/
import Derived.Test.YtgdjknpdgajdgaaG10
import Derived.Test.YtgdjknpdgajdgaaTerms
import Derived.Shelf.SlGeneric
import Derived.Shelf.SlicesQ.Reverse
import Derived.Shelf.SlicesE.Clone
import Derived.Ground.SlgnProg
import Derived.Test.YtgdjknpdgajdgaaG01
import Derived.Laws.OwnMore
namespace Go.Proofs.Ytgdjknpdgajdgaa
open Go.Shelf Go.RowKit Go.Lib Go.Sort
def laysClnT_ren : Go.Shelf.Ren := ⟨fun | 41 => 37 | n => n, fun | 22 => 44 | 23 => 43 | 4 => 4 | n => n, fun | n => n⟩
theorem laysClnT : Go.Proofs.SlLaysE0.n41 Try.prog laysClnT_ren := {
  mixed := by kernel_rfl
  f41 := ⟨Try.f37.name, by decide, Try.func37.trans (congrArg some (by kernel_rfl))⟩
  t4 := Try.underlying4
  a4 := Try.isAgg4
  z4 := Try.sizeOf4
  v4 := Try.zeroValue4
  t22 := Try.underlying44
  a22 := Try.isAgg44
  z22 := Try.sizeOf44
  v22 := Try.zeroValue44 }
section
variable {α : Type} [Inhabited α] {enc : α → List Value} {k : Nat}
theorem flat_getK (hk : ∀ x, (enc x).length = k) (h0 : 0 < k) (l : List α) (j : Nat) (hj : j < l.length * k) : (cellsOf enc l)[j]? = some ((flatK enc k l.toArray)[j]!) := by
  have hi : j / k < l.length := (Nat.div_lt_iff_lt_mul h0).2 hj
  have hm : j % k < k := Nat.mod_lt _ h0
  rw [get_flatK enc k l.toArray j (by simpa using hj)]
  have h1 := cellsOf_get enc k hk l (j / k) (j % k) l[j / k] (List.getElem?_eq_getElem hi) hm
  rw [Nat.mul_comm, Nat.div_add_mod] at h1
  rw [h1]
  have e : (l.toArray[j / k]!) = l[j / k] := by rw [getElem!_pos _ _ (by simpa using hi)]; simp
  rw [e, List.getElem?_eq_getElem (by rw [hk]; exact hm), getElem!_pos _ _ (by rw [hk]; exact hm)]
theorem holds_ownK (hk : ∀ x, (enc x).length = k) (h0 : 0 < k) {w : World} {base g cap : Nat} {e : TypeId} {l : List α} (h : w.ownsRow base e k (.slice (some ⟨g, 0, none⟩) l.length cap) l.length (cellsOf enc l)) : HoldsK enc k w g 0 l.toArray := by
  intro j hj
  have hj' : j < l.length * k := by simpa using hj
  refine ⟨?_, by rw [Nat.zero_add]; exact h.frozenAt j⟩
  rw [Nat.zero_add, h.cellAt j hj', flat_getK hk h0 l j hj']
  rfl
theorem row_holdsK (hk : ∀ x, (enc x).length = k) (h0 : 0 < k) {w : World} {g n : Nat} {d : Array α} (h : HoldsK enc k w g 0 d) (hg : g < w.heap.size) (hn : d.size = n) : RowAt w w.heap.size (some ⟨g, 0, none⟩) k n (cellsOf enc d.toList) := by
  refine ⟨by rw [cellsOf_len _ k hk]; simp [hn], fun _ => ⟨g, 0, rfl, hg, fun j u hu => ?_⟩⟩
  have hj : j < d.toList.length * k := by
    have := (List.getElem?_eq_some_iff.1 hu).1
    rwa [cellsOf_len _ k hk] at this
  have h1 := flat_getK hk h0 d.toList j hj
  rw [hu] at h1
  have h2 := (h j (by simpa using hj)).1
  rw [h2]
  exact h1.symm
theorem grown_put {w : World} {g n : Nat} (d : Array α) : w.grownBy (putRowK enc k (Sort.ahead w n) g 0 d) (some g) := by
  refine ⟨rfl, rfl, rfl, by simp [putRowK], fun j hj hne => ?_⟩
  have : g ≠ j := fun e => hne (by rw [e])
  simp [putRowK, putRow, mapBlock, Sort.ahead, Array.getElem?_modify, this]
end
def RevPost {α : Type} (enc : α → List Value) (l : List α) (A : Option Addr) (row : Option Nat) (w : World) (e : Ending) (w' : World) : Prop := e = .returned (.tuple #[]) ∧ RowAt w' w'.heap.size A 3 l.length (cellsOf enc l.reverse) ∧ w.grownBy w' row
theorem rev_post {α : Type} [Inhabited α] {enc : α → List Value} (hk : ∀ x, (enc x).length = 3) {f : Nat} {T : TypeId} {base : Nat} {A : Option Addr} {c : Nat} {l : List α} {w : World} (hown : w.ownsRow base T 3 (.slice A l.length c) l.length (cellsOf enc l)) (hl : l.length ≤ 1000000000)
    (he : ∀ a cap, Calls Try.prog f #[.slice a 0 cap] w fun e w' => e = .returned (.tuple #[]) ∧ w' = w)
    (hr : ∀ blk cap (d : Array α), HoldsK enc 3 w blk 0 d → d.size ≤ 9223372036854775807 → Calls Try.prog f #[.slice (some ⟨blk, 0, none⟩) d.size cap] w fun e w' => e = .returned (.tuple #[]) ∧ ∃ n, w' = putRowK enc 3 (Sort.ahead w n) blk 0 d.reverse) :
    Calls Try.prog f #[.slice A l.length c] w (RevPost enc l A (Value.slice A l.length c).ownBlock w) := by
  by_cases h2 : 0 < l.length
  · obtain ⟨g, cap, hv, hbg, hgl⟩ := hown.form (by omega)
    obtain ⟨rfl, hc⟩ : A = some ⟨g, 0, none⟩ ∧ c = cap := by injection hv; exact ⟨by assumption, by assumption⟩
    have hH := holds_ownK hk (by omega) hown
    have hS := hr g c l.toArray hH (by simp; omega)
    rw [show l.toArray.size = l.length from List.size_toArray ..] at hS
    refine hS.mono ?_
    rintro e w' ⟨rfl, n, rfl⟩
    have hH2 : HoldsK enc 3 (putRowK enc 3 (Sort.ahead w n) g 0 l.toArray.reverse) g 0 l.toArray.reverse := holdsK_putRowK _ _ _ _ _ _ _ (holdsK_ahead _ _ _ _ _ _ _ hH) (by simp)
    have hx := row_holdsK hk (by omega) hH2 (by simpa [putRowK] using hgl) (n := l.length) (by simp)
    refine ⟨rfl, ?_, grown_put _⟩
    simpa using hx
  · obtain rfl : l = [] := List.length_eq_zero_iff.1 (by omega)
    refine (he A c).mono ?_
    rintro e w' ⟨rfl, rfl⟩
    exact ⟨rfl, RowAt.of_own hown, ⟨rfl, rfl, rfl, Nat.le_refl _, fun _ _ _ => rfl⟩⟩
instance : Inhabited Rl := ⟨⟨⟨#[]⟩, 0, ⟨none, 0, []⟩⟩⟩
instance : Inhabited Fl := ⟨⟨⟨#[]⟩, 0, 0⟩⟩
/-- What Clone leaves: the same terms in a row of its own. -/
def ClonePost (l : List Tm) (w : World) (e : Ending) (w' : World) : Prop := ∃ A c, e = .returned (.slice A l.length c) ∧ w'.ownsRow w.heap.size 43 4 (.slice A l.length c) l.length (cellsOf encTm l) ∧ Below w.heap.size w w'
theorem CloneT_any (A : Option Addr) (c : Nat) (l : List Tm) (w : World) (hn : l.length ≤ 1000000) (h0 : 1 ≤ l.length) (h : RowAt w w.heap.size A 4 l.length (cellsOf encTm l)) :
    Calls Try.prog 37 #[.slice A l.length c] w (ClonePost l w) := by
  obtain ⟨ba, off, rfl, hb, hc⟩ := h.at_ (by omega)
  obtain ⟨i0, hi0, hz0, hz1, hz2⟩ := info_parts termInfo
  refine (AnyE.slices_Clone laysClnT i0 _ 4 48 hi0 hz0 hz1 hz2 rfl (by omega) Try.sizeOf43 ba off l.length c (cellsOf encTm l) w h.len (by unfold maxLen; omega) (by omega) hc (cells_one l)).mono ?_
  rintro e w' ⟨v', rfl, hown, _, hB⟩
  obtain ⟨A2, c2, rfl⟩ := own_slice hown
  exact ⟨A2, c2, rfl, hown, hB⟩
end Go.Proofs.Ytgdjknpdgajdgaa
