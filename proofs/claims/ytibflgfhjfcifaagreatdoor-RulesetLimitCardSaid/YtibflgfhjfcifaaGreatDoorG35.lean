/-
  A row of terms with one cell written anew, in plain words.
  Contract of the law file's spoilt: a list of some short terms.
  spoilt, from a new tape.
-/
import Derived.Test.YtibflgfhjfcifaaGreatDoorG06
import Derived.Laws.OwnMore
import Derived.Test.YtibflgfhjfcifaaGreatDoorG16
import Derived.Test.YtibflgfhjfcifaaGreatDoorG00
import Derived.Test.YtibflgfhjfcifaaGreatDoorG29
namespace Go.Proofs.YtibflgfhjfcifaaGreatDoor
open Go.RowKit
theorem cells_set {α : Type} {enc : α → List Value} {kk : Nat} (hlen : ∀ x, (enc x).length = kk) {f : Nat} (hf : f < kk) (u : Value) (t' : α) : ∀ (l : List α) (k : Nat) (hk : k < l.length), enc t' = (enc l[k]).set f u → (cellsOf enc l).set (k * kk + f) u = cellsOf enc (l.set k t')
 | x :: r, 0, _, h => by
   show (enc x ++ cellsOf enc r).set (0 * kk + f) u = enc t' ++ cellsOf enc r
   rw [Nat.zero_mul, Nat.zero_add, List.set_append_left _ _ (by rw [hlen]; exact hf), h]
   rfl
 | x :: r, k + 1, hk, h => by
   show (enc x ++ cellsOf enc r).set ((k + 1) * kk + f) u = enc x ++ cellsOf enc (r.set k t')
   rw [List.set_append_right _ _ (by rw [hlen, Nat.succ_mul]; omega), hlen, ← cells_set hlen hf u t' r k (by simpa using hk) h]
   congr 2
   rw [Nat.succ_mul]; omega
theorem set_small {m : Nat} {l : List Tm} {k : Nat} {t : Tm} (h : ∀ x ∈ l, TmSmall m x) (ht : TmSmall m t) : ∀ x ∈ l.set k t, TmSmall m x := fun x hx => by
 rcases List.mem_or_eq_of_mem_set hx with h1 | rfl
 · exact h x h1
 · exact ht
theorem TRow.set {α : Type} {T : TypeId} {kk : Nat} {enc : α → List Value} {w0 w W : World} {b n p d g c j : Nat} {u : Value} {l l' : List α} (h : TRow T kk enc w0 b n p d w (.slice (some ⟨g, 0, none⟩) l.length c) l W) (hl : l'.length = l.length) (hc : (cellsOf enc l).set j u = cellsOf enc l') :
 TRow T kk enc w0 b n p d w (.slice (some ⟨g, 0, none⟩) l'.length c) l' (W.setCell ⟨g, j, none⟩ u) := by
 have hs := h.own.stored j u
 refine ⟨h.nx.grownR hs.2 (fun i e => ?_), ?_, h.lo⟩
 · injection e with e
   subst e
   have := (h.own.lt g rfl).1
   have := h.lo
   omega
 · rw [hl, ← hc]; exact hs.1
theorem TTm.set {w0 w W : World} {b n p d g c f k : Nat} {u : Value} {l : List Tm} {t : Tm} (h : TTm w0 b n p d w (.slice (some ⟨g, 0, none⟩) l.length c) l W) (hk : k < l.length) (hf : f < 4) (he : encTm t = (encTm l[k]).set f u) (ht : TmSmall 60 t) :
 TTm w0 b n p d w (.slice (some ⟨g, 0, none⟩) (l.set k t).length c) (l.set k t) (W.setCell ⟨g, k * 4 + f, none⟩ u) :=
 ⟨h.row.set (by rw [List.length_set]) (cells_set encTm_len hf u t l k hk he), set_small h.small ht⟩
end Go.Proofs.YtibflgfhjfcifaaGreatDoor
namespace Go.Proofs.YtibflgfhjfcifaaGreatDoor
open Go.RowKit
end Go.Proofs.YtibflgfhjfcifaaGreatDoor
namespace Go.Proofs.YtibflgfhjfcifaaGreatDoor
open Go.RowKit
theorem TmSmall.pre {m : Nat} {t : Tm} (h : TmSmall m t) (hm : m ≤ 1000000) : TmPre t := ⟨by have := h.name; omega, by have := h.value; omega⟩
theorem TmPre.ok {t : Tm} (h : TmPre t) : TmOk t := ⟨h.name, by have := h.value; omega⟩
end Go.Proofs.YtibflgfhjfcifaaGreatDoor
