/-
  What short values stand for is short; the words of a result; no program in sight.
-/
import Derived.Test.YtifbcfpaifobjaaGreatDoorPlainA
import Derived.Test.YtifbcfpaifobjaaGreatDoorExpS
namespace Go.Proofs.YtifbcfpaifobjaaGreatDoor
open Go.RowKit
/-- All texts of some values are short. -/
structure VsSmall (M : Nat) (v : Vs) : Prop where
  kernel : v.kernel.size ≤ M
  devpath : v.devpath.size ≤ M
  id : v.id.size ≤ M
  driver : v.driver.size ≤ M
  parent : v.parent.size ≤ M
  name : v.name.size ≤ M
  result : v.result.size ≤ M
  attrs : ∀ x ∈ v.attrs.l, x.val.size ≤ M
  above : ∀ x ∈ v.above.l, x.val.size ≤ M
  env : ∀ x ∈ v.env.l, x.val.size ≤ M
theorem VsSmall.more {M N : Nat} {v : Vs} (h : VsSmall M v) (hM : M ≤ N) : VsSmall N v :=
  ⟨Nat.le_trans h.kernel hM, Nat.le_trans h.devpath hM, Nat.le_trans h.id hM, Nat.le_trans h.driver hM, Nat.le_trans h.parent hM, Nat.le_trans h.name hM, Nat.le_trans h.result hM,
   fun x hx => Nat.le_trans (h.attrs x hx) hM, fun x hx => Nat.le_trans (h.above x hx) hM, fun x hx => Nat.le_trans (h.env x hx) hM⟩
theorem getA_small {l : List At} {nm : Str} {u : ByteArray} {M : Nat} (h : ∀ x ∈ l, x.val.size ≤ M) (hu : getA l nm = some u) : u.size ≤ M := by
  unfold getA at hu
  cases hf : l.find? (fun x => L x.name == nm) with
  | none => rw [hf] at hu; cases hu
  | some x =>
    rw [hf] at hu
    injection hu with hu
    subst hu
    exact h x (List.mem_of_find?_eq_some hf)
theorem firstV_small {M : Nat} : ∀ (ls : List Lst) (nm : Str), (∀ y ∈ ls, ∀ x ∈ y.l, x.val.size ≤ M) → (firstV ls nm).size ≤ M
  | [], _, _ => Nat.zero_le _
  | y :: ls, nm, h => by
    rw [firstV]
    cases hg : getA y.l nm with
    | some u => exact getA_small (h y (by simp)) hg
    | none => exact firstV_small ls nm (fun z hz => h z (by simp [hz]))
theorem resultS_len (k : Nat) (more : Bool) (r : Str) : (resultS k more r).length ≤ r.length := by
  unfold resultS
  split
  · exact Nat.le_refl _
  · exact Nat.le_trans (join_selW k more (wordsS r)) (join_wordsS r)
theorem valueS_small {M : Nat} {q : Pc} {v : Vs} (hv : VsSmall M v) (hq : q.text.size ≤ M) : (valueS q v).size ≤ M := by
  unfold valueS
  split
  · exact hq
  split
  · exact hv.kernel
  split
  · rw [size_bs]
    refine Nat.le_trans ?_ hv.kernel
    rw [← len_L]
    unfold numS
    rw [List.length_drop]; omega
  split
  · exact hv.devpath
  split
  · exact hv.id
  split
  · exact hv.driver
  split
  · refine firstV_small _ _ (fun y hy => ?_)
    simp only [List.mem_cons, List.not_mem_nil, or_false] at hy
    rcases hy with rfl | rfl
    · exact hv.attrs
    · exact hv.above
  split
  · refine firstV_small _ _ (fun y hy => ?_)
    simp only [List.mem_cons, List.not_mem_nil, or_false] at hy
    subst hy
    exact hv.env
  split
  · rw [size_bs]
    refine Nat.le_trans (resultS_len _ _ _) ?_
    rw [len_L]
    exact hv.result
  split
  · exact hv.parent
  · exact hv.name
end Go.Proofs.YtifbcfpaifobjaaGreatDoor
