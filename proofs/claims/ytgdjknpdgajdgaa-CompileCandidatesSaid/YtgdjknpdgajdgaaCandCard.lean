/-
  The statement Rows.CompileCandidatesSaid: for every input that the row speaks of the call returns true, and each argument reads as it read before.
-/
import Derived.Test.YtgdjknpdgajdgaaG19
import Derived.Test.YtgdjknpdgajdgaaLiftB
namespace Go.Proofs.Ytgdjknpdgajdgaa.lawCands
open Go.ChangeShapes Go.WideShapes Go.ChangeAt Go.RowKit
theorem params_ok : ([22, 25].all fun t => Try.prog.readableRec t && decide (t < Try.prog.types.size)) = true := by kernel_rfl
set_option maxRecDepth 100000 in
theorem lifted (os : Os) (started : os.Started) (H : Type) (enc : TypeId × Value → H) :
    ReturnsInHanded {} Try.checked os 3 .any (Rows.compileCandidatesSpec.pre6 enc Try.prog Try.f3 Rows.compileCandidatesRow.domain false) (Rows.compileCandidatesSpec.post enc Try.prog Try.f3 false true false false) := by
  refine returnsInHanded_of_change_sized (C := Try.checked) own started (by kernel_rfl) Try.func3
    (ChangeSpec.witness6 (enc := enc) (C := Try.checked) false ⟨#[], #[.slice none 0 0, .agg #[.int .i64 0, .int .i64 0, .string ⟨#[]⟩, .string ⟨#[]⟩, .string ⟨#[]⟩, .string ⟨#[]⟩, .string ⟨#[]⟩, .int .i64 0, .int .i64 0, .slice none 0 0]], []⟩ 8 (by kernel_rfl) (by kernel_rfl) (by kernel_rfl) (by kernel_rfl)) ?_
  intro W base args ds gs before hval0 hW _ hsz0 ha
  have hsz : (DataW.weightsEach Try.prog (Try.f3.params.toList ++ Rows.compileCandidatesSpec.plain.varTypes Try.prog) (ds ++ gs)).all (· ≤ reachBytes) = true := hsz0
  clear hsz0
  have hval : ∀ (j : Nat) t v, Try.f3.params[j]? = some t → args[j]? = some v → Value.okWide Try.prog W .any base t v := hval0
  have hW' := hW
  obtain ⟨p, q, hA0, hV, rfl, _, _⟩ := hW
  have hA : DataW.TrodAll enc Try.prog W 0 (fun _ => true) true Try.f3.params.toList args.toList ds p := hA0
  rw [Try.params3] at hA hval hsz
  obtain ⟨rfl, rfl⟩ := trodVars_none hV
  obtain ⟨v0, v1, d0, d1, p0, p1, rfl, rfl, rfl, h0, h1⟩ := trodAll_two hA
  obtain ⟨A, n, c, rfl, hi⟩ := open_ints_in (hval 0 22 v0 rfl rfl) h0
  obtain ⟨x, rfl, hok, hat⟩ := open_dev (hval 1 25 v1 rfl rfl) h1 (fun n hn => by
    have h := List.all_eq_true.1 hsz n (DataW.weights_mem_each (j := 1) (t := 25) (d := d1) rfl rfl n hn)
    simpa using h)
  have h := lawCands A n c x W hi hok hat
  exact post_of_yes (s := Rows.compileCandidatesSpec) (by kernel_rfl) (by rw [Try.params3]; exact params_ok) rfl rfl hW' h
set_option maxRecDepth 100000 in
set_option maxHeartbeats 4000000 in
/-- The closed facts of the row, each a lemma of its own. -/
theorem closed : joinedFacts Try.pinned.checked.prog 3 Try.f3 Rows.compileCandidatesSpec Rows.compileCandidatesRow = true := by
  unfold joinedFacts
  simp only [Bool.and_eq_true]
  repeat' refine And.intro ?_ ?_
  all_goals (as_aux_lemma => kernel_rfl)
set_option maxRecDepth 100000 in
theorem said : Rows.CompileCandidatesSaid :=
  OpenClaim.holds_of_wide 3 Try.f3 rfl rfl rfl rfl rfl rfl rfl ⟨rfl, rfl, rfl, rfl, rfl⟩ rfl rfl rfl rfl rfl (by as_aux_lemma => kernel_rfl) Try.func3 closed
    (of_decide_eq_true (by kernel_rfl)) (by unfold Func.isWrapper; first | (rw [if_pos (by decide +kernel)]; kernel_rfl) | (rw [if_neg (by decide +kernel)]; exact ⟨rfl, rfl⟩))
    (fun os started H enc _ => lifted os started H enc)
end Go.Proofs.Ytgdjknpdgajdgaa.lawCands
