/-
  From the contract of a law to its statement, for a row that lists no variables: arguments that read as they did; a list of numbers and a device, opened.
-/
import Derived.Test.YtgdjknpdgajdgaaRows
import Derived.Test.YtgdjknpdgajdgaaG05
import Derived.Test.YtgdjknpdgajdgaaRDevB
import Derived.ProofKit
import Derived.OpenShut
import Derived.SizedLaws
import Derived.Deep.SlicePairs
import Derived.Deep.DeepHandedRow
namespace Go.Proofs.Ytgdjknpdgajdgaa
open Go.ChangeShapes Go.WideShapes Go.ChangeAt Go.RowKit
theorem own : ownKnob Try.prog.godebug = none := by kernel_rfl
theorem laidOut : laidOutB Try.prog = true := by kernel_rfl
/-- Arguments read as they did where only new memory has been made. -/
theorem trodAll_stays {P : Program} (hl : laidOutB P = true) {H : Type} {enc : TypeId × Value → H} {W W' : World} {sp : Nat → Bool} (hb : Below W.heap.size W W')
    (ts : List TypeId) : ∀ (vs : List Value) (ds : List (DataW H)) (ps : List MemPlace), (ts.all fun t => P.readableRec t && decide (t < P.types.size)) = true → DataW.TrodAll enc P W 0 (fun _ => true) true ts vs ds ps →
      (∀ x ∈ ps, x.block < W.heap.size) → (∀ x ∈ ps, sp x.block = true) → DataW.TrodAll enc P W' 0 sp true ts vs ds ps := by
  induction ts with
  | nil =>
    intro vs ds ps _ h _ _
    obtain ⟨rfl, rfl, rfl⟩ := trodAll_nil h
    exact trodAll_mk0
  | cons t ts ih =>
    intro vs ds ps ht h h1 h2
    obtain ⟨v, vs', d, ds', p, q, rfl, rfl, rfl, hd, hr⟩ := trodAll_cons h
    rw [List.all_cons, Bool.and_eq_true, Bool.and_eq_true, decide_eq_true_eq] at ht
    obtain ⟨⟨a, b⟩, c⟩ := ht
    exact trodAll_cons_mk (WideElems.Trod_stays hl a b hd (fun x hx => hb.same (h1 x (List.mem_append_left _ hx))) (fun x hx => h2 x (List.mem_append_left _ hx)))
      (ih vs' ds' q c hr (fun x hx => h1 x (List.mem_append_right _ hx)) (fun x hx => h2 x (List.mem_append_right _ hx)))
/-- What every law's call gives: true, and nothing that was there has turned. -/
def Yes (w : World) (e : Ending) (w' : World) : Prop := e = .returned (.bool true) ∧ Below w.heap.size w w'
theorem yes_list : (Value.bool true).resultList 1 = [.bool true] := by kernel_rfl
set_option maxRecDepth 100000 in
theorem yes_ok (W' : World) : Value.okWide Try.prog W' .any 0 4 (.bool true) := okWide_bool_mk Try.underlying4 _
set_option maxRecDepth 100000 in
/-- From the walk to the specification's words. -/
theorem post_of_yes {H : Type} {enc : TypeId × Value → H} {F : FuncId} {fn : Func} {s : ChangeSpec} {W : World} {args : Array Value} {ds gs : List (DataW H)} {before : List MemPlace}
    (hfn : fn.resultTypes = #[4]) (hps : (fn.params.toList.all fun t => Try.prog.readableRec t && decide (t < Try.prog.types.size)) = true) (hv : s.vars = [])
    (hs : s.fn H (ds ++ gs) = { results := [.lit (.bool true)], args := ds })
    (hW : DataW.Whole enc Try.prog fn.params.toList s.vars false W args.toList ds gs before)
    (h : Calls Try.prog F args W (Yes W)) :
    Calls Try.prog F args W fun e W' => ∃ v, e = .returned v ∧ s.post enc Try.prog fn false true false false W args v W' := by
  refine h.mono fun e W' ⟨he, hb⟩ => ⟨_, he, ?_⟩
  have hW' := hW
  obtain ⟨p, q, hA, hV, rfl, hfz, hnd⟩ := hW
  rw [hv] at hV
  obtain ⟨rfl, rfl⟩ := trodVars_none hV
  have hlt := hW'.lt
  have hargs : ∀ sp : Nat → Bool, (∀ x ∈ p, sp x.block = true) → DataW.TrodAll enc Try.prog W' 0 sp true fn.params.toList args.toList (s.fn H (ds ++ [])).args p := fun sp hsp => by
    rw [hs]
    exact trodAll_stays laidOut hb _ _ _ _ hps hA (fun x hx => hlt x (by simp [hx])) hsp
  have hvars : ∀ sp : Nat → Bool, DataW.TrodVars enc Try.prog W' sp s.vars (s.fn H (ds ++ [])).vars [] := fun sp => by rw [hv, hs]; exact rfl
  have hres : ∀ (b : Nat) (sp : Nat → Bool) (hd : Bool), DataW.TrodAll enc Try.prog W' b sp hd fn.resultTypes.toList ((Value.bool true).resultList fn.resultTypes.size) (s.fn H (ds ++ [])).results [] := fun b sp hd => by
    rw [hfn, hs]
    exact trodAll_cons_mk (shut_bool Try.underlying4 _) trodAll_mk0
  refine ⟨ds, [], p ++ [], [], p, [], hW', hres _ _ _, hargs _ (fun x hx => by simpa using hlt x (by simp [hx])), hvars _, World.keptBut_mono (fun x hx => ⟨hx, Or.inr (by simpa using hx)⟩) (hb.frame (· ∈ p ++ [])), fun _ => ?_⟩
  refine ⟨?_, _, _, ([] ++ p) ++ [], ⟨[] ++ p, [], trodAll_append (hargs _ (fun _ _ => rfl)) (hres _ _ _), hvars _, rfl, ?_, ?_⟩, ?_⟩
  · exact ok_one hfn yes_list (yes_ok W')
  · intro b off hx
    have hin : MemPlace.cell b off ∈ p ++ [] := by simpa using hx
    rw [hb.frozen (hlt _ hin)]
    exact hfz b off hin
  · intro ha
    have := hnd ha
    simpa using this
  · intro x hx _
    simpa using hx
theorem spot_none {w : World} {a : Addr} {v : Value} (h : w.cell? a = some v) : a = ⟨a.block, a.off, none⟩ := by
  obtain ⟨b, o, sp⟩ := a
  cases sp with
  | none => rfl
  | some x =>
    unfold World.cell? at h
    split at h
    · simp at h
    · cases h
theorem cellsInt : Try.prog.cellsOf 3 = 1 := by kernel_rfl
theorem wf_rng {z : Int} (h : (Lit.int .i64 z).wf = true) : -9223372036854775808 ≤ z ∧ z ≤ 9223372036854775807 := by
  simp [Lit.wf, IntKind.min, IntKind.max, IntKind.signed, IntKind.bits] at h
  omega
set_option maxRecDepth 100000 in
theorem open_ints_in {H : Type} {enc : TypeId × Value → H} {W : World} {base : Nat} {v : Value} {d : DataW H} {p : List MemPlace} (hval : Value.okWide Try.prog W .any base 22 v) (h : DataW.Trod enc Try.prog W 0 (fun _ => true) true 22 v d p) :
    ∃ A n c, v = .slice A n c ∧ ∀ W', Below W.heap.size W W' → 0 < W'.heap.size → IntsIn W' A n := by
  obtain ⟨a0, len, cap, rfl⟩ := okWide_slice Try.underlying22 hval
  obtain ⟨fuel, hf⟩ := h
  rcases open_ints Try.underlying22 Try.underlying3 cellsInt hf with ⟨hcs, hx⟩ | ⟨a, len', cap', zs, hcs, _, hl, hm, hz, hx, hcell, hwz⟩
  · simp [Value.cells] at hcs
    obtain ⟨rfl, rfl, rfl⟩ := hcs
    exact ⟨none, 0, 0, rfl, fun W' _ h0 => ⟨Nat.zero_le _, 0, 0, fun h => absurd h (Nat.lt_irrefl 0), h0, fun i hi => absurd hi (Nat.not_lt_zero _)⟩⟩
  · simp [Value.cells] at hcs
    obtain ⟨rfl, rfl, rfl⟩ := hcs
    simp only [if_true] at hz
    unfold maxLen at hm
    refine ⟨some a, len, cap, rfl, fun W' hb h00 => ?_⟩
    by_cases h1 : len = 0
    · subst h1
      exact ⟨Nat.zero_le _, 0, 0, fun h => absurd h (Nat.lt_irrefl 0), h00, fun i hi => absurd hi (Nat.not_lt_zero _)⟩
    · have hc0 := hcell 0 (by omega)
      have ha : a.add 0 = a := rfl
      rw [ha] at hc0
      have hs := spot_none hc0
      refine IntsIn.keep (w := W) ⟨by omega, a.block, a.off, fun _ => by rw [← hs], block_lt_of_cell hc0, fun i hi => ⟨zs.getD i 0, ?_, ?_⟩⟩ hb
      · have := hcell i (by omega)
        rw [hs, add_plain] at this
        exact this
      · exact wf_rng (hwz _ (by
          have h2 : i < zs.length := by omega
          have : zs.getD i 0 = zs[i] := by simp [List.getD, h2]
          rw [this]; exact List.getElem_mem _))
theorem cellsStr : Try.prog.cellsOf 9 = 1 := by kernel_rfl
theorem cellsAt : Try.prog.cellsOf 87 = 2 := by kernel_rfl
theorem cellsAts : Try.prog.cellsOf 23 = 1 := by kernel_rfl
theorem cellsDv : Try.prog.cellsOf 25 = 10 := by kernel_rfl
theorem weights_all {H : Type} {P : Program} {e : TypeId} {d : DataW H} : ∀ {l : List (DataW H)}, d ∈ l → ∀ n ∈ d.weights P e, n ∈ DataW.weightsAll P e l
  | x :: l, hd, n, hn => by
    rw [DataW.weightsAll, List.mem_append]
    rcases List.mem_cons.1 hd with rfl | hd
    · exact Or.inl hn
    · exact Or.inr (weights_all hd n hn)
theorem array10 {α : Type} {cs : Array α} (h : cs.size = 10) : ∃ c0 c1 c2 c3 c4 c5 c6 c7 c8 c9, cs = #[c0, c1, c2, c3, c4, c5, c6, c7, c8, c9] := by
  obtain ⟨l⟩ := cs
  match l, h with
  | [c0, c1, c2, c3, c4, c5, c6, c7, c8, c9], _ => exact ⟨c0, c1, c2, c3, c4, c5, c6, c7, c8, c9, rfl⟩
theorem list10 {α : Type} {l : List α} (h : l.length = 10) : ∃ c0 c1 c2 c3 c4 c5 c6 c7 c8 c9, l = [c0, c1, c2, c3, c4, c5, c6, c7, c8, c9] := by
  match l, h with
  | [c0, c1, c2, c3, c4, c5, c6, c7, c8, c9], _ => exact ⟨c0, c1, c2, c3, c4, c5, c6, c7, c8, c9, rfl⟩
set_option maxRecDepth 100000 in
/-- The attributes of one slice. -/
theorem open_ats {H : Type} {enc : TypeId × Value → H} {W : World} {fuel : Nat} {v : Value} {x : DataW H × List MemPlace} (h : DataW.trod enc Try.prog W 0 (fun _ => true) true fuel 23 [v] = some x) (hw : ∀ n ∈ x.1.weights Try.prog 23, n ≤ reachBytes) :
    ∃ d : Ls At, v = .slice d.A d.l.length d.c ∧ RowAt W W.heap.size d.A 2 d.l.length (cellsOf encAt d.l) ∧ (∀ y ∈ d.l, y.val.size ≤ reachBytes) ∧ d.l.length ≤ maxLen ∧ d.l.length ≤ reachBytes := by
  rcases Go.Deep.open_slice_pairs Try.underlying23 Try.underlying87 cellsAt rfl rfl cellsStr cellsStr h with ⟨hcs, rfl⟩ | ⟨a, len, cap, m, n, V0, V1, D0, D1, P0, P1, hcs, _, hl, hm, hmm, rfl, hx⟩
  · obtain rfl : v = .slice none 0 0 := by simpa using hcs
    exact ⟨⟨none, 0, []⟩, rfl, ⟨rfl, fun h => absurd h (Nat.lt_irrefl 0)⟩, (fun _ h => by cases h), Nat.zero_le _, Nat.zero_le _⟩
  · obtain rfl : v = .slice (some a) len cap := by simpa using hcs
    simp only [if_true] at hmm
    have hstr : ∀ i, i < len → ∃ y : At, V0 i = .string y.name ∧ V1 i = .string y.val ∧ y.val.size ≤ reachBytes := fun i hi => by
      obtain ⟨_, _, h0, h1⟩ := hx i (by omega)
      obtain ⟨s0, e0, _, z0⟩ := DataW.trod_string Try.underlying9 h0
      obtain ⟨s1, e1, y1, z1⟩ := DataW.trod_string Try.underlying9 h1
      have hD : D1 i = .lit (.string s1.data.toList) := (Prod.mk.inj y1).1
      refine ⟨⟨s0, s1⟩, by simpa using e0, by simpa using e1, ?_⟩
      have h2 : s1.data.toList.length ∈ (DataW.agg [D0 i, D1 i]).weights Try.prog 87 := by
        rw [hD]
        simp [DataW.weights, Try.underlying87, DataW.weightsEach]
      have h3 := hw s1.data.toList.length (by
        simp only [DataW.weights, Try.underlying23]
        refine List.mem_cons_of_mem _ (List.mem_append_left _ (weights_all (List.mem_map.2 ⟨i, List.mem_range.2 hi, rfl⟩) _ h2)))
      simpa using h3
    obtain ⟨f, hf⟩ : ∃ f : Nat → At, ∀ i, i < len → V0 i = .string (f i).name ∧ V1 i = .string (f i).val ∧ (f i).val.size ≤ reachBytes := by
      have : Inhabited At := ⟨⟨ByteArray.empty, ByteArray.empty⟩⟩
      exact Go.Deep.choose_lt hstr
    have hln : ((List.range len).map f).length = len := by simp
    have hb : len ≤ reachBytes := by
      have h4 := hw _ (by
        simp only [DataW.weights, Try.underlying23]
        exact List.mem_cons_self)
      have h5 : Try.prog.bytesOf 87 = 32 := by kernel_rfl
      rw [h5] at h4
      simp only [List.length_map, List.length_range] at h4
      omega
    refine ⟨⟨some a, cap, (List.range len).map f⟩, by dsimp only; rw [hln], ?_, fun y hy => ?_, by dsimp only; rw [hln]; omega, by dsimp only; rw [hln]; exact hb⟩
    · dsimp only
      rw [hln]
      refine ⟨by rw [cellsOf_len encAt 2 encAt_len, hln], fun hn => ?_⟩
      have hc0 := (hx 0 (by omega)).1
      have hs := spot_none hc0
      have ha : a.add (0 * 2) = a := rfl
      rw [ha] at hs hc0
      refine ⟨a.block, a.off, by rw [← hs], block_lt_of_cell hc0, fun j u hu => ?_⟩
      have hj : j < len * 2 := by
        have := (List.getElem?_eq_some_iff.1 hu).1
        rwa [cellsOf_len encAt 2 encAt_len, hln] at this
      have hi : j / 2 < len := by omega
      obtain ⟨g0, g1, _, _⟩ := hx (j / 2) (by omega)
      obtain ⟨k0, k1, _⟩ := hf (j / 2) hi
      rw [hs, add_plain] at g0 g1
      have hget := cellsOf_get encAt 2 encAt_len ((List.range len).map f) (j / 2) (j % 2) (f (j / 2)) (by simp [hi]) (by omega)
      rw [show j / 2 * 2 + j % 2 = j by omega] at hget
      rw [hget] at hu
      rcases (by omega : j % 2 = 0 ∨ j % 2 = 1) with h2 | h2
      · rw [h2] at hu
        obtain rfl : Value.string (f (j / 2)).name = u := by simpa [encAt] using hu
        rw [← k0, ← g0, show j / 2 * 2 = j by omega]
      · rw [h2] at hu
        obtain rfl : Value.string (f (j / 2)).val = u := by simpa [encAt] using hu
        rw [← k1, ← g1, show j / 2 * 2 + 1 = j by omega]
    · obtain ⟨i, hi, rfl⟩ := List.mem_map.1 hy
      exact (hf i (by simpa using hi)).2.2
theorem reach_le : reachBytes ≤ 4611686018427387904 := by decide
set_option maxRecDepth 100000 in
/-- A device, opened. -/
theorem open_dev {H : Type} {enc : TypeId × Value → H} {W : World} {base : Nat} {v : Value} {d : DataW H} {p : List MemPlace} (hval : Value.okWide Try.prog W .any base 25 v) (h : DataW.Trod enc Try.prog W 0 (fun _ => true) true 25 v d p) (hw : ∀ n ∈ d.weights Try.prog 25, n ≤ reachBytes) :
    ∃ x : Dv, v = dvV x ∧ DvOk x ∧ DvAt W W.heap.size x := by
  obtain ⟨cs, rfl, hsz⟩ := okWide_struct Try.underlying25 hval
  obtain ⟨c0, c1, c2, c3, c4, c5, c6, c7, c8, c9, rfl⟩ := array10 (hsz.trans cellsDv)
  obtain ⟨fuel, hf⟩ := h
  obtain ⟨xs, n, _, hx, _, hlen, hg⟩ := DataW.trod_struct Try.underlying25 hf
  obtain ⟨x0, x1, x2, x3, x4, x5, x6, x7, x8, x9, rfl⟩ := list10 hlen
  obtain rfl : d = .agg ([x0, x1, x2, x3, x4, x5, x6, x7, x8, x9].map (·.1)) := (Prod.mk.inj hx).1
  simp only [DataW.weights, Try.underlying25] at hw
  have hall := List.all_eq_true.2 fun n hn => decide_eq_true (hw n hn)
  obtain ⟨z0, e0, _, _⟩ := DataW.trod_int Try.underlying3 (cs := [c0]) (x := x0) (by simpa [Value.cells, cellsInt] using hg 0 _ rfl)
  obtain ⟨z1, e1, _, _⟩ := DataW.trod_int Try.underlying3 (cs := [c1]) (x := x1) (by simpa [Value.cells, cellsInt] using hg 1 _ rfl)
  obtain ⟨s2, e2, y2, _⟩ := DataW.trod_string Try.underlying9 (cs := [c2]) (x := x2) (by simpa [Value.cells, cellsStr] using hg 2 _ rfl)
  obtain ⟨s3, e3, y3, _⟩ := DataW.trod_string Try.underlying9 (cs := [c3]) (x := x3) (by simpa [Value.cells, cellsStr] using hg 3 _ rfl)
  have b3 : s3.size ≤ reachBytes := by
    have h := sized_string hall (j := 3) (t := 9) (bytes := s3.data.toList) rfl (by rw [y3]; rfl)
    simpa using h
  obtain ⟨s4, e4, y4, _⟩ := DataW.trod_string Try.underlying9 (cs := [c4]) (x := x4) (by simpa [Value.cells, cellsStr] using hg 4 _ rfl)
  have b4 : s4.size ≤ reachBytes := by
    have h := sized_string hall (j := 4) (t := 9) (bytes := s4.data.toList) rfl (by rw [y4]; rfl)
    simpa using h
  obtain ⟨s5, e5, y5, _⟩ := DataW.trod_string Try.underlying9 (cs := [c5]) (x := x5) (by simpa [Value.cells, cellsStr] using hg 5 _ rfl)
  have b5 : s5.size ≤ reachBytes := by
    have h := sized_string hall (j := 5) (t := 9) (bytes := s5.data.toList) rfl (by rw [y5]; rfl)
    simpa using h
  obtain ⟨s6, e6, y6, _⟩ := DataW.trod_string Try.underlying9 (cs := [c6]) (x := x6) (by simpa [Value.cells, cellsStr] using hg 6 _ rfl)
  obtain ⟨z7, e7, _, _⟩ := DataW.trod_int Try.underlying3 (cs := [c7]) (x := x7) (by simpa [Value.cells, cellsInt] using hg 7 _ rfl)
  obtain ⟨z8, e8, _, _⟩ := DataW.trod_int Try.underlying3 (cs := [c8]) (x := x8) (by simpa [Value.cells, cellsInt] using hg 8 _ rfl)
  obtain ⟨l, e9, hrow, hz, _, hlr⟩ := open_ats (v := c9) (x := x9) (by simpa [Value.cells, cellsAts] using hg 9 _ rfl) (fun n hn => by
    have h := List.all_eq_true.1 hall n (DataW.weights_mem_each (j := 9) (t := 23) (d := x9.1) rfl rfl n hn)
    simpa using h)
  refine ⟨⟨z0, z1, s2, s3, s4, s5, s6, z7, z8, l⟩, ?_, ⟨Nat.le_trans b3 reach_le, Nat.le_trans b4 reach_le, Nat.le_trans b5 reach_le, fun y hy => Nat.le_trans (hz y hy) reach_le, Nat.le_trans hlr reach_le⟩, hrow⟩
  simp only [List.cons.injEq, and_true] at e0 e1 e2 e3 e4 e5 e6 e7 e8
  rw [e0, e1, e2, e3, e4, e5, e6, e7, e8, e9]
  rfl
end Go.Proofs.Ytgdjknpdgajdgaa
