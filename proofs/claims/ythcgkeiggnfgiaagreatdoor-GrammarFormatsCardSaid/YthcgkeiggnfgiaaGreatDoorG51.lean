/-
  A list of terms that came in, opened.
  Bounds on the texts of terms that came in.
-/
import Derived.Test.YthcgkeiggnfgiaaGreatDoorG00
import Derived.Test.YthcgkeiggnfgiaaGreatDoorLift10
import Derived.Deep.Slices
import Derived.Test.YthcgkeiggnfgiaaGreatDoorG44
import Derived.SizedLaws
namespace Go.Proofs.YthcgkeiggnfgiaaGreatDoor
open Go.ChangeShapes Go.WideShapes Go.ChangeAt Go.RowKit
theorem term_cells : Tryz.prog.cellsOf 49 = 4 := by kernel_rfl
theorem term_under : ∃ f0 f1 f2 f3 : Field, Tryz.prog.underlying 49 = some (.struct #[f0, f1, f2, f3]) ∧ (f0.offset = 0 ∧ f1.offset = 1 ∧ f2.offset = 2 ∧ f3.offset = 3) ∧ (f0.type = 3 ∧ f1.type = 9 ∧ f2.type = 3 ∧ f3.type = 9) := by
  refine ⟨_, _, _, _, Tryz.underlying49, ⟨rfl, rfl, rfl, rfl⟩, rfl, rfl, rfl, rfl⟩
theorem list4 {α : Type} : ∀ (l : List α), l.length = 4 → ∃ a b c d, l = [a, b, c, d]
  | [a, b, c, d], _ => ⟨a, b, c, d, rfl⟩
  | [], h => by simp at h
  | [_], h => by simp at h
  | [_, _], h => by simp at h
  | [_, _, _], h => by simp at h
  | _ :: _ :: _ :: _ :: _ :: _, h => by simp at h
theorem cellsIntT : Tryz.prog.cellsOf 3 = 1 := by kernel_rfl
theorem cellsStrT : Tryz.prog.cellsOf 9 = 1 := by kernel_rfl
/-- A term as data: its texts. -/
def TmData {H : Type} (t : Tm) (d : DataW H) : Prop := ∃ d0 d2, d = .agg [d0, .lit (.string (L t.name)), d2, .lit (.string (L t.value))]
set_option maxRecDepth 100000 in
theorem opened_tms {H : Type} {enc : TypeId × Value → H} {W : World} {n : Nat} {v : Value} {x : DataW H × List MemPlace} (h : DataW.trod enc Tryz.prog W 0 (fun _ => true) true n 53 [v] = some x) :
    ∃ (A : Option Addr) (c : Nat) (l : List Tm), v = .slice A l.length c ∧ RowAt W W.heap.size A 4 l.length (cellsOf encTm l) ∧ l.length ≤ 9223372036854775807 ∧ (l = [] ∨ ∃ e s, x.1 = .slice e s ∧ ∀ t ∈ l, ∃ d ∈ e, TmData t d) := by
  obtain ⟨f0, f1, f2, f3, hu, ⟨o0, o1, o2, o3⟩, t0, t1, t2, t3⟩ := term_under
  rcases Go.Deep.open_slice Tryz.underlying53 h with ⟨hv, rfl⟩ | ⟨a, len, cap, m, k, D, Pl, hv, _, hl, hm, hmm, rfl, hx⟩
  · have e : v = .slice none 0 0 := by simpa using hv
    exact ⟨none, 0, [], e, ⟨rfl, fun h => absurd h (Nat.lt_irrefl 0)⟩, Nat.zero_le _, Or.inl rfl⟩
  · have e : v = .slice (some a) len cap := by simpa using hv
    simp only [if_true] at hmm
    unfold maxLen at hm
    have hE : ∀ i, i < len → ∃ y : Tm, (∀ f u, (encTm y)[f]? = some u → W.cell? (a.add (i * 4 + f)) = some u) ∧ TmData y (D i) := fun i hi => by
      obtain ⟨cs', h1, h2⟩ := hx i (by omega)
      rw [term_cells] at h1
      obtain ⟨_, hlen, hcell⟩ := World.cells?_some h1
      obtain ⟨xs, k', hk, hxy, _, hxl, hf⟩ := DataW.trod_struct hu h2
      obtain ⟨y0, y1, y2, y3, rfl⟩ := list4 xs hxl
      obtain ⟨v0, v1, v2, v3, rfl⟩ := list4 cs' hlen
      have g0 := hf 0 f0 rfl
      have g1 := hf 1 f1 rfl
      have g2 := hf 2 f2 rfl
      have g3 := hf 3 f3 rfl
      rw [o0, t0, cellsIntT] at g0
      rw [o1, t1, cellsStrT] at g1
      rw [o2, t2, cellsIntT] at g2
      rw [o3, t3, cellsStrT] at g3
      obtain ⟨z0, e0, _, _⟩ := DataW.trod_int Tryz.underlying3 g0
      obtain ⟨s1, e1, d1, _⟩ := DataW.trod_string Tryz.underlying9 g1
      obtain ⟨z2, e2, _, _⟩ := DataW.trod_int Tryz.underlying3 g2
      obtain ⟨s3, e3, d3, _⟩ := DataW.trod_string Tryz.underlying9 g3
      obtain rfl : v0 = .int .i64 z0 := by simpa using e0
      obtain rfl : v1 = .string s1 := by simpa using e1
      obtain rfl : v2 = .int .i64 z2 := by simpa using e2
      obtain rfl : v3 = .string s3 := by simpa using e3
      refine ⟨⟨z0, s1, z2, s3⟩, fun f u hu => ?_, y0.1, y2.1, ?_⟩
      · have hf4 : f < 4 := (List.getElem?_eq_some_iff.1 hu).1
        have := hcell f hf4
        rw [Go.Deep.add_add] at this
        rw [this]
        exact hu
      · have h3 := (Prod.mk.inj hxy).1
        rw [h3, d1, d3]
        rfl
    have : Inhabited Tm := ⟨⟨0, ⟨#[]⟩, 0, ⟨#[]⟩⟩⟩
    obtain ⟨f, hf⟩ := Go.Deep.choose_lt hE
    have hlen : ((List.range len).map f).length = len := by simp
    refine ⟨some a, cap, (List.range len).map f, by rw [e, hlen], ⟨cellsOf_len _ 4 encTm_len _, fun hn => ?_⟩, by rw [hlen]; omega, ?_⟩
    · rw [hlen] at hn
      have h0 := (hf 0 hn).1 0 _ rfl
      rw [show a.add (0 * 4 + 0) = a from rfl] at h0
      have hs := spot_none h0
      refine ⟨a.block, a.off, by rw [← hs], block_lt_of_cell h0, fun j u hu => ?_⟩
      have hj : j < len * 4 := by
        have := (List.getElem?_eq_some_iff.1 hu).1
        rw [cellsOf_len _ 4 encTm_len, hlen] at this
        exact this
      have hi : j / 4 < len := by omega
      have hg : ((List.range len).map f)[j / 4]? = some (f (j / 4)) := by simp [hi]
      have ej : j = j / 4 * 4 + j % 4 := by omega
      rw [ej, cellsOf_get encTm 4 encTm_len _ _ (j % 4) _ hg (by omega)] at hu
      have hc := (hf (j / 4) hi).1 (j % 4) u hu
      rw [hs, add_plain, ← ej] at hc
      exact hc
    · refine Or.inr ⟨_, _, rfl, fun t ht => ?_⟩
      obtain ⟨i, hi, rfl⟩ := List.mem_map.1 ht
      exact ⟨D i, List.mem_map.2 ⟨i, hi, rfl⟩, (hf i (List.mem_range.1 hi)).2⟩
end Go.Proofs.YthcgkeiggnfgiaaGreatDoor
namespace Go.Proofs.YthcgkeiggnfgiaaGreatDoor
open Go.ChangeShapes Go.WideShapes Go.ChangeAt Go.RowKit
theorem wAll_mem {H : Type} {P : Program} {e : TypeId} {d : DataW H} {n : Nat} : ∀ {l : List (DataW H)}, d ∈ l → n ∈ d.weights P e → n ∈ DataW.weightsAll P e l
  | x :: r, hm, hn => by
    rw [DataW.weightsAll, List.mem_append]
    rcases List.mem_cons.1 hm with rfl | h
    · exact Or.inl hn
    · exact Or.inr (wAll_mem h hn)
theorem tm_weights {H : Type} {t : Tm} {d : DataW H} (h : TmData t d) : t.name.size ∈ d.weights Tryz.prog 49 ∧ t.value.size ∈ d.weights Tryz.prog 49 := by
  obtain ⟨f0, f1, f2, f3, hu, _, _⟩ := term_under
  obtain ⟨d0, d2, rfl⟩ := h
  rw [← len_L, ← len_L]
  constructor <;> simp [DataW.weights, DataW.weightsEach, hu]
theorem tms_pre {H : Type} {ts : List TypeId} {ds : List (DataW H)} {d : DataW H} {l : List Tm} {j : Nat} (hsz : (DataW.weightsEach Tryz.prog ts ds).all (· ≤ reachBytes) = true) (ht : ts[j]? = some 53) (hd : ds[j]? = some d) (hx : l = [] ∨ ∃ e s, d = .slice e s ∧ ∀ t ∈ l, ∃ d ∈ e, TmData t d) : ∀ t ∈ l, TmPre t := by
  intro t hm
  rcases hx with rfl | ⟨e, s, rfl, h⟩
  · cases hm
  · obtain ⟨d', hd', hT⟩ := h t hm
    obtain ⟨h1, h2⟩ := tm_weights hT
    have key : ∀ n, n ∈ d'.weights Tryz.prog 49 → n ≤ reachBytes := fun n hn => by
      have := List.all_eq_true.1 hsz n (DataW.weights_mem_each ht hd n (by
        simp only [DataW.weights, Tryz.underlying53]
        simp [wAll_mem hd' hn]))
      simpa using this
    have hr := reachBytes_lt
    have a1 := key _ h1
    have a2 := key _ h2
    exact ⟨by omega, by omega⟩
end Go.Proofs.YthcgkeiggnfgiaaGreatDoor
