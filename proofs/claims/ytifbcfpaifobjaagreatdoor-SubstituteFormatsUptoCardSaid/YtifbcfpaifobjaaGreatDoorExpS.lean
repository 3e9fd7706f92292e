/-
  What a template stands for: plain functions, and what the pieces of a template are like.
-/
import Derived.Test.YtifbcfpaifobjaaGreatDoorResult
namespace Go.Proofs.YtifbcfpaifobjaaGreatDoor
open Go.RowKit
/-- What a piece stands for. -/
def valueS (p : Pc) (v : Vs) : ByteArray :=
  if p.kind = 1 then p.text else if p.kind = 2 then v.kernel else if p.kind = 3 then bs (numS (L v.kernel)) else if p.kind = 4 then v.devpath
  else if p.kind = 5 then v.id else if p.kind = 6 then v.driver else if p.kind = 7 then firstV [v.attrs, v.above] (L p.text) else if p.kind = 8 then firstV [v.env] (L p.text)
  else if p.kind = 9 then bs (resultS p.word.toNat p.more (L v.result)) else if p.kind = 10 then v.parent else v.name
def outS (ps : List Pc) (v : Vs) : ByteArray := ps.foldl (fun a p => a ++ valueS p v) ⟨#[]⟩
theorem outS_snoc (ps : List Pc) (p : Pc) (v : Vs) : outS (ps ++ [p]) v = outS ps v ++ valueS p v := by simp [outS]
/-- The text of a template, and the error. -/
def expandS (s : Str) (v : Vs) : ByteArray × Int :=
  if (parseR s).2 = 0 then ((outS (parseR s).1 v).extract 0 256, 0) else (⟨#[]⟩, (parseR s).2)
/-- A piece that a template has. -/
def Wf (q : Pc) : Prop := ∃ k m : Nat, q.kind = k ∧ 1 ≤ k ∧ k < 12 ∧ q.word = m ∧ m ≤ 99
theorem wf_txt (t : ByteArray) : Wf (txt t) := ⟨1, 0, rfl, by omega, by omega, rfl, by omega⟩
theorem wf_place {k : Nat} {r r' : Str} {p : Pc} (hk : k < 12) (h : placeS k r = some (p, r')) : Wf p := by
  unfold placeS at h
  split at h
  · cases h
  rename_i h0
  split at h
  · cases hb : bracesS r with
    | none => rw [hb] at h; cases h
    | some ab =>
      rw [hb] at h
      simp only [Option.bind_some] at h
      split at h
      · injection h with h; injection h with h1 h2; subst h1
        exact ⟨7, 0, rfl, by omega, by omega, rfl, by omega⟩
      · cases h
  split at h
  · cases hb : bracesS r with
    | none => rw [hb] at h; cases h
    | some ab =>
      rw [hb] at h
      simp only [Option.bind_some] at h
      split at h
      · injection h with h; injection h with h1 h2; subst h1
        exact ⟨8, 0, rfl, by omega, by omega, rfl, by omega⟩
      · cases h
  split at h
  · cases hb : bracesS r with
    | none => rw [hb] at h; cases h
    | some ab =>
      rw [hb] at h
      simp only [Option.bind_some] at h
      cases hc : countS ab.1 with
      | none => rw [hc] at h; cases h
      | some nm =>
        rw [hc] at h
        simp only [Option.map_some] at h
        injection h with h; injection h with h1 h2; subst h1
        unfold countS at hc
        cases hf : (List.range 100).find? (fun n => decide (1 ≤ n) && Lib.decDigits n == Lib.trimSuffix ab.1 [43]) with
        | none => rw [hf] at hc; cases hc
        | some n =>
          rw [hf] at hc
          injection hc with hc
          have := List.mem_range.1 (List.mem_of_find?_eq_some hf)
          exact ⟨9, n, rfl, by omega, by omega, by rw [← hc], by omega⟩
  · injection h with h; injection h with h1 h2; subst h1
    exact ⟨k, 0, rfl, by omega, hk, rfl, by omega⟩
theorem wf_piece {c : UInt8} {r r' : Str} {p : Pc} (h : pieceS c r = some (p, r')) : Wf p := by
  unfold pieceS at h
  split at h
  · injection h with h; injection h with h1 h2; subst h1
    exact wf_txt _
  · exact wf_place (kindOf_lt _ _) h
theorem wf_add {ps : List Pc} {p : Pc} (h : ∀ q ∈ ps, Wf q) (hp : Wf p) : ∀ q ∈ addP ps p, Wf q := by
  unfold addP
  split
  · rcases List.eq_nil_or_concat ps with h0 | ⟨l, q, h0⟩
    · subst h0; simp [setLast]
    · rw [List.concat_eq_append] at h0
      subst h0
      rw [setLast_snoc]
      intro x hx
      rcases List.mem_append.1 hx with hx | hx
      · exact h x (by simp [hx])
      · simp only [List.mem_singleton] at hx
        subst hx
        exact h q (by simp)
  · intro x hx
    rcases List.mem_append.1 hx with hx | hx
    · exact h x hx
    · simp only [List.mem_singleton] at hx
      subst hx; exact hp
theorem wf_parseF : ∀ (n : Nat) (r : Str) (acc ps : List Pc), (∀ q ∈ acc, Wf q) → parseF n r acc = some ps → ∀ q ∈ ps, Wf q := by
  intro n
  induction n with
  | zero =>
    intro r acc ps ha h
    cases r with
    | nil => injection h with h; subst h; exact ha
    | cons c r => cases h
  | succ n ih =>
    intro r acc ps ha h
    cases r with
    | nil => injection h with h; subst h; exact ha
    | cons c r =>
      rw [parseF] at h
      split at h
      · cases hp : pieceS c r with
        | none => rw [hp] at h; cases h
        | some pr =>
          obtain ⟨p, r'⟩ := pr
          rw [hp] at h
          exact ih _ _ _ (wf_add ha (wf_piece hp)) h
      · exact ih _ _ _ (wf_add ha (wf_txt _)) h
theorem wf_parseR (s : Str) : ∀ q ∈ (parseR s).1, Wf q := by
  unfold parseR
  split
  · intro q hq; cases hq
  · split
    · cases h : parseS s with
      | none => intro q hq; cases hq
      | some ps => exact wf_parseF _ _ _ _ (fun q hq => by cases hq) h
    · intro q hq; cases hq
theorem fits_parseF : ∀ (n : Nat) (r : Str) (acc ps : List Pc), r.length ≤ 256 → Fits r.length acc → parseF n r acc = some ps → Fits 0 ps := by
  intro n
  induction n with
  | zero =>
    intro r acc ps hr ha h
    cases r with
    | nil => injection h with h; subst h; exact ha
    | cons c r => cases h
  | succ n ih =>
    intro r acc ps hr ha h
    cases r with
    | nil => injection h with h; subst h; exact ha
    | cons c r =>
      simp only [List.length_cons] at hr ha
      rw [parseF] at h
      split at h
      · cases hp : pieceS c r with
        | none => rw [hp] at h; cases h
        | some pr =>
          obtain ⟨p, r'⟩ := pr
          rw [hp] at h
          have h1 := pieceS_len hp
          have h2 := pieceS_len' hp
          exact ih _ _ _ (by omega) (ha.add hr (by omega) (by omega)) h
      · exact ih _ _ _ (by omega) (ha.add hr (p := txt (bs [c])) (by rw [show (txt (bs [c])).text = bs [c] from rfl, size_bs]; simp; omega) (by omega)) h
theorem fits_parseR (s : Str) : Fits 0 (parseR s).1 := by
  have h0 : Fits 0 [] := ⟨by simp, fun q hq => by cases hq⟩
  unfold parseR
  split
  · exact h0
  · split
    · cases h : parseS s with
      | none => exact h0
      | some ps => exact fits_parseF _ _ _ _ (by omega) ⟨by simp; omega, fun q hq => by cases hq⟩ h
    · exact h0
end Go.Proofs.YtifbcfpaifobjaaGreatDoor
