/-
  Contract of Parse: the pieces of a text.
-/
import Derived.Test.YthcgkeiggnfgiaaGreatDoorPieceC
namespace Go.Proofs.YthcgkeiggnfgiaaGreatDoor
open Go.RowKit
theorem cut_len2 (s sep : Str) : (Lib.cut s sep).1.length + (Lib.cut s sep).2.1.length ≤ s.length := by
  unfold Lib.cut
  split
  · dsimp only; rw [List.length_take, List.length_drop]; omega
  · simp
theorem bracesS_len {r a b : Str} (h : bracesS r = some (a, b)) : a.length + b.length ≤ r.length := by
  cases r with
  | nil => simp [bracesS] at h
  | cons x t =>
    rw [bracesS] at h
    have := cut_len2 t [125]
    split at h
    · split at h
      · injection h with h
        injection h with h1 h2
        subst h1 h2
        rw [List.length_cons]
        omega
      · cases h
    · cases h
theorem placeS_len {k : Nat} {r r' : Str} {p : Pc} (h : placeS k r = some (p, r')) : p.text.size + r'.length ≤ r.length := by
  unfold placeS at h
  split at h
  · cases h
  split at h
  · cases hb : bracesS r with
    | none => rw [hb] at h; cases h
    | some ab =>
      obtain ⟨a, b⟩ := ab
      have hl := bracesS_len hb
      rw [hb] at h
      simp only [Option.bind_some] at h
      split at h
      · injection h with h
        injection h with h1 h2
        subst h1 h2
        dsimp only
        rw [size_bs]; exact hl
      · cases h
  split at h
  · cases hb : bracesS r with
    | none => rw [hb] at h; cases h
    | some ab =>
      obtain ⟨a, b⟩ := ab
      have hl := bracesS_len hb
      rw [hb] at h
      simp only [Option.bind_some] at h
      split at h
      · injection h with h
        injection h with h1 h2
        subst h1 h2
        dsimp only
        rw [size_bs]; exact hl
      · cases h
  split at h
  · cases hb : bracesS r with
    | none => rw [hb] at h; cases h
    | some ab =>
      obtain ⟨a, b⟩ := ab
      have hl := bracesS_len hb
      rw [hb] at h
      simp only [Option.bind_some] at h
      cases hc : countS a with
      | none => rw [hc] at h; cases h
      | some nm =>
        rw [hc] at h
        simp only [Option.map_some] at h
        injection h with h
        injection h with h1 h2
        subst h1 h2
        dsimp only
        rw [size_bs]; simp; omega
  · injection h with h
    injection h with h1 h2
    subst h1 h2
    dsimp only
    rw [size_bs]; simp
theorem pieceS_len {c : UInt8} {r r' : Str} {p : Pc} (h : pieceS c r = some (p, r')) : p.text.size + r'.length ≤ r.length + 1 := by
  unfold pieceS at h
  split at h
  · injection h with h
    injection h with h1 h2
    subst h1 h2
    simp only [txt]
    rw [size_bs, List.length_tail]; simp; omega
  · have := placeS_len h
    rw [List.length_drop] at this
    omega
theorem pieceS_len' {c : UInt8} {r r' : Str} {p : Pc} (h : pieceS c r = some (p, r')) : r'.length ≤ r.length := by
  unfold pieceS at h
  split at h
  · injection h with h
    injection h with h1 h2
    subst h1 h2
    rw [List.length_tail]; omega
  · have := placeS_len h
    rw [List.length_drop] at this
    omega
theorem cut_mem (s sep : Str) : ∀ x ∈ (Lib.cut s sep).2.1, x ∈ s := by
  unfold Lib.cut
  split
  · intro x hx; exact List.mem_of_mem_drop hx
  · intro x hx; cases hx
theorem bracesS_mem {r a b : Str} (h : bracesS r = some (a, b)) : ∀ x ∈ b, x ∈ r := by
  cases r with
  | nil => simp [bracesS] at h
  | cons x t =>
    rw [bracesS] at h
    have := cut_mem t [125]
    split at h
    · split at h
      · injection h with h
        injection h with h1 h2
        subst h1 h2
        exact fun y hy => List.mem_cons_of_mem _ (this y hy)
      · cases h
    · cases h
theorem placeS_mem {k : Nat} {r r' : Str} {p : Pc} (h : placeS k r = some (p, r')) : ∀ x ∈ r', x ∈ r := by
  unfold placeS at h
  cases hb : bracesS r with
  | none =>
    simp only [hb, Option.bind_none] at h
    repeat' split at h
    all_goals first | (cases h; done) | (injection h with h; injection h with h1 h2; subst h2; exact fun x hx => hx)
  | some ab =>
    obtain ⟨a, b⟩ := ab
    have hm := bracesS_mem hb
    simp only [hb, Option.bind_some] at h
    split at h
    · cases h
    split at h
    · split at h
      · injection h with h; injection h with h1 h2; subst h2; exact hm
      · cases h
    split at h
    · split at h
      · injection h with h; injection h with h1 h2; subst h2; exact hm
      · cases h
    split at h
    · cases hc : countS a with
      | none => rw [hc] at h; cases h
      | some nm =>
        rw [hc] at h
        simp only [Option.map_some] at h
        injection h with h; injection h with h1 h2; subst h2; exact hm
    · injection h with h; injection h with h1 h2; subst h2; exact fun x hx => hx
theorem pieceS_mem {c : UInt8} {r r' : Str} {p : Pc} (h : pieceS c r = some (p, r')) : ∀ x ∈ r', x ∈ r := by
  unfold pieceS at h
  split at h
  · injection h with h
    injection h with h1 h2
    subst h2
    exact fun x hx => List.mem_of_mem_tail hx
  · have := placeS_mem h
    exact fun x hx => List.mem_of_mem_drop (this x hx)
theorem parseF_fuel : ∀ (n m : Nat) (r : Str) (acc : List Pc), r.length ≤ n → r.length ≤ m → parseF n r acc = parseF m r acc := by
  intro n
  induction n with
  | zero =>
    intro m r acc h1 h2
    cases r with
    | nil => cases m <;> rfl
    | cons c r => simp at h1
  | succ n ih =>
    intro m r acc h1 h2
    cases r with
    | nil => cases m <;> rfl
    | cons c r =>
      cases m with
      | zero => simp at h2
      | succ m =>
        simp only [List.length_cons] at h1 h2
        rw [parseF, parseF]
        split
        · cases hp : pieceS c r with
          | none => rfl
          | some pr' =>
            obtain ⟨p, r'⟩ := pr'
            have := pieceS_len' hp
            exact ih m r' _ (by omega) (by omega)
        · exact ih m r _ (by omega) (by omega)
/-- How much there is: no more than the text had. -/
def Fits (n : Nat) (ps : List Pc) : Prop := ps.length + n ≤ 256 ∧ ∀ q ∈ ps, q.text.size + n ≤ 256
theorem Fits.add {n m : Nat} {ps : List Pc} (h : Fits n ps) (hn : n ≤ 256) {p : Pc} (h1 : p.text.size + m ≤ n) (h2 : m + 1 ≤ n) : Fits m (addP ps p) := by
  unfold addP
  split
  · rename_i hk
    rcases List.eq_nil_or_concat ps with h0 | ⟨l, q, h0⟩
    · subst h0
      exact ⟨by simp [setLast]; omega, fun q hq => by simp [setLast] at hq⟩
    · rw [List.concat_eq_append] at h0
      subst h0
      rw [setLast_snoc]
      have := h.1
      simp only [List.length_append, List.length_singleton] at this
      refine ⟨by simp only [List.length_append, List.length_singleton]; omega, fun x hx => ?_⟩
      rcases List.mem_append.1 hx with hx | hx
      · have := h.2 x (by simp [hx]); omega
      · simp only [List.mem_singleton] at hx
        subst hx
        have := h.2 q (by simp)
        dsimp only
        rw [ByteArray.size_append]
        omega
  · refine ⟨by have := h.1; simp only [List.length_append, List.length_singleton]; omega, fun x hx => ?_⟩
    rcases List.mem_append.1 hx with hx | hx
    · have := h.2 x hx; omega
    · simp only [List.mem_singleton] at hx
      subst hx
      omega
/-- What Parse says of a text. -/
def parseR (s : Str) : List Pc × Int := if 256 < s.length then ([], 91) else if textS s then match parseS s with
    | some ps => (ps, 0)
    | none => ([], 90)
  else ([], 90)
def ParsePost (s : Str) (w : World) (e : Ending) (w' : World) : Prop :=
  ∃ v, e = .returned (.tuple #[v, .int .i64 (parseR s).2]) ∧ w'.ownsRow w.heap.size 241 4 v (parseR s).1.length (cellsOf encPc (parseR s).1) ∧ Below w.heap.size w w'
theorem indexAny_find (l : Str) : (Lib.indexAny l [36, 37] = -1 ∧ ∀ c ∈ l, sign c = false) ∨ ∃ k : Nat, k < l.length ∧ Lib.indexAny l [36, 37] = k ∧ (∀ c ∈ l.take k, sign c = false) ∧ ∃ c, l[k]? = some c ∧ sign c = true := by
  induction l with
  | nil => left; exact ⟨rfl, fun c h => by cases h⟩
  | cons b l ih =>
    have hs : [36, 37].contains b = sign b := by
      rw [Bool.eq_iff_iff]; simp [sign]
    by_cases hb : sign b = true
    · right
      refine ⟨0, by simp, ?_, fun c h => by simp at h, b, rfl, hb⟩
      rw [Lib.indexAny, hs, hb]; rfl
    · have hb : sign b = false := by simpa using hb
      have e : Lib.indexAny (b :: l) [36, 37] = if Lib.indexAny l [36, 37] == -1 then -1 else Lib.indexAny l [36, 37] + 1 := by
        rw [Lib.indexAny, hs, hb]; rfl
      rcases ih with ⟨h1, h2⟩ | ⟨k, hk, h1, h2, c, hc, h3⟩
      · left
        refine ⟨by rw [e, h1]; rfl, fun c hc => ?_⟩
        rcases List.mem_cons.1 hc with rfl | hc
        · exact hb
        · exact h2 c hc
      · right
        refine ⟨k + 1, by simp; omega, ?_, fun c' hc' => ?_, c, by simpa using hc, h3⟩
        · rw [e, h1]
          rw [if_neg (by simp)]
          exact (Int.natCast_succ k).symm
        · rw [List.take_succ_cons] at hc'
          rcases List.mem_cons.1 hc' with rfl | hc'
          · exact hb
          · exact h2 c' hc'
theorem add_text (g : Nat) (rest : ByteArray) (ps : List Pc) (t : ByteArray) (w : World) (h : Rd w g rest ps) (hn : ps.length ≤ 10000) (hq : ∀ q ∈ ps, q.text.size ≤ 1000000) (ht : t.size ≤ 1000000) :
    Calls Tryz.prog 258 #[.pointer (some ⟨g, 0, none⟩), .agg #[.int .i64 1, .string t, .int .i64 0, .bool false]] w (AddPost g rest ps (txt t) w) := add_any g rest ps (txt t) w h hn hq ht (fun _ => rfl)
set_option maxRecDepth 100000 in
set_option maxHeartbeats 2000000 in
theorem Parse_any (s : ByteArray) (w : World) (hE : Env w) (hs : s.size ≤ 9223372036854775807) :
    Calls Tryz.prog 221 #[.string s] w (ParsePost (L s) w) := by
  have hEs := hE.size
  by_cases h256 : 256 < s.size
  · have hR : parseR (L s) = ([], 91) := by rw [parseR, len_L, if_pos h256]
    have HR := Lib.hid hR
    clear hR
    go_enter Tryz.func221, Tryz.ntmps221
    go_wp2
    go_ret2
    exact ⟨.slice none 0 0, by rw [HR.out]; rfl, by rw [HR.out]; exact ⟨rfl, .inl ⟨rfl, rfl⟩⟩, Below.refl _ _⟩
  have h256 : s.size ≤ 256 := by omega
  have HT := Text_any s w hs
  cases ht : textS (L s)
  · have hR : parseR (L s) = ([], 90) := by rw [parseR, len_L, if_neg (by omega), ht]; rfl
    have HR := Lib.hid hR
    rw [ht] at HT
    clear hR ht
    go_enter Tryz.func221, Tryz.ntmps221
    go_wp2_with (go_at_call 255; refine HT.mono ?_; rintro e w' ⟨rfl, rfl⟩)
    go_ret2
    exact ⟨.slice none 0 0, by rw [HR.out]; rfl, by rw [HR.out]; exact ⟨rfl, .inl ⟨rfl, rfl⟩⟩, Below.refl _ _⟩
  rw [ht] at HT
  have hasc : ∀ c ∈ L s, c.toNat < 128 := by
    have h1 : printS (L s) = true := by rw [textS] at ht; simp at ht; exact ht.1
    intro c hc
    have := List.all_eq_true.1 h1 c hc
    simp [pr] at this
    omega
  have hR : parseR (L s) = match parseS (L s) with
    | some ps => (ps, 0)
    | none => ([], 90) := by rw [parseR, len_L, if_neg (by omega), ht]; rfl
  have HR := Lib.hid hR
  have HA := Lib.hid hasc
  clear hR ht hasc
  go_enter Tryz.func221, Tryz.ntmps221
  go_wp2_with (go_at_call 255; refine HT.mono ?_; rintro e w' ⟨rfl, rfl⟩)
  obtain ⟨W1, hW1⟩ : ∃ W1, w.alloc (.cells #[.string s, .slice none 0 0] 281) = W1 := ⟨_, rfl⟩
  rw [hW1]
  have hR1 : Rd W1 w.heap.size s [] := ⟨.slice none 0 0, by rw [← hW1]; exact heap_alloc_new _ _, rfl, .inl ⟨rfl, rfl⟩⟩
  have hB1 : Below w.heap.size w W1 := by rw [← hW1]; exact (Below.refl _ _).alloc (Nat.le_refl _) _
  have hE1 := hE.go hB1
  have HR1 := Lib.hid hR1
  have HB1 := Lib.hid hB1
  have HE1 := Lib.hid hE1
  have HEw := Lib.hid hE
  clear hR1 hB1 hE1 hW1 hE HT
  go_loopg [5] s.size (fun gk i wr => ∃ rest ps, rest.size ≤ gk ∧ rest.size ≤ 256 ∧ Hid (Rd wr w.heap.size rest ps) ∧ Hid (Below w.heap.size w wr) ∧ Hid (Fits rest.size ps) ∧ Hid (parseS (L s) = parseF rest.size (L rest) ps) ∧ Hid (∀ c ∈ L rest, c.toNat < 128))
  case atStart => exact ⟨s, [], Nat.le_refl _, h256, HR1.out, HB1.out, ⟨by simp; omega, fun q hq => by cases hq⟩, (by show parseS (L s) = _; rw [parseS, len_L]), HA.out⟩
  case round =>
    obtain ⟨rest, ps, hgk, hrz, hRd, hBl, hF, hP, hAs⟩ := hrel
    have hc0 := hRd.out.c0
    obtain ⟨c0, f0⟩ := hc0
    have hlt := hRd.out.lt
    by_cases h0 : rest = ⟨#[]⟩
    · subst h0
      obtain ⟨v, hh, ho⟩ := hRd.out.ex
      have c1 : wr.cell? ⟨w.heap.size, 1, none⟩ = some v := by rw [cell_of_row _ _ 1 _ _ _ hh]; rfl
      have Ho := Lib.hid ho
      clear hh ho
      have hres : parseR (L s) = (ps, 0) := by rw [HR.out, hP.out]; rfl
      have HRes := Lib.hid hres
      clear hres
      go_wp2
      go_ret2
      exact ⟨v, by rw [HRes.out]; rfl, by rw [HRes.out]; exact ⟨Ho.out.1, by
        rcases Ho.out.2 with h | ⟨g, cap, cur, h1, h2, h3⟩
        · exact .inl h
        · exact .inr ⟨g, cap, cur, h1, by omega, h3⟩⟩, hBl.out⟩
    · have h0' : rest.toList ≠ [] := fun e => h0 (L_inj (by rw [← tl, e]))
      have h0'' : rest.toList.isEmpty = false := by simpa using h0'
      have hpos : 1 ≤ rest.size := by
        rcases Nat.eq_zero_or_pos rest.size with h | h
        · exact absurd (L_inj (by have := len_L rest; rw [h] at this; exact (List.length_eq_zero_iff.1 this).trans rfl)) h0
        · exact h
      have HI := Tryz.strings_IndexAny_laid rest ⟨#[36, 37]⟩ wr (by omega) (by decide) (fun j b hb => hAs.out b (List.mem_of_getElem? hb)) (fun j b hb => by
        have : b ∈ ([36, 37] : Str) := List.mem_of_getElem? hb
        simp at this
        rcases this with rfl | rfl <;> decide)
      change Calls _ _ _ _ (fun e w' => e = .returned (.int .i64 (Lib.indexAny (L rest) [36, 37])) ∧ Below wr.heap.size wr w') at HI
      have hfind := indexAny_find (L rest)
      rw [len_L] at hfind
      generalize Lib.indexAny (L rest) [36, 37] = ix at *
      have HRun : Hid (∀ q : Nat, 0 < q → q ≤ rest.size → (∀ c ∈ (L rest).take q, sign c = false) → parseS (L s) = parseF (rest.size - q) ((L rest).drop q) (addP ps (txt (rest.extract 0 q)))) := fun q hq0 hq1 hq2 => by
        have hl : ((L rest).take q).length = q := by rw [List.length_take, len_L]; omega
        have := parseF_run ((L rest).take q) ((L rest).drop q) hq2 (fun e => by rw [e] at hl; simp at hl; omega) (rest.size - q) ps
        rw [hl, List.take_append_drop, Nat.sub_add_cancel hq1] at this
        rw [hP.out, this]
        congr 3
        exact (eq_bs (by rw [L_extract, List.drop_zero])).symm
      rcases hfind with ⟨rfl, hno⟩ | ⟨k, hk, rfl, hno, c, hck, hsc⟩
      · have HNo := Lib.hid hno
        clear hno h0
        go_wp2_with (go_at_call 257; refine HI.mono ?_; rintro e w1 ⟨rfl, hb1⟩; have c1 := (hRd.out.keep hb1).c0; obtain ⟨c1, f1⟩ := c1)
        have hF1 := hF.out.1
        have hF2 : ∀ q ∈ ps, q.text.size ≤ 1000000 := fun q hq => by have := hF.out.2 q hq; omega
        have HAdd := add_text w.heap.size rest ps rest w1 (hRd.out.keep hb1) (by omega) hF2 (by omega)
        with_reducible refine HAdd.mono ?_
        rintro e w2 ⟨rfl, hR2, hB2⟩
        obtain ⟨c2, f2⟩ := hR2.c0
        have hlt2 := hR2.lt
        have hR3 := Lib.hid (hR2.cut ⟨#[]⟩)
        have hB3 := Lib.hid (((hBl.out.trans (hb1.mono (Nat.le_of_lt hlt))).trans hB2).setCell (p := ⟨w.heap.size, 0, none⟩) (Nat.le_refl _) (.string ⟨#[]⟩))
        clear hb1 hR2 hB2 hF2
        go_wp2_with fail
        have he : rest.extract rest.size rest.size = ⟨#[]⟩ := L_inj (by rw [L_extract]; simp)
        go_roundg (gk - 1)
        case measure => omega
        case rel =>
          refine ⟨⟨#[]⟩, addP ps (txt rest), Nat.zero_le _, Nat.zero_le _, ?_, ?_, ?_, ?_, fun c hc => by cases hc⟩
          · first | exact hR3.out | (rw [he]; exact hR3.out)
          · first | exact hB3.out | (rw [he]; exact hB3.out)
          · exact hF.out.add hrz (p := txt rest) (m := 0) (by show rest.size + 0 ≤ rest.size; omega) (by omega)
          · have := HRun.out rest.size hpos (Nat.le_refl _) (fun c hc => HNo.out c (List.mem_of_mem_take hc))
            rw [this, Nat.sub_self, List.drop_of_length_le (by rw [len_L]; exact Nat.le_refl _), show rest.extract 0 rest.size = rest from L_inj (by rw [L_extract, List.drop_zero, List.take_of_length_le (by rw [len_L]; exact Nat.le_refl _)])]
            rfl
      · by_cases hk0 : k = 0
        · subst hk0
          have hL : ∃ r, L rest = c :: r := by
            cases hl : L rest with
            | nil => rw [hl] at hck; simp at hck
            | cons a b => rw [hl] at hck; simp at hck; exact ⟨b, by rw [hck]⟩
          obtain ⟨r, hL⟩ := hL
          have hrl : r.length + 1 = rest.size := by rw [← len_L, hL]; rfl
          have HPc := fun W (hb : Below wr.heap.size wr W) => piece_any w.heap.size rest ps c r W (hRd.out.keep hb) (HEw.out.keep (hBl.out.trans (hb.mono (Nat.le_of_lt hlt))) hEs) hEs hL (by omega) (by have := hF.out.1; omega) (fun q hq => by have := hF.out.2 q hq; omega)
          have hpf : parseF rest.size (L rest) ps = match pieceS c r with
              | some (p, r') => parseF r.length r' (addP ps p)
              | none => none := by rw [← hrl, hL, parseF, hsc]; rfl
          have HPF := Lib.hid hpf
          have HLr := Lib.hid hL
          have HPL : Hid (∀ p r', pieceS c r = some (p, r') → p.text.size + r'.length ≤ r.length + 1 ∧ r'.length ≤ r.length) := fun p r' e => ⟨pieceS_len e, pieceS_len' e⟩
          clear hpf hL hck hsc hno h0 hk
          cases hpc : pieceS c r with
          | none =>
            have HPC := Lib.hid hpc
            have HPc' : ∀ W, Below wr.heap.size wr W → Calls Tryz.prog 259 #[.pointer (some ⟨w.heap.size, 0, none⟩)] W fun e w' => e = .returned (.bool false) ∧ Below w.heap.size W w' := fun W hb => (HPc W hb).mono fun e w' h => ⟨by rw [h.1, hpc]; rfl, h.2.2⟩
            have hres : parseR (L s) = ([], 90) := by rw [HR.out, hP.out, HPF.out, hpc]
            have HRes := Lib.hid hres
            clear hres hpc HPc
            go_wp2_with (first | (go_at_call 257; refine HI.mono ?_; rintro e w1 ⟨rfl, hb1⟩; have c1 := (hRd.out.keep hb1).c0; obtain ⟨c1, f1⟩ := c1; have HB1 := Lib.hid hb1) | (go_at_call 259; refine (HPc' _ hb1).mono ?_; rintro e w2 ⟨rfl, hb2⟩))
            go_ret2
            exact ⟨.slice none 0 0, by rw [HRes.out]; rfl, by rw [HRes.out]; exact ⟨rfl, .inl ⟨rfl, rfl⟩⟩, (hBl.out.trans (HB1.out.mono (Nat.le_of_lt hlt))).trans hb2⟩
          | some pr' =>
            obtain ⟨p, r'⟩ := pr'
            have HPC := Lib.hid hpc
            have HPc' : ∀ W, Below wr.heap.size wr W → Calls Tryz.prog 259 #[.pointer (some ⟨w.heap.size, 0, none⟩)] W fun e w' => e = .returned (.bool true) ∧ (∃ rest', L rest' = r' ∧ Rd w' w.heap.size rest' (addP ps p)) ∧ Below w.heap.size W w' := fun W hb => (HPc W hb).mono fun e w' h => ⟨by rw [h.1, hpc]; rfl, h.2.1 p r' hpc, h.2.2⟩
            have hpf2 : parseS (L s) = parseF r.length r' (addP ps p) := by rw [hP.out, HPF.out, hpc]
            have HPF2 := Lib.hid hpf2
            clear hpf2 hpc HPc
            go_wp2_with (first | (go_at_call 257; refine HI.mono ?_; rintro e w1 ⟨rfl, hb1⟩; have c1 := (hRd.out.keep hb1).c0; obtain ⟨c1, f1⟩ := c1; have HB1 := Lib.hid hb1) | (go_at_call 259; refine (HPc' _ hb1).mono ?_; rintro e w2 ⟨rfl, ⟨rest', hLr, hR2⟩, hb2⟩))
            have hl2 := HPL.out p r' HPC.out
            have hz2 : rest'.size = r'.length := by rw [← len_L, hLr]
            go_roundg (gk - 1)
            case measure => omega
            case rel =>
              refine ⟨rest', addP ps p, by omega, by omega, hR2, (hBl.out.trans (HB1.out.mono (Nat.le_of_lt hlt))).trans hb2, ?_, ?_, ?_⟩
              · exact hF.out.add hrz (p := p) (by omega) (by omega)
              · show _ = _
                rw [HPF2.out, hLr, hz2]
                exact parseF_fuel _ _ _ _ hl2.2 (Nat.le_refl _)
              · intro c' hc'
                exact hAs.out c' (by rw [HLr.out]; exact List.mem_cons_of_mem _ (pieceS_mem HPC.out c' (hLr ▸ hc')))
        · have HNo := Lib.hid hno
          have hkp : 0 < k := by omega
          have hki : (0 : Int) < (k : Int) := by omega
          have hkr : (k : Int) ≤ (rest.size : Int) := by omega
          have hz : (rest.extract 0 k).size ≤ 1000000 := by rw [size_extract]; omega
          clear hno h0 hk0
          go_wp2_with (go_at_call 257; refine HI.mono ?_; rintro e w1 ⟨rfl, hb1⟩; have c1 := (hRd.out.keep hb1).c0; obtain ⟨c1, f1⟩ := c1)
          have hF1 := hF.out.1
          have hF2 : ∀ q ∈ ps, q.text.size ≤ 1000000 := fun q hq => by have := hF.out.2 q hq; omega
          have HAdd := add_text w.heap.size rest ps (rest.extract 0 k) w1 (hRd.out.keep hb1) (by omega) hF2 hz
          with_reducible refine HAdd.mono ?_
          rintro e w2 ⟨rfl, hR2, hB2⟩
          obtain ⟨c2, f2⟩ := hR2.c0
          have hlt2 := hR2.lt
          have hR3 := Lib.hid (hR2.cut (rest.extract k rest.size))
          have hB3 := Lib.hid (((hBl.out.trans (hb1.mono (Nat.le_of_lt hlt))).trans hB2).setCell (p := ⟨w.heap.size, 0, none⟩) (Nat.le_refl _) (.string (rest.extract k rest.size)))
          clear hb1 hR2 hB2 hF2
          go_wp2_with fail
          have hsz : (rest.extract k rest.size).size = rest.size - k := by rw [size_extract]; omega
          have hdr : L (rest.extract k rest.size) = (L rest).drop k := by rw [L_extract, List.take_of_length_le (by rw [len_L]; exact Nat.le_refl _)]
          go_roundg (gk - 1)
          case measure => omega
          case rel =>
            refine ⟨rest.extract k rest.size, addP ps (txt (rest.extract 0 k)), by omega, by omega, hR3.out, hB3.out, ?_, ?_, ?_⟩
            · exact hF.out.add hrz (p := txt (rest.extract 0 k)) (by rw [show (txt (rest.extract 0 k)).text.size = (rest.extract 0 k).size from rfl, hsz, size_extract]; omega) (by omega)
            · have := HRun.out k hkp (by omega) HNo.out
              show _ = _
              rw [this, hsz, hdr]
            · exact fun c hc => hAs.out c (List.mem_of_mem_drop (hdr ▸ hc))
set_option maxRecDepth 100000 in
set_option maxHeartbeats 1000000 in
theorem Check_any (s : ByteArray) (w : World) (hE : Env w) (hs : s.size ≤ 9223372036854775807) :
    Calls Tryz.prog 167 #[.string s] w fun e w' => e = .returned (.int .i64 (parseR (L s)).2) ∧ Below w.heap.size w w' := by
  have HP := Parse_any s w hE hs
  clear hE
  go_enter Tryz.func167, Tryz.ntmps167
  go_wp2_with (go_at_call 221; refine HP.mono ?_; rintro e w' ⟨v, rfl, _, hb⟩)
  go_ret
  exact ⟨rfl, hb⟩
def encP (p : Pc) : Value := .agg #[.int .i64 p.kind, .string p.text, .int .i64 p.word, .bool p.more]
end Go.Proofs.YthcgkeiggnfgiaaGreatDoor
