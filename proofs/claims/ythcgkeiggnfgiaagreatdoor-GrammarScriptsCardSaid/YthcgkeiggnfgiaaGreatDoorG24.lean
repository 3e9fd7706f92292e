/-
  Contract of the reference's add.
  Plain facts for the reference's Parse: the letters, the run of a word, one step.
-/
import Derived.Test.YthcgkeiggnfgiaaGreatDoorRefQ
namespace Go.Proofs.YthcgkeiggnfgiaaGreatDoor
open Go.RowKit
/-- What the reference's add leaves. -/
def RAddPost (base : Nat) (ps : List Pc) (p : Pc) (w : World) (e : Ending) (w' : World) : Prop := ∃ v', e = .returned v' ∧ w'.ownsRow base 241 4 v' (addP ps p).length (cellsOf encPc (addP ps p)) ∧ Below base w w'
theorem rappended {base : Nat} {v : Value} {ps : List Pc} {p : Pc} {w W w2 : World} {g2 cap : Nat} (hb : Below w.heap.size w W) (hbase : base ≤ w.heap.size) (ho : w.ownsRow base 241 4 v ps.length (cellsOf encPc ps))
    (hno : ¬(p.kind = 1 ∧ (ps.getLast?.map (·.kind)) = some 1)) (hg : W.grownBy w2 v.ownBlock)
    (h2 : w2.ownsRow base 241 4 (.slice (some ⟨g2, 0, none⟩) (ps.length + 1) cap) (ps.length + 1) (cellsOf encPc ps ++ encPc p)) :
    w2.ownsRow base 241 4 (.slice (some ⟨g2, 0, none⟩) (ps.length + 1) cap) (addP ps p).length (cellsOf encPc (addP ps p)) ∧ Below base w w2 := by
  refine ⟨?_, (hb.mono hbase).grown hg (Nat.le_trans hbase hb.size) (fun k hk => (ho.lt k hk).1)⟩
  rw [addP_app hno, List.length_append, List.length_singleton, cellsOf_append]
  have e : cellsOf encPc [p] = encPc p := by simp [cellsOf]
  rw [e]
  exact h2
set_option maxRecDepth 100000 in
set_option maxHeartbeats 2000000 in
theorem Radd_any (base : Nat) (v : Value) (ps : List Pc) (p : Pc) (w : World) (ho : w.ownsRow base 241 4 v ps.length (cellsOf encPc ps)) (hbase : base ≤ w.heap.size) (hn : ps.length ≤ 10000)
    (hq : ∀ q ∈ ps, q.text.size ≤ 1000000) (ht : p.text.size ≤ 1000000) (hp : p.kind = 1 → p = txt p.text) :
    Calls Tryz.prog 215 #[v, encP p] w (RAddPost base ps p w) := by
  unfold encP
  obtain ⟨i0, hi0, hz0, hz1, hz2⟩ := info_parts pieceInfo
  obtain ⟨A, c, rfl⟩ : ∃ A c, v = .slice A ps.length c := by
    rcases ho.2 with ⟨h1, h2⟩ | ⟨g', cap, cur, h1, _⟩
    · exact ⟨_, _, by rw [h2]; exact h1⟩
    · exact ⟨_, _, h1⟩
  have Ho := Lib.hid ho
  clear ho
  rcases List.eq_nil_or_concat ps with h0 | ⟨m, q, h0⟩
  · subst h0
    have hno : ¬(p.kind = 1 ∧ (([] : List Pc).getLast?.map (·.kind)) = some 1) := fun h => by simp at h
    have Hno := Lib.hid hno
    clear hno hq hp
    simp only [List.length_nil]
    go_enter Tryz.func215, Tryz.ntmps215
    go_wp2_with (refine wpList_append_lies _ rfl _ _ _ (by rfl) base 241 i0 _ 4 40 Tryz.underlying193 hi0 hz0 hz1 hz2 rfl (by omega) (.slice A 0 c) 0 (cellsOf encPc []) (by rfl) (own_keep Ho.out (by go_grown)) _ 1 1 (encPc p) (by rfl) (by rfl) (by exact World.news_of_block (B := w.heap.size + 1) (heap_alloc2_new w _ _)) (encPc_one p) (by omega) (by unfold maxLen; omega) (by omega) (by simp; omega) _ rfl ?_; intro g2 cap w2 hown2 hgrow2 hat2 hlt2)
    go_ret
    have hR := rappended (p := p) (by go_grown) hbase Ho.out Hno.out hgrow2 hown2
    exact ⟨_, rfl, hR.1, hR.2⟩
  · rw [List.concat_eq_append] at h0
    subst h0
    obtain ⟨b, cap, hA, hbg, hb⟩ := Ho.out.form (by simp)
    obtain ⟨rfl, rfl⟩ : A = some ⟨b, 0, none⟩ ∧ c = cap := by injection hA with h1 h2 h3; exact ⟨h1, h3⟩
    have cq : w.cell? ⟨b, m.length * 4, none⟩ = some (.int .i64 q.kind) := by
      rw [Ho.out.cellAt (m.length * 4) (by simp), cellsOf_append, List.getElem?_append_right (by rw [cellsOf_len encPc 4 encPc_len]; omega), cellsOf_len encPc 4 encPc_len, Nat.sub_self]
      rfl
    have Hoo : Hid (w.ownsRow base 241 4 (.slice (some ⟨b, 0, none⟩) (m.length + 1) c) (m.length + 1) (cellsOf encPc (m ++ [q]))) := by
      have := Ho.out
      simp only [List.length_append, List.length_singleton] at this
      exact this
    have e1 : m.length + 1 = (m ++ [q]).length := by simp
    have E1 := Lib.hid e1
    simp only [List.length_append, List.length_singleton] at hn ⊢
    clear hA e1
    by_cases hpk : p.kind = 1
    · by_cases hqk : q.kind = 1
      · have htx := hq q (by simp)
        have hpt := hp hpk
        have ct : w.cell? ⟨b, m.length * 4 + 1, none⟩ = some (.string q.text) := by
          rw [Ho.out.cellAt (m.length * 4 + 1) (by simp; omega), cellsOf_append, List.getElem?_append_right (by rw [cellsOf_len encPc 4 encPc_len]; omega), cellsOf_len encPc 4 encPc_len, Nat.add_sub_cancel_left]
          rfl
        have ft : w.frozen? ⟨b, m.length * 4 + 1, none⟩ = false := Ho.out.frozenAt _
        rw [hqk] at cq
        have Hqk := Lib.hid hqk
        have Hpk := Lib.hid hpk
        rw [hpk]
        have Hpt := Lib.hid hpt
        clear hq hp hpk hqk hpt
        go_enter Tryz.func215, Tryz.ntmps215
        go_wp2
        go_region
        all_goals go_wp2
        all_goals
          go_ret
          have hs := (Hoo.out.stored (m.length * 4 + 1) (.string (q.text ++ p.text))).1
          rw [cells_setLast] at hs
          have hadd : addP (m ++ [q]) p = m ++ [{ q with text := q.text ++ p.text }] := by
            rw [addP, if_pos ⟨Hpk.out, by simp [Hqk.out]⟩, setLast_snoc]
          refine ⟨_, rfl, ?_, ?_⟩
          · rw [hadd]
            have e2 : (m ++ [{ q with text := q.text ++ p.text }]).length = m.length + 1 := by simp
            rw [e2]
            exact (own_keep hs (below_alloc _ _)).drew
          · exact (((Below.refl _ _).setCell (p := ⟨b, m.length * 4 + 1, none⟩) hbg _).alloc (by simpa [World.setCell] using hbase) _).drew
      · have hq1 : (q.kind == 1) = false := by simpa using hqk
        have hno : ¬(p.kind = 1 ∧ ((m ++ [q]).getLast?.map (·.kind)) = some 1) := fun h => hqk (by simpa using h.2)
        have Hno := Lib.hid hno
        have Hpk := Lib.hid hpk
        have hpk1 : (p.kind == 1) = true := by simpa using hpk
        clear hq hp hpk hqk hno
        go_enter Tryz.func215, Tryz.ntmps215
        go_wp2_with (refine wpList_append_lies _ rfl _ _ _ (by rfl) base 241 i0 _ 4 40 Tryz.underlying193 hi0 hz0 hz1 hz2 rfl (by omega) (.slice (some ⟨b, 0, none⟩) (m.length + 1) c) (m.length + 1) (cellsOf encPc (m ++ [q])) (by rfl) (own_keep Hoo.out (by go_grown)) _ 1 1 (encPc p) (by rfl) (by rfl) (by exact World.news_of_block (B := w.heap.size + 1) (heap_alloc2_new w _ _)) (encPc_one p) (by omega) (by unfold maxLen; omega) (by omega) (by simp; omega) _ rfl ?_; intro g2 cap w2 hown2 hgrow2 hat2 hlt2)
        go_ret
        rw [E1.out] at hown2
        have hR := rappended (p := p) (by go_grown) hbase (by rw [← E1.out]; exact Hoo.out) Hno.out hgrow2 hown2
        rw [← E1.out] at hR
        exact ⟨_, rfl, hR.1, hR.2⟩
    · have hno : ¬(p.kind = 1 ∧ ((m ++ [q]).getLast?.map (·.kind)) = some 1) := fun h => hpk h.1
      have Hno := Lib.hid hno
      have hpk1 : (p.kind == 1) = false := by simpa using hpk
      clear hq hp hpk hno
      go_enter Tryz.func215, Tryz.ntmps215
      go_wp2_with (refine wpList_append_lies _ rfl _ _ _ (by rfl) base 241 i0 _ 4 40 Tryz.underlying193 hi0 hz0 hz1 hz2 rfl (by omega) (.slice (some ⟨b, 0, none⟩) (m.length + 1) c) (m.length + 1) (cellsOf encPc (m ++ [q])) (by rfl) (own_keep Hoo.out (by go_grown)) _ 1 1 (encPc p) (by rfl) (by rfl) (by exact World.news_of_block (B := w.heap.size + 1) (heap_alloc2_new w _ _)) (encPc_one p) (by omega) (by unfold maxLen; omega) (by omega) (by simp; omega) _ rfl ?_; intro g2 cap w2 hown2 hgrow2 hat2 hlt2)
      go_ret
      rw [E1.out] at hown2
      have hR := rappended (p := p) (by go_grown) hbase (by rw [← E1.out]; exact Hoo.out) Hno.out hgrow2 hown2
      rw [← E1.out] at hR
      exact ⟨_, rfl, hR.1, hR.2⟩
end Go.Proofs.YthcgkeiggnfgiaaGreatDoor
namespace Go.Proofs.YthcgkeiggnfgiaaGreatDoor
open Go.RowKit
def rletters : Str := [32, 32, 107, 110, 112, 98, 100, 115, 69, 99, 80, 32]
theorem letters_all : ((List.range 256).all fun n => if n = 32 then kindOf false [UInt8.ofNat n] == 0 else (kindOf false [UInt8.ofNat n] : Int) == max 0 (Lib.indexByte rletters (UInt8.ofNat n))) = true := by kernel_rfl
theorem letters_at (b : UInt8) : (b = 32 → kindOf false [b] = 0) ∧ (b ≠ 32 → (kindOf false [b] : Int) = max 0 (Lib.indexByte rletters b)) := by
  have h := List.all_eq_true.1 letters_all b.toNat (List.mem_range.2 (UInt8.toNat_lt b))
  have e : UInt8.ofNat b.toNat = b := by simp
  rw [e] at h
  by_cases hb : b.toNat = 32
  · rw [if_pos hb] at h
    have h1 : b = 32 := UInt8.toNat_inj.1 hb
    exact ⟨fun _ => by simpa using h, fun h2 => absurd h1 h2⟩
  · rw [if_neg hb] at h
    exact ⟨fun h1 => absurd (by rw [h1]; rfl) hb, fun _ => by simpa using h⟩
theorem kind_none : kindOf false [] = 0 ∧ kindOf true [] = 0 := by decide
theorem low_iff (b : UInt8) : lowL.contains b = (decide (97 ≤ (b.toNat : Int)) && decide ((b.toNat : Int) ≤ 122)) := by
  have h : ((List.range 256).all fun n => lowL.contains (UInt8.ofNat n) == (decide (97 ≤ ((UInt8.ofNat n).toNat : Int)) && decide (((UInt8.ofNat n).toNat : Int) ≤ 122))) = true := by kernel_rfl
  have h := List.all_eq_true.1 h b.toNat (List.mem_range.2 (UInt8.toNat_lt b))
  have e : UInt8.ofNat b.toNat = b := by simp
  rw [e] at h
  simpa using h
theorem wordLen_at (r : Str) (k : Nat) (hk : k ≤ r.length) (h1 : ∀ (j : Nat) b, j < k → r[j]? = some b → lowL.contains b = true) (h2 : ∀ b, r[k]? = some b → lowL.contains b = false) : wordLen true r = k := by
  unfold wordLen
  rw [if_pos rfl, Lib.trimLeftS_drop r lowL k hk h1 h2, List.length_drop]
  omega
/-- One step of the reading. -/
theorem parseF_step (n : Nat) (c : UInt8) (r : Str) (acc : List Pc) (hn : r.length + 1 ≤ n) : ∃ n', r.length ≤ n' ∧
    parseF n (c :: r) acc = if sign c = true then (match pieceS c r with
      | some (p, r') => parseF n' r' (addP acc p)
      | none => none) else parseF n' r (addP acc (txt (bs [c]))) := by
  cases n with
  | zero => omega
  | succ n => exact ⟨n, by omega, rfl⟩
theorem cons_of {t : ByteArray} (h : t ≠ ⟨#[]⟩) : ∃ c r, L t = c :: r := by
  cases hl : L t with
  | nil => exact absurd (L_inj hl) h
  | cons c r => exact ⟨c, r, rfl⟩
theorem ext01 {t : ByteArray} {c : UInt8} {r : Str} (h : L t = c :: r) : t.extract 0 1 = bs [c] := L_inj (by rw [L_extract, h, L_bs]; rfl)
theorem ext1 {t : ByteArray} {c : UInt8} {r : Str} (h : L t = c :: r) : t.extract 1 t.size = bs r := L_inj (by rw [L_extract, List.take_of_length_le (by rw [len_L]; exact Nat.le_refl _), h, L_bs]; rfl)
theorem ext2 {t : ByteArray} {c d : UInt8} {r : Str} (h : L t = c :: d :: r) : t.extract 2 t.size = bs r := L_inj (by rw [L_extract, List.take_of_length_le (by rw [len_L]; exact Nat.le_refl _), h, L_bs]; rfl)
theorem at0 {t : ByteArray} {c : UInt8} {r : Str} (h : L t = c :: r) (h0 : 0 < t.size) : t[0] = c := by
  have : (L t)[0]? = some c := by rw [h]; rfl
  rw [List.getElem?_eq_getElem (by rw [len_L]; exact h0)] at this
  injection this
theorem at1 {t : ByteArray} {c d : UInt8} {r : Str} (h : L t = c :: d :: r) (h0 : 1 < t.size) : t[1] = d := by
  have : (L t)[1]? = some d := by rw [h]; rfl
  rw [List.getElem?_eq_getElem (by rw [len_L]; exact h0)] at this
  injection this
theorem toNat_eq (a b : UInt8) : ((a.toNat : Int) == (b.toNat : Int)) = (a == b) := by
  rw [Bool.eq_iff_iff]
  simp
  constructor
  · intro h; exact UInt8.toNat_inj.1 (by omega)
  · intro h; rw [h]
theorem kOf_ne1' (long : Bool) (w : Str) : kindOf long w ≠ 1 := kindOf_ne1 long w
theorem place_ne1 {k : Nat} {r r' : Str} {p : Pc} (h : placeS k r = some (p, r')) (hk : k ≠ 1) : p.kind ≠ 1 := by
  unfold placeS at h
  split at h
  · cases h
  split at h
  · cases hb : bracesS r with
    | none => rw [hb] at h; cases h
    | some ab =>
      rw [hb] at h
      simp only [Option.bind_some] at h
      split at h
      · injection h with h; injection h with h1 h2; subst h1; show (7 : Int) ≠ 1; decide
      · cases h
  split at h
  · cases hb : bracesS r with
    | none => rw [hb] at h; cases h
    | some ab =>
      rw [hb] at h
      simp only [Option.bind_some] at h
      split at h
      · injection h with h; injection h with h1 h2; subst h1; show (8 : Int) ≠ 1; decide
      · cases h
  split at h
  · cases hb : bracesS r with
    | none => rw [hb] at h; cases h
    | some ab =>
      rw [hb] at h
      simp only [Option.bind_some] at h
      cases hc : countS ab.1 with
      | none => rw [hc] at h; cases h
      | some nm =>
        rw [hc] at h
        simp only [Option.map_some] at h
        injection h with h; injection h with h1 h2; subst h1; show (9 : Int) ≠ 1; decide
  · injection h with h; injection h with h1 h2; subst h1
    show (k : Int) ≠ 1
    omega
end Go.Proofs.YthcgkeiggnfgiaaGreatDoor
