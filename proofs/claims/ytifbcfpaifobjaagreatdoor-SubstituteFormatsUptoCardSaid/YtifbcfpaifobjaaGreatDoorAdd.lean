/-
  Contract of the reader's add.
-/
import Derived.Test.YtifbcfpaifobjaaGreatDoorWord
namespace Go.Proofs.YtifbcfpaifobjaaGreatDoor
open Go.RowKit
theorem pieceInfo : (Tryz.prog.info? 64).map (fun i => (i.zero, i.size, i.bytes)) = some (some (.agg #[.int .i64 0, .string ⟨#[]⟩, .int .i64 0, .bool false]), 4, 40) := by kernel_rfl
theorem addP_app {l : List Pc} {p : Pc} (h : ¬(p.kind = 1 ∧ (l.getLast?.map (·.kind)) = some 1)) : addP l p = l ++ [p] := by rw [addP, if_neg h]
theorem own_keep {w w' : World} {base k n : Nat} {e : TypeId} {v : Value} {xs : List Value} (h : w.ownsRow base e k v n xs) (hb : Below w.heap.size w w') : w'.ownsRow base e k v n xs :=
  h.kept (row := none) ⟨hb.os, hb.tape, hb.output, hb.size, fun k hk _ => hb.block k hk⟩ (by
    rcases h.2 with ⟨h1, _⟩ | ⟨g', cap, cur, h1, _⟩
    · left; rw [h1]; rfl
    · right; rw [h1]; simp [Value.ownBlock])
theorem encPc_one (p : Pc) : ∀ u ∈ encPc p, u.oneCell' = true := by
  intro u hu
  simp only [encPc, List.mem_cons, List.not_mem_nil, or_false] at hu
  rcases hu with h | h | h | h <;> subst h <;> rfl
theorem own_ne {w : World} {g k n : Nat} {e : TypeId} {v : Value} {xs : List Value} (h : w.ownsRow (g + 1) e k v n xs) : v.ownBlock ≠ some g := fun he => by
  have := (h.lt g he).1
  omega
/-- A cell of block g, behind an append to a row of another block. -/
theorem cell_grown1 {w W w2 : World} {g i : Nat} {u : Value} {row : Option Nat} (c1 : w.cell? ⟨g, i, none⟩ = some u) (f1 : w.frozen? ⟨g, i, none⟩ = false) (hne : row ≠ some g) (hb : Below w.heap.size w W) (hg : W.grownBy w2 row) :
    w2.cell? ⟨g, i, none⟩ = some u ∧ w2.frozen? ⟨g, i, none⟩ = false := by
  have hlt := block_lt_of_cell c1
  have hlt2 : (⟨g, i, none⟩ : Addr).block < W.heap.size := Nat.lt_of_lt_of_le hlt hb.size
  exact ⟨(hg.cell_far _ hlt2 (Ne.symm hne)).trans ((hb.cell (p := ⟨g, i, none⟩) hlt).trans c1), (hg.frozen_far _ hlt2 (Ne.symm hne)).trans ((hb.frozen (p := ⟨g, i, none⟩) hlt).trans f1)⟩
/-- The reader behind an append. -/
theorem Rd.appended {w W w2 : World} {g g2 cap : Nat} {rest : ByteArray} {ps : List Pc} {p : Pc} {A : Option Addr} {c : Nat} (hh : w.heap[g]? = some (.cells #[.string rest, .slice A ps.length c] 70 (0, 0)))
    (ho : w.ownsRow (g + 1) 64 4 (.slice A ps.length c) ps.length (cellsOf encPc ps)) (hb : Below w.heap.size w W) (hg : W.grownBy w2 (Value.slice A ps.length c).ownBlock)
    (h2 : w2.ownsRow (g + 1) 64 4 (.slice (some ⟨g2, 0, none⟩) (ps.length + 1) cap) (ps.length + 1) (cellsOf encPc ps ++ encPc p)) :
    Rd (w2.setCell ⟨g, 1, none⟩ (.slice (some ⟨g2, 0, none⟩) (ps.length + 1) cap)) g rest (ps ++ [p]) ∧ Below g w (w2.setCell ⟨g, 1, none⟩ (.slice (some ⟨g2, 0, none⟩) (ps.length + 1) cap)) := by
  have hlt := blk_lt hh
  have hh2 : w2.heap[g]? = some (.cells #[.string rest, .slice A ps.length c] 70 (0, 0)) := by
    rw [hg.block g (Nat.lt_of_lt_of_le hlt hb.size) (Ne.symm (own_ne ho)), hb.block g hlt]; exact hh
  refine ⟨⟨.slice (some ⟨g2, 0, none⟩) (ps.length + 1) cap, by rw [heap_setCell_same _ _ _ _ _ _ hh2]; rfl, ?_⟩, ?_⟩
  · have e : cellsOf encPc (ps ++ [p]) = cellsOf encPc ps ++ encPc p := by simp [cellsOf]
    rw [List.length_append, List.length_singleton, e]
    exact ownsRow_setCell_below h2 (by simp) _
  · have h3 : Below g w w2 := (hb.mono (Nat.le_of_lt hlt)).grown hg (Nat.le_trans (Nat.le_of_lt hlt) hb.size) (fun k hk => by have := (ho.lt k hk).1; omega)
    exact h3.setCell (p := ⟨g, 1, none⟩) (Nat.le_refl _) _
/-- What add leaves. -/
def AddPost (g : Nat) (rest : ByteArray) (ps : List Pc) (p : Pc) (w : World) (e : Ending) (w' : World) : Prop :=
  e = .returned (.tuple #[]) ∧ Rd w' g rest (addP ps p) ∧ Below g w w'
set_option maxRecDepth 100000 in
set_option maxHeartbeats 2000000 in
/-- Another piece than a text is added. -/
theorem add_app (g : Nat) (rest : ByteArray) (ps : List Pc) (p : Pc) (w : World) (h : Rd w g rest ps) (hn : ps.length ≤ 10000) (hk : p.kind ≠ 1) :
    Calls Tryz.prog 33 #[.pointer (some ⟨g, 0, none⟩), .agg #[.int .i64 p.kind, .string p.text, .int .i64 p.word, .bool p.more]] w (AddPost g rest ps p w) := by
  obtain ⟨v, hh, hown⟩ := h.ex
  have c1 : w.cell? ⟨g, 1, none⟩ = some v := by rw [cell_of_row _ _ 1 _ _ _ hh]; rfl
  have f1 : w.frozen? ⟨g, 1, none⟩ = false := frozen_of_row _ _ _ _ _ hh
  have hk1 : (p.kind == 1) = false := by simpa using hk
  obtain ⟨i0, hi0, hz0, hz1, hz2⟩ := info_parts pieceInfo
  obtain ⟨A, c, rfl⟩ : ∃ A c, v = .slice A ps.length c := by
    rcases hown.2 with ⟨h1, h2⟩ | ⟨g', cap, cur, h1, _⟩
    · exact ⟨_, _, by rw [h2]; exact h1⟩
    · exact ⟨_, _, h1⟩
  have HH := Lib.hid h
  have hlt := h.lt
  have Hh := Lib.hid hh
  have Ho := Lib.hid hown
  clear h hh hown
  have Hk := Lib.hid hk
  clear hk
  go_enter Tryz.func33, Tryz.ntmps33
  go_wp2
  go_region_law (first | (refine step_append_lies _ (by rfl) _ _ _ (by rfl) (g + 1) 64 i0 _ 4 40 Tryz.underlying38 hi0 hz0 hz1 hz2 rfl (by omega) (.slice A ps.length c) ps.length (cellsOf encPc ps) (by rfl) (own_keep Ho.out (by go_grown)) _ 1 1 (encPc p) (by rfl) (by rfl) (by exact World.news_of_block (B := w.heap.size + 1) (heap_alloc2_new w _ _)) (encPc_one p) (by omega) (by unfold maxLen; omega) (by omega) (by simp; omega) _ rfl ?_; intro g2 cap w2 hown2 hgrow2 hat2 hlt2; have c2 := cell_grown1 c1 f1 (own_ne Ho.out) (by go_grown) hgrow2; obtain ⟨c2a, c2b⟩ := c2))
  all_goals
    go_end0
    have hR := Rd.appended (p := p) Hh.out Ho.out (by go_grown) hgrow2 hown2
    exact ⟨rfl, by rw [addP_app (fun h => Hk.out h.1)]; exact hR.1, hR.2⟩
set_option maxRecDepth 100000 in
set_option maxHeartbeats 2000000 in
/-- A text is added, and none is ahead of it. -/
theorem add_new (g : Nat) (rest : ByteArray) (ps : List Pc) (t : ByteArray) (w : World) (h : Rd w g rest ps) (hn : ps.length ≤ 10000) (hk : (ps.getLast?.map (·.kind)) ≠ some 1) :
    Calls Tryz.prog 33 #[.pointer (some ⟨g, 0, none⟩), .agg #[.int .i64 1, .string t, .int .i64 0, .bool false]] w (AddPost g rest ps (txt t) w) := by
  obtain ⟨v, hh, hown⟩ := h.ex
  have c1 : w.cell? ⟨g, 1, none⟩ = some v := by rw [cell_of_row _ _ 1 _ _ _ hh]; rfl
  have f1 : w.frozen? ⟨g, 1, none⟩ = false := frozen_of_row _ _ _ _ _ hh
  obtain ⟨i0, hi0, hz0, hz1, hz2⟩ := info_parts pieceInfo
  have HH := Lib.hid h
  have hlt := h.lt
  have Hh := Lib.hid hh
  have Ho := Lib.hid hown
  have Hk := Lib.hid hk
  clear h hh hown hk
  obtain ⟨A, c, rfl⟩ : ∃ A c, v = .slice A ps.length c := by
    rcases Ho.out.2 with ⟨h1, h2⟩ | ⟨g', cap, cur, h1, _⟩
    · exact ⟨_, _, by rw [h2]; exact h1⟩
    · exact ⟨_, _, h1⟩
  rcases List.eq_nil_or_concat ps with h0 | ⟨m, q, h0⟩
  · subst h0
    simp only [List.length_nil] at c1 hn
    go_enter Tryz.func33, Tryz.ntmps33
    go_wp2
    go_region_law (first | (refine step_append_lies _ (by rfl) _ _ _ (by rfl) (g + 1) 64 i0 _ 4 40 Tryz.underlying38 hi0 hz0 hz1 hz2 rfl (by omega) (.slice A 0 c) 0 (cellsOf encPc []) (by rfl) (own_keep Ho.out (by go_grown)) _ 1 1 (encPc (txt t)) (by rfl) (by rfl) (by exact World.news_of_block (B := w.heap.size + 1) (heap_alloc2_new w _ _)) (encPc_one _) (by omega) (by unfold maxLen; omega) (by omega) (by simp; omega) _ rfl ?_; intro g2 cap w2 hown2 hgrow2 hat2 hlt2; have c2 := cell_grown1 c1 f1 (own_ne Ho.out) (by go_grown) hgrow2; obtain ⟨c2a, c2b⟩ := c2))
    all_goals
      go_end0
      have hR := Rd.appended (p := txt t) Hh.out Ho.out (by go_grown) hgrow2 hown2
      exact ⟨rfl, by rw [addP_app (fun h => Hk.out h.2)]; exact hR.1, hR.2⟩
  · rw [List.concat_eq_append] at h0
    subst h0
    have hq : q.kind ≠ 1 := fun e => Hk.out (by simp [e])
    have hq1 : (q.kind == 1) = false := by simpa using hq
    obtain ⟨b, cap, hA, hbg, hb⟩ := Ho.out.form (by simp)
    obtain ⟨rfl, rfl⟩ : A = some ⟨b, 0, none⟩ ∧ c = cap := by injection hA with h1 h2 h3; exact ⟨h1, h3⟩
    have cq : w.cell? ⟨b, m.length * 4, none⟩ = some (.int .i64 q.kind) := by
      rw [Ho.out.cellAt (m.length * 4) (by simp), cellsOf_append, List.getElem?_append_right (by rw [cellsOf_len encPc 4 encPc_len]; omega), cellsOf_len encPc 4 encPc_len, Nat.sub_self]
      rfl
    simp only [List.length_append, List.length_singleton] at c1 hn
    have Hoo : Hid (w.ownsRow (g + 1) 64 4 (.slice (some ⟨b, 0, none⟩) (m.length + 1) c) (m.length + 1) (cellsOf encPc (m ++ [q]))) := by
      have := Ho.out
      simp only [List.length_append, List.length_singleton] at this
      exact this
    clear hq hA hbg
    go_enter Tryz.func33, Tryz.ntmps33
    go_wp2
    go_region_law (first | (refine step_append_lies _ (by rfl) _ _ _ (by rfl) (g + 1) 64 i0 _ 4 40 Tryz.underlying38 hi0 hz0 hz1 hz2 rfl (by omega) (.slice (some ⟨b, 0, none⟩) (m.length + 1) c) (m.length + 1) (cellsOf encPc (m ++ [q])) (by rfl) (own_keep Hoo.out (by go_grown)) _ 1 1 (encPc (txt t)) (by rfl) (by rfl) (by exact World.news_of_block (B := w.heap.size + 1) (heap_alloc2_new w _ _)) (encPc_one _) (by omega) (by unfold maxLen; omega) (by omega) (by simp; omega) _ rfl ?_; intro g2 cap w2 hown2 hgrow2 hat2 hlt2; have c2 := cell_grown1 c1 f1 (own_ne Hoo.out) (by go_grown) hgrow2; obtain ⟨c2a, c2b⟩ := c2))
    all_goals
      go_end0
      have hh1 := Hh.out
      have ho1 := Hoo.out
      have e1 : m.length + 1 = (m ++ [q]).length := by simp
      rw [e1] at ho1 hown2
      have hR := Rd.appended (p := txt t) hh1 ho1 (by go_grown) hgrow2 hown2
      rw [← e1] at hR
      exact ⟨rfl, by rw [addP_app (fun h => Hk.out h.2)]; exact hR.1, hR.2⟩
theorem Rd.drew {w : World} {g : Nat} {r : ByteArray} {ps : List Pc} (h : Rd w g r ps) : Rd w.drew g r ps := ⟨h.ex⟩
theorem cells_setLast (m : List Pc) (q : Pc) (u : ByteArray) : (cellsOf encPc (m ++ [q])).set (m.length * 4 + 1) (.string u) = cellsOf encPc (m ++ [{ q with text := u }]) := by
  have hl := cellsOf_len encPc 4 encPc_len m
  rw [cellsOf_append, cellsOf_append, List.set_append_right _ _ (by rw [hl]; omega), hl, Nat.add_sub_cancel_left]
  rfl
theorem Rd.joined {w W : World} {g b c : Nat} {rest t : ByteArray} {m : List Pc} {q : Pc} (hh : w.heap[g]? = some (.cells #[.string rest, .slice (some ⟨b, 0, none⟩) (m ++ [q]).length c] 70 (0, 0)))
    (ho : w.ownsRow (g + 1) 64 4 (.slice (some ⟨b, 0, none⟩) (m ++ [q]).length c) (m ++ [q]).length (cellsOf encPc (m ++ [q]))) (hbg : g + 1 ≤ b) (hb : Below w.heap.size w W) :
    Rd (W.setCell ⟨b, m.length * 4 + 1, none⟩ (.string (q.text ++ t))) g rest (m ++ [{ q with text := q.text ++ t }]) ∧ Below g w (W.setCell ⟨b, m.length * 4 + 1, none⟩ (.string (q.text ++ t))) := by
  have hlt := blk_lt hh
  refine ⟨⟨.slice (some ⟨b, 0, none⟩) (m ++ [q]).length c, ?_, ?_⟩, ?_⟩
  · rw [heap_setCell_other _ _ _ _ (by simp; omega), hb.block g hlt]; exact hh
  · have h1 := ((own_keep ho hb).stored (m.length * 4 + 1) (.string (q.text ++ t))).1
    rw [cells_setLast] at h1
    have e : (m ++ [{ q with text := q.text ++ t }]).length = (m ++ [q]).length := by simp
    rw [e]
    exact h1
  · exact (hb.mono (Nat.le_of_lt hlt)).setCell (p := ⟨b, m.length * 4 + 1, none⟩) (by simp; omega) _
set_option maxRecDepth 100000 in
set_option maxHeartbeats 2000000 in
/-- A text is added to a text. -/
theorem add_join (g : Nat) (rest : ByteArray) (m : List Pc) (q : Pc) (t : ByteArray) (w : World) (h : Rd w g rest (m ++ [q])) (hn : m.length ≤ 10000) (hk : q.kind = 1) (hq : q.text.size ≤ 1000000) (ht : t.size ≤ 1000000) :
    Calls Tryz.prog 33 #[.pointer (some ⟨g, 0, none⟩), .agg #[.int .i64 1, .string t, .int .i64 0, .bool false]] w (AddPost g rest (m ++ [q]) (txt t) w) := by
  obtain ⟨v, hh, hown⟩ := h.ex
  have hlt := h.lt
  obtain ⟨b, c, hA, hbg, hb⟩ := hown.form (by simp)
  subst hA
  have c1 : w.cell? ⟨g, 1, none⟩ = some (.slice (some ⟨b, 0, none⟩) (m.length + 1) c) := by rw [cell_of_row _ _ 1 _ _ _ hh]; simp
  have cq : w.cell? ⟨b, m.length * 4, none⟩ = some (.int .i64 1) := by
    rw [hown.cellAt (m.length * 4) (by simp), cellsOf_append, List.getElem?_append_right (by rw [cellsOf_len encPc 4 encPc_len]; omega), cellsOf_len encPc 4 encPc_len, Nat.sub_self, ← hk]
    rfl
  have ct : w.cell? ⟨b, m.length * 4 + 1, none⟩ = some (.string q.text) := by
    rw [hown.cellAt (m.length * 4 + 1) (by simp; omega), cellsOf_append, List.getElem?_append_right (by rw [cellsOf_len encPc 4 encPc_len]; omega), cellsOf_len encPc 4 encPc_len, Nat.add_sub_cancel_left]
    rfl
  have ft : w.frozen? ⟨b, m.length * 4 + 1, none⟩ = false := hown.frozenAt _
  have Hh := Lib.hid hh
  have Ho := Lib.hid hown
  have Hk := Lib.hid hk
  have Hbg := Lib.hid hbg
  clear hh hown hk h hbg
  go_enter Tryz.func33, Tryz.ntmps33
  go_wp2
  go_region
  all_goals go_wp2
  all_goals
    refine bodyPost_ret (results_none rfl _ _ _) rfl ?_
    have hR := Rd.joined (t := t) Hh.out Ho.out Hbg.out (W := w) (Below.refl _ _)
    have hB := hR.1.lt
    refine ⟨rfl, ?_, (hR.2.alloc (Nat.le_of_lt hB) _).drew⟩
    rw [addP, if_pos ⟨rfl, by simp [Hk.out]⟩, setLast_snoc]
    exact hR.1.keep (((Below.refl _ _).alloc (Nat.le_refl _) _).drew)
/-- Whatever is added. -/
theorem add_any (g : Nat) (rest : ByteArray) (ps : List Pc) (p : Pc) (w : World) (h : Rd w g rest ps) (hn : ps.length ≤ 10000) (hq : ∀ q ∈ ps, q.text.size ≤ 1000000) (ht : p.text.size ≤ 1000000) (hp : p.kind = 1 → p = txt p.text) :
    Calls Tryz.prog 33 #[.pointer (some ⟨g, 0, none⟩), .agg #[.int .i64 p.kind, .string p.text, .int .i64 p.word, .bool p.more]] w (AddPost g rest ps p w) := by
  by_cases hk : p.kind = 1
  · rw [hp hk] at ht ⊢
    by_cases hl : (ps.getLast?.map (·.kind)) = some 1
    · rcases List.eq_nil_or_concat ps with h0 | ⟨m, q, h0⟩
      · subst h0; simp at hl
      · rw [List.concat_eq_append] at h0
        subst h0
        have hqk : q.kind = 1 := by simpa using hl
        exact add_join g rest m q p.text w h (by simp at hn; omega) hqk (hq q (by simp)) ht
    · exact add_new g rest ps p.text w h hn hl
  · exact add_app g rest ps p w h hn hk
end Go.Proofs.YtifbcfpaifobjaaGreatDoor
