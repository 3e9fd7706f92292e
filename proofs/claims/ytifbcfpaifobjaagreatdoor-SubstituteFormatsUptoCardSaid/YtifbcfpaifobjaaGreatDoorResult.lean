/-
  The words of a result.
-/
import Derived.Test.YtifbcfpaifobjaaGreatDoorRange
import Derived.Maps.AppendAt
namespace Go.Proofs.YtifbcfpaifobjaaGreatDoor
open Go.RowKit Go.Shelf
attribute [local go_sem] Oper.semAt_some
def selW {α : Type} (k : Nat) (more : Bool) (l : List α) : List α := if more then l.drop (k - 1) else (l.drop (k - 1)).take 1
theorem selW_snoc {α : Type} (k : Nat) (hk : 1 ≤ k) (more : Bool) (l : List α) (x : α) : selW k more (l ++ [x]) = if l.length + 1 = k ∨ (k < l.length + 1 ∧ more = true) then selW k more l ++ [x] else selW k more l := by
  have hd : (l ++ [x]).drop (k - 1) = if k ≤ l.length + 1 then l.drop (k - 1) ++ [x] else [] := by
    rw [List.drop_append]
    by_cases h : k ≤ l.length + 1
    · rw [if_pos h, show k - 1 - l.length = 0 from by omega]; rfl
    · rw [if_neg h, List.drop_of_length_le (by omega), List.drop_of_length_le (by simp; omega)]; rfl
  have hl : (l.drop (k - 1)).length = l.length - (k - 1) := List.length_drop
  cases more
  · simp only [selW, Bool.false_eq_true, if_false, and_false, or_false]
    rw [hd]
    rcases Nat.lt_trichotomy (l.length + 1) k with h | h | h
    · rw [if_neg (by omega), if_neg (by omega), List.drop_of_length_le (by omega)]; 
    · rw [if_pos (by omega), if_pos h, List.drop_of_length_le (by omega)]; rfl
    · rw [if_pos (by omega), if_neg (by omega), List.take_append, hl, show 1 - (l.length - (k - 1)) = 0 from by omega]
      simp
  · simp only [selW, if_true, and_true]
    rw [hd]
    by_cases h : k ≤ l.length + 1
    · rw [if_pos h, if_pos (by omega)]
    · rw [if_neg h, if_neg (by omega), List.drop_of_length_le (by omega)]
theorem selW_len {α : Type} (k : Nat) (more : Bool) (l : List α) : (selW k more l).length ≤ l.length := by
  unfold selW; split
  · rw [List.length_drop]; omega
  · rw [List.length_take, List.length_drop]; omega
theorem wordsT_len : ∀ (n : Nat) (t : Str), (wordsT n t).length ≤ t.length ∧ ∀ x ∈ wordsT n t, x.length ≤ t.length := by
  intro n
  induction n with
  | zero => intro t; exact ⟨Nat.zero_le _, fun x h => by cases h⟩
  | succ n ih =>
    intro t
    by_cases h : t = []
    · subst h; exact ⟨Nat.zero_le _, fun x h => by cases h⟩
    · rw [wordsT, if_neg (by simpa using h)]
      have h1 := cut_short t h
      have h2 := (cut_len t [32]).1
      have h3 := trim_len (Lib.cut t [32]).2.1
      have h4 := ih (trim (Lib.cut t [32]).2.1)
      refine ⟨by rw [List.length_cons]; omega, fun x hx => ?_⟩
      rcases List.mem_cons.1 hx with rfl | hx
      · exact h2
      · have := h4.2 x hx; omega
theorem wordsS_len (s : Str) : (wordsS s).length ≤ s.length ∧ ∀ x ∈ wordsS s, x.length ≤ s.length := by
  have h := wordsT_len s.length (trim s)
  have h2 := trim_len s
  exact ⟨by unfold wordsS; omega, fun x hx => by have := h.2 x hx; omega⟩
/-- What a result stands for. -/
def resultS (k : Nat) (more : Bool) (r : Str) : Str := if k = 0 then r else Lib.join (selW k more (wordsS r)) [32]
theorem strInfo : (Tryz.prog.info? 9).map (fun i => (i.zero, i.size, i.bytes)) = some (some (.string ⟨#[]⟩), 1, 16) := by kernel_rfl
def ResI (B : Nat) (w : World) (k : Nat) (more : Bool) (p1 p2 : Array Value) (pre : List ByteArray) (W : World) : Prop :=
  W.heap[B]? = some (.cells p1 64 (0, 0)) ∧ W.heap[B + 1]? = some (.cells p2 25 (0, 0)) ∧ Boxed W (B + 3) 3 (.int .i64 pre.length) ∧
  (∃ v, Boxed W (B + 2) 27 v ∧ W.ownsRow (B + 5) 9 1 v (selW k more pre).length ((selW k more pre).map Value.string)) ∧ Below B w W
theorem alloc5 (w : World) (o1 o2 o3 o4 o5 : Obj) : (((((w.alloc o1).alloc o2).alloc o3).alloc o4).alloc o5).heap.size = w.heap.size + 5 ∧
    (((((w.alloc o1).alloc o2).alloc o3).alloc o4).alloc o5).heap[w.heap.size]? = some o1 ∧ (((((w.alloc o1).alloc o2).alloc o3).alloc o4).alloc o5).heap[w.heap.size + 1]? = some o2 ∧
    (((((w.alloc o1).alloc o2).alloc o3).alloc o4).alloc o5).heap[w.heap.size + 2]? = some o3 ∧ (((((w.alloc o1).alloc o2).alloc o3).alloc o4).alloc o5).heap[w.heap.size + 3]? = some o4 ∧
    (((((w.alloc o1).alloc o2).alloc o3).alloc o4).alloc o5).heap[w.heap.size + 4]? = some o5 ∧ Below w.heap.size w (((((w.alloc o1).alloc o2).alloc o3).alloc o4).alloc o5) := by
  have hn : ∀ (W : World) (o : Obj) (k : Nat), k = W.heap.size → (W.alloc o).heap[k]? = some o := fun W o k e => by rw [e]; exact World.alloc_heap_new W o
  have hs : ∀ (W : World) (o : Obj), (W.alloc o).heap.size = W.heap.size + 1 := fun W o => by simp
  have ho : ∀ (W : World) (o : Obj) (k : Nat), k < W.heap.size → (W.alloc o).heap[k]? = W.heap[k]? := fun W o k h => Below.heap_alloc W o k h
  refine ⟨by simp only [hs], ?_, ?_, ?_, ?_, ?_, ?_⟩
  · rw [ho _ _ _ (by simp only [hs]; omega), ho _ _ _ (by simp only [hs]; omega), ho _ _ _ (by simp only [hs]; omega), ho _ _ _ (by simp only [hs]; omega)]; exact hn _ _ _ rfl
  · rw [ho _ _ _ (by simp only [hs]; omega), ho _ _ _ (by simp only [hs]; omega), ho _ _ _ (by simp only [hs]; omega)]; exact hn _ _ _ (by simp only [hs])
  · rw [ho _ _ _ (by simp only [hs]; omega), ho _ _ _ (by simp only [hs]; omega)]; exact hn _ _ _ (by simp only [hs])
  · rw [ho _ _ _ (by simp only [hs]; omega)]; exact hn _ _ _ (by simp only [hs])
  · exact hn _ _ _ (by simp only [hs])
  · exact (((((Below.refl _ _).alloc (Nat.le_refl _) _).alloc (by simp only [hs]; omega) _).alloc (by simp only [hs]; omega) _).alloc (by simp only [hs]; omega) _).alloc (by simp only [hs]; omega) _
theorem cells_kept {A W : World} {row : Option Nat} {b : Nat} {c : Array Value} {t : TypeId} (h : A.heap[b]? = some (.cells c t (0, 0))) (hg : A.grownBy W row) (hr : ∀ r, row = some r → ∃ o : Obj, A.heap[r]? = some o ∧ o.isCells = false) : W.heap[b]? = some (.cells c t (0, 0)) := by
  rw [hg.block b (Array.getElem?_eq_some_iff.1 h).1 (fun e => by
    obtain ⟨o, ho, hc⟩ := hr b e.symm
    rw [h] at ho; cases ho; cases hc)]
  exact h
theorem resI_own (B : Nat) (w : World) (k : Nat) (more : Bool) (p1 p2 : Array Value) (B0 : Nat) (hB : B ≤ B0) (hw : B ≤ w.heap.size) : OwnFrom B0 (ResI B w k more p1 p2) := by
  intro s A W row hs hg hr
  have hr' : ∀ r, row = some r → ∃ o : Obj, A.heap[r]? = some o ∧ o.isCells = false := fun r e => (hr r e).2
  obtain ⟨h1, h2, h3, ⟨v, h4, h5⟩, h6⟩ := hs
  refine ⟨cells_kept h1 hg hr', cells_kept h2 hg hr', cells_kept h3 hg hr', ⟨v, cells_kept h4 hg hr', h5.kept hg ?_⟩, ?_⟩
  · rcases h5.2 with ⟨rfl, _⟩ | ⟨g, cap, cur, rfl, _, hgb, _⟩
    · left; rfl
    · right
      intro e
      obtain ⟨o, ho, hc⟩ := hr' g (by simpa [Value.ownBlock] using e.symm)
      rw [hgb] at ho; cases ho; cases hc
  · exact h6.grown hg (Nat.le_trans hw h6.size) (fun r e => Nat.le_trans hB (hr r e).1)
theorem selW_map {α β : Type} (f : α → β) (k : Nat) (more : Bool) (l : List α) : selW k more (l.map f) = (selW k more l).map f := by
  cases more <;> simp [selW, List.map_drop, List.map_take]
theorem selW_mem {α : Type} {k : Nat} {more : Bool} {l : List α} {x : α} (h : x ∈ selW k more l) : x ∈ l := by
  cases more
  · exact List.mem_of_mem_drop (List.mem_of_mem_take (by simpa [selW] using h))
  · exact List.mem_of_mem_drop (by simpa [selW] using h)
theorem join_len (M : Nat) (l : List Str) (h : ∀ x ∈ l, x.length ≤ M) : (Lib.join l [32]).length ≤ l.length * (M + 1) := by
  induction l with
  | nil => simp [Lib.join]
  | cons x l ih =>
    have h1 := h x (by simp)
    have h2 := ih (fun y hy => h y (by simp [hy]))
    cases l with
    | nil => simp [Lib.join] at h2 ⊢; omega
    | cons y l =>
      have hj : Lib.join (x :: y :: l) [32] = x ++ ([32] ++ Lib.join (y :: l) [32]) := by
        simp [Lib.join, List.intercalate, List.intersperse]
      rw [hj]
      have e := Nat.succ_mul (l.length + 1) (M + 1)
      simp only [Nat.succ_eq_add_one] at e
      simp only [List.length_append, List.length_cons, List.length_nil] at h2 ⊢
      rw [e]
      generalize (l.length + 1) * (M + 1) = Z at *
      omega
/-- strings.Join at a row that is owned. -/
theorem Join_own (W : World) (base : Nat) (v : Value) (xs : List Str) (M : Nat) (hn : xs.length ≤ M) (hM : M ≤ 4294967) (hx : ∀ x ∈ xs, x.length ≤ M) (h : W.ownsRow base 9 1 v xs.length ((xs.map bs).map Value.string)) :
    Calls Tryz.prog 98 #[v, .string ⟨#[32]⟩] W fun e w' => e = .returned (.string (bs (Lib.join xs [32]))) ∧ Below W.heap.size W w' := by
  have hjl := join_len M xs hx
  have hmul : xs.length * (M + 1) ≤ 140737488355328 := Nat.le_trans (Nat.mul_le_mul hn (Nat.le_refl (M + 1))) (Nat.le_trans (Nat.mul_le_mul hM (Nat.succ_le_succ hM)) (by decide))
  cases xs with
  | nil =>
    rcases h.2 with ⟨rfl, _⟩ | ⟨g, cap, cur, rfl, _⟩
    · exact (Tryz.strings_Join_none none 0 ⟨#[32]⟩ W).mono fun e w' h => ⟨h.1, by rw [h.2]; exact Below.refl _ _⟩
    · exact (Tryz.strings_Join_none (some ⟨g, 0, none⟩) cap ⟨#[32]⟩ W).mono fun e w' h => ⟨h.1, by rw [h.2]; exact Below.refl _ _⟩
  | cons x xs =>
    have hl : (((x :: xs).map bs).map (·.data.toList)) = x :: xs := by
      rw [List.map_map]
      exact (List.map_congr_left (fun y _ => L_bs y)).trans (List.map_id _)
    rcases h.2 with ⟨_, h0⟩ | ⟨g, cap, cur, rfl, hb, hgg, hroom, _, _, _⟩
    · simp at h0
    · have hc : ∀ (j : Nat) (y : ByteArray), ((x :: xs).map bs)[j]? = some y → W.cell? ⟨g, 0 + j, none⟩ = some (.string y) := fun j y hy => by
        have := h.cells (g := g) rfl j (.string y) (by rw [List.getElem?_map, hy]; rfl)
        have hadd : (⟨g, 0, none⟩ : Addr).add j = ⟨g, j, none⟩ := by unfold Addr.add; split <;> simp_all
        rw [hadd] at this
        rw [Nat.zero_add]; exact this
      have hJ := Tryz.strings_Join g 0 cap ((x :: xs).map bs) ⟨#[32]⟩ W hc (blk_lt hgg) (by rw [List.length_map]; omega) (by rw [List.length_map]; exact hroom) (by rw [hl]; exact Nat.le_trans hjl hmul)
      rw [hl, List.length_map] at hJ
      exact hJ
theorem own_less {W : World} {b b' : Nat} {e : TypeId} {n : Nat} {v : Value} {k : Nat} {xs : List Value} (h : W.ownsRow b e n v k xs) (hb : b' ≤ b) : W.ownsRow b' e n v k xs := by
  refine ⟨h.1, ?_⟩
  rcases h.2 with h1 | ⟨g, cap, cur, e1, h2, h3⟩
  · exact .inl h1
  · exact .inr ⟨g, cap, cur, e1, by omega, h3⟩
theorem resI_skip {B : Nat} {w : World} {k : Nat} {more : Bool} {p1 p2 : Array Value} {pre : List ByteArray} {x : ByteArray} {W : World} (h : ResI B w k more p1 p2 pre W) (_hw : B ≤ w.heap.size) (hsel : selW k more (pre ++ [x]) = selW k more pre) :
    ResI B w k more p1 p2 (pre ++ [x]) (W.setCell ⟨B + 3, 0, none⟩ (.int .i64 ((pre.length : Int) + 1))) := by
  obtain ⟨h1, h2, h3, ⟨v', h4, h5⟩, h6⟩ := h
  have hk : ∀ j, j ≠ B + 3 → (W.setCell ⟨B + 3, 0, none⟩ (.int .i64 ((pre.length : Int) + 1))).heap[j]? = W.heap[j]? := fun j hj => heap_setCell_other _ _ _ _ hj
  refine ⟨(hk _ (by omega)).trans h1, (hk _ (by omega)).trans h2, ?_, ⟨v', (hk _ (by omega)).trans h4, ?_⟩, h6.setCell (p := ⟨B + 3, 0, none⟩) (by simp) _⟩
  · have := h3.set (.int .i64 ((pre.length : Int) + 1))
    rw [List.length_append]
    exact this
  · rw [hsel]
    exact ownsRow_setCell_other h5 (fun e => by have h7 := (h5.lt _ e).1; dsimp only at h7; omega) _
theorem resI_hit {B : Nat} {w : World} {k : Nat} {more : Bool} {p1 p2 : Array Value} {pre : List ByteArray} {x : ByteArray} {W w1 : World} {v' : Value} {tmp : Obj} (h : ResI B w k more p1 p2 pre W) (hsel : selW k more (pre ++ [x]) = selW k more pre ++ [x])
    {v0 : Value} (hv0 : Boxed W (B + 2) 27 v0) (hlt : B + 4 < W.heap.size)
    (hown : w1.ownsRow (B + 5) 9 1 v' ((selW k more pre).length + 1) ((selW k more pre).map Value.string ++ [Value.string x]))
    (hg : ((W.setCell ⟨B + 3, 0, none⟩ (.int .i64 ((pre.length : Int) + 1))).alloc tmp).grownBy w1 v0.ownBlock) :
    ResI B w k more p1 p2 (pre ++ [x]) (w1.setCell ⟨B + 2, 0, none⟩ v') ∧ KeepsOthers W (w1.setCell ⟨B + 2, 0, none⟩ v') ∧ Same1 (B + 4) W (w1.setCell ⟨B + 2, 0, none⟩ v') ∧ Boxed w1 (B + 2) 27 v0 := by
  obtain ⟨h1, h2, h3, ⟨vv, h4, h5⟩, h6⟩ := h
  obtain rfl : vv = v0 := by
    have := (show W.heap[B + 2]? = _ from h4).symm.trans hv0
    simpa using this
  have hrow : ∀ j, vv.ownBlock = some j → B + 5 ≤ j := fun j e => (h5.lt j e).1
  obtain ⟨W2, hW2⟩ : ∃ W2, W.setCell ⟨B + 3, 0, none⟩ (.int .i64 ((pre.length : Int) + 1)) = W2 := ⟨_, rfl⟩
  rw [hW2] at hg
  have hs2 : W2.heap.size = W.heap.size := by rw [← hW2]; simp
  have hk2 : ∀ j, j ≠ B + 3 → W2.heap[j]? = W.heap[j]? := fun j hj => by rw [← hW2]; exact heap_setCell_other _ _ _ _ hj
  have h32 : Boxed W2 (B + 3) 3 (.int .i64 ((pre.length : Int) + 1)) := by rw [← hW2]; exact h3.set _
  have hk1 : ∀ j, j < B + 5 → w1.heap[j]? = W2.heap[j]? := fun j hj => by
    rw [hg.block j (by simp; omega) (fun e => by have := hrow j e.symm; omega)]
    exact Below.heap_alloc _ _ _ (by omega)
  have hk3 : ∀ j, j ≠ B + 2 → (w1.setCell ⟨B + 2, 0, none⟩ v').heap[j]? = w1.heap[j]? := fun j hj => heap_setCell_other _ _ _ _ hj
  have hb1 : Boxed w1 (B + 2) 27 vv := (hk1 _ (by omega)).trans ((hk2 _ (by omega)).trans h4)
  have hrow2 : W2.ownsRow (B + 5) 9 1 vv (selW k more pre).length ((selW k more pre).map Value.string) := by
    rw [← hW2]; exact ownsRow_setCell_other h5 (fun e => by have h7 := (h5.lt _ e).1; dsimp only at h7; omega) _
  have hv2 : Boxed W2 (B + 2) 27 vv := (hk2 _ (by omega)).trans h4
  obtain ⟨_, _, _, hko, hbe⟩ := hv2.appended (by decide) (own_less hrow2 (show B ≤ B + 5 by omega)) (by omega) (by omega) (own_less hown (show B ≤ B + 5 by omega)) hg
  have hko2 : KeepsOthers W W2 := by rw [← hW2]; exact KeepsOthers.setCell _ _ _
  refine ⟨⟨?_, ?_, ?_, ⟨v', hb1.set v', ?_⟩, ?_⟩, hko2.trans hko, ?_, hb1⟩
  · rw [hk3 _ (by omega), hk1 _ (by omega), hk2 _ (by omega)]; exact h1
  · rw [hk3 _ (by omega), hk1 _ (by omega), hk2 _ (by omega)]; exact h2
  · rw [List.length_append]
    exact (hk3 _ (by omega)).trans ((hk1 _ (by omega)).trans h32)
  · rw [hsel, List.length_append, List.map_append]
    exact ownsRow_setCell_other hown (fun e => by have h7 := (hown.lt _ e).1; dsimp only at h7; omega) _
  · have hb2 : Below B w W2 := by rw [← hW2]; exact h6.setCell (p := ⟨B + 3, 0, none⟩) (by simp) _
    exact hb2.trans hbe
  · show _ = _
    rw [hk3 _ (by omega), hk1 _ (by omega), hk2 _ (by omega)]
set_option maxRecDepth 100000 in
set_option maxHeartbeats 2000000 in
theorem result_any (k : Nat) (more : Bool) (p : Pc) (v : Vs) (w : World) (hE : Env w) (hk : k ≤ 1000) (hp : p.word = k) (hm : p.more = more) (hr : v.result.size ≤ 4294967) :
    Calls Tryz.prog 68 #[encP p, encVs v] w (ValPost (bs (resultS k more (L v.result))) w) := by
  unfold encP encVs Lst.v
  rw [hp, hm]
  clear hp hm
  rcases Nat.eq_zero_or_pos k with h0 | h0
  · subst h0
    have hb : bs (resultS 0 more (L v.result)) = v.result := by rw [resultS, if_pos rfl, bs_L]
    rw [hb]
    clear hb
    go_enter Tryz.func68, Tryz.ntmps68
    go_wp2
    go_ret
    exact ⟨rfl, ((Below.refl _ _).alloc (Nat.le_refl _) _).alloc (by simp) _⟩
  · have hk0 : ((k : Int) == 0) = false := by simp; omega
    refine (callsIn_wide (n := 3)).1 ?_
    refine callsIn_of_wp_marks Tryz.func68 rfl trivial ?_ rfl
    simp only [Tryz.ntmps68, List.size_toArray, List.length_cons, List.length_nil, Nat.reduceAdd, Nat.reduceSub, Array.replicate_succ, Array.replicate_zero, List.push_toArray, List.append_toArray, List.nil_append, List.cons_append]
    have HWd : ∀ W : World, Calls Tryz.prog 104 #[.string v.result] W fun e w' => e = .returned (.func (.func 128) #[] #[.pointer (some ⟨W.heap.size, 0, none⟩)]) ∧ W.alloc (.cells #[.string v.result] 9) = w' := fun W => by
      go_enter Tryz.func104, Tryz.ntmps104
      go_wp2
      go_ret
      exact ⟨rfl, rfl⟩
    gi_wp2_with (refine ⟨trivial, ?_⟩; gi_at_call 104; refine (callsIn_wide.2 (HWd _)).mono ?_; rintro e w' ⟨rfl, rfl⟩)
    refine range_words 3 (w.heap.size + 1 + 1 + 1 + 1) v.result hr rfl rfl ?hBox (ResI w.heap.size w k more #[.int .i64 p.kind, .string p.text, .int .i64 k, .bool more] #[.string v.kernel, .string v.devpath, .string v.id, .string v.driver, .string v.parent, .string v.name, .string v.result, .slice v.attrs.A v.attrs.l.length v.attrs.c, .slice v.above.A v.above.l.length v.above.c, .slice v.env.A v.env.l.length v.env.c]) ?hI ?hIb ?hIE ?h0 ?a1 ?assign ?body ?done
    case hBox => exact (alloc5 w _ _ _ _ _).2.2.2.2.2.1
    case hI => exact resI_own _ _ _ _ _ _ _ (by rw [(alloc5 w _ _ _ _ _).1]; omega) (Nat.le_refl _)
    case hIE => exact fun pre A h => hE.keep h.2.2.2.2 hE.size
    case hIb =>
      rintro pre A x ⟨h1, h2, h3, ⟨v', h4, h5⟩, h6⟩
      have hk : ∀ j, j ≠ w.heap.size + 4 → (A.setCell ⟨w.heap.size + 1 + 1 + 1 + 1, 0, none⟩ x).heap[j]? = A.heap[j]? := fun j hj => heap_setCell_other _ _ _ _ (by simp; omega)
      refine ⟨(hk _ (by omega)).trans h1, (hk _ (by omega)).trans h2, (hk _ (by omega)).trans h3, ⟨v', (hk _ (by omega)).trans h4, ownsRow_setCell_other h5 (fun e => ?_) _⟩, h6.setCell (p := ⟨w.heap.size + 1 + 1 + 1 + 1, 0, none⟩) (by simp; omega) _⟩
      have h7 := (h5.lt _ e).1
      dsimp only at h7
      omega
    case h0 =>
      obtain ⟨_, h1, h2, h3, h4, _, h6⟩ := alloc5 w (.cells #[.int .i64 p.kind, .string p.text, .int .i64 k, .bool more] 64) (.cells #[.string v.kernel, .string v.devpath, .string v.id, .string v.driver, .string v.parent, .string v.name, .string v.result, .slice v.attrs.A v.attrs.l.length v.attrs.c, .slice v.above.A v.above.l.length v.above.c, .slice v.env.A v.env.l.length v.env.c] 25) (.cells #[.slice none 0 0] 27) (.cells #[.int .i64 0] 3) (.cells #[.string v.result] 9)
      have e : selW k more ([] : List ByteArray) = [] := List.length_eq_zero_iff.1 (Nat.le_zero.1 (selW_len k more _))
      exact ⟨h1, h2, h4, ⟨.slice none 0 0, h3, by rw [e]; exact ⟨rfl, .inl ⟨rfl, rfl⟩⟩⟩, h6⟩
    case assign =>
      intro l x W K hK
      gi_wp2
      exact hK
    case body =>
      rintro l pre x W ⟨h1, h2, h3, ⟨v', h4, h5⟩, h6⟩ hlen hx hlt
      have q2 : W.cell? ⟨w.heap.size, 2, none⟩ = some (.int .i64 k) := by rw [cell_of_row _ _ 2 _ _ _ h1]; rfl
      have q3 : W.cell? ⟨w.heap.size, 3, none⟩ = some (.bool more) := by rw [cell_of_row _ _ 3 _ _ _ h1]; rfl
      have c6 : W.cell? ⟨w.heap.size + 1 + 1 + 1, 0, none⟩ = some (.int .i64 pre.length) := h3.cell
      have f6 : W.frozen? ⟨w.heap.size + 1 + 1 + 1, 0, none⟩ = false := h3.frozen
      have c5 : W.cell? ⟨w.heap.size + 1 + 1, 0, none⟩ = some v' := h4.cell
      have f5 : W.frozen? ⟨w.heap.size + 1 + 1, 0, none⟩ = false := h4.frozen
      have H1 := Lib.hid h1
      have H2 := Lib.hid h2
      have H3 := Lib.hid h3
      have H4 := Lib.hid h4
      have H5 := Lib.hid h5
      have H6 := Lib.hid h6
      have hs3 := selW_snoc k h0 more pre x
      have HI0 : Hid (ResI w.heap.size w k more _ _ pre W) := Lib.hid ⟨h1, h2, h3, ⟨v', h4, h5⟩, h6⟩
      have HS3 := Lib.hid hs3
      have hsz : w.heap.size + 4 < W.heap.size := by omega
      clear h1 h2 h3 h4 h5 h6 hs3
      rcases Nat.lt_trichotomy (pre.length + 1) k with hc | hc | hc
      · have t1 : ((pre.length : Int) + 1 == (k : Int)) = false := by simp; omega
        have t2 : ((pre.length : Int) + 1 ≤ (k : Int)) := by omega
        gi_wp2
        exact ⟨KeepsOthers.setCell _ _ _, heap_setCell_other _ _ _ _ (by simp), resI_skip HI0.out (Nat.le_refl _) (HS3.out.trans (if_neg (by omega)))⟩
      · have t1 : ((pre.length : Int) + 1 == (k : Int)) = true := by simp; omega
        obtain ⟨i0, hi0, hz0, hz1, hz2⟩ := info_parts strInfo
        have hsel : selW k more (pre ++ [x]) = selW k more pre ++ [x] := HS3.out.trans (if_pos (.inl hc))
        have Hsel := Lib.hid hsel
        have hln := selW_len k more pre
        have hv2 : Boxed (W.setCell ⟨w.heap.size + 1 + 1 + 1, 0, none⟩ (.int .i64 ((pre.length : Int) + 1))) (w.heap.size + 1 + 1) 27 v' := (heap_setCell_other _ _ _ _ (by simp)).trans H4.out
        have c52 := hv2.cell
        have hrow2 : Hid ((W.setCell ⟨w.heap.size + 1 + 1 + 1, 0, none⟩ (.int .i64 ((pre.length : Int) + 1))).ownsRow (w.heap.size + 5) 9 1 v' (selW k more pre).length ((selW k more pre).map Value.string)) := Lib.hid (ownsRow_setCell_other H5.out (fun e => by have h7 := (H5.out.lt _ e).1; dsimp only at h7; omega) _)
        clear hsel hv2
        gi_wp2_with (gi_at_builtin; refine wpListIn_append_own _ rfl _ _ 27 rfl (w.heap.size + 5) 9 i0 (.string ⟨#[]⟩) 1 16 Tryz.underlying27 hi0 hz0 hz1 hz2 rfl (by decide) _ _ _ rfl (hrow2.out.alloc _) ⟨W.heap.size, 0, none⟩ 1 1 [.string x] rfl rfl (by have := cell_one_new (W.setCell ⟨w.heap.size + 1 + 1 + 1, 0, none⟩ (.int .i64 ((pre.length : Int) + 1))) (.string x) 9; rw [show (W.setCell ⟨w.heap.size + 1 + 1 + 1, 0, none⟩ (.int .i64 ((pre.length : Int) + 1))).heap.size = W.heap.size from by simp] at this; exact this) (by simp [Value.oneCell']) (by unfold maxLen; omega) (by omega) (by simp; omega) ?_; intro v'' w1 hown' hgrow _; obtain ⟨g', cap', rfl⟩ := ownsRow_succ hown'; have hfin := resI_hit HI0.out Hsel.out H4.out (by omega) hown' hgrow; obtain ⟨hr1, hr2, hr3, hr4⟩ := hfin; have hc1 := hr4.cell; have hf1 := hr4.frozen; have HR1 := Lib.hid hr1; have HR2 := Lib.hid hr2; have HR3 := Lib.hid hr3; clear hr1 hr2 hr3 hr4)
        exact ⟨HR2.out, HR3.out, HR1.out⟩
      · have t1 : ((pre.length : Int) + 1 == (k : Int)) = false := by simp; omega
        have t2 : ((k : Int) < (pre.length : Int) + 1) := by omega
        cases more
        · gi_wp2
          exact ⟨KeepsOthers.setCell _ _ _, heap_setCell_other _ _ _ _ (by simp), resI_skip HI0.out (Nat.le_refl _) (HS3.out.trans (if_neg (by simp; omega)))⟩
        · obtain ⟨i0, hi0, hz0, hz1, hz2⟩ := info_parts strInfo
          have hsel : selW k true (pre ++ [x]) = selW k true pre ++ [x] := HS3.out.trans (if_pos (.inr ⟨hc, rfl⟩))
          have Hsel := Lib.hid hsel
          have hln := selW_len k true pre
          have hv2 : Boxed (W.setCell ⟨w.heap.size + 1 + 1 + 1, 0, none⟩ (.int .i64 ((pre.length : Int) + 1))) (w.heap.size + 1 + 1) 27 v' := (heap_setCell_other _ _ _ _ (by simp)).trans H4.out
          have c52 := hv2.cell
          have hrow2 : Hid ((W.setCell ⟨w.heap.size + 1 + 1 + 1, 0, none⟩ (.int .i64 ((pre.length : Int) + 1))).ownsRow (w.heap.size + 5) 9 1 v' (selW k true pre).length ((selW k true pre).map Value.string)) := Lib.hid (ownsRow_setCell_other H5.out (fun e => by have h7 := (H5.out.lt _ e).1; dsimp only at h7; omega) _)
          clear hsel hv2
          gi_wp2_with (gi_at_builtin; refine wpListIn_append_own _ rfl _ _ 27 rfl (w.heap.size + 5) 9 i0 (.string ⟨#[]⟩) 1 16 Tryz.underlying27 hi0 hz0 hz1 hz2 rfl (by decide) _ _ _ rfl (hrow2.out.alloc _) ⟨W.heap.size, 0, none⟩ 1 1 [.string x] rfl rfl (by have := cell_one_new (W.setCell ⟨w.heap.size + 1 + 1 + 1, 0, none⟩ (.int .i64 ((pre.length : Int) + 1))) (.string x) 9; rw [show (W.setCell ⟨w.heap.size + 1 + 1 + 1, 0, none⟩ (.int .i64 ((pre.length : Int) + 1))).heap.size = W.heap.size from by simp] at this; exact this) (by simp [Value.oneCell']) (by unfold maxLen; omega) (by omega) (by simp; omega) ?_; intro v'' w1 hown' hgrow _; obtain ⟨g', cap', rfl⟩ := ownsRow_succ hown'; have hfin := resI_hit HI0.out Hsel.out H4.out (by omega) hown' hgrow; obtain ⟨hr1, hr2, hr3, hr4⟩ := hfin; have hc1 := hr4.cell; have hf1 := hr4.frozen; have HR1 := Lib.hid hr1; have HR2 := Lib.hid hr2; have HR3 := Lib.hid hr3; clear hr1 hr2 hr3 hr4)
          exact ⟨HR2.out, HR3.out, HR1.out⟩
    case done =>
      rintro W ⟨h1, h2, h3, ⟨v', h4, h5⟩, h6⟩ hK
      rw [selW_map, List.length_map] at h5
      have hwl := wordsS_len (L v.result)
      rw [len_L] at hwl
      have hJ := Join_own W (w.heap.size + 5) v' (selW k more (wordsS (L v.result))) v.result.size (by have := selW_len k more (wordsS (L v.result)); omega) hr (fun x hx => hwl.2 x (selW_mem hx)) h5
      have c5 : W.cell? ⟨w.heap.size + 1 + 1, 0, none⟩ = some v' := h4.cell
      have hres : bs (resultS k more (L v.result)) = bs (Lib.join (selW k more (wordsS (L v.result))) [32]) := by rw [resultS, if_neg (by omega)]
      have HRes := Lib.hid hres
      simp only [World.size_alloc] at hK
      have HK := Lib.hid hK
      have H6 := Lib.hid h6
      clear h1 h2 h3 h4 h5 h6 hwl hres hK
      generalize bs (Lib.join (selW k more (wordsS (L v.result))) [32]) = res at *
      gi_wp2_with (refine ⟨trivial, ?_⟩; gi_at_call 98; refine (callsIn_wide.2 hJ).mono ?_; rintro e w9 ⟨rfl, hb9⟩)
      have hK9 := (hb9.block _ (Array.getElem?_eq_some_iff.1 HK.out).1).trans HK.out
      refine ⟨by simp, .inl ⟨_, _, rfl, run_takeDeferred hK9, ?_⟩⟩
      refine ⟨_, results_tmp rfl _ _ _, ?_⟩
      refine ⟨by rw [HRes.out]; rfl, ?_⟩
      have hW : Below w.heap.size w w9 := H6.out.trans (hb9.mono (by have := H6.out.size; omega))
      exact hW.trans (belowK_b (w := w) (Nat.le_refl _) w9 _ _ _ (by omega) hK9 rfl rfl)
end Go.Proofs.YtifbcfpaifobjaaGreatDoor
