/-
  A list of numbers that came in, and the tape over it; rows beside the heap.
  A law at the append of a row that may be empty to a row of the call's own. Over any program.
  Small facts on blocks that have just been made; rows of texts.
  A list that a function makes beside the tape.
  Rows of numbers: contracts of SameInts and of compile's merged.
  Directories of files as they lie in memory: a row of slices, each slice a row of files.
  A list of lists, each in a row of its own: one more row appended; read as directories.
-/
import Derived.Test.YtgdjknpdgajdgaaG01
import Derived.Laws.AppendOwnNone
import Derived.Deep.AppendLies
import Derived.Deep.WholeRow
import Derived.Lib.Replace
import Derived.Test.YtgdjknpdgajdgaaG04
import Derived.Test.YtgdjknpdgajdgaaG03
namespace Go.Proofs.Ytgdjknpdgajdgaa
open Go.RowKit
theorem own_below2 {w w' : World} {base kk n : Nat} {e : TypeId} {v : Value} {xs : List Value} (h : w.ownsRow base e kk v n xs) (hb : Below w.heap.size w w') : w'.ownsRow base e kk v n xs :=
  h.kept (grown_below hb none) (by cases hv : v.ownBlock <;> simp)
/-- The numbers of a list that came in. -/
def IntsIn (w : World) (A : Option Addr) (n : Nat) : Prop := n ≤ 9223372036854775807 ∧ ∃ ba off, (0 < n → A = some ⟨ba, off, none⟩) ∧ ba < w.heap.size ∧ ∀ i, i < n → ∃ z : Int, w.cell? ⟨ba, off + i, none⟩ = some (.int .i64 z) ∧ -9223372036854775808 ≤ z ∧ z ≤ 9223372036854775807
theorem IntsIn.tape {w : World} {A : Option Addr} {n : Nat} (h : IntsIn w A n) (c : Nat) (t : TypeId) : TapeIs (w.alloc (.cells #[.slice A n c, .int .i64 0] t)) w.heap.size n 0 := by
  obtain ⟨h0, ba, off, hA, hlt, hz⟩ := h
  refine ⟨⟨A, c, t, heap_alloc_new _ _, ba, off, hA, by omega, fun i hi => ?_⟩, h0⟩
  obtain ⟨z, hc, z1, z2⟩ := hz i hi
  exact ⟨z, by rw [World.cell?_of_block (Below.heap_alloc w _ ba hlt)]; exact hc, z1, z2⟩
theorem grown_back {w W0 W : World} {b : Nat} (h : Below w.heap.size w W0) (hg : W0.grownBy W (some b)) (hb : w.heap.size ≤ b) : Below w.heap.size w W :=
  ⟨hg.os.trans h.os, hg.tape.trans h.tape, hg.output.trans h.output, Nat.le_trans h.size hg.size, fun k hk => (hg.block k (Nat.lt_of_lt_of_le hk h.size) (by intro e; have := Option.some.inj e; omega)).trans (h.block k hk)⟩
theorem IntsIn.keep {w W : World} {A : Option Addr} {n : Nat} (h : IntsIn w A n) (hb : Below w.heap.size w W) : IntsIn W A n := by
  obtain ⟨h0, ba, off, hA, hlt, hz⟩ := h
  refine ⟨h0, ba, off, hA, Nat.lt_of_lt_of_le hlt hb.size, fun i hi => ?_⟩
  obtain ⟨z, hc, z1, z2⟩ := hz i hi
  exact ⟨z, by rw [hb.cell (p := ⟨ba, off + i, none⟩) hlt]; exact hc, z1, z2⟩
end Go.Proofs.Ytgdjknpdgajdgaa
namespace Go.Proofs.Ytgdjknpdgajdgaa
open Go.RowKit
variable {P : Program} {w : World}
theorem run_append_owned_empty (base : Nat) (t ty e : TypeId) (i : TypeInfo) (size : Nat) (ht : P.underlying t = some (.slice e)) (hi : P.info? e = some i)
    (v : Value) (n : Nat) (xs : List Value) (hown : w.ownsRow base e size v n xs) (A : Option Addr) (c : Nat) :
    (Builtin.append_ #[t, t] ty #[v, .slice A 0 c]).run P w = .ok v w := by
  cases A with
  | none =>
    rcases hown.2 with ⟨rfl, rfl⟩ | ⟨g, cap, cur, rfl, _, _, hnc, _⟩
    · simp [Builtin.append_, run_underlying ht, sizeOf, typeInfo, hi, Builtin.lenOf, Builtin.firstCells]
    · simp [Builtin.append_, run_underlying ht, sizeOf, typeInfo, hi, Builtin.lenOf, Builtin.firstCells, hnc, storeCells]
  | some a =>
    rcases hown.2 with ⟨rfl, rfl⟩ | ⟨g, cap, cur, rfl, _, _, hnc, _⟩
    · simp [Builtin.append_, run_underlying ht, sizeOf, typeInfo, hi, Builtin.lenOf, Builtin.firstCells, loadCells, loadCellsFrom]
    · simp [Builtin.append_, run_underlying ht, sizeOf, typeInfo, hi, Builtin.lenOf, Builtin.firstCells, hnc, storeCells, loadCells, loadCellsFrom]
theorem add_plain' (g off j : Nat) : (⟨g, off, none⟩ : Addr).add j = ⟨g, off + j, none⟩ := by unfold Addr.add; split <;> simp_all
/-- append(v, src...), v a row of the call's own, src a row that lies somewhere, empty or not. -/
theorem wp_append_row {o : Oper} {a : Act} {K : Act → World → Prop} {Q : Exit → Act → World → Prop} (s x : Operand) (t : TypeId)
    (ho : o.op = .call { callee := .builtin .append, args := #[s, x], argTypes := #[t, t] })
    (base : Nat) (e : TypeId) (i : TypeInfo) (z : Value) (size bytes : Nat) (ht : P.underlying t = some (.slice e)) (hi : P.info? e = some i) (hz : i.zero = some z)
    (hsize : i.size = size) (hby : i.bytes = bytes) (hzs : z.cells.size = size) (hsz : 0 < size)
    (v : Value) (n : Nat) (xs : List Value) (hs : a.eval s = v) (hown : w.ownsRow base e size v n xs)
    (A : Option Addr) (m c B : Nat) (news : List Value) (hx : a.eval x = .slice A m c) (hrow : RowAt w B A size m news) (h1 : ∀ u ∈ news, u.oneCell' = true)
    (h63 : n + m ≤ maxLen) (hbytes : (n + m) * bytes ≤ 140737488355328) (hbase : base ≤ w.heap.size)
    (h : ∀ v' w', w'.ownsRow base e size v' (n + m) (xs ++ news) → w.grownBy w' v.ownBlock → (v'.ownBlock = v.ownBlock ∨ v'.ownBlock = some w.heap.size) → (0 < m → v' ≠ .slice none 0 0) → K (a.put o.dst v') w') : o.wp P a w K Q := by
  rcases Nat.eq_zero_or_pos m with rfl | hm
  · have hn : news = [] := by have := hrow.len; simpa using this
    subst hn
    have hrun := run_append_owned_empty (P := P) (w := w) base t o.type e i size ht hi v n xs hown A c
    unfold Oper.wp
    simp only [execOp, ho, resolve, invoke, builtin]
    simp [hs, hx, hrun, Result.andThen]
    exact h v w (by simpa using hown) ⟨rfl, rfl, rfl, Nat.le_refl _, fun _ _ _ => rfl⟩ (Or.inl rfl) (fun h => absurd h (by omega))
  · obtain ⟨ba, off, rfl, hB, hc⟩ := hrow.at_ hm
    refine wp_append_lies w s x t ho base e i z size bytes ht hi hz hsize hby hzs hsz v n xs hs hown ⟨ba, off, none⟩ m c news hx hrow.len (fun j u hu => by rw [add_plain']; exact hc j u hu) h1 hm h63 hbytes hbase w.heap.size rfl fun g cap w' h2 h3 h4 h5 => ?_
    refine h _ w' h2 h3 ?_ (fun _ e => by cases e)
    rcases h4 with h4 | h4
    · exact Or.inl h4.symm
    · exact Or.inr (by rw [h4]; rfl)
theorem wpList_append_row {ops : Array Oper} {rest : List Oper} {o : Oper} {a : Act} {Q : Exit → Act → World → Prop} (hgd : o.guard = none) (s x : Operand) (t : TypeId)
    (ho : o.op = .call { callee := .builtin .append, args := #[s, x], argTypes := #[t, t] })
    (base : Nat) (e : TypeId) (i : TypeInfo) (z : Value) (size bytes : Nat) (ht : P.underlying t = some (.slice e)) (hi : P.info? e = some i) (hz : i.zero = some z)
    (hsize : i.size = size) (hby : i.bytes = bytes) (hzs : z.cells.size = size) (hsz : 0 < size)
    (v : Value) (n : Nat) (xs : List Value) (hs : a.eval s = v) (hown : w.ownsRow base e size v n xs)
    (A : Option Addr) (m c B : Nat) (news : List Value) (hx : a.eval x = .slice A m c) (hrow : RowAt w B A size m news) (h1 : ∀ u ∈ news, u.oneCell' = true)
    (h63 : n + m ≤ maxLen) (hbytes : (n + m) * bytes ≤ 140737488355328) (hbase : base ≤ w.heap.size)
    (h : ∀ v' w', w'.ownsRow base e size v' (n + m) (xs ++ news) → w.grownBy w' v.ownBlock → (v'.ownBlock = v.ownBlock ∨ v'.ownBlock = some w.heap.size) → (0 < m → v' ≠ .slice none 0 0) → wpList P ops Q rest (a.put o.dst v') w') : wpList P ops Q (o :: rest) a w :=
  wpList_plain hgd fun _ hK => wp_append_row s x t ho base e i z size bytes ht hi hz hsize hby hzs hsz v n xs hs hown A m c B news hx hrow h1 h63 hbytes hbase fun v' w' h2 h3 h4 h5 => hK _ _ (h v' w' h2 h3 h4 h5)
theorem step_append_row {ops : Array Oper} {o : Oper} {a : Act} {K : Act → World → Prop} {Q : Exit → Act → World → Prop} {E : Prop} (hgd : o.guard = none) (s x : Operand) (t : TypeId)
    (ho : o.op = .call { callee := .builtin .append, args := #[s, x], argTypes := #[t, t] })
    (base : Nat) (e : TypeId) (i : TypeInfo) (z : Value) (size bytes : Nat) (ht : P.underlying t = some (.slice e)) (hi : P.info? e = some i) (hz : i.zero = some z)
    (hsize : i.size = size) (hby : i.bytes = bytes) (hzs : z.cells.size = size) (hsz : 0 < size)
    (v : Value) (n : Nat) (xs : List Value) (hs : a.eval s = v) (hown : w.ownsRow base e size v n xs)
    (A : Option Addr) (m c B : Nat) (news : List Value) (hx : a.eval x = .slice A m c) (hrow : RowAt w B A size m news) (h1 : ∀ u ∈ news, u.oneCell' = true)
    (h63 : n + m ≤ maxLen) (hbytes : (n + m) * bytes ≤ 140737488355328) (hbase : base ≤ w.heap.size)
    (h : ∀ v' w', w'.ownsRow base e size v' (n + m) (xs ++ news) → w.grownBy w' v.ownBlock → (v'.ownBlock = v.ownBlock ∨ v'.ownBlock = some w.heap.size) → (0 < m → v' ≠ .slice none 0 0) → K (a.put o.dst v') w') :
    if Region.wanted o (yielded ops a.tmps) = true then Oper.wp P o a w K Q else E := by
  have hw : Region.wanted o (yielded ops a.tmps) = true := by simp [Region.wanted, hgd]
  rw [if_pos hw]
  exact wp_append_row s x t ho base e i z size bytes ht hi hz hsize hby hzs hsz v n xs hs hown A m c B news hx hrow h1 h63 hbytes hbase h
end Go.Proofs.Ytgdjknpdgajdgaa
namespace Go.Proofs.Ytgdjknpdgajdgaa
open Go.RowKit
theorem below_alloc (W : World) (o : Obj) : Below W.heap.size W (W.alloc o) := (Below.refl _ _).alloc (Nat.le_refl _) _
theorem pre1 (c b : UInt8) (l : Str) : [c].isPrefixOf (b :: l) = (b == c) := by
  simp only [List.isPrefixOf, Bool.and_true]
  rw [Bool.eq_iff_iff]; simp; exact eq_comm
theorem index1_cons (c b : UInt8) (l : Str) : Lib.index (b :: l) [c] = if b == c then 0 else if Lib.index l [c] == -1 then -1 else Lib.index l [c] + 1 := by
  rw [Lib.index, pre1]
theorem size_getD (l : List ByteArray) (k : Nat) (h : (l.all fun s => decide (s.size ≤ 100)) = true) : (l.getD k ⟨#[]⟩).size ≤ 100 := by
  rw [List.getD]
  cases hx : l[k]? with
  | none => exact Nat.zero_le _
  | some x => simpa using List.all_eq_true.1 h x (List.mem_of_getElem? hx)
theorem alloc3 (w : World) (o1 o2 o3 : Obj) : (((w.alloc o1).alloc o2).alloc o3).heap.size = w.heap.size + 3 ∧ (((w.alloc o1).alloc o2).alloc o3).heap[w.heap.size]? = some o1 ∧
    (((w.alloc o1).alloc o2).alloc o3).heap[w.heap.size + 1]? = some o2 ∧ (((w.alloc o1).alloc o2).alloc o3).heap[w.heap.size + 2]? = some o3 ∧ Below w.heap.size w (((w.alloc o1).alloc o2).alloc o3) := by
  have hn : ∀ (W : World) (o : Obj) (k : Nat), k = W.heap.size → (W.alloc o).heap[k]? = some o := fun W o k e => by rw [e]; exact heap_alloc_last W o
  have hs : ∀ (W : World) (o : Obj), (W.alloc o).heap.size = W.heap.size + 1 := fun W o => by simp
  have ho : ∀ (W : World) (o : Obj) (k : Nat), k < W.heap.size → (W.alloc o).heap[k]? = W.heap[k]? := fun W o k h => Below.heap_alloc W o k h
  refine ⟨by simp only [hs], ?_, ?_, hn _ _ _ (by simp only [hs]), (((Below.refl _ _).alloc (Nat.le_refl _) _).alloc (by simp only [hs]; omega) _).alloc (by simp only [hs]; omega) _⟩
  · rw [ho _ _ _ (by simp only [hs]; omega), ho _ _ _ (by simp only [hs]; omega)]; exact hn _ _ _ rfl
  · rw [ho _ _ _ (by simp only [hs]; omega)]; exact hn _ _ _ (by simp only [hs])
theorem strs_cell {W : World} {g : Nat} {A : Array Value} {t : TypeId} (l : List ByteArray) (h : W.heap[g]? = some (.cells A t (0, 0))) (hA : A.toList = l.map Value.string) (k : Nat) (hk : k < l.length) : W.cell? ⟨g, k, none⟩ = some (.string (l.getD k ⟨#[]⟩)) := by
  rw [cell_of_row _ _ k _ _ _ h, ← Array.getElem?_toList, hA, List.getElem?_map, List.getD, List.getElem?_eq_getElem hk]; rfl
theorem RowAt.more {w : World} {B B' k n : Nat} {A : Option Addr} {xs : List Value} (h : RowAt w B A k n xs) (hB : B ≤ B') : RowAt w B' A k n xs :=
  ⟨h.len, fun hn => by
    obtain ⟨ba, off, e, h1, hc⟩ := h.at_ hn
    exact ⟨ba, off, e, Nat.lt_of_lt_of_le h1 hB, hc⟩⟩
theorem own_slice {W : World} {b : Nat} {e : TypeId} {sz : Nat} {v : Value} {n : Nat} {xs : List Value} (h : W.ownsRow b e sz v n xs) : ∃ A c, v = .slice A n c := by
  rcases h.2 with ⟨h1, h2⟩ | ⟨g', cap, cur, h1, _⟩
  · exact ⟨_, _, by rw [h2]; exact h1⟩
  · exact ⟨_, _, h1⟩
end Go.Proofs.Ytgdjknpdgajdgaa
namespace Go.Proofs.Ytgdjknpdgajdgaa
open Go.RowKit
theorem termInfo : (Try.prog.info? 43).map (fun i => (i.zero, i.size, i.bytes)) = some (some (.agg #[.int .i64 0, .string ⟨#[]⟩, .int .i64 0, .string ⟨#[]⟩]), 4, 48) := by kernel_rfl
theorem encTm_one (t : Tm) : ∀ u ∈ encTm t, u.oneCell' = true := by simp [encTm, Value.oneCell']
theorem own_snoc {α : Type} {enc : α → List Value} {W : World} {base k c : Nat} {e : TypeId} {A : Option Addr} {l : List α} {t : α} (h : W.ownsRow base e k (.slice A (l.length + 1) c) (l.length + 1) (cellsOf enc l ++ enc t)) :
    W.ownsRow base e k (.slice A (l.length + 1) c) (l ++ [t]).length (cellsOf enc (l ++ [t])) := by
  rw [List.length_append, List.length_singleton, cellsOf_append]
  have : cellsOf enc [t] = enc t := by simp [cellsOf]
  rw [this]
  exact h
/-- A list that a function has made beside the tape. -/
structure TRow {α : Type} (T : TypeId) (kk : Nat) (enc : α → List Value) (w0 : World) (b n p d : Nat) (w : World) (v : Value) (l : List α) (W : World) : Prop where
  nx : TNx w0 b n p d w W
  own : W.ownsRow w.heap.size T kk v l.length (cellsOf enc l)
  lo : w0.heap.size ≤ w.heap.size
section
variable {α : Type} {T : TypeId} {kk : Nat} {enc : α → List Value} {w0 w W W1 W2 : World} {b n p d d' : Nat} {v : Value} {l : List α}
theorem TRow.far (h : TRow T kk enc w0 b n p d w v l W) : v.ownBlock ≠ some b := fun e => by
  have h1 := (h.own.lt b e).1
  have h2 := h.nx.st.lt
  have h3 := h.lo
  omega
theorem TRow.go (h : TRow T kk enc w0 b n p d w v l W) (hT : TNx w0 b n p d' W W1) : TRow T kk enc w0 b n p d' w v l W1 := ⟨h.nx.trans hT, h.own.kept hT.gr (Or.inr h.far), h.lo⟩
theorem TRow.below (h : TRow T kk enc w0 b n p d w v l W) (hb : Below W.heap.size W W1) : TRow T kk enc w0 b n p d w v l W1 :=
  ⟨h.nx.grownR (grown_below hb none) (fun _ e => by cases e), h.own.kept (grown_below hb none) (by cases hv : v.ownBlock <;> simp), h.lo⟩
theorem TRow.alloc (h : TRow T kk enc w0 b n p d w v l W) (o : Obj) : TRow T kk enc w0 b n p d w v l (W.alloc o) := h.below ((Below.refl _ _).alloc (Nat.le_refl _) _)
theorem TRow.more (h : TRow T kk enc w0 b n p d w v l W) (hd : d ≤ d') : TRow T kk enc w0 b n p d' w v l W := ⟨h.nx.more hd, h.own, h.lo⟩
/-- It has grown by one. -/
theorem TRow.snoc {A : Option Addr} {c : Nat} {t : α} (h : TRow T kk enc w0 b n p d w v l W) (hown : W2.ownsRow w.heap.size T kk (.slice A (l.length + 1) c) (l.length + 1) (cellsOf enc l ++ enc t)) (hg : W.grownBy W2 v.ownBlock) : TRow T kk enc w0 b n p d w (.slice A (l.length + 1) c) (l ++ [t]) W2 :=
  ⟨h.nx.grownR hg (fun j e => by have := (h.own.lt j e).1; have := h.lo; omega), own_snoc hown, h.lo⟩
theorem TNx.refl (h : TSt w0 b n p d w) : TNx w0 b n p d w w := ⟨h, grown_refl _ _⟩
theorem TRow.start (h : TSt w0 b n p d w) : TRow T kk enc w0 b n p d w (.slice none 0 0) [] w := ⟨TNx.refl h, World.ownsRow_nil _ _ _ _, h.size⟩
end
end Go.Proofs.Ytgdjknpdgajdgaa
namespace Go.Proofs.Ytgdjknpdgajdgaa
open Go.RowKit
def iV (l : List Int) : List Value := l.map (Value.int .i64)
theorem iV_len (l : List Int) : (iV l).length = l.length := List.length_map ..
theorem iV_one (l : List Int) : ∀ u ∈ iV l, u.oneCell' = true := fun u hu => by
  obtain ⟨b, _, rfl⟩ := List.mem_map.1 hu; rfl
theorem iV_get {l : List Int} {j : Nat} (h : j < l.length) : (iV l)[j]? = some (.int .i64 l[j]) := by
  unfold iV
  rw [List.getElem?_map, List.getElem?_eq_getElem h]; rfl
theorem iV_app (l m : List Int) : iV (l ++ m) = iV l ++ iV m := List.map_append ..
theorem intInfo : (Try.prog.info? 3).map (fun i => (i.zero, i.size, i.bytes)) = some (some (.int .i64 0), 1, 8) := by kernel_rfl
abbrev IRow (w : World) (B : Nat) (A : Option Addr) (l : List Int) : Prop := RowAt w B A 1 l.length (iV l)
theorem IRow.cell {w wr : World} {B : Nat} {A : Option Addr} {l : List Int} (h : IRow w B A l) (hb : Below B w wr) {k : Nat} (hk : k < l.length) : ∃ ba off, A = some ⟨ba, off, none⟩ ∧ wr.cell? ⟨ba, off + k, none⟩ = some (.int .i64 l[k]) := by
  obtain ⟨ba, off, e, hB, hc⟩ := h.at_ (by omega)
  exact ⟨ba, off, e, (hb.cell (p := ⟨ba, off + k, none⟩) hB).trans (hc k _ (iV_get hk))⟩
theorem IRow.tail {w : World} {B ba off : Nat} {x : Int} {l : List Int} (h : IRow w B (some ⟨ba, off, none⟩) (x :: l)) : IRow w B (some ⟨ba, off + 1, none⟩) l := by
  obtain ⟨ba', off', e, hB, hc⟩ := h.at_ (by simp)
  obtain ⟨rfl, rfl⟩ : ba = ba' ∧ off = off' := by injection e with e; injection e with h1 h2; exact ⟨h1, h2⟩
  refine ⟨by rw [iV_len]; omega, fun _ => ⟨ba, off + 1, rfl, hB, fun j u hu => ?_⟩⟩
  have := hc (j + 1) u (by simpa [iV] using hu)
  rw [show off + 1 + j = off + (j + 1) from by omega]
  exact this
theorem IRow.none {w : World} {B : Nat} {A : Option Addr} : IRow w B A [] := ⟨rfl, fun h => absurd h (Nat.lt_irrefl 0)⟩
set_option maxRecDepth 100000 in
set_option maxHeartbeats 1000000 in
theorem SameInts_yes (A A' : Option Addr) (c c' : Nat) (l : List Int) (w : World) (hn : l.length ≤ 4000000) (h : IRow w w.heap.size A l) (h' : IRow w w.heap.size A' l) :
    Calls Try.prog 8 #[.slice A l.length c, .slice A' l.length c'] w fun e w' => e = .returned (.bool true) ∧ Below w.heap.size w w' := by
  have H := Lib.hid h
  have H' := Lib.hid h'
  clear h h'
  generalize hN : l.length = N at *
  have HN := Lib.hid hN
  clear hN
  go_enter Try.func8, Try.ntmps8
  go_wp2
  go_loopw [5] (fun i wr => ∃ k : Nat, k ≤ N ∧ i = .int .i64 k ∧ Hid (Below w.heap.size w wr)) (fun i _ => N - (intOf i).toNat)
  case atStart => exact ⟨0, Nat.zero_le _, rfl, Below.refl _ _⟩
  case round =>
    obtain ⟨k, hk, rfl, hB⟩ := hrel
    by_cases hlt : k < N
    · have hk' : k < l.length := by rw [HN.out]; exact hlt
      have hr := H.out
      have hr' := H'.out
      obtain ⟨ba, off, rfl, c0⟩ := hr.cell hB.out hk'
      obtain ⟨ba', off', rfl, d0⟩ := hr'.cell hB.out hk'
      have hltI : (k : Int) < (N : Int) := by omega
      generalize l[k] = x at *
      clear hr hr' hk'
      go_wp2
      go_quiet (fail)
      go_wp2
      go_roundw
      case rel => exact ⟨k + 1, by omega, by go_num, below_drewN hB.out _⟩
      case measure => simp [intOf]; omega
    · obtain rfl : k = N := by omega
      go_wp2
      go_ret
      exact ⟨rfl, hB.out⟩
/-- Numbers in a row of the call's own. -/
def IntsPost (m : List Int) (w : World) (e : Ending) (w' : World) : Prop := ∃ v, e = .returned v ∧ w'.ownsRow w.heap.size 3 1 v m.length (iV m) ∧ Below w.heap.size w w'
theorem merge_lt {x y : Int} {a b : List Int} (h : x < y) : mergeS (x :: a) (y :: b) = x :: mergeS a (y :: b) := by rw [mergeS, if_pos h]
theorem merge_gt {x y : Int} {a b : List Int} (h : y < x) : mergeS (x :: a) (y :: b) = y :: mergeS (x :: a) b := by rw [mergeS, if_neg (by omega), if_pos h]
theorem merge_eq {x : Int} {a b : List Int} : mergeS (x :: a) (x :: b) = x :: mergeS a b := by rw [mergeS, if_neg (by omega), if_neg (by omega)]
theorem merge_len : ∀ (a b : List Int), (mergeS a b).length ≤ a.length + b.length
  | [], b => by simp [mergeS]
  | x :: a, [] => by simp [mergeS]
  | x :: a, y :: b => by
    have h1 := merge_len a (y :: b)
    have h2 := merge_len (x :: a) b
    have h3 := merge_len a b
    rw [mergeS]
    split
    · simp at h1 ⊢; omega
    split
    · simp at h2 ⊢; omega
    · simp; omega
termination_by a b => a.length + b.length
set_option maxRecDepth 100000 in
set_option maxHeartbeats 8000000 in
theorem Merged_any (A B : Option Addr) (ca cb : Nat) (la lb : List Int) (w : World) (hla : la.length ≤ 1000) (hlb : lb.length ≤ 1000) (hca : la.length ≤ ca) (hcb : lb.length ≤ cb) (hca2 : ca ≤ 9223372036854775807) (hcb2 : cb ≤ 9223372036854775807) (h : IRow w w.heap.size A la) (h' : IRow w w.heap.size B lb) :
    Calls Try.prog 26 #[.slice A la.length ca, .slice B lb.length cb] w (IntsPost (mergeS la lb) w) := by
  have H := Lib.hid h
  have H' := Lib.hid h'
  clear h h'
  obtain ⟨i0, hi0, hz0, hz1, hz2⟩ := info_parts intInfo
  have Hi0 := Lib.hid hi0
  have Hz0 := Lib.hid hz0
  have Hz1 := Lib.hid hz1
  have Hz2 := Lib.hid hz2
  clear hi0 hz0 hz1 hz2
  have HEnd : Hid (∀ (v : Value) (m : List Int) (W : World), m = mergeS la lb → W.ownsRow w.heap.size 3 1 v m.length (iV m) → Below w.heap.size w W → IntsPost (mergeS la lb) w (.returned v) W) := Lib.hid fun v m W h1 h2 h3 => by subst h1; exact ⟨v, rfl, h2, h3⟩
  generalize hRR : mergeS la lb = R at *
  have HSta : Hid ([] ++ mergeS la lb = R) := Lib.hid hRR
  clear hRR
  generalize hP : IntsPost R w = P at *
  clear hP
  go_enter Try.func26, Try.ntmps26
  go_wp2_with fail
  go_loopg [0, 1, 5] (la.length + lb.length + 1) (fun gk s0 s1 s5 wr => ∃ (A B V : Option Addr) (ca cb d : Nat) (a b m : List Int), s0 = .slice A a.length ca ∧ s1 = .slice B b.length cb ∧ s5 = .slice V m.length d ∧ gk = a.length + b.length + 1 ∧ a.length ≤ ca ∧ b.length ≤ cb ∧ ca ≤ 9223372036854775807 ∧ cb ≤ 9223372036854775807 ∧ m.length + a.length + b.length ≤ 2000 ∧ Hid (IRow w w.heap.size A a) ∧ Hid (IRow w w.heap.size B b) ∧ Hid (m ++ mergeS a b = R) ∧ Hid (wr.ownsRow w.heap.size 3 1 (.slice V m.length d) m.length (iV m)) ∧ Hid (Below w.heap.size w wr))
  case atStart => exact ⟨A, B, none, ca, cb, 0, la, lb, [], rfl, rfl, rfl, rfl, hca, hcb, hca2, hcb2, by simp; omega, H.out, H'.out, HSta.out, World.ownsRow_nil _ _ _ _, Below.refl _ _⟩
  case round =>
    obtain ⟨A, B, V, ca, cb, d, a, b, m, rfl, rfl, rfl, rfl, hca, hcb, hca2, hcb2, hlen, hA, hB, hR, hO, hBw⟩ := hrel
    obtain ⟨wo, rfl⟩ : ∃ wo : World, wo = wr := ⟨_, rfl⟩
    have hwz := hBw.out.size
    have fin : (a = [] ∨ b = []) ∨ ∃ x a' y b', a = x :: a' ∧ b = y :: b' := by
      cases a with
      | nil => exact Or.inl (Or.inl rfl)
      | cons x a' =>
        cases b with
        | nil => exact Or.inl (Or.inr rfl)
        | cons y b' => exact Or.inr ⟨x, a', y, b', rfl, rfl⟩
    rcases fin with hfin | ⟨x, a', y, b', rfl, rfl⟩
    · have HR2 : Hid (m ++ a ++ b = R) := Lib.hid (by
        rcases hfin with rfl | rfl
        · have := hR.out
          rw [mergeS] at this
          rw [List.append_nil]; exact this
        · have := hR.out
          rw [merge_nil] at this
          rw [List.append_nil]; exact this)
      have HA2 := Lib.hid ((hA.out.keep hBw.out).up hwz)
      have HB2 : Hid (∀ W, Below w.heap.size w W → RowAt W W.heap.size B 1 b.length (iV b)) := Lib.hid fun W hW => (hB.out.keep hW).up hW.size
      have h1 : ¬ (0 < a.length ∧ 0 < b.length) := by
        rcases hfin with rfl | rfl <;> simp
      have HEx : Hid (∀ v (W : World), W.ownsRow w.heap.size 3 1 v (m.length + a.length + b.length) (iV m ++ iV a ++ iV b) → Below w.heap.size w W → P (.returned v) W) := Lib.hid fun v W h2 h3 => HEnd.out v _ W HR2.out (by rw [List.length_append, List.length_append, iV_app, iV_app]; exact h2) h3
      have ht : (decide (0 < (a.length : Int)) && decide (0 < (b.length : Int))) = false := by
        rcases hfin with rfl | rfl <;> simp
      have hcase : a.length = 0 ∨ (0 < a.length ∧ b.length = 0) := by
        rcases hfin with rfl | rfl
        · exact Or.inl rfl
        · simp only [List.length_nil, and_true]; omega
      clear hfin hA hB hR h1 ht
      generalize ha' : a.length = na at *
      generalize hb' : b.length = nb at *
      have HNa := Lib.hid ha'
      have HNb := Lib.hid hb'
      clear ha' hb'
      rcases hcase with rfl | ⟨hpos, rfl⟩
      · go_wp2_with (first
          | (at_builtin; go_loud (refine wpList_append_row rfl (.tmp 40) (.tmp 41) _ (by rfl) w.heap.size 3 i0 _ 1 8 Try.underlying22 Hi0.out Hz0.out Hz1.out Hz2.out rfl (by omega) (.slice V m.length d) m.length (iV m) (by rfl) hO.out A 0 ca _ (iV a) (by rfl) HA2.out (iV_one a) (by unfold maxLen; omega) (by omega) (by omega) ?_; intro v1 w1 hown1 hg1 hat1 hnn1; have HO1 := Lib.hid hown1; have HB1 := Lib.hid (hBw.out.grown hg1 hBw.out.size (fun j e => (hO.out.lt j e).1)); have hz1 := hg1.size; clear hown1 hg1 hat1 hnn1))
          | (at_builtin; go_loud (refine wpList_append_row rfl (.tmp 42) (.tmp 43) _ (by rfl) w.heap.size 3 i0 _ 1 8 Try.underlying22 Hi0.out Hz0.out Hz1.out Hz2.out rfl (by omega) v1 (m.length + 0) (iV m ++ iV a) (by rfl) HO1.out B nb cb _ (iV b) (by rfl) (HB2.out _ HB1.out) (iV_one b) (by unfold maxLen; omega) (by omega) (by omega) ?_; intro v2 w2 hown2 hg2 hat2 hnn2; have HO2 := Lib.hid hown2; have HB9 := Lib.hid (HB1.out.grown hg2 HB1.out.size (fun j e => (HO1.out.lt j e).1)); clear hown2 hg2 hat2 hnn2)))
        exact HEx.out _ _ HO2.out HB9.out
      · have hposI : (0 : Int) < (na : Int) := by omega
        go_wp2_with (first
          | (at_builtin; go_loud (refine wpList_append_row rfl (.tmp 40) (.tmp 41) _ (by rfl) w.heap.size 3 i0 _ 1 8 Try.underlying22 Hi0.out Hz0.out Hz1.out Hz2.out rfl (by omega) (.slice V m.length d) m.length (iV m) (by rfl) hO.out A na ca _ (iV a) (by rfl) HA2.out (iV_one a) (by unfold maxLen; omega) (by omega) (by omega) ?_; intro v1 w1 hown1 hg1 hat1 hnn1; have HO1 := Lib.hid hown1; have HB1 := Lib.hid (hBw.out.grown hg1 hBw.out.size (fun j e => (hO.out.lt j e).1)); have hz1 := hg1.size; clear hown1 hg1 hat1 hnn1))
          | (at_builtin; go_loud (refine wpList_append_row rfl (.tmp 42) (.tmp 43) _ (by rfl) w.heap.size 3 i0 _ 1 8 Try.underlying22 Hi0.out Hz0.out Hz1.out Hz2.out rfl (by omega) v1 (m.length + na) (iV m ++ iV a) (by rfl) HO1.out B 0 cb _ (iV b) (by rfl) (HB2.out _ HB1.out) (iV_one b) (by unfold maxLen; omega) (by omega) (by omega) ?_; intro v2 w2 hown2 hg2 hat2 hnn2; have HO2 := Lib.hid hown2; have HB9 := Lib.hid (HB1.out.grown hg2 HB1.out.size (fun j e => (HO1.out.lt j e).1)); clear hown2 hg2 hat2 hnn2)))
        exact HEx.out _ _ HO2.out HB9.out
    · obtain ⟨ba, oa, rfl, x0⟩ := IRow.cell hA.out hBw.out (k := 0) (by simp)
      obtain ⟨bb, ob, rfl, y0⟩ := IRow.cell hB.out hBw.out (k := 0) (by simp)
      have HA1 := Lib.hid hA.out.tail
      have HB1 := Lib.hid hB.out.tail
      have HX : Hid (∀ W, Below w.heap.size w W → W.cell? ⟨ba, oa, none⟩ = some (.int .i64 x) ∧ W.cell? ⟨bb, ob, none⟩ = some (.int .i64 y)) := Lib.hid fun W hW => by
        obtain ⟨_, _, e1, z1⟩ := IRow.cell hA.out hW (k := 0) (by simp)
        obtain ⟨_, _, e2, z2⟩ := IRow.cell hB.out hW (k := 0) (by simp)
        injection e1 with e1
        injection e2 with e2
        injection e1 with e1 e3
        injection e2 with e2 e4
        subst e1 e2 e3 e4
        exact ⟨z1, z2⟩
      rw [List.getElem_cons_zero, Nat.add_zero] at x0 y0
      simp only [List.length_cons] at hca hcb hlen ⊢
      obtain ⟨ca, rfl⟩ : ∃ k, ca = k + 1 := ⟨ca - 1, by omega⟩
      obtain ⟨cb, rfl⟩ : ∃ k, cb = k + 1 := ⟨cb - 1, by omega⟩
      generalize hna : a'.length = na at *
      generalize hnb : b'.length = nb at *
      have HNa := Lib.hid hna
      have HNb := Lib.hid hnb
      have hia : (0 : Int) < ((na + 1 : Nat) : Int) := by omega
      have hib : (0 : Int) < ((nb + 1 : Nat) : Int) := by omega
      clear hna hnb
      rcases (by omega : x < y ∨ y < x ∨ x = y) with hxy | hxy | rfl
      · have HR2 : Hid ((m ++ [x]) ++ mergeS a' (y :: b') = R) := Lib.hid (by have := hR.out; rw [merge_lt hxy] at this; rw [List.append_assoc]; exact this)
        have hyx : (y == x) = false := by rw [beq_eq_false_iff_ne]; omega
        have hmin : min x y = x := by omega
        have HMin := Lib.hid hmin
        clear hmin
        go_wp2
        go_quiet (fail)
        generalize hwy : World.drewN wo _ = wy
        have hBy : Below wo.heap.size wo wy := by rw [← hwy]; exact below_drewN (Below.refl _ _) _
        have HOy : Hid (wy.ownsRow w.heap.size 3 1 (.slice V m.length d) m.length (iV m)) := Lib.hid (own_below2 hO.out hBy)
        have HBy : Hid (Below w.heap.size w wy) := Lib.hid (bt hBw.out hBy)
        have hzy := HBy.out.size
        try rw [HMin.out]
        clear hwy hBy x0 y0
        go_wp2_with (at_builtin; go_loud (refine wpList_append_lies _ rfl _ _ _ (by rfl) w.heap.size 3 i0 _ 1 8 Try.underlying22 Hi0.out Hz0.out Hz1.out Hz2.out rfl (by omega) (.slice V m.length d) m.length (iV m) (by rfl) (HOy.out.alloc _) _ 1 1 [.int .i64 x] (by rfl) (by rfl) (by exact World.news_of_block (heap_alloc_new _ _)) (by simp [Value.oneCell']) (by omega) (by unfold maxLen; omega) (by omega) (by simp; omega) _ rfl ?_; intro g2 cap w9 hown2 hgrow2 hat2 hlt2; have HO9 := Lib.hid hown2; have HB9 : Hid (Below w.heap.size w w9) := Lib.hid ((bt HBy.out (below_alloc _ _)).grown hgrow2 (bt HBy.out (below_alloc _ _)).size (fun j e => (HOy.out.lt j e).1)); obtain ⟨x9, y9⟩ := HX.out w9 HB9.out; clear hown2 hgrow2 hat2 hlt2))
        all_goals
          go_wp2
          go_roundg (na + (nb + 1) + 1)
          case measure =>
            have h8 := HNa.out
            have h9 := HNb.out
            try simp only [List.length_cons] at *
            omega
          case rel =>
            have h8 := HNa.out
            have h9 := HNb.out
            exact ⟨_, _, _, _, _, _, a', y :: b', m ++ [x], by rw [HNa.out], by rw [List.length_cons, HNb.out], by rw [List.length_append]; rfl, by (try simp only [List.length_cons]); omega, by (try simp only [List.length_cons]); omega, by (try simp only [List.length_cons]); omega, by omega, by omega, by (try simp only [List.length_cons, List.length_append, List.length_nil]); omega, by (first | exact HA1.out | (obtain rfl : a' = [] := List.length_eq_zero_iff.1 (by omega); exact IRow.none)), hB.out, HR2.out, by rw [List.length_append, iV_app]; exact HO9.out, HB9.out⟩
      · have HR2 : Hid ((m ++ [y]) ++ mergeS (x :: a') b' = R) := Lib.hid (by have := hR.out; rw [merge_gt hxy] at this; rw [List.append_assoc]; exact this)
        have hyx : (x == y) = false := by rw [beq_eq_false_iff_ne]; omega
        have hmin : min x y = y := by omega
        have HMin := Lib.hid hmin
        clear hmin
        go_wp2
        go_quiet (fail)
        generalize hwy : World.drewN wo _ = wy
        have hBy : Below wo.heap.size wo wy := by rw [← hwy]; exact below_drewN (Below.refl _ _) _
        have HOy : Hid (wy.ownsRow w.heap.size 3 1 (.slice V m.length d) m.length (iV m)) := Lib.hid (own_below2 hO.out hBy)
        have HBy : Hid (Below w.heap.size w wy) := Lib.hid (bt hBw.out hBy)
        have hzy := HBy.out.size
        try rw [HMin.out]
        clear hwy hBy x0 y0
        go_wp2_with (at_builtin; go_loud (refine wpList_append_lies _ rfl _ _ _ (by rfl) w.heap.size 3 i0 _ 1 8 Try.underlying22 Hi0.out Hz0.out Hz1.out Hz2.out rfl (by omega) (.slice V m.length d) m.length (iV m) (by rfl) (HOy.out.alloc _) _ 1 1 [.int .i64 y] (by rfl) (by rfl) (by exact World.news_of_block (heap_alloc_new _ _)) (by simp [Value.oneCell']) (by omega) (by unfold maxLen; omega) (by omega) (by simp; omega) _ rfl ?_; intro g2 cap w9 hown2 hgrow2 hat2 hlt2; have HO9 := Lib.hid hown2; have HB9 : Hid (Below w.heap.size w w9) := Lib.hid ((bt HBy.out (below_alloc _ _)).grown hgrow2 (bt HBy.out (below_alloc _ _)).size (fun j e => (HOy.out.lt j e).1)); obtain ⟨x9, y9⟩ := HX.out w9 HB9.out; clear hown2 hgrow2 hat2 hlt2))
        all_goals
          go_wp2
          go_roundg (na + 1 + nb + 1)
          case measure =>
            have h8 := HNa.out
            have h9 := HNb.out
            try simp only [List.length_cons] at *
            omega
          case rel =>
            have h8 := HNa.out
            have h9 := HNb.out
            exact ⟨_, _, _, _, _, _, x :: a', b', m ++ [y], by rw [List.length_cons, HNa.out], by rw [HNb.out], by rw [List.length_append]; rfl, by (try simp only [List.length_cons]); omega, by (try simp only [List.length_cons]); omega, by (try simp only [List.length_cons]); omega, by omega, by omega, by (try simp only [List.length_cons, List.length_append, List.length_nil]); omega, hA.out, by (first | exact HB1.out | (obtain rfl : b' = [] := List.length_eq_zero_iff.1 (by omega); exact IRow.none)), HR2.out, by rw [List.length_append, iV_app]; exact HO9.out, HB9.out⟩
      · have HR2 : Hid ((m ++ [x]) ++ mergeS a' b' = R) := Lib.hid (by have := hR.out; rw [merge_eq] at this; rw [List.append_assoc]; exact this)
        have hmin : min x x = x := by omega
        have HMin := Lib.hid hmin
        clear hmin
        go_wp2
        go_quiet (fail)
        generalize hwy : World.drewN wo _ = wy
        have hBy : Below wo.heap.size wo wy := by rw [← hwy]; exact below_drewN (Below.refl _ _) _
        have HOy : Hid (wy.ownsRow w.heap.size 3 1 (.slice V m.length d) m.length (iV m)) := Lib.hid (own_below2 hO.out hBy)
        have HBy : Hid (Below w.heap.size w wy) := Lib.hid (bt hBw.out hBy)
        have hzy := HBy.out.size
        try rw [HMin.out]
        clear hwy hBy x0 y0
        go_wp2_with (at_builtin; go_loud (refine wpList_append_lies _ rfl _ _ _ (by rfl) w.heap.size 3 i0 _ 1 8 Try.underlying22 Hi0.out Hz0.out Hz1.out Hz2.out rfl (by omega) (.slice V m.length d) m.length (iV m) (by rfl) (HOy.out.alloc _) _ 1 1 [.int .i64 x] (by rfl) (by rfl) (by exact World.news_of_block (heap_alloc_new _ _)) (by simp [Value.oneCell']) (by omega) (by unfold maxLen; omega) (by omega) (by simp; omega) _ rfl ?_; intro g2 cap w9 hown2 hgrow2 hat2 hlt2; have HO9 := Lib.hid hown2; have HB9 : Hid (Below w.heap.size w w9) := Lib.hid ((bt HBy.out (below_alloc _ _)).grown hgrow2 (bt HBy.out (below_alloc _ _)).size (fun j e => (HOy.out.lt j e).1)); obtain ⟨x9, y9⟩ := HX.out w9 HB9.out; clear hown2 hgrow2 hat2 hlt2))
        all_goals
          go_wp2
          go_roundg (na + nb + 1)
          case measure =>
            have h8 := HNa.out
            have h9 := HNb.out
            try simp only [List.length_cons] at *
            omega
          case rel =>
            have h8 := HNa.out
            have h9 := HNb.out
            exact ⟨_, _, _, _, _, _, a', b', m ++ [x], by rw [HNa.out], by rw [HNb.out], by rw [List.length_append]; rfl, by (try simp only [List.length_cons]); omega, by (try simp only [List.length_cons]); omega, by (try simp only [List.length_cons]); omega, by omega, by omega, by (try simp only [List.length_cons, List.length_append, List.length_nil]); omega, by (first | exact HA1.out | (obtain rfl : a' = [] := List.length_eq_zero_iff.1 (by omega); exact IRow.none)), by (first | exact HB1.out | (obtain rfl : b' = [] := List.length_eq_zero_iff.1 (by omega); exact IRow.none)), HR2.out, by rw [List.length_append, iV_app]; exact HO9.out, HB9.out⟩
end Go.Proofs.Ytgdjknpdgajdgaa
namespace Go.Proofs.Ytgdjknpdgajdgaa
open Go.RowKit
/-- A row of values that lies wholly below the heap's end. -/
structure DirsAt (w : World) (A : Option Addr) (ds : List (Ls At)) : Prop where
  outer : RowAt w w.heap.size A 1 ds.length (ds.map Ls.v)
  inner : InAt 2 encAt id w w.heap.size ds
  cap : ∀ d ∈ ds, d.l.length ≤ d.c
def lsOf (ds : List (Ls At)) : List (List At) := ds.map (·.l)
/-- How many there are, of directories and of files. -/
def bulk (ds : List (Ls At)) : Nat := (ds.map fun d => 1 + d.l.length).sum
theorem bulk_cons (d : Ls At) (r : List (Ls At)) : bulk (d :: r) = 1 + d.l.length + bulk r := by simp [bulk]
theorem bulk_append (a b : List (Ls At)) : bulk (a ++ b) = bulk a + bulk b := by simp [bulk]
theorem bulk_len (ds : List (Ls At)) : ds.length ≤ bulk ds := by
  induction ds with
  | nil => exact Nat.zero_le _
  | cons d r ih => rw [bulk_cons, List.length_cons]; omega
theorem bulk_mem {ds : List (Ls At)} {d : Ls At} (h : d ∈ ds) : d.l.length < bulk ds := by
  induction ds with
  | nil => cases h
  | cons x r ih =>
    rw [bulk_cons]
    rcases List.mem_cons.1 h with rfl | h
    · omega
    · have := ih h; omega
theorem allN_len (ds : List (Ls At)) : (allN (lsOf ds)).length ≤ bulk ds := by
  induction ds with
  | nil => exact Nat.zero_le _
  | cons d r ih =>
    rw [bulk_cons]
    have : allN (lsOf (d :: r)) = d.l.map nm ++ allN (lsOf r) := by simp [allN, lsOf]
    rw [this, List.length_append, List.length_map]; omega
theorem allN_append (a b : List (List At)) : allN (a ++ b) = allN a ++ allN b := by simp [allN]
theorem lsOf_take (ds : List (Ls At)) (k : Nat) : lsOf (ds.take k) = (lsOf ds).take k := by simp [lsOf, List.map_take]
theorem DirsAt.keep {w w' : World} {A : Option Addr} {ds : List (Ls At)} (h : DirsAt w A ds) (hb : Below w.heap.size w w') : DirsAt w' A ds :=
  ⟨(h.outer.keep hb).up hb.size, (h.inner.keep hb).up hb.size, h.cap⟩
/-- One directory's slice. -/
theorem DirsAt.dir {w : World} {A : Option Addr} {ds : List (Ls At)} (h : DirsAt w A ds) {i : Nat} (hi : i < ds.length) :
    ∃ g off, A = some ⟨g, off, none⟩ ∧ g < w.heap.size ∧ (∀ W, Below w.heap.size w W → W.cell? ⟨g, off + i, none⟩ = some (.slice ds[i].A ds[i].l.length ds[i].c)) ∧ (∀ W, Below w.heap.size w W → RowAt W W.heap.size ds[i].A 2 ds[i].l.length (cellsOf encAt ds[i].l)) := by
  obtain ⟨g, off, e, hg, hc⟩ := h.outer.at_ (by omega)
  refine ⟨g, off, e, hg, fun W hb => ?_, fun W hb => ?_⟩
  · rw [hb.cell (p := ⟨g, off + i, none⟩) hg]
    exact hc i _ (by rw [List.getElem?_map, List.getElem?_eq_getElem hi]; rfl)
  · exact ((h.inner _ (List.getElem_mem hi)).keep hb).up hb.size
/-- A file of a row. -/
theorem RowAt.file {w : World} {B : Nat} {A : Option Addr} {l : List At} (h : RowAt w B A 2 l.length (cellsOf encAt l)) {k : Nat} (hk : k < l.length) :
    ∃ ba off, A = some ⟨ba, off, none⟩ ∧ ba < B ∧ ∀ W, Below B w W → W.cell? ⟨ba, off + k * 2, none⟩ = some (.string l[k].name) ∧ W.cell? ⟨ba, off + k * 2 + 1, none⟩ = some (.string l[k].val) := by
  obtain ⟨ba, off, e, hB, hc⟩ := h.cell encAt_len hk
  refine ⟨ba, off, e, hB, fun W hb => ⟨?_, ?_⟩⟩
  · rw [hb.cell (p := ⟨ba, off + k * 2, none⟩) hB]
    exact hc k _ (List.getElem?_eq_getElem hk) 0 _ rfl
  · rw [hb.cell (p := ⟨ba, off + k * 2 + 1, none⟩) hB]
    exact hc k _ (List.getElem?_eq_getElem hk) 1 _ rfl
theorem RowAt.fileX {w : World} {B : Nat} {A : Option Addr} {l : List At} (h : RowAt w B A 2 l.length (cellsOf encAt l)) {k : Nat} {x : At} (hx : l[k]? = some x) :
    ∃ ba off, A = some ⟨ba, off, none⟩ ∧ ba < B ∧ ∀ W, Below B w W → W.cell? ⟨ba, off + k * 2, none⟩ = some (.string x.name) ∧ W.cell? ⟨ba, off + k * 2 + 1, none⟩ = some (.string x.val) := by
  obtain ⟨hk, rfl⟩ := List.getElem?_eq_some_iff.1 hx
  exact h.file hk
/-- The head of a row. -/
theorem RowAt.head {w : World} {B k n m : Nat} {A : Option Addr} {xs : List Value} (h : RowAt w B A k n xs) (hm : m ≤ n) : RowAt w B A k m (xs.take (m * k)) := by
  refine ⟨?_, fun hm0 => ?_⟩
  · rw [List.length_take, h.len]
    have := Nat.mul_le_mul_right k hm
    omega
  · obtain ⟨ba, off, e, hB, hc⟩ := h.at_ (by omega)
    refine ⟨ba, off, e, hB, fun j u hu => hc j u ?_⟩
    rw [List.getElem?_take] at hu
    split at hu
    · exact hu
    · cases hu
theorem cellsOf_take {α : Type} (enc : α → List Value) (k : Nat) (hk : ∀ x, (enc x).length = k) (l : List α) (m : Nat) : (cellsOf enc l).take (m * k) = cellsOf enc (l.take m) := by
  induction l generalizing m with
  | nil => simp [cellsOf]
  | cons x l ih =>
    cases m with
    | zero => simp [cellsOf]
    | succ m =>
      have e : cellsOf enc (x :: l) = enc x ++ cellsOf enc l := by simp [cellsOf]
      have e2 : cellsOf enc ((x :: l).take (m + 1)) = enc x ++ cellsOf enc (l.take m) := by simp [cellsOf]
      rw [e, e2, List.take_append, hk, ← ih m, List.take_of_length_le (by rw [hk, Nat.add_mul]; omega), show (m + 1) * k - k = m * k from by rw [Nat.add_mul]; omega]
/-- A row of texts. -/
def strV (s : Str) : Value := .string (bs s)
theorem RowAt.text {w : World} {B n : Nat} {A : Option Addr} {l : List Str} (h : RowAt w B A 1 n (l.map strV)) {k : Nat} (hk : k < l.length) :
    ∃ ba off, A = some ⟨ba, off, none⟩ ∧ ba < B ∧ ∀ W, Below B w W → W.cell? ⟨ba, off + k, none⟩ = some (.string (bs l[k])) := by
  have hn : l.length = n := by have := h.len; simpa using this
  obtain ⟨ba, off, e, hB, hc⟩ := h.at_ (by omega)
  refine ⟨ba, off, e, hB, fun W hb => ?_⟩
  rw [hb.cell (p := ⟨ba, off + k, none⟩) hB]
  exact hc k _ (by rw [List.getElem?_map, List.getElem?_eq_getElem hk]; rfl)
/-- The first files of a directory are right: no name twice, each a name. -/
def GoodPre (d : List At) (m : Nat) : Prop := ((d.take m).map nm).Nodup ∧ ((d.take m).all fun x => validS (nm x)) = true
theorem good_zero (d : List At) : GoodPre d 0 := by simp [GoodPre]
theorem good_step {d : List At} {m : Nat} {x : At} (h : GoodPre d m) (hx : d[m]? = some x) (hf : findF (d.take m) (nm x) = none) (hv : validS (nm x) = true) : GoodPre d (m + 1) := by
  obtain ⟨hm, rfl⟩ := List.getElem?_eq_some_iff.1 hx
  obtain ⟨h1, h2⟩ := h
  rw [findF_none] at hf
  unfold GoodPre
  rw [List.take_succ_eq_append_getElem hm]
  refine ⟨?_, by rw [List.all_append, h2]; simp [hv]⟩
  rw [List.map_append, List.nodup_append]
  refine ⟨h1, by simp, fun a ha b hb e => ?_⟩
  subst e
  have hb : a = nm d[m] := by simpa using hb
  rw [hb] at ha
  exact hf ha
theorem good_all {d : List At} {m : Nat} (h : GoodPre d m) (hm : d.length ≤ m) : badD d = false := by
  unfold GoodPre at h
  rw [List.take_of_length_le hm] at h
  unfold badD
  rw [decide_eq_true h.1, Bool.not_true, Bool.false_or, Bool.eq_false_iff]
  intro ha
  obtain ⟨x, hx, e⟩ := List.any_eq_true.1 ha
  have := List.all_eq_true.1 h.2 x hx
  rw [this] at e
  cases e
theorem bad_dup {d : List At} {m : Nat} {x y : At} (hx : d[m]? = some x) (hf : findF (d.take m) (nm x) = some y) : badD d = true := by
  obtain ⟨hm, rfl⟩ := List.getElem?_eq_some_iff.1 hx
  obtain ⟨e, hy⟩ := findF_name hf
  have hn : ¬ (d.map nm).Nodup := fun hn => by
    have h1 : (((d.take m) ++ (d.drop m)).map nm).Nodup := by rw [List.take_append_drop]; exact hn
    rw [List.map_append, List.nodup_append] at h1
    exact h1.2.2 (nm y) (List.mem_map.2 ⟨y, hy, rfl⟩) (nm d[m]) (List.mem_map.2 ⟨d[m], List.mem_of_getElem? (i := 0) (by rw [List.getElem?_drop, Nat.add_zero]; exact hx), rfl⟩) e
  unfold badD
  rw [decide_eq_false hn]
  rfl
theorem bad_val {d : List At} {x : At} (hx : x ∈ d) (hv : validS (nm x) = false) : badD d = true := by
  unfold badD
  rw [Bool.or_eq_true]
  exact Or.inr (List.any_eq_true.2 ⟨x, hx, by rw [hv]; rfl⟩)
theorem check_bad {ds : List (List At)} {d : List At} (hd : d ∈ ds) (h : badD d = true) : checkF ds = 171 := by
  unfold checkF
  rw [if_pos (List.any_eq_true.2 ⟨d, hd, h⟩)]
theorem check_good {ds : List (List At)} (h : ∀ d ∈ ds, badD d = false) : checkF ds = if 64 < (namesS (allN ds)).length then 170 else 0 := by
  unfold checkF
  rw [if_neg]
  intro ha
  obtain ⟨d, hd, e⟩ := List.any_eq_true.1 ha
  rw [h d hd] at e
  cases e
/-- One step further, of a world that stands as it stood below where all began. -/
theorem bA {w W : World} {o : Obj} (h : Below w.heap.size w W) : Below w.heap.size w (W.alloc o) := h.alloc h.size _
theorem bD {w W : World} (h : Below w.heap.size w W) : Below w.heap.size w W.drew := h.drew
theorem bS {w W : World} {b i : Nat} {v : Value} (h : Below w.heap.size w W) (hb : w.heap.size ≤ b) : Below w.heap.size w (W.setCell ⟨b, i, none⟩ v) := h.setCell (p := ⟨b, i, none⟩) hb _
theorem bcell {W w1 : World} (hb : Below W.heap.size W w1) : (∀ b o, b < W.heap.size → w1.cell? ⟨b, o, none⟩ = W.cell? ⟨b, o, none⟩) ∧ (∀ b o, b < W.heap.size → w1.frozen? ⟨b, o, none⟩ = W.frozen? ⟨b, o, none⟩) :=
  ⟨fun b o h => hb.cell (p := ⟨b, o, none⟩) h, fun b o h => hb.frozen (p := ⟨b, o, none⟩) h⟩
end Go.Proofs.Ytgdjknpdgajdgaa
namespace Go.Proofs.Ytgdjknpdgajdgaa
open Go.RowKit
theorem own_base {w : World} {base base' kk n : Nat} {e : TypeId} {v : Value} {xs : List Value} (h : w.ownsRow base' e kk v n xs) (hb : base ≤ base') : w.ownsRow base e kk v n xs := by
  refine ⟨h.1, ?_⟩
  rcases h.2 with h1 | ⟨g, cap, cur, h1, h2, h3⟩
  · exact Or.inl h1
  · exact Or.inr ⟨g, cap, cur, h1, Nat.le_trans hb h2, h3⟩
section
variable {α : Type} {TO TI : TypeId} {k : Nat} {enc : α → List Value} {w w' : World} {base : Nat} {v : Value} {vs : List Value} {ls : List (List α)}
theorem NstV.nil : NstV TO TI k enc w base (.slice none 0 0) [] ([] : List (List α)) :=
  ⟨rfl, World.ownsRow_nil _ _ _ _, fun i x l hx => by simp at hx, fun i x g hx => by simp at hx, fun i j x y g _ hx => by simp at hx⟩
/-- The outer row has grown by one row of the call's own, which is none of those that it holds. -/
theorem NstV.push (h : NstV TO TI k enc w base v vs ls) {x v' : Value} {l : List α} (hx : w.ownsRow base TI k x l.length (cellsOf enc l)) (hxo : ∀ g, x.ownBlock = some g → v.ownBlock ≠ some g ∧ ∀ y ∈ vs, y.ownBlock ≠ some g)
    {g2 : Nat} (hv' : v'.ownBlock = some g2) (hown : w'.ownsRow base TO 1 v' (vs.length + 1) (vs ++ [x])) (hg : w.grownBy w' v.ownBlock) (hat : v.ownBlock = some g2 ∨ w.heap.size ≤ g2) :
    NstV TO TI k enc w' base v' (vs ++ [x]) (ls ++ [l]) := by
  have hold : ∀ (i : Nat) (y : Value), (vs ++ [x])[i]? = some y → (i < vs.length ∧ vs[i]? = some y) ∨ (i = vs.length ∧ y = x) := fun i y hy => by
    rcases Nat.lt_or_ge i vs.length with hi | hi
    · left; rw [List.getElem?_append_left hi] at hy; exact ⟨hi, hy⟩
    · right
      rw [List.getElem?_append_right hi] at hy
      have : i - vs.length = 0 := by
        have := (List.getElem?_eq_some_iff.1 hy).1
        simpa using this
      rw [this] at hy
      exact ⟨by omega, by simpa using hy.symm⟩
  refine ⟨by simp [h.len], by rw [List.length_append, List.length_singleton]; exact hown, fun i y l' hy hl => ?_, fun i y g hy hg' => ?_, fun i j y z g hij hy hz hgy => ?_⟩
  · rcases hold i y hy with ⟨hi, hy⟩ | ⟨hi, rfl⟩
    · rw [List.getElem?_append_left (by rw [← h.len]; exact hi)] at hl
      refine (h.inner i y l' hy hl).kept hg ?_
      cases hv : y.ownBlock with
      | none => exact Or.inl rfl
      | some g => right; intro e; exact h.off i y g hy hv e.symm
    · rw [hi, h.len, List.getElem?_append_right (Nat.le_refl _), Nat.sub_self] at hl
      obtain rfl : l = l' := by simpa using hl
      refine hx.kept hg ?_
      cases hv : y.ownBlock with
      | none => exact Or.inl rfl
      | some g => right; intro e; exact (hxo g hv).1 e.symm
  · rw [hv']
    intro e
    have e : g2 = g := by simpa using e
    subst e
    rcases hold i y hy with ⟨hi, hy⟩ | ⟨_, rfl⟩
    · rcases hat with hat | hat
      · exact h.off i y g2 hy hg' hat
      · have := (h.lt hy hg').2; omega
    · rcases hat with hat | hat
      · exact (hxo g2 hg').1 hat
      · have := (hx.lt g2 hg').2; omega
  · rcases hold i y hy with ⟨hi, hy2⟩ | ⟨hi, hyx⟩
    · rcases hold j z hz with ⟨hj, hz2⟩ | ⟨_, hzx⟩
      · exact h.apart i j y z g hij hy2 hz2 hgy
      · rw [hzx]
        intro e
        exact (hxo g e).2 y (List.mem_of_getElem? hy2) hgy
    · rcases hold j z hz with ⟨hj, hz2⟩ | ⟨hj, _⟩
      · rw [hyx] at hgy
        exact (hxo g hgy).2 z (List.mem_of_getElem? hz2)
      · omega
end
/-- Read as directories. -/
theorem NstV.dirs {TO TI : TypeId} {w : World} {base : Nat} {v : Value} {vs : List Value} {ls : List (List At)} (h : NstV TO TI 2 encAt w base v vs ls) :
    ∃ (A : Option Addr) (c : Nat) (ds : List (Ls At)), v = .slice A ds.length c ∧ lsOf ds = ls ∧ vs = ds.map Ls.v ∧ DirsAt w A ds ∧ ds.length ≤ c := by
  have hds : ∃ ds : List (Ls At), vs = ds.map Ls.v ∧ lsOf ds = ls ∧ (∀ d ∈ ds, w.ownsRow base TI 2 d.v d.l.length (cellsOf encAt d.l) ∧ d.l.length ≤ d.c) := by
    have hl := h.len
    have hi := h.inner
    clear h
    induction vs generalizing ls with
    | nil =>
      have : ls = [] := List.length_eq_zero_iff.1 (by rw [← hl]; rfl)
      subst this
      exact ⟨[], rfl, rfl, fun _ h => by cases h⟩
    | cons x vs ih =>
      cases ls with
      | nil => simp at hl
      | cons l ls =>
        obtain ⟨ds, e1, e2, e3⟩ := ih (ls := ls) (by simpa using hl) (fun i y l' hy hl' => hi (i + 1) y l' (by simpa using hy) (by simpa using hl'))
        have h0 := hi 0 x l rfl rfl
        have hA : ∃ A c, x = .slice A l.length c ∧ l.length ≤ c := by
          rcases h0.2 with ⟨h1, h2⟩ | ⟨g', cap, cur, h1, _, _, hr, _⟩
          · exact ⟨_, _, by rw [h2]; exact h1, by omega⟩
          · exact ⟨_, _, h1, hr⟩
        obtain ⟨A, c, rfl, hc⟩ := hA
        refine ⟨⟨A, c, l⟩ :: ds, by rw [List.map_cons, ← e1]; rfl, by rw [← e2]; rfl, fun d hd => ?_⟩
        rcases List.mem_cons.1 hd with rfl | hd
        · exact ⟨h0, hc⟩
        · exact e3 d hd
  obtain ⟨ds, rfl, e2, e3⟩ := hds
  have ho := h.outer
  rw [List.length_map] at ho
  have hA : ∃ A c, v = .slice A ds.length c ∧ ds.length ≤ c := by
    rcases ho.2 with ⟨h1, h2⟩ | ⟨g', cap, cur, h1, _, _, hr, _⟩
    · exact ⟨_, _, by rw [h2]; exact h1, by omega⟩
    · exact ⟨_, _, h1, hr⟩
  obtain ⟨A, c, rfl, hc⟩ := hA
  exact ⟨A, c, ds, rfl, e2, rfl, ⟨RowAt.of_own ho, fun d hd => RowAt.of_own (e3 d hd).1, fun d hd => (e3 d hd).2⟩, hc⟩
/-- What stands in the way of a step that turns one block that lies far from all. -/
theorem gD {a W : World} {row : Option Nat} (h : a.grownBy W row) : a.grownBy W.drew row := h.trans ⟨rfl, rfl, rfl, Nat.le_refl _, fun _ _ _ => rfl⟩
theorem gA {a W : World} {row : Option Nat} {o : Obj} (h : a.grownBy W row) : a.grownBy (W.alloc o) row := h.trans (World.grownBy_alloc W o row)
theorem TSt.drew1 {w0 W : World} {b n p d : Nat} (h : TSt w0 b n p d W) : TSt w0 b n p d W.drew := h.drewN 1
end Go.Proofs.Ytgdjknpdgajdgaa
