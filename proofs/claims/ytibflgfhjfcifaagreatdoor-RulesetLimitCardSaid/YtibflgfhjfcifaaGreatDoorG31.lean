/-
  Contracts of Parse's search for a key: the closure and slices.IndexFunc over the table of forms.
  Contract of slices.IndexFunc over the table of forms, with Parse's closure.
  The terms of a line, in plain words, and sizes of what Tokens gives.
-/
import Derived.Test.YtibflgfhjfcifaaGreatDoorG28
import Derived.Lib.SlicesS
import Derived.Test.YtibflgfhjfcifaaGreatDoorG29
import Derived.Test.YtibflgfhjfcifaaGreatDoorG19
import Derived.Test.YtibflgfhjfcifaaGreatDoorG30
namespace Go.Proofs.YtibflgfhjfcifaaGreatDoor
open Go.RowKit
def FnOk (v : Value) : Prop := v = .nilFunc ∨ ∃ n, v = fnV n
set_option maxRecDepth 100000 in
set_option maxHeartbeats 2000000 in
theorem inKey_any (wd key : ByteArray) (f m v : Value) (a : Option Addr) (n : Nat) (hf : FnOk f) (hm : FnOk m) (hv : FnOk v) (g : Nat) (w : World) (hg : w.cell? ⟨g, 0, none⟩ = some (.string key)) (hgs : g < w.heap.size) :
 Calls Tryz.prog 61 #[.agg #[.string wd, f, .slice a n n, m, v], .pointer (some ⟨g, 0, none⟩)] w fun e w' => e = .returned (.bool (L wd == L key)) ∧ Below w.heap.size w w' := by
 have ht : (wd.toList == key.toList) = (L wd == L key) := by rw [tl, tl]
 have HT := Lib.hid ht
 clear ht
 rcases hf with rfl | ⟨nf, rfl⟩ <;> rcases hm with rfl | ⟨nm, rfl⟩ <;> rcases hv with rfl | ⟨nv, rfl⟩
 all_goals
  try unfold fnV
  go_enter Tryz.func61, Tryz.ntmps61
  go_wp2
  go_ret
  exact ⟨ret_bool HT.out, below_alloc _ _⟩
end Go.Proofs.YtibflgfhjfcifaaGreatDoor
namespace Go.Proofs.YtibflgfhjfcifaaGreatDoor
open Go.RowKit
def RowsOk (cs : Array Value) : Prop := cs.size = 125 ∧ ∀ k : Nat, k < 25 → ∃ f m v a n, rowOf cs k = #[.string (keysB.getD k ByteArray.empty), f, .slice a n n, m, v] ∧ FnOk f ∧ FnOk m ∧ FnOk v
theorem keyW_getD (k : Nat) (_h : k < 25) : keyW (k : Int) = keysB.getD k ByteArray.empty := by
 rw [keyW, Int.toNat_natCast]; rfl
theorem FormsOk.rows {cs : Array Value} {w : World} (h : FormsOk cs w) (h0 : rowOf cs 0 = #[.string ⟨#[]⟩, .nilFunc, .slice none 0 0, .nilFunc, .nilFunc]) : RowsOk cs := by
 refine ⟨h.1, fun k hk => ?_⟩
 rcases Nat.eq_zero_or_pos k with rfl | hp
 · exact ⟨.nilFunc, .nilFunc, .nilFunc, none, 0, h0, Or.inl rfl, Or.inl rfl, Or.inl rfl⟩
 · obtain ⟨sl, e, hs⟩ := h.2 k (by omega) (by omega)
   rw [keyW_getD k hk] at e
   have hm : FnOk (mfV k) := by
    unfold mfV
    split
    · exact Or.inl rfl
    split
    · exact Or.inr ⟨_, rfl⟩
    split <;> exact Or.inr ⟨_, rfl⟩
   have hv : FnOk (vfV k) := by
    unfold vfV
    split
    · exact Or.inr ⟨_, rfl⟩
    split
    · exact Or.inr ⟨_, rfl⟩
    split
    · exact Or.inr ⟨_, rfl⟩
    · exact Or.inl rfl
   rcases hs with ⟨rfl, _⟩ | ⟨g, T, rfl, _⟩
   · exact ⟨_, _, _, none, 0, e, Or.inr ⟨_, rfl⟩, hm, hv⟩
   · exact ⟨_, _, _, some ⟨g, 0, none⟩, _, e, Or.inr ⟨_, rfl⟩, hm, hv⟩
theorem row_cell {cs r : Array Value} {k : Nat} (h : rowOf cs k = r) (hs : cs.size = 125) (hk : k < 25) {j : Nat} (hj : j < 5) : cs[k * 5 + j]? = r[j]? := by
 rw [← h, rowOf, Array.getElem?_extract, Int.toNat_natCast, if_pos (by omega), Nat.mul_comm]
theorem idx_hit (key : ByteArray) {k : Nat} (hk : k < 25) (h : keysB.getD k ByteArray.empty = key) (hno : ∀ j, j < k → keysB.getD j ByteArray.empty ≠ key) : Lib.idxOfS keysB key = (k : Int) := by
 rw [Lib.idxOfS, Lib.idxFromS_hit key keysB k 0 hk h hno, Nat.zero_add]
set_option maxRecDepth 100000 in
set_option maxHeartbeats 2000000 in
theorem IndexForms_any (cs : Array Value) (T g : Nat) (ty : TypeId) (key : ByteArray) (w : World) (hR : RowsOk cs) (hT : w.heap[T]? = some (.cells cs ty (0, 0))) (hg : w.cell? ⟨g, 0, none⟩ = some (.string key)) (hgs : g < w.heap.size) :
 Calls Tryz.prog 60 #[.slice (some ⟨T, 0, none⟩) 25 25, .func (.func 61) #[] #[.pointer (some ⟨g, 0, none⟩)]] w fun e w' => e = .returned (.int .i64 (Lib.idxOfS keysB key)) ∧ Below w.heap.size w w' := by
 have HR := Lib.hid hR
 have HT := Lib.hid hT
 have HG := Lib.hid hg
 clear hR hT hg
 go_enter Tryz.func60, Tryz.ntmps60
 go_wp2
 go_loopg [8] 26 (fun gk s8 wr => ∃ k : Nat, s8 = .int .i64 k ∧ k + gk = 26 ∧ k ≤ 25 ∧ Hid (∀ j, j < k → keysB.getD j ByteArray.empty ≠ key) ∧ Hid (Below w.heap.size w wr))
 case atStart => exact ⟨0, rfl, by omega, Nat.zero_le _, fun j hj => absurd hj (Nat.not_lt_zero j), Below.refl _ _⟩
 case round =>
  obtain ⟨k, rfl, hkg, hks, hno, hB⟩ := hrel
  by_cases hlt : k < 25
  · have hltI : (k : Int) < 25 := by omega
    obtain ⟨f, m, v, a, n, hrow, hf, hm, hv⟩ := HR.out.2 k hlt
    have hTr : wr.heap[T]? = some (.cells cs ty (0, 0)) := (hB.out.block T (blk_lt' HT.out)).trans HT.out
    have c0 : wr.cell? ⟨T, k * 5, none⟩ = some (.string (keysB.getD k ByteArray.empty)) := cellOf hTr ((row_cell hrow HR.out.1 hlt (j := 0) (by omega)).trans rfl)
    have c1 : wr.cell? ⟨T, k * 5 + 1, none⟩ = some f := cellOf hTr ((row_cell hrow HR.out.1 hlt (j := 1) (by omega)).trans rfl)
    have c2 : wr.cell? ⟨T, k * 5 + 2, none⟩ = some (.slice a n n) := cellOf hTr ((row_cell hrow HR.out.1 hlt (j := 2) (by omega)).trans rfl)
    have c3 : wr.cell? ⟨T, k * 5 + 3, none⟩ = some m := cellOf hTr ((row_cell hrow HR.out.1 hlt (j := 3) (by omega)).trans rfl)
    have c4 : wr.cell? ⟨T, k * 5 + 4, none⟩ = some v := cellOf hTr ((row_cell hrow HR.out.1 hlt (j := 4) (by omega)).trans rfl)
    have hgr : wr.cell? ⟨g, 0, none⟩ = some (.string key) := (hB.out.cell (p := ⟨g, 0, none⟩) hgs).trans HG.out
    have HC := Lib.hid (inKey_any (keysB.getD k ByteArray.empty) key f m v a n hf hm hv g wr hgr (by have := hB.out.size; omega))
    have HNo := Lib.hid (fun (h : keysB.getD k ByteArray.empty = key) => idx_hit key hlt h hno.out)
    have HNx := Lib.hid (fun (h : keysB.getD k ByteArray.empty ≠ key) (j : Nat) (hj : j < k + 1) => show keysB.getD j ByteArray.empty ≠ key from by
     rcases Nat.lt_or_ge j k with h1 | h1
     · exact hno.out j h1
     · obtain rfl : j = k := by omega
       exact h)
    generalize keysB.getD k ByteArray.empty = wd at *
    clear hrow hf hm hv hTr hgr
    cases hq : (L wd == L key)
    · have HN1 := Lib.hid (HNx.out (fun e => by rw [e] at hq; simp at hq))
      rw [hq] at HC
      clear hq
      go_wp2_with (go_at_call 61; refine HC.out.mono ?_; rintro e w2 ⟨rfl, hb2⟩)
      go_roundg (gk - 1)
      case measure => omega
      case rel => exact ⟨k + 1, by go_num, by omega, by omega, HN1.out, bt hB.out hb2⟩
    · have HH := Lib.hid (HNo.out (L_inj (beq_iff_eq.1 hq)))
      rw [hq] at HC
      clear hq
      go_wp2_with (go_at_call 61; refine HC.out.mono ?_; rintro e w2 ⟨rfl, hb2⟩)
      go_ret
      exact ⟨ret_i (by rw [HH.out]), bt hB.out hb2⟩
  · obtain rfl : k = 25 := by omega
    have HM : Hid (Lib.idxOfS keysB key = -1) := Lib.hid (Lib.idxFromS_miss key keysB 0 (fun j hj => hno.out j hj))
    go_wp2
    go_ret
    exact ⟨ret_i (by rw [HM.out]), hB.out⟩
end Go.Proofs.YtibflgfhjfcifaaGreatDoor
namespace Go.Proofs.YtibflgfhjfcifaaGreatDoor
open Go.RowKit
def tmOf (x : Tk) : Tm := ⟨Lib.idxOfS keysB x.key, x.name, Lib.idxOfS opsW x.op, x.value⟩
def parseL (line : Str) : Except Int (List Tm) := match toksS line with
 | .error e => .error e
 | .ok l => if checkE (l.map tmOf) = 0 then .ok (l.map tmOf) else .error (checkE (l.map tmOf))
structure TkPre (x : Tk) : Prop where
 key : x.key.size ≤ 1024
 name : x.name.size ≤ 1024
 op : x.op.size ≤ 1024
 value : x.value.size ≤ 1024
theorem valF_size (s : Str) : ∀ {acc a r : Str}, valF s acc = .ok (a, r) → a.length ≤ acc.length + s.length := by
 induction hn : s.length using Nat.strongRecOn generalizing s with
 | _ n ih =>
   intro acc a r' h
   cases s with
   | nil => rw [valF_end] at h; cases h
   | cons c r =>
     by_cases h1 : c = 34
     · rw [h1, valF_quote] at h; injection h with h; injection h with h _; rw [← h]; omega
     by_cases h2 : c = 9
     · rw [h2, valF_tab] at h; cases h
     cases hq : Lib.hasPrefix (c :: r) [92, 34]
     · rw [valF_more h1 h2 hq] at h
       have := ih r.length (by rw [← hn]; simp) r rfl h
       rw [List.length_append] at this
       simp at this hn
       omega
     · obtain ⟨r2, hr⟩ := pre_esc hq
       rw [hr, valF_esc] at h
       have := ih r2.length (by rw [← hn, hr]; simp; omega) r2 rfl h
       rw [List.length_append] at this
       rw [hr] at hn
       simp at this hn
       omega
theorem valS_size {s a r : Str} (h : valS s = .ok (a, r)) : a.length ≤ s.length := by
 unfold valS at h
 split at h
 · have := valF_size _ h
   rw [List.length_drop] at this
   simp at this
   omega
 · cases h
theorem nameS_size {s a r : Str} (h : nameS s = .ok (a, r)) : a.length ≤ s.length := by
 unfold nameS at h
 split at h
 · dsimp only at h
   split at h
   · cases h
   · split at h
     · cases h
     · injection h with h; injection h with h _; rw [← h, List.length_take, List.length_drop]; omega
 · injection h with h; injection h with h _; rw [← h]; simp
theorem opS_size {s a r : Str} (h : opS s = .ok (a, r)) : a.length ≤ 2 := by
 unfold opS at h
 split at h
 · rename_i x hx
   injection h with h; injection h with h _
   have hm := List.mem_of_find?_eq_some hx
   rw [← h]
   simp only [opsL, List.mem_cons, List.not_mem_nil, or_false] at hm
   rcases hm with rfl | rfl | rfl | rfl | rfl | rfl <;> simp
 · cases h
theorem tokS_size {s r : Str} {x : Tk} (h : tokS s = .ok (x, r)) (hs : s.length ≤ 1024) : TkPre x := by
 rw [tokS_eq] at h
 by_cases h0 : cnt upC s = 0
 · rw [if_pos h0] at h; cases h
 rw [if_neg h0] at h
 cases h1 : nameS (s.drop (cnt upC s)) with
 | error e => rw [h1] at h; cases h
 | ok p =>
   obtain ⟨nm, r1⟩ := p
   rw [h1] at h
   dsimp only at h
   cases h2 : opS r1 with
   | error e => rw [h2] at h; cases h
   | ok p =>
     obtain ⟨op, r2⟩ := p
     rw [h2] at h
     dsimp only at h
     cases h3 : valS r2 with
     | error e => rw [h3] at h; cases h
     | ok p =>
       obtain ⟨v, r3⟩ := p
       rw [h3] at h
       dsimp only at h
       injection h with h
       injection h with h _
       have a1 := nameS_len h1
       have a2 := opS_len h2
       have b1 := nameS_size h1
       have b2 := opS_size h2
       have b3 := valS_size h3
       rw [List.length_drop] at a1 b1
       rw [← h]
       exact ⟨by rw [size_bs, List.length_take]; omega, by rw [size_bs]; omega, by rw [size_bs]; omega, by rw [size_bs]; omega⟩
theorem toksF_size (n : Nat) : ∀ {line : Str} {beh : Bool} {acc l : List Tk}, toksF n line beh acc = .ok l → line.length ≤ 1024 → (∀ x ∈ acc, TkPre x) → (∀ x ∈ l, TkPre x) ∧ l.length ≤ acc.length + line.length := by
 induction n with
 | zero => intro line beh acc l h; rw [toksF] at h; cases h
 | succ n ih =>
   intro line beh acc l h hl ha
   rw [toksF] at h
   have hr := restS_len line
   split at h
   · injection h with h; rw [← h]; exact ⟨ha, by omega⟩
   · split at h
     · cases h
     · cases hk : tokS (restS line) with
       | error e => rw [hk] at h; cases h
       | ok p =>
         obtain ⟨x, r⟩ := p
         rw [hk] at h
         have h1 := tokS_len hk
         have h2 := tokS_size hk (by omega)
         have h3 := ih h (by omega) (fun y hy => by
          rw [List.mem_append, List.mem_singleton] at hy
          rcases hy with hy | rfl
          · exact ha y hy
          · exact h2)
         refine ⟨h3.1, ?_⟩
         have := h3.2
         rw [List.length_append, List.length_singleton] at this
         omega
theorem toksS_size {line : Str} {l : List Tk} (h : toksS line = .ok l) : (∀ x ∈ l, TkPre x) ∧ l.length ≤ 1024 := by
 unfold toksS at h
 split at h
 · cases h
 split at h
 · cases h
 have := toksF_size _ h (by omega) (fun x hx => absurd hx (by simp))
 exact ⟨this.1, by have := this.2; simp at this; omega⟩
theorem toksF_err (n : Nat) : ∀ {line : Str} {beh : Bool} {acc : List Tk} {e : Int}, toksF n line beh acc = .error e → e = 82 ∨ e = 83 := by
 induction n with
 | zero => intro line beh acc e h; rw [toksF] at h; injection h with h; exact Or.inl h.symm
 | succ n ih =>
   intro line beh acc e h
   rw [toksF] at h
   split at h
   · cases h
   · split at h
     · injection h with h; exact Or.inl h.symm
     · cases hk : tokS (restS line) with
       | error e2 => rw [hk] at h; injection h with h; rw [← h]; exact tokS_err hk
       | ok p => obtain ⟨x, r⟩ := p; rw [hk] at h; exact ih h
theorem toksS_err {line : Str} {e : Int} (h : toksS line = .error e) : e ≠ 0 := by
 unfold toksS at h
 split at h
 · injection h with h; omega
 split at h
 · injection h with h; omega
 · rcases toksF_err _ h with rfl | rfl <;> decide
theorem tmOf_pre {x : Tk} (h : TkPre x) : TmPre (tmOf x) := ⟨by have := h.name; show x.name.size ≤ _; omega, by have := h.value; show x.value.size ≤ _; omega⟩
def OutM (w : World) (l : List Tm) (v : Value) (wr : World) : Prop := wr.ownsRow w.heap.size 66 4 v l.length (cellsOf encTm l) ∧ Below w.heap.size w wr
theorem OutM.go {w wr w' : World} {l : List Tm} {v : Value} (h : OutM w l v wr) (hb : Below wr.heap.size wr w') : OutM w l v w' := ⟨own_below2 h.1 hb, bt h.2 hb⟩
theorem OutM.start {w wr : World} (h : Below w.heap.size w wr) : OutM w [] (.slice none 0 0) wr := ⟨World.ownsRow_nil _ _ _ _, h⟩
theorem OutM.snoc {w wr w9 : World} {l : List Tm} {v : Value} {y : Tm} {o : Obj} {A : Option Addr} {c : Nat} (h : OutM w l v wr) (hown : w9.ownsRow w.heap.size 66 4 (.slice A (l.length + 1) c) (l.length + 1) (cellsOf encTm l ++ encTm y)) (hg : (wr.alloc o).grownBy w9 v.ownBlock) : OutM w (l ++ [y]) (.slice A (l.length + 1) c) w9 :=
 ⟨own_snoc hown, (bt h.2 (below_alloc _ _)).grown hg (by have := h.2.size; simp; omega) (fun j e => (h.1.lt j e).1)⟩
def ParseG (r : Except Int (List Tm)) (w : World) (e : Ending) (w' : World) : Prop := match r with
 | .error n => e = .returned (.tuple #[.slice none 0 0, .int .i64 n]) ∧ Below w.heap.size w w'
 | .ok l => ∃ v, e = .returned (.tuple #[v, .int .i64 0]) ∧ OutM w l v w'
theorem tkAt {w wr : World} {B : Nat} {A : Option Addr} {l : List Tk} (h : RowAt w B A 4 l.length (cellsOf encTk l)) (hb : Below B w wr) {k : Nat} (hk : k < l.length) : ∃ ba off, A = some ⟨ba, off, none⟩ ∧
 wr.cell? ⟨ba, off + k * 4, none⟩ = some (.string l[k].key) ∧ wr.cell? ⟨ba, off + k * 4 + 1, none⟩ = some (.string l[k].name) ∧ wr.cell? ⟨ba, off + k * 4 + 2, none⟩ = some (.string l[k].op) ∧ wr.cell? ⟨ba, off + k * 4 + 3, none⟩ = some (.string l[k].value) := by
 obtain ⟨ba, off, hA, hba, hc⟩ := h.cell encTk_len hk
 have hx : l[k]? = some l[k] := List.getElem?_eq_getElem hk
 refine ⟨ba, off, hA, ?_, ?_, ?_, ?_⟩
 · rw [hb.cell (p := ⟨ba, off + k * 4, none⟩) hba]; exact hc k _ hx 0 _ rfl
 · rw [hb.cell (p := ⟨ba, off + k * 4 + 1, none⟩) hba]; exact hc k _ hx 1 _ rfl
 · rw [hb.cell (p := ⟨ba, off + k * 4 + 2, none⟩) hba]; exact hc k _ hx 2 _ rfl
 · rw [hb.cell (p := ⟨ba, off + k * 4 + 3, none⟩) hba]; exact hc k _ hx 3 _ rfl
theorem tops_any (w : World) :
 Calls Tryz.prog 63 #[] w fun e w' => e = .returned (.slice (some ⟨w.heap.size, 0, none⟩) 7 7) ∧ w.alloc (.cells opsWA 9) = w' := by
 go_enter Tryz.func63, Tryz.ntmps63
 go_wp2
 go_ret
 exact ⟨rfl, rfl⟩
theorem IndexOps_any (g : Nat) (x : ByteArray) (w : World) (h : w.heap[g]? = some (.cells opsWA 9 (0, 0))) :
 Calls Tryz.prog 62 #[.slice (some ⟨g, 0, none⟩) 7 7, .string x] w fun e w' => e = .returned (.int .i64 (Lib.idxOfS opsW x)) ∧ w' = w := by
 have := Tryz.slices_Index_string g 0 7 7 opsW x w (by decide) (by omega) (fun j hj => by
  rw [Nat.zero_add]
  refine cellOf h ?_
  have hj7 : j < 7 := hj
  have := opsWA_at j hj7
  rw [this, opW, Int.toNat_natCast]; rfl)
 rwa [List.take_of_length_le (by decide)] at this
end Go.Proofs.YtibflgfhjfcifaaGreatDoor
