/-
  Small facts on blocks that have just been made; rows of texts.
  Replacing one byte, in plain words; no program in sight.
  Contracts of the reference's small functions: words, kind, braces, count.
-/
import Derived.Test.YtibflgfhjfcifaaGreatDoorG00
import Derived.Deep.WholeRow
import Derived.Lib.Replace
import Derived.Lib.SplitLaws
import Derived.Lib.CountLaws
import Derived.Test.YtibflgfhjfcifaaGreatDoorG10
import Derived.Test.YtibflgfhjfcifaaGreatDoorG12
namespace Go.Proofs.YtibflgfhjfcifaaGreatDoor
open Go.RowKit
theorem below_alloc (W : World) (o : Obj) : Below W.heap.size W (W.alloc o) := (Below.refl _ _).alloc (Nat.le_refl _) _
theorem pre1 (c b : UInt8) (l : Str) : [c].isPrefixOf (b :: l) = (b == c) := by
 simp only [List.isPrefixOf, Bool.and_true]
 rw [Bool.eq_iff_iff]; simp; exact eq_comm
theorem index1_cons (c b : UInt8) (l : Str) : Lib.index (b :: l) [c] = if b == c then 0 else if Lib.index l [c] == -1 then -1 else Lib.index l [c] + 1 := by
 rw [Lib.index, pre1]
theorem alloc3 (w : World) (o1 o2 o3 : Obj) : (((w.alloc o1).alloc o2).alloc o3).heap.size = w.heap.size + 3 ∧ (((w.alloc o1).alloc o2).alloc o3).heap[w.heap.size]? = some o1 ∧
 (((w.alloc o1).alloc o2).alloc o3).heap[w.heap.size + 1]? = some o2 ∧ (((w.alloc o1).alloc o2).alloc o3).heap[w.heap.size + 2]? = some o3 ∧ Below w.heap.size w (((w.alloc o1).alloc o2).alloc o3) := by
 have hn : ∀ (W : World) (o : Obj) (k : Nat), k = W.heap.size → (W.alloc o).heap[k]? = some o := fun W o k e => by rw [e]; exact heap_alloc_last W o
 have hs : ∀ (W : World) (o : Obj), (W.alloc o).heap.size = W.heap.size + 1 := fun W o => by simp
 have ho : ∀ (W : World) (o : Obj) (k : Nat), k < W.heap.size → (W.alloc o).heap[k]? = W.heap[k]? := fun W o k h => Below.heap_alloc W o k h
 refine ⟨by simp only [hs], ?_, ?_, hn _ _ _ (by simp only [hs]), (((Below.refl _ _).alloc (Nat.le_refl _) _).alloc (by simp only [hs]; omega) _).alloc (by simp only [hs]; omega) _⟩
 · rw [ho _ _ _ (by simp only [hs]; omega), ho _ _ _ (by simp only [hs]; omega)]; exact hn _ _ _ rfl
 · rw [ho _ _ _ (by simp only [hs]; omega)]; exact hn _ _ _ (by simp only [hs])
theorem strs_cell {W : World} {g : Nat} {A : Array Value} {t : TypeId} (l : List ByteArray) (h : W.heap[g]? = some (.cells A t (0, 0))) (hA : A.toList = l.map Value.string) (k : Nat) (hk : k < l.length) : W.cell? ⟨g, k, none⟩ = some (.string (l.getD k ⟨#[]⟩)) := by
 rw [cell_of_row _ _ k _ _ _ h, ← Array.getElem?_toList, hA, List.getElem?_map, List.getD, List.getElem?_eq_getElem hk]; rfl
theorem RowAt.more {w : World} {B B' k n : Nat} {A : Option Addr} {xs : List Value} (h : RowAt w B A k n xs) (hB : B ≤ B') : RowAt w B' A k n xs :=
 ⟨h.len, fun hn => by
  obtain ⟨ba, off, e, h1, hc⟩ := h.at_ hn
  exact ⟨ba, off, e, Nat.lt_of_lt_of_le h1 hB, hc⟩⟩
theorem own_slice {W : World} {b : Nat} {e : TypeId} {sz : Nat} {v : Value} {n : Nat} {xs : List Value} (h : W.ownsRow b e sz v n xs) : ∃ A c, v = .slice A n c := by
 rcases h.2 with ⟨h1, h2⟩ | ⟨g', cap, cur, h1, _⟩
 · exact ⟨_, _, by rw [h2]; exact h1⟩
 · exact ⟨_, _, h1⟩
end Go.Proofs.YtibflgfhjfcifaaGreatDoor
namespace Go.Proofs.YtibflgfhjfcifaaGreatDoor
open Go.RowKit
theorem index1 (c : UInt8) (s : Str) : (Lib.index s [c] = -1 ∧ c ∉ s) ∨ ∃ (a r : Str), s = a ++ c :: r ∧ c ∉ a ∧ Lib.index s [c] = a.length := by
 induction s with
 | nil => left; exact ⟨rfl, by simp⟩
 | cons b l ih =>
   have e : Lib.index (b :: l) [c] = if b == c then 0 else if Lib.index l [c] == -1 then -1 else Lib.index l [c] + 1 := by
    rw [Lib.index]
    have : [c].isPrefixOf (b :: l) = (b == c) := by
     simp only [List.isPrefixOf, Bool.and_true]; rw [Bool.eq_iff_iff]; simp; exact eq_comm
    rw [this]
   rw [e]
   by_cases hb : b = c
   · subst hb
     right; exact ⟨[], l, rfl, by simp, by simp⟩
   · have hbc : (b == c) = false := by simpa using hb
     rw [hbc]
     rcases ih with ⟨h1, h2⟩ | ⟨a, r, h1, h2, h3⟩
     · left; rw [h1]; exact ⟨by simp, by simp [h2]; exact fun e => hb e.symm⟩
     · right
       refine ⟨b :: a, r, by rw [h1]; rfl, by simp [h2]; exact fun e => hb e.symm, ?_⟩
       have : (Lib.index l [c] == -1) = false := by rw [h3]; simp
       rw [this, h3]; simp
theorem flat_no (c : UInt8) (new s : Str) (h : c ∉ s) : (s.flatMap fun b => if b = c then new else [b]) = s := by
 induction s with
 | nil => rfl
 | cons b l ih =>
   rw [List.flatMap_cons, ih (fun h' => h (by simp [h'])), if_neg (fun e => h (by simp [e]))]; rfl
theorem replaceK1 (c : UInt8) (new : Str) : ∀ (k : Nat) (s : Str), Lib.count s [c] ≤ k → Lib.replaceK [c] new k s = s.flatMap fun b => if b = c then new else [b] := by
 intro k
 induction k with
 | zero =>
   intro s h
   rcases index1 c s with ⟨_, h2⟩ | ⟨a, r, h1, _, h3⟩
   · rw [flat_no c new s h2]; rfl
   · rw [Lib.count_hit (by simp) h3] at h; omega
 | succ k ih =>
   intro s h
   rcases index1 c s with ⟨h1, h2⟩ | ⟨a, r, h1, h2, h3⟩
   · rw [flat_no c new s h2, Lib.replaceK, h1]; rfl
   · have hd : s.drop (a.length + 1) = r := by rw [h1]; simp
     rw [Lib.count_hit (by simp) h3] at h
     rw [Lib.replaceK_hit _ _ _ _ _ h3]
     simp only [List.length_singleton] at h ⊢
     rw [hd] at h ⊢
     rw [ih r (by omega), h1]
     rw [List.flatMap_append, List.flatMap_cons, if_pos rfl, flat_no c new a h2]
     simp
theorem replaceAll1 (s : Str) (c : UInt8) (new : Str) (h : new ≠ [c]) : Lib.replaceAll s [c] new = s.flatMap fun b => if b = c then new else [b] := by
 unfold Lib.replaceAll Lib.replace
 have hn : ([c] == new) = false := by
  rw [beq_eq_false_iff_ne]; exact fun e => h e.symm
 rw [hn]
 exact replaceK1 c new _ s (by unfold Lib.replaceNum; rw [if_pos (Or.inl (by omega))]; exact Nat.le_refl _)
theorem flat_len2 (c : UInt8) (d : Str) (hd : d.length ≤ 2) (s : Str) : (s.flatMap fun b => if b = c then d else [b]).length ≤ 2 * s.length := by
 induction s with
 | nil => simp
 | cons b s ih =>
   rw [List.flatMap_cons, List.length_append, List.length_cons]
   split
   · omega
   · rw [List.length_singleton]; omega
end Go.Proofs.YtibflgfhjfcifaaGreatDoor
namespace Go.Proofs.YtibflgfhjfcifaaGreatDoor
open Go.RowKit
def rwords : List ByteArray := [⟨#[]⟩, ⟨#[]⟩, ⟨#[107, 101, 114, 110, 101, 108]⟩, ⟨#[110, 117, 109, 98, 101, 114]⟩, ⟨#[100, 101, 118, 112, 97, 116, 104]⟩, ⟨#[105, 100]⟩, ⟨#[100, 114, 105, 118, 101, 114]⟩, ⟨#[97, 116, 116, 114]⟩, ⟨#[101, 110, 118]⟩, ⟨#[114, 101, 115, 117, 108, 116]⟩, ⟨#[112, 97, 114, 101, 110, 116]⟩, ⟨#[110, 97, 109, 101]⟩]
theorem rwords_long : ((List.range 12).all fun k => L (rwords.getD k ⟨#[]⟩) == longN k) = true := by kernel_rfl
theorem rwords_at (k : Nat) (h : k < 12) : L (rwords.getD k ⟨#[]⟩) = longN k := by
 have := List.all_eq_true.1 rwords_long k (List.mem_range.2 h)
 simpa using this
set_option maxRecDepth 100000 in
set_option maxHeartbeats 400000 in
theorem Rwords_any (w : World) : Calls Tryz.prog 266 #[] w fun e w' => e = .returned (.slice (some ⟨w.heap.size, 0, none⟩) 12 12) ∧ w.alloc (.cells (rwords.map Value.string).toArray 9) = w' := by
 go_enter Tryz.func266, Tryz.ntmps266
 go_wp2
 go_ret
 exact ⟨rfl, rfl⟩
theorem kindOf_long_hit (w : Str) (k : Nat) (h2 : 2 ≤ k) (hk : k < 12) (h : longN k = w) (h0 : ∀ j, 2 ≤ j → j < k → longN j ≠ w) : kindOf true w = k := by
 have hne : w.isEmpty = false := by
  rw [← h]
  have : ((List.range 12).all fun k => decide (k < 2) || !(longN k).isEmpty) = true := by decide
  have := List.all_eq_true.1 this k (List.mem_range.2 hk)
  simp at this
  rcases this with h | h
  · omega
  · simpa using h
 refine kindOf_hit true w k hk (by simp [isKind, hne, h]) (fun j hj => ?_)
 by_cases hj2 : 2 ≤ j
 · have := h0 j hj2 hj
   simp [isKind, this]
 · have hl : longN j = [] := by
    have : j = 0 ∨ j = 1 := by omega
    rcases this with rfl | rfl <;> rfl
   cases w with
   | nil => simp at hne
   | cons a b => simp [isKind, hl]
theorem kindOf_long_miss (w : Str) (h0 : ∀ j, 2 ≤ j → j < 12 → longN j ≠ w) : kindOf true w = 0 := by
 refine kindOf_miss true w (fun j hj => ?_)
 by_cases hj2 : 2 ≤ j
 · have := h0 j hj2 hj
   simp [isKind, this]
 · have hl : longN j = [] := by
    have : j = 0 ∨ j = 1 := by omega
    rcases this with rfl | rfl <;> rfl
   cases w with
   | nil => simp [isKind]
   | cons a b => simp [isKind, hl]
set_option maxRecDepth 100000 in
set_option maxHeartbeats 1000000 in
theorem Rkind_any (wd : ByteArray) (w : World) : Calls Tryz.prog 237 #[.string wd] w fun e w' => e = .returned (.int .i64 (kindOf true (L wd))) ∧ Below w.heap.size w w' := by
 go_enter Tryz.func237, Tryz.ntmps237
 go_wp2_with (go_at_call 266; refine (Rwords_any _).mono ?_; rintro e w' ⟨rfl, rfl⟩)
 obtain ⟨W1, hW1⟩ : ∃ W1, w.alloc (.cells (rwords.map Value.string).toArray 9) = W1 := ⟨_, rfl⟩
 rw [hW1]
 have hb0 : W1.heap[w.heap.size]? = some (.cells (rwords.map Value.string).toArray 9 (0, 0)) := by rw [← hW1]; exact heap_alloc_last w _
 have hbw : Below w.heap.size w W1 := by rw [← hW1]; exact below_alloc _ _
 have Hb0 := Lib.hid hb0
 have Hw1 := Lib.hid hbw
 clear hb0 hbw hW1
 go_loopw [4] (fun i wr => ∃ k : Nat, 2 ≤ k ∧ k ≤ 12 ∧ i = .int .i64 k ∧ Hid (∀ j, 2 ≤ j → j < k → longN j ≠ L wd) ∧ Hid (Below w.heap.size w wr) ∧ Hid (wr.heap[w.heap.size]? = some (.cells (rwords.map Value.string).toArray 9 (0, 0)))) (fun i _ => 12 - (intOf i).toNat)
 case atStart => exact ⟨2, by omega, by omega, rfl, (fun j h1 h2 => absurd h2 (by omega)), Hw1.out, Hb0.out⟩
 case round =>
  obtain ⟨k, hk2, hk, rfl, hno, hbr, hblk⟩ := hrel
  by_cases hlt : k < 12
  · have hc : wr.cell? ⟨w.heap.size, k, none⟩ = some (.string (rwords.getD k ⟨#[]⟩)) := strs_cell rwords hblk.out rfl k hlt
    have hl := rwords_at k hlt
    generalize rwords.getD k ⟨#[]⟩ = wk at *
    have HL := Lib.hid hl
    clear hl
    by_cases he : wk = wd
    · subst he
      go_wp2
      go_ret
      exact ⟨ret_int (by rw [kindOf_long_hit (L wk) k hk2 hlt HL.out.symm hno.out]), hbr.out⟩
    · have h2 : ¬ wk.toList = wd.toList := fun h => he (by rw [← bs_L wk, ← bs_L wd, ← tl, ← tl, h])
      have h1 : (wk.toList == wd.toList) = false := by simpa using h2
      have hne : longN k ≠ L wd := by rw [← HL.out, ← tl, ← tl]; exact h2
      have HNe := Lib.hid hne
      clear hne he
      go_wp2
      go_roundw
      case rel => exact ⟨k + 1, by omega, by omega, by go_num, (fun j h3 h4 => by
       rcases Nat.lt_or_ge j k with h5 | h5
       · exact hno.out j h3 h5
       · obtain rfl : j = k := by omega
         exact HNe.out), hbr.out, hblk.out⟩
      case measure => simp [intOf]; omega
  · obtain rfl : k = 12 := by omega
    go_wp2
    go_ret
    exact ⟨ret_int (by rw [kindOf_long_miss (L wd) hno.out]; rfl), hbr.out⟩
theorem IndexByte_any (s : ByteArray) (c : UInt8) (w : World) : Calls Tryz.prog 150 #[.string s, .int .u8 c.toNat] w fun e w' => e = .returned (.int .i64 (Lib.indexByte (L s) c)) ∧ w = w' := by
 have h := Tryz.strings_IndexByte s c.toNat w
 rw [byte_back] at h
 exact h.mono fun _ _ h => ⟨h.1, h.2.symm⟩
theorem index_byte (c : UInt8) (l : Str) : Lib.index l [c] = Lib.indexByte l c := by
 induction l with
 | nil => rfl
 | cons b l ih => rw [index1_cons, ih, Lib.indexByte]
theorem indexByte_lt (c : UInt8) (l : Str) (j : Nat) (h : Lib.indexByte l c = j) : j < l.length := by
 have := Lib.index_room l [c] (by rw [index_byte, h]; omega)
 rw [index_byte, h] at this
 simp at this
 omega
theorem braces_at {r : Str} {a b : Str} (h : bracesS r = some (a, b)) : ∃ k : Nat, 1 ≤ k ∧ k < r.length ∧ r.head? = some 123 ∧ Lib.indexByte r 125 = k ∧ a = (r.take k).drop 1 ∧ b = r.drop (k + 1) := by
 cases r with
 | nil => cases h
 | cons c t =>
   rw [bracesS] at h
   split at h
   · rename_i hc
     split at h
     · rename_i hf
       injection h with h
       obtain ⟨rfl, rfl⟩ := Prod.mk.inj h
       unfold Lib.cut at hf ⊢
       split at hf
       · rename_i h0
         rw [index_byte] at h0
         obtain ⟨j, hj⟩ := Int.eq_ofNat_of_zero_le h0
         have hlt := indexByte_lt 125 t j hj
         refine ⟨j + 1, by omega, by simp; omega, by rw [hc]; rfl, ?_, ?_, ?_⟩
         · rw [Lib.indexByte, hc, hj]
           rw [if_neg (by decide), if_neg (by simp)]; rfl
         · rw [if_pos (by rw [index_byte]; exact h0), index_byte, hj]; rfl
         · rw [if_pos (by rw [index_byte]; exact h0), index_byte, hj]; rfl
       · cases hf
     · cases h
   · cases h
theorem braces_none {r : Str} (h : bracesS r = none) : r.head? ≠ some 123 ∨ (r.head? = some 123 ∧ Lib.indexByte r 125 = -1) := by
 cases r with
 | nil => left; simp
 | cons c t =>
   rw [bracesS] at h
   split at h
   · rename_i hc
     split at h
     · cases h
     · rename_i hf
       right
       refine ⟨by rw [hc]; rfl, ?_⟩
       unfold Lib.cut at hf
       split at hf
       · simp at hf
       · rename_i h0
         rw [index_byte] at h0
         have := Lib.indexByte_ge t 125
         have h1 : Lib.indexByte t 125 = -1 := by omega
         rw [Lib.indexByte, hc, if_neg (by decide), h1]; rfl
   · rename_i hc
     left; simpa using hc
theorem head_L {s : ByteArray} {c : UInt8} (h : (L s).head? = some c) : 0 < s.size ∧ ∀ h0 : 0 < s.size, s[0] = c := by
 have hl : 0 < (L s).length := by
  cases hs : L s with
  | nil => rw [hs] at h; cases h
  | cons a b => simp
 rw [len_L] at hl
 refine ⟨hl, fun h0 => ?_⟩
 rw [List.head?_eq_getElem?, List.getElem?_eq_getElem (by rw [len_L]; exact hl)] at h
 injection h
set_option maxRecDepth 100000 in
set_option maxHeartbeats 1000000 in
theorem Rbraces_yes (s : ByteArray) (a b : Str) (w : World) (hs : s.size ≤ 1000000) (h : bracesS (L s) = some (a, b)) :
 Calls Tryz.prog 267 #[.string s] w fun e w' => e = .returned (.tuple #[.string (bs a), .string (bs b), .bool true]) ∧ ∃ n, w.drewN n = w' := by
 obtain ⟨k, h1, hk, hh, hi, rfl, rfl⟩ := braces_at h
 clear h
 obtain ⟨h0, hb0⟩ := head_L hh
 have hb := hb0 h0
 rw [len_L] at hk
 have HI := IndexByte_any s 125 w
 rw [hi] at HI
 have HI2 := Lib.hid HI
 have hne : s.toList.isEmpty = false := by rw [tl]; cases hs : L s with | nil => rw [hs] at hh; cases hh | cons a b => rfl
 have hne2 : ¬ s.toList = [] := fun e => by rw [e] at hne; cases hne
 clear HI hi hh hb0
 have e1 : bs (List.drop 1 (List.take k (L s))) = s.extract 1 k := L_inj (by rw [L_bs, L_extract])
 have e2 : bs (List.drop (k + 1) (L s)) = s.extract (k + 1) s.size := L_inj (by rw [L_bs, L_extract, List.take_of_length_le (by rw [len_L]; exact Nat.le_refl _)])
 rw [e1, e2]
 clear e1 e2
 have hk1 : (1 : Int) ≤ (k : Int) := by omega
 have hk2 : (k : Int) ≤ (s.size : Int) := by omega
 have hk3 : (k : Int) + 1 ≤ (s.size : Int) := by omega
 have hk4 : IntKind.i64.wrap ((k : Int) + 1) = (k : Int) + 1 := IntWalk.i64_in _ (by omega)
 have hk5 : ((k : Int) + 1).toNat = k + 1 := by omega
 have hk6 : (0 : Int) ≤ (k : Int) + 1 := by omega
 go_enter Tryz.func267, Tryz.ntmps267
 go_wp2_with (go_at_call 150; refine HI2.out.mono ?_; rintro e w' ⟨rfl, rfl⟩)
 go_quiet (fail)
 go_wp2
 go_ret3
 exact ⟨rfl, _, rfl⟩
set_option maxRecDepth 100000 in
set_option maxHeartbeats 1000000 in
theorem Rbraces_no (s : ByteArray) (w : World) (hs : s.size ≤ 1000000) (h : bracesS (L s) = none) :
 Calls Tryz.prog 267 #[.string s] w fun e w' => e = .returned (.tuple #[.string ⟨#[]⟩, .string s, .bool false]) ∧ w = w' := by
 have HIB := Lib.hid (IndexByte_any s 125 w)
 rcases braces_none h with hh | ⟨hh, hi⟩
 · cases hs0 : L s with
   | nil =>
     have he : s = ⟨#[]⟩ := L_inj hs0
     subst he
     clear h hh hs0 HIB hs
     go_enter Tryz.func267, Tryz.ntmps267
     go_wp2
     go_ret3
     exact ⟨rfl, rfl⟩
   | cons c t =>
     have h0 : 0 < s.size := by rw [← len_L, hs0]; simp
     have hb : ¬ s[0] = 123 := by
      have : (L s)[0]? = some c := by rw [hs0]; rfl
      rw [List.getElem?_eq_getElem (by rw [len_L]; exact h0)] at this
      have h1 : s[0] = c := by injection this
      rw [h1]
      intro e
      rw [hs0, e] at hh
      exact hh rfl
     have hne : s.toList.isEmpty = false := by rw [tl, hs0]; rfl
     have hne2 : ¬ s.toList = [] := fun e => by rw [e] at hne; cases hne
     have hb2 : ((s[0].toNat : Int) == 123) = false := by
      rw [beq_eq_false_iff_ne]
      intro e
      exact hb (UInt8.toNat_inj.1 (by show s[0].toNat = 123; omega))
     have hb3 : ((s[0].toNat : Int) != 123) = true := by rw [bne, hb2]; rfl
     clear h hh hs0 HIB hb
     go_enter Tryz.func267, Tryz.ntmps267
     go_wp2
     go_ret3
     exact ⟨rfl, rfl⟩
 · obtain ⟨h0, hb0⟩ := head_L hh
   have hb := hb0 h0
   rw [hi] at HIB
   have hne : s.toList.isEmpty = false := by rw [tl]; cases hs : L s with | nil => rw [hs] at hh; cases hh | cons a b => rfl
   have hne2 : ¬ s.toList = [] := fun e => by rw [e] at hne; cases hne
   clear h hh hi hb0
   go_enter Tryz.func267, Tryz.ntmps267
   go_wp2_with (go_at_call 150; refine HIB.out.mono ?_; rintro e w' ⟨rfl, rfl⟩)
   go_ret3
   exact ⟨rfl, rfl⟩
theorem HasSuffix_any (s p : ByteArray) (w : World) (hs : s.size ≤ 1000000) : Calls Tryz.prog 106 #[.string s, .string p] w fun e w' => e = .returned (.bool (Lib.hasSuffix (L s) (L p))) ∧ w = w' :=
 (Tryz.strings_HasSuffix s p w (by omega)).mono fun _ _ h => ⟨h.1, h.2.symm⟩
theorem TrimSuffix_any (s p : ByteArray) (w : World) (hs : s.size ≤ 1000000) : Calls Tryz.prog 280 #[.string s, .string p] w fun e w' => e = .returned (.string (bs (Lib.trimSuffix (L s) (L p)))) ∧ w = w' :=
 (Tryz.strings_TrimSuffix s p w (by omega)).mono fun _ _ h => ⟨h.1, h.2.symm⟩
def countV (t : Str) : Ending := match countS t with
 | some (n, m) => .returned (.tuple #[.int .i64 n, .bool m, .bool true])
 | none => .returned (.tuple #[.int .i64 0, .bool false, .bool false])
theorem countS_hit (t : Str) (k : Nat) (h1 : 1 ≤ k) (h2 : k < 100) (h : Lib.decDigits k = Lib.trimSuffix t [43]) (h0 : ∀ j, 1 ≤ j → j < k → Lib.decDigits j ≠ Lib.trimSuffix t [43]) : countS t = some ((k : Int), Lib.hasSuffix t [43]) := by
 rw [countS, find_first _ 100 k h2 (by simp [h1, h]) (fun j hj => by
  by_cases hj1 : 1 ≤ j
  · simp [h0 j hj1 hj]
  · simp [show ¬ 1 ≤ j from hj1])]
theorem countS_miss (t : Str) (h0 : ∀ j, 1 ≤ j → j < 100 → Lib.decDigits j ≠ Lib.trimSuffix t [43]) : countS t = none := by
 rw [countS, List.find?_eq_none.2 (fun j hj => by
  have hj := List.mem_range.1 hj
  by_cases hj1 : 1 ≤ j
  · simp [h0 j hj1 hj]
  · simp [show ¬ 1 ≤ j from hj1])]
set_option maxRecDepth 100000 in
set_option maxHeartbeats 1000000 in
theorem Rcount_any (t : ByteArray) (w : World) (hE : Env0 w) (hs : t.size ≤ 1000) :
 Calls Tryz.prog 268 #[.string t] w fun e w' => e = countV (L t) ∧ Below w.heap.size w w' := by
 have HS := Lib.hid (HasSuffix_any t ⟨#[43]⟩ w (by omega))
 have HT := Lib.hid (TrimSuffix_any t ⟨#[43]⟩ w (by omega))
 have HE := Lib.hid hE
 clear hE
 go_enter Tryz.func268, Tryz.ntmps268
 go_wp2_with (first | (go_at_call 106; refine HS.out.mono ?_; rintro e w' ⟨rfl, rfl⟩) | (go_at_call 280; refine HT.out.mono ?_; rintro e w' ⟨rfl, rfl⟩))
 have e43 : L ⟨#[43]⟩ = [43] := rfl
 rw [e43]
 have hhit := fun k h1 h2 h3 h0 => countS_hit (L t) k h1 h2 h3 h0
 have hmiss := countS_miss (L t)
 generalize Lib.hasSuffix (L t) [43] = sf at *
 generalize Lib.trimSuffix (L t) [43] = tr at *
 have HH := Lib.hid hhit
 have HM := Lib.hid hmiss
 clear hhit hmiss e43
 go_loopw [6] (fun i wr => ∃ k : Nat, 1 ≤ k ∧ k ≤ 100 ∧ i = .int .i64 k ∧ Hid (∀ j, 1 ≤ j → j < k → Lib.decDigits j ≠ tr) ∧ Hid (Below w.heap.size w wr)) (fun i _ => 100 - (intOf i).toNat)
 case atStart => exact ⟨1, by omega, by omega, rfl, (fun j h1 h2 => absurd h2 (by omega)), Below.refl _ _⟩
 case round =>
  obtain ⟨k, hk1, hk, rfl, hno, hbr⟩ := hrel
  by_cases hlt : k ≤ 99
  · have HI := Itoa_any (k : Int) (by omega) (by omega) wr (HE.out.go hbr.out)
    rw [itoa_dec] at HI
    have HI2 := Lib.hid HI
    clear HI
    by_cases he : Lib.decDigits k = tr
    · have h3 := HH.out k hk1 (by omega) he hno.out
      have H3 := Lib.hid h3
      rw [he] at HI2
      clear h3 he
      go_wp2_with (go_at_call 149; refine HI2.out.mono ?_; rintro e w2 ⟨rfl, hb2⟩; have HB2 := Lib.hid hb2; clear hb2)
      go_ret3
      exact ⟨by rw [countV, H3.out]; rfl, bt hbr.out HB2.out⟩
    · have h2 : ¬ (bs (Lib.decDigits k)).toList = (bs tr).toList := fun h => he (by rw [tl, tl, L_bs, L_bs] at h; exact h)
      have h1 : ((bs (Lib.decDigits k)).toList == (bs tr).toList) = false := by simpa using h2
      have HNe := Lib.hid he
      clear he
      go_wp2_with (go_at_call 149; refine HI2.out.mono ?_; rintro e w2 ⟨rfl, hb2⟩; have HB2 := Lib.hid hb2; clear hb2)
      go_roundw
      case rel => exact ⟨k + 1, by omega, by omega, by go_num, (fun j h3 h4 => by
       rcases Nat.lt_or_ge j k with h5 | h5
       · exact hno.out j h3 h5
       · obtain rfl : j = k := by omega
         exact HNe.out), bt hbr.out HB2.out⟩
      case measure => simp [intOf]; omega
  · obtain rfl : k = 100 := by omega
    go_wp2
    go_ret3
    exact ⟨by rw [countV, HM.out hno.out]; rfl, hbr.out⟩
end Go.Proofs.YtibflgfhjfcifaaGreatDoor
