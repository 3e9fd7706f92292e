/-
  Contract of the reference's Words.
-/
import Derived.Test.YtifbcfpaifobjaaGreatDoorRefA
import Derived.Test.YtifbcfpaifobjaaGreatDoorPlainA
namespace Go.Proofs.YtifbcfpaifobjaaGreatDoor
open Go.RowKit
def neB (x : ByteArray) : Bool := !(L x).isEmpty
theorem trim_none (s : Str) (h : (32 : UInt8) ∉ s) : trim s = s := by
  unfold trim Lib.trimLeftB
  cases s with
  | nil => rfl
  | cons b l =>
    rw [List.dropWhile_cons, if_neg]
    simp only [beq_iff_eq]
    intro e
    exact h (by simp [e])
theorem trim_cons32 (r : Str) : trim (32 :: r) = trim r := by
  unfold trim Lib.trimLeftB
  rw [List.dropWhile_cons, if_pos (by decide)]
theorem trim_ne {b : UInt8} (l : Str) (h : b ≠ 32) : trim (b :: l) = b :: l := by
  unfold trim Lib.trimLeftB
  rw [List.dropWhile_cons, if_neg (by simpa using h)]
theorem takeW (a r : Str) (h : (32 : UInt8) ∉ a) : (a ++ 32 :: r).takeWhile (· != 32) = a ∧ (a ++ 32 :: r).dropWhile (· != 32) = 32 :: r := by
  induction a with
  | nil => exact ⟨by rw [List.nil_append, List.takeWhile_cons, if_neg (by decide)], by rw [List.nil_append, List.dropWhile_cons, if_neg (by decide)]⟩
  | cons b a ih =>
    have hb : (b != 32) = true := by
      simp only [bne_iff_ne, ne_eq]
      exact fun e => h (by simp [e])
    obtain ⟨h1, h2⟩ := ih (fun h' => h (by simp [h']))
    exact ⟨by rw [List.cons_append, List.takeWhile_cons, if_pos hb, h1], by rw [List.cons_append, List.dropWhile_cons, if_pos hb, h2]⟩
theorem takeW_all (a : Str) (h : (32 : UInt8) ∉ a) : a.takeWhile (· != 32) = a ∧ a.dropWhile (· != 32) = [] := by
  induction a with
  | nil => exact ⟨rfl, rfl⟩
  | cons b a ih =>
    have hb : (b != 32) = true := by
      simp only [bne_iff_ne, ne_eq]
      exact fun e => h (by simp [e])
    obtain ⟨h1, h2⟩ := ih (fun h' => h (by simp [h']))
    exact ⟨by rw [List.takeWhile_cons, if_pos hb, h1], by rw [List.dropWhile_cons, if_pos hb, h2]⟩
/-- The parts between spaces that are not empty are the words. -/
theorem split_words : ∀ (k : Nat) (s : Str) (n : Nat), Lib.count s [32] ≤ k → s.length ≤ n → (Lib.splitK [32] 0 k s).filter (fun x => !x.isEmpty) = wordsT n (trim s) := by
  intro k
  induction k with
  | zero =>
    intro s n hc hn
    rcases index1 32 s with ⟨_, h2⟩ | ⟨a, r, h1, _, h3⟩
    · rw [Lib.splitK, trim_none s h2]
      cases s with
      | nil => cases n <;> rfl
      | cons b l =>
        cases n with
        | zero => simp at hn
        | succ n =>
          rw [wordsT, if_neg (by simp), cut1, (takeW_all _ h2).1, (takeW_all _ h2).2]
          have : wordsT n (trim []) = [] := by cases n <;> rfl
          simp [this]
    · rw [Lib.count_hit (by simp) h3] at hc; omega
  | succ k ih =>
    intro s n hc hn
    rcases index1 32 s with ⟨h1, h2⟩ | ⟨a, r, h1, h2, h3⟩
    · rw [Lib.splitK, h1, if_pos (by decide), trim_none s h2]
      cases s with
      | nil => cases n <;> rfl
      | cons b l =>
        cases n with
        | zero => simp at hn
        | succ n =>
          rw [wordsT, if_neg (by simp), cut1, (takeW_all _ h2).1, (takeW_all _ h2).2]
          have : wordsT n (trim []) = [] := by cases n <;> rfl
          simp [this]
    · rw [Lib.count_hit (by simp) h3] at hc
      have hd : s.drop (a.length + 1) = r := by rw [h1]; simp
      have ht : s.take a.length = a := by rw [h1]; simp
      have hl : s.length = a.length + r.length + 1 := by rw [h1]; simp; omega
      simp only [List.length_singleton] at hc
      rw [hd] at hc
      rw [Lib.splitK, if_neg (by rw [h3]; simp), h3]
      simp only [Int.toNat_natCast, Nat.add_zero, List.length_singleton]
      rw [hd, ht]
      cases a with
      | nil =>
        rw [h1, List.nil_append, trim_cons32]
        simp only [List.isEmpty_nil, Bool.not_true, List.filter_cons, Bool.false_eq_true, if_false]
        exact ih r n (by omega) (by simp at hl; omega)
      | cons b a =>
        have hb : b ≠ 32 := fun e => h2 (by simp [e])
        have hs : s = b :: (a ++ 32 :: r) := by rw [h1]; rfl
        cases n with
        | zero => omega
        | succ n =>
          rw [hs, trim_ne _ hb, wordsT, if_neg (by simp), cut1]
          have htw := takeW (b :: a) r h2
          rw [List.cons_append] at htw
          rw [htw.1, htw.2]
          simp only [List.filter_cons, List.isEmpty_cons, Bool.not_false, if_true, List.drop_succ_cons, List.drop_zero]
          rw [ih r n (by omega) (by simp at hl; omega)]
/-- The parts as byte strings. -/
def partsB (s : ByteArray) : List ByteArray := Lib.splitB ⟨#[32]⟩ 0 (Lib.countB s ⟨#[32]⟩) s
theorem partsB_len (s : ByteArray) : (partsB s).length = Lib.countB s ⟨#[32]⟩ + 1 := Lib.splitB_all ⟨#[32]⟩ (by show 1 ≤ 1; omega) 0 _ s rfl
theorem partsB_words (s : ByteArray) : ((partsB s).filter neB).map L = wordsS (L s) := by
  have h := Lib.splitB_data ⟨#[32]⟩ 0 (Lib.countB s ⟨#[32]⟩) s
  have h2 := split_words (Lib.countB s ⟨#[32]⟩) (L s) (L s).length (Nat.le_refl _) (Nat.le_refl _)
  have h3 : (partsB s).map L = Lib.splitK [32] 0 (Lib.countB s ⟨#[32]⟩) (L s) := h
  rw [← h3, List.filter_map] at h2
  exact h2
theorem Split_any (s : ByteArray) (w : World) (hE : Env w) (hs : s.size ≤ 4000000) :
    Calls Tryz.prog 123 #[.string s, .string ⟨#[32]⟩] w fun e w' => e = .returned (.slice (some ⟨w.heap.size, 0, none⟩) (partsB s).length (partsB s).length) ∧ w.alloc (.cells ((partsB s).map Value.string).toArray 9) = w' := by
  obtain ⟨m, hm⟩ := hE.maxLen
  have h := Tryz.strings_Split s ⟨#[32]⟩ m w (by omega) hm (by show 1 ≤ 1; omega)
  rw [partsB_len]
  exact h.mono fun e w' h => ⟨h.1, h.2.symm⟩
theorem strInfo2 : (Tryz.prog.info? 9).map (fun i => (i.zero, i.size, i.bytes)) = some (some (.string ⟨#[]⟩), 1, 16) := by kernel_rfl
set_option maxRecDepth 100000 in
set_option maxHeartbeats 2000000 in
theorem RWords_any (s : ByteArray) (w : World) (hE : Env w) (hs : s.size ≤ 4000000) :
    Calls Tryz.prog 97 #[.string s] w fun e w' => ∃ v, e = .returned v ∧ w'.ownsRow w.heap.size 9 1 v ((partsB s).filter neB).length (((partsB s).filter neB).map Value.string) ∧ Below w.heap.size w w' := by
  obtain ⟨i0, hi0, hz0, hz1, hz2⟩ := info_parts strInfo2
  have hN := partsB_len s
  have hcl := Lib.countB_le ⟨#[32]⟩ (by show 1 ≤ 1; omega) s.size s (Nat.le_refl _)
  have HSp := Lib.hid (Split_any s w hE hs)
  generalize partsB s = ps at *
  have hn : ps.length ≤ 4000001 := by omega
  clear hN hcl hE
  go_enter Tryz.func97, Tryz.ntmps97
  go_wp2_with (go_at_call 123; refine HSp.out.mono ?_; rintro e w1 ⟨rfl, rfl⟩)
  obtain ⟨W1, hW1⟩ : ∃ W1, w.alloc (.cells (ps.map Value.string).toArray 9) = W1 := ⟨_, rfl⟩
  rw [hW1]
  have hb0 : W1.heap[w.heap.size]? = some (.cells (ps.map Value.string).toArray 9 (0, 0)) := by rw [← hW1]; exact heap_alloc_last w _
  have hbw : Below w.heap.size w W1 := by rw [← hW1]; exact below_alloc _ _
  have hs1 : W1.heap.size = w.heap.size + 1 := by rw [← hW1]; simp
  have Hb0 := Lib.hid hb0
  have Hw1 := Lib.hid hbw
  have Hs1 := Lib.hid hs1
  clear hb0 hbw hW1 hs1
  generalize hN : ps.length = N at *
  have HN := Lib.hid hN
  clear hN
  go_loopg [4, 5] N (fun gk v i wr => ∃ k : Nat, k + gk = N ∧ i = .int .i64 k ∧ Hid (wr.ownsRow (w.heap.size + 1) 9 1 v ((ps.take k).filter neB).length (((ps.take k).filter neB).map Value.string)) ∧ Hid (Below w.heap.size w wr) ∧ Hid (wr.heap[w.heap.size]? = some (.cells (ps.map Value.string).toArray 9 (0, 0))))
  case atStart => exact ⟨0, by omega, rfl, ⟨rfl, .inl ⟨rfl, rfl⟩⟩, Hw1.out, Hb0.out⟩
  case round =>
    obtain ⟨k, hk, rfl, hown, hbr, hblk⟩ := hrel
    by_cases hlt : k < N
    · have hlt' : k < ps.length := by rw [HN.out]; exact hlt
      have hc : wr.cell? ⟨w.heap.size, k, none⟩ = some (.string (ps.getD k ⟨#[]⟩)) := strs_cell ps hblk.out rfl k hlt'
      have hx : ps[k]? = some (ps.getD k ⟨#[]⟩) := by rw [List.getD, List.getElem?_eq_getElem hlt']; rfl
      have htk : (ps.take (k + 1)).filter neB = (ps.take k).filter neB ++ (if neB (ps.getD k ⟨#[]⟩) = true then [ps.getD k ⟨#[]⟩] else []) := by
        rw [List.take_add_one, hx, List.filter_append]
        congr 1
        generalize ps.getD k ⟨#[]⟩ = x
        simp only [Option.toList, List.filter_cons, List.filter_nil]
      generalize ps.getD k ⟨#[]⟩ = x at *
      have hlm : ((ps.take k).filter neB).length ≤ k := Nat.le_trans (List.length_filter_le _ _) (by rw [List.length_take]; omega)
      generalize (ps.take k).filter neB = m at *
      obtain ⟨A, c, rfl⟩ := own_slice hown.out
      have HTk := Lib.hid htk
      clear htk hx hlt'
      by_cases he : neB x = true
      · have hne : x.toList.isEmpty = false := by unfold neB at he; rw [← tl] at he; simpa using he
        have hne2 : ¬ x.toList = [] := fun e => by rw [e] at hne; cases hne
        have HNe := Lib.hid he
        have hbsz := hbr.out.size
        have hltb := blk_lt hblk.out
        clear he
        go_wp2_with (refine wpList_append_lies _ rfl _ _ _ (by rfl) (w.heap.size + 1) 9 i0 _ 1 16 Tryz.underlying27 hi0 hz0 hz1 hz2 rfl (by omega) (.slice A m.length c) m.length (m.map Value.string) (by rfl) (own_keep hown.out (below_alloc _ _)) _ 1 1 [.string x] (by rfl) (by rfl) (by exact World.news_of_block (B := wr.heap.size) (heap_alloc_last wr _)) (by simp [Value.oneCell']) (by omega) (by unfold maxLen; omega) (by omega) (by simp; omega) _ rfl ?_; intro g2 cap w2 hown2 hgrow2 hat2 hlt2)
        go_roundg (gk - 1)
        case measure => omega
        case rel => exact ⟨k + 1, by omega, by go_num, by
          rw [HTk.out, HNe.out, if_pos rfl, List.length_append, List.map_append]
          exact Lib.hid hown2, Lib.hid (Below.grown (hbr.out.alloc (by omega) _) hgrow2 (by simp; omega) (fun j hj => by have := (hown.out.lt _ hj).1; omega)), Lib.hid (by rw [hgrow2.block w.heap.size (by simp; omega) (fun h => by have := (hown.out.lt _ h.symm).1; omega), Below.heap_alloc _ _ _ hltb]; exact hblk.out)⟩
      · have hne : x.toList = [] := by
          unfold neB at he
          rw [← tl] at he
          simpa using he
        have he' : neB x = false := by simpa using he
        have HNe := Lib.hid he'
        clear he he'
        go_wp2
        go_roundg (gk - 1)
        case measure => omega
        case rel => exact ⟨k + 1, by omega, by go_num, by rw [HTk.out, HNe.out]; exact Lib.hid (by simpa using hown.out), hbr, hblk⟩
    · obtain rfl : k = N := by omega
      have hall : ps.take k = ps := List.take_of_length_le (by rw [HN.out]; exact Nat.le_refl _)
      have HAll := Lib.hid hall
      clear hall
      go_wp2
      go_ret
      rw [HAll.out] at hown
      exact ⟨_, rfl, own_less hown.out (by omega), hbr.out⟩
end Go.Proofs.YtifbcfpaifobjaaGreatDoor
