/-
  Contract of the program's lexer: value.
  Contract of the program's lexer: token.
-/
import Derived.Test.YthcgkeiggnfgiaaGreatDoorG45
import Derived.Test.YthcgkeiggnfgiaaGreatDoorG33
import Derived.Laws.IdiomStrings
import Derived.Lib.BufferRead
import Derived.Test.YthcgkeiggnfgiaaGreatDoorG00
import Derived.Lib.SmallJoins
namespace Go.Proofs.YthcgkeiggnfgiaaGreatDoor
open Go.RowKit
def byV (c : UInt8) : Value := .int .u8 (c.toNat : Int)
theorem byInfo : (Tryz.prog.info? 5).map (fun i => (i.zero, i.size, i.bytes)) = some (some (.int .u8 0), 1, 1) := by kernel_rfl
theorem byUnd : Tryz.prog.underlying 5 = some (.int .u8) := by kernel_rfl
theorem strUnd : Tryz.prog.underlying 9 = some .string := by kernel_rfl
/-- Bytes that a call has gathered. -/
def OutY (w : World) (l : Str) (v : Value) (wr : World) : Prop := wr.ownsRow w.heap.size 5 1 v l.length (l.map byV) ∧ Below w.heap.size w wr
theorem OutY.go {w wr w' : World} {l : Str} {v : Value} (h : OutY w l v wr) (hb : Below wr.heap.size wr w') : OutY w l v w' := ⟨own_below2 h.1 hb, bt h.2 hb⟩
theorem OutY.start (w : World) : OutY w [] (.slice none 0 0) w := ⟨World.ownsRow_nil _ _ _ _, Below.refl _ _⟩
theorem OutY.snoc {w wr w9 : World} {l : Str} {v : Value} {y : UInt8} {o : Obj} {A : Option Addr} {c : Nat} (h : OutY w l v wr) (hown : w9.ownsRow w.heap.size 5 1 (.slice A (l.length + 1) c) (l.length + 1) (l.map byV ++ [byV y])) (hg : (wr.alloc o).grownBy w9 v.ownBlock) : OutY w (l ++ [y]) (.slice A (l.length + 1) c) w9 :=
  ⟨by rw [List.length_append, List.length_singleton, List.map_append]; exact hown, (bt h.2 (below_alloc _ _)).grown hg (by have := h.2.size; simp; omega) (fun j e => (h.1.lt j e).1)⟩
theorem OutY.conv {w wr : World} {l : Str} {v : Value} (h : OutY w l v wr) : (convert 35 9 v).run Tryz.prog wr = .ok (.string (bs l)) wr := by
  rcases h.1.2 with ⟨rfl, hn⟩ | ⟨g, cap, cur, rfl, h2, h3, h4, h5⟩
  · have : l = [] := by
      cases l with
      | nil => rfl
      | cons a r => simp at hn
    subst this
    exact Lib.run_convert_nil_bytes wr _ _ _ 0 Tryz.underlying35 byUnd strUnd
  · exact run_convert_bytes_back wr _ _ _ ⟨g, 0, none⟩ cap l Tryz.underlying35 byUnd strUnd (fun j hj => h.1.cells (g := g) rfl j _ (by rw [List.getElem?_map, List.getElem?_eq_getElem hj]; rfl))
theorem drop_at (t : ByteArray) {k : Nat} (hk : k < t.size) : (L t).drop k = t[k] :: (L t).drop (k + 1) := by
  rw [List.drop_eq_getElem_cons (by rw [len_L]; exact hk)]; rfl
theorem valF_end (acc : Str) : valF [] acc = .error 83 := by unfold valF; rfl
theorem valF_quote {r acc : Str} : valF (34 :: r) acc = .ok (acc, r) := by unfold valF; rfl
theorem valF_tab {r acc : Str} : valF (9 :: r) acc = .error 82 := by unfold valF; rfl
theorem valF_esc {r acc : Str} : valF (92 :: 34 :: r) acc = valF r (acc ++ [34]) := by rw [valF]; rfl
theorem valF_more {c : UInt8} {r acc : Str} (h1 : c ≠ 34) (h2 : c ≠ 9) (h3 : Lib.hasPrefix (c :: r) [92, 34] = false) : valF (c :: r) acc = valF r (acc ++ [c]) := by
  conv => lhs; rw [valF.eq_def]
  dsimp only
  rw [if_neg h1, if_neg h2]
  cases r with
  | nil => rw [valF_end]
  | cons d r2 =>
    have : ¬ (c = 92 ∧ d = 34) := by
      rintro ⟨rfl, rfl⟩
      exact absurd h3 (by simp [Lib.hasPrefix, List.isPrefixOf])
    show (if c = 92 ∧ d = 34 then _ else _) = _
    rw [if_neg this]
theorem pre_esc {s : Str} (h : Lib.hasPrefix s [92, 34] = true) : ∃ r, s = 92 :: 34 :: r := by
  unfold Lib.hasPrefix at h
  rw [List.isPrefixOf_iff_prefix] at h
  obtain ⟨r, hr⟩ := h
  exact ⟨r, hr.symm⟩
theorem u8_of {c : UInt8} {n : Nat} (hn : n < 256) (h : ((c.toNat : Int) == (n : Int)) = true) : c = UInt8.ofNat n := by
  rw [← beq_iff_eq, u8_eq c n hn]; exact h
theorem u8_ne {c : UInt8} {n : Nat} (hn : n < 256) (h : ((c.toNat : Int) == (n : Int)) = false) : c ≠ UInt8.ofNat n := by
  intro e
  have := u8_eq c n hn
  rw [h, e] at this
  simp at this
set_option maxRecDepth 100000 in
set_option maxHeartbeats 4000000 in
theorem value_any (s : ByteArray) (w : World) (hs : s.size ≤ 1000000) :
    Calls Tryz.prog 180 #[.string s] w fun e w' => e = .returned (.tuple (tri (valS (L s)))) ∧ Below w.heap.size w w' := by
  have HC := Lib.hid (fun W => Tryz.strings_CutPrefix s ⟨#[34]⟩ W)
  have e0 : (⟨#[34]⟩ : ByteArray).data.toList = [34] := rfl
  rw [e0] at HC
  cases hp : Lib.hasPrefix (L s) [34]
  · have HT : Hid (tri (valS (L s)) = #[.string ⟨#[]⟩, .string ⟨#[]⟩, .int .i64 82]) := Lib.hid (by rw [valS, hp]; rfl)
    rw [show Lib.hasPrefix s.data.toList [34] = false from hp] at HC
    generalize (⟨(Lib.trimPrefix s.data.toList [34]).toArray⟩ : ByteArray) = u at *
    clear hp e0
    go_enter Tryz.func180, Tryz.ntmps180
    go_wp2_with (go_at_call 225; refine (HC.out _).mono ?_; rintro e w1 ⟨rfl, rfl⟩)
    go_ret3
    exact ⟨ret_t HT.out.symm, Below.refl _ _⟩
  obtain ⟨t, ht⟩ : ∃ t : ByteArray, t = bs ((L s).drop 1) := ⟨_, rfl⟩
  have hts : t.size ≤ 1000000 := by rw [ht, size_bs, List.length_drop, len_L]; omega
  rw [show Lib.hasPrefix s.data.toList [34] = true from hp, show (⟨(Lib.trimPrefix s.data.toList [34]).toArray⟩ : ByteArray) = t from by rw [ht]; exact tpB_hit hp] at HC
  have HV : Hid (valS (L s) = valF (L t) []) := Lib.hid (by rw [valS, if_pos hp, ht, L_bs])
  clear hp ht e0
  obtain ⟨i0, hi0, hz0, hz1, hz2⟩ := info_parts byInfo
  have Hi0 := Lib.hid hi0
  have Hz0 := Lib.hid hz0
  have Hz1 := Lib.hid hz1
  have Hz2 := Lib.hid hz2
  clear hi0 hz0 hz1 hz2
  go_enter Tryz.func180, Tryz.ntmps180
  go_wp2_with (go_at_call 225; refine (HC.out _).mono ?_; rintro e w1 ⟨rfl, rfl⟩)
  go_loopg [7, 8] (t.size + 1) (fun gk s7 s8 wr => ∃ (k : Nat) (b : Str) (A : Option Addr) (c : Nat), s7 = .slice A b.length c ∧ s8 = .int .i64 k ∧ k + gk = t.size + 1 ∧ k ≤ t.size ∧ b.length ≤ k ∧ Hid (OutY w1 b (.slice A b.length c) wr) ∧ Hid (valS (L s) = valF ((L t).drop k) b))
  case atStart => exact ⟨0, [], none, 0, rfl, rfl, by omega, Nat.zero_le _, Nat.le_refl _, OutY.start _, by rw [HV.out]; rfl⟩
  case round =>
    obtain ⟨k, b, A, c, rfl, rfl, hkg, hks, hbl, hO, hval⟩ := hrel
    by_cases hlt : k < t.size
    · have hltI : (k : Int) < (t.size : Int) := by omega
      have hd := drop_at t hlt
      cases h34 : ((t[k].toNat : Int) == 34)
      · cases h9 : ((t[k].toNat : Int) == 9)
        · have HP := Lib.hid (fun W => Tryz.strings_HasPrefix (t.extract k t.size) ⟨#[92, 34]⟩ W)
          have e1 : (t.extract k t.size).data.toList = (L t).drop k := by rw [nm_tail]; exact L_bs _
          have e2 : (⟨#[92, 34]⟩ : ByteArray).data.toList = [92, 34] := rfl
          rw [e1, e2] at HP
          have hlt' : (k : Int) ≤ (t.size : Int) := by omega
          cases hq : Lib.hasPrefix ((L t).drop k) [92, 34]
          · rw [hq] at HP
            have HV2 : Hid (valS (L s) = valF ((L t).drop (k + 1)) (b ++ [t[k]])) := Lib.hid (by
              rw [hval.out, hd, valF_more (u8_ne (n := 34) (by omega) h34) (u8_ne (n := 9) (by omega) h9) (by rw [← hd]; exact hq)])
            clear hd e1 e2 hq
            have hwsz := hO.out.2.size
            go_wp2_with (first
              | (go_at_call 190; refine (HP.out _).mono ?_; rintro e w2 ⟨rfl, rfl⟩)
              | (at_builtin; go_loud (refine wpList_append_lies _ rfl _ _ _ (by rfl) w1.heap.size 5 i0 _ 1 1 Tryz.underlying35 Hi0.out Hz0.out Hz1.out Hz2.out rfl (by omega) (.slice A b.length c) b.length (b.map byV) (by rfl) (hO.out.1.alloc _) _ 1 1 [byV t[k]] (by rfl) (by rfl) (by exact World.news_of_block (heap_alloc_new _ _)) (by simp [byV, Value.oneCell']) (by omega) (by unfold maxLen; omega) (by omega) (by simp; omega) _ rfl ?_; intro g2 cap w9 hown2 hgrow2 hat2 hlt2; have HO9 := Lib.hid (hO.out.snoc hown2 hgrow2); clear hown2 hgrow2 hat2 hlt2)))
            go_wp2
            go_roundg (gk - 1)
            case measure => omega
            case rel => exact ⟨k + 1, _, _, _, by rw [List.length_append]; rfl, by go_num, by omega, by omega, by simp; omega, by rw [List.length_append]; exact HO9.out, HV2.out⟩
          · rw [hq] at HP
            obtain ⟨r, hr⟩ := pre_esc hq
            have hlen : k + 2 ≤ t.size := by
              have := congrArg List.length hr
              rw [List.length_drop, len_L, List.length_cons, List.length_cons] at this
              omega
            have hlt2 : k + 1 < t.size := by omega
            have hd2 := drop_at t hlt2
            have hc1 : t[k + 1] = 34 := by
              rw [hd] at hr
              injection hr with _ hr
              rw [hd2] at hr
              injection hr
            have HV2 : Hid (valS (L s) = valF ((L t).drop (k + 2)) (b ++ [t[k + 1]])) := Lib.hid (by
              have hr2 := hr
              rw [hd] at hr2
              injection hr2 with _ hr2
              rw [hd2] at hr2
              injection hr2 with _ hr2
              rw [hval.out, hr, valF_esc, hc1, hr2])
            have hltI2 : (k : Int) + 1 < (t.size : Int) := by omega
            clear hd hd2 hc1 hr e1 e2 hq
            have hwsz := hO.out.2.size
            go_wp2_with (first
              | (go_at_call 190; refine (HP.out _).mono ?_; rintro e w2 ⟨rfl, rfl⟩)
              | (at_builtin; go_loud (refine wpList_append_lies _ rfl _ _ _ (by rfl) w1.heap.size 5 i0 _ 1 1 Tryz.underlying35 Hi0.out Hz0.out Hz1.out Hz2.out rfl (by omega) (.slice A b.length c) b.length (b.map byV) (by rfl) (hO.out.1.alloc _) _ 1 1 [byV t[k + 1]] (by rfl) (by rfl) (by exact World.news_of_block (heap_alloc_new _ _)) (by simp [byV, Value.oneCell']) (by omega) (by unfold maxLen; omega) (by omega) (by simp; omega) _ rfl ?_; intro g2 cap w9 hown2 hgrow2 hat2 hlt2; have HO9 := Lib.hid (hO.out.snoc hown2 hgrow2); clear hown2 hgrow2 hat2 hlt2)))
            go_wp2
            go_roundg (gk - 2)
            case measure => omega
            case rel => exact ⟨k + 2, _, _, _, by rw [List.length_append]; rfl, by go_num, by omega, by omega, by simp; omega, by rw [List.length_append]; exact HO9.out, HV2.out⟩
        · have HR : Hid (tri (valS (L s)) = #[.string ⟨#[]⟩, .string ⟨#[]⟩, .int .i64 82]) := Lib.hid (by
            rw [hval.out, hd, u8_of (n := 9) (by omega) h9]; exact congrArg tri valF_tab)
          clear hd
          go_wp2
          go_ret3
          exact ⟨ret_t HR.out.symm, hO.out.2⟩
      · have HR : Hid (tri (valS (L s)) = #[.string (bs b), .string (t.extract (k + 1) t.size), .int .i64 0]) := Lib.hid (by
          rw [hval.out, hd, u8_of (n := 34) (by omega) h34, nm_tail]; exact congrArg tri valF_quote)
        have hcv := hO.out.conv
        have hcv2 := (hO.out.go (Below.refl _ _).drew).conv
        have hk1 : (k : Int) + 1 ≤ (t.size : Int) := by omega
        clear hd
        go_wp2
        go_region
        go_wp2
        go_ret3
        exact ⟨ret_t HR.out.symm, hO.out.2.drew⟩
    · obtain rfl : k = t.size := by omega
      have HR : Hid (tri (valS (L s)) = #[.string ⟨#[]⟩, .string ⟨#[]⟩, .int .i64 83]) := Lib.hid (by
        rw [hval.out, List.drop_of_length_le (by rw [len_L]; exact Nat.le_refl _), valF_end]; rfl)
      go_wp2
      go_ret3
      exact ⟨ret_t HR.out.symm, hO.out.2⟩
end Go.Proofs.YthcgkeiggnfgiaaGreatDoor
namespace Go.Proofs.YthcgkeiggnfgiaaGreatDoor
open Go.RowKit
def triT : Except Int (Tk × Str) → Array Value
  | .error e => #[.agg #[.string ⟨#[]⟩, .string ⟨#[]⟩, .string ⟨#[]⟩, .string ⟨#[]⟩], .string ⟨#[]⟩, .int .i64 e]
  | .ok (x, r) => #[tkV x, .string (bs r), .int .i64 0]
abbrev tkZ : Array Value := #[.string ⟨#[]⟩, .string ⟨#[]⟩, .string ⟨#[]⟩, .string ⟨#[]⟩]
theorem nameS_err {s : Str} {e : Int} (h : nameS s = .error e) : e = 82 ∨ e = 83 := by
  unfold nameS at h
  split at h
  · dsimp only at h
    split at h
    · injection h with h; exact Or.inr h.symm
    · split at h
      · injection h with h; exact Or.inl h.symm
      · cases h
  · cases h
theorem opS_err {s : Str} {e : Int} (h : opS s = .error e) : e = 82 ∨ e = 83 := by
  unfold opS at h
  split at h
  · cases h
  · injection h with h; exact Or.inl h.symm
theorem valF_err (s : Str) : ∀ {acc : Str} {e : Int}, valF s acc = .error e → e = 82 ∨ e = 83 := by
  induction hn : s.length using Nat.strongRecOn generalizing s with
  | _ n ih =>
    intro acc e h
    cases s with
    | nil => rw [valF_end] at h; injection h with h; exact Or.inr h.symm
    | cons c r =>
      by_cases h1 : c = 34
      · rw [h1, valF_quote] at h; cases h
      by_cases h2 : c = 9
      · rw [h2, valF_tab] at h; injection h with h; exact Or.inl h.symm
      cases hq : Lib.hasPrefix (c :: r) [92, 34]
      · rw [valF_more h1 h2 hq] at h
        exact ih r.length (by rw [← hn]; simp) r rfl h
      · obtain ⟨r2, hr⟩ := pre_esc hq
        rw [hr, valF_esc] at h
        exact ih r2.length (by rw [← hn, hr]; simp; omega) r2 rfl h
theorem valS_err {s : Str} {e : Int} (h : valS s = .error e) : e = 82 ∨ e = 83 := by
  unfold valS at h
  split at h
  · exact valF_err _ h
  · injection h with h; exact Or.inl h.symm
theorem post_cellrow3 {P : Program} {fn : Func} {R : Ending → World → Prop} {a : Act} {W : World} {g : Nat} {p q q2 : Tmp} {ty t : TypeId} {cs : Array Value} {u u2 : Value} {fr : Nat × Nat} {d : TypeDesc} (h : fn.results = #[.cell p ty, .tmp q, .tmp q2]) (hp : a.tmps.getD p undef = .pointer (some ⟨g, 0, none⟩)) (hq : a.tmps.getD q undef = u) (hq2 : a.tmps.getD q2 undef = u2)
    (hg : W.heap[g]? = some (.cells cs t fr)) (hu : P.underlying ty = some d) (hd : (match d with | .struct _ | .array _ _ => true | _ => false) = true) (hi : (P.info? ty).map (·.size) = some cs.size) (hdef : a.defers = [])
    (hR : R (.returned (.tuple #[.agg cs, u, u2])) W) : bodyPost P fn R .ret a W := by
  have hp' : a.tmps[p]?.getD undef = .pointer (some ⟨g, 0, none⟩) := by simpa using hp
  have hq' : a.tmps[q]?.getD undef = u := by simpa using hq
  have hq2' : a.tmps[q2]?.getD undef = u2 := by simpa using hq2
  refine bodyPost_ret (v := .tuple #[.agg cs, u, u2]) ?_ hdef hR
  simp [results, h, hp', hq', hq2', asAddr, run_loadVar_row W g t ty cs fr d hg hu hd hi]
theorem tokSize : (Tryz.prog.info? 119).map (·.size) = some 4 := by kernel_rfl
theorem bC {w W : World} {g i : Nat} {u : Value} (h : Below w.heap.size w W) (hg : w.heap.size ≤ g) : Below w.heap.size w (W.setCell ⟨g, i, none⟩ u) := h.grown (grown_set W g i u) h.size (fun j e => by cases e; exact hg)
abbrev tkO (cs : Array Value) : Obj := .cells cs 119 (0, 0)
/-- The two blocks of a token under way. -/
def TkSt (w W : World) (cs : Array Value) : Prop := W.heap[w.heap.size]? = some (tkO tkZ) ∧ W.heap[w.heap.size + 1]? = some (tkO cs) ∧ Below w.heap.size w W
theorem tk_new {w W : World} {cs : Array Value} (hb : Below ((w.alloc (tkO tkZ)).alloc (tkO cs)).heap.size ((w.alloc (tkO tkZ)).alloc (tkO cs)) W) : TkSt w W cs :=
  ⟨(hb.block w.heap.size (by simp; omega)).trans (((below_alloc (w.alloc (tkO tkZ)) _).block w.heap.size (by simp)).trans (heap_alloc_new w _)), (hb.block (w.heap.size + 1) (by simp)).trans (heap_alloc2_new w _ _), bt (bt (below_alloc _ _) (below_alloc _ _)) hb⟩
theorem tk_set {w W : World} {cs : Array Value} (h : TkSt w W cs) (i : Nat) (u : Value) : TkSt w (W.setCell ⟨w.heap.size + 1, i, none⟩ u) (cs.setIfInBounds i u) :=
  ⟨(Go.heap_setCell_other _ _ _ _ (by simp)).trans h.1, Go.Joins.block_setCell h.2.1 u, bC h.2.2 (by omega)⟩
theorem tk_go {w W W' : World} {cs : Array Value} (h : TkSt w W cs) (hb : Below W.heap.size W W') : TkSt w W' cs :=
  ⟨(hb.block _ (blk_lt' h.1)).trans h.1, (hb.block _ (blk_lt' h.2.1)).trans h.2.1, bt h.2.2 hb⟩
theorem tk_next {w W W' : World} {cs cs2 : Array Value} (h : TkSt w W cs) {i : Nat} {u : Value} (hb : Below (W.setCell ⟨w.heap.size + 1, i, none⟩ u).heap.size (W.setCell ⟨w.heap.size + 1, i, none⟩ u) W') (hc : cs.setIfInBounds i u = cs2) : TkSt w W' cs2 := by
  rw [← hc]; exact tk_go (tk_set h i u) hb
theorem tk_end {w W : World} {cs : Array Value} (h : TkSt w W cs) (a b c d : Value) :
    ((((W.setCell ⟨w.heap.size, 0, none⟩ a).setCell ⟨w.heap.size, 1, none⟩ b).setCell ⟨w.heap.size, 2, none⟩ c).setCell ⟨w.heap.size, 3, none⟩ d).heap[w.heap.size]? = some (tkO #[a, b, c, d]) :=
  Go.Joins.block_setCell (Go.Joins.block_setCell (Go.Joins.block_setCell (Go.Joins.block_setCell h.1 a) b) c) d
theorem tk_low {w W : World} {cs : Array Value} (h : TkSt w W cs) (a b c d : Value) : Below w.heap.size w ((((W.setCell ⟨w.heap.size, 0, none⟩ a).setCell ⟨w.heap.size, 1, none⟩ b).setCell ⟨w.heap.size, 2, none⟩ c).setCell ⟨w.heap.size, 3, none⟩ d) :=
  bC (bC (bC (bC h.2.2 (Nat.le_refl _)) (Nat.le_refl _)) (Nat.le_refl _)) (Nat.le_refl _)
theorem nameS_len {s a r : Str} (h : nameS s = .ok (a, r)) : r.length ≤ s.length := by
  unfold nameS at h
  split at h
  · dsimp only at h
    split at h
    · cases h
    · split at h
      · cases h
      · injection h with h; injection h with _ h; rw [← h, List.length_drop, List.length_drop]; omega
  · injection h with h; injection h with _ h; rw [h]; exact Nat.le_refl _
theorem opS_len {s a r : Str} (h : opS s = .ok (a, r)) : r.length ≤ s.length := by
  unfold opS at h
  split at h
  · injection h with h; injection h with _ h; rw [← h, List.length_drop]; omega
  · cases h
set_option maxRecDepth 100000 in
set_option maxHeartbeats 4000000 in
theorem token_any (s : ByteArray) (w : World) (hs : s.size ≤ 1000000) :
    Calls Tryz.prog 127 #[.string s] w fun e w' => e = .returned (.tuple (triT (tokS (L s)))) ∧ Below w.heap.size w w' := by
  have HCn := Lib.hid (fun W => countL_any s W (by omega))
  have hn := cnt_le upC (L s)
  rw [len_L] at hn
  have HT : Hid (tokS (L s) = if cnt upC (L s) = 0 then .error 82 else match nameS ((L s).drop (cnt upC (L s))) with
    | .error e => .error e
    | .ok (nm, r1) => match opS r1 with
      | .error e => .error e
      | .ok (op, r2) => match valS r2 with
        | .error e => .error e
        | .ok (v, r3) => .ok (⟨bs ((L s).take (cnt upC (L s))), bs nm, bs op, bs v⟩, r3)) := Lib.hid rfl
  generalize cnt upC (L s) = n at *
  by_cases h0 : n = 0
  · have HR : Hid (triT (tokS (L s)) = #[.agg tkZ, .string ⟨#[]⟩, .int .i64 82]) := Lib.hid (by rw [HT.out, if_pos h0]; rfl)
    subst h0
    clear HT
    go_enter Tryz.func127, Tryz.ntmps127
    go_wp2_with (go_at_call 170; refine (HCn.out _).mono ?_; rintro e w1 ⟨rfl, rfl⟩)
    refine post_cellrow3 rfl (by rfl) (by rfl) (by rfl) (heap_alloc_new w _) Tryz.underlying119 rfl tokSize (by rfl) ?_
    exact ⟨ret_t HR.out.symm, below_alloc _ _⟩
  have e0 : ((n : Int) == 0) = false := by simp; omega
  have HT1 : Hid (tokS (L s) = match nameS ((L s).drop n) with
    | .error e => .error e
    | .ok (nm, r1) => match opS r1 with
      | .error e => .error e
      | .ok (op, r2) => match valS r2 with
        | .error e => .error e
        | .ok (v, r3) => .ok (⟨bs ((L s).take n), bs nm, bs op, bs v⟩, r3)) := Lib.hid (by rw [HT.out, if_neg h0])
  have hnI : (n : Int) ≤ (s.size : Int) := by omega
  have HN1 := Lib.hid (fun W => name_any (s.extract n s.size) W (by rw [size_extract]; omega))
  have e1 : L (s.extract n s.size) = (L s).drop n := by rw [nm_tail]; exact L_bs _
  have e2 : s.extract 0 n = bs ((L s).take n) := nm_head s n
  have hd1 : ((L s).drop n).length ≤ 1000000 := by rw [List.length_drop, len_L]; omega
  rw [e1] at HN1
  have HE2 := Lib.hid e2
  clear e1 e2 h0 HT
  cases hnm : nameS ((L s).drop n) with
  | error e =>
    have HR : Hid (triT (tokS (L s)) = #[.agg tkZ, .string ⟨#[]⟩, .int .i64 e]) := Lib.hid (by rw [HT1.out, hnm]; rfl)
    rw [hnm] at HN1
    have hne : (e == 0) = false := by rcases nameS_err hnm with rfl | rfl <;> rfl
    have hne2 : (e != 0) = true := by rw [bne, hne]; rfl
    clear hnm HT1 
    unfold tri at HN1
    go_enter Tryz.func127, Tryz.ntmps127
    go_wp2_with (first
      | (go_at_call 170; refine (HCn.out _).mono ?_; rintro e w1 ⟨rfl, rfl⟩)
      | (go_at_call 179; refine (HN1.out _).mono ?_; rintro e w2 ⟨rfl, hb2⟩; have HS := Lib.hid (tk_new hb2); (obtain ⟨⟨⟨a0, a1, a2, a3⟩, q0, q1, q2, q3⟩, ⟨b0, b1, b2, b3⟩, p0, p1, p2, p3⟩ := And.intro (res4 HS.out.1) (res4 HS.out.2.1)); clear hb2))
    refine post_cellrow3 rfl (by rfl) (by rfl) (by rfl) (tk_end (tk_set HS.out _ _) _ _ _ _) Tryz.underlying119 rfl tokSize (by rfl) ?_
    exact ⟨ret_t HR.out.symm, tk_low (tk_set HS.out _ _) _ _ _ _⟩
  | ok p =>
    obtain ⟨nm, r1⟩ := p
    have HT2 : Hid (tokS (L s) = match opS r1 with
      | .error e => .error e
      | .ok (op, r2) => match valS r2 with
        | .error e => .error e
        | .ok (v, r3) => .ok (⟨bs ((L s).take n), bs nm, bs op, bs v⟩, r3)) := Lib.hid (by rw [HT1.out, hnm])
    have hd2 : r1.length ≤ 1000000 := Nat.le_trans (nameS_len hnm) hd1
    rw [hnm] at HN1
    unfold tri at HN1
    dsimp only at HN1
    clear hnm HT1 hd1
    have HN2 := Lib.hid (fun W => op_any (bs r1) W)
    rw [L_bs] at HN2
    cases hop : opS r1 with
    | error e =>
      have HR : Hid (triT (tokS (L s)) = #[.agg tkZ, .string ⟨#[]⟩, .int .i64 e]) := Lib.hid (by rw [HT2.out, hop]; rfl)
      rw [hop] at HN2
      have hne : (e == 0) = false := by rcases opS_err hop with rfl | rfl <;> rfl
      have hne2 : (e != 0) = true := by rw [bne, hne]; rfl
      clear hop HT2 hd2
      unfold tri at HN2
      go_enter Tryz.func127, Tryz.ntmps127
      go_wp2_with (first
        | (go_at_call 170; refine (HCn.out _).mono ?_; rintro e w1 ⟨rfl, rfl⟩)
        | (go_at_call 179; refine (HN1.out _).mono ?_; rintro e w2 ⟨rfl, hb2⟩; have HS := Lib.hid (tk_new hb2); (obtain ⟨⟨⟨a0, a1, a2, a3⟩, q0, q1, q2, q3⟩, ⟨b0, b1, b2, b3⟩, p0, p1, p2, p3⟩ := And.intro (res4 HS.out.1) (res4 HS.out.2.1)); clear hb2)
        | (go_at_call 173; refine (HN2.out _).mono ?_; rintro e w3 ⟨rfl, hb3⟩; replace HS := Lib.hid (tk_next HS.out hb3 rfl); clear hb3 a0 a1 a2 a3 b0 b1 b2 b3 q0 q1 q2 q3 p0 p1 p2 p3; (obtain ⟨⟨⟨a0, a1, a2, a3⟩, q0, q1, q2, q3⟩, ⟨b0, b1, b2, b3⟩, p0, p1, p2, p3⟩ := And.intro (res4 HS.out.1) (res4 HS.out.2.1))))
      refine post_cellrow3 rfl (by rfl) (by rfl) (by rfl) (tk_end (tk_set HS.out _ _) _ _ _ _) Tryz.underlying119 rfl tokSize (by rfl) ?_
      exact ⟨ret_t HR.out.symm, tk_low (tk_set HS.out _ _) _ _ _ _⟩
    | ok p =>
      obtain ⟨op, r2⟩ := p
      have HT3 : Hid (tokS (L s) = match valS r2 with
        | .error e => .error e
        | .ok (v, r3) => .ok (⟨bs ((L s).take n), bs nm, bs op, bs v⟩, r3)) := Lib.hid (by rw [HT2.out, hop])
      have hd3 : r2.length ≤ 1000000 := Nat.le_trans (opS_len hop) hd2
      rw [hop] at HN2
      unfold tri at HN2
      dsimp only at HN2
      clear hop HT2 hd2
      have HN3 := Lib.hid (fun W => value_any (bs r2) W (by rw [size_bs]; exact hd3))
      rw [L_bs] at HN3
      cases hvl : valS r2 with
      | error e =>
        have HR : Hid (triT (tokS (L s)) = #[.agg tkZ, .string ⟨#[]⟩, .int .i64 e]) := Lib.hid (by rw [HT3.out, hvl]; rfl)
        rw [hvl] at HN3
        have hne : (e == 0) = false := by rcases valS_err hvl with rfl | rfl <;> rfl
        have hne2 : (e != 0) = true := by rw [bne, hne]; rfl
        clear hvl HT3 hd3
        unfold tri at HN3
        go_enter Tryz.func127, Tryz.ntmps127
        go_wp2_with (first
          | (go_at_call 170; refine (HCn.out _).mono ?_; rintro e w1 ⟨rfl, rfl⟩)
          | (go_at_call 179; refine (HN1.out _).mono ?_; rintro e w2 ⟨rfl, hb2⟩; have HS := Lib.hid (tk_new hb2); (obtain ⟨⟨⟨a0, a1, a2, a3⟩, q0, q1, q2, q3⟩, ⟨b0, b1, b2, b3⟩, p0, p1, p2, p3⟩ := And.intro (res4 HS.out.1) (res4 HS.out.2.1)); clear hb2)
          | (go_at_call 173; refine (HN2.out _).mono ?_; rintro e w3 ⟨rfl, hb3⟩; replace HS := Lib.hid (tk_next HS.out hb3 rfl); clear hb3 a0 a1 a2 a3 b0 b1 b2 b3 q0 q1 q2 q3 p0 p1 p2 p3; (obtain ⟨⟨⟨a0, a1, a2, a3⟩, q0, q1, q2, q3⟩, ⟨b0, b1, b2, b3⟩, p0, p1, p2, p3⟩ := And.intro (res4 HS.out.1) (res4 HS.out.2.1)))
          | (go_at_call 180; refine (HN3.out _).mono ?_; rintro e w3 ⟨rfl, hb3⟩; replace HS := Lib.hid (tk_next HS.out hb3 rfl); clear hb3 a0 a1 a2 a3 b0 b1 b2 b3 q0 q1 q2 q3 p0 p1 p2 p3; (obtain ⟨⟨⟨a0, a1, a2, a3⟩, q0, q1, q2, q3⟩, ⟨b0, b1, b2, b3⟩, p0, p1, p2, p3⟩ := And.intro (res4 HS.out.1) (res4 HS.out.2.1))))
        refine post_cellrow3 rfl (by rfl) (by rfl) (by rfl) (tk_end (tk_set HS.out _ _) _ _ _ _) Tryz.underlying119 rfl tokSize (by rfl) ?_
        exact ⟨ret_t HR.out.symm, tk_low (tk_set HS.out _ _) _ _ _ _⟩
      | ok p =>
        obtain ⟨v, r3⟩ := p
        have HR : Hid (triT (tokS (L s)) = #[.agg #[.string (s.extract 0 n), .string (bs nm), .string (bs op), .string (bs v)], .string (bs r3), .int .i64 0]) := Lib.hid (by rw [HT3.out, hvl, HE2.out]; rfl)
        rw [hvl] at HN3
        unfold tri at HN3
        dsimp only at HN3
        clear hvl HT3 hd3
        go_enter Tryz.func127, Tryz.ntmps127
        go_wp2_with (first
          | (go_at_call 170; refine (HCn.out _).mono ?_; rintro e w1 ⟨rfl, rfl⟩)
          | (go_at_call 179; refine (HN1.out _).mono ?_; rintro e w2 ⟨rfl, hb2⟩; have HS := Lib.hid (tk_new hb2); (obtain ⟨⟨⟨a0, a1, a2, a3⟩, q0, q1, q2, q3⟩, ⟨b0, b1, b2, b3⟩, p0, p1, p2, p3⟩ := And.intro (res4 HS.out.1) (res4 HS.out.2.1)); clear hb2)
          | (go_at_call 173; refine (HN2.out _).mono ?_; rintro e w3 ⟨rfl, hb3⟩; replace HS := Lib.hid (tk_next HS.out hb3 rfl); clear hb3 a0 a1 a2 a3 b0 b1 b2 b3 q0 q1 q2 q3 p0 p1 p2 p3; (obtain ⟨⟨⟨a0, a1, a2, a3⟩, q0, q1, q2, q3⟩, ⟨b0, b1, b2, b3⟩, p0, p1, p2, p3⟩ := And.intro (res4 HS.out.1) (res4 HS.out.2.1)))
          | (go_at_call 180; refine (HN3.out _).mono ?_; rintro e w3 ⟨rfl, hb3⟩; replace HS := Lib.hid (tk_next HS.out hb3 rfl); clear hb3 a0 a1 a2 a3 b0 b1 b2 b3 q0 q1 q2 q3 p0 p1 p2 p3; (obtain ⟨⟨⟨a0, a1, a2, a3⟩, q0, q1, q2, q3⟩, ⟨b0, b1, b2, b3⟩, p0, p1, p2, p3⟩ := And.intro (res4 HS.out.1) (res4 HS.out.2.1))))
        refine post_cellrow3 rfl (by rfl) (by rfl) (by rfl) (tk_end (tk_set HS.out _ _) _ _ _ _) Tryz.underlying119 rfl tokSize (by rfl) ?_
        exact ⟨ret_t HR.out.symm, tk_low (tk_set HS.out _ _) _ _ _ _⟩
end Go.Proofs.YthcgkeiggnfgiaaGreatDoor
