/-
  Contract of the program's Tokens.
-/
import Derived.Test.YthcgkeiggnfgiaaGreatDoorG46
import Derived.Test.YthcgkeiggnfgiaaGreatDoorG30
import Derived.Shelf.Strings.SlTrimAscii
namespace Go.Proofs.YthcgkeiggnfgiaaGreatDoor
open Go.RowKit
def restS (line : Str) : Str := line.dropWhile (sepL.contains ·)
def toksF : Nat → Str → Bool → List Tk → Except Int (List Tk)
  | 0, _, _, _ => .error 82
  | n + 1, line, beh, acc =>
    if (restS line).length = 0 then .ok acc else if beh = true ∧ (restS line).length = line.length then .error 82 else match tokS (restS line) with
      | .error e => .error e
      | .ok (x, r) => toksF n r true (acc ++ [x])
/-- The tokens of a line, or the error. -/
def toksS (line : Str) : Except Int (List Tk) := if 1024 < line.length then .error 81 else if line.all plC = false then .error 80 else toksF (line.length + 1) line false []
theorem restS_len (l : Str) : (restS l).length ≤ l.length := (List.dropWhile_sublist _).length_le
theorem valF_len (s : Str) : ∀ {acc a r : Str}, valF s acc = .ok (a, r) → r.length < s.length := by
  induction hn : s.length using Nat.strongRecOn generalizing s with
  | _ n ih =>
    intro acc a r' h
    cases s with
    | nil => rw [valF_end] at h; cases h
    | cons c r =>
      by_cases h1 : c = 34
      · rw [h1, valF_quote] at h; injection h with h; injection h with _ h; rw [← hn, ← h]; simp
      by_cases h2 : c = 9
      · rw [h2, valF_tab] at h; cases h
      cases hq : Lib.hasPrefix (c :: r) [92, 34]
      · rw [valF_more h1 h2 hq] at h
        have := ih r.length (by rw [← hn]; simp) r rfl h
        rw [← hn]; simp; omega
      · obtain ⟨r2, hr⟩ := pre_esc hq
        rw [hr, valF_esc] at h
        have := ih r2.length (by rw [← hn, hr]; simp; omega) r2 rfl h
        rw [← hn, hr]; simp; omega
theorem valS_len {s a r : Str} (h : valS s = .ok (a, r)) : r.length < s.length := by
  unfold valS at h
  split at h
  · have := valF_len _ h
    rw [List.length_drop] at this; omega
  · cases h
theorem tokS_eq (s : Str) : tokS s = if cnt upC s = 0 then .error 82 else match nameS (s.drop (cnt upC s)) with
    | .error e => .error e
    | .ok (nm, r1) => match opS r1 with
      | .error e => .error e
      | .ok (op, r2) => match valS r2 with
        | .error e => .error e
        | .ok (v, r3) => .ok (⟨bs (s.take (cnt upC s)), bs nm, bs op, bs v⟩, r3) := rfl
theorem tokS_len {s r : Str} {x : Tk} (h : tokS s = .ok (x, r)) : r.length < s.length := by
  rw [tokS_eq] at h
  by_cases h0 : cnt upC s = 0
  · rw [if_pos h0] at h; cases h
  rw [if_neg h0] at h
  cases h1 : nameS (s.drop (cnt upC s)) with
  | error e => rw [h1] at h; cases h
  | ok p =>
    obtain ⟨nm, r1⟩ := p
    rw [h1] at h
    dsimp only at h
    cases h2 : opS r1 with
    | error e => rw [h2] at h; cases h
    | ok p =>
      obtain ⟨op, r2⟩ := p
      rw [h2] at h
      dsimp only at h
      cases h3 : valS r2 with
      | error e => rw [h3] at h; cases h
      | ok p =>
        obtain ⟨v, r3⟩ := p
        rw [h3] at h
        dsimp only at h
        injection h with h
        injection h with _ h
        have a1 := nameS_len h1
        have a2 := opS_len h2
        have a3 := valS_len h3
        rw [List.length_drop] at a1
        rw [← h]; omega
theorem tokS_err {s : Str} {e : Int} (h : tokS s = .error e) : e = 82 ∨ e = 83 := by
  rw [tokS_eq] at h
  by_cases h0 : cnt upC s = 0
  · rw [if_pos h0] at h; injection h with h; exact Or.inl h.symm
  rw [if_neg h0] at h
  cases h1 : nameS (s.drop (cnt upC s)) with
  | error e => rw [h1] at h; injection h with h; rw [← h]; exact nameS_err h1
  | ok p =>
    obtain ⟨nm, r1⟩ := p
    rw [h1] at h
    dsimp only at h
    cases h2 : opS r1 with
    | error e => rw [h2] at h; injection h with h; rw [← h]; exact opS_err h2
    | ok p =>
      obtain ⟨op, r2⟩ := p
      rw [h2] at h
      dsimp only at h
      cases h3 : valS r2 with
      | error e => rw [h3] at h; injection h with h; rw [← h]; exact valS_err h3
      | ok p => obtain ⟨v, r3⟩ := p; rw [h3] at h; cases h
/-- Tokens that a call has gathered. -/
def OutK (w : World) (l : List Tk) (v : Value) (wr : World) : Prop := wr.ownsRow w.heap.size 119 4 v l.length (cellsOf encTk l) ∧ Below w.heap.size w wr
theorem OutK.go {w wr w' : World} {l : List Tk} {v : Value} (h : OutK w l v wr) (hb : Below wr.heap.size wr w') : OutK w l v w' := ⟨own_below2 h.1 hb, bt h.2 hb⟩
theorem OutK.start (w : World) : OutK w [] (.slice none 0 0) w := ⟨World.ownsRow_nil _ _ _ _, Below.refl _ _⟩
theorem OutK.snoc {w wr w9 : World} {l : List Tk} {v : Value} {y : Tk} {o : Obj} {A : Option Addr} {c : Nat} (h : OutK w l v wr) (hown : w9.ownsRow w.heap.size 119 4 (.slice A (l.length + 1) c) (l.length + 1) (cellsOf encTk l ++ encTk y)) (hg : (wr.alloc o).grownBy w9 v.ownBlock) : OutK w (l ++ [y]) (.slice A (l.length + 1) c) w9 :=
  ⟨own_snoc hown, (bt h.2 (below_alloc _ _)).grown hg (by have := h.2.size; simp; omega) (fun j e => (h.1.lt j e).1)⟩
/-- What Tokens leaves. -/
def TokPost (r : Except Int (List Tk)) (w : World) (e : Ending) (w' : World) : Prop := match r with
  | .error n => e = .returned (.tuple #[.slice none 0 0, .int .i64 n]) ∧ Below w.heap.size w w'
  | .ok l => ∃ v, e = .returned (.tuple #[v, .int .i64 0]) ∧ OutK w l v w'
theorem TrimSep (s : ByteArray) (w : World) : Calls Tryz.prog 86 #[.string s, .string ⟨#[32, 9, 44]⟩] w fun e w' => e = .returned (.string (bs (restS (L s)))) ∧ Below w.heap.size w w' :=
  Any.strings_TrimLeft_laid Tryz.lays161 (by kernel_rfl) s ⟨#[32, 9, 44]⟩ w (by decide) (ascii_of_all (by decide))
set_option maxRecDepth 100000 in
set_option maxHeartbeats 4000000 in
theorem PTokens_any (s : ByteArray) (w : World) (hs : s.size ≤ 9223372036854775807) :
    Calls Tryz.prog 77 #[.string s] w (TokPost (toksS (L s)) w) := by
  by_cases h1 : 1024 < s.size
  · have HR : Hid (toksS (L s) = .error 81) := Lib.hid (by rw [toksS, if_pos (by rw [len_L]; exact h1)])
    have h1I : (1024 : Int) < (s.size : Int) := by omega
    clear h1
    go_enter Tryz.func77, Tryz.ntmps77
    go_wp2
    go_step3
    go_wp2
    try rw [Exit.noGoto_ret]
    go_ret2
    rw [HR.out]
    exact ⟨rfl, Below.refl _ _⟩
  have h1I : (s.size : Int) ≤ 1024 := by omega
  have hsz : s.size ≤ 1024 := by omega
  have HP := Lib.hid (fun W => plain_any s W hs)
  have HT0 : Hid (toksS (L s) = if (L s).all plC = false then .error 80 else toksF (s.size + 1) (L s) false []) := Lib.hid (by rw [toksS, if_neg (by rw [len_L]; exact h1), len_L])
  clear h1 hs
  cases hp : (L s).all plC
  · have HR : Hid (toksS (L s) = .error 80) := Lib.hid (by rw [HT0.out, if_pos hp])
    rw [hp] at HP
    clear hp HT0
    go_enter Tryz.func77, Tryz.ntmps77
    go_wp2
    go_step3
    go_wp2_with (go_at_call 126; refine (HP.out _).mono ?_; rintro e w1 ⟨rfl, hb1⟩)
    try rw [Exit.noGoto_ret]
    go_ret2
    rw [HR.out]
    exact ⟨rfl, hb1⟩
  rw [hp] at HP
  have HT : Hid (toksS (L s) = toksF (s.size + 1) (L s) false []) := Lib.hid (by rw [HT0.out, if_neg (by rw [hp]; simp)])
  clear hp HT0
  obtain ⟨i0, hi0, hz0, hz1, hz2⟩ := info_parts tokInfo
  have Hi0 := Lib.hid hi0
  have Hz0 := Lib.hid hz0
  have Hz1 := Lib.hid hz1
  have Hz2 := Lib.hid hz2
  clear hi0 hz0 hz1 hz2
  go_enter Tryz.func77, Tryz.ntmps77
  go_wp2
  go_step3
  go_wp2_with (go_at_call 126; refine (HP.out _).mono ?_; rintro e w1 ⟨rfl, hb1⟩)
  go_step3
  go_wp2
  have HB1 := Lib.hid hb1
  clear hb1 HP
  go_loopg [0, 4, 5] (s.size + 1) (fun gk s0 s4 s5 wr => ∃ (line : ByteArray) (acc : List Tk) (beh : Bool) (A : Option Addr) (c : Nat), s0 = .string line ∧ s4 = .slice A acc.length c ∧ s5 = .bool beh ∧ line.size < gk ∧ acc.length + line.size ≤ 1024 ∧ Hid (OutK w acc (.slice A acc.length c) wr) ∧ Hid (toksS (L s) = toksF gk (L line) beh acc))
  case atStart => exact ⟨s, [], false, none, 0, rfl, rfl, rfl, by omega, by simpa using hsz, (OutK.start w).go HB1.out, HT.out⟩
  case round =>
    obtain ⟨line, acc, beh, A, c, rfl, rfl, rfl, hgk, hacc, hO, hT⟩ := hrel
    obtain ⟨m, rfl⟩ : ∃ m, gk = m + 1 := ⟨gk - 1, by omega⟩
    have HTr := Lib.hid (fun W => TrimSep line W)
    have hrl := restS_len (L line)
    rw [len_L] at hrl
    obtain ⟨u, hu⟩ : ∃ u, u = bs (restS (L line)) := ⟨_, rfl⟩
    have hus : u.size = (restS (L line)).length := by rw [hu, size_bs]
    have huL : L u = restS (L line) := by rw [hu, L_bs]
    rw [← hu] at HTr
    have HX : Hid (toksS (L s) = if u.size = 0 then .ok acc else if beh = true ∧ u.size = line.size then .error 82 else match tokS (L u) with
      | .error e => .error e
      | .ok (x, r) => toksF m r true (acc ++ [x])) := Lib.hid (by rw [hT.out, toksF, ← hus, len_L, huL])
    rw [← hus] at hrl
    clear hT hu hus huL
    by_cases h0 : u.size = 0
    · have hu0 : u.toList = [] := by rw [tl]; exact List.eq_nil_of_length_eq_zero (by rw [len_L]; exact h0)
      have hu1 : u.toList.isEmpty = true := by rw [hu0]; rfl
      have HR : Hid (toksS (L s) = .ok acc) := Lib.hid (by rw [HX.out, if_pos h0])
      clear HX h0
      go_wp2_with (go_at_call 86; refine (HTr.out _).mono ?_; rintro e w2 ⟨rfl, hb2⟩)
      try rw [Exit.noGoto_ret]
      go_ret2
      rw [HR.out]
      exact ⟨_, rfl, hO.out.go hb2⟩
    have hu0 : ¬ u.toList = [] := by
      rw [tl]; intro e; apply h0; rw [← len_L, e]; rfl
    have hu1 : u.toList.isEmpty = false := by
      cases hq : u.toList.isEmpty with
      | false => rfl
      | true => exact absurd (List.isEmpty_iff.1 hq) hu0
    have HX1 : Hid (toksS (L s) = if beh = true ∧ u.size = line.size then .error 82 else match tokS (L u) with
      | .error e => .error e
      | .ok (x, r) => toksF m r true (acc ++ [x])) := Lib.hid (by rw [HX.out, if_neg h0])
    clear HX h0
    by_cases hbl : beh = true ∧ u.size = line.size
    · have HR : Hid (toksS (L s) = .error 82) := Lib.hid (by rw [HX1.out, if_pos hbl])
      obtain ⟨rfl, he⟩ := hbl
      have heq : ((u.size : Int) == (line.size : Int)) = true := by rw [he]; simp
      clear HX1 he
      go_wp2_with (go_at_call 86; refine (HTr.out _).mono ?_; rintro e w2 ⟨rfl, hb2⟩)
      try rw [Exit.noGoto_ret]
      go_ret2
      rw [HR.out]
      exact ⟨rfl, (hO.out.go hb2).2⟩
    have HX2 : Hid (toksS (L s) = match tokS (L u) with
      | .error e => .error e
      | .ok (x, r) => toksF m r true (acc ++ [x])) := Lib.hid (by rw [HX1.out, if_neg hbl])
    have hcase : beh = false ∨ (beh = true ∧ ((u.size : Int) == (line.size : Int)) = false) := by
      cases beh with
      | false => exact Or.inl rfl
      | true => exact Or.inr ⟨rfl, by simp; intro e; exact hbl ⟨rfl, by omega⟩⟩
    have HTk := Lib.hid (fun W => token_any u W (by omega))
    clear HX1 hbl
    cases hk : tokS (L u) with
    | error e =>
      have HR : Hid (toksS (L s) = .error e) := Lib.hid (by rw [HX2.out, hk])
      have hne : (e == 0) = false := by rcases tokS_err hk with rfl | rfl <;> rfl
      have hne2 : (e != 0) = true := by rw [bne, hne]; rfl
      rw [hk] at HTk
      clear hk HX2
      unfold triT at HTk
      rcases hcase with rfl | ⟨rfl, heq⟩
      all_goals
        go_wp2_with (first
          | (go_at_call 86; refine (HTr.out _).mono ?_; rintro e w2 ⟨rfl, hb2⟩)
          | (go_at_call 127; refine (HTk.out _).mono ?_; rintro e w3 ⟨rfl, hb3⟩))
        try rw [Exit.noGoto_ret]
        go_ret2
        rw [HR.out]
        exact ⟨rfl, bt ((hO.out.go hb2).go hb3).2 (below_alloc _ _)⟩
    | ok p =>
      obtain ⟨⟨xk, xn, xo, xv⟩, r⟩ := p
      have hrl2 : r.length < u.size := by have := tokS_len hk; rwa [len_L] at this
      have HX3 : Hid (toksS (L s) = toksF m (L (bs r)) true (acc ++ [⟨xk, xn, xo, xv⟩])) := Lib.hid (by rw [HX2.out, hk, L_bs])
      rw [hk] at HTk
      clear hk HX2
      unfold triT tkV at HTk
      dsimp only at HTk
      have hrs : (bs r).size = r.length := size_bs r
      rcases hcase with rfl | ⟨rfl, heq⟩
      all_goals
        go_wp2_with (first
          | (go_at_call 86; refine (HTr.out _).mono ?_; rintro e w2 ⟨rfl, hb2⟩)
          | (go_at_call 127; refine (HTk.out _).mono ?_; rintro e w3 ⟨rfl, hb3⟩; have HO3 := Lib.hid (((hO.out.go hb2).go hb3).go (below_alloc w3 (.cells #[.string xk, .string xn, .string xo, .string xv] 119))); have hwz := ((hO.out.go hb2).go hb3).2.size; clear hb2 hb3)
          | (at_builtin; go_loud (refine wpList_append_lies _ rfl _ _ _ (by rfl) w.heap.size 119 i0 _ 4 64 Tryz.underlying116 Hi0.out Hz0.out Hz1.out Hz2.out rfl (by omega) (.slice A acc.length c) acc.length (cellsOf encTk acc) (by rfl) (HO3.out.1.alloc _) _ 1 1 (encTk ⟨xk, xn, xo, xv⟩) (by rfl) (by rfl) (by exact World.news_of_block (heap_alloc2_new w3 _ _)) (encTk_one _) (by omega) (by unfold maxLen; omega) (by omega) (by simp; omega) _ rfl ?_; intro g2 cap w9 hown2 hgrow2 hat2 hlt2; have HO9 := Lib.hid (HO3.out.snoc hown2 hgrow2); clear hown2 hgrow2 hat2 hlt2)))
        go_wp2
        go_roundg m
        case measure => omega
        case rel => exact ⟨bs r, _, true, _, _, rfl, by rw [List.length_append]; rfl, rfl, by rw [hrs]; omega, by rw [List.length_append, hrs]; simp; omega, by rw [List.length_append]; exact HO9.out, HX3.out⟩
end Go.Proofs.YthcgkeiggnfgiaaGreatDoor
