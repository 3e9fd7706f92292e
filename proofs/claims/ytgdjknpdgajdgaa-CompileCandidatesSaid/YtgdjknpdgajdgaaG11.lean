/-
  The bytes of a pattern that stand for themselves are printable; no program in sight.
  Bytes that a call gathers.
  Contracts of the program's beginning and Literal, and of compile's key.
-/
import Derived.Test.YtgdjknpdgajdgaaG04
import Derived.Test.YtgdjknpdgajdgaaG00
import Derived.Test.YtgdjknpdgajdgaaG05
import Derived.Laws.IdiomStrings
import Derived.Lib.BufferRead
import Derived.Test.YtgdjknpdgajdgaaFronts
import Derived.Deep.MidRow
namespace Go.Proofs.Ytgdjknpdgajdgaa
/-- Elements whose own bytes are printable. -/
def LitOk (l : List El) : Prop := ∀ c, El.lit c ∈ l → pr c = true
theorem elS_lit {c : UInt8} {r : Str} {e : El} {r' : Str} (h : elS c r = some (e, r')) : (e = .lit c ∨ ∀ b, e ≠ .lit b) ∧ ∃ m, r' = r.drop m := by
  unfold elS at h
  split at h
  · obtain ⟨rfl, rfl⟩ := Prod.mk.inj (Option.some.inj h); exact ⟨Or.inr (fun b e => by cases e), 0, rfl⟩
  split at h
  · obtain ⟨rfl, rfl⟩ := Prod.mk.inj (Option.some.inj h); exact ⟨Or.inr (fun b e => by cases e), 0, rfl⟩
  split at h
  · obtain ⟨⟨no, rs, hrs⟩, m, _, _, h2⟩ := setS_suf _ _ h
    exact ⟨Or.inr (fun b e2 => by dsimp only at hrs; rw [hrs] at e2; cases e2), m, h2⟩
  · obtain ⟨rfl, rfl⟩ := Prod.mk.inj (Option.some.inj h); exact ⟨Or.inl rfl, 0, rfl⟩
theorem globF_lits : ∀ (n : Nat) (r : Str) (acc : List (List El)) (cur : List El) (alts : List (List El)), globF n r acc cur = some alts → (∀ l ∈ acc, LitOk l) → LitOk cur → (∀ c ∈ r, pr c = true) → ∀ l ∈ alts, LitOk l
  | 0, _, _, _, _, h, _, _, _ => by cases h
  | n + 1, [], acc, cur, alts, h, h1, h2, _ => by
    obtain rfl := Option.some.inj h
    intro l hl
    rcases List.mem_append.1 hl with hl | hl
    · exact h1 l hl
    · obtain rfl := List.mem_singleton.1 hl
      exact h2
  | n + 1, c :: r, acc, cur, alts, h, h1, h2, h3 => by
    rw [globF] at h
    split at h
    · exact globF_lits n r _ _ alts h (fun l hl => by
        rcases List.mem_append.1 hl with hl | hl
        · exact h1 l hl
        · obtain rfl := List.mem_singleton.1 hl
          exact h2) (fun b hb => by cases hb) (fun b hb => h3 b (List.mem_cons_of_mem _ hb))
    · cases he : elS c r with
      | none => rw [he] at h; cases h
      | some x =>
        rw [he] at h
        obtain ⟨e, r'⟩ := x
        obtain ⟨hl, m, rfl⟩ := elS_lit he
        dsimp only at h
        refine globF_lits n _ _ _ alts h h1 (fun b hb => ?_) (fun b hb => h3 b (List.mem_cons_of_mem _ (List.mem_of_mem_drop hb)))
        rcases List.mem_append.1 hb with hb | hb
        · exact h2 b hb
        · obtain rfl := List.mem_singleton.1 hb
          rcases hl with hl | hl
          · injection hl with hl; rw [hl]; exact h3 c (List.mem_cons_self ..)
          · exact absurd rfl (hl b)
theorem globS_lits {p : Str} {alts : List (List El)} (h : globS p = some alts) : ∀ l ∈ alts, LitOk l := by
  unfold globS at h
  split at h
  · rename_i hp
    exact globF_lits _ _ _ _ _ h (fun l hl => by cases hl) (fun b hb => by cases hb) (fun c hc => List.all_eq_true.1 hp.2 c hc)
  · cases h
theorem pr_pos {c : UInt8} (h : pr c = true) : c.toNat ≠ 0 := by
  simp [pr] at h
  omega
end Go.Proofs.Ytgdjknpdgajdgaa
namespace Go.Proofs.Ytgdjknpdgajdgaa
open Go.RowKit
def byV (c : UInt8) : Value := .int .u8 (c.toNat : Int)
theorem byInfo : (Try.prog.info? 5).map (fun i => (i.zero, i.size, i.bytes)) = some (some (.int .u8 0), 1, 1) := by kernel_rfl
theorem byUnd : Try.prog.underlying 5 = some (.int .u8) := by kernel_rfl
theorem strUnd : Try.prog.underlying 9 = some .string := by kernel_rfl
/-- Bytes that a call has gathered. -/
def OutY (w : World) (l : Str) (v : Value) (wr : World) : Prop := wr.ownsRow w.heap.size 5 1 v l.length (l.map byV) ∧ Below w.heap.size w wr
theorem OutY.go {w wr w' : World} {l : Str} {v : Value} (h : OutY w l v wr) (hb : Below wr.heap.size wr w') : OutY w l v w' := ⟨own_below2 h.1 hb, bt h.2 hb⟩
theorem OutY.start (w : World) : OutY w [] (.slice none 0 0) w := ⟨World.ownsRow_nil _ _ _ _, Below.refl _ _⟩
theorem OutY.snoc {w wr w9 : World} {l : Str} {v : Value} {y : UInt8} {o : Obj} {A : Option Addr} {c : Nat} (h : OutY w l v wr) (hown : w9.ownsRow w.heap.size 5 1 (.slice A (l.length + 1) c) (l.length + 1) (l.map byV ++ [byV y])) (hg : (wr.alloc o).grownBy w9 v.ownBlock) : OutY w (l ++ [y]) (.slice A (l.length + 1) c) w9 :=
  ⟨by rw [List.length_append, List.length_singleton, List.map_append]; exact hown, (bt h.2 (below_alloc _ _)).grown hg (by have := h.2.size; simp; omega) (fun j e => (h.1.lt j e).1)⟩
theorem OutY.conv {w wr : World} {l : Str} {v : Value} (h : OutY w l v wr) : (convert 114 9 v).run Try.prog wr = .ok (.string (bs l)) wr := by
  rcases h.1.2 with ⟨rfl, hn⟩ | ⟨g, cap, cur, rfl, h2, h3, h4, h5⟩
  · have : l = [] := by
      cases l with
      | nil => rfl
      | cons a r => simp at hn
    subst this
    exact Lib.run_convert_nil_bytes wr _ _ _ 0 Try.underlying114 byUnd strUnd
  · exact run_convert_bytes_back wr _ _ _ ⟨g, 0, none⟩ cap l Try.underlying114 byUnd strUnd (fun j hj => h.1.cells (g := g) rfl j _ (by rw [List.getElem?_map, List.getElem?_eq_getElem hj]; rfl))
end Go.Proofs.Ytgdjknpdgajdgaa
namespace Go.Proofs.Ytgdjknpdgajdgaa
open Go.RowKit
theorem begS_len : ∀ l : List El, (begS l).length ≤ l.length
  | [] => Nat.le_refl _
  | .lit c :: l => by have := begS_len l; simp [begS]; omega
  | .star :: l => Nat.zero_le _
  | .any :: l => Nat.zero_le _
  | .set _ _ :: l => Nat.zero_le _
theorem beg_go {l : List El} {m : Str} {k : Nat} (h : m ++ begS (l.drop k) = begS l) (hk : k < l.length) : ((∀ c, l[k] ≠ .lit c) → m = begS l) ∧ (∀ c, l[k] = .lit c → (m ++ [c]) ++ begS (l.drop (k + 1)) = begS l) := by
  rw [List.drop_eq_getElem_cons hk] at h
  refine ⟨fun hs => ?_, fun c hc => ?_⟩
  · generalize l[k] = e at *
    cases e with
    | lit c => exact absurd rfl (hs c)
    | star => rw [begS, List.append_nil] at h; exact h; simp
    | any => rw [begS, List.append_nil] at h; exact h; simp
    | set no rs => rw [begS, List.append_nil] at h; exact h; simp
  · rw [hc, begS] at h; rw [List.append_assoc]; exact h
theorem beg_end {l : List El} {m : Str} (h : m ++ begS (l.drop l.length) = begS l) : m = begS l := by
  rw [List.drop_length] at h; simpa [begS] using h
theorem ldElP_mid {w : World} {b o : Nat} {x : El} (hc : ∀ f u, (encEP x)[f]? = some u → w.cell? ⟨b, o + f, none⟩ = some u) : (ldElP (.pointer (some ⟨b, o, none⟩))).run Try.prog w = .ok (.agg (elP x.litN x.isStar x.has)) w := by
  have h := run_loadAt_mid (P := Try.prog) w b o 118 (encEP x) _ (fun j v hv => hc j v hv) Try.underlying118 rfl (by rw [encEP_len]; exact elPSize)
  rw [ld_elP] at h
  rw [h, encEP]
theorem elP_first (n : Nat) (st : Bool) (f : Nat → Bool) : (elP n st f)[0]? = some (.int .u8 n) := by
  unfold elP
  rw [Array.getElem?_append_left (by simp)]
  rfl
attribute [local go_sem ↓] ld_elP st_elP
set_option maxRecDepth 100000 in
set_option maxHeartbeats 8000000 in
theorem PBegin_any (A : Option Addr) (c : Nat) (l : List El) (w : World) (hl : l.length ≤ 1000) (hok : LitOk l) (h : RowAt w w.heap.size A 129 l.length (cellsOf encEP l)) :
    Calls Try.prog 50 #[.slice A l.length c] w fun e w' => e = .returned (.string (bs (begS l))) ∧ Below w.heap.size w w' := by
  have H := Lib.hid h
  have HOk := Lib.hid hok
  clear h hok
  obtain ⟨i0, hi0, hz0, hz1, hz2⟩ := info_parts byInfo
  have Hi0 := Lib.hid hi0
  have Hz0 := Lib.hid hz0
  have Hz1 := Lib.hid hz1
  have Hz2 := Lib.hid hz2
  clear hi0 hz0 hz1 hz2
  obtain ⟨N, hN⟩ : ∃ N, l.length = N := ⟨_, rfl⟩
  have HN := Lib.hid hN
  have HSta : Hid ([] ++ begS (l.drop 0) = begS l) := Lib.hid rfl
  rw [hN] at hl ⊢
  clear hN
  go_enter Try.func50, Try.ntmps50
  go_wp2_with fail
  go_loopg [3, 8] (N + 1) (fun gk s3 s8 wr => ∃ (k : Nat) (B : Option Addr) (d : Nat) (m : Str), s3 = .slice B m.length d ∧ s8 = .int .i64 k ∧ k + gk = N + 1 ∧ k ≤ N ∧ m.length ≤ k ∧ Hid (OutY w m (.slice B m.length d) wr) ∧ Hid (m ++ begS (l.drop k) = begS l))
  case atStart => exact ⟨0, none, 0, [], rfl, rfl, by omega, Nat.zero_le _, Nat.le_refl _, OutY.start w, HSta.out⟩
  case round =>
    obtain ⟨k, B, d, m, rfl, rfl, hkg, hkN, hmk, hO, hF⟩ := hrel
    obtain ⟨wo, rfl⟩ : ∃ wo : World, wo = wr := ⟨_, rfl⟩
    have hwz := hO.out.2.size
    by_cases hlt : k < N
    · have hltI : (k : Int) < (N : Int) := by omega
      have hk2 : k < l.length := by rw [HN.out]; exact hlt
      obtain ⟨ba, off, rfl, hba, hc⟩ := H.out.cell encEP_len hk2
      have hld := ldElP_mid (w := wo) (b := ba) (o := off + k * 129) (x := l[k]) (fun f u hu => by
        rw [hO.out.2.cell (p := ⟨ba, off + k * 129 + f, none⟩) hba, Nat.add_assoc]
        exact hc k _ (List.getElem?_eq_getElem hk2) f u hu)
      obtain ⟨f1, f2⟩ := beg_go hF.out hk2
      have HF1 := Lib.hid f1
      have HF2 := Lib.hid f2
      have HLk := Lib.hid (fun c (hc : l[k] = .lit c) => HOk.out c (by rw [← hc]; exact List.getElem_mem _))
      clear hc f1 f2
      generalize l[k] = x at *
      have hx : (x.litN = 0 ∧ ∀ c, x ≠ .lit c) ∨ ∃ c : UInt8, x = .lit c ∧ x.litN = c.toNat ∧ c.toNat ≠ 0 := by
        cases x with
        | lit c => exact Or.inr ⟨c, rfl, rfl, pr_pos (HLk.out c rfl)⟩
        | star => exact Or.inl ⟨rfl, fun c e => by cases e⟩
        | any => exact Or.inl ⟨rfl, fun c e => by cases e⟩
        | set no rs => exact Or.inl ⟨rfl, fun c e => by cases e⟩
      have hst := el_st wo x.litN x.isStar x.has
      have hE := el_st_at wo x.litN x.isStar x.has
      generalize x.litN = n at *
      generalize x.isStar = st at *
      generalize x.has = hf at *
      obtain ⟨w1, hw1⟩ : ∃ w1, (wo.alloc (.cells Try.zeroCells118 118)).setRow wo.heap.size (elP n st hf) = w1 := ⟨_, rfl⟩
      rw [hw1] at hE
      have c0 : w1.cell? ⟨wo.heap.size, 0, none⟩ = some (.int .u8 n) := cellOf hE (elP_first _ _ _)
      have HB1 : Hid (Below wo.heap.size wo w1) := Lib.hid (by rw [← hw1]; exact lkBR (below_alloc _ _) (Nat.le_refl _))
      have HW1 := Lib.hid hw1
      have HO1 := Lib.hid (hO.out.go HB1.out)
      have hw1z := HB1.out.size
      clear hw1 hE
      rcases hx with ⟨rfl, hno⟩ | ⟨y, rfl, rfl, hy⟩
      · have HE := Lib.hid (HF1.out hno)
        have hcv := HO1.out.conv
        clear hno
        go_upto_region 5 with fail
        rw [HW1.out]
        clear hst hld
        go_wp2
        go_ret
        exact ⟨by rw [HE.out]; rfl, HO1.out.2⟩
      · have HE := Lib.hid (HF2.out y rfl)
        have e0 : ((y.toNat : Int) == 0) = false := by simp; omega
        go_upto_region 5 with fail
        rw [HW1.out]
        clear hst hld
        go_wp2_with (at_builtin; go_loud (refine wpList_append_lies _ rfl _ _ _ (by rfl) w.heap.size 5 i0 _ 1 1 Try.underlying114 Hi0.out Hz0.out Hz1.out Hz2.out rfl (by omega) (.slice B m.length d) m.length (m.map byV) (by rfl) (HO1.out.1.alloc _) _ 1 1 [byV y] (by rfl) (by rfl) (by exact World.news_of_block (heap_alloc_new _ _)) (by simp [byV, Value.oneCell']) (by omega) (by unfold maxLen; omega) (by omega) (by simp; omega) _ rfl ?_; intro g2 cap w9 hown2 hgrow2 hat2 hlt2; have HO9 := Lib.hid (HO1.out.snoc hown2 hgrow2); clear hown2 hgrow2 hat2 hlt2))
        go_wp2
        go_roundg (gk - 1)
        case measure => omega
        case rel => exact ⟨k + 1, _, _, m ++ [y], by rw [List.length_append]; rfl, by go_num, by omega, by omega, by simp; omega, by rw [List.length_append]; exact HO9.out, HE.out⟩
    · obtain rfl : k = N := by omega
      have HE := Lib.hid (beg_end (l := l) (m := m) (by have := hF.out; rw [← HN.out] at this; exact this))
      have hcv := hO.out.conv
      go_wp2
      go_ret
      exact ⟨by rw [HE.out]; rfl, hO.out.2⟩
end Go.Proofs.Ytgdjknpdgajdgaa
