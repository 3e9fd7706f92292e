/-
  A list that a function makes beside the tape.
  Contract of coldplugworld's Terms: a list of some short terms.
  Lists of rules and of faults in memory.
-/
import Derived.Test.YtibflgfhjfcifaaGreatDoorG00
import Derived.Test.YtibflgfhjfcifaaGreatDoorMatches
import Derived.Test.YtibflgfhjfcifaaGreatDoorAssigns
import Derived.Deep.AppendLies
import Derived.Deep.Onto
namespace Go.Proofs.YtibflgfhjfcifaaGreatDoor
open Go.RowKit
theorem termInfo : (Tryz.prog.info? 66).map (fun i => (i.zero, i.size, i.bytes)) = some (some (.agg #[.int .i64 0, .string ⟨#[]⟩, .int .i64 0, .string ⟨#[]⟩]), 4, 48) := by kernel_rfl
theorem encTm_one (t : Tm) : ∀ u ∈ encTm t, u.oneCell' = true := by simp [encTm, Value.oneCell']
theorem own_snoc {α : Type} {enc : α → List Value} {W : World} {base k c : Nat} {e : TypeId} {A : Option Addr} {l : List α} {t : α} (h : W.ownsRow base e k (.slice A (l.length + 1) c) (l.length + 1) (cellsOf enc l ++ enc t)) :
 W.ownsRow base e k (.slice A (l.length + 1) c) (l ++ [t]).length (cellsOf enc (l ++ [t])) := by
 rw [List.length_append, List.length_singleton, cellsOf_append]
 have : cellsOf enc [t] = enc t := by simp [cellsOf]
 rw [this]
 exact h
structure TRow {α : Type} (T : TypeId) (kk : Nat) (enc : α → List Value) (w0 : World) (b n p d : Nat) (w : World) (v : Value) (l : List α) (W : World) : Prop where
 nx : TNx w0 b n p d w W
 own : W.ownsRow w.heap.size T kk v l.length (cellsOf enc l)
 lo : w0.heap.size ≤ w.heap.size
section
variable {α : Type} {T : TypeId} {kk : Nat} {enc : α → List Value} {w0 w W W1 W2 : World} {b n p d d' : Nat} {v : Value} {l : List α}
theorem TRow.far (h : TRow T kk enc w0 b n p d w v l W) : v.ownBlock ≠ some b := fun e => by
 have h1 := (h.own.lt b e).1
 have h2 := h.nx.st.lt
 have h3 := h.lo
 omega
theorem TRow.go (h : TRow T kk enc w0 b n p d w v l W) (hT : TNx w0 b n p d' W W1) : TRow T kk enc w0 b n p d' w v l W1 := ⟨h.nx.trans hT, h.own.kept hT.gr (Or.inr h.far), h.lo⟩
theorem TRow.below (h : TRow T kk enc w0 b n p d w v l W) (hb : Below W.heap.size W W1) : TRow T kk enc w0 b n p d w v l W1 :=
 ⟨h.nx.grownR (grown_below hb none) (fun _ e => by cases e), h.own.kept (grown_below hb none) (by cases hv : v.ownBlock <;> simp), h.lo⟩
theorem TRow.alloc (h : TRow T kk enc w0 b n p d w v l W) (o : Obj) : TRow T kk enc w0 b n p d w v l (W.alloc o) := h.below ((Below.refl _ _).alloc (Nat.le_refl _) _)
theorem TRow.more (h : TRow T kk enc w0 b n p d w v l W) (hd : d ≤ d') : TRow T kk enc w0 b n p d' w v l W := ⟨h.nx.more hd, h.own, h.lo⟩
theorem TRow.snoc {A : Option Addr} {c : Nat} {t : α} (h : TRow T kk enc w0 b n p d w v l W) (hown : W2.ownsRow w.heap.size T kk (.slice A (l.length + 1) c) (l.length + 1) (cellsOf enc l ++ enc t)) (hg : W.grownBy W2 v.ownBlock) : TRow T kk enc w0 b n p d w (.slice A (l.length + 1) c) (l ++ [t]) W2 :=
 ⟨h.nx.grownR hg (fun j e => by have := (h.own.lt j e).1; have := h.lo; omega), own_snoc hown, h.lo⟩
theorem TNx.refl (h : TSt w0 b n p d w) : TNx w0 b n p d w w := ⟨h, grown_refl _ _⟩
theorem TRow.start (h : TSt w0 b n p d w) : TRow T kk enc w0 b n p d w (.slice none 0 0) [] w := ⟨TNx.refl h, World.ownsRow_nil _ _ _ _, h.size⟩
end
end Go.Proofs.YtibflgfhjfcifaaGreatDoor
namespace Go.Proofs.YtibflgfhjfcifaaGreatDoor
open Go.RowKit
structure TTm (w0 : World) (b n p d : Nat) (w : World) (v : Value) (l : List Tm) (W : World) : Prop where
 row : TRow 66 4 encTm w0 b n p d w v l W
 small : ∀ t ∈ l, TmSmall 60 t
def SomeTms (lo hi : Nat) (w0 : World) (b n p d : Nat) (w : World) (e : Ending) (w' : World) : Prop := ∃ v l, e = .returned v ∧ lo ≤ l.length ∧ l.length ≤ hi ∧ TTm w0 b n p d w v l w'
theorem snoc_small {l : List Tm} {t : Tm} (h : ∀ x ∈ l, TmSmall 60 x) (ht : TmSmall 60 t) : ∀ x ∈ l ++ [t], TmSmall 60 x := fun x hx => by
 rcases List.mem_append.1 hx with hx | hx
 · exact h x hx
 · obtain rfl := List.mem_singleton.1 hx; exact ht
theorem cons_small {l : List Tm} {t : Tm} (h : ∀ x ∈ l, TmSmall 60 x) (ht : TmSmall 60 t) : ∀ x ∈ t :: l, TmSmall 60 x := fun x hx => by
 rcases List.mem_cons.1 hx with rfl | hx
 · exact ht
 · exact h x hx
theorem cells_one (l : List Tm) : ∀ u ∈ cellsOf encTm l, u.oneCell' = true := fun u hu => by
 unfold cellsOf at hu
 obtain ⟨t, _, hu⟩ := List.mem_flatMap.1 hu
 exact encTm_one t u hu
theorem TRow.cons {α : Type} {T : TypeId} {kk : Nat} {enc : α → List Value} {w0 w W W2 : World} {b n p d c B : Nat} {A : Option Addr} {v : Value} {l : List α} {t : α} (h : TRow T kk enc w0 b n p d w v l W) (hown : W2.ownsRow w.heap.size T kk (.slice A (1 + l.length) c) (1 + l.length) (enc t ++ cellsOf enc l)) (hg : W.grownBy W2 (some B)) (hB : w.heap.size ≤ B) : TRow T kk enc w0 b n p d w (.slice A (1 + l.length) c) (t :: l) W2 :=
 ⟨h.nx.grownR hg (fun j e => by cases e; have := h.lo; omega), by rw [List.length_cons, Nat.add_comm l.length 1]; exact hown, h.lo⟩
set_option maxRecDepth 100000 in
set_option maxHeartbeats 8000000 in
theorem Terms_any {w0 w : World} {b n p d : Nat} (h : TSt w0 b n p d w) (h3 : p + d ≤ 90000) :
 Calls Tryz.prog 27 #[.pointer (some ⟨b, 0, none⟩)] w (SomeTms 1 6 w0 b n p (d + 100) w) := by
 have H := Lib.hid h
 have hlb := h.lt
 have hws := h.size
 clear h
 obtain ⟨i0, hi0, hz0, hz1, hz2⟩ := info_parts termInfo
 have Hi0 := Lib.hid hi0
 have Hz0 := Lib.hid hz0
 have Hz1 := Lib.hid hz1
 have Hz2 := Lib.hid hz2
 clear hi0 hz0 hz1 hz2
 go_enter Tryz.func27, Tryz.ntmps27
 go_wp2_with fail
 (with_reducible refine (Next_t (n := n) (p := p) _ H.out (by omega) (by omega) (by omega)).mono ?_)
 rintro e w1 ⟨r, r0, r1, rfl, hT1⟩
 obtain ⟨rn, rfl⟩ := Int.eq_ofNat_of_zero_le r0
 have hrn : rn ≤ 2 := by omega
 have HT1 := Lib.hid (TRow.go (TRow.start (T := 66) (kk := 4) (enc := encTm) H.out) hT1)
 clear hT1 r0 r1
 go_wp2_with fail
 go_loopg [3, 4] 3 (fun gk s3 s4 wr => ∃ (k : Nat) (v : Value) (l : List Tm) (D : Nat), v = s3 ∧ s4 = .int .i64 k ∧ k + 1 ≤ gk ∧ k ≤ 2 ∧ l.length + k ≤ 2 ∧ D + 10 * k ≤ d + 21 ∧ Hid (TTm w0 b n p D w v l wr))
 case atStart => exact ⟨rn, _, [], d + 1, rfl, rfl, by omega, hrn, by simp; omega, by omega, HT1.out, fun t ht => by cases ht⟩
 case round =>
  obtain ⟨k, v, l, D, rfl, rfl, hkg, hk2, hlk, hD, hTT⟩ := hrel
  by_cases hk : 0 < k
  · have hkI : (0 : Int) < (k : Int) := by omega
    go_wp2_with fail
    (with_reducible refine (Matches_any (n := n) (p := p) hTT.out.row.nx.st (by omega)).mono ?_)
    rintro e w2 ⟨t, hts, rfl, hT2⟩
    have HR2 := Lib.hid (hTT.out.row.go hT2)
    have HS2 := Lib.hid (snoc_small hTT.out.small hts)
    clear hT2 hts
    unfold tmV
    have hw2 := HR2.out.nx.gr.size
    go_wp2_with (refine wpList_append_lies _ rfl _ _ _ (by rfl) w.heap.size 66 i0 _ 4 48 Tryz.underlying37 Hi0.out Hz0.out Hz1.out Hz2.out rfl (by omega) v l.length (cellsOf encTm l) (by rfl) (HR2.out.alloc _).own _ 1 1 (encTm t) (by rfl) (by rfl) (by exact World.news_of_block (B := w2.heap.size) (heap_alloc_new _ _)) (encTm_one _) (by omega) (by unfold maxLen; omega) (by omega) (by simp; omega) _ rfl ?_; intro g2 cap w3 hown2 hgrow2 hat2 hlt2)
    have HR3 := Lib.hid ((HR2.out.alloc _).snoc hown2 hgrow2)
    clear hown2 hgrow2 hat2
    go_wp2
    go_roundg (gk - 1)
    case measure => omega
    case rel => exact ⟨k - 1, _, l ++ [t], D + 10, rfl, by rw [show ((k - 1 : Nat) : Int) = (k : Int) - 1 from by omega], by omega, by omega, by simp; omega, by omega, HR3.out, HS2.out⟩
  · obtain rfl : k = 0 := by omega
    go_wp2_with fail
    (with_reducible refine (Next_t (n := n) (p := p) _ hTT.out.row.nx.st (by omega) (by omega) (by omega)).mono ?_)
    rintro e w2 ⟨r2, r0, r1, rfl, hT2⟩
    obtain ⟨rm, rfl⟩ := Int.eq_ofNat_of_zero_le r0
    have hrm : rm ≤ 1 := by omega
    have HR2 := Lib.hid (hTT.out.row.go hT2)
    have HS2 := Lib.hid hTT.out.small
    clear hT2 hTT r0 r1
    go_wp2_with fail
    obtain ⟨gko, rfl⟩ : ∃ gko : Nat, gko = gk := ⟨_, rfl⟩
    obtain ⟨wo, rfl⟩ : ∃ wo : World, wo = wr := ⟨_, rfl⟩
    go_loopg [3, 5] 4 (fun gk s3 s5 wr => ∃ (k : Nat) (v : Value) (l : List Tm) (D : Nat), v = s3 ∧ s5 = .int .i64 k ∧ k + 1 ≤ gk ∧ k ≤ 2 ∧ l.length + k ≤ 4 ∧ 1 ≤ l.length + k ∧ D + 10 * k ≤ d + 52 ∧ Hid (TTm w0 b n p D w v l wr))
    case atStart => exact ⟨1 + rm, v, l, D + 1, rfl, by rw [show ((1 + rm : Nat) : Int) = 1 + (rm : Int) from by omega], by omega, by omega, by omega, by omega, by omega, HR2.out, HS2.out⟩
    case round =>
     obtain ⟨k, v, l, D, rfl, rfl, hkg2, hk22, hlk2, hlk3, hD2, hTT⟩ := hrel
     by_cases hk : 0 < k
     · have hkI : (0 : Int) < (k : Int) := by omega
       go_wp2_with fail
       (with_reducible refine (Assigns_any (n := n) (p := p) hTT.out.row.nx.st (by omega)).mono ?_)
       rintro e w3 ⟨t, hts, rfl, hT3⟩
       have HR3 := Lib.hid (hTT.out.row.go hT3)
       have HS3 := Lib.hid (snoc_small hTT.out.small hts)
       clear hT3 hts
       unfold tmV
       have hw3 := HR3.out.nx.gr.size
       go_wp2_with (refine wpList_append_lies _ rfl _ _ _ (by rfl) w.heap.size 66 i0 _ 4 48 Tryz.underlying37 Hi0.out Hz0.out Hz1.out Hz2.out rfl (by omega) v l.length (cellsOf encTm l) (by rfl) (HR3.out.alloc _).own _ 1 1 (encTm t) (by rfl) (by rfl) (by exact World.news_of_block (B := w3.heap.size) (heap_alloc_new _ _)) (encTm_one _) (by omega) (by unfold maxLen; omega) (by omega) (by simp; omega) _ rfl ?_; intro g2 cap w9 hown2 hgrow2 hat2 hlt2)
       have HR4 := Lib.hid ((HR3.out.alloc _).snoc hown2 hgrow2)
       clear hown2 hgrow2 hat2
       go_wp2
       go_roundg (gk - 1)
       case measure => omega
       case rel => exact ⟨k - 1, _, l ++ [t], D + 10, rfl, by rw [show ((k - 1 : Nat) : Int) = (k : Int) - 1 from by omega], by omega, by omega, by simp; omega, by simp; omega, by omega, HR4.out, HS3.out⟩
     · obtain rfl : k = 0 := by omega
       go_wp2_with fail
       (with_reducible refine (Next_t (n := n) (p := p) _ hTT.out.row.nx.st (by omega) (by omega) (by omega)).mono ?_)
       rintro e w3 ⟨r3, r0, r1, rfl, hT3⟩
       have HR3 := Lib.hid (hTT.out.row.go hT3)
       have HS3 := Lib.hid hTT.out.small
       clear hT3 hTT
       have hw3 := HR3.out.nx.gr.size
       by_cases h0 : r3 = 0
       · subst h0
         go_wp2_with fail
         (with_reducible refine (One_b (n := n) (p := p) 60 _ _ _ _ _ HR3.out.nx.st (by decide) (by simp) (by decide) (by decide) (by simp) (by omega)).mono ?_)
         rintro e w4 ⟨s, hs, rfl, hT4⟩
         have HR4 := Lib.hid (HR3.out.go hT4)
         clear hT4
         have hw4 := HR4.out.nx.gr.size
         have HS4 := Lib.hid (snoc_small (t := ⟨23, ⟨#[]⟩, 3, s⟩) HS3.out ⟨(by dsimp only; decide), hs, (by dsimp only; decide), (by dsimp only; decide), (by dsimp only; decide), (by dsimp only; decide)⟩)
         go_wp2_with (refine wpList_append_lies _ rfl _ _ _ (by rfl) w.heap.size 66 i0 _ 4 48 Tryz.underlying37 Hi0.out Hz0.out Hz1.out Hz2.out rfl (by omega) v l.length (cellsOf encTm l) (by rfl) (HR4.out.alloc _).own _ 1 1 (encTm ⟨23, ⟨#[]⟩, 3, s⟩) (by rfl) (by rfl) (by exact World.news_of_block (B := w4.heap.size) (heap_alloc_new _ _)) (encTm_one _) (by omega) (by unfold maxLen; omega) (by omega) (by simp; omega) _ rfl ?_; intro g2 cap w9 hown2 hgrow2 hat2 hlt2)
         have HR5 := Lib.hid ((HR4.out.alloc _).snoc (t := ⟨23, ⟨#[]⟩, 3, s⟩) hown2 hgrow2)
         clear hown2 hgrow2 hat2
         go_wp2
         go_ret
         exact ⟨_, l ++ [⟨23, ⟨#[]⟩, 3, s⟩], rfl, by simp, by simp; omega, HR5.out.more (by omega), HS4.out⟩
       by_cases h1 : r3 = 1
       · subst h1
         go_wp2_with fail
         (with_reducible refine (One_b (n := n) (p := p) 60 _ _ _ _ _ HR3.out.nx.st (by decide) (by simp) (by decide) (by decide) (by simp) (by omega)).mono ?_)
         rintro e w4 ⟨s, hs, rfl, hT4⟩
         have HR4 := Lib.hid (HR3.out.go hT4)
         clear hT4
         have hw4 := HR4.out.nx.gr.size
         have HS4 := Lib.hid (snoc_small (t := ⟨24, ⟨#[]⟩, 3, s⟩) HS3.out ⟨(by dsimp only; decide), hs, (by dsimp only; decide), (by dsimp only; decide), (by dsimp only; decide), (by dsimp only; decide)⟩)
         go_wp2_with (refine wpList_append_lies _ rfl _ _ _ (by rfl) w.heap.size 66 i0 _ 4 48 Tryz.underlying37 Hi0.out Hz0.out Hz1.out Hz2.out rfl (by omega) v l.length (cellsOf encTm l) (by rfl) (HR4.out.alloc _).own _ 1 1 (encTm ⟨24, ⟨#[]⟩, 3, s⟩) (by rfl) (by rfl) (by exact World.news_of_block (B := w4.heap.size) (heap_alloc_new _ _)) (encTm_one _) (by omega) (by unfold maxLen; omega) (by omega) (by simp; omega) _ rfl ?_; intro g2 cap w9 hown2 hgrow2 hat2 hlt2)
         have HR5 := Lib.hid ((HR4.out.alloc _).snoc (t := ⟨24, ⟨#[]⟩, 3, s⟩) hown2 hgrow2)
         clear hown2 hgrow2 hat2
         go_wp2
         go_ret
         exact ⟨_, l ++ [⟨24, ⟨#[]⟩, 3, s⟩], rfl, by simp, by simp; omega, HR5.out.more (by omega), HS4.out⟩
       have e0 : (r3 == 0) = false := by simp [h0]
       have e1 : (r3 == 1) = false := by simp [h1]
       by_cases h2 : r3 = 2
       · subst h2
         go_wp2_with fail
         (with_reducible refine (Assigns_any (n := n) (p := p) HR3.out.nx.st (by omega)).mono ?_)
         rintro e w4 ⟨t, hts, rfl, hT4⟩
         have HR4 := Lib.hid (HR3.out.go hT4)
         clear hT4
         have HS4 := Lib.hid (cons_small HS3.out hts)
         clear hts
         unfold tmV
         have hw4 := HR4.out.nx.gr.size
         have hlo := HR4.out.lo
         obtain ⟨gg, cp, hv, hgb, hgl⟩ := HR4.out.own.form (by omega)
         subst hv
         go_wp2_with (refine wpList_append_lies _ rfl _ _ _ (by rfl) w.heap.size 66 i0 _ 4 48 Tryz.underlying37 Hi0.out Hz0.out Hz1.out Hz2.out rfl (by omega) (.slice (some ⟨w4.heap.size, 0, none⟩) 1 1) 1 (encTm t) (by rfl) (by exact World.ownsRow_lit w4 _ 1 (by omega) (by unfold maxLen; omega) (by rfl)) _ l.length cp (cellsOf encTm l) (by rfl) (cellsOf_len encTm 4 (fun _ => rfl) l) (by exact (HR4.out.alloc _).own.cells rfl) (cells_one l) (by omega) (by unfold maxLen; omega) (by omega) (by simp; omega) _ rfl ?_; intro g2 cap w9 hown2 hgrow2 hat2 hlt2)
         have HR5 := Lib.hid ((HR4.out.alloc _).cons hown2 hgrow2 hw4)
         clear hown2 hgrow2 hat2
         go_wp2
         go_ret
         exact ⟨_, t :: l, rfl, by simp, by simp; omega, HR5.out.more (by omega), HS4.out⟩
       · have e2 : (r3 == 2) = false := by simp [h2]
         clear h0 h1 h2
         go_wp2
         go_ret
         exact ⟨_, l, rfl, by omega, by omega, HR3.out.more (by omega), HS3.out⟩
end Go.Proofs.YtibflgfhjfcifaaGreatDoor
namespace Go.Proofs.YtibflgfhjfcifaaGreatDoor
open Go.RowKit
structure Rl where
 file : ByteArray
 line : Int
 tms : Ls Tm
structure Rp where
 file : ByteArray
 line : Int
 tms : List Tm
def Rl.p (x : Rl) : Rp := ⟨x.file, x.line, x.tms.l⟩
structure Fl where
 file : ByteArray
 line : Int
 errno : Int
def encRl (x : Rl) : List Value := [.string x.file, .int .i64 x.line, .slice x.tms.A x.tms.l.length x.tms.c]
def encFl (x : Fl) : List Value := [.string x.file, .int .i64 x.line, .int .i64 x.errno]
theorem encRl_len (x : Rl) : (encRl x).length = 3 := rfl
theorem encFl_len (x : Fl) : (encFl x).length = 3 := rfl
theorem encRl_one (x : Rl) : ∀ u ∈ encRl x, u.oneCell' = true := by simp [encRl, Value.oneCell']
theorem encFl_one (x : Fl) : ∀ u ∈ encFl x, u.oneCell' = true := by simp [encFl, Value.oneCell']
theorem rlInfo : (Tryz.prog.info? 39).map (fun i => (i.zero, i.size, i.bytes)) = some (some (.agg #[.string ⟨#[]⟩, .int .i64 0, .slice none 0 0]), 3, 48) := by kernel_rfl
theorem flInfo : (Tryz.prog.info? 55).map (fun i => (i.zero, i.size, i.bytes)) = some (some (.agg #[.string ⟨#[]⟩, .int .i64 0, .int .i64 0]), 3, 32) := by kernel_rfl
structure ScrSt (w : World) (rl : List Rl) (vr : Value) (fl : List Fl) (vf : Value) (W : World) : Prop where
 r : W.ownsRow w.heap.size 39 3 vr rl.length (cellsOf encRl rl)
 f : W.ownsRow w.heap.size 55 3 vf fl.length (cellsOf encFl fl)
 ir : InOff 4 encTm Rl.tms W W.heap.size vr.ownBlock rl
 fr : InOff 4 encTm Rl.tms W W.heap.size vf.ownBlock rl
 ap : ∀ g, vr.ownBlock = some g → vf.ownBlock ≠ some g
 low : Below w.heap.size w W
 ge : ∀ y ∈ rl, ∀ a, y.tms.A = some a → w.heap.size ≤ a.block
theorem ScrSt.start (w : World) : ScrSt w [] (.slice none 0 0) [] (.slice none 0 0) w := ⟨World.ownsRow_nil _ _ _ _, World.ownsRow_nil _ _ _ _, InOff.nil, InOff.nil, (fun _ h => by cases h), Below.refl _ _, (fun _ h => by cases h)⟩
theorem ScrSt.go {w W W' : World} {rl : List Rl} {fl : List Fl} {vr vf : Value} (h : ScrSt w rl vr fl vf W) (hb : Below W.heap.size W W') : ScrSt w rl vr fl vf W' :=
 ⟨own_below2 h.r hb, own_below2 h.f hb, (h.ir.keep hb).up hb.size, (h.fr.keep hb).up hb.size, h.ap, bt h.low hb, h.ge⟩
theorem own_apart {W W' : World} {base kk n : Nat} {T : TypeId} {v : Value} {xs : List Value} {row : Option Nat} (h : W.ownsRow base T kk v n xs) (hg : W.grownBy W' row) (ha : ∀ g, row = some g → v.ownBlock ≠ some g) : W'.ownsRow base T kk v n xs :=
 h.kept hg (by
  cases hv : v.ownBlock with
  | none => exact Or.inl rfl
  | some g => right; intro e; exact ha g (by first | exact e | exact e.symm) hv)
theorem InOff.with {W W' : World} {B B' : Nat} {row row' : Option Nat} {ls : List Rl} (h : InOff 4 encTm Rl.tms W B row ls) (k : InOff 4 encTm Rl.tms W' B' row' ls) (hB : B' ≤ B) : InOff 4 encTm Rl.tms W' B row ls := fun y hy => ⟨((k y hy).at_).up hB, (h y hy).off⟩
theorem ScrSt.pushR {w W w9 : World} {rl : List Rl} {fl : List Fl} {vr vf : Value} {y : Rl} {W1 : World} {g2 c : Nat} (h : ScrSt w rl vr fl vf W) (hb : Below W.heap.size W W1) (hy : RowAt W W.heap.size y.tms.A 4 y.tms.l.length (cellsOf encTm y.tms.l)) (hyr : ∀ a, y.tms.A = some a → w.heap.size ≤ a.block ∧ vr.ownBlock ≠ some a.block ∧ vf.ownBlock ≠ some a.block)
 (hown : w9.ownsRow w.heap.size 39 3 (.slice (some ⟨g2, 0, none⟩) (rl.length + 1) c) (rl.length + 1) (cellsOf encRl rl ++ encRl y)) (hg : W1.grownBy w9 vr.ownBlock) (hat : vr.ownBlock = some g2 ∨ g2 = W1.heap.size) :
 ScrSt w (rl ++ [y]) (.slice (some ⟨g2, 0, none⟩) (rl.length + 1) c) fl vf w9 := by
 have h1 : InOff 4 encTm Rl.tms W W.heap.size vr.ownBlock (rl ++ [y]) := h.ir.snoc ⟨hy, fun _ a e e2 => (hyr a e).2.1 e2.symm⟩
 have h2 : InOff 4 encTm Rl.tms W W.heap.size vf.ownBlock (rl ++ [y]) := h.fr.snoc ⟨hy, fun _ a e e2 => (hyr a e).2.2 e2.symm⟩
 have h3 := h1.keep hb
 have hs := hb.size
 have h4 := h3.moved (row' := some g2) hs hg (by
  rcases hat with e | e
  · exact Or.inl e.symm
  · right; intro g eg; injection eg with eg; omega)
 have hs9 := hg.size
 refine ⟨own_snoc hown, own_apart (own_below2 h.f hb) hg (fun g e => h.ap g e), h4.up (by omega), (h2.with h4 (Nat.le_refl _)).up (by omega), fun g e => ?_, (bt h.low hb).grown hg (bt h.low hb).size (fun j e => (h.r.lt j e).1), fun z hz a e => by
  rcases List.mem_append.1 hz with hz | hz
  · exact h.ge z hz a e
  · obtain rfl := List.mem_singleton.1 hz; exact (hyr a e).1⟩
 have e : g2 = g := by simpa [Value.ownBlock] using e
 subst e
 rcases hat with e | e
 · exact h.ap g2 e
 · intro e2
   have := (h.f.lt g2 e2).2
   omega
theorem ScrSt.pushF {w W w9 : World} {rl : List Rl} {fl : List Fl} {vr vf : Value} {y : Fl} {W1 : World} {g2 c : Nat} (h : ScrSt w rl vr fl vf W) (hb : Below W.heap.size W W1)
 (hown : w9.ownsRow w.heap.size 55 3 (.slice (some ⟨g2, 0, none⟩) (fl.length + 1) c) (fl.length + 1) (cellsOf encFl fl ++ encFl y)) (hg : W1.grownBy w9 vf.ownBlock) (hat : vf.ownBlock = some g2 ∨ g2 = W1.heap.size) :
 ScrSt w rl vr (fl ++ [y]) (.slice (some ⟨g2, 0, none⟩) (fl.length + 1) c) w9 := by
 have h3 := h.fr.keep hb
 have hs := hb.size
 have h4 := h3.moved (row' := some g2) hs hg (by
  rcases hat with e | e
  · exact Or.inl e.symm
  · right; intro g eg; injection eg with eg; omega)
 have hs9 := hg.size
 refine ⟨own_apart (own_below2 h.r hb) hg (fun g e e2 => h.ap g e2 e), own_snoc hown, (h.ir.with h4 (Nat.le_refl _)).up (by omega), h4.up (by omega), fun g e e2 => ?_, (bt h.low hb).grown hg (bt h.low hb).size (fun j e => (h.f.lt j e).1), h.ge⟩
 have e2 : g2 = g := by simpa [Value.ownBlock] using e2
 subst e2
 rcases hat with e3 | e3
 · exact h.ap g2 e e3
 · have := (h.r.lt g2 e).2
   omega
theorem ScrSt.base {w w0 W : World} {rl : List Rl} {fl : List Fl} {vr vf : Value} (h : ScrSt w0 rl vr fl vf W) (hb : Below w.heap.size w w0) : ScrSt w rl vr fl vf W :=
 ⟨World.ownsRow.mono h.r hb.size, World.ownsRow.mono h.f hb.size, h.ir, h.fr, h.ap, bt hb h.low, fun y hy a e => Nat.le_trans hb.size (h.ge y hy a e)⟩
end Go.Proofs.YtibflgfhjfcifaaGreatDoor
