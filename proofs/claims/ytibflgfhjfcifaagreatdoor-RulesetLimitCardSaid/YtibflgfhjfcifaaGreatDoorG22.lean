/-
  A list of lists, each in a row of its own: one more row appended; read as directories.
  Contract of coldplugworld's Dirs: some directories of few files.
-/
import Derived.Test.YtibflgfhjfcifaaGreatDoorG44
import Derived.Test.YtibflgfhjfcifaaGreatDoorG20
import Derived.Test.YtibflgfhjfcifaaGreatDoorG21
namespace Go.Proofs.YtibflgfhjfcifaaGreatDoor
open Go.RowKit
theorem own_base {w : World} {base base' kk n : Nat} {e : TypeId} {v : Value} {xs : List Value} (h : w.ownsRow base' e kk v n xs) (hb : base ≤ base') : w.ownsRow base e kk v n xs := by
 refine ⟨h.1, ?_⟩
 rcases h.2 with h1 | ⟨g, cap, cur, h1, h2, h3⟩
 · exact Or.inl h1
 · exact Or.inr ⟨g, cap, cur, h1, Nat.le_trans hb h2, h3⟩
section
variable {α : Type} {TO TI : TypeId} {k : Nat} {enc : α → List Value} {w w' : World} {base : Nat} {v : Value} {vs : List Value} {ls : List (List α)}
theorem NstV.nil : NstV TO TI k enc w base (.slice none 0 0) [] ([] : List (List α)) :=
 ⟨rfl, World.ownsRow_nil _ _ _ _, fun i x l hx => by simp at hx, fun i x g hx => by simp at hx, fun i j x y g _ hx => by simp at hx⟩
theorem NstV.push (h : NstV TO TI k enc w base v vs ls) {x v' : Value} {l : List α} (hx : w.ownsRow base TI k x l.length (cellsOf enc l)) (hxo : ∀ g, x.ownBlock = some g → v.ownBlock ≠ some g ∧ ∀ y ∈ vs, y.ownBlock ≠ some g)
 {g2 : Nat} (hv' : v'.ownBlock = some g2) (hown : w'.ownsRow base TO 1 v' (vs.length + 1) (vs ++ [x])) (hg : w.grownBy w' v.ownBlock) (hat : v.ownBlock = some g2 ∨ w.heap.size ≤ g2) :
 NstV TO TI k enc w' base v' (vs ++ [x]) (ls ++ [l]) := by
 have hold : ∀ (i : Nat) (y : Value), (vs ++ [x])[i]? = some y → (i < vs.length ∧ vs[i]? = some y) ∨ (i = vs.length ∧ y = x) := fun i y hy => by
  rcases Nat.lt_or_ge i vs.length with hi | hi
  · left; rw [List.getElem?_append_left hi] at hy; exact ⟨hi, hy⟩
  · right
    rw [List.getElem?_append_right hi] at hy
    have : i - vs.length = 0 := by
     have := (List.getElem?_eq_some_iff.1 hy).1
     simpa using this
    rw [this] at hy
    exact ⟨by omega, by simpa using hy.symm⟩
 refine ⟨by simp [h.len], by rw [List.length_append, List.length_singleton]; exact hown, fun i y l' hy hl => ?_, fun i y g hy hg' => ?_, fun i j y z g hij hy hz hgy => ?_⟩
 · rcases hold i y hy with ⟨hi, hy⟩ | ⟨hi, rfl⟩
   · rw [List.getElem?_append_left (by rw [← h.len]; exact hi)] at hl
     refine (h.inner i y l' hy hl).kept hg ?_
     cases hv : y.ownBlock with
     | none => exact Or.inl rfl
     | some g => right; intro e; exact h.off i y g hy hv e.symm
   · rw [hi, h.len, List.getElem?_append_right (Nat.le_refl _), Nat.sub_self] at hl
     obtain rfl : l = l' := by simpa using hl
     refine hx.kept hg ?_
     cases hv : y.ownBlock with
     | none => exact Or.inl rfl
     | some g => right; intro e; exact (hxo g hv).1 e.symm
 · rw [hv']
   intro e
   have e : g2 = g := by simpa using e
   subst e
   rcases hold i y hy with ⟨hi, hy⟩ | ⟨_, rfl⟩
   · rcases hat with hat | hat
     · exact h.off i y g2 hy hg' hat
     · have := (h.lt hy hg').2; omega
   · rcases hat with hat | hat
     · exact (hxo g2 hg').1 hat
     · have := (hx.lt g2 hg').2; omega
 · rcases hold i y hy with ⟨hi, hy2⟩ | ⟨hi, hyx⟩
   · rcases hold j z hz with ⟨hj, hz2⟩ | ⟨_, hzx⟩
     · exact h.apart i j y z g hij hy2 hz2 hgy
     · rw [hzx]
       intro e
       exact (hxo g e).2 y (List.mem_of_getElem? hy2) hgy
   · rcases hold j z hz with ⟨hj, hz2⟩ | ⟨hj, _⟩
     · rw [hyx] at hgy
       exact (hxo g hgy).2 z (List.mem_of_getElem? hz2)
     · omega
end
theorem NstV.dirs {TO TI : TypeId} {w : World} {base : Nat} {v : Value} {vs : List Value} {ls : List (List At)} (h : NstV TO TI 2 encAt w base v vs ls) :
 ∃ (A : Option Addr) (c : Nat) (ds : List (Ls At)), v = .slice A ds.length c ∧ lsOf ds = ls ∧ vs = ds.map Ls.v ∧ DirsAt w A ds ∧ ds.length ≤ c := by
 have hds : ∃ ds : List (Ls At), vs = ds.map Ls.v ∧ lsOf ds = ls ∧ (∀ d ∈ ds, w.ownsRow base TI 2 d.v d.l.length (cellsOf encAt d.l) ∧ d.l.length ≤ d.c) := by
  have hl := h.len
  have hi := h.inner
  clear h
  induction vs generalizing ls with
  | nil =>
    have : ls = [] := List.length_eq_zero_iff.1 (by rw [← hl]; rfl)
    subst this
    exact ⟨[], rfl, rfl, fun _ h => by cases h⟩
  | cons x vs ih =>
    cases ls with
    | nil => simp at hl
    | cons l ls =>
      obtain ⟨ds, e1, e2, e3⟩ := ih (ls := ls) (by simpa using hl) (fun i y l' hy hl' => hi (i + 1) y l' (by simpa using hy) (by simpa using hl'))
      have h0 := hi 0 x l rfl rfl
      have hA : ∃ A c, x = .slice A l.length c ∧ l.length ≤ c := by
       rcases h0.2 with ⟨h1, h2⟩ | ⟨g', cap, cur, h1, _, _, hr, _⟩
       · exact ⟨_, _, by rw [h2]; exact h1, by omega⟩
       · exact ⟨_, _, h1, hr⟩
      obtain ⟨A, c, rfl, hc⟩ := hA
      refine ⟨⟨A, c, l⟩ :: ds, by rw [List.map_cons, ← e1]; rfl, by rw [← e2]; rfl, fun d hd => ?_⟩
      rcases List.mem_cons.1 hd with rfl | hd
      · exact ⟨h0, hc⟩
      · exact e3 d hd
 obtain ⟨ds, rfl, e2, e3⟩ := hds
 have ho := h.outer
 rw [List.length_map] at ho
 have hA : ∃ A c, v = .slice A ds.length c ∧ ds.length ≤ c := by
  rcases ho.2 with ⟨h1, h2⟩ | ⟨g', cap, cur, h1, _, _, hr, _⟩
  · exact ⟨_, _, by rw [h2]; exact h1, by omega⟩
  · exact ⟨_, _, h1, hr⟩
 obtain ⟨A, c, rfl, hc⟩ := hA
 exact ⟨A, c, ds, rfl, e2, rfl, ⟨RowAt.of_own ho, fun d hd => RowAt.of_own (e3 d hd).1, fun d hd => (e3 d hd).2⟩, hc⟩
theorem gD {a W : World} {row : Option Nat} (h : a.grownBy W row) : a.grownBy W.drew row := h.trans ⟨rfl, rfl, rfl, Nat.le_refl _, fun _ _ _ => rfl⟩
theorem gA {a W : World} {row : Option Nat} {o : Obj} (h : a.grownBy W row) : a.grownBy (W.alloc o) row := h.trans (World.grownBy_alloc W o row)
end Go.Proofs.YtibflgfhjfcifaaGreatDoor
namespace Go.Proofs.YtibflgfhjfcifaaGreatDoor
open Go.RowKit
def fileN : List Str := [[53, 48, 45, 98, 46, 114, 117, 108, 101, 115], [49, 48, 45, 97, 46, 114, 117, 108, 101, 115], [57, 48, 45, 99, 46, 114, 117, 108, 101, 115]]
def nmI (i : Nat) : ByteArray := bs (fileN.getD i [])
abbrev DirsV := NstV (α := At) 40 42 2 encAt
def SubOk (l : List At) (i : Nat) : Prop := (l.map nm).Sublist (fileN.take i) ∧ ∀ x ∈ l, x.val.size ≤ 6000
def MadeD (ls : List (List At)) : Prop := ∀ l ∈ ls, SubOk l 3
def SomeDirs (w0 : World) (b n p d : Nat) (w : World) (e : Ending) (w' : World) : Prop := ∃ v vs ls, e = .returned v ∧ 1 ≤ ls.length ∧ ls.length ≤ 2 ∧ DirsV w' w.heap.size v vs ls ∧ MadeD ls ∧ TNx w0 b n p d w w'
theorem sub_step {l : List At} {i : Nat} {x : At} (h : SubOk l i) (hi : i < 3) (hx : x.name = nmI i) (hv : x.val.size ≤ 6000) : SubOk (l ++ [x]) (i + 1) := by
 have hl : i < fileN.length := hi
 unfold SubOk
 rw [List.take_succ_eq_append_getElem hl, List.map_append]
 refine ⟨h.1.append ?_, fun y hy => ?_⟩
 · have : nm x = fileN[i] := by
    unfold nm
    rw [hx, nmI, L_bs, List.getD, List.getElem?_eq_getElem hl]; rfl
   simp [this]
 · rcases List.mem_append.1 hy with hy | hy
   · exact h.2 y hy
   · obtain rfl := List.mem_singleton.1 hy; exact hv
theorem sub_more {l : List At} {i : Nat} (h : SubOk l i) : SubOk l (i + 1) := ⟨h.1.trans (List.take_sublist_take_left (by omega)), h.2⟩
theorem sub_len {l : List At} {i : Nat} (h : SubOk l i) : l.length ≤ i := by
 have := h.1.length_le
 rw [List.length_map, List.length_take] at this
 omega
theorem names_cells {W : World} {g : Nat} {T : TypeId} (h : W.heap[g]? = some (.cells #[.string ⟨#[53, 48, 45, 98, 46, 114, 117, 108, 101, 115]⟩, .string ⟨#[49, 48, 45, 97, 46, 114, 117, 108, 101, 115]⟩, .string ⟨#[57, 48, 45, 99, 46, 114, 117, 108, 101, 115]⟩] T (0, 0))) (i : Nat) (hi : i < 3) : W.cell? ⟨g, i, none⟩ = some (.string (nmI i)) := by
 rw [cell_of_row _ _ i _ _ _ h]
 rcases (by omega : i = 0 ∨ i = 1 ∨ i = 2) with rfl | rfl | rfl <;> rfl
theorem dirInfo : (Tryz.prog.info? 40).map (fun i => (i.zero, i.size, i.bytes)) = some (some (.slice none 0 0), 1, 24) := by kernel_rfl
abbrev FRow := TRow (α := At) 42 2 encAt
set_option maxRecDepth 100000 in
set_option maxHeartbeats 4000000 in
theorem Dirs_any {w0 w : World} {b n p d : Nat} (h : TSt w0 b n p d w) (hE : Env0 w) (hb : nG ≤ b) (h3 : p + d ≤ 70000) :
 Calls Tryz.prog 17 #[.pointer (some ⟨b, 0, none⟩)] w (SomeDirs w0 b n p (d + 4000) w) := by
 have H := Lib.hid h
 have HE := Lib.hid hE
 have hlt := h.lt
 have hws := h.size
 clear h hE
 obtain ⟨i0, hi0, hz0, hz1, hz2⟩ := info_parts fileInfo
 have Hi0 := Lib.hid hi0
 have Hz0 := Lib.hid hz0
 have Hz1 := Lib.hid hz1
 have Hz2 := Lib.hid hz2
 obtain ⟨j0, hj0, hy0, hy1, hy2⟩ := info_parts dirInfo
 have Hj0 := Lib.hid hj0
 have Hy0 := Lib.hid hy0
 have Hy1 := Lib.hid hy1
 have Hy2 := Lib.hid hy2
 clear hi0 hz0 hz1 hz2 hj0 hy0 hy1 hy2
 go_enter Tryz.func17, Tryz.ntmps17
 go_wp2_with fail
 (with_reducible refine (Next_t (n := n) (p := p) _ H.out (by omega) (by omega) (by omega)).mono ?_)
 rintro e w1 ⟨r, r0, r1, rfl, hT1⟩
 obtain ⟨rn, rfl⟩ := Int.eq_ofNat_of_zero_le r0
 have hrn : rn ≤ 1 := by omega
 have HT1 := Lib.hid hT1
 clear hT1 r0 r1 H
 go_wp2
 go_loopg [3, 4] 4 (fun gk s3 s4 wr => ∃ (k : Nat) (v : Value) (vs : List Value) (ls : List (List At)) (D : Nat), v = s3 ∧ s4 = .int .i64 k ∧ k + 1 ≤ gk ∧ k ≤ 2 ∧ ls.length + k ≤ 2 ∧ 1 ≤ ls.length + k ∧ D + 1600 * k ≤ d + 3201 ∧ Hid (DirsV wr w.heap.size v vs ls) ∧ Hid (MadeD ls) ∧ Hid (TNx w0 b n p D w wr))
 case atStart => exact ⟨1 + rn, _, [], [], d + 1, rfl, by rw [show ((1 + rn : Nat) : Int) = 1 + (rn : Int) from by omega], by omega, by omega, by simp; omega, by simp, by omega, NstV.nil, (fun l hl => by cases hl), HT1.out⟩
 case round =>
  obtain ⟨k, v, vs, ls, D, rfl, rfl, hkg, hk2, hlk, hlk1, hD, hN, hMd, hT⟩ := hrel
  have hwr := hT.out.gr.size
  by_cases hk : 0 < k
  · have hkI : (0 : Int) < (k : Int) := by omega
    go_wp2
    obtain ⟨wn, hwn⟩ : ∃ wn, wr.alloc (.cells #[.string ⟨#[53, 48, 45, 98, 46, 114, 117, 108, 101, 115]⟩, .string ⟨#[49, 48, 45, 97, 46, 114, 117, 108, 101, 115]⟩, .string ⟨#[57, 48, 45, 99, 46, 114, 117, 108, 101, 115]⟩] 9) = wn := ⟨_, rfl⟩
    rw [hwn]
    have HNc : Hid (∀ i, i < 3 → ∀ W, wn.grownBy W (some b) → W.cell? ⟨wr.heap.size, i, none⟩ = some (.string (nmI i))) := Lib.hid fun i hi W hg => by
     refine names_cells (T := 9) ?_ i hi
     rw [hg.block wr.heap.size (by rw [← hwn]; simp) (by intro e; have := Option.some.inj e; omega), ← hwn]
     exact heap_alloc_new wr _
    have HTn := Lib.hid (show TNx w0 b n p D w wn by rw [← hwn]; exact hT.out.allocR)
    have hN2 := Lib.hid (show DirsV wn w.heap.size v vs ls by rw [← hwn]; exact hN.out.below (below_alloc _ _))
    have hwz : wn.heap.size = wr.heap.size + 1 := by rw [← hwn]; simp
    have hwnl : w.heap.size ≤ wn.heap.size := by omega
    have HWz := Lib.hid hwz
    clear hwn hN hT hwz
    obtain ⟨gko, rfl⟩ : ∃ gko : Nat, gko = gk := ⟨_, rfl⟩
    obtain ⟨B, hB⟩ : ∃ B, wr.heap.size = B := ⟨_, rfl⟩
    rw [hB] at HNc HWz ⊢
    clear hB hwr
    go_loopg [5, 7] 4 (fun gk s5 s7 wr => ∃ (i : Nat) (u : Value) (l : List At) (E : Nat), u = s5 ∧ s7 = .int .i64 i ∧ i + gk = 4 ∧ i ≤ 3 ∧ E ≤ D + 520 * i ∧ Hid (SubOk l i) ∧ Hid (FRow w0 b n p E wn u l wr))
    case atStart => exact ⟨0, _, [], D, rfl, rfl, by omega, by omega, by omega, ⟨List.nil_sublist _, fun _ h => by cases h⟩, TRow.start HTn.out.st⟩
    case round =>
     obtain ⟨i, u, l, E, rfl, rfl, hig, hi3, hEi, hSb, hR⟩ := hrel
     have hll := sub_len hSb.out
     by_cases hi : i < 3
     · have hiI : (i : Int) < 3 := by omega
       go_wp2_with fail
       (with_reducible refine (Next_t (n := n) (p := p) _ hR.out.nx.st (by omega) (by omega) (by omega)).mono ?_)
       rintro e w2 ⟨r2, r0, r1, rfl, hT2⟩
       have HR2 := Lib.hid (hR.out.go hT2)
       have hw2 := HR2.out.nx.gr.size
       have HTx := Lib.hid (HTn.out.trans HR2.out.nx)
       clear hT2 hR
       have hnc := HNc.out i hi w2 HR2.out.nx.gr
       have hr2 : r2 = 0 ∨ r2 = 1 ∨ r2 = 2 ∨ r2 = 3 := by omega
       clear r0 r1
       rcases hr2 with rfl | hr2
       · go_wp2_with (refine wpList_append_lies _ rfl _ _ _ (by rfl) wn.heap.size 42 i0 _ 2 32 Tryz.underlying40 Hi0.out Hz0.out Hz1.out Hz2.out rfl (by omega) u l.length (cellsOf encAt l) (by rfl) (HR2.out.alloc _).own _ 1 1 (encAt ⟨nmI i, ⟨#[]⟩⟩) (by rfl) (by rfl) (by exact World.news_of_block (B := w2.heap.size) (heap_alloc_new _ _)) (encAt_one _) (by omega) (by unfold maxLen; omega) (by omega) (by simp; omega) _ rfl ?_; intro g2 cap w9 hown2 hgrow2 hat2 hlt2)
         have HR3 := Lib.hid ((HR2.out.alloc _).snoc (t := ⟨nmI i, ⟨#[]⟩⟩) hown2 hgrow2)
         have HS3 := Lib.hid (sub_step (x := ⟨nmI i, ⟨#[]⟩⟩) hSb.out hi rfl (Nat.zero_le _))
         clear hown2 hgrow2 hat2 hlt2
         go_wp2
         go_roundg (gk - 1)
         case measure => omega
         case rel => exact ⟨i + 1, _, _, _, rfl, by go_num, by omega, by omega, by omega, HS3.out, HR3.out⟩
       rcases hr2 with hr2 | hr2 | rfl
       iterate 2
        · subst hr2
          have HR2d := Lib.hid (HR2.out.below (Below.refl _ _).drew)
          have HEd := Lib.hid (HE.out.nx HTx.out.drewR hb)
          have hw2d := HR2d.out.nx.gr.size
          go_wp2
          go_region_held3 (fun W' => W'.cell? ⟨B, i, none⟩ = some (.string (nmI i))) ((refine HNc.out i hi _ ?_; repeat (first | exact HG9.out | exact HR3.out.nx.gr | exact HR2.out.nx.gr | refine gD ?_ | refine gA ?_))) ((first
           | (go_at_call 39; (with_reducible refine (WText_any (n := n) (p := p) HR2d.out.nx.st HEd.out hb (by omega)).mono ?_); rintro e w3 ⟨s, hs, rfl, hT3⟩; have HR3 := Lib.hid (HR2d.out.go hT3); have hw3 := HR3.out.nx.gr.size; clear hT3)
           | (refine step_append_lies _ (by rfl) _ _ _ (by rfl) wn.heap.size 42 i0 _ 2 32 Tryz.underlying40 Hi0.out Hz0.out Hz1.out Hz2.out rfl (by omega) u l.length (cellsOf encAt l) (by rfl) (HR3.out.alloc _).own _ 1 1 (encAt ⟨nmI i, s⟩) (by rfl) (by rfl) (by exact World.news_of_block (B := w3.heap.size) (heap_alloc_new _ _)) (encAt_one _) (by omega) (by unfold maxLen; omega) (by omega) (by simp; omega) _ rfl ?_; intro g2 cap w9 hown2 hgrow2 hat2 hlt2; have HR4 := Lib.hid ((HR3.out.alloc _).snoc (t := ⟨nmI i, s⟩) hown2 hgrow2); have HG9 := Lib.hid HR4.out.nx.gr; clear hown2 hgrow2 hat2 hlt2)))
          have HS3 := Lib.hid (sub_step (x := ⟨nmI i, s⟩) hSb.out hi rfl hs)
          go_wp2
          go_roundg (gk - 1)
          case measure => omega
          case rel => exact ⟨i + 1, _, _, _, rfl, by go_num, by omega, by omega, by omega, HS3.out, HR4.out⟩
       · go_wp2
         go_roundg (gk - 1)
         case measure => omega
         case rel => exact ⟨i + 1, _, l, _, rfl, by go_num, by omega, by omega, by omega, sub_more hSb.out, HR2.out⟩
     · obtain rfl : i = 3 := by omega
       obtain ⟨A, c, rfl⟩ := own_slice hR.out.own
       have HNw := Lib.hid (hN2.out.other hR.out.nx.gr (fun g e => Or.inl (by have := Option.some.inj e; omega)))
       have HTw := Lib.hid (HTn.out.trans hR.out.nx)
       have HXo := Lib.hid (fun g (e : (Value.slice A l.length c).ownBlock = some g) => hN2.out.fresh (hR.out.own.lt g e).1)
       have hwrl := hR.out.nx.gr.size
       have hvl : vs.length ≤ 2 := by rw [hN2.out.len]; omega
       have hMd2 : MadeD (ls ++ [l]) := fun x hx => by
        rcases List.mem_append.1 hx with hx | hx
        · exact hMd.out x hx
        · obtain rfl := List.mem_singleton.1 hx; exact hSb.out
       have HMd2 := Lib.hid hMd2
       clear hMd2
       go_wp2_with (refine wpList_append_lies _ rfl _ _ _ (by rfl) w.heap.size 40 j0 _ 1 24 Tryz.underlying46 Hj0.out Hy0.out Hy1.out Hy2.out rfl (by omega) v vs.length vs (by rfl) (HNw.out.outer.alloc _) _ 1 1 [Value.slice A l.length c] (by rfl) (by rfl) (by exact World.news_of_block (heap_alloc_new _ _)) (by simp [Value.oneCell']) (by omega) (by unfold maxLen; omega) (by omega) (by simp; omega) _ rfl ?_; intro g2 cap w9 hown2 hgrow2 hat2 hlt2)
       have HN9 := Lib.hid ((HNw.out.below (below_alloc _ _)).push (own_base (hR.out.alloc _).own hwnl) HXo.out rfl hown2 hgrow2 (hat2.imp id (fun e => by rw [e]; exact Nat.le_refl _)))
       have HT9 := Lib.hid (HTw.out.allocR.grownR hgrow2 (fun j e => by have := (HNw.out.outer.lt j e).1; exact ⟨by omega, this⟩))
       clear hown2 hgrow2 hat2 hlt2
       go_wp2
       go_roundg (gko - 1)
       case measure => omega
       case rel => exact ⟨k - 1, _, _, _, _, rfl, by rw [show ((k - 1 : Nat) : Int) = (k : Int) - 1 from by omega], by omega, by omega, by simp; omega, by simp; omega, by omega, HN9.out, HMd2.out, HT9.out⟩
  · obtain rfl : k = 0 := by omega
    go_wp2
    go_ret
    exact ⟨_, vs, ls, rfl, by omega, by omega, hN.out, hMd.out, hT.out.more (by omega)⟩
end Go.Proofs.YtibflgfhjfcifaaGreatDoor
