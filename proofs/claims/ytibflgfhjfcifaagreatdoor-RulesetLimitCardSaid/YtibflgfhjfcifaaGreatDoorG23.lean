/-
  slices.Backward at a row of files: its iterator, for every loop body that keeps the row and the box.
  Maps from names to texts, as data: built one entry after the other; no program in sight.
  Contract of the program's texts: a map from names to texts, of several files with one name the first one's.
  Contract of the program's Check of directories.
-/
import Derived.Test.YtibflgfhjfcifaaGreatDoorG20
import Derived.RangeFuncNested
import Derived.RangeFuncBound
import Derived.RangeFuncCalls
import Derived.RangeFuncLeaves
import Derived.RangeFuncWrites
import Derived.Shelf.Abstract
import Derived.Shelf.RegionOpen
import Derived.OwnWalkIn
import Derived.TacticsInMore
import Derived.LoopNIn
import Derived.LoopIn
import Derived.Maps.OwnIn
import Derived.Maps.Views
import Derived.Maps.Own
import Derived.Maps.OwnSet
import Derived.Maps.StringElems
import Derived.StringKeys
import Derived.Test.YtibflgfhjfcifaaGreatDoorG21
import Derived.Test.YtibflgfhjfcifaaGreatDoorG00
namespace Go.Proofs.YtibflgfhjfcifaaGreatDoor
open Go.RowKit Go.Shelf
attribute [local go_sem] Oper.semAt_some
abbrev BkF := { x : Nat × At // x.2.name.size ≤ maxLen ∧ x.2.val.size ≤ maxLen }
abbrev encBk (x : BkF) : Array Value := #[.int .i64 (x.1.1 : Int), .agg #[.string x.1.2.name, .string x.1.2.val]]
def KpB (n₀ Bs : Nat) (W W' : World) : Prop := Below n₀ W W' ∧ W'.heap[Bs]? = W.heap[Bs]?
theorem KpB.t {n₀ Bs : Nat} {A B C : World} (h : KpB n₀ Bs A B) (k : KpB n₀ Bs B C) : KpB n₀ Bs A C := ⟨h.1.trans k.1, k.2.trans h.2⟩
theorem KpB.b {n₀ Bs : Nat} {w : World} (hn : n₀ ≤ w.heap.size) (hb : Bs < w.heap.size) (W : World) (l : Nat) (o o' : Obj) (hl : w.heap.size ≤ l) (h : W.heap[l]? = some o) (hc : o.isCells = false) (hw : o.isWalk = false) : KpB n₀ Bs W (W.putObj l o') :=
 ⟨belowK_b hn W l o o' hl h hc hw, World.putObj_heap_other (by omega)⟩
structure BackRow (w : World) (n₀ : Nat) (A : Option Addr) (ys : List BkF) : Prop where
 at_ : ∀ (j : Nat) (y : BkF), ys[j]? = some y → y.1.1 + 1 + j = ys.length ∧ ∃ b off, A = some ⟨b, off, none⟩ ∧ b < n₀ ∧ w.cell? ⟨b, off + y.1.1 * 2, none⟩ = some (.string y.1.2.name) ∧ w.cell? ⟨b, off + y.1.1 * 2 + 1, none⟩ = some (.string y.1.2.val)
theorem BackRow.below {w w' : World} {n₀ : Nat} {A : Option Addr} {ys : List BkF} (h : BackRow w n₀ A ys) (hb : Below n₀ w w') : BackRow w' n₀ A ys := ⟨fun j y hy => by
 obtain ⟨h1, b, off, e, hbn, c0, c1⟩ := h.at_ j y hy
 exact ⟨h1, b, off, e, hbn, (hb.cell (p := ⟨b, off + y.1.1 * 2, none⟩) hbn).trans c0, (hb.cell (p := ⟨b, off + y.1.1 * 2 + 1, none⟩) hbn).trans c1⟩⟩
set_option maxRecDepth 100000 in
set_option maxHeartbeats 2000000 in
theorem back1_in (F : Fence) (n : Nat) (h8 : F.fn 159) (hro : F.round = none) (hn : 1 ≤ n) (l Bs n₀ : Nat) (A : Option Addr) (cap : Nat) (ys : List BkF) (hlen : ys.length ≤ 1000000000) (J Jx : List BkF → World → Prop)
 (hY : ∀ pre x W, J pre W → pre.length < ys.length → YieldAt F (n - 1) Tryz.prog l (encBk x) W fun e W' =>
  (e = .returned (.bool true) ∧ J (pre ++ [x]) W' ∧ KpB n₀ Bs W W') ∨ (e = .returned (.bool false) ∧ Jx (pre ++ [x]) W'))
 (W : World) (hBs : W.cell? ⟨Bs, 0, none⟩ = some (.slice A ys.length cap)) (hr : BackRow W n₀ A ys) (h0 : J [] W) :
 CallsIn F n Tryz.prog 159 #[.func (.yield l) #[] #[], .pointer (some ⟨Bs, 0, none⟩)] W fun e W' => (∃ v, e = .returned v) ∧
  ((∃ xs, xs = ys ∧ J xs W') ∨ (∃ pre, (∃ k, k ≤ ys.length ∧ pre = ys.take k) ∧ Jx pre W')) := by
 refine callsIn_of_wp Tryz.func159 rfl h8 ?_ hro
 have HR := Lib.hid hr
 have HY := Lib.hid hY
 have H0 := Lib.hid h0
 have HB := Lib.hid (fun W' (h : KpB n₀ Bs W W') => (World.cell?_of_block (a := ⟨Bs, 0, none⟩) h.2).trans hBs)
 clear hr hY h0
 generalize hN : ys.length = N at *
 have HN := Lib.hid hN
 clear hN
 simp only [Tryz.ntmps159, List.size_toArray, List.length_cons, List.length_nil, Nat.reduceAdd, Nat.reduceSub, Array.replicate_succ, Array.replicate_zero, List.push_toArray, List.append_toArray, List.nil_append, List.cons_append]
 gi_wp2
 gi_loopw [3] (fun i wr => ∃ m : Nat, m ≤ N ∧ i = .int .i64 ((m : Int) - 1) ∧ Hid (J (ys.take (N - m)) wr) ∧ Hid (KpB n₀ Bs W wr)) (fun i _ => (intOf i + 1).toNat)
 case atStart => exact ⟨N, Nat.le_refl _, rfl, by rw [Nat.sub_self]; exact H0.out, Below.refl _ _, rfl⟩
 case round =>
  obtain ⟨m, hm, rfl, hJ, hK⟩ := hrel
  cases m with
  | zero =>
    gi_wp2
    go_end0
    refine ⟨⟨_, rfl⟩, .inl ⟨_, rfl, ?_⟩⟩
    have := hJ.out
    rw [Nat.sub_zero, List.take_of_length_le (by rw [HN.out]; exact Nat.le_refl _)] at this
    exact this
  | succ j =>
    have hji : ((j + 1 : Nat) : Int) - 1 = (j : Int) := by omega
    rw [hji]
    have hjN : (j : Int) < (N : Int) := by omega
    obtain ⟨y, hy⟩ : ∃ y, ys[N - (j + 1)]? = some y := ⟨_, List.getElem?_eq_getElem (by rw [HN.out]; omega)⟩
    obtain ⟨hyj, b, off, rfl, hb, c0, c1⟩ := (HR.out.below hK.out.1).at_ _ y hy
    have cB := HB.out _ hK.out
    have HT : Hid (ys.take (N - j) = ys.take (N - (j + 1)) ++ [y]) := Lib.hid (by
     rw [show N - j = N - (j + 1) + 1 from by omega, List.take_add_one, hy]; rfl)
    have hlt : (ys.take (N - (j + 1))).length < N := by rw [List.length_take, HN.out]; omega
    obtain ⟨fn, tmps, assign, body, hyy, hRr⟩ := HY.out _ y _ hJ.out hlt
    obtain ⟨⟨j', x⟩, hx⟩ := y
    have : j' = j := by dsimp only at hyj; rw [HN.out] at hyj; omega
    subst this
    dsimp only at hyy c0 c1
    clear hy hyj hlt hji
    gi_wp2
    refine hRr.mono ?_
    rintro e W3 (⟨rfl, hJ3, hk3⟩ | ⟨rfl, hJx3⟩)
    · have HJ3 := Lib.hid hJ3
      have HK3 := Lib.hid (hK.out.t hk3)
      clear hJ3 hk3
      gi_wp2
      go_roundw
      case rel => exact ⟨j', by omega, rfl, by rw [HT.out]; exact HJ3.out, HK3.out⟩
      case measure => simp [intOf]
    · gi_wp2
      refine bodyPost_ret (results_none rfl _ _ _) rfl ?_
      exact ⟨⟨_, rfl⟩, .inr ⟨_, ⟨N - j', by omega, by rw [HT.out]⟩, hJx3⟩⟩
end Go.Proofs.YtibflgfhjfcifaaGreatDoor
namespace Go.Proofs.YtibflgfhjfcifaaGreatDoor
open Go.RowKit Go.Maps
abbrev DW := DataW Unit
abbrev kN (x : At) : Lit := .string (nm x)
abbrev vN (x : At) : DW := .lit (.string (L x.val))
def putD (D : DW) (x : At) : DW := D.put (kN x) (vN x)
def textD (l : List At) : DW := l.foldl putD (.map [])
theorem textD_snoc (l : List At) (x : At) : textD (l ++ [x]) = putD (textD l) x := by simp [textD]
theorem key_str (s : Str) : WideAt.IsKeyLit (.string s) := by first | exact trivial | simp [WideAt.IsKeyLit]
theorem kne {a b : Str} (h : a ≠ b) : (Lit.string a) ≠ Lit.string b := fun e => h (by injection e)
theorem textD_tidy (l : List At) : Tidy (textD l) := by
 suffices h : ∀ (l : List At) (D : DW), Tidy D → Tidy (l.foldl putD D) from h l _ tidy_empty
 intro l
 induction l with
 | nil => exact fun D h => h
 | cons x r ih => exact fun D h => ih _ (h.put (key_str _) _)
theorem textD_at (l : List At) (n : Str) (z : DW) : (textD l).atKey (.string n) z = match findF l.reverse n with
 | some x => vN x
 | none => z := by
 suffices h : ∀ l : List At, (textD l.reverse).atKey (.string n) z = match findF l n with
  | some x => vN x
  | none => z by have := h l.reverse; rwa [List.reverse_reverse] at this
 intro l
 induction l with
 | nil => rfl
 | cons x r ih =>
   rw [List.reverse_cons, textD_snoc]
   unfold putD
   by_cases e : nm x = n
   · subst e
     rw [atKey_put_same (textD_tidy _).isMap (key_str _)]
     simp [findF]
   · rw [atKey_put_other (kne fun h => e h.symm), ih]
     have : findF (x :: r) n = findF r n := by simp [findF, e]
     rw [this]
theorem textD_has (l : List At) (n : Str) : Maps.has (textD l) (.string n) = (findF l.reverse n).isSome := by
 cases h : findF l.reverse n with
 | some x => exact has_true_of_atKey (y := vN x) (fun z => by rw [textD_at, h])
 | none => exact has_false_of_atKey (fun z => by rw [textD_at, h])
theorem textD_size (l : List At) : Maps.size (textD l) = (namesS (l.map nm)).length := by
 suffices h : ∀ l : List At, Maps.size (textD l.reverse) = (namesS (l.reverse.map nm)).length by have := h l.reverse; rwa [List.reverse_reverse] at this
 intro l
 induction l with
 | nil => rfl
 | cons x r ih =>
   rw [List.reverse_cons, textD_snoc, putD, size_put (textD_tidy _), ih, List.map_append, show [x].map nm = [nm x] from rfl, namesS_snoc, putS_len (asc_namesS _), textD_has, List.reverse_reverse]
   by_cases hm : nm x ∈ namesS (r.reverse.map nm)
   · have h2 : (findF r (nm x)).isSome = true := by
      cases hf : findF r (nm x) with
      | some y => rfl
      | none =>
        rw [findF_none] at hf
        rw [mem_namesS] at hm
        exact absurd (by simpa using hm) hf
     rw [if_pos hm, h2]; rfl
   · have h2 : (findF r (nm x)).isSome = false := by
      cases hf : findF r (nm x) with
      | none => rfl
      | some y =>
        obtain ⟨e1, e2⟩ := findF_name hf
        exact absurd ((mem_namesS _ _).2 (by rw [← e1]; simpa using ⟨y, e2, rfl⟩)) hm
     rw [if_neg hm, h2]; rfl
def setD (ns : List Str) : DW := ns.foldl (fun D n => D.put (.string n) (.lit (.bool true))) (.map [])
theorem setD_snoc (ns : List Str) (n : Str) : setD (ns ++ [n]) = (setD ns).put (.string n) (.lit (.bool true)) := by simp [setD]
theorem setD_is (ns : List Str) : setD ns = setOf (.lit (.bool true)) (ns.map Lit.string) := by
 unfold setD setOf
 rw [List.foldl_map]
theorem setD_tidy (ns : List Str) : Tidy (setD ns) := by
 rw [setD_is]
 exact tidy_setOf _ _ (fun x hx => by obtain ⟨s, _, rfl⟩ := List.mem_map.1 hx; exact key_str s)
theorem setD_has (ns : List Str) (n : Str) : Maps.has (setD ns) (.string n) = decide (n ∈ ns) := by
 rw [setD_is, has_setOf _ _ _ (fun x hx => by obtain ⟨s, _, rfl⟩ := List.mem_map.1 hx; exact key_str s), Bool.eq_iff_iff, List.any_eq_true, decide_eq_true_eq]
 constructor
 · rintro ⟨x, hx, e⟩
   obtain ⟨s, hs, rfl⟩ := List.mem_map.1 hx
   by_cases h : s = n
   · rw [← h]; exact hs
   · rw [sameKey_ne (kne h)] at e; cases e
 · intro h
   exact ⟨_, List.mem_map.2 ⟨n, h, rfl⟩, by simp [Lit.sameKey]⟩
theorem setD_size (ns : List Str) : Maps.size (setD ns) = (namesS ns).length := by
 suffices h : ∀ l : List Str, Maps.size (setD l.reverse) = (namesS l.reverse).length by have := h ns.reverse; rwa [List.reverse_reverse] at this
 intro l
 induction l with
 | nil => rfl
 | cons x r ih =>
   rw [List.reverse_cons, setD_snoc, size_put (setD_tidy _), ih, namesS_snoc, putS_len (asc_namesS _), setD_has]
   by_cases hm : x ∈ r.reverse
   · rw [decide_eq_true hm, if_pos ((mem_namesS _ _).2 hm)]; rfl
   · rw [decide_eq_false hm, if_neg (fun h => hm ((mem_namesS _ _).1 h))]; rfl
end Go.Proofs.YtibflgfhjfcifaaGreatDoor
namespace Go.Proofs.YtibflgfhjfcifaaGreatDoor
open Go.RowKit Go.Shelf Go.Maps
attribute [local go_sem] Oper.semAt_some
def FileOk (x : At) : Prop := x.name.size ≤ maxLen ∧ x.val.size ≤ maxLen
abbrev bkAt (x : BkF) : At := x.1.2
theorem back_list (l : List At) (hz : ∀ x ∈ l, FileOk x) : ∃ ys : List BkF, ys.length = l.length ∧ ys.map bkAt = l.reverse ∧ ∀ (j : Nat) (y : BkF), ys[j]? = some y → y.1.1 + 1 + j = ys.length ∧ l[y.1.1]? = some y.1.2 := by
 refine ⟨List.ofFn (fun j : Fin l.length => ⟨(l.length - 1 - j.1, l[l.length - 1 - j.1]'(by omega)), hz _ (List.getElem_mem _)⟩), by simp, ?_, fun j y hy => ?_⟩
 · apply List.ext_getElem
   · simp
   · intro i h1 h2
     simp
 · rw [List.getElem?_ofFn] at hy
   split at hy
   · rename_i hj
     obtain rfl := Option.some.inj hy
     refine ⟨by simp; omega, ?_⟩
     exact List.getElem?_eq_getElem _
   · cases hy
theorem BackRow.of {w : World} {A : Option Addr} {l : List At} {ys : List BkF} (h : RowAt w w.heap.size A 2 l.length (cellsOf encAt l)) (hy : ∀ (j : Nat) (y : BkF), ys[j]? = some y → y.1.1 + 1 + j = ys.length ∧ l[y.1.1]? = some y.1.2) : BackRow w w.heap.size A ys :=
 ⟨fun j y h1 => by
  obtain ⟨h2, h3⟩ := hy j y h1
  obtain ⟨b, off, e, hb, hc⟩ := h.fileX h3
  exact ⟨h2, b, off, e, hb, (hc w (Below.refl _ _)).1, (hc w (Below.refl _ _)).2⟩⟩
set_option maxHeartbeats 1000000 in
theorem BackwardF_in (F : Fence) (n : Nat) (h5 : F.fn 108) (hro : F.round = none) (a : Option Addr) (len cap : Nat) (w : World) :
 CallsIn F n Tryz.prog 108 #[.slice a len cap] w fun e w' => e = .returned (.func (.func 159) #[] #[.pointer (some ⟨w.heap.size, 0, none⟩)]) ∧ w' = w.alloc (.cells #[.slice a len cap] 40) := by
 refine callsIn_of_wp Tryz.func108 rfl h5 ?_ hro
 simp only [Tryz.ntmps108, List.size_toArray, List.length_cons, List.length_nil, Nat.reduceAdd, Nat.reduceSub, Array.replicate_succ, Array.replicate_zero, List.push_toArray, List.append_toArray, List.nil_append, List.cons_append]
 gi_wp2
 go_ret
 exact ⟨rfl, rfl⟩
theorem back_stops (F : Fence) (n : Nat) (h8 : F.fn 159) (hro : F.round = none) (hn : 1 ≤ n) (Bs n₀ : Nat) (A : Option Addr) (cap : Nat) (ys : List BkF) (hlen : ys.length ≤ 1000000000) (w : World) (hB : Bs < w.heap.size) (hn₀ : n₀ ≤ w.heap.size)
 (hc : w.cell? ⟨Bs, 0, none⟩ = some (.slice A ys.length cap)) (hr : BackRow w n₀ A ys) :
 SeqStopsK F n Tryz.prog 159 #[.pointer (some ⟨Bs, 0, none⟩)] encBk (KpB n₀ Bs) (fun xs => xs = ys) (fun pre => ∃ k, k ≤ ys.length ∧ pre = ys.take k) ys.length w := fun l J Jx W hW _ _ hY h0 =>
 back1_in F n h8 hro hn l Bs n₀ A cap ys hlen J Jx hY W ((hW.cell (p := ⟨Bs, 0, none⟩) hB).trans hc) (hr.below (hW.mono hn₀)) h0
set_option maxRecDepth 100000 in
set_option maxHeartbeats 2000000 in
theorem Texts_in (F : Fence) (n : Nat) (h3 : F.fn 69) (h4 : F.fn 108) (h5 : F.fn 159) (hro : F.round = none) (hn : 3 ≤ n) (A : Option Addr) (c : Nat) (l : List At) (w : World)
 (h : RowAt w w.heap.size A 2 l.length (cellsOf encAt l)) (hl : l.length ≤ 1000000) (hz : ∀ x ∈ l, FileOk x) :
 CallsIn F n Tryz.prog 69 #[.slice A l.length c] w fun e W' => e = .returned (.map (some w.heap.size)) ∧ W'.ownsMap Tryz.prog 9 (plainElem (H := Unit) Tryz.prog 9) w.heap.size l.length (textD l.reverse) ∧ Below w.heap.size w W' := by
 have h1 : 1 ≤ n := by omega
 have hmm := @run_makeMap Tryz.prog
 obtain ⟨ys, hyl, hym, hyj⟩ := back_list l hz
 have hbr := BackRow.of h hyj
 rw [← hyl]
 rw [← hyl] at hl
 have HYm := Lib.hid hym
 clear hym hyj h hz hyl
 refine callsIn_of_wp_marks Tryz.func69 rfl h3 ?_ hro
 simp only [Tryz.ntmps69, List.size_toArray, List.length_cons, List.length_nil, Nat.reduceAdd, Nat.reduceSub, Array.replicate_succ, Array.replicate_zero, List.push_toArray, List.append_toArray, List.nil_append, List.cons_append]
 gi_wp2_with (gi_at_call 108; refine (BackwardF_in F (n - 1) h4 hro _ _ _ _).mono ?_; rintro e w' ⟨rfl, rfl⟩)
 have hm0 := World.ownsMap_made w Tryz.prog 9 (plainElem (H := Unit) Tryz.prog 9)
 have bS := (Boxed.new (w.alloc (.map #[] 0)) 79 (.map (some w.heap.size))).alloc (.cells #[.slice A ys.length c] 40)
 have bN := Boxed.new ((w.alloc (.map #[] 0)).alloc (.cells #[.map (some w.heap.size)] 79)) 40 (.slice A ys.length c)
 simp only [World.size_alloc] at bS bN
 have hB0 : Below w.heap.size w (((w.alloc (.map #[] 0)).alloc (.cells #[.map (some w.heap.size)] 79)).alloc (.cells #[.slice A ys.length c] 40)) := (((Below.refl _ w).alloc (Nat.le_refl _) _).alloc (by simp) _).alloc (by simp; omega) _
 obtain ⟨W0, hW0⟩ : ∃ W0, ((w.alloc (.map #[] 0)).alloc (.cells #[.map (some w.heap.size)] 79)).alloc (.cells #[.slice A ys.length c] 40) = W0 := ⟨_, rfl⟩
 have hsz : W0.heap.size = w.heap.size + 3 := by rw [← hW0]; simp
 have hm1 : W0.ownsMap Tryz.prog 9 (plainElem (H := Unit) Tryz.prog 9) w.heap.size 0 (.map []) := by rw [← hW0]; exact (hm0.alloc _).alloc _
 rw [hW0] at bS bN hB0 ⊢
 refine wpIn_rangeFunc_ownH hro h1 (gf := 159) (lb := #[.pointer (some ⟨w.heap.size + 1 + 1, 0, none⟩)]) rfl h5 (enters_of Tryz.func159 (by kernel_rfl) rfl)
  (back_stops F (n - 1) h5 hro (by omega) (w.heap.size + 1 + 1) w.heap.size A c ys (by omega) W0 (by omega) (by omega) bN.cell (hbr.below hB0)) KpB.t (KpB.b (by omega) (by omega)) (Below.refl _ _) (fun _ => rfl)
  (fun (pre : List BkF) W => (W.cell? ⟨w.heap.size + 1, 0, none⟩ = some (.map (some w.heap.size)) ∧ W.ownsMap Tryz.prog 9 (plainElem (H := Unit) Tryz.prog 9) w.heap.size pre.length (textD (pre.map bkAt))) ∧ Below w.heap.size w W ∧ w.heap.size + 3 ≤ W.heap.size)
  (fun _ _ _ => False)
  (OwnFrom.and (fun s A B row hs hg hr => ⟨cell_kept hs.1 hg (fun r e => (hr r e).2), hs.2.kept hg (fun e => by have := (hr _ e.symm).1; omega)⟩) (OwnFrom.and (ownFrom_below (Nat.le_refl _) (by omega)) (fun _ _ _ _ hs hg _ => Nat.le_trans hs hg.size)))
  (fun _ _ _ _ _ hs _ _ => hs)
  ⟨⟨bS.cell, hm1⟩, hB0, by omega⟩
  (fun x a' W => ∃ Bx, w.heap.size + 3 ≤ Bx ∧ W.cell? ⟨Bx, 0, none⟩ = some (.string x.1.2.name) ∧ W.cell? ⟨Bx, 1, none⟩ = some (.string x.1.2.val) ∧ a' = { tmps := #[.slice A ys.length c, undef, .map none, .pointer (some ⟨w.heap.size + 1, 0, none⟩), undef, .pointer (some ⟨Bx, 0, none⟩), .map (some w.heap.size), .slice A ys.length c, .func (.func 159) #[] #[.pointer (some ⟨w.heap.size + 1 + 1, 0, none⟩)], .int .i64 (x.1.1 : Int), .agg #[.string x.1.2.name, .string x.1.2.val], undef, undef, undef, undef, undef, undef], defers := [] })
  ?hAx ?assign ?body ?done ?stop
 case assign =>
  rintro l pre x W K hi hK
  obtain ⟨x, hx⟩ := x
  have hi3 := hi.2.2
  gi_wp2
  exact hK _ _ ((KeepsOthers.alloc _ _).from _) ⟨(Below.refl _ _).alloc hi.2.1.size _, Below.heap_alloc _ _ _ (by omega)⟩ ⟨⟨by rw [World.cell?_of_block (Below.heap_alloc _ _ _ (by show w.heap.size + 1 < _; omega))]; exact hi.1.1, hi.1.2.alloc _⟩, hi.2.1.alloc hi.2.1.size _, by simp; omega⟩ ⟨W.heap.size, by omega, by rw [cell_of_row _ _ 0 _ _ _ (heap_alloc_new W _)]; rfl, by rw [cell_of_row _ _ 1 _ _ _ (heap_alloc_new W _)]; rfl, rfl⟩
 case body =>
  rintro l pre x a' W hl ⟨r, hr⟩ ⟨⟨hc, hown⟩, hB, hW3⟩ ⟨Bx, hBx, d0, d1, rfl⟩ hlt
  obtain ⟨⟨ix, x⟩, hx1, hx2⟩ := x
  dsimp only at hx1 hx2 d0 d1
  have hkey := WideMaps.keyOf_string_mk (P := Tryz.prog) Tryz.underlying9 hx1
  have hplt : pre.length < maxLen := by unfold maxLen; omega
  gi_wp2_with (first
   | (gi_at_mapUpdate; refine wpListIn_mapUpdate_own _ rfl _ _ _ 79 rfl 9 9 (Maps.string_keyed Tryz.underlying9) Tryz.underlying79 _ w.heap.size pre.length _ rfl hown hplt _ _ _ rfl rfl hkey _ [] (plainElem_string Tryz.underlying9 hx2) ?_; intro w1 hown1 hgrow1))
  obtain ⟨es, ck, hh, _⟩ := hown
  refine ⟨KeepsFrom.of_grownBy hgrow1 (fun j e => by cases e; omega), ⟨(Below.refl _ W).grown hgrow1 hB.size (fun k e => by cases e; exact Nat.le_refl _), hgrow1.block _ (by omega) (by intro e; have := Option.some.inj e; omega)⟩, ⟨cell_kept hc hgrow1 (fun r e => by cases e; exact ⟨_, hh, rfl⟩), ?_⟩, hB.grown hgrow1 hB.size (fun k e => by cases e; exact Nat.le_refl _), Nat.le_trans hW3 hgrow1.size⟩
  rw [List.map_append, List.length_append, show List.map bkAt [⟨(ix, x), hx1, hx2⟩] = [x] from rfl, textD_snoc]
  exact hown1
 case done =>
  rintro D zs W hD rfl ⟨⟨hc, hown⟩, hB, _⟩ hK
  rw [HYm.out] at hown
  gi_wp2
  refine ⟨by simp, .inl ⟨_, _, rfl, run_takeDeferred hK, ?_⟩⟩
  exact ⟨_, results_tmp rfl _ _ _, rfl, hown.kept (grownBy_putObj' _ D _) (fun e => by cases e; omega), hB.trans (belowK_b (w := w) (Nat.le_refl _) W D _ _ (by omega) hK rfl rfl)⟩
 case stop =>
  rintro D c pre W _ _ h _
  exact h.elim
 case hAx =>
  rintro x a' s A B row ⟨Bx, h1, h2, h3, h4⟩ hg hr
  exact ⟨Bx, h1, cell_kept h2 hg (fun r e => (hr r e).2), cell_kept h3 hg (fun r e => (hr r e).2), h4⟩
end Go.Proofs.YtibflgfhjfcifaaGreatDoor
namespace Go.Proofs.YtibflgfhjfcifaaGreatDoor
open Go.RowKit Go.Shelf Go.Maps
def MapPost (l : List At) (w : World) (e : Ending) (w' : World) : Prop := e = .returned (.map (some w.heap.size)) ∧ w'.ownsMap Tryz.prog 9 (plainElem (H := Unit) Tryz.prog 9) w.heap.size l.length (textD l.reverse) ∧ Below w.heap.size w w'
theorem Texts_any (A : Option Addr) (c : Nat) (l : List At) (w : World) (h : RowAt w w.heap.size A 2 l.length (cellsOf encAt l)) (hl : l.length ≤ 1000000) (hz : ∀ x ∈ l, FileOk x) :
 Calls Tryz.prog 69 #[.slice A l.length c] w (MapPost l w) :=
 (callsIn_wide (n := 6)).1 (Texts_in Fence.wide 6 trivial trivial trivial rfl (by omega) A c l w h hl hz)
theorem good_of {d : List At} (hn : (d.map nm).Nodup) (hv : (d.all fun x => validS (nm x)) = true) : badD d = false := by
 refine good_all (m := d.length) ?_ (Nat.le_refl _)
 unfold GoodPre
 rw [List.take_length]
 exact ⟨hn, hv⟩
theorem all_succ {d : List At} {m : Nat} {x : At} {p : At → Bool} (h : (d.take m).all p = true) (hx : d[m]? = some x) (hp : p x = true) : (d.take (m + 1)).all p = true := by
 obtain ⟨hm, rfl⟩ := List.getElem?_eq_some_iff.1 hx
 rw [List.take_succ_eq_append_getElem hm, List.all_append, h]
 simp [hp]
theorem bad_twice {d : List At} (h : ¬ (d.map nm).Nodup) : badD d = true := by
 unfold badD; rw [decide_eq_false h]; rfl
def SetIn (w : World) (ns : List Str) (wr : World) : Prop := wr.ownsMap Tryz.prog 9 (plainElem (H := Unit) Tryz.prog 4) w.heap.size ns.length (setD ns) ∧ Below w.heap.size w wr
theorem SetIn.go {w wr w' : World} {ns : List Str} (h : SetIn w ns wr) (hb : Below wr.heap.size wr w') : SetIn w ns w' := ⟨h.1.kept (grown_below hb none) (by simp), bt h.2 hb⟩
theorem SetIn.add {w wr w' : World} {ns : List Str} {n : Str} (h : SetIn w ns wr) (h1 : w'.ownsMap Tryz.prog 9 (plainElem (H := Unit) Tryz.prog 4) w.heap.size (ns.length + 1) ((setD ns).put (.string n) (.lit (.bool true)))) (hg : wr.grownBy w' (some w.heap.size)) : SetIn w (ns ++ [n]) w' :=
 ⟨by rw [List.length_append, setD_snoc]; exact h1, h.2.grown hg h.2.size (fun k e => by cases e; exact Nat.le_refl _)⟩
theorem lawS : Keyed Tryz.prog 9 := string_keyed Tryz.underlying9
set_option maxRecDepth 100000 in
set_option maxHeartbeats 2000000 in
theorem PCheckD_any (A : Option Addr) (c : Nat) (ds : List (Ls At)) (w : World) (h : DirsAt w A ds) (hb : bulk ds ≤ 100000) (hsz : ∀ d ∈ ds, ∀ x ∈ d.l, FileOk x) :
 Calls Tryz.prog 41 #[.slice A ds.length c] w (ErrPost (checkF (lsOf ds)) w) := by
 have H := Lib.hid h
 have HBk := Lib.hid hb
 have HSz := Lib.hid hsz
 have hM : ds.length ≤ 100000 := Nat.le_trans (bulk_len ds) hb
 have HBad : Hid (∀ (k : Nat) (d : Ls At), ds[k]? = some d → badD d.l = true → checkF (lsOf ds) = 171) := Lib.hid fun k d hk hd => check_bad (List.mem_map.2 ⟨d, List.mem_of_getElem? hk, rfl⟩) hd
 have HGood : Hid ((∀ (j : Nat) (d : Ls At), j < ds.length → ds[j]? = some d → badD d.l = false) → checkF (lsOf ds) = if 64 < (namesS (allN (lsOf ds))).length then 170 else 0) := Lib.hid fun hg => check_good fun l hl => by
  obtain ⟨d, hd, rfl⟩ := List.mem_map.1 hl
  obtain ⟨j, hj⟩ := List.getElem?_of_mem hd
  exact hg j d (List.getElem?_eq_some_iff.1 hj).1 hj
 have HTx : Hid (∀ (i : Nat) (d : Ls At), ds[i]? = some d → ∀ W, Below w.heap.size w W → Calls Tryz.prog 69 #[.slice d.A d.l.length d.c] W (MapPost d.l W)) := Lib.hid fun i d hd W hW => by
  have hm := List.mem_of_getElem? hd
  exact Texts_any _ _ _ W (((h.inner d hm).keep hW).up hW.size) (by have := bulk_mem hm; omega) (hsz d hm)
 clear h hb hsz
 have hmm := @run_makeMap Tryz.prog
 generalize hMM : ds.length = M at *
 have HM := Lib.hid hMM
 clear hMM
 generalize checkF (lsOf ds) = ce at *
 go_enter Tryz.func41, Tryz.ntmps41
 go_wp2
 go_loopg [11] (M + 1) (fun gk s11 wr => ∃ (k : Nat), s11 = .int .i64 k ∧ k + gk = M + 1 ∧ k ≤ M ∧ Hid (∀ (j : Nat) (d : Ls At), j < k → ds[j]? = some d → badD d.l = false) ∧ Hid (SetIn w (preN ds k 0) wr))
 case atStart => exact ⟨0, rfl, by omega, Nat.zero_le _, fun j d hj => absurd hj (by omega), by rw [preN_zero]; exact ⟨World.ownsMap_made _ _ _ _, below_alloc _ _⟩⟩
 case round =>
  obtain ⟨k, rfl, hkg, hkM, hG, hW⟩ := hrel
  clear hmm
  by_cases hlt : k < M
  · have hltI : (k : Int) < (M : Int) := by omega
    have hk' : k < ds.length := by rw [HM.out]; exact hlt
    obtain ⟨g, off, rfl, hg, hcell, hrow⟩ := H.out.dir hk'
    have HB1 := Lib.hid (HBad.out k ds[k] (List.getElem?_eq_getElem hk'))
    have HT1 := Lib.hid (HTx.out k ds[k] (List.getElem?_eq_getElem hk'))
    have HDk : Hid (∀ d, ds[k]? = some d → d = ds[k]) := Lib.hid fun d hd => (Option.some.inj ((List.getElem?_eq_getElem hk').symm.trans hd)).symm
    have hl1 : ds[k].l.length ≤ 100000 := Nat.le_of_lt (Nat.lt_of_lt_of_le (bulk_mem (List.getElem_mem hk')) HBk.out)
    have HS1 := Lib.hid (HSz.out ds[k] (List.getElem_mem hk'))
    have HF : Hid (∀ m x, ds[k].l[m]? = some x → ∃ ba off, ds[k].A = some ⟨ba, off, none⟩ ∧ ba < w.heap.size ∧ ∀ W, Below w.heap.size w W → W.cell? ⟨ba, off + m * 2, none⟩ = some (.string x.name) ∧ W.cell? ⟨ba, off + m * 2 + 1, none⟩ = some (.string x.val)) := Lib.hid fun m x hx => (hrow w (Below.refl _ _)).fileX hx
    have HP : Hid (∀ m x, ds[k].l[m]? = some x → preN ds k (m + 1) = preN ds k m ++ [nm x]) := Lib.hid fun m x hx => by
     obtain ⟨hm, rfl⟩ := List.getElem?_eq_some_iff.1 hx
     exact preN_step ds hk' hm
    have HQ : Hid (preN ds k ds[k].l.length = preN ds (k + 1) 0) := Lib.hid (preN_next ds hk')
    have HL : Hid (∀ m, m ≤ ds[k].l.length → (preN ds k m).length ≤ 100000) := Lib.hid fun m hm => Nat.le_trans (preN_len ds hk' hm) HBk.out
    generalize ds[k] = d at *
    obtain ⟨dA, dc, dl⟩ := d
    dsimp only at *
    have hc0 := hcell wr hW.out.2
    have HTw := Lib.hid (HT1.out wr hW.out.2)
    unfold MapPost at HTw
    have hnd := nodup_namesS (dl.reverse.map nm)
    have hsize := textD_size dl.reverse
    clear hcell hrow hk' HT1
    by_cases hdn : (dl.map nm).Nodup
    · have hsz2 : Maps.size (textD dl.reverse) = dl.length := by
       rw [hsize, hnd.2 (by rw [List.map_reverse]; exact (List.reverse_perm _).nodup_iff.2 hdn), List.length_map, List.length_reverse]
      have HSz2 := Lib.hid hsz2
      have HDn := Lib.hid hdn
      clear hsz2 hdn hsize hnd
      generalize hNN : dl.length = N at *
      have HNN := Lib.hid hNN
      clear hNN
      go_wp2_with (first
       | (go_at_call 69; refine HTw.out.mono ?_; rintro e w1 ⟨rfl, hmp, hb1⟩; have HMp := Lib.hid hmp; have HW1 := Lib.hid (hW.out.go hb1); clear hmp hb1)
       | (at_len; refine wpList_len_own _ rfl _ 79 rfl 9 9 Tryz.underlying79 _ _ _ _ rfl HMp.out ?_; rw [HSz2.out]))
      clear HTw HSz2
      obtain ⟨gko, rfl⟩ : ∃ gko : Nat, gko = gk := ⟨_, rfl⟩
      obtain ⟨wo, rfl⟩ : ∃ wo : World, wo = wr := ⟨_, rfl⟩
      go_loopg [23] (N + 1) (fun gk s23 wr => ∃ (m : Nat), s23 = .int .i64 m ∧ m + gk = N + 1 ∧ m ≤ N ∧ Hid (((dl.take m).all fun x => validS (nm x)) = true) ∧ Hid (SetIn w (preN ds k m) wr))
      case atStart => exact ⟨0, rfl, by omega, Nat.zero_le _, (by exact rfl), HW1.out⟩
      case round =>
       obtain ⟨m, rfl, hmg, hmN, hV, hWm⟩ := hrel
       by_cases hltm : m < N
       · have hltmI : (m : Int) < (N : Int) := by omega
         obtain ⟨x, hx⟩ : ∃ x, dl[m]? = some x := ⟨_, List.getElem?_eq_getElem (by rw [HNN.out]; exact hltm)⟩
         obtain ⟨ba, off2, rfl, hba, hcc⟩ := HF.out m x hx
         obtain ⟨c0, c1⟩ := hcc _ hWm.out.2
         have hxok := HS1.out x (List.mem_of_getElem? hx)
         have HX := Lib.hid (HP.out m x hx)
         have hV1 := fun W => Valid_any x.name W (by have := hxok.1; unfold maxLen at this; omega)
         have HVs := Lib.hid (fun (hv : validS (L x.name) = true) => all_succ hV.out hx hv)
         have HBv := Lib.hid (fun (hv : validS (L x.name) = false) => HB1.out (bad_val (List.mem_of_getElem? hx) hv))
         have hpl := HL.out m hmN
         have hkey := WideMaps.keyOf_string_mk (P := Tryz.prog) Tryz.underlying9 hxok.1
         have hwl := hWm.out.2.size
         have HWa := Lib.hid (hWm.out.go (below_alloc _ (.cells #[.string x.name, .string x.val] 42)))
         clear hx hcc
         cases hvq : validS (L x.name) with
         | true =>
           rw [hvq] at hV1
           have HV1 := Lib.hid hV1
           have HV2 := Lib.hid (HVs.out hvq)
           clear hV1 hvq HVs HBv
           go_wp2_with (first
            | (go_at_call 70; refine (HV1.out _).mono ?_; rintro e w5 ⟨rfl, hb5⟩; have HW5 := Lib.hid (HWa.out.go hb5); have hd0 := (hb5.cell (p := ⟨wr.heap.size, 0, none⟩) (by simp)).trans (cellOf (heap_alloc_new wr _) (j := 0) rfl); clear hb5)
            | (at_mapUpdate; refine wpList_mapUpdate_own _ rfl _ _ _ 60 rfl 9 4 lawS Tryz.underlying60 _ w.heap.size (preN ds k m).length _ rfl HW5.out.1 (by unfold maxLen; omega) _ _ _ rfl rfl hkey _ [] (plainElem_bool Tryz.underlying4 true) ?_; intro w6 hown6 hgrow6; have HW6 := Lib.hid (HW5.out.add hown6 hgrow6); clear hown6 hgrow6))
           go_roundg (gk - 1)
           case measure => omega
           case rel => exact ⟨m + 1, by go_num, by omega, by omega, HV2.out, by rw [HX.out]; exact HW6.out⟩
         | false =>
           rw [hvq] at hV1
           have HV1 := Lib.hid hV1
           have hce := HBv.out hvq
           subst hce
           clear hV1 hvq HVs HBv
           go_wp2_with (first
            | (go_at_call 70; refine (HV1.out _).mono ?_; rintro e w5 ⟨rfl, hb5⟩; have HW5 := Lib.hid (HWa.out.go hb5); clear hb5))
           go_ret
           exact ⟨rfl, HW5.out.2⟩
       · obtain rfl : m = N := by omega
         have HGd := Lib.hid (good_of HDn.out (by have := hV.out; rwa [List.take_of_length_le (by rw [HNN.out]; exact Nat.le_refl _)] at this))
         go_wp2
         go_roundg (gko - 1)
         case measure => omega
         case rel =>
          refine ⟨k + 1, by go_num, by omega, by omega, fun j d hj hd => ?_, by rw [← HQ.out]; exact hWm.out⟩
          rcases (by omega : j = k ∨ j < k) with e | e
          · subst e
            have := HDk.out d hd
            subst this
            exact HGd.out
          · exact hG.out j d e hd
    · have hce := HB1.out (bad_twice hdn)
      subst hce
      have hlts : Maps.size (textD dl.reverse) < dl.length := by
       have h1 := len_namesS (dl.reverse.map nm)
       have h2 : (namesS (dl.reverse.map nm)).length ≠ (dl.reverse.map nm).length := fun e => hdn (by
        have := hnd.1 e
        rw [List.map_reverse] at this
        exact (List.reverse_perm _).nodup_iff.1 this)
       rw [List.length_map, List.length_reverse] at h1 h2
       rw [hsize]
       omega
      clear hnd hsize hdn
      generalize hszs : Maps.size (textD dl.reverse) = sz at *
      have HSz2 := Lib.hid hszs
      clear hszs
      generalize hNN : dl.length = N at *
      have hszI : (sz : Int) < (N : Int) := by omega
      go_wp2_with (first
       | (go_at_call 69; refine HTw.out.mono ?_; rintro e w1 ⟨rfl, hmp, hb1⟩; have HMp := Lib.hid hmp; have HW1 := Lib.hid (hW.out.go hb1); clear hmp hb1)
       | (at_len; refine wpList_len_own _ rfl _ 79 rfl 9 9 Tryz.underlying79 _ _ _ _ rfl HMp.out ?_; rw [HSz2.out]))
      go_ret
      exact ⟨rfl, HW1.out.2⟩
  · obtain rfl : k = M := by omega
    have hce := HGood.out hG.out
    have he : preN ds k 0 = allN (lsOf ds) := preN_all ds (by rw [HM.out]; exact Nat.le_refl _)
    have hszd := setD_size (allN (lsOf ds))
    rw [he] at hW
    generalize allN (lsOf ds) = ns at *
    generalize (namesS ns).length = nl at *
    have HSd := Lib.hid hszd
    clear hszd he
    by_cases h64 : 64 < nl
    · rw [if_pos h64] at hce
      subst hce
      have h64I : (64 : Int) < (nl : Int) := by omega
      go_wp2_with (at_len; refine wpList_len_own _ rfl _ 60 rfl 9 4 Tryz.underlying60 _ _ _ _ rfl hW.out.1 ?_; rw [HSd.out])
      go_ret
      exact ⟨rfl, hW.out.2⟩
    · rw [if_neg h64] at hce
      subst hce
      have h64I : ¬ (64 : Int) < (nl : Int) := by omega
      go_wp2_with (at_len; refine wpList_len_own _ rfl _ 60 rfl 9 4 Tryz.underlying60 _ _ _ _ rfl hW.out.1 ?_; rw [HSd.out])
      go_ret
      exact ⟨rfl, hW.out.2⟩
end Go.Proofs.YtibflgfhjfcifaaGreatDoor
