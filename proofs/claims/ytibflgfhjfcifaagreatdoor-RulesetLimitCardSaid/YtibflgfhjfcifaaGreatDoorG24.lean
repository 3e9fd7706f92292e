/-
  slices.Backward at a row of directories: its iterator, for every loop body that keeps the row and the box.
  sort.Slice at a row of files, by their names: a permutation of what the row held, ascending.
  sort.Slice at a row of files of the call's own, of any length.
  The files that count, in plain words: what a map from names to texts holds behind all directories; collected and sorted.
  Contract of the program's Merge of directories.
  SameFiles at two lists that are alike; the example of the chapter.
  What a file in a first directory of its own does to made directories, in plain words.
  The law RulesetHides, walked.
  Directories made from a new tape, and the files that count in them.
-/
import Derived.Test.YtibflgfhjfcifaaGreatDoorG23
import Derived.RangeFuncNested
import Derived.RangeFuncBound
import Derived.RangeFuncCalls
import Derived.RangeFuncLeaves
import Derived.RangeFuncWrites
import Derived.Shelf.Abstract
import Derived.Shelf.RegionOpen
import Derived.OwnWalkIn
import Derived.TacticsInMore
import Derived.LoopNIn
import Derived.LoopIn
import Derived.Maps.OwnIn
import Derived.Test.YtibflgfhjfcifaaGreatDoorG20
import Derived.Test.YtibflgfhjfcifaaGreatDoorShelf
import Derived.Shelf.SlSortFuncK.WholeK
import Derived.Deep.QuietTactic
import Derived.Test.YtibflgfhjfcifaaGreatDoorG00
import Derived.Laws.OwnMore
import Derived.Shelf.GgSortFunc.Tiny
import Derived.Sort.KeysCollected
import Derived.Test.YtibflgfhjfcifaaGreatDoorG21
import Derived.Maps.RangeWalk
import Derived.Sort.OwnSorted
import Derived.Test.YtibflgfhjfcifaaGreatDoorG22
namespace Go.Proofs.YtibflgfhjfcifaaGreatDoor
open Go.RowKit Go.Shelf
attribute [local go_sem] Oper.semAt_some
abbrev BkD (ds : List (Ls At)) := { x : Nat × Ls At // x.2 ∈ ds }
abbrev encBkD (ds : List (Ls At)) (x : BkD ds) : Array Value := #[.int .i64 (x.1.1 : Int), .slice x.1.2.A x.1.2.l.length x.1.2.c]
structure BackRowD (ds : List (Ls At)) (w : World) (n₀ : Nat) (A : Option Addr) (ys : List (BkD ds)) : Prop where
 at_ : ∀ (j : Nat) (y : BkD ds), ys[j]? = some y → y.1.1 + 1 + j = ys.length ∧ ∃ b off, A = some ⟨b, off, none⟩ ∧ b < n₀ ∧ w.cell? ⟨b, off + y.1.1, none⟩ = some (.slice y.1.2.A y.1.2.l.length y.1.2.c)
theorem BackRowD.below {ds : List (Ls At)} {w w' : World} {n₀ : Nat} {A : Option Addr} {ys : List (BkD ds)} (h : BackRowD ds w n₀ A ys) (hb : Below n₀ w w') : BackRowD ds w' n₀ A ys := ⟨fun j y hy => by
 obtain ⟨h1, b, off, e, hbn, c0⟩ := h.at_ j y hy
 exact ⟨h1, b, off, e, hbn, (hb.cell (p := ⟨b, off + y.1.1, none⟩) hbn).trans c0⟩⟩
set_option maxRecDepth 100000 in
set_option maxHeartbeats 2000000 in
theorem back1D_in (ds : List (Ls At)) (F : Fence) (n : Nat) (h8 : F.fn 71) (hro : F.round = none) (hn : 1 ≤ n) (l Bs n₀ : Nat) (A : Option Addr) (cap : Nat) (ys : List (BkD ds)) (hlen : ys.length ≤ 1000000000) (J Jx : List (BkD ds) → World → Prop)
 (hY : ∀ pre x W, J pre W → pre.length < ys.length → YieldAt F (n - 1) Tryz.prog l (encBkD ds x) W fun e W' =>
  (e = .returned (.bool true) ∧ J (pre ++ [x]) W' ∧ KpB n₀ Bs W W') ∨ (e = .returned (.bool false) ∧ Jx (pre ++ [x]) W'))
 (W : World) (hBs : W.cell? ⟨Bs, 0, none⟩ = some (.slice A ys.length cap)) (hr : BackRowD ds W n₀ A ys) (h0 : J [] W) :
 CallsIn F n Tryz.prog 71 #[.func (.yield l) #[] #[], .pointer (some ⟨Bs, 0, none⟩)] W fun e W' => (∃ v, e = .returned v) ∧
  ((∃ xs, xs = ys ∧ J xs W') ∨ (∃ pre, (∃ k, k ≤ ys.length ∧ pre = ys.take k) ∧ Jx pre W')) := by
 refine callsIn_of_wp Tryz.func71 rfl h8 ?_ hro
 have HR := Lib.hid hr
 have HY := Lib.hid hY
 have H0 := Lib.hid h0
 have HB := Lib.hid (fun W' (h : KpB n₀ Bs W W') => (World.cell?_of_block (a := ⟨Bs, 0, none⟩) h.2).trans hBs)
 clear hr hY h0
 generalize hN : ys.length = N at *
 have HN := Lib.hid hN
 clear hN
 simp only [Tryz.ntmps71, List.size_toArray, List.length_cons, List.length_nil, Nat.reduceAdd, Nat.reduceSub, Array.replicate_succ, Array.replicate_zero, List.push_toArray, List.append_toArray, List.nil_append, List.cons_append]
 gi_wp2
 gi_loopw [3] (fun i wr => ∃ m : Nat, m ≤ N ∧ i = .int .i64 ((m : Int) - 1) ∧ Hid (J (ys.take (N - m)) wr) ∧ Hid (KpB n₀ Bs W wr)) (fun i _ => (intOf i + 1).toNat)
 case atStart => exact ⟨N, Nat.le_refl _, rfl, by rw [Nat.sub_self]; exact H0.out, Below.refl _ _, rfl⟩
 case round =>
  obtain ⟨m, hm, rfl, hJ, hK⟩ := hrel
  cases m with
  | zero =>
    gi_wp2
    go_end0
    refine ⟨⟨_, rfl⟩, .inl ⟨_, rfl, ?_⟩⟩
    have := hJ.out
    rw [Nat.sub_zero, List.take_of_length_le (by rw [HN.out]; exact Nat.le_refl _)] at this
    exact this
  | succ j =>
    have hji : ((j + 1 : Nat) : Int) - 1 = (j : Int) := by omega
    rw [hji]
    have hjN : (j : Int) < (N : Int) := by omega
    obtain ⟨y, hy⟩ : ∃ y, ys[N - (j + 1)]? = some y := ⟨_, List.getElem?_eq_getElem (by rw [HN.out]; omega)⟩
    obtain ⟨hyj, b, off, rfl, hb, c0⟩ := (HR.out.below hK.out.1).at_ _ y hy
    have cB := HB.out _ hK.out
    have HT : Hid (ys.take (N - j) = ys.take (N - (j + 1)) ++ [y]) := Lib.hid (by
     rw [show N - j = N - (j + 1) + 1 from by omega, List.take_add_one, hy]; rfl)
    have hlt : (ys.take (N - (j + 1))).length < N := by rw [List.length_take, HN.out]; omega
    obtain ⟨fn, tmps, assign, body, hyy, hRr⟩ := HY.out _ y _ hJ.out hlt
    obtain ⟨⟨j', x⟩, hx⟩ := y
    have : j' = j := by dsimp only at hyj; rw [HN.out] at hyj; omega
    subst this
    dsimp only at hyy c0
    clear hy hyj hlt hji
    gi_wp2
    refine hRr.mono ?_
    rintro e W3 (⟨rfl, hJ3, hk3⟩ | ⟨rfl, hJx3⟩)
    · have HJ3 := Lib.hid hJ3
      have HK3 := Lib.hid (hK.out.t hk3)
      clear hJ3 hk3
      gi_wp2
      go_roundw
      case rel => exact ⟨j', by omega, rfl, by rw [HT.out]; exact HJ3.out, HK3.out⟩
      case measure => simp [intOf]
    · gi_wp2
      refine bodyPost_ret (results_none rfl _ _ _) rfl ?_
      exact ⟨⟨_, rfl⟩, .inr ⟨_, ⟨N - j', by omega, by rw [HT.out]⟩, hJx3⟩⟩
theorem back_listD (ds : List (Ls At)) : ∃ ys : List (BkD ds), ys.length = ds.length ∧ ys.map (fun y => y.1.2) = ds.reverse ∧ ∀ (j : Nat) (y : BkD ds), ys[j]? = some y → y.1.1 + 1 + j = ys.length ∧ ds[y.1.1]? = some y.1.2 := by
 refine ⟨List.ofFn (fun j : Fin ds.length => ⟨(ds.length - 1 - j.1, ds[ds.length - 1 - j.1]'(by omega)), List.getElem_mem _⟩), by simp, ?_, fun j y hy => ?_⟩
 · apply List.ext_getElem
   · simp
   · intro i h1 h2
     simp
 · rw [List.getElem?_ofFn] at hy
   split at hy
   · rename_i hj
     obtain rfl := Option.some.inj hy
     refine ⟨by simp; omega, ?_⟩
     exact List.getElem?_eq_getElem _
   · cases hy
theorem BackRowD.of {w : World} {A : Option Addr} {ds : List (Ls At)} {ys : List (BkD ds)} (h : DirsAt w A ds) (hy : ∀ (j : Nat) (y : BkD ds), ys[j]? = some y → y.1.1 + 1 + j = ys.length ∧ ds[y.1.1]? = some y.1.2) : BackRowD ds w w.heap.size A ys :=
 ⟨fun j y h1 => by
  obtain ⟨h2, h3⟩ := hy j y h1
  obtain ⟨hi, e⟩ := List.getElem?_eq_some_iff.1 h3
  obtain ⟨b, off, ea, hb, hc, _⟩ := h.dir hi
  have := hc w (Below.refl _ _)
  rw [e] at this
  exact ⟨h2, b, off, ea, hb, this⟩⟩
set_option maxHeartbeats 1000000 in
theorem BackwardD_in (F : Fence) (n : Nat) (h5 : F.fn 42) (hro : F.round = none) (a : Option Addr) (len cap : Nat) (w : World) :
 CallsIn F n Tryz.prog 42 #[.slice a len cap] w fun e w' => e = .returned (.func (.func 71) #[] #[.pointer (some ⟨w.heap.size, 0, none⟩)]) ∧ w' = w.alloc (.cells #[.slice a len cap] 46) := by
 refine callsIn_of_wp Tryz.func42 rfl h5 ?_ hro
 simp only [Tryz.ntmps42, List.size_toArray, List.length_cons, List.length_nil, Nat.reduceAdd, Nat.reduceSub, Array.replicate_succ, Array.replicate_zero, List.push_toArray, List.append_toArray, List.nil_append, List.cons_append]
 gi_wp2
 go_ret
 exact ⟨rfl, rfl⟩
theorem backD_stops (ds : List (Ls At)) (F : Fence) (n : Nat) (h8 : F.fn 71) (hro : F.round = none) (hn : 1 ≤ n) (Bs n₀ : Nat) (A : Option Addr) (cap : Nat) (ys : List (BkD ds)) (hlen : ys.length ≤ 1000000000) (w : World) (hB : Bs < w.heap.size) (hn₀ : n₀ ≤ w.heap.size)
 (hc : w.cell? ⟨Bs, 0, none⟩ = some (.slice A ys.length cap)) (hr : BackRowD ds w n₀ A ys) :
 SeqStopsK F n Tryz.prog 71 #[.pointer (some ⟨Bs, 0, none⟩)] (encBkD ds) (KpB n₀ Bs) (fun xs => xs = ys) (fun pre => ∃ k, k ≤ ys.length ∧ pre = ys.take k) ys.length w := fun l J Jx W hW _ _ hY h0 =>
 back1D_in ds F n h8 hro hn l Bs n₀ A cap ys hlen J Jx hY W ((hW.cell (p := ⟨Bs, 0, none⟩) hB).trans hc) (hr.below (hW.mono hn₀)) h0
end Go.Proofs.YtibflgfhjfcifaaGreatDoor
namespace Go.Proofs.YtibflgfhjfcifaaGreatDoor
open Go.Shelf Go.RowKit Go.Lib Go.Sort
instance : Inhabited At := ⟨⟨⟨#[]⟩, ⟨#[]⟩⟩⟩
noncomputable def sliceT : TypeInfo := (Tryz.prog.info? 40).get (by kernel_rfl)
noncomputable def fileT : TypeInfo := (Tryz.prog.info? 42).get (by kernel_rfl)
def ltN (a b : At) : Bool := decide (nm a < nm b)
theorem swo_ltN : SWO ltN where
 irrefl := fun x => by simp [ltN]
 trans := fun x y z h1 h2 => by simp only [ltN, decide_eq_true_eq] at *; exact slt_tr h1 h2
 ntrans := fun x y z h1 h2 => by
  simp only [ltN, decide_eq_false_iff_not] at *
  intro h
  by_cases e : nm x = nm y
  · rw [e] at h; exact h2 h
  · exact h2 (slt_tr (slt_tri h1 e) h)
set_option maxHeartbeats 2000000 in
theorem Less_any (blk off c Bs size : Nat) (W : World) (G : Nat → ByteArray) (hs : W.cell? ⟨Bs, 0, none⟩ = some (.slice (some ⟨blk, off, none⟩) size c))
 (hc : ∀ t, t < size → W.cell? ⟨blk, off + t * 2, none⟩ = some (.string (G t))) (i j : Nat) (hi : i < size) (hj : j < size) (_hsz : size < 4611686018427387904) :
 Calls Tryz.prog 44 #[.int .i64 i, .int .i64 j, .pointer (some ⟨Bs, 0, none⟩)] W fun e w' => e = .returned (.bool (decide (L (G i) < L (G j)))) ∧ ∃ q, w' = W.drewN q := by
 have ci := hc i hi
 have cj := hc j hj
 clear hc
 go_enter Tryz.func44, Tryz.ntmps44
 go_wp2
 go_quiet (fail)
 go_wp2
 go_ret
 exact ⟨ret_bool (by rw [bless, tl, tl]), nq, rfl⟩
theorem swapN (n : Nat) (h2 : 2 ≤ n) : Lib.swapperK n fileT 25 = 9 := by
 have a : fileT.hasPointers = true := by kernel_rfl
 have b : fileT.bytes = 32 := by kernel_rfl
 have c : (n == 0) = false := by simp; omega
 have d : (n == 1) = false := by simp; omega
 simp [Lib.swapperK, a, b, c, d]
theorem encAt_ones (x : At) : ∀ v ∈ encAt x, v.oneCell' = true := by simp [encAt, Value.oneCell']
set_option maxHeartbeats 2000000 in
theorem SortFiles (blk off c Bs : Nat) (d : Array At) (h2 : 2 ≤ d.size) (hsz : d.size < 4611686018427387904) (w : World) (hH : HoldsK encAt 2 w blk off d) (hblk : blk < w.heap.size) (hBs : Bs < w.heap.size) (hne : Bs ≠ blk) (hs : w.cell? ⟨Bs, 0, none⟩ = some (.slice (some ⟨blk, off, none⟩) d.size c)) :
 Calls Tryz.prog 43 #[.iface 40 (.slice (some ⟨blk, off, none⟩) d.size c), .func (.func 44) #[] #[.pointer (some ⟨Bs, 0, none⟩)]] w fun e w' =>
  e = .returned (.tuple #[]) ∧ ∃ d' n os, PermIn 0 d.size d d' ∧ SortedIn ltN 0 d.size d' ∧ w' = grow (putRowK encAt 2 (Sort.ahead w n) blk off d') os := by
 have hless : LessReadsK Tryz.prog 44 #[.pointer (some ⟨Bs, 0, none⟩)] encAt 2 ltN blk off d.size w := by
  intro m os dk hd i j hi hj
  have e : sortWorldK encAt 2 w blk off m dk os = putRowK encAt 2 (grow (Sort.ahead w m) os) blk off dk := by
   unfold sortWorldK; rw [putRowK_grow _ _ (Sort.ahead w m) _ blk off _ hblk]
  have hHg : HoldsK encAt 2 (grow (Sort.ahead w m) os) blk off d := holdsK_grow _ _ _ _ blk off d hblk (holdsK_ahead _ _ _ _ _ _ _ hH)
  refine Less_any blk off c Bs d.size _ (fun t => dk[t]!.name) ?_ (fun t ht => ?_) i j hi hj (by omega)
  · rw [e, cell?_putRowK_other _ _ _ blk off dk _ (by show Bs ≠ blk; exact hne), cell?_grow _ _ _ (by show Bs < w.heap.size; exact hBs)]
    exact hs
  · rw [e]; exact ((holdsK_putRowK _ _ _ blk off d dk hHg hd).cell (i := t) (c := 0) (by omega) (by omega)).1
 exact Any.sort_Slice_cells_sorted Tryz.laysGg6 40 42 sliceT fileT (by kernel_rfl) (by kernel_rfl) (by kernel_rfl) (by kernel_rfl) 25 (fun _ => by kernel_rfl) encAt 2 encAt_len (by kernel_rfl) (fun _ => by kernel_rfl)
  encAt_ones ltN swo_ltN 44 _
  (enters_of Tryz.func44 (by kernel_rfl) rfl) blk off c d h2 hsz 121 (by rw [swapN _ h2]; kernel_rfl) false
  (fun args W => run_callFunc_extern Tryz.func121 (by kernel_rfl) (by kernel_rfl) (by kernel_rfl) (e := Extern.ReflectliteSwapper.swap false) (by kernel_rfl) args W) _ hless hH hblk
end Go.Proofs.YtibflgfhjfcifaaGreatDoor
namespace Go.Proofs.YtibflgfhjfcifaaGreatDoor
open Go.Shelf Go.RowKit Go.Lib Go.Sort
theorem flat_get (l : List At) (j : Nat) (hj : j < l.length * 2) : (cellsOf encAt l)[j]? = some ((flatK encAt 2 l.toArray)[j]!) := by
 have hi : j / 2 < l.length := by omega
 rw [get_flatK encAt 2 l.toArray j (by simpa using hj)]
 have h1 := cellsOf_get encAt 2 encAt_len l (j / 2) (j % 2) l[j / 2] (List.getElem?_eq_getElem hi) (by omega)
 rw [show j / 2 * 2 + j % 2 = j from by omega] at h1
 rw [h1]
 have e : (l.toArray[j / 2]!) = l[j / 2] := by rw [getElem!_pos _ _ (by simpa using hi)]; simp
 rw [e]
 rcases (by omega : j % 2 = 0 ∨ j % 2 = 1) with h | h <;> rw [h] <;> rfl
theorem holds_own {w : World} {base g cap : Nat} {e : TypeId} {l : List At} (h : w.ownsRow base e 2 (.slice (some ⟨g, 0, none⟩) l.length cap) l.length (cellsOf encAt l)) : HoldsK encAt 2 w g 0 l.toArray := by
 intro j hj
 have hj' : j < l.length * 2 := by simpa using hj
 refine ⟨?_, by rw [Nat.zero_add]; exact h.frozenAt j⟩
 rw [Nat.zero_add, h.cellAt j hj', flat_get l j hj']
 rfl
theorem row_holds {w : World} {g n : Nat} {d : Array At} (h : HoldsK encAt 2 w g 0 d) (hg : g < w.heap.size) (hn : d.size = n) : RowAt w w.heap.size (some ⟨g, 0, none⟩) 2 n (cellsOf encAt d.toList) := by
 refine ⟨by rw [cellsOf_len _ 2 encAt_len]; simp [hn], fun _ => ⟨g, 0, rfl, hg, fun j u hu => ?_⟩⟩
 have hj : j < d.toList.length * 2 := by
  have := (List.getElem?_eq_some_iff.1 hu).1
  rwa [cellsOf_len _ 2 encAt_len] at this
 have h1 := flat_get d.toList j hj
 rw [hu] at h1
 have h2 := (h j (by simpa using hj)).1
 rw [h2]
 exact h1.symm
theorem grown_sorted {w : World} {g n : Nat} {os : Array Obj} (d : Array At) : w.grownBy (grow (putRowK encAt 2 (Sort.ahead w n) g 0 d) os) (some g) := by
 refine ⟨rfl, rfl, rfl, by simp [putRowK], fun k hk hne => ?_⟩
 rw [heap_grow_old _ _ (by simpa [putRowK] using hk)]
 have : g ≠ k := fun e => hne (by rw [e])
 simp [putRowK, putRow, mapBlock, Sort.ahead, Array.getElem?_modify, this]
theorem below_grow (w : World) (os : Array Obj) : Go.RowKit.Below w.heap.size w (grow w os) := ⟨rfl, rfl, rfl, by simp, fun k hk => heap_grow_old _ _ hk⟩
def SortPost (l : List At) (A : Option Addr) (row : Option Nat) (w : World) (e : Ending) (w' : World) : Prop := e = .returned (.tuple #[]) ∧ ∃ l' : List At, l'.Perm l ∧ l'.Pairwise (fun x y => ¬ nm y < nm x) ∧ RowAt w' w'.heap.size A 2 l'.length (cellsOf encAt l') ∧ w.grownBy w' row
set_option maxHeartbeats 2000000 in
theorem SortOwn_any {base : Nat} {A : Option Addr} {c Bs : Nat} {l : List At} {w : World} (hown : w.ownsRow base 42 2 (.slice A l.length c) l.length (cellsOf encAt l)) (hl : l.length ≤ 1000000000) (hs : w.cell? ⟨Bs, 0, none⟩ = some (.slice A l.length c)) (hne : (Value.slice A l.length c).ownBlock ≠ some Bs) :
 Calls Tryz.prog 43 #[.iface 40 (.slice A l.length c), .func (.func 44) #[] #[.pointer (some ⟨Bs, 0, none⟩)]] w (SortPost l A (Value.slice A l.length c).ownBlock w) := by
 by_cases h2 : 2 ≤ l.length
 · obtain ⟨g, cap, hv, hbg, hgl⟩ := hown.form (by omega)
   obtain ⟨rfl, hc⟩ : A = some ⟨g, 0, none⟩ ∧ c = cap := by injection hv; exact ⟨by assumption, by assumption⟩
   have hH := holds_own hown
   have hS := SortFiles g 0 c Bs l.toArray (by simpa using h2) (by simp; omega) w hH hgl (block_lt_of_cell hs) (fun e => hne (by rw [e]; rfl)) (by simpa using hs)
   rw [show l.toArray.size = l.length from List.size_toArray ..] at hS
   refine hS.mono ?_
   rintro e w' ⟨rfl, d', n, os, hP, hSo, rfl⟩
   have hsz : d'.size = l.length := by have := hP.1; simpa using this
   have hperm : d'.toList.Perm l := by
    have := hP.2.2
    rw [show l.length = d'.size from hsz.symm] at this
    rw [Array.extract_size] at this
    have e2 : (l.toArray.extract 0 d'.size).toList = l := by rw [hsz]; simp
    rw [e2] at this
    exact this
   refine ⟨rfl, d'.toList, hperm, ?_, ?_, grown_sorted d'⟩
   · rw [List.pairwise_iff_getElem]
     intro i j hi hj hij
     have := hSo i j (Nat.zero_le _) hij (by simpa [hsz] using hj)
     rw [getElem!_pos _ _ (by simpa using hj), getElem!_pos _ _ (by simpa using hi)] at this
     simpa [ltN] using this
   · have hH2 : HoldsK encAt 2 (grow (putRowK encAt 2 (Sort.ahead w n) g 0 d') os) g 0 d' := holdsK_grow _ _ _ _ _ _ _ (by simpa [putRowK] using hgl) (holdsK_putRowK _ _ _ _ _ _ _ (holdsK_ahead _ _ _ _ _ _ _ hH) (by simp [hsz]))
     exact row_holds hH2 (by simp [putRowK]; omega) (by simp)
 · have hsw : ∃ f, Tryz.prog.funcs.findIdx? (·.name == "internal/reflectlite" ++ ".Swapper$" ++ toString (swapperK l.length fileT 25)) = some f := by
    rcases (by omega : l.length = 0 ∨ l.length = 1) with h | h
    · refine ⟨113, ?_⟩
      rw [h, show swapperK 0 fileT 25 = 1 from rfl]; kernel_rfl
    · refine ⟨114, ?_⟩
      rw [h, show swapperK 1 fileT 25 = 2 from rfl]; kernel_rfl
   obtain ⟨f, hf⟩ := hsw
   refine (Any.sort_Slice_tiny Tryz.laysGg6 40 42 sliceT fileT (by kernel_rfl) (by kernel_rfl) (by kernel_rfl) (by kernel_rfl) 25 (fun _ => by kernel_rfl) A l.length c (by omega) f hf (.func 44) #[] #[.pointer (some ⟨Bs, 0, none⟩)] w).mono ?_
   rintro e w' ⟨rfl, os, rfl⟩
   have hb := below_grow w os
   refine ⟨rfl, l, List.Perm.refl _, ?_, ((RowAt.of_own hown).keep hb).up hb.size, grown_below hb _⟩
   rcases (by omega : l.length = 0 ∨ l.length = 1) with h | h
   · rw [List.length_eq_zero_iff] at h; subst h; exact List.Pairwise.nil
   · obtain ⟨x, rfl⟩ := List.length_eq_one_iff.1 h; simp
end Go.Proofs.YtibflgfhjfcifaaGreatDoor
namespace Go.Proofs.YtibflgfhjfcifaaGreatDoor
open Go.RowKit Go.Maps
def flatB (ls : List (List At)) : List At := ls.reverse.flatMap id
theorem find_rev {d : List At} (h : (d.map nm).Nodup) (n : Str) : findF d.reverse n = findF d n := by
 cases hf : findF d n with
 | none =>
   rw [findF_none] at hf ⊢
   simpa using hf
 | some x =>
   obtain ⟨e1, e2⟩ := findF_name hf
   cases hg : findF d.reverse n with
   | none =>
     rw [findF_none] at hg
     exact absurd (by simpa using ⟨x, e2, e1⟩) hg
   | some y =>
     obtain ⟨f1, f2⟩ := findF_name hg
     have f2 : y ∈ d := by simpa using f2
     congr 1
     obtain ⟨i, hi, rfl⟩ := List.getElem_of_mem f2
     obtain ⟨j, hj, rfl⟩ := List.getElem_of_mem e2
     by_cases hij : i = j
     · subst hij; rfl
     · exfalso
       have h3 := List.pairwise_iff_getElem.1 h
       rcases Nat.lt_or_gt_of_ne hij with hl | hl
       · exact h3 i j (by simpa using hi) (by simpa using hj) hl (by simp only [List.getElem_map]; rw [f1, e1])
       · exact h3 j i (by simpa using hj) (by simpa using hi) hl (by simp only [List.getElem_map]; rw [f1, e1])
theorem find_flat {ls : List (List At)} (h : ∀ d ∈ ls, (d.map nm).Nodup) (n : Str) : findF (flatB ls).reverse n = pickF ls n := by
 have e : (flatB ls).reverse = ls.flatMap List.reverse := by
  unfold flatB
  rw [List.reverse_flatMap, List.reverse_reverse]
  rfl
 rw [e]
 clear e
 induction ls with
 | nil => rfl
 | cons d r ih =>
   have h1 := ih (fun x hx => h x (by simp [hx]))
   have h2 := find_rev (h d (by simp)) n
   unfold findF at h1 h2 ⊢
   rw [List.flatMap_cons, List.find?_append, h1]
   unfold pickF
   rw [List.findSome?_cons]
   unfold findF
   rw [h2]
   cases List.find? (fun x => nm x == n) d <;> rfl
theorem bad_nodup {d : List At} (h : badD d = false) : (d.map nm).Nodup := by
 refine Decidable.byContradiction fun hn => ?_
 unfold badD at h
 rw [decide_eq_false hn] at h
 cases h
theorem check_bads {ls : List (List At)} (h : checkF ls = 0) : ∀ d ∈ ls, (d.map nm).Nodup := fun d hd => bad_nodup (by
 cases hb : badD d with
 | false => rfl
 | true =>
   unfold checkF at h
   rw [if_pos (List.any_eq_true.2 ⟨d, hd, hb⟩)] at h
   cases h)
theorem merge_sorted {ls : List (List At)} {ss : List Str} {l' : List At} (hnd : ss.Nodup) (hss : ∀ x, x ∈ ss ↔ (pickF ls x).isSome = true) (hp : l'.Perm (ss.filterMap (keepF ls))) (hs : l'.Pairwise (fun x y => ¬ nm y < nm x)) : l' = mergeL ls := by
 have hno : (ss.filterMap (keepF ls)).Pairwise (fun x y => nm x ≠ nm y) := hnd.filterMap _ (fun a b hab x hx y hy => by
  rw [(pickF_name (keepF_some.1 hx).1).1, (pickF_name (keepF_some.1 hy).1).1]; exact hab)
 have hno2 : l'.Pairwise (fun x y => nm x ≠ nm y) := hp.symm.pairwise hno (fun {x y} h e => h e.symm)
 refine files_ext ((hs.and hno2).imp fun {x y} h => ?_) (asc_mergeL ls) fun y => ?_
 · refine Decidable.byContradiction fun hn => h.1 (slt_tri hn h.2)
 · rw [hp.mem_iff, List.mem_filterMap, mem_mergeL]
   constructor
   · rintro ⟨n, _, e⟩
     have h1 := keepF_some.1 e
     obtain ⟨rfl, _⟩ := pickF_name h1.1
     exact h1
   · rintro h1
     exact ⟨nm y, (hss _).2 (by rw [h1.1]; rfl), keepF_some.2 h1⟩
end Go.Proofs.YtibflgfhjfcifaaGreatDoor
namespace Go.Proofs.YtibflgfhjfcifaaGreatDoor
open Go.RowKit Go.Shelf Go.Maps
attribute [local go_sem] Oper.semAt_some
theorem at_pick {l : List At} {n s : Str} (h : ∀ zd, (textD l).atKey (.string n) zd = .lit (.string s)) : ∃ f, findF l.reverse n = some f ∧ L f.val = s := by
 have h1 := h (.lit (.bool true))
 rw [textD_at] at h1
 cases hf : findF l.reverse n with
 | none => rw [hf] at h1; cases h1
 | some f =>
   rw [hf] at h1
   refine ⟨f, rfl, ?_⟩
   have : (DataW.lit (.string (L f.val)) : DW) = .lit (.string s) := h1
   injection this with this
   injection this
abbrev bkL {ds : List (Ls At)} (y : BkD ds) : List At := y.1.2.l
theorem flat_len {ds : List (Ls At)} (N : Nat) (hN : ∀ d ∈ ds, d.l.length ≤ N) (pre : List (BkD ds)) : (pre.flatMap bkL).length ≤ pre.length * N := by
 induction pre with
 | nil => simp
 | cons y r ih =>
   rw [List.flatMap_cons, List.length_append, List.length_cons, Nat.add_mul]
   have : (bkL y).length ≤ N := hN _ y.2
   omega
theorem flatB_len (ds : List (Ls At)) : (flatB (lsOf ds)).length ≤ bulk ds := by
 induction ds with
 | nil => exact Nat.zero_le _
 | cons d r ih =>
   have e : flatB (lsOf (d :: r)) = flatB (lsOf r) ++ d.l := by simp [flatB, lsOf]
   rw [e, List.length_append, bulk_cons]
   omega
abbrev mapS (w : World) (b n : Nat) (D : DW) : Prop := w.ownsMap Tryz.prog 9 (plainElem (H := Unit) Tryz.prog 9) b n D
set_option maxRecDepth 100000 in
set_option maxHeartbeats 4000000 in
theorem PMergeD_any (A : Option Addr) (c : Nat) (ds : List (Ls At)) (w : World) (h : DirsAt w A ds) (hb : bulk ds ≤ 100000) (hsz : ∀ d ∈ ds, ∀ x ∈ d.l, FileOk x) :
 Calls Tryz.prog 20 #[.slice A ds.length c] w (FilesPost (mergeF (lsOf ds)) w) := by
 have HCk := Lib.hid (PCheckD_any A c ds w h hb hsz)
 have hM : ds.length ≤ 100000 := Nat.le_trans (bulk_len ds) hb
 unfold ErrPost at HCk
 by_cases hce : checkF (lsOf ds) = 0
 · have HMf : Hid (mergeF (lsOf ds) = (mergeL (lsOf ds), 0)) := Lib.hid (by rw [mergeF, if_pos hce])
   have HFl := Lib.hid (fun n => find_flat (check_bads hce) n)
   rw [hce] at HCk
   obtain ⟨ys, hyl, hym, hyj⟩ := back_listD ds
   have HYm : Hid (ys.flatMap bkL = flatB (lsOf ds)) := Lib.hid (by
    have : ys.flatMap bkL = (ys.map (fun y => y.1.2)).flatMap (·.l) := by rw [List.flatMap_map]
    rw [this, hym, flatB, lsOf, ← List.map_reverse, List.flatMap_map]; rfl)
   have hdl : ∀ d ∈ ds, d.l.length ≤ 100000 := fun d hd => by have := bulk_mem hd; omega
   have H := Lib.hid h
   have HFb := Lib.hid (Nat.le_trans (flatB_len ds) hb)
   have HSz := Lib.hid hsz
   have HDl := Lib.hid hdl
   have HBr := Lib.hid (fun W (hW : Below w.heap.size w W) => (BackRowD.of h hyj).below hW)
   have hmm := @run_makeMap Tryz.prog
   obtain ⟨i0, hi0, hz0, hz1, hz2⟩ := info_parts fileInfo
   have Hi0 := Lib.hid hi0
   have Hz0 := Lib.hid hz0
   have Hz1 := Lib.hid hz1
   have Hz2 := Lib.hid hz2
   rw [← hyl] at HCk ⊢
   rw [← hyl] at hM
   clear hce h hb hsz hyl hym hyj hdl hi0 hz0 hz1 hz2
   refine (callsIn_wide (n := 6)).1 (callsIn_of_wp_marks Tryz.func20 rfl trivial (wpIn_wide.2 ?_) rfl)
   simp only [Tryz.ntmps20, List.size_toArray, List.length_cons, List.length_nil, Nat.reduceAdd, Nat.reduceSub, Array.replicate_succ, Array.replicate_zero, List.push_toArray, List.append_toArray, List.nil_append, List.cons_append]
   go_wp2_with (first
    | (go_at_call 41; refine HCk.out.mono ?_; rintro e w1 ⟨rfl, hb1⟩)
    | (go_at_call 42; refine ((callsIn_wide (n := 6)).1 (BackwardD_in Fence.wide 6 trivial rfl _ _ _ _)).mono ?_; rintro e w' ⟨rfl, rfl⟩))
   have hm0 := World.ownsMap_made w1 Tryz.prog 9 (plainElem (H := Unit) Tryz.prog 9)
   have bS := (Boxed.new (w1.alloc (.map #[] 0)) 79 (.map (some w1.heap.size))).alloc (.cells #[.slice A ys.length c] 46)
   have bN := Boxed.new ((w1.alloc (.map #[] 0)).alloc (.cells #[.map (some w1.heap.size)] 79)) 46 (.slice A ys.length c)
   simp only [World.size_alloc] at bS bN
   have hB0 : Below w1.heap.size w1 (((w1.alloc (.map #[] 0)).alloc (.cells #[.map (some w1.heap.size)] 79)).alloc (.cells #[.slice A ys.length c] 46)) := (((Below.refl _ w1).alloc (Nat.le_refl _) _).alloc (by simp) _).alloc (by simp; omega) _
   obtain ⟨W0, hW0⟩ : ∃ W0, ((w1.alloc (.map #[] 0)).alloc (.cells #[.map (some w1.heap.size)] 79)).alloc (.cells #[.slice A ys.length c] 46) = W0 := ⟨_, rfl⟩
   have hs0 : W0.heap.size = w1.heap.size + 3 := by rw [← hW0]; simp
   have hm1 : mapS W0 w1.heap.size 0 (.map []) := by rw [← hW0]; exact (hm0.alloc _).alloc _
   rw [hW0] at bS bN hB0 ⊢
   have hbr1 : BackRowD ds w1 w1.heap.size A ys := ⟨fun j y hy => by
    obtain ⟨h1, b, off, e, hbn, h2⟩ := (HBr.out w1 hb1).at_ j y hy
    exact ⟨h1, b, off, e, Nat.lt_of_lt_of_le hbn hb1.size, h2⟩⟩
   clear hmm hm0 hW0
   refine wpIn_wide.1 (wpIn_rangeFunc_ownH (F := Fence.wide) (n := 6) rfl (by omega) (gf := 71) (lb := #[.pointer (some ⟨w1.heap.size + 1 + 1, 0, none⟩)]) rfl trivial (enters_of Tryz.func71 (by kernel_rfl) rfl)
    (backD_stops ds Fence.wide 5 trivial rfl (by omega) (w1.heap.size + 1 + 1) w1.heap.size A c ys (by omega) W0 (by omega) (by omega) bN.cell (hbr1.below hB0)) KpB.t (KpB.b (by omega) (by omega)) (Below.refl _ _) (fun _ => rfl)
    (fun (pre : List (BkD ds)) W => (W.cell? ⟨w1.heap.size + 1, 0, none⟩ = some (.map (some w1.heap.size)) ∧ mapS W w1.heap.size (pre.flatMap bkL).length (textD (pre.flatMap bkL))) ∧ Below w1.heap.size w1 W ∧ w1.heap.size + 3 ≤ W.heap.size)
    (fun _ _ _ => False)
    (OwnFrom.and (fun s A B row hs hg hr => ⟨cell_kept hs.1 hg (fun r e => (hr r e).2), hs.2.kept hg (fun e => by have := (hr _ e.symm).1; omega)⟩) (OwnFrom.and (ownFrom_below (Nat.le_refl _) (by omega)) (fun _ _ _ _ hs hg _ => Nat.le_trans hs hg.size)))
    (fun _ _ _ _ _ hs _ _ => hs)
    ⟨⟨bS.cell, hm1⟩, hB0, by omega⟩
    (fun x a' _ => a' = { tmps := #[.slice A ys.length c, undef, .slice none 0 0, .int .i64 0, .int .i64 0, .pointer (some ⟨w1.heap.size + 1, 0, none⟩), undef, .slice x.1.2.A x.1.2.l.length x.1.2.c, undef, undef, undef, undef, undef, .slice A ys.length c, .int .i64 0, .int .i64 0, .bool false, undef, .map (some w1.heap.size), .slice A ys.length c, .func (.func 71) #[] #[.pointer (some ⟨w1.heap.size + 1 + 1, 0, none⟩)], .int .i64 (x.1.1 : Int), .slice x.1.2.A x.1.2.l.length x.1.2.c, undef, undef, undef, undef, undef, undef, undef, undef, undef, undef, undef, undef, undef, undef, undef, undef, undef, undef, undef, undef, undef, undef, undef, undef, undef, undef, undef, undef, undef, undef, undef, undef], defers := [] })
    ?hAx ?assign ?body ?done ?stop)
   case assign =>
    rintro l pre x W K hi hK
    obtain ⟨x, hx⟩ := x
    gi_wp2
    exact hK _ _ (KeepsFrom.refl _ _) ⟨Below.refl _ _, rfl⟩ hi rfl
   case hAx =>
    rintro x a' s A B row h1 hg hr
    exact h1
   case stop =>
    rintro D c pre W _ _ h _
    exact h.elim
   case body =>
    rintro l pre x a' W hl ⟨r, hr⟩ ⟨⟨hc, hown⟩, hB, hW3⟩ rfl hlt
    obtain ⟨⟨ix, d⟩, hd⟩ := x
    have hN := HDl.out d hd
    have hpl := flat_len 100000 HDl.out pre
    have hpl2 : (pre.flatMap bkL).length ≤ 10000000000 := by omega
    have hF : Hid (∀ m x, d.l[m]? = some x → ∃ ba off, d.A = some ⟨ba, off, none⟩ ∧ ba < w.heap.size ∧ ∀ W, Below w.heap.size w W → W.cell? ⟨ba, off + m * 2, none⟩ = some (.string x.name) ∧ W.cell? ⟨ba, off + m * 2 + 1, none⟩ = some (.string x.val)) := Lib.hid fun m x hx => (H.out.inner d hd).fileX hx
    have hOk := Lib.hid (HSz.out d hd)
    have HPre : Hid ((pre ++ [(⟨(ix, d), hd⟩ : BkD ds)]).flatMap bkL = pre.flatMap bkL ++ d.l) := Lib.hid (by simp [bkL])
    have HOwn := Lib.hid hown
    have HC := Lib.hid hc
    have HBw := Lib.hid hB
    dsimp only
    generalize hpp : pre.flatMap bkL = pl at *
    obtain ⟨dA, dc, dl⟩ := d
    dsimp only at *
    generalize hNN : dl.length = N at *
    have HNN := Lib.hid hNN
    clear hNN hpp hown hpl hr
    gi_wp2
    gi_loopw [25] (fun s25 wr => ∃ m : Nat, m ≤ N ∧ s25 = .int .i64 m ∧ Hid (mapS wr w1.heap.size (pl.length + m) (textD (pl ++ dl.take m))) ∧ Hid (wr.cell? ⟨w1.heap.size + 1, 0, none⟩ = some (.map (some w1.heap.size))) ∧ Hid (KeepsFrom W0.heap.size W wr) ∧ Hid (KpB w1.heap.size (w1.heap.size + 1 + 1) W wr) ∧ w1.heap.size + 3 ≤ wr.heap.size) (fun s25 _ => N - (intOf s25).toNat)
    case atStart => exact ⟨0, Nat.zero_le _, rfl, by rw [List.take_zero, List.append_nil]; exact HOwn.out, HC.out, KeepsFrom.refl _ _, ⟨Below.refl _ _, rfl⟩, hW3⟩
    case round =>
     obtain ⟨m, hm, rfl, hMp, hCb, hKf, hKp, hsz3⟩ := hrel
     by_cases hltm : m < N
     · have hltmI : (m : Int) < (N : Int) := by omega
       obtain ⟨x, hx⟩ : ∃ x, dl[m]? = some x := ⟨_, List.getElem?_eq_getElem (by rw [HNN.out]; exact hltm)⟩
       obtain ⟨ba, off2, rfl, hba, hcc⟩ := hF.out m x hx
       have hbe : Below w1.heap.size w1 wr := HBw.out.trans hKp.out.1
       obtain ⟨c0, c1⟩ := hcc _ (bt hb1 hbe)
       have hxok := hOk.out x (List.mem_of_getElem? hx)
       have HTk : Hid (dl.take (m + 1) = dl.take m ++ [x]) := Lib.hid (by rw [List.take_add_one, hx]; rfl)
       have hkey := WideMaps.keyOf_string_mk (P := Tryz.prog) Tryz.underlying9 hxok.1
       have hcb := hCb.out
       have hba2 : ba < wr.heap.size := Nat.lt_of_lt_of_le hba (bt hb1 hbe).size
       have hlt5 : w1.heap.size + 1 < wr.heap.size := by omega
       have hBe := Lib.hid hbe
       clear hx hcc hbe
       gi_wp2_with (first
        | (gi_at_mapUpdate; refine wpListIn_mapUpdate_own _ rfl _ _ _ 79 rfl 9 9 (Maps.string_keyed Tryz.underlying9) Tryz.underlying79 _ w1.heap.size (pl.length + m) _ rfl (hMp.out.alloc _) (by unfold maxLen; omega) _ _ _ rfl rfl hkey _ [] (plainElem_string Tryz.underlying9 hxok.2) ?_; intro w6 hown6 hgrow6))
       have HM6 : Hid (mapS w6 w1.heap.size (pl.length + (m + 1)) (textD (pl ++ dl.take (m + 1)))) := Lib.hid (by rw [HTk.out, ← List.append_assoc, textD_snoc, ← Nat.add_assoc]; exact hown6)
       obtain ⟨es, ck, hh, _⟩ := hMp.out.alloc (.cells #[.string x.name, .string x.val] 42)
       have hsz6 := hgrow6.size
       have HC6 : Hid (w6.cell? ⟨w1.heap.size + 1, 0, none⟩ = some (.map (some w1.heap.size))) := Lib.hid ((World.cell?_of_block (a := ⟨w1.heap.size + 1, 0, none⟩) (hgrow6.block (w1.heap.size + 1) (by simp; omega) (by intro e; have := Option.some.inj e; omega))).trans (by rw [World.cell?_of_block (Below.heap_alloc _ _ _ (by show w1.heap.size + 1 < _; omega))]; exact hcb))
       have HK6 : Hid (KeepsFrom W0.heap.size W w6) := Lib.hid (hKf.out.trans (((KeepsOthers.alloc _ _).from _).trans (KeepsFrom.of_grownBy hgrow6 (fun j e => by cases e; omega))))
       have HP6 : Hid (KpB w1.heap.size (w1.heap.size + 1 + 1) W w6) := Lib.hid (hKp.out.t (KpB.t ⟨(Below.refl _ _).alloc hBe.out.size _, Below.heap_alloc _ _ _ (by omega)⟩ ⟨(Below.refl _ _).grown hgrow6 (by simp; omega) (fun k e => by cases e; exact Nat.le_refl _), hgrow6.block _ (by simp; omega) (by intro e; have := Option.some.inj e; omega)⟩))
       have hw6 : w1.heap.size + 3 ≤ w6.heap.size := Nat.le_trans (by simp; omega) hsz6
       clear hown6 hgrow6 hh
       gi_wp2
       go_roundw
       case rel => exact ⟨m + 1, by omega, by go_num, HM6.out, HC6.out, HK6.out, HP6.out, hw6⟩
       case measure => simp [intOf]; omega
     · obtain rfl : m = N := by omega
       gi_wp2
       refine ⟨hKf.out, hKp.out, ⟨hCb.out, ?_⟩, HBw.out.trans hKp.out.1, hsz3⟩
       rw [HPre.out, List.length_append, HNN.out]
       have := hMp.out
       rw [List.take_of_length_le (by rw [HNN.out]; exact Nat.le_refl _)] at this
       exact this
   case done =>
    rintro D zs W hD rfl ⟨⟨hc, hown⟩, hB, hW3⟩ hK
    have hfl := flat_len 100000 HDl.out zs
    rw [HYm.out] at hown hfl
    have hfl2 : (flatB (lsOf ds)).length ≤ 100000 := HFb.out
    generalize flatB (lsOf ds) = fl at *
    have hlt5 : w1.heap.size + 1 < W.heap.size := by omega
    have HBw := Lib.hid hB
    have HK := Lib.hid hK
    have hDl := (Array.getElem?_eq_some_iff.1 hK).1
    have hszD : Maps.size (textD fl) ≤ fl.length := by rw [textD_size]; have := len_namesS (fl.map nm); rwa [List.length_map] at this
    clear hfl HFb hK bS bN hm1 hbr1 HBr H HSz HDl HYm hB0 HCk
    go_wp2_with (at_range; refine wpList_range_own _ rfl _ 79 rfl 9 9 lawS Tryz.underlying79 _ w1.heap.size fl.length _ rfl (hown.alloc _) ?_; intro w2 hrg0 hg0 hs0)
    go_frame
    simp only [World.size_alloc]
    rw [World.size_alloc] at hrg0 hs0
    have hB2 : Below W.heap.size W w2 := (below_alloc W _).trans ((grown_none hg0).mono (by simp))
    have HX2 := Lib.hid ((hg0.block W.heap.size (by simp) (by simp)).trans (heap_alloc_new W _))
    have HR0 := Lib.hid hrg0
    have HB2 := Lib.hid hB2
    clear hrg0 hg0 hB2
    go_loopw [11] (fun s11 wr => ∃ (left : Lit → Bool) (cnt : Nat) (ss : List Str) (v : Value) (out : List At), Hid (wr.ranges Tryz.prog 9 (plainElem (H := Unit) Tryz.prog 9) w1.heap.size (W.heap.size + 1) fl.length (textD fl) left cnt) ∧ Hid (Collected (textD fl) left ss) ∧ Hid (wr.heap[W.heap.size]? = some (.cells #[v] 40 (0, 0))) ∧ Hid (wr.ownsRow (W.heap.size + 2) 42 2 v out.length (cellsOf encAt out)) ∧ Hid (out = ss.filterMap (keepF (lsOf ds))) ∧ ss.length + cnt ≤ fl.length ∧ out.length ≤ ss.length ∧ Hid (Below W.heap.size W wr) ∧ W.heap.size + 2 ≤ wr.heap.size) (fun _ wr => wr.rangeLeft w1.heap.size (W.heap.size + 1))
    case atStart => exact ⟨_, _, [], _, [], HR0.out, Collected.start _, HX2.out, World.ownsRow_nil _ _ _ _, rfl, by simpa using hszD, Nat.le_refl _, HB2.out, by omega⟩
    case round =>
     obtain ⟨left, cnt, ss, v, out, hrg, hC, hX, hOw, hOut, hcs, hos, hBl, hwz⟩ := hrel
     have hcb : wr.cell? ⟨W.heap.size, 0, none⟩ = some v := by rw [cell_of_row _ _ 0 _ _ _ hX.out]; rfl
     have hfb : wr.frozen? ⟨W.heap.size, 0, none⟩ = false := frozen_of_row _ _ _ _ _ hX.out
     have hne : v.ownBlock ≠ some W.heap.size := fun e => by have := (hOw.out.lt _ e).1; omega
     have hneR : v.ownBlock ≠ some (W.heap.size + 1) := fun e => by have := (hOw.out.lt _ e).1; omega
     go_wp2_with (at_next; refine wpList_next_ranges _ rfl _ rfl 9 lawS (plainElem (H := Unit) Tryz.prog 9) Value.string Value.string (fun key kl hk => by obtain ⟨x, hx, _⟩ := Maps.keyOf_str Tryz.underlying9 hk; exact ⟨⟨x.toArray⟩, hx⟩) (fun v y hv => by obtain ⟨x, hx, _⟩ := plainElem_string_inv Tryz.underlying9 hv; exact ⟨x, hx⟩) w1.heap.size (W.heap.size + 1) fl.length _ _ _ rfl hrg.out ?_ ?_)
     · intro hc0 hl0
       have hss : ∀ x, x ∈ ss ↔ (pickF (lsOf ds) x).isSome = true := fun x => by
        rw [hC.out.2 x, textD_has, HFl.out]
        exact ⟨fun h => h.1, fun h => ⟨h, hl0 _⟩⟩
       have HSs := Lib.hid hss
       have HCn := Lib.hid hC.out.1
       obtain ⟨A2, c2, rfl, hc2⟩ := own_slice2 hOw.out
       have HSrt := Lib.hid (SortOwn_any hOw.out (by omega) hcb hne)
       unfold SortPost at HSrt
       clear hss hl0 hc0
       go_wp2_with (go_at_call 43; refine HSrt.out.mono ?_; rintro e w9 ⟨rfl, l', hperm, hpw, hrow9, hg9⟩; have hcb9 := (World.cell?_of_block (a := ⟨W.heap.size, 0, none⟩) (hg9.block W.heap.size (by omega) (fun e => hne e.symm))).trans hcb)
       have hl' : l' = mergeL (lsOf ds) := merge_sorted HCn.out HSs.out (by rw [← hOut.out]; exact hperm) hpw
       have hlen : l'.length = out.length := hperm.length_eq
       have hBl9 : Below w1.heap.size w1 w9 := (HBw.out.trans (hBl.out.mono HBw.out.size)).grown hg9 (by have := HBw.out.size; omega) (fun j e => by have := (hOw.out.lt j e).1; have := HBw.out.size; omega)
       have hD9 : w9.heap[D]? = some (.deferred (some [])) := (hg9.block D (by omega) (fun e => by have := (hOw.out.lt D e.symm).1; omega)).trans ((hBl.out.block D hDl).trans HK.out)
       refine ⟨by simp, .inl ⟨_, _, rfl, run_takeDeferred hD9, ?_⟩⟩
       refine ⟨.tuple #[.slice A2 out.length c2, .int .i64 0], by simp [results, Tryz.results20, go_sem], ?_⟩
       unfold FilesPost
       rw [HMf.out, ← hl', hlen]
       have hp := grownBy_putObj' w9 D (.deferred none)
       refine ⟨A2, c2, rfl, hc2, ?_, (bt hb1 hBl9).trans ((belowK_b (w := w) (Nat.le_refl _) w9 D _ _ (Nat.le_trans hb1.size (by omega)) hD9 rfl rfl))⟩
       rw [hlen] at hrow9
       refine (hrow9.grown (Nat.le_refl _) hp (fun h0 a ea e => ?_)).up hp.size
       subst ea
       have h1 := (hOw.out.lt a.block rfl).1
       have := Option.some.inj e
       omega
     · intro x cv kl yd yp w3 cnt2 hkey hlk hv hat hrg2 hlt hg2 hs2 hen
       obtain ⟨x', ex, rfl, _⟩ := Maps.keyOf_str Tryz.underlying9 hkey
       obtain rfl : x' = L x := by
        have : x = bs x' := by injection ex
        rw [this, L_bs]
       obtain ⟨s', es, ez, _⟩ := plainElem_string_inv Tryz.underlying9 hv
       obtain rfl : cv = s' := by injection es
       obtain rfl : yd = .lit (.string (L cv)) := (Prod.mk.inj ez).1
       obtain ⟨f, hf1, hf2⟩ := at_pick hat
       have hf3 := (findF_name hf1).1
       rw [HFl.out] at hf1
       obtain rfl : f = ⟨x, cv⟩ := by
        obtain ⟨fn, fv⟩ := f
        rw [show fn = x from L_inj hf3, show fv = cv from L_inj hf2]
       have HC2 := Lib.hid (hC.out.step hlk hat)
       have HR2 := Lib.hid hrg2
       have HX3 : Hid (w3.heap[W.heap.size]? = some (.cells #[v] 40 (0, 0))) := Lib.hid ((hg2.block W.heap.size (by omega) (by intro e; have := Option.some.inj e; omega)).trans hX.out)
       have HO3 := Lib.hid (hOw.out.kept hg2 (Or.inr hneR))
       have HB3 : Hid (Below W.heap.size W w3) := Lib.hid (hBl.out.grown hg2 (by omega) (fun k e => by cases e; omega))
       have hw3 : W.heap.size + 2 ≤ w3.heap.size := Nat.le_trans hwz hg2.size
       have hcb3 : w3.cell? ⟨W.heap.size, 0, none⟩ = some v := by rw [cell_of_row _ _ 0 _ _ _ HX3.out]; rfl
       have HPk := Lib.hid hf1
       have HLt : Hid (∀ wq : World, wq.rangeLeft w1.heap.size (W.heap.size + 1) = cnt2 → wq.rangeLeft w1.heap.size (W.heap.size + 1) < wr.rangeLeft w1.heap.size (W.heap.size + 1)) := Lib.hid fun wq e => by rw [e, hrg.out.left_eq]; exact hlt
       have hlt' : cnt2 < cnt := hlt
       clear hs2 hkey hlk hv hat hrg2 hg2 hf1 hf2 hf3 ez es ex hlt hcb hfb
       cases hve : (L cv).isEmpty with
       | true =>
         have HKn : Hid (keepF (lsOf ds) (L x) = none) := Lib.hid (keep_no HPk.out hve)
         have hv1 : cv.toList.isEmpty = true := by rw [tl]; exact hve
         have hv2 : cv.toList = [] := by rw [tl]; simpa using hve
         clear hve
         go_wp2
         go_roundw
         case rel => exact ⟨_, cnt2, ss ++ [L x], v, out, HR2.out, HC2.out, HX3.out, HO3.out, (by show out = _; rw [List.filterMap_append, ← hOut.out]; simp [HKn.out]), by simp; omega, by simp; omega, HB3.out, hw3⟩
         case measure => exact HLt.out _ HR2.out.left_eq
       | false =>
         have HKn : Hid (keepF (lsOf ds) (L x) = some ⟨x, cv⟩) := Lib.hid (keep_yes HPk.out hve)
         have hv1 : cv.toList.isEmpty = false := by rw [tl]; exact hve
         have hv2 : ¬ cv.toList = [] := by rw [tl]; simpa using hve
         clear hve
         go_wp2_with (at_builtin; refine wpList_append_lies _ rfl _ _ _ (by rfl) (W.heap.size + 2) 42 i0 _ 2 32 Tryz.underlying40 Hi0.out Hz0.out Hz1.out Hz2.out rfl (by omega) v out.length (cellsOf encAt out) (by rfl) (HO3.out.alloc _) _ 1 1 (encAt ⟨x, cv⟩) (by rfl) (by rfl) (by exact World.news_of_block (B := w3.heap.size) (heap_alloc_new _ _)) (encAt_one _) (by omega) (by unfold maxLen; omega) (by omega) (by simp; omega) _ rfl ?_; intro g2 cap w9 hown9 hgrow9 hat9 hlt9; have hX9 : w9.heap[W.heap.size]? = some (.cells #[v] 40 (0, 0)) := (hgrow9.block W.heap.size (by simp; omega) (fun e => hne e.symm)).trans ((Below.heap_alloc _ _ _ (by omega)).trans HX3.out); have hcb9 : w9.cell? ⟨W.heap.size, 0, none⟩ = some v := (cell_of_row _ _ 0 _ _ _ hX9).trans rfl; have hfb9 : w9.frozen? ⟨W.heap.size, 0, none⟩ = false := frozen_of_row _ _ _ _ _ hX9)
         have HR9 := Lib.hid (((HR2.out.alloc _).kept hgrow9 (fun e => by have := (HO3.out.lt _ e.symm).1; omega) (fun e => hneR e.symm)).kept (grown_set w9 W.heap.size 0 (.slice (some ⟨g2, 0, none⟩) (out.length + 1) cap)) (by intro e; have := Option.some.inj e; omega) (by intro e; have := Option.some.inj e; omega))
         have HO9 := Lib.hid ((own_snoc hown9).kept (grown_set w9 W.heap.size 0 (.slice (some ⟨g2, 0, none⟩) (out.length + 1) cap)) (Or.inr (by intro e; have := (hown9.lt _ e).1; omega)))
         have HX10 : Hid ((w9.setCell ⟨W.heap.size, 0, none⟩ (.slice (some ⟨g2, 0, none⟩) (out.length + 1) cap)).heap[W.heap.size]? = some (.cells #[.slice (some ⟨g2, 0, none⟩) (out.length + 1) cap] 40 (0, 0))) := Lib.hid (by rw [heap_setCell_same _ _ _ _ _ _ hX9]; rfl)
         have HB9 : Hid (Below W.heap.size W (w9.setCell ⟨W.heap.size, 0, none⟩ (.slice (some ⟨g2, 0, none⟩) (out.length + 1) cap))) := Lib.hid (((HB3.out.alloc (by omega) _).grown hgrow9 (by simp; omega) (fun j e => by have := (HO3.out.lt j e).1; omega)).setCell (p := ⟨W.heap.size, 0, none⟩) (Nat.le_refl _) _)
         have hw9 : W.heap.size + 2 ≤ (w9.setCell ⟨W.heap.size, 0, none⟩ (.slice (some ⟨g2, 0, none⟩) (out.length + 1) cap)).heap.size := by
          have h1 := hgrow9.size
          simp only [World.size_alloc] at h1
          simp [World.setCell]
          omega
         clear hX9 hcb9 hfb9 hgrow9 hown9 hat9 hlt9
         go_roundw
         case rel => exact ⟨_, cnt2, ss ++ [L x], .slice (some ⟨g2, 0, none⟩) (out.length + 1) cap, out ++ [(⟨x, cv⟩ : At)], HR9.out, HC2.out, HX10.out, HO9.out, (by show out ++ _ = _; rw [List.filterMap_append, ← hOut.out]; simp [HKn.out]), by simp; omega, by simp; omega, HB9.out, hw9⟩
         case measure => exact HLt.out _ HR9.out.left_eq
 · have HMf : Hid (mergeF (lsOf ds) = ([], checkF (lsOf ds))) := Lib.hid (by rw [mergeF, if_neg hce])
   generalize checkF (lsOf ds) = ce at *
   have hne : (ce == 0) = false := by simp [hce]
   have hnn : (ce != 0) = true := by simp [hce]
   generalize ds.length = N at *
   clear hce h hb hsz
   go_enter Tryz.func20, Tryz.ntmps20
   go_wp2_with (go_at_call 41; refine HCk.out.mono ?_; rintro e w1 ⟨rfl, hb1⟩)
   go_ret2
   unfold FilesPost
   rw [HMf.out]
   exact ⟨none, 0, rfl, Nat.le_refl _, ⟨rfl, fun h => absurd h (Nat.lt_irrefl 0)⟩, hb1⟩
end Go.Proofs.YtibflgfhjfcifaaGreatDoor
namespace Go.Proofs.YtibflgfhjfcifaaGreatDoor
open Go.RowKit
set_option maxRecDepth 100000 in
set_option maxHeartbeats 1000000 in
theorem SameFiles_yes (A A' : Option Addr) (c c' : Nat) (l : List At) (w : World) (hn : l.length ≤ 1000000) (h : RowAt w w.heap.size A 2 l.length (cellsOf encAt l)) (h' : RowAt w w.heap.size A' 2 l.length (cellsOf encAt l)) :
 Calls Tryz.prog 35 #[.slice A l.length c, .slice A' l.length c'] w fun e w' => e = .returned (.bool true) ∧ Below w.heap.size w w' := by
 have H := Lib.hid h
 have H' := Lib.hid h'
 clear h h'
 generalize hN : l.length = N at *
 have HN := Lib.hid hN
 clear hN
 go_enter Tryz.func35, Tryz.ntmps35
 go_wp2
 go_loopw [5] (fun i wr => ∃ k : Nat, k ≤ N ∧ i = .int .i64 k ∧ Hid (Below w.heap.size w wr)) (fun i _ => N - (intOf i).toNat)
 case atStart => exact ⟨0, Nat.zero_le _, rfl, Below.refl _ _⟩
 case round =>
  obtain ⟨k, hk, rfl, hdr⟩ := hrel
  by_cases hlt : k < N
  · obtain ⟨x, hx⟩ : ∃ x, l[k]? = some x := ⟨_, List.getElem?_eq_getElem (by rw [HN.out]; exact hlt)⟩
    have hr := H.out
    have hr' := H'.out
    rw [← HN.out] at hr hr'
    obtain ⟨ba, off, hA, hba, hcc⟩ := hr.fileX hx
    obtain ⟨ba', off', hA', hba', hcc'⟩ := hr'.fileX hx
    obtain ⟨c0, c1⟩ := hcc _ hdr.out
    obtain ⟨d0, d1⟩ := hcc' _ hdr.out
    subst hA hA'
    have hltI : (k : Int) < (N : Int) := by omega
    have hNI : (N : Int) ≤ 1000000 := by omega
    clear hr hr' hcc hcc' hx hba hba'
    go_wp2
    go_quiet (fail)
    go_wp2
    exact ⟨⟨k + 1, by omega, by go_num, below_drewN hdr.out _⟩, by simp [intOf]; omega⟩
  · obtain rfl : k = N := by omega
    go_wp2
    go_ret
    exact ⟨rfl, hdr.out⟩
def kd1 : List At := [⟨⟨#[53, 48, 45, 98]⟩, ⟨#[66, 49]⟩⟩, ⟨⟨#[49, 48, 45, 97]⟩, ⟨#[65]⟩⟩]
def kd2 : List At := [⟨⟨#[53, 48, 45, 98]⟩, ⟨#[66, 50]⟩⟩, ⟨⟨#[57, 48, 45, 99]⟩, ⟨#[]⟩⟩, ⟨⟨#[50, 48, 45, 100]⟩, ⟨#[68]⟩⟩]
def kd3 : List At := [⟨⟨#[49, 48, 45, 97]⟩, ⟨#[65]⟩⟩, ⟨⟨#[50, 48, 45, 100]⟩, ⟨#[68]⟩⟩, ⟨⟨#[53, 48, 45, 98]⟩, ⟨#[66, 49]⟩⟩]
theorem known_val : mergeF [kd1, kd2] = (kd3, 0) := by
 have hc : checkF [kd1, kd2] = 0 := by decide +kernel
 have hm : mergeL [kd1, kd2] = kd3 := by kernel_rfl
 rw [mergeF, if_pos hc, hm]
theorem RowAt.of_cells {W : World} {g : Nat} {T : TypeId} {C : Array Value} {k n : Nat} {xs : List Value} (h : W.heap[g]? = some (.cells C T (0, 0))) (hx : C.toList = xs) (hl : xs.length = n * k) : RowAt W W.heap.size (some ⟨g, 0, none⟩) k n xs :=
 ⟨hl, fun _ => ⟨g, 0, rfl, blk_lt' h, fun j u hu => by
  rw [Nat.zero_add, cell_of_row _ _ j _ _ _ h, ← Array.getElem?_toList, hx]; exact hu⟩⟩
set_option maxRecDepth 100000 in
set_option maxHeartbeats 2000000 in
theorem known_any (w : World) :
 Calls Tryz.prog 15 #[] w fun e w' => e = .returned (.bool true) ∧ Below w.heap.size w w' := by
 have HM : Hid (∀ W, W.heap[w.heap.size]? = some (.cells #[.string ⟨#[53, 48, 45, 98]⟩, .string ⟨#[66, 49]⟩, .string ⟨#[49, 48, 45, 97]⟩, .string ⟨#[65]⟩] 42 (0, 0)) → W.heap[w.heap.size + 1]? = some (.cells #[.string ⟨#[53, 48, 45, 98]⟩, .string ⟨#[66, 50]⟩, .string ⟨#[57, 48, 45, 99]⟩, .string ⟨#[]⟩, .string ⟨#[50, 48, 45, 100]⟩, .string ⟨#[68]⟩] 42 (0, 0)) →
  W.heap[w.heap.size + 2]? = some (.cells #[.slice (some ⟨w.heap.size, 0, none⟩) 2 2, .slice (some ⟨w.heap.size + 1, 0, none⟩) 3 3] 40 (0, 0)) → Calls Tryz.prog 20 #[.slice (some ⟨w.heap.size + 2, 0, none⟩) 2 2] W (FilesPost (kd3, 0) W)) := Lib.hid fun W h0 h1 h2 => by
  have hd : DirsAt W (some ⟨w.heap.size + 2, 0, none⟩) [⟨some ⟨w.heap.size, 0, none⟩, 2, kd1⟩, ⟨some ⟨w.heap.size + 1, 0, none⟩, 3, kd2⟩] := by
   refine ⟨RowAt.of_cells h2 rfl rfl, fun d hd => ?_, fun d hd => ?_⟩
   · rcases List.mem_cons.1 hd with rfl | hd
     · exact RowAt.of_cells h0 rfl rfl
     · obtain rfl := List.mem_singleton.1 hd
       exact RowAt.of_cells h1 rfl rfl
   · rcases List.mem_cons.1 hd with rfl | hd
     · exact Nat.le_refl _
     · obtain rfl := List.mem_singleton.1 hd
       exact Nat.le_refl _
  have hok : ∀ d ∈ [kd1, kd2], ∀ x ∈ d, x.name.size ≤ 100 ∧ x.val.size ≤ 100 := by decide
  have := PMergeD_any _ 2 _ W hd (by show (7 : Nat) ≤ 100000; omega) (fun d hd x hx => by
   have h3 : x.name.size ≤ 100 ∧ x.val.size ≤ 100 := by
    rcases List.mem_cons.1 hd with rfl | hd
    · exact hok kd1 (by simp) x hx
    · obtain rfl := List.mem_singleton.1 hd
      exact hok kd2 (by simp) x hx
   unfold FileOk maxLen
   omega)
  rw [show lsOf [(⟨some ⟨w.heap.size, 0, none⟩, 2, kd1⟩ : Ls At), ⟨some ⟨w.heap.size + 1, 0, none⟩, 3, kd2⟩] = [kd1, kd2] from rfl, known_val] at this
  exact this
 go_enter Tryz.func15, Tryz.ntmps15
 go_wp2_with fail
 refine (HM.out _ (alloc3 _ _ _ _).2.1 (alloc3 _ _ _ _).2.2.1 (alloc3 _ _ _ _).2.2.2.1).mono ?_
 rintro e w1 ⟨A, c, rfl, hc, hr, hb⟩
 have hb1 := (alloc3 w _ _ _).2.2.2.2.trans (hb.mono (alloc3 w _ _ _).2.2.2.2.size)
 have HB1 := Lib.hid hb1
 have HS : Hid (∀ W, Below w1.heap.size w1 W → W.heap[w1.heap.size]? = some (.cells #[.string ⟨#[49, 48, 45, 97]⟩, .string ⟨#[65]⟩, .string ⟨#[50, 48, 45, 100]⟩, .string ⟨#[68]⟩, .string ⟨#[53, 48, 45, 98]⟩, .string ⟨#[66, 49]⟩] 42 (0, 0)) → Calls Tryz.prog 35 #[.slice A 3 c, .slice (some ⟨w1.heap.size, 0, none⟩) 3 3] W fun e w' => e = .returned (.bool true) ∧ Below W.heap.size W w') := Lib.hid fun W hW h0 =>
  SameFiles_yes A (some ⟨w1.heap.size, 0, none⟩) c 3 kd3 W (by decide) ((hr.keep hW).up hW.size) (RowAt.of_cells h0 rfl rfl)
 clear hb hb1 hr hc
 have e0 : ((⟨kd3, 0⟩ : List At × Int).2 == 0) = true := rfl
 go_wp2_with (go_at_call 35; refine (HS.out _ (below_alloc _ _) (heap_alloc_new _ _)).mono ?_; rintro e w5 ⟨rfl, hb5⟩; have HB5 := Lib.hid (bt HB1.out (bt (below_alloc _ _) hb5)); clear hb5)
 go_ret
 exact ⟨rfl, HB5.out⟩
end Go.Proofs.YtibflgfhjfcifaaGreatDoor
namespace Go.Proofs.YtibflgfhjfcifaaGreatDoor
open Go.RowKit
theorem fileN_ok : fileN.Nodup ∧ ∀ n ∈ fileN, validS n = true ∧ n.length ≤ 100 := by decide +kernel
theorem sub_mem {l : List At} {i : Nat} (h : SubOk l i) {x : At} (hx : x ∈ l) : nm x ∈ fileN := (List.take_subset _ _) (h.1.subset (List.mem_map.2 ⟨x, hx, rfl⟩))
theorem sub_good {l : List At} (h : SubOk l 3) : badD l = false := by
 refine good_of ((h.1.trans (List.take_sublist _ _)).nodup fileN_ok.1) (List.all_eq_true.2 fun x hx => (fileN_ok.2 _ (sub_mem h hx)).1)
theorem made_ok {ls : List (List At)} (h : MadeD ls) : ∀ l ∈ ls, ∀ x ∈ l, x.name.size ≤ 100 ∧ x.val.size ≤ 6000 := fun l hl x hx => by
 refine ⟨?_, (h l hl).2 x hx⟩
 have := (fileN_ok.2 _ (sub_mem (h l hl) hx)).2
 rwa [nm, len_L] at this
theorem allN_le {ls : List (List At)} (h : MadeD ls) : (allN ls).length ≤ 3 * ls.length := by
 induction ls with
 | nil => simp [allN]
 | cons l r ih =>
   have h1 := sub_len (h l (by simp))
   have h2 := ih (fun x hx => h x (by simp [hx]))
   have e : allN (l :: r) = l.map nm ++ allN r := by simp [allN]
   rw [e, List.length_append, List.length_map, List.length_cons]
   omega
theorem made_check {ls : List (List At)} (h : MadeD ls) (hl : ls.length ≤ 10) : checkF ls = 0 := by
 rw [check_good (fun d hd => sub_good (h d hd)), if_neg]
 have h1 := len_namesS (allN ls)
 have h2 := allN_le h
 omega
theorem mergeL_len (ls : List (List At)) : (mergeL ls).length ≤ (allN ls).length := Nat.le_trans (List.length_filterMap_le _ _) (len_namesS _)
end Go.Proofs.YtibflgfhjfcifaaGreatDoor
namespace Go.Proofs.YtibflgfhjfcifaaGreatDoor
open Go.RowKit
theorem madeOk {ds : List (Ls At)} (h : MadeD (lsOf ds)) : ∀ d ∈ ds, ∀ x ∈ d.l, FileOk x := fun d hd x hx => by
 have := made_ok h d.l (List.mem_map.2 ⟨d, hd, rfl⟩) x hx
 unfold FileOk maxLen
 omega
theorem bulk_made {ds : List (Ls At)} (h : MadeD (lsOf ds)) (hl : ds.length ≤ 2) : bulk ds ≤ 8 := by
 have : ∀ d ∈ ds, d.l.length ≤ 3 := fun d hd => sub_len (h d.l (List.mem_map.2 ⟨d, hd, rfl⟩))
 clear h
 have h2 : bulk ds ≤ 4 * ds.length := by
  clear hl
  induction ds with
  | nil => simp [bulk]
  | cons d r ih =>
    have h1 := this d (by simp)
    have h2 := ih (fun x hx => this x (by simp [hx]))
    rw [bulk_cons, List.length_cons]
    omega
 omega
end Go.Proofs.YtibflgfhjfcifaaGreatDoor
namespace Go.Proofs.YtibflgfhjfcifaaGreatDoor
open Go.RowKit
def NewDirs (w : World) (e : Ending) (w' : World) : Prop := ∃ A c ds, e = .returned (.slice A ds.length c) ∧ DirsAt w' A ds ∧ MadeD (lsOf ds) ∧ 1 ≤ ds.length ∧ ds.length ≤ 2 ∧ ds.length ≤ c ∧ Below w.heap.size w w'
theorem Dirs_new {w : World} {A : Option Addr} {n : Nat} (c : Nat) (hE : Env0 w) (hI : IntsIn w A n) :
 Calls Tryz.prog 17 #[.pointer (some ⟨w.heap.size, 0, none⟩)] (w.alloc (.cells #[.slice A n c, .int .i64 0] 27)) (NewDirs w) := by
 have hT := TSt.start (hI.tape c 27)
 have hE1 := hE.go (below_alloc w (.cells #[.slice A n c, .int .i64 0] 27))
 have hs := hE.size
 refine (Dirs_any (n := n) (p := 0) (d := 0) hT hE1 hs (by omega)).mono ?_
 rintro e w2 ⟨v, vs, ls, rfl, hl1, hl2, hN, hMd, hT2⟩
 obtain ⟨A1, c1, ds, rfl, rfl, _, hD, hdc⟩ := hN.dirs
 have hdl : (lsOf ds).length = ds.length := by simp [lsOf]
 exact ⟨A1, c1, ds, rfl, hD, hMd, by omega, by omega, hdc, grown_back (below_alloc w _) hT2.gr (Nat.le_refl _)⟩
theorem pickF_mem {ds : List (List At)} {n : Str} {x : At} (h : pickF ds n = some x) : ∃ d ∈ ds, x ∈ d := by
 obtain ⟨d, hd, e⟩ := List.exists_of_findSome?_eq_some h
 exact ⟨d, hd, (findF_name e).2⟩
def MadeF (l : List At) : Prop := l.length ≤ 8 ∧ ∀ x ∈ l, x.name.size ≤ 100 ∧ x.val.size ≤ 6000
theorem madeF_of {ds : List (Ls At)} (h : MadeD (lsOf ds)) (hl : ds.length ≤ 2) : MadeF (mergeL (lsOf ds)) := by
 refine ⟨Nat.le_trans (mergeL_len _) (Nat.le_trans (allN_len ds) (bulk_made h hl)), fun x hx => ?_⟩
 obtain ⟨d, hd, hxd⟩ := pickF_mem (mem_mergeL.1 hx).1
 exact made_ok h d hd x hxd
theorem MadeF.ok {l : List At} (h : MadeF l) : ∀ x ∈ l, FileOk x := fun x hx => by
 have := h.2 x hx
 unfold FileOk maxLen
 omega
def NewFiles (w : World) (e : Ending) (w' : World) : Prop := ∃ A c l, e = .returned (.tuple #[.slice A l.length c, .int .i64 0]) ∧ l.length ≤ c ∧ RowAt w' w'.heap.size A 2 l.length (cellsOf encAt l) ∧ MadeF l ∧ Below w.heap.size w w'
theorem RMerge_made {A : Option Addr} {c : Nat} {ds : List (Ls At)} {w : World} (h : DirsAt w A ds) (hm : MadeD (lsOf ds)) (hl : ds.length ≤ 2) :
 Calls Tryz.prog 16 #[.slice A ds.length c] w (NewFiles w) := by
 have hb := bulk_made hm hl
 have h1 := RMergeD_any A c ds w h (by omega) (fun d hd x hx => by have := (madeOk hm d hd x hx).1; unfold maxLen at this; exact this)
 have hls : (lsOf ds).length = ds.length := by simp [lsOf]
 rw [mergeF, if_pos (made_check hm (by omega))] at h1
 refine h1.mono ?_
 rintro e w' ⟨A', c', rfl, hc, hr, hb'⟩
 exact ⟨A', c', _, rfl, hc, hr, madeF_of hm hl, hb'⟩
end Go.Proofs.YtibflgfhjfcifaaGreatDoor
