/-
  slices.Backward at a row of directories: its iterator, for every loop body that keeps the row and the box.
  sort.Slice at a row of files, by their names: a permutation of what the row held, ascending.
  sort.Slice at a row of files of the call's own, of any length.
  The files that count, in plain words: what a map from names to texts holds behind all directories; collected and sorted.
-/
import Derived.Test.YthcgkeiggnfgiaaGreatDoorG17
import Derived.RangeFuncNested
import Derived.RangeFuncBound
import Derived.RangeFuncCalls
import Derived.RangeFuncLeaves
import Derived.RangeFuncWrites
import Derived.Shelf.Abstract
import Derived.Shelf.RegionOpen
import Derived.OwnWalkIn
import Derived.TacticsInMore
import Derived.LoopNIn
import Derived.LoopIn
import Derived.Maps.OwnIn
import Derived.Test.YthcgkeiggnfgiaaGreatDoorG13
import Derived.Test.YthcgkeiggnfgiaaGreatDoorShelf
import Derived.Shelf.SlSortFuncK.WholeK
import Derived.Deep.QuietTactic
import Derived.Test.YthcgkeiggnfgiaaGreatDoorG01
import Derived.Laws.OwnMore
import Derived.Shelf.GgSortFunc.Tiny
import Derived.Sort.KeysCollected
namespace Go.Proofs.YthcgkeiggnfgiaaGreatDoor
open Go.RowKit Go.Shelf
attribute [local go_sem] Oper.semAt_some
/-- A directory and its place. -/
abbrev BkD (ds : List (Ls At)) := { x : Nat × Ls At // x.2 ∈ ds }
abbrev encBkD (ds : List (Ls At)) (x : BkD ds) : Array Value := #[.int .i64 (x.1.1 : Int), .slice x.1.2.A x.1.2.l.length x.1.2.c]
/-- The row as it is visited: from its end to its head. -/
structure BackRowD (ds : List (Ls At)) (w : World) (n₀ : Nat) (A : Option Addr) (ys : List (BkD ds)) : Prop where
  at_ : ∀ (j : Nat) (y : BkD ds), ys[j]? = some y → y.1.1 + 1 + j = ys.length ∧ ∃ b off, A = some ⟨b, off, none⟩ ∧ b < n₀ ∧ w.cell? ⟨b, off + y.1.1, none⟩ = some (.slice y.1.2.A y.1.2.l.length y.1.2.c)
theorem BackRowD.below {ds : List (Ls At)} {w w' : World} {n₀ : Nat} {A : Option Addr} {ys : List (BkD ds)} (h : BackRowD ds w n₀ A ys) (hb : Below n₀ w w') : BackRowD ds w' n₀ A ys := ⟨fun j y hy => by
  obtain ⟨h1, b, off, e, hbn, c0⟩ := h.at_ j y hy
  exact ⟨h1, b, off, e, hbn, (hb.cell (p := ⟨b, off + y.1.1, none⟩) hbn).trans c0⟩⟩
set_option maxRecDepth 100000 in
set_option maxHeartbeats 2000000 in
theorem back1D_in (ds : List (Ls At)) (F : Fence) (n : Nat) (h8 : F.fn 89) (hro : F.round = none) (hn : 1 ≤ n) (l Bs n₀ : Nat) (A : Option Addr) (cap : Nat) (ys : List (BkD ds)) (hlen : ys.length ≤ 1000000000) (J Jx : List (BkD ds) → World → Prop)
    (hY : ∀ pre x W, J pre W → pre.length < ys.length → YieldAt F (n - 1) Tryz.prog l (encBkD ds x) W fun e W' =>
      (e = .returned (.bool true) ∧ J (pre ++ [x]) W' ∧ KpB n₀ Bs W W') ∨ (e = .returned (.bool false) ∧ Jx (pre ++ [x]) W'))
    (W : World) (hBs : W.cell? ⟨Bs, 0, none⟩ = some (.slice A ys.length cap)) (hr : BackRowD ds W n₀ A ys) (h0 : J [] W) :
    CallsIn F n Tryz.prog 89 #[.func (.yield l) #[] #[], .pointer (some ⟨Bs, 0, none⟩)] W fun e W' => (∃ v, e = .returned v) ∧
      ((∃ xs, xs = ys ∧ J xs W') ∨ (∃ pre, (∃ k, k ≤ ys.length ∧ pre = ys.take k) ∧ Jx pre W')) := by
  refine callsIn_of_wp Tryz.func89 rfl h8 ?_ hro
  have HR := Lib.hid hr
  have HY := Lib.hid hY
  have H0 := Lib.hid h0
  have HB := Lib.hid (fun W' (h : KpB n₀ Bs W W') => (World.cell?_of_block (a := ⟨Bs, 0, none⟩) h.2).trans hBs)
  clear hr hY h0
  generalize hN : ys.length = N at *
  have HN := Lib.hid hN
  clear hN
  simp only [Tryz.ntmps89, List.size_toArray, List.length_cons, List.length_nil, Nat.reduceAdd, Nat.reduceSub, Array.replicate_succ, Array.replicate_zero, List.push_toArray, List.append_toArray, List.nil_append, List.cons_append]
  gi_wp2
  gi_loopw [3] (fun i wr => ∃ m : Nat, m ≤ N ∧ i = .int .i64 ((m : Int) - 1) ∧ Hid (J (ys.take (N - m)) wr) ∧ Hid (KpB n₀ Bs W wr)) (fun i _ => (intOf i + 1).toNat)
  case atStart => exact ⟨N, Nat.le_refl _, rfl, by rw [Nat.sub_self]; exact H0.out, Below.refl _ _, rfl⟩
  case round =>
    obtain ⟨m, hm, rfl, hJ, hK⟩ := hrel
    cases m with
    | zero =>
      gi_wp2
      go_end0
      refine ⟨⟨_, rfl⟩, .inl ⟨_, rfl, ?_⟩⟩
      have := hJ.out
      rw [Nat.sub_zero, List.take_of_length_le (by rw [HN.out]; exact Nat.le_refl _)] at this
      exact this
    | succ j =>
      have hji : ((j + 1 : Nat) : Int) - 1 = (j : Int) := by omega
      rw [hji]
      have hjN : (j : Int) < (N : Int) := by omega
      obtain ⟨y, hy⟩ : ∃ y, ys[N - (j + 1)]? = some y := ⟨_, List.getElem?_eq_getElem (by rw [HN.out]; omega)⟩
      obtain ⟨hyj, b, off, rfl, hb, c0⟩ := (HR.out.below hK.out.1).at_ _ y hy
      have cB := HB.out _ hK.out
      have HT : Hid (ys.take (N - j) = ys.take (N - (j + 1)) ++ [y]) := Lib.hid (by
        rw [show N - j = N - (j + 1) + 1 from by omega, List.take_add_one, hy]; rfl)
      have hlt : (ys.take (N - (j + 1))).length < N := by rw [List.length_take, HN.out]; omega
      obtain ⟨fn, tmps, assign, body, hyy, hRr⟩ := HY.out _ y _ hJ.out hlt
      obtain ⟨⟨j', x⟩, hx⟩ := y
      have : j' = j := by dsimp only at hyj; rw [HN.out] at hyj; omega
      subst this
      dsimp only at hyy c0
      clear hy hyj hlt hji
      gi_wp2
      refine hRr.mono ?_
      rintro e W3 (⟨rfl, hJ3, hk3⟩ | ⟨rfl, hJx3⟩)
      · have HJ3 := Lib.hid hJ3
        have HK3 := Lib.hid (hK.out.t hk3)
        clear hJ3 hk3
        gi_wp2
        go_roundw
        case rel => exact ⟨j', by omega, rfl, by rw [HT.out]; exact HJ3.out, HK3.out⟩
        case measure => simp [intOf]
      · gi_wp2
        refine bodyPost_ret (results_none rfl _ _ _) rfl ?_
        exact ⟨⟨_, rfl⟩, .inr ⟨_, ⟨N - j', by omega, by rw [HT.out]⟩, hJx3⟩⟩
theorem back_listD (ds : List (Ls At)) : ∃ ys : List (BkD ds), ys.length = ds.length ∧ ys.map (fun y => y.1.2) = ds.reverse ∧ ∀ (j : Nat) (y : BkD ds), ys[j]? = some y → y.1.1 + 1 + j = ys.length ∧ ds[y.1.1]? = some y.1.2 := by
  refine ⟨List.ofFn (fun j : Fin ds.length => ⟨(ds.length - 1 - j.1, ds[ds.length - 1 - j.1]'(by omega)), List.getElem_mem _⟩), by simp, ?_, fun j y hy => ?_⟩
  · apply List.ext_getElem
    · simp
    · intro i h1 h2
      simp
  · rw [List.getElem?_ofFn] at hy
    split at hy
    · rename_i hj
      obtain rfl := Option.some.inj hy
      refine ⟨by simp; omega, ?_⟩
      exact List.getElem?_eq_getElem _
    · cases hy
theorem BackRowD.of {w : World} {A : Option Addr} {ds : List (Ls At)} {ys : List (BkD ds)} (h : DirsAt w A ds) (hy : ∀ (j : Nat) (y : BkD ds), ys[j]? = some y → y.1.1 + 1 + j = ys.length ∧ ds[y.1.1]? = some y.1.2) : BackRowD ds w w.heap.size A ys :=
  ⟨fun j y h1 => by
    obtain ⟨h2, h3⟩ := hy j y h1
    obtain ⟨hi, e⟩ := List.getElem?_eq_some_iff.1 h3
    obtain ⟨b, off, ea, hb, hc, _⟩ := h.dir hi
    have := hc w (Below.refl _ _)
    rw [e] at this
    exact ⟨h2, b, off, ea, hb, this⟩⟩
set_option maxHeartbeats 1000000 in
theorem BackwardD_in (F : Fence) (n : Nat) (h5 : F.fn 51) (hro : F.round = none) (a : Option Addr) (len cap : Nat) (w : World) :
    CallsIn F n Tryz.prog 51 #[.slice a len cap] w fun e w' => e = .returned (.func (.func 89) #[] #[.pointer (some ⟨w.heap.size, 0, none⟩)]) ∧ w' = w.alloc (.cells #[.slice a len cap] 22) := by
  refine callsIn_of_wp Tryz.func51 rfl h5 ?_ hro
  simp only [Tryz.ntmps51, List.size_toArray, List.length_cons, List.length_nil, Nat.reduceAdd, Nat.reduceSub, Array.replicate_succ, Array.replicate_zero, List.push_toArray, List.append_toArray, List.nil_append, List.cons_append]
  gi_wp2
  go_ret
  exact ⟨rfl, rfl⟩
theorem backD_stops (ds : List (Ls At)) (F : Fence) (n : Nat) (h8 : F.fn 89) (hro : F.round = none) (hn : 1 ≤ n) (Bs n₀ : Nat) (A : Option Addr) (cap : Nat) (ys : List (BkD ds)) (hlen : ys.length ≤ 1000000000) (w : World) (hB : Bs < w.heap.size) (hn₀ : n₀ ≤ w.heap.size)
    (hc : w.cell? ⟨Bs, 0, none⟩ = some (.slice A ys.length cap)) (hr : BackRowD ds w n₀ A ys) :
    SeqStopsK F n Tryz.prog 89 #[.pointer (some ⟨Bs, 0, none⟩)] (encBkD ds) (KpB n₀ Bs) (fun xs => xs = ys) (fun pre => ∃ k, k ≤ ys.length ∧ pre = ys.take k) ys.length w := fun l J Jx W hW _ _ hY h0 =>
  back1D_in ds F n h8 hro hn l Bs n₀ A cap ys hlen J Jx hY W ((hW.cell (p := ⟨Bs, 0, none⟩) hB).trans hc) (hr.below (hW.mono hn₀)) h0
end Go.Proofs.YthcgkeiggnfgiaaGreatDoor
namespace Go.Proofs.YthcgkeiggnfgiaaGreatDoor
open Go.Shelf Go.RowKit Go.Lib Go.Sort
instance : Inhabited At := ⟨⟨⟨#[]⟩, ⟨#[]⟩⟩⟩
noncomputable def sliceT : TypeInfo := (Tryz.prog.info? 31).get (by kernel_rfl)
noncomputable def fileT : TypeInfo := (Tryz.prog.info? 34).get (by kernel_rfl)
/-- 'less': by name. -/
def ltN (a b : At) : Bool := decide (nm a < nm b)
theorem swo_ltN : SWO ltN where
  irrefl := fun x => by simp [ltN]
  trans := fun x y z h1 h2 => by simp only [ltN, decide_eq_true_eq] at *; exact slt_tr h1 h2
  ntrans := fun x y z h1 h2 => by
    simp only [ltN, decide_eq_false_iff_not] at *
    intro h
    by_cases e : nm x = nm y
    · rw [e] at h; exact h2 h
    · exact h2 (slt_tr (slt_tri h1 e) h)
set_option maxHeartbeats 2000000 in
theorem Less_any (blk off c Bs size : Nat) (W : World) (G : Nat → ByteArray) (hs : W.cell? ⟨Bs, 0, none⟩ = some (.slice (some ⟨blk, off, none⟩) size c))
    (hc : ∀ t, t < size → W.cell? ⟨blk, off + t * 2, none⟩ = some (.string (G t))) (i j : Nat) (hi : i < size) (hj : j < size) (_hsz : size < 4611686018427387904) :
    Calls Tryz.prog 53 #[.int .i64 i, .int .i64 j, .pointer (some ⟨Bs, 0, none⟩)] W fun e w' => e = .returned (.bool (decide (L (G i) < L (G j)))) ∧ ∃ q, w' = W.drewN q := by
  have ci := hc i hi
  have cj := hc j hj
  clear hc
  go_enter Tryz.func53, Tryz.ntmps53
  go_wp2
  go_quiet (fail)
  go_wp2
  go_ret
  exact ⟨ret_bool (by rw [bless, tl, tl]), nq, rfl⟩
theorem swapN (n : Nat) (h2 : 2 ≤ n) : Lib.swapperK n fileT 25 = 9 := by
  have a : fileT.hasPointers = true := by kernel_rfl
  have b : fileT.bytes = 32 := by kernel_rfl
  have c : (n == 0) = false := by simp; omega
  have d : (n == 1) = false := by simp; omega
  simp [Lib.swapperK, a, b, c, d]
theorem encAt_ones (x : At) : ∀ v ∈ encAt x, v.oneCell' = true := by simp [encAt, Value.oneCell']
set_option maxHeartbeats 2000000 in
theorem SortFiles (blk off c Bs : Nat) (d : Array At) (h2 : 2 ≤ d.size) (hsz : d.size < 4611686018427387904) (w : World) (hH : HoldsK encAt 2 w blk off d) (hblk : blk < w.heap.size) (hBs : Bs < w.heap.size) (hne : Bs ≠ blk) (hs : w.cell? ⟨Bs, 0, none⟩ = some (.slice (some ⟨blk, off, none⟩) d.size c)) :
    Calls Tryz.prog 52 #[.iface 31 (.slice (some ⟨blk, off, none⟩) d.size c), .func (.func 53) #[] #[.pointer (some ⟨Bs, 0, none⟩)]] w fun e w' =>
      e = .returned (.tuple #[]) ∧ ∃ d' n os, PermIn 0 d.size d d' ∧ SortedIn ltN 0 d.size d' ∧ w' = grow (putRowK encAt 2 (Sort.ahead w n) blk off d') os := by
  have hless : LessReadsK Tryz.prog 53 #[.pointer (some ⟨Bs, 0, none⟩)] encAt 2 ltN blk off d.size w := by
    intro m os dk hd i j hi hj
    have e : sortWorldK encAt 2 w blk off m dk os = putRowK encAt 2 (grow (Sort.ahead w m) os) blk off dk := by
      unfold sortWorldK; rw [putRowK_grow _ _ (Sort.ahead w m) _ blk off _ hblk]
    have hHg : HoldsK encAt 2 (grow (Sort.ahead w m) os) blk off d := holdsK_grow _ _ _ _ blk off d hblk (holdsK_ahead _ _ _ _ _ _ _ hH)
    refine Less_any blk off c Bs d.size _ (fun t => dk[t]!.name) ?_ (fun t ht => ?_) i j hi hj (by omega)
    · rw [e, cell?_putRowK_other _ _ _ blk off dk _ (by show Bs ≠ blk; exact hne), cell?_grow _ _ _ (by show Bs < w.heap.size; exact hBs)]
      exact hs
    · rw [e]; exact ((holdsK_putRowK _ _ _ blk off d dk hHg hd).cell (i := t) (c := 0) (by omega) (by omega)).1
  exact Any.sort_Slice_cells_sorted Tryz.laysGg6 31 34 sliceT fileT (by kernel_rfl) (by kernel_rfl) (by kernel_rfl) (by kernel_rfl) 25 (fun _ => by kernel_rfl) encAt 2 encAt_len (by kernel_rfl) (fun _ => by kernel_rfl)
    encAt_ones ltN swo_ltN 53 _
    (enters_of Tryz.func53 (by kernel_rfl) rfl) blk off c d h2 hsz 147 (by rw [swapN _ h2]; kernel_rfl) false
    (fun args W => run_callFunc_extern Tryz.func147 (by kernel_rfl) (by kernel_rfl) (by kernel_rfl) (e := Extern.ReflectliteSwapper.swap false) (by kernel_rfl) args W) _ hless hH hblk
end Go.Proofs.YthcgkeiggnfgiaaGreatDoor
namespace Go.Proofs.YthcgkeiggnfgiaaGreatDoor
open Go.Shelf Go.RowKit Go.Lib Go.Sort
theorem flat_get (l : List At) (j : Nat) (hj : j < l.length * 2) : (cellsOf encAt l)[j]? = some ((flatK encAt 2 l.toArray)[j]!) := by
  have hi : j / 2 < l.length := by omega
  rw [get_flatK encAt 2 l.toArray j (by simpa using hj)]
  have h1 := cellsOf_get encAt 2 encAt_len l (j / 2) (j % 2) l[j / 2] (List.getElem?_eq_getElem hi) (by omega)
  rw [show j / 2 * 2 + j % 2 = j from by omega] at h1
  rw [h1]
  have e : (l.toArray[j / 2]!) = l[j / 2] := by rw [getElem!_pos _ _ (by simpa using hi)]; simp
  rw [e]
  rcases (by omega : j % 2 = 0 ∨ j % 2 = 1) with h | h <;> rw [h] <;> rfl
theorem holds_own {w : World} {base g cap : Nat} {e : TypeId} {l : List At} (h : w.ownsRow base e 2 (.slice (some ⟨g, 0, none⟩) l.length cap) l.length (cellsOf encAt l)) : HoldsK encAt 2 w g 0 l.toArray := by
  intro j hj
  have hj' : j < l.length * 2 := by simpa using hj
  refine ⟨?_, by rw [Nat.zero_add]; exact h.frozenAt j⟩
  rw [Nat.zero_add, h.cellAt j hj', flat_get l j hj']
  rfl
theorem row_holds {w : World} {g n : Nat} {d : Array At} (h : HoldsK encAt 2 w g 0 d) (hg : g < w.heap.size) (hn : d.size = n) : RowAt w w.heap.size (some ⟨g, 0, none⟩) 2 n (cellsOf encAt d.toList) := by
  refine ⟨by rw [cellsOf_len _ 2 encAt_len]; simp [hn], fun _ => ⟨g, 0, rfl, hg, fun j u hu => ?_⟩⟩
  have hj : j < d.toList.length * 2 := by
    have := (List.getElem?_eq_some_iff.1 hu).1
    rwa [cellsOf_len _ 2 encAt_len] at this
  have h1 := flat_get d.toList j hj
  rw [hu] at h1
  have h2 := (h j (by simpa using hj)).1
  rw [h2]
  exact h1.symm
theorem grown_sorted {w : World} {g n : Nat} {os : Array Obj} (d : Array At) : w.grownBy (grow (putRowK encAt 2 (Sort.ahead w n) g 0 d) os) (some g) := by
  refine ⟨rfl, rfl, rfl, by simp [putRowK], fun k hk hne => ?_⟩
  rw [heap_grow_old _ _ (by simpa [putRowK] using hk)]
  have : g ≠ k := fun e => hne (by rw [e])
  simp [putRowK, putRow, mapBlock, Sort.ahead, Array.getElem?_modify, this]
theorem below_grow (w : World) (os : Array Obj) : Go.RowKit.Below w.heap.size w (grow w os) := ⟨rfl, rfl, rfl, by simp, fun k hk => heap_grow_old _ _ hk⟩
def SortPost (l : List At) (A : Option Addr) (row : Option Nat) (w : World) (e : Ending) (w' : World) : Prop := e = .returned (.tuple #[]) ∧ ∃ l' : List At, l'.Perm l ∧ l'.Pairwise (fun x y => ¬ nm y < nm x) ∧ RowAt w' w'.heap.size A 2 l'.length (cellsOf encAt l') ∧ w.grownBy w' row
set_option maxHeartbeats 2000000 in
theorem SortOwn_any {base : Nat} {A : Option Addr} {c Bs : Nat} {l : List At} {w : World} (hown : w.ownsRow base 34 2 (.slice A l.length c) l.length (cellsOf encAt l)) (hl : l.length ≤ 1000000000) (hs : w.cell? ⟨Bs, 0, none⟩ = some (.slice A l.length c)) (hne : (Value.slice A l.length c).ownBlock ≠ some Bs) :
    Calls Tryz.prog 52 #[.iface 31 (.slice A l.length c), .func (.func 53) #[] #[.pointer (some ⟨Bs, 0, none⟩)]] w (SortPost l A (Value.slice A l.length c).ownBlock w) := by
  by_cases h2 : 2 ≤ l.length
  · obtain ⟨g, cap, hv, hbg, hgl⟩ := hown.form (by omega)
    obtain ⟨rfl, hc⟩ : A = some ⟨g, 0, none⟩ ∧ c = cap := by injection hv; exact ⟨by assumption, by assumption⟩
    have hH := holds_own hown
    have hS := SortFiles g 0 c Bs l.toArray (by simpa using h2) (by simp; omega) w hH hgl (block_lt_of_cell hs) (fun e => hne (by rw [e]; rfl)) (by simpa using hs)
    rw [show l.toArray.size = l.length from List.size_toArray ..] at hS
    refine hS.mono ?_
    rintro e w' ⟨rfl, d', n, os, hP, hSo, rfl⟩
    have hsz : d'.size = l.length := by have := hP.1; simpa using this
    have hperm : d'.toList.Perm l := by
      have := hP.2.2
      rw [show l.length = d'.size from hsz.symm] at this
      rw [Array.extract_size] at this
      have e2 : (l.toArray.extract 0 d'.size).toList = l := by rw [hsz]; simp
      rw [e2] at this
      exact this
    refine ⟨rfl, d'.toList, hperm, ?_, ?_, grown_sorted d'⟩
    · rw [List.pairwise_iff_getElem]
      intro i j hi hj hij
      have := hSo i j (Nat.zero_le _) hij (by simpa [hsz] using hj)
      rw [getElem!_pos _ _ (by simpa using hj), getElem!_pos _ _ (by simpa using hi)] at this
      simpa [ltN] using this
    · have hH2 : HoldsK encAt 2 (grow (putRowK encAt 2 (Sort.ahead w n) g 0 d') os) g 0 d' := holdsK_grow _ _ _ _ _ _ _ (by simpa [putRowK] using hgl) (holdsK_putRowK _ _ _ _ _ _ _ (holdsK_ahead _ _ _ _ _ _ _ hH) (by simp [hsz]))
      exact row_holds hH2 (by simp [putRowK]; omega) (by simp)
  · have hsw : ∃ f, Tryz.prog.funcs.findIdx? (·.name == "internal/reflectlite" ++ ".Swapper$" ++ toString (swapperK l.length fileT 25)) = some f := by
      rcases (by omega : l.length = 0 ∨ l.length = 1) with h | h
      · refine ⟨139, ?_⟩
        rw [h, show swapperK 0 fileT 25 = 1 from rfl]; kernel_rfl
      · refine ⟨140, ?_⟩
        rw [h, show swapperK 1 fileT 25 = 2 from rfl]; kernel_rfl
    obtain ⟨f, hf⟩ := hsw
    refine (Any.sort_Slice_tiny Tryz.laysGg6 31 34 sliceT fileT (by kernel_rfl) (by kernel_rfl) (by kernel_rfl) (by kernel_rfl) 25 (fun _ => by kernel_rfl) A l.length c (by omega) f hf (.func 53) #[] #[.pointer (some ⟨Bs, 0, none⟩)] w).mono ?_
    rintro e w' ⟨rfl, os, rfl⟩
    have hb := below_grow w os
    refine ⟨rfl, l, List.Perm.refl _, ?_, ((RowAt.of_own hown).keep hb).up hb.size, grown_below hb _⟩
    rcases (by omega : l.length = 0 ∨ l.length = 1) with h | h
    · rw [List.length_eq_zero_iff] at h; subst h; exact List.Pairwise.nil
    · obtain ⟨x, rfl⟩ := List.length_eq_one_iff.1 h; simp
end Go.Proofs.YthcgkeiggnfgiaaGreatDoor
namespace Go.Proofs.YthcgkeiggnfgiaaGreatDoor
open Go.RowKit Go.Maps
def flatB (ls : List (List At)) : List At := ls.reverse.flatMap id
theorem find_rev {d : List At} (h : (d.map nm).Nodup) (n : Str) : findF d.reverse n = findF d n := by
  cases hf : findF d n with
  | none =>
    rw [findF_none] at hf ⊢
    simpa using hf
  | some x =>
    obtain ⟨e1, e2⟩ := findF_name hf
    cases hg : findF d.reverse n with
    | none =>
      rw [findF_none] at hg
      exact absurd (by simpa using ⟨x, e2, e1⟩) hg
    | some y =>
      obtain ⟨f1, f2⟩ := findF_name hg
      have f2 : y ∈ d := by simpa using f2
      congr 1
      obtain ⟨i, hi, rfl⟩ := List.getElem_of_mem f2
      obtain ⟨j, hj, rfl⟩ := List.getElem_of_mem e2
      by_cases hij : i = j
      · subst hij; rfl
      · exfalso
        have h3 := List.pairwise_iff_getElem.1 h
        rcases Nat.lt_or_gt_of_ne hij with hl | hl
        · exact h3 i j (by simpa using hi) (by simpa using hj) hl (by simp only [List.getElem_map]; rw [f1, e1])
        · exact h3 j i (by simpa using hj) (by simpa using hi) hl (by simp only [List.getElem_map]; rw [f1, e1])
theorem find_flat {ls : List (List At)} (h : ∀ d ∈ ls, (d.map nm).Nodup) (n : Str) : findF (flatB ls).reverse n = pickF ls n := by
  have e : (flatB ls).reverse = ls.flatMap List.reverse := by
    unfold flatB
    rw [List.reverse_flatMap, List.reverse_reverse]
    rfl
  rw [e]
  clear e
  induction ls with
  | nil => rfl
  | cons d r ih =>
    have h1 := ih (fun x hx => h x (by simp [hx]))
    have h2 := find_rev (h d (by simp)) n
    unfold findF at h1 h2 ⊢
    rw [List.flatMap_cons, List.find?_append, h1]
    unfold pickF
    rw [List.findSome?_cons]
    unfold findF
    rw [h2]
    cases List.find? (fun x => nm x == n) d <;> rfl
theorem bad_nodup {d : List At} (h : badD d = false) : (d.map nm).Nodup := by
  refine Decidable.byContradiction fun hn => ?_
  unfold badD at h
  rw [decide_eq_false hn] at h
  cases h
theorem check_bads {ls : List (List At)} (h : checkF ls = 0) : ∀ d ∈ ls, (d.map nm).Nodup := fun d hd => bad_nodup (by
  cases hb : badD d with
  | false => rfl
  | true =>
    unfold checkF at h
    rw [if_pos (List.any_eq_true.2 ⟨d, hd, hb⟩)] at h
    cases h)
/-- Collected name by name in whatever order, and sorted: the files that count. -/
theorem merge_sorted {ls : List (List At)} {ss : List Str} {l' : List At} (hnd : ss.Nodup) (hss : ∀ x, x ∈ ss ↔ (pickF ls x).isSome = true) (hp : l'.Perm (ss.filterMap (keepF ls))) (hs : l'.Pairwise (fun x y => ¬ nm y < nm x)) : l' = mergeL ls := by
  have hno : (ss.filterMap (keepF ls)).Pairwise (fun x y => nm x ≠ nm y) := hnd.filterMap _ (fun a b hab x hx y hy => by
    rw [(pickF_name (keepF_some.1 hx).1).1, (pickF_name (keepF_some.1 hy).1).1]; exact hab)
  have hno2 : l'.Pairwise (fun x y => nm x ≠ nm y) := hp.symm.pairwise hno (fun {x y} h e => h e.symm)
  refine files_ext ((hs.and hno2).imp fun {x y} h => ?_) (asc_mergeL ls) fun y => ?_
  · refine Decidable.byContradiction fun hn => h.1 (slt_tri hn h.2)
  · rw [hp.mem_iff, List.mem_filterMap, mem_mergeL]
    constructor
    · rintro ⟨n, _, e⟩
      have h1 := keepF_some.1 e
      obtain ⟨rfl, _⟩ := pickF_name h1.1
      exact h1
    · rintro h1
      exact ⟨nm y, (hss _).2 (by rw [h1.1]; rfl), keepF_some.2 h1⟩
end Go.Proofs.YthcgkeiggnfgiaaGreatDoor
